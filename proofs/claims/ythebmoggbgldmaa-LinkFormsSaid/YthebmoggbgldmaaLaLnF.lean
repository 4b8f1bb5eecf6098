/- The law LinkForms, walked. The conditions: the numbers lie in their types' ranges. (Printed by gen_lnf.py.) -/
import Derived.Test.YthebmoggbgldmaaLaLmM
import Derived.Test.YthebmoggbgldmaaLaLmS
import Derived.Test.YthebmoggbgldmaaLaLmT
import Derived.Test.YthebmoggbgldmaaLaLrLx
set_option linter.all false
namespace Go.Proofs.Ythebmoggbgldmaa
open Go Go.RowKit Go.Maps
def ChQ (n T : Nat) (v : Value) (W : World) : Prop :=
 ∃ (ls : List zu) (nm : ByteArray) (ao : Option Addr) (cap : Nat), v = .agg #[.string nm, .slice ao ls.length cap] ∧ ls.length = n ∧ yV ls ∧ (∀ l ∈ ls, l.tab.length ≤ T) ∧ (ao = none → cap = 0) ∧ yJ W (.slice ao ls.length cap) ls
def frmF : List yw := [⟨0, 5⟩, ⟨2, 4660⟩]
def frmD : List ObjS := [⟨-1, 16384, 20⟩, ⟨1, 40, 7⟩]
def frmE (ls : List zu) : zL := ⟨ls, ⟨0, 4096⟩, frmF, frmD⟩
theorem frm_num {ls : List zu} (h : yV ls) : (frmE ls).Num := ⟨h, ⟨by show (0 : Int) ≤ 4096; omega, by show (4096 : Int) < 65536; omega, ⟨by show _ ≤ (0 : Int); omega, by show (0 : Int) ≤ _; omega⟩⟩, by show ∀ p ∈ frmF, 0 ≤ p.addr ∧ p.addr < 65536 ∧ zX p.bank; simp only [zX]; decide +kernel, by show ∀ p ∈ frmD, 0 ≤ p.addr ∧ p.addr < 65536 ∧ zX p.bank ∧ 0 ≤ p.size ∧ p.size < 65536; simp only [zX]; decide +kernel, by show frmF.length < 65536; decide, by show frmD.length < 65536; decide⟩
theorem turn_below {w w' : World} (h : zN (fun _ => False) w w') : Below w.heap.size w w' := h.toBelow (zn _) fun k hk => hk.elim
theorem frm_ans {ls : List zu} (h : yV ls) {s ps : List Int} {er : Int} (ha : AnsE (frmE ls) s ps er) : (er == 1) = !jy ls 2 2 := by
 have hk := right_chunk2 ls h 2 2
 have hR : (frmE ls).Right ↔ jy ls 2 2 = true := by
  rw [hk]
  exact ⟨fun h => h.1, fun h => ⟨h, by show yp ⟨0, 4096⟩ = true; decide +kernel, by show ∀ p ∈ frmF, yp p = true; decide +kernel⟩⟩
 rcases ha with ⟨h1, -, -, rfl⟩ | ⟨h1, -, -, -, rfl⟩ | ⟨h1, -, -, -, rfl⟩
 ·have : jy ls 2 2 = false := by rw [← Bool.not_eq_true, ← hR]; exact h1
  rw [this]; rfl
 ·rw [hR.1 h1]; rfl
 ·rw [hR.1 h1]; rfl
theorem frm_f {w W : World} {g : Nat} (h : W.heap[g]? = some (.cells #[.int .i64 0, .int .u16 5, .int .i64 2, .int .u16 4660] 37 (0, 0))) : jj W (.slice (some ⟨g, 0, none⟩) frmF.length 2) frmF :=
 ⟨_, 2, rfl, zn _, fun _ => ⟨g, 0, _, _, _, rfl, h, fun i p hp => by rcases i with _ | _ | i <;> (first | (simp [frmF] at hp; done) | (simp [frmF] at hp; subst hp; rfl))⟩⟩
theorem frm_d {w W : World} {g : Nat} (h : W.heap[g]? = some (.cells #[.int .i64 (-1), .int .u16 16384, .int .u16 20, .int .i64 1, .int .u16 40, .int .u16 7] 47 (0, 0))) : jK W (.slice (some ⟨g, 0, none⟩) frmD.length 2) frmD :=
 ⟨_, 2, rfl, zn _, fun _ => ⟨g, 0, _, _, _, rfl, h, fun i p hp => by rcases i with _ | _ | i <;> (first | (simp [frmD] at hp; done) | (simp [frmD] at hp; subst hp; rfl))⟩⟩
set_option maxRecDepth 100000 in
set_option maxHeartbeats 4000000 in
theorem linkforms_any (lo : Option Addr) (ll lcap : Nat) (Q : Nat → Nat → Int) (hQ : ∀ i j, zX (Q i j)) (hll : ll < 9223372036854775808) (q0 q1 q2 r0 r1 r2 : Int) (hq0 : zX q0) (hq1 : zX q1) (hq2 : zX q2) (hr0 : zX r0) (hr1 : zX r1) (hr2 : zX r2) (w : World) (hS : SixV w (.slice lo ll lcap) ll Q) :
  Calls Try.prog 4 #[.slice lo ll lcap, .agg #[.int .i64 q0, .int .i64 q1, .int .i64 q2], .agg #[.int .i64 r0, .int .i64 r1, .int .i64 r2]] w fun e w' => e = .returned (.bool true) ∧ Below w.heap.size w w' := by
 have HSN := zh (fun W => sanity_any W)
 have HMD := zh (show ∀ W, Below w.heap.size w W → Calls Try.prog 10 #[.slice lo ll lcap, .int .i64 2, .int .i64 2] W (MdPost (min ll 120) 2 2 W) from fun W hb => made19_any lo ll lcap 2 2 (min ll 120) Q hQ rfl (by omega) (by omega) (by omega) W (hS.below hb))
 have HTN := zh (fun (nm : ByteArray) (ls : List zu) (h1 : yV ls) (h2 : ∀ l ∈ ls, l.tab.length ≤ 9) (ao : Option Addr) (cap : Nat) (h3 : ao = none → cap = 0) (W : World) (hL : yJ W (.slice ao ls.length cap) ls) => turned_any nm ls 9 (by omega) h1 h2 ao cap h3 q0 q1 q2 hq0 hq1 hq2 W hL)
 have HTR := zh (fun (nm : ByteArray) (ls : List zu) (h1 : yV ls) (h2 : ∀ l ∈ ls, l.tab.length ≤ 309) (ao : Option Addr) (cap : Nat) (h3 : ao = none → cap = 0) (W : World) (hL : yJ W (.slice ao ls.length cap) ls) => turned_any nm ls 309 (by omega) h1 h2 ao cap h3 r0 r1 r2 hr0 hr1 hr2 W hL)
 clear hQ hq0 hq1 hq2 hr0 hr1 hr2 hS
 go_enter Try.func4, Try.ntmps4
 go_upto_region 1 with fail
 obtain ⟨h0, h1⟩ := yy w (.cells #[.int .i64 q0, .int .i64 q1, .int .i64 q2] 39) (.cells #[.int .i64 r0, .int .i64 r1, .int .i64 r2] 39)
 have hbw : Below w.heap.size w ((w.alloc (.cells #[.int .i64 q0, .int .i64 q1, .int .i64 q2] 39)).alloc (.cells #[.int .i64 r0, .int .i64 r1, .int .i64 r2] 39)) := ((Below.refl _ _).alloc (zn _) _).alloc (by simp) _
 obtain ⟨wa, hwa⟩ : ∃ W : World, ((w.alloc (.cells #[.int .i64 q0, .int .i64 q1, .int .i64 q2] 39)).alloc (.cells #[.int .i64 r0, .int .i64 r1, .int .i64 r2] 39)) = W := ⟨_, rfl⟩
 rw [hwa] at h0 h1 hbw ⊢
 have H0 := zh h0
 have H1 := zh h1
 have HB := zh hbw
 clear hwa h0 h1 hbw
 go_upto_region 2 with (go_at_call 7; refine (HSN.out _).mono ?_; rintro e w1 ⟨rfl, hb1⟩)
 go_upto_region 4 with fail
 obtain ⟨hf, hd⟩ := yy w1 (.cells #[.int .i64 0, .int .u16 5, .int .i64 2, .int .u16 4660] 37) (.cells #[.int .i64 (-1), .int .u16 16384, .int .u16 20, .int .i64 1, .int .u16 40, .int .u16 7] 47)
 have hbw : Below w1.heap.size w1 ((w1.alloc (.cells #[.int .i64 0, .int .u16 5, .int .i64 2, .int .u16 4660] 37)).alloc (.cells #[.int .i64 (-1), .int .u16 16384, .int .u16 20, .int .i64 1, .int .u16 40, .int .u16 7] 47)) := ((Below.refl _ _).alloc (zn _) _).alloc (by simp) _
 obtain ⟨wb, hwb⟩ : ∃ W : World, ((w1.alloc (.cells #[.int .i64 0, .int .u16 5, .int .i64 2, .int .u16 4660] 37)).alloc (.cells #[.int .i64 (-1), .int .u16 16384, .int .u16 20, .int .i64 1, .int .u16 40, .int .u16 7] 47)) = W := ⟨_, rfl⟩
 rw [hwb] at hf hd hbw ⊢
 obtain ⟨gf, hgf⟩ : ∃ g : Nat, w1.heap.size = g := ⟨_, rfl⟩
 obtain ⟨gd, hgd⟩ : ∃ g : Nat, w1.heap.size + 1 = g := ⟨_, rfl⟩
 rw [hgd] at hd
 try rw [hgd]
 rw [hgf] at hf
 try rw [hgf]
 have HF := zh hf
 have HD := zh hd
 have HB1 := zh (hb1.trans (hbw.mono hb1.size))
 have HBB := zh (HB.out.trans (HB1.out.mono HB.out.size))
 have H0B := zh (zf HB1.out H0.out)
 have H1B := zh (zf HB1.out H1.out)
 clear hf hd hbw hb1 hwb hgf hgd H0 H1 HB HB1
 refine ye [] 5 (z5 [isV (.slice lo ll lcap), isVT ((fun _ => False)) (ChQ (min ll 120) 9), isV (.agg #[.int .i64 q0, .int .i64 q1, .int .i64 q2]), isVT ((fun _ => False)) (ChQ (min ll 120) 309), isVT ((fun _ => False)) (NwQ wb.heap.size (.cells #[.string ⟨#[]⟩, .slice none 0 0] 32 (0, 0)))]) (nth [[0], [1], [2], [3], [4]]) (nth [[], [], [], [], []]) (nth [[], [0], [], [1, 2], []]) [3, 4] (fun w5 => Below wb.heap.size wb w5 ∧ True ∧ wb.heap.size ≤ w5.heap.size ∧ True) (by kernel_rfl) (by kernel_rfl) (⟨(Below.refl _ _).drew, trivial, zn _, trivial⟩) (fun w w' h hb => ⟨h.1.trans (hb.mono h.1.size), trivial, Nat.le_trans h.2.2.1 hb.size, trivial⟩) (zG ((za (zc _)  (za (yu _ _)  (za (zc _)  (za (yu _ _)  (za (yu _ _) zy))))))) (fun f F hF => ?_)
 simp only [List.take_succ_cons, List.take_zero, yb, Act.put, zD, zE, zF, Nat.reduceAdd] at hF
 subst hF
 refine ⟨ze ?_ (ze ?_ (ze ?_ (ze ?_ (ze ?_ (yf))))), ?_⟩
 ·intro w5 hS hF hD K hK
  rw [if_pos (by rfl)]
  exact svV hK rfl rfl rfl rfl (by first | rfl | kernel_rfl)  (by show _ = _; kernel_rfl)
 ·intro w5 hS hF hD K hK
  obtain ⟨(e0 : f 0 = _), -⟩ := hF
  try simp only [e0]
  rw [if_pos (by rfl)]
  go_simp; go_at_call 10; refine (HMD.out _ (HBB.out.trans (hS.1.mono HBB.out.size))).mono ?_; rintro e w9 ⟨ls9, nm9, ao9, cap9, rfl, hl8, hm9, hc9, hv9, hb9⟩; have hl9 := zh hl8; clear hl8; go_simp
  exact hK.out _ _ rfl (yv rfl rfl rfl rfl (hb9.size) (⟨hS.1.trans (hb9.mono hS.1.size), trivial, Nat.le_trans hS.2.2.1 hb9.size, trivial⟩) (zk (yc (by rfl) (zk (zU (zN.ofBelow hb9) (zU (zN.ofBelow hb9) ym))))) (⟨ls9, nm9, ao9, cap9, rfl, hl9.out, made_lines (by rw [hl9.out]; exact hm9) (by rw [hl9.out]; omega), (fun l hl => by obtain ⟨j, hj, rfl⟩ := List.mem_iff_getElem.1 hl; exact (hm9 j _ (List.getElem?_eq_getElem hj)).tl), hc9, hv9⟩))
 ·intro w5 hS hF hD K hK
  rw [if_pos (by rfl)]
  exact svR hK rfl rfl rfl rfl (by first | rfl | kernel_rfl)  rfl rfl (zf hS.1 H0B.out) (by kernel_rfl)
 ·intro w5 hS hF hD K hK
  obtain ⟨e1, (e2 : f 2 = _), -⟩ := hF
  obtain ⟨y1, p1, t1⟩ := e1
  try simp only [e2]
  rw [if_pos (by rfl)]
  obtain ⟨ls1, nm1, ao1, cap1, hv1, hls0, hok1, htb1, hc1, hL1⟩ := p1; have hls1 := zh hls0; clear hls0; simp only [hv1]; show Oper.wp _ _ _ _ _ _; go_simp; go_at_call 12; refine (HTN.out nm1 ls1 hok1 htb1 ao1 cap1 hc1 _ (hL1.below (turn_below t1))).mono ?_; rintro e w9 ⟨ls9, nm9, ao9, cap9, rfl, hl8, ho9, ht9, hc9, hv9, hb9⟩; have hl9 := zh hl8; clear hl8; go_simp
  exact hK.out _ _ rfl (yv rfl rfl rfl rfl (hb9.size) (⟨hS.1.trans (hb9.mono hS.1.size), trivial, Nat.le_trans hS.2.2.1 hb9.size, trivial⟩) (zk (zU (zN.ofBelow hb9) (zk (yc (by rfl) (zU (zN.ofBelow hb9) ym))))) (⟨ls9, nm9, ao9, cap9, rfl, hl9.out.trans hls1.out, ho9, ht9, hc9, hv9⟩))
 ·intro w5 hS hF hD K hK
  rw [if_pos (by rfl)]
  go_simp; have hb9 := (Below.refl w5.heap.size w5).alloc (zn _) (.cells #[.string ⟨#[]⟩, .slice none 0 0] 32)
  exact hK.out _ _ rfl (yv rfl rfl rfl rfl (hb9.size) (⟨hS.1.trans (hb9.mono hS.1.size), trivial, Nat.le_trans hS.2.2.1 hb9.size, trivial⟩) (zk (zU (zN.ofBelow hb9) (zk (zU (zN.ofBelow hb9) (yc (by rfl) ym))))) (⟨_, rfl, hS.2.2.1, heap_alloc_new _ _⟩))
 intro w5 hS hF
 obtain ⟨e3, e4, -⟩ := hF
 obtain ⟨y3, p3, t3⟩ := e3
 obtain ⟨y4, p4, t4⟩ := e4
 simp only [List.drop_succ_cons, List.drop_zero]
 obtain ⟨ls1, nm1, ao1, cap1, hv1, -, hok1, htb1, hc1, hL1⟩ := p3
 obtain ⟨g4, hv4, hB4, hg4⟩ := p4
 simp only [hv1, hv4]
 have hL2 := hL1.below (turn_below t3)
 have hg5 := t4.heap hg4 (fun h => h)
 go_upto_region 5 with (refine wpList_store_row rfl _ _ _ rfl _ _ rfl rfl _ _ (hg5) ?_ ?_ ?_ ?_; kernel_rfl; rfl; kernel_rfl)
 have HL1 := zh (hL2.setRow hg5 #[.string nm1, .slice ao1 ls1.length cap1])
 have HC1 := zh (setRow_heap w5 g4 _ #[.string nm1, .slice ao1 ls1.length cap1] _ _ hg5)
 have hB5 := below_setRow hS.1 hB4 #[.string nm1, .slice ao1 ls1.length cap1]
 obtain ⟨wc, hwc⟩ : ∃ W : World, w5.setRow g4 #[.string nm1, .slice ao1 ls1.length cap1] = W := ⟨_, rfl⟩
 rw [hwc] at HL1 HC1 hB5 ⊢
 have HB5 := zh (HBB.out.trans (hB5.mono HBB.out.size))
 have H1C := zh (zf hB5 H1B.out)
 have HFC := zh (zf hB5 HF.out)
 have HDC := zh (zf hB5 HD.out)
 clear hwc hL2 hL1 hg5 hg4 hS t3 t4 hv1 hv4 hB4 hB5 HF HD H0B H1B HBB
 try simp only [Act.put]
 go_upto_region 6 with (first | (refine zs _ _ rfl _ rfl _ _ _ (HC1.out) ?_ ?_ ?_; kernel_rfl; kernel_rfl) | (refine zs _ _ rfl _ rfl _ _ _ (H1C.out) ?_ ?_ ?_; kernel_rfl; kernel_rfl) | (go_at_call 12; refine (HTR.out nm1 ls1 hok1 htb1 ao1 cap1 hc1 _ HL1.out).mono ?_; rintro e w6 ⟨ls2, nm2, ao2, cap2, rfl, -, ho2, ht2, hc2, hv2, hb6⟩) | (refine wpList_store_row rfl _ _ _ rfl _ _ rfl rfl _ _ (heap_alloc_new _ _) ?_ ?_ ?_ ?_; kernel_rfl; rfl; kernel_rfl; rw [World.setRow_alloc_new]))
 have hC2 := heap_alloc_new w6 (.cells #[.string nm2, .slice ao2 ls2.length cap2] 32)
 have hb7 := hb6.trans (((Below.refl w6.heap.size w6).alloc (zn _) (.cells #[.string nm2, .slice ao2 ls2.length cap2] 32)).mono hb6.size)
 have hL2 := hv2.below ((Below.refl w6.heap.size w6).alloc (zn _) (.cells #[.string nm2, .slice ao2 ls2.length cap2] 32))
 obtain ⟨wd, hwd⟩ : ∃ W : World, w6.alloc (.cells #[.string nm2, .slice ao2 ls2.length cap2] 32) = W := ⟨_, rfl⟩
 rw [hwd] at hC2 hb7 hL2 ⊢
 obtain ⟨g5, hg5⟩ : ∃ g : Nat, w6.heap.size = g := ⟨_, rfl⟩
 rw [hg5] at hC2
 try rw [hg5]
 have HC2 := zh hC2
 have HC1D := zh (zf hb7 HC1.out)
 have HBD := zh (HB5.out.trans (hb7.mono HB5.out.size))
 have HA1 := zh (show ∀ W, Below wd.heap.size wd W → Calls Try.prog 13 #[.agg #[.string nm1, .slice ao1 ls1.length cap1], .agg #[.int .i64 0, .int .u16 4096], .slice (some ⟨gf, 0, none⟩) 2 2, .slice (some ⟨gd, 0, none⟩) 2 2] W (AsPost (frmE ls1) W) from fun W hb => xv (frmE ls1) (frm_num hok1) nm1 ao1 (some ⟨gf, 0, none⟩) (some ⟨gd, 0, none⟩) cap1 2 2 W ((HL1.out.below hb7).below hb) (frm_f (w := wd) (zf hb (zf hb7 HFC.out))) (frm_d (w := wd) (zf hb (zf hb7 HDC.out))))
 have HA2 := zh (show ∀ W, Below wd.heap.size wd W → Calls Try.prog 13 #[.agg #[.string nm2, .slice ao2 ls2.length cap2], .agg #[.int .i64 0, .int .u16 4096], .slice (some ⟨gf, 0, none⟩) 2 2, .slice (some ⟨gd, 0, none⟩) 2 2] W (AsPost (frmE ls2) W) from fun W hb => xv (frmE ls2) (frm_num ho2) nm2 ao2 (some ⟨gf, 0, none⟩) (some ⟨gd, 0, none⟩) cap2 2 2 W (hL2.below hb) (frm_f (w := wd) (zf hb (zf hb7 HFC.out))) (frm_d (w := wd) (zf hb (zf hb7 HDC.out))))
 have HR1 := zh (show ∀ W, Below wd.heap.size wd W → Calls Try.prog 16 #[.agg #[.string nm1, .slice ao1 ls1.length cap1], .int .i64 2, .int .i64 2] W fun e w' => e = .returned (.bool (jy ls1 2 2)) ∧ Below W.heap.size W w' from fun W hb => rright_any nm1 ls1 hok1 ao1 cap1 2 2 (by omega) (by omega) W ((HL1.out.below hb7).below hb))
 have HR2 := zh (show ∀ W, Below wd.heap.size wd W → Calls Try.prog 16 #[.agg #[.string nm2, .slice ao2 ls2.length cap2], .int .i64 2, .int .i64 2] W fun e w' => e = .returned (.bool (jy ls2 2 2)) ∧ Below W.heap.size W w' from fun W hb => rright_any nm2 ls2 ho2 ao2 cap2 2 2 (by omega) (by omega) W (hL2.below hb))
 have HO1 := zh hok1
 have HO2 := zh ho2
 clear hwd hg5 hC2 hb7 hL2 HL1 HC1 HB5 H1C HFC HDC hv2 hb6 htb1 ht2 hc1 hc2 HTR HTN HMD HSN hok1 ho2
 try simp only [Act.put]
 go_upto_region 7 with (first | (refine zs _ _ rfl _ rfl _ _ _ (HC1D.out) ?_ ?_ ?_; kernel_rfl; kernel_rfl) | (go_at_call 13; refine (HA1.out _ (Below.refl _ _)).mono ?_; rintro e w7 ⟨s1, pv1, ps1, er1, rfl, -, hb7, ha1⟩))
 have HX1 := zh (frm_ans HO1.out ha1)
 have HB7 := zh hb7
 have HC27 := zh (zf hb7 HC2.out)
 clear ha1 hb7 HA1
 go_upto_region 8 with (first | (refine zs _ _ rfl _ rfl _ _ _ (HC27.out) ?_ ?_ ?_; kernel_rfl; kernel_rfl) | (go_at_call 13; refine (HA2.out _ HB7.out).mono ?_; rintro e w8 ⟨s2, pv2, ps2, er2, rfl, -, hb8, ha2⟩))
 have HX2 := zh (frm_ans HO2.out ha2)
 have HB8 := zh (HB7.out.trans (hb8.mono HB7.out.size))
 have HC18 := zh (zf HB8.out HC1D.out)
 clear ha2 hb8 HA2 HC27
 go_upto_region 9 with (first | (refine zs _ _ rfl _ rfl _ _ _ (HC18.out) ?_ ?_ ?_; kernel_rfl; kernel_rfl) | (go_at_call 16; refine (HR1.out _ HB8.out).mono ?_; rintro e w9 ⟨rfl, hb9⟩))
 have HB9 := zh (HB8.out.trans (hb9.mono HB8.out.size))
 have HC29 := zh (zf HB9.out HC2.out)
 clear hb9 HC18 HR1
 go_upto_region 10 with (first | (refine zs _ _ rfl _ rfl _ _ _ (HC29.out) ?_ ?_ ?_; kernel_rfl; kernel_rfl) | (go_at_call 16; refine (HR2.out _ HB9.out).mono ?_; rintro e w10 ⟨rfl, hb10⟩))
 have HB10 := zh (HBD.out.trans ((HB9.out.trans (hb10.mono HB9.out.size)).mono HBD.out.size))
 have f1 := HX1.out
 have f2 := HX2.out
 obtain ⟨R1, hR1⟩ : ∃ b : Bool, jy ls1 2 2 = b := ⟨_, rfl⟩
 obtain ⟨R2, hR2⟩ : ∃ b : Bool, jy ls2 2 2 = b := ⟨_, rfl⟩
 rw [hR1] at f1
 try rw [hR1]
 rw [hR2] at f2
 try rw [hR2]
 clear hR1 hR2 hb10 HX1 HX2 HR2 HB9 HB8 HB7 HC29 HO1 HO2 HBD HC1D HC2
 cases R1 <;> cases R2
 all_goals
  simp only [Bool.not_true, Bool.not_false] at f1 f2
  go_wp2_with fail
  go_ret
  exact ⟨rfl, HB10.out⟩
end Go.Proofs.Ythebmoggbgldmaa
