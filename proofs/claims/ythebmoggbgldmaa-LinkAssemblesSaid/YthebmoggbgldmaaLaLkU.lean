/- Package link: the closure of a call. The conditions: the blocks that it reads. -/
import Derived.Test.YthebmoggbgldmaaLaLkT
set_option linter.all false
namespace Go.Proofs.Ythebmoggbgldmaa
open Go Go.RowKit Go.Maps
theorem cl_imm (f A o : Int) : IntKind.u16.wrap (IntKind.u16.wrap (f - A) - IntKind.u16.wrap o) = (f - A - o) % 65536 := by
 show ((f - A) % 65536 - o % 65536) % 65536 = (f - A - o) % 65536
 omega
noncomputable def clV (E : zL) (k : Nat) (op : Int) (p : yw) : Array Value :=
 if op ≠ 131 ∧ nearS E.pl p = true then #[.int .i64 130, .int .i64 0, .int .i64 0, .int .u16 ((p.addr - E.pl.addr - E.off (k + 1)) % 65536), .int .u16 0, .int .i64 0, .int .i64 0]
 else if op = 131 then #[.int .i64 131, .int .i64 0, .int .i64 0, .int .u16 p.addr, .int .u16 0, .int .i64 p.bank, .int .i64 (zH 131)] else #[.int .i64 132, .int .i64 0, .int .i64 0, .int .u16 p.addr, .int .u16 0, .int .i64 p.bank, .int .i64 (zH 132)]
set_option maxRecDepth 100000 in
set_option maxHeartbeats 2000000 in
theorem call_raw (w0 : World) (E : zL) (hE : E.Ok) (N b4 b5 b6 b7 b10 b11 m go k : Nat) (nm : ByteArray) (lv dv : Value) (fa : Option Addr) (fcap : Nat) (la op d s imm aux bank size dest obj : Int) (kf : Nat) (ta : Option Addr) (tn tcp : Nat) (p : yw) (hkl : k < E.ls.length) (hp : E.funcs[kf]? = some p) (w : World) (hR : CdR w0 E N b4 b5 b6 b7 b10 b11 m go nm lv (.slice fa E.funcs.length fcap) dv w) :
  Calls Try.prog 57 #[.int .i64 k, .agg #[.int .i64 la, .int .i64 op, .int .i64 d, .int .i64 s, .int .u16 imm, .int .u16 aux, .int .i64 bank, .int .i64 size, .int .i64 dest, .int .i64 kf, .int .i64 obj, .slice ta tn tcp], .pointer (some ⟨b6, 0, none⟩), .pointer (some ⟨b5, 0, none⟩), .pointer (some ⟨b10, 0, none⟩)] w fun e w' => e = .returned (.agg (clV E k op p)) ∧ Below w.heap.size w w' := by
 have hlen := hE.len
 have hnf := hE.nf
 have hkf : kf < E.funcs.length := (List.getElem?_eq_some_iff.1 hp).1
 have o2 := hE.off (k := k + 1) hkl
 have HO2 := zh (hE.cellO (k := k + 1) hkl)
 have HW1 := zh (show IntKind.i64.wrap ((k : Int) + 1) = (k : Int) + 1 from IntWalk.i64_in _ (by omega))
 have HIM := zh (cl_imm p.addr E.pl.addr (E.off (k + 1)))
 have hk2 : (k : Int) + 1 < (E.ls.length : Int) + 1 := by omega
 have HR := zh hR
 have HNR := zh (show ∀ W, Calls Try.prog 51 #[.agg #[.int .i64 E.pl.bank, .int .u16 E.pl.addr], .agg #[.int .i64 p.bank, .int .u16 p.addr]] W fun e w' => e = .returned (.bool (nearS E.pl p)) ∧ Below W.heap.size W w' from fun W => near_any E.pl p W)
 have HFR := zh (show ∀ W, Calls Try.prog 58 #[.int .i64 131, .agg #[.int .i64 p.bank, .int .u16 p.addr]] W fun e w' => e = .returned (.agg #[.int .i64 131, .int .i64 0, .int .i64 0, .int .u16 p.addr, .int .u16 0, .int .i64 p.bank, .int .i64 (zH 131)]) ∧ Below W.heap.size W w' from fun W => far_any 131 (by omega) (by omega) p W)
 have HFC := zh (show ∀ W, Calls Try.prog 58 #[.int .i64 132, .agg #[.int .i64 p.bank, .int .u16 p.addr]] W fun e w' => e = .returned (.agg #[.int .i64 132, .int .i64 0, .int .i64 0, .int .u16 p.addr, .int .u16 0, .int .i64 p.bank, .int .i64 (zH 132)]) ∧ Below W.heap.size W w' from fun W => far_any 132 (by omega) (by omega) p W)
 obtain ⟨q, off, c, T', fr', rfl, hq, hx⟩ := (hR.hf.below hR.bb).at hp
 have HQ := zh hq
 have HX := zh hx
 clear hq hx hp o2 hR hE
 go_enter Try.func57, Try.ntmps57
 go_upto_region 1 with fail
 obtain ⟨h2, h3⟩ := yy w (.cells #[.int .i64 la, .int .i64 op, .int .i64 d, .int .i64 s, .int .u16 imm, .int .u16 aux, .int .i64 bank, .int .i64 size, .int .i64 dest, .int .i64 kf, .int .i64 obj, .slice ta tn tcp] 58) (.cells #[.int .i64 0, .int .i64 0, .int .i64 0, .int .u16 0, .int .u16 0, .int .i64 0, .int .i64 0] 53)
 have hB : Below w.heap.size w ((w.alloc (.cells #[.int .i64 la, .int .i64 op, .int .i64 d, .int .i64 s, .int .u16 imm, .int .u16 aux, .int .i64 bank, .int .i64 size, .int .i64 dest, .int .i64 kf, .int .i64 obj, .slice ta tn tcp] 58)).alloc (.cells #[.int .i64 0, .int .i64 0, .int .i64 0, .int .u16 0, .int .u16 0, .int .i64 0, .int .i64 0] 53)) := ((Below.refl _ _).alloc (zn _) _).alloc (by simp) _
 have hR2 := HR.out.stay (hB.mono HR.out.lt.2.2.2.2.2.2.2.2)
 have hq2 := zf hB HQ.out
 obtain ⟨wr, hwr⟩ : ∃ wr : World, (w.alloc (.cells #[.int .i64 la, .int .i64 op, .int .i64 d, .int .i64 s, .int .u16 imm, .int .u16 aux, .int .i64 bank, .int .i64 size, .int .i64 dest, .int .i64 kf, .int .i64 obj, .slice ta tn tcp] 58)).alloc (.cells #[.int .i64 0, .int .i64 0, .int .i64 0, .int .u16 0, .int .u16 0, .int .i64 0, .int .i64 0] 53) = wr := ⟨_, rfl⟩
 have hz : w.heap.size + 2 = wr.heap.size := by rw [← hwr]; simp
 rw [hwr] at h2 h3 hB hR2 hq2 ⊢
 clear hwr
 have HQ2 := zh hq2
 have c9 := cell_of_row wr w.heap.size 9 _ _ _ h2
 have c6 := cell_of_row wr b6 0 _ _ _ hR2.h6
 have HNw := zh (show N ≤ w.heap.size from HR.out.lt.2.2.2.2.2.2.2.2)
 have hb3 : Below w.heap.size w (wr.alloc (.cells #[.int .i64 p.bank, .int .u16 p.addr] 37)) := hB.alloc hB.size _
 have h4' := heap_alloc_new wr (.cells #[.int .i64 p.bank, .int .u16 p.addr] 37)
 have h2' := (heap_alloc_old wr (.cells #[.int .i64 p.bank, .int .u16 p.addr] 37) (by omega)).trans h2
 have h3' := (heap_alloc_old wr (.cells #[.int .i64 p.bank, .int .u16 p.addr] 37) (by omega)).trans h3
 have H2 := zh h2'
 have H3 := zh h3'
 have H4 := zh h4'
 have HB3 := zh hb3
 have HZ := zh hz
 clear hb3 h4' h2' h3' h2 h3 hq2 hB hR2 hz
 go_upto_region 2 with (first | (refine wpList_store_row rfl _ _ _ rfl _ _ rfl rfl _ _ (heap_alloc_new _ _) ?_ ?_ ?_ ?_; kernel_rfl; rfl; kernel_rfl; rw [World.setRow_alloc_new]) | (refine z9 _ _ rfl _ _ rfl _ _ _ (HQ2.out) ([.int .i64 p.bank, .int .u16 p.addr]) (HX.out) ?_ ?_ ?_; kernel_rfl; kernel_rfl))
 obtain ⟨g, hg⟩ : ∃ g : Nat, wr.heap.size = g := ⟨_, rfl⟩
 obtain ⟨W, hW⟩ : ∃ W : World, wr.alloc (.cells #[.int .i64 p.bank, .int .u16 p.addr] 37) = W := ⟨_, rfl⟩
 rw [hW] at H2 H3 H4 HB3 ⊢
 rw [hg] at H4 HZ ⊢
 have hR3 := HR.out.stay (HB3.out.mono HNw.out)
 have HR3 := zh hR3
 clear hg hW c9 c6 HQ2 hR3
 have c1 := cell_of_row W w.heap.size 1 _ _ _ H2.out
 have cp : ∀ o : Nat, W.cell? ⟨g, o, none⟩ = (#[Value.int .i64 p.bank, .int .u16 p.addr] : Array Value)[o]? := fun o => cell_of_row W g o _ _ _ H4.out
 have ca : ∀ o : Nat, W.cell? ⟨b5, o, none⟩ = (#[Value.int .i64 E.pl.bank, .int .u16 E.pl.addr] : Array Value)[o]? := fun o => cell_of_row W b5 o _ _ _ HR3.out.h5
 by_cases h131 : op = 131
 ·subst h131
  have HV := zh (show clV E k 131 p = #[.int .i64 131, .int .i64 0, .int .i64 0, .int .u16 p.addr, .int .u16 0, .int .i64 p.bank, .int .i64 (zH 131)] by unfold clV; rw [if_neg (fun h => h.1 rfl), if_pos rfl])
  go_upto_region 5 with fail
  go_wp2_with (first | (refine zs _ _ rfl _ rfl _ _ _ (H4.out) ?_ ?_ ?_; kernel_rfl; kernel_rfl) | (go_at_call 58; refine (HFR.out _).mono ?_; rintro e w3 ⟨rfl, hb9⟩; have H9 := zh (zf hb9 H3.out); have HB9 := zh (HB3.out.trans (hb9.mono HB3.out.size)); clear hb9) | (refine wpList_store_row rfl _ _ _ rfl _ _ rfl rfl _ _ (H9.out) ?_ ?_ ?_ ?_; kernel_rfl; rfl; kernel_rfl))
  exact bodyPost_ret (results_cell_row (cs := #[.int .i64 131, .int .i64 0, .int .i64 0, .int .u16 p.addr, .int .u16 0, .int .i64 p.bank, .int .i64 (zH 131)]) (fr := (0, 0)) rfl _ _ (w.heap.size + 1) 53 _ rfl (setRow_heap _ _ _ _ _ _ H9.out) (Try.underlying53) rfl (by kernel_rfl)) rfl ⟨by rw [HV.out], below_setRow HB9.out (by omega) _⟩
 ·have h131a : (op == 131) = false := by simp [h131]
  have h131b : (op != 131) = true := by simp [h131]
  cases hn : nearS E.pl p with
  | false =>
   have HV := zh (show clV E k op p = #[.int .i64 132, .int .i64 0, .int .i64 0, .int .u16 p.addr, .int .u16 0, .int .i64 p.bank, .int .i64 (zH 132)] by unfold clV; rw [if_neg (fun h => by rw [hn] at h; exact absurd h.2 (by decide)), if_neg h131])
   rw [hn] at HNR
   clear hn
   go_upto_region 4 with (go_at_call 51; refine (HNR.out _).mono ?_; rintro e w5 ⟨rfl, hb5⟩; have H35 := zh (zf hb5 H3.out); have H45 := zh (zf hb5 H4.out); have HB5 := zh (HB3.out.trans (hb5.mono HB3.out.size)); have c15 := cell_of_row w5 w.heap.size 1 _ _ _ (zf hb5 H2.out); clear hb5)
   go_upto_region 6 with fail
   go_wp2_with (first | (refine zs _ _ rfl _ rfl _ _ _ (H45.out) ?_ ?_ ?_; kernel_rfl; kernel_rfl) | (go_at_call 58; refine (HFC.out _).mono ?_; rintro e w3 ⟨rfl, hb9⟩; have H9 := zh (zf hb9 H35.out); have HB9 := zh (HB5.out.trans (hb9.mono HB5.out.size)); clear hb9) | (refine wpList_store_row rfl _ _ _ rfl _ _ rfl rfl _ _ (H9.out) ?_ ?_ ?_ ?_; kernel_rfl; rfl; kernel_rfl))
   exact bodyPost_ret (results_cell_row (cs := #[.int .i64 132, .int .i64 0, .int .i64 0, .int .u16 p.addr, .int .u16 0, .int .i64 p.bank, .int .i64 (zH 132)]) (fr := (0, 0)) rfl _ _ (w.heap.size + 1) 53 _ rfl (setRow_heap _ _ _ _ _ _ H9.out) (Try.underlying53) rfl (by kernel_rfl)) rfl ⟨by rw [HV.out], below_setRow HB9.out (by omega) _⟩
  | true =>
   have HV := zh (show clV E k op p = #[.int .i64 130, .int .i64 0, .int .i64 0, .int .u16 ((p.addr - E.pl.addr - E.off (k + 1)) % 65536), .int .u16 0, .int .i64 0, .int .i64 0] by unfold clV; rw [if_pos ⟨h131, hn⟩])
   rw [hn] at HNR
   clear hn
   go_upto_region 3 with (go_at_call 51; refine (HNR.out _).mono ?_; rintro e w5 ⟨rfl, hb5⟩; have H35 := zh (zf hb5 H3.out); have H45 := zh (zf hb5 H4.out); have HB5 := zh (HB3.out.trans (hb5.mono HB3.out.size)); clear hb5)
   have HR5 := zh (HR.out.stay (HB5.out.mono HNw.out))
   have zz1 : w.heap.size + 1 < w5.heap.size := (Array.getElem?_eq_some_iff.1 H35.out).1
   have zz2 : g < w5.heap.size := (Array.getElem?_eq_some_iff.1 H45.out).1
   have zz5 : b5 < w5.heap.size := (Array.getElem?_eq_some_iff.1 HR5.out.h5).1
   have zz10 : b10 < w5.heap.size := (Array.getElem?_eq_some_iff.1 HR5.out.h10).1
   have zzg : go < w5.heap.size := (Array.getElem?_eq_some_iff.1 HR5.out.hgo).1
   clear cp ca c1 HB3 HR3 H2 H3 H4
   refine zV [] 13 (z5 [isV (.pointer (some ⟨g, 1, none⟩)), isV (.int .u16 p.addr), isV (.pointer (some ⟨b5, 1, none⟩)), isV (.int .u16 E.pl.addr), isV (.int .u16 (IntKind.u16.wrap (p.addr - E.pl.addr))), isV (.slice (some ⟨go, 0, none⟩) (E.ls.length + 1) (E.ls.length + 1)), isV (.int .i64 k), isV (.int .i64 (k + 1)), isV ((.pointer (some ⟨go, k + 1, none⟩))), isV ((.int .i64 (E.off (k + 1)))), isV (.int .u16 (IntKind.u16.wrap (E.off (k + 1)))), isV (.int .u16 ((p.addr - E.pl.addr - E.off (k + 1)) % 65536)), isV (.agg #[.int .i64 130, .int .i64 0, .int .i64 0, .int .u16 ((p.addr - E.pl.addr - E.off (k + 1)) % 65536), .int .u16 0, .int .i64 0, .int .i64 0])]) (nth [[0], [1], [2], [3], [4], [5], [6], [7], [8], [9], [10], [11], [12]]) (nth [[], [], [], [], [], [], [], [], [], [], [], [], []]) (nth [[], [0], [], [2], [1, 3], [], [], [6], [5, 7], [8], [9], [4, 10], [11]]) [12] (yU w.heap.size w w5.heap.size [(g, .cells #[.int .i64 p.bank, .int .u16 p.addr] 37 (0, 0)), (w.heap.size + 1, .cells #[.int .i64 0, .int .i64 0, .int .i64 0, .int .u16 0, .int .u16 0, .int .i64 0, .int .i64 0] 53 (0, 0)), (b10, .cells #[.slice (some ⟨go, 0, none⟩) (E.ls.length + 1) (E.ls.length + 1)] 40 (0, 0)), (go, .cells (viA (xi E.sz)) 3 (0, 0)), (b5, .cells #[.int .i64 E.pl.bank, .int .u16 E.pl.addr] 37 (0, 0))]) (by kernel_rfl) (by kernel_rfl) (⟨HB5.out.drew, HB5.out.size, zn _, by intro x hx; simp at hx; rcases hx with rfl | rfl | rfl | rfl | rfl <;> assumption, H45.out, H35.out, HR5.out.h10, HR5.out.hgo, HR5.out.h5, trivial⟩) (yU.grow) (zG ((za (zc _)  (za (zc _)  (za (zc _)  (za (zc _)  (za (zc _)  (za (zc _)  (za (zc _)  (za (zc _)  (za (zc _)  (za (zc _)  (za (zc _)  (za (zc _)  (za (zc _) zy))))))))))))))) (fun f F hF => ?_)
   simp only [List.take_succ_cons, List.take_zero, yb, Act.put, zD, zE, zF, Nat.reduceAdd] at hF
   subst hF
   refine ⟨zd ?_ (zd ?_ (zd ?_ (zd ?_ (zd ?_ (zd ?_ (zd ?_ (zd ?_ (zd ?_ (zd ?_ (zd ?_ (zd ?_ (zd ?_ (yd))))))))))))), ?_⟩
   ·intro w6 hS hF hD K hK
    exact stV hK rfl rfl rfl rfl (by first | rfl | kernel_rfl) rfl (by show _ = _; kernel_rfl)
   ·intro w6 hS hF hD K hK
    obtain ⟨(e0 : f 0 = _), -⟩ := hF
    try simp only [e0]
    exact stC hK rfl rfl rfl rfl (by first | rfl | kernel_rfl) rfl rfl rfl (hS.2.2.2.2.1) (by kernel_rfl) (fun _ => by kernel_rfl)
   ·intro w6 hS hF hD K hK
    exact stV hK rfl rfl rfl rfl (by first | rfl | kernel_rfl) rfl (by show _ = _; kernel_rfl)
   ·intro w6 hS hF hD K hK
    obtain ⟨(e2 : f 2 = _), -⟩ := hF
    try simp only [e2]
    exact stC hK rfl rfl rfl rfl (by first | rfl | kernel_rfl) rfl rfl rfl (hS.2.2.2.2.2.2.2.2.1) (by kernel_rfl) (fun _ => by kernel_rfl)
   ·intro w6 hS hF hD K hK
    obtain ⟨(e1 : f 1 = _), (e3 : f 3 = _), -⟩ := hF
    try simp only [e1, e3]
    exact stV hK rfl rfl rfl rfl (by first | rfl | kernel_rfl) rfl (by show _ = _; kernel_rfl)
   ·intro w6 hS hF hD K hK
    exact stC hK rfl rfl rfl rfl (by first | rfl | kernel_rfl) rfl rfl rfl (hS.2.2.2.2.2.2.1) (by kernel_rfl) (fun _ => by kernel_rfl)
   ·intro w6 hS hF hD K hK
    exact stV hK rfl rfl rfl rfl (by first | rfl | kernel_rfl) rfl (by show _ = _; kernel_rfl)
   ·intro w6 hS hF hD K hK
    obtain ⟨(e6 : f 6 = _), -⟩ := hF
    try simp only [e6]
    rw [if_pos (by rfl)]
    exact zx (v := .int .i64 (IntKind.i64.wrap ((k : Int) + 1))) (by (show _ = _); kernel_rfl) (hK.out _ _ rfl (zq rfl rfl rfl (congrArg (Value.int .i64) HW1.out)))
   ·intro w6 hS hF hD K hK
    obtain ⟨(e5 : f 5 = _), (e7 : f 7 = _), -⟩ := hF
    try simp only [e5, e7]
    rw [if_pos (by rfl)]
    go_simp
    refine hK.out _ _ rfl (zq rfl rfl rfl ?_)
    first | rfl | kernel_rfl
   ·intro w6 hS hF hD K hK
    obtain ⟨(e8 : f 8 = _), -⟩ := hF
    try simp only [e8]
    exact stC hK rfl rfl rfl rfl (by first | rfl | kernel_rfl) rfl rfl rfl (hS.2.2.2.2.2.2.2.1) (HO2.out) (fun _ => by kernel_rfl)
   ·intro w6 hS hF hD K hK
    obtain ⟨(e9 : f 9 = _), -⟩ := hF
    try simp only [e9]
    exact stV hK rfl rfl rfl rfl (by first | rfl | kernel_rfl) rfl (by show _ = _; kernel_rfl)
   ·intro w6 hS hF hD K hK
    obtain ⟨(e4 : f 4 = _), (e10 : f 10 = _), -⟩ := hF
    try simp only [e4, e10]
    rw [if_pos (by rfl)]
    exact zx (v := .int .u16 (IntKind.u16.wrap (IntKind.u16.wrap (p.addr - E.pl.addr) - IntKind.u16.wrap (E.off (k + 1))))) (by (show _ = _); kernel_rfl) (hK.out _ _ rfl (zq rfl rfl rfl (congrArg (Value.int .u16) HIM.out)))
   ·intro w6 hS hF hD K hK
    obtain ⟨(e11 : f 11 = _), -⟩ := hF
    try simp only [e11]
    exact stV hK rfl rfl rfl rfl (by first | rfl | kernel_rfl) rfl (by show _ = _; kernel_rfl)
   intro w6 hS hF
   obtain ⟨(e12 : f 12 = _), -⟩ := hF
   try simp only [e12]
   refine Fin.last rfl (fun K hK => ?_)
   rw [if_pos (by rfl)]
   refine wp_store_at _ _ _ rfl (w.heap.size + 1) 0 (by rfl) _ (by rfl) _ _ hS.2.2.2.2.2.1 _ (by rfl) (Nat.le_of_ble_eq_true rfl) (by kernel_rfl) (by rfl) #[.int .i64 130, .int .i64 0, .int .i64 0, .int .u16 ((p.addr - E.pl.addr - E.off (k + 1)) % 65536), .int .u16 0, .int .i64 0, .int .i64 0] (by rfl) (hK.out _ _ ?_)
   try simp only [Act.put, zD, zE, zF]
   go_wp2_with fail
   exact bodyPost_ret (results_cell_row (cs := #[.int .i64 130, .int .i64 0, .int .i64 0, .int .u16 ((p.addr - E.pl.addr - E.off (k + 1)) % 65536), .int .u16 0, .int .i64 0, .int .i64 0]) (fr := (0, 0)) rfl _ _ (w.heap.size + 1) 53 _ rfl (setRow_heap _ _ _ _ _ _ hS.2.2.2.2.2.1) (Try.underlying53) rfl (by kernel_rfl)) rfl ⟨by rw [HV.out], below_setRow hS.1 (by omega) _⟩
end Go.Proofs.Ythebmoggbgldmaa
