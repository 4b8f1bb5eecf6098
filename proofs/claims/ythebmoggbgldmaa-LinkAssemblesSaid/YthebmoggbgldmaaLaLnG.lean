/- The law LinkAssembles, walked. The conditions: the numbers lie in their types' ranges. -/
import Derived.Test.YthebmoggbgldmaaLaLmM
import Derived.Test.YthebmoggbgldmaaLaLmS
import Derived.Test.YthebmoggbgldmaaLaLmT
import Derived.Test.YthebmoggbgldmaaLaLpD
set_option linter.all false
namespace Go.Proofs.Ythebmoggbgldmaa
open Go Go.RowKit Go.Maps
def ChB (g : Nat) (W : World) : Prop :=
 ∃ (ls : List zu) (nm : ByteArray) (ao : Option Addr) (cap : Nat), yV ls ∧ yJ W (.slice ao ls.length cap) ls ∧ W.heap[g]? = some (.cells #[.string nm, .slice ao ls.length cap] 32 (0, 0))
theorem posTo_lenE (E : zL) : ∀ k, k ≤ E.ls.length → (E.posTo k).length ≤ k
 | 0, _ => zn _
 | k + 1, h => by
  have := posTo_lenE E k (by omega)
  rw [posTo_succ E h, List.length_append]
  have := posL_len E k E.ls[k]
  omega
theorem ans_pos {E : zL} {s ps : List Int} {er : Int} (h : AnsE E s ps er) (hl : E.ls.length ≤ 1000) : ps.length < 1000000 := by
 rcases h with ⟨-, -, rfl, -⟩ | ⟨-, -, -, rfl, -⟩ | ⟨-, -, -, rfl, -⟩
 ·simp
 ·simp
 ·have := posTo_lenE E E.ls.length (zn _)
  show (E.posTo E.ls.length).length < _
  omega
theorem jj.setRowC {w : World} {v : Value} {ps : List yw} (h : jj w v ps) {g : Nat} {s : ByteArray} {a : Option Addr} {n c : Nat} {T : TypeId} {fr : Nat × Nat} (hg : w.heap[g]? = some (.cells #[.string s, .slice a n c] T fr)) (cs : Array Value) : jj (w.setRow g cs) v ps := by
 obtain ⟨ao, cap, e, hc, h⟩ := h
 refine ⟨ao, cap, e, hc, fun h0 => ?_⟩
 obtain ⟨q, off, d, T', fr', e1, hq, h1⟩ := h h0
 refine ⟨q, off, d, T', fr', e1, (setRow_other _ _ _ _ fun e9 => ?_).trans hq, h1⟩
 subst e9
 rw [hg] at hq
 simp only [Option.some.injEq, Obj.cells.injEq] at hq
 obtain ⟨rfl, -, -⟩ := hq
 have h2 := h1 0 _ (List.getElem?_eq_getElem h0)
 rcases off with _ | _ | off
 ·simp at h2
 ·simp at h2
 ·simp at h2
theorem jK.setRowC {w : World} {v : Value} {ps : List ObjS} (h : jK w v ps) {g : Nat} {s : ByteArray} {a : Option Addr} {n c : Nat} {T : TypeId} {fr : Nat × Nat} (hg : w.heap[g]? = some (.cells #[.string s, .slice a n c] T fr)) (cs : Array Value) : jK (w.setRow g cs) v ps := by
 obtain ⟨ao, cap, e, hc, h⟩ := h
 refine ⟨ao, cap, e, hc, fun h0 => ?_⟩
 obtain ⟨q, off, d, T', fr', e1, hq, h1⟩ := h h0
 refine ⟨q, off, d, T', fr', e1, (setRow_other _ _ _ _ fun e9 => ?_).trans hq, h1⟩
 subst e9
 rw [hg] at hq
 simp only [Option.some.injEq, Obj.cells.injEq] at hq
 obtain ⟨rfl, -, -⟩ := hq
 have h2 := h1 0 _ (List.getElem?_eq_getElem h0)
 rcases off with _ | _ | off
 ·simp at h2
 ·simp at h2
 ·simp at h2
theorem u16_mod {q : Int} : IntKind.u16.wrap (q % 8400) = q % 8400 := IntWalk.u16_in _ (by omega)
theorem num_of {ls : List zu} {fs : List yw} {ds : List ObjS} (hl : yV ls) (hf : ∀ p ∈ fs, PlcQ p) (hd : ∀ p ∈ ds, ObjQ p) (h1 : fs.length ≤ 6) (h2 : ds.length ≤ 6) (a b : Int) : zL.Num ⟨ls, ⟨a % 5, b % 8400⟩, fs, ds⟩ :=
 ⟨hl, ⟨by dsimp only; omega, by dsimp only; omega, by constructor <;> (dsimp only; omega)⟩, hf, hd, by show fs.length < _; omega, by show ds.length < _; omega⟩
set_option maxRecDepth 100000 in
set_option maxHeartbeats 8000000 in
theorem linkassembles_any (lo : Option Addr) (ll lcap : Nat) (Q : Nat → Nat → Int) (hQ : ∀ i j, zX (Q i j)) (hll : ll < 9223372036854775808) (po : Option Addr) (pl pcap : Nat) (R : Nat → Nat → Int) (hR : ∀ i j, zX (R i j)) (hpl : pl < 9223372036854775808) (q0 q1 q2 q3 q4 q5 : Int) (hq0 : zX q0) (hq1 : zX q1) (hq2 : zX q2) (hq3 : zX q3) (hq4 : zX q4) (hq5 : zX q5) (w : World) (hS : SixV w (.slice lo ll lcap) ll Q) (hT : PairV w (.slice po pl pcap) pl R) :
  Calls Try.prog 3 #[.slice lo ll lcap, .slice po pl pcap, .agg #[.int .i64 q0, .int .i64 q1, .int .i64 q2, .int .i64 q3, .int .i64 q4, .int .i64 q5]] w fun e w' => e = .returned (.bool true) ∧ Below w.heap.size w w' := by
 have HSN := zh (fun W => sanity_any W)
 have HPL := zh (fun W (hb : Below w.heap.size w W) => places_any po pl pcap R hR hpl W (hT.below hb))
 have HOB := zh (fun W (hb : Below w.heap.size w W) => law_objects_any po pl pcap R hR hpl W (hT.below hb))
 have HMD := zh (fun (nf no : Nat) (h1 : nf < 65536) (h2 : no < 65536) W (hb : Below w.heap.size w W) => made19_any lo ll lcap nf no (min ll 120) Q hQ rfl h1 h2 (by omega) W (hS.below hb))
 have HTN := zh (fun (nm : ByteArray) (ls : List zu) (h1 : yV ls) (h2 : ∀ l ∈ ls, l.tab.length ≤ 9) (ao : Option Addr) (cap : Nat) (h3 : ao = none → cap = 0) (W : World) (hL : yJ W (.slice ao ls.length cap) ls) => turned_any nm ls 9 (by omega) h1 h2 ao cap h3 q3 q4 q5 hq3 hq4 hq5 W hL)
 have HI0 := zh hq0
 have HI1 := zh hq1
 have HI2 := zh hq2
 clear hQ hR hq0 hq1 hq2 hq3 hq4 hq5 hS hT
 go_enter Try.func3, Try.ntmps3
 go_upto_region 1 with fail
 have h0 := heap_alloc_new w (.cells #[.int .i64 q0, .int .i64 q1, .int .i64 q2, .int .i64 q3, .int .i64 q4, .int .i64 q5] 24)
 have hb0 := (Below.refl w.heap.size w).alloc (zn _) (.cells #[.int .i64 q0, .int .i64 q1, .int .i64 q2, .int .i64 q3, .int .i64 q4, .int .i64 q5] 24)
 obtain ⟨wa, hwa⟩ : ∃ W : World, w.alloc (.cells #[.int .i64 q0, .int .i64 q1, .int .i64 q2, .int .i64 q3, .int .i64 q4, .int .i64 q5] 24) = W := ⟨_, rfl⟩
 obtain ⟨gq, hgq⟩ : ∃ g : Nat, w.heap.size = g := ⟨_, rfl⟩
 rw [hwa] at h0 hb0 ⊢
 rw [hgq] at h0
 try rw [hgq]
 have H0 := zh h0
 have HB := zh hb0
 clear hwa hgq h0 hb0
 try simp only [Act.put]
 go_upto_region 2 with (go_at_call 7; refine (HSN.out _).mono ?_; rintro e w1 ⟨rfl, hb1⟩)
 have HB1 := zh (HB.out.trans (hb1.mono HB.out.size))
 have H01 := zh (zf hb1 H0.out)
 clear hb1 H0 HB HSN
 go_upto_region 3 with (go_at_call 8; refine (HPL.out _ HB1.out).mono ?_; rintro e w2 ⟨fs, fv, rfl, hfl, hfq, hfv, hb2⟩)
 have HB2 := zh (HB1.out.trans (hb2.mono HB1.out.size))
 have H02 := zh (zf hb2 H01.out)
 have HFV := zh hfv
 have HFQ := zh hfq
 obtain ⟨fo, fcap, rfl, -⟩ := id hfv
 clear hb2 hfv hfq H01 HB1 HPL
 go_upto_region 4 with (go_at_call 9; refine (HOB.out _ HB2.out).mono ?_; rintro e w3 ⟨ds, dv, rfl, hdl, hdq, hdv, hb3⟩)
 have HB3 := zh (HB2.out.trans (hb3.mono HB2.out.size))
 have H03 := zh (zf hb3 H02.out)
 have HFV3 := zh (HFV.out.below hb3)
 have HDV := zh hdv
 have HDQ := zh hdq
 obtain ⟨dno, dcap, rfl, -⟩ := id hdv
 have HM := zh (HMD.out fs.length ds.length (by omega) (by omega) w3 HB3.out)
 clear hb3 hdv hdq H02 HB2 HOB HFV HMD
 go_upto_region 5 with (first | (go_at_call 10; refine (HM.out).mono ?_; rintro e w4 ⟨ls, nm, ao, cap, rfl, hln, hmd, hca, hlv, hb4⟩; have HLN := zh hln; clear hln) | (refine wpList_store_row rfl _ _ _ rfl _ _ rfl rfl _ _ (heap_alloc_new _ _) ?_ ?_ ?_ ?_; kernel_rfl; rfl; kernel_rfl; rw [World.setRow_alloc_new]))
 have hls : yV ls := made_lines (by rw [HLN.out]; exact hmd) (by rw [HLN.out]; omega)
 have htb : ∀ l ∈ ls, l.tab.length ≤ 9 := fun l hl => by obtain ⟨j, hj, rfl⟩ := List.mem_iff_getElem.1 hl; exact (hmd j _ (List.getElem?_eq_getElem hj)).tl
 have hb5 := hb4.alloc hb4.size (.cells #[.string nm, .slice ao ls.length cap] 32)
 have hb45 := (Below.refl w4.heap.size w4).alloc (zn _) (.cells #[.string nm, .slice ao ls.length cap] 32)
 have hc5 := heap_alloc_new w4 (.cells #[.string nm, .slice ao ls.length cap] 32)
 have hl5 := hlv.below hb45
 obtain ⟨w5, hw5⟩ : ∃ W : World, w4.alloc (.cells #[.string nm, .slice ao ls.length cap] 32) = W := ⟨_, rfl⟩
 obtain ⟨g10, hg10⟩ : ∃ g : Nat, w4.heap.size = g := ⟨_, rfl⟩
 rw [hw5] at hb5 hc5 hl5 ⊢
 rw [hg10] at hc5
 try rw [hg10]
 have HGE := zh (show w.heap.size ≤ g10 by rw [← hg10]; exact Nat.le_trans HB3.out.size hb4.size)
 have HB5 := zh (HB3.out.trans (hb5.mono HB3.out.size))
 have H05 := zh (zf hb5 H03.out)
 have HFV5 := zh (HFV3.out.below hb5)
 have HDV5 := zh (HDV.out.below hb5)
 have HC5 := zh hc5
 have HL5 := zh hl5
 have HLS := zh hls
 have HTB := zh htb
 clear hw5 hg10 hb5 hb45 hc5 hl5 hls htb hmd hlv hb4 HM HB3 H03 HFV3 HDV HLN
 try simp only [Act.put]
 refine ye [] 9 (z5 [isV (.pointer (some ⟨gq, 0, none⟩)), isV (.int .i64 q0), isV (.int .i64 (q0 % 5)), isV (.pointer (some ⟨gq, 1, none⟩)), isV (.int .i64 q1), isV (.int .i64 (q1 % 8400)), isV (.int .u16 (q1 % 8400)), isV (.agg #[.int .i64 (q0 % 5), .int .u16 (q1 % 8400)]), isVT ((fun _ => False)) (NwQ w5.heap.size (.cells #[.int .i64 0, .int .u16 0] 37 (0, 0)))]) (nth [[0], [1], [2], [3], [4], [5], [6], [7], [8]]) (nth [[], [], [], [], [], [], [], [], []]) (nth [[], [0], [1], [], [3], [4], [5], [2, 6], []]) [7, 8] (fun w6 => Below w5.heap.size w5 w6 ∧ True ∧ w5.heap.size ≤ w6.heap.size ∧ True) (by kernel_rfl) (by kernel_rfl) (⟨(Below.refl _ _).drew, trivial, zn _, trivial⟩) (fun w w' h hb => ⟨h.1.trans (hb.mono h.1.size), trivial, Nat.le_trans h.2.2.1 hb.size, trivial⟩) (zG ((za (zc _)  (za (zc _)  (za (zc _)  (za (zc _)  (za (zc _)  (za (zc _)  (za (zc _)  (za (zc _)  (za (yu _ _) zy))))))))))) (fun f F hF => ?_)
 simp only [List.take_succ_cons, List.take_zero, yb, Act.put, zD, zE, zF, Nat.reduceAdd] at hF
 subst hF
 refine ⟨ze ?_ (ze ?_ (ze ?_ (ze ?_ (ze ?_ (ze ?_ (ze ?_ (ze ?_ (ze ?_ (yf))))))))), ?_⟩
 ·intro w6 hS hF hD K hK
  rw [if_pos (by rfl)]
  exact svV hK rfl rfl rfl rfl (by first | rfl | kernel_rfl)  (by show _ = _; kernel_rfl)
 ·intro w6 hS hF hD K hK
  obtain ⟨(e0 : f 0 = _), -⟩ := hF
  try simp only [e0]
  rw [if_pos (by rfl)]
  exact svC hK rfl rfl rfl rfl (by first | rfl | kernel_rfl)  rfl rfl (zf hS.1 H05.out) (by kernel_rfl) (fun _ => by kernel_rfl)
 ·intro w6 hS hF hD K hK
  obtain ⟨(e1 : f 1 = _), -⟩ := hF
  try simp only [e1]
  rw [if_pos (by rfl)]
  go_simp
  go_at_call 11; refine (rmodP _ _ HI0.out (by decide) (by decide) _).mono ?_; rintro e wz ⟨rfl, rfl⟩; have hbelow := Below.refl w6.heap.size w6; go_simp
  refine hK.out _ _ rfl (zP rfl rfl rfl hbelow ?_)
  first | rfl | kernel_rfl
 ·intro w6 hS hF hD K hK
  rw [if_pos (by rfl)]
  exact svV hK rfl rfl rfl rfl (by first | rfl | kernel_rfl)  (by show _ = _; kernel_rfl)
 ·intro w6 hS hF hD K hK
  obtain ⟨(e3 : f 3 = _), -⟩ := hF
  try simp only [e3]
  rw [if_pos (by rfl)]
  exact svC hK rfl rfl rfl rfl (by first | rfl | kernel_rfl)  rfl rfl (zf hS.1 H05.out) (by kernel_rfl) (fun _ => by kernel_rfl)
 ·intro w6 hS hF hD K hK
  obtain ⟨(e4 : f 4 = _), -⟩ := hF
  try simp only [e4]
  rw [if_pos (by rfl)]
  go_simp
  go_at_call 11; refine (rmodP _ _ HI1.out (by decide) (by decide) _).mono ?_; rintro e wz ⟨rfl, rfl⟩; have hbelow := Below.refl w6.heap.size w6; go_simp
  refine hK.out _ _ rfl (zP rfl rfl rfl hbelow ?_)
  first | rfl | kernel_rfl
 ·intro w6 hS hF hD K hK
  obtain ⟨(e5 : f 5 = _), -⟩ := hF
  try simp only [e5]
  rw [if_pos (by rfl)]
  exact zx (v := .int .u16 (IntKind.u16.wrap (q1 % 8400))) (by (show _ = _); kernel_rfl) (hK.out _ _ rfl (zq rfl rfl rfl (congrArg (Value.int .u16) u16_mod)))
 ·intro w6 hS hF hD K hK
  obtain ⟨(e2 : f 2 = _), (e6 : f 6 = _), -⟩ := hF
  try simp only [e2, e6]
  rw [if_pos (by rfl)]
  exact svV hK rfl rfl rfl rfl (by first | rfl | kernel_rfl)  (by show _ = _; kernel_rfl)
 ·intro w6 hS hF hD K hK
  rw [if_pos (by rfl)]
  go_simp; have hb9 := (Below.refl w6.heap.size w6).alloc (zn _) (.cells #[.int .i64 0, .int .u16 0] 37)
  exact hK.out _ _ rfl (yv rfl rfl rfl rfl (hb9.size) (⟨hS.1.trans (hb9.mono hS.1.size), trivial, Nat.le_trans hS.2.2.1 hb9.size, trivial⟩) (zk (zk (zk (zk (zk (zk (zk (zk (yc (by rfl) ym))))))))) (⟨_, rfl, hS.2.2.1, heap_alloc_new _ _⟩))
 intro w6 hS hF
 obtain ⟨(e7 : f 7 = _), e8, -⟩ := hF
 obtain ⟨y8, p8, t8⟩ := e8
 try simp only [e7]
 simp only [List.drop_succ_cons, List.drop_zero]
 obtain ⟨g11, hv11, hB11, hg11⟩ := p8
 simp only [hv11]
 have hg12 := t8.heap hg11 (fun h => h)
 go_upto_region 6 with (refine wpList_store_row rfl _ _ _ rfl _ _ rfl rfl _ _ (hg12) ?_ ?_ ?_ ?_; kernel_rfl; rfl; kernel_rfl)
 have h77 := setRow_heap w6 g11 _ #[.int .i64 (q0 % 5), .int .u16 (q1 % 8400)] _ _ hg12
 have hB7 := below_setRow hS.1 hB11 #[.int .i64 (q0 % 5), .int .u16 (q1 % 8400)]
 obtain ⟨w7, hw7⟩ : ∃ W : World, w6.setRow g11 #[.int .i64 (q0 % 5), .int .u16 (q1 % 8400)] = W := ⟨_, rfl⟩
 rw [hw7] at h77 hB7 ⊢
 have HB7 := zh (HB5.out.trans (hB7.mono HB5.out.size))
 have H07 := zh (zf hB7 H05.out)
 have HFV7 := zh (HFV5.out.below hB7)
 have HDV7 := zh (HDV5.out.below hB7)
 have HC7 := zh (zf hB7 HC5.out)
 have HL7 := zh (HL5.out.below hB7)
 have HP7 := zh h77
 have HNE := zh (show g10 < g11 by have := (Array.getElem?_eq_some_iff.1 HC5.out).1; omega)
 clear hw7 h77 hB7 hg12 hg11 hB11 hv11 t8 hS e7 HB5 H05 HFV5 HDV5 HC5 HL5
 try simp only [Act.put]
 have c0 : ∀ o : Nat, w7.cell? ⟨gq, o, none⟩ = (#[.int .i64 q0, .int .i64 q1, .int .i64 q2, .int .i64 q3, .int .i64 q4, .int .i64 q5] : Array Value)[o]? := fun o => cell_of_row w7 gq o _ _ _ H07.out
 go_upto_if 41 with (go_at_call 11; refine (rmodP _ _ HI2.out (by decide) (by decide) _).mono ?_; rintro e wz ⟨rfl, rfl⟩)
 try simp only [Act.put]
 go_cut [] (fun wx => Hid (ChB g10 wx) ∧ Hid (Below w.heap.size w wx) ∧ Hid (jj wx (.slice fo fs.length fcap) fs) ∧ Hid (jK wx (.slice dno ds.length dcap) ds) ∧ Hid (wx.heap[g11]? = some (.cells #[.int .i64 (q0 % 5), .int .u16 (q1 % 8400)] 37 (0, 0))))
 case first =>
  by_cases h4 : q2 % 4 = 0
  ·have h4a : (q2 % 4 == 0) = true := by simp [h4]
   have HT := zh (HTN.out nm ls HLS.out HTB.out ao cap hca w7 HL7.out)
   go_wp2_with (first | (refine zs _ _ rfl _ rfl _ _ _ (HC7.out) ?_ ?_ ?_; kernel_rfl; kernel_rfl) | (go_at_call 12; refine (HT.out).mono ?_; rintro e w8 ⟨ls2, nm2, ao2, cap2, rfl, -, ho2, -, -, hv2, hb8⟩; have HC8 := zh (zf hb8 HC7.out); have HB8 := zh hb8; have HO2 := zh ho2; have HV2 := zh hv2; clear hb8 ho2 hv2) | (refine wpList_store_row rfl _ _ _ rfl _ _ rfl rfl _ _ (HC8.out) ?_ ?_ ?_ ?_; kernel_rfl; rfl; kernel_rfl))
   go_meet
   exact ⟨zh ⟨ls2, nm2, ao2, cap2, HO2.out, HV2.out.setRow HC8.out _, setRow_heap _ _ _ _ _ _ HC8.out⟩, zh (below_setRow (HB7.out.trans (HB8.out.mono HB7.out.size)) HGE.out _), zh ((HFV7.out.below HB8.out).setRowC HC8.out _), zh ((HDV7.out.below HB8.out).setRowC HC8.out _), zh ((setRow_other _ _ _ _ (by have := HNE.out; omega)).trans (zf HB8.out HP7.out))⟩
  ·have h4a : (q2 % 4 == 0) = false := by simp [h4]
   go_wp2_with fail
   go_meet
   exact ⟨zh ⟨ls, nm, ao, cap, HLS.out, HL7.out, HC7.out⟩, HB7, HFV7, HDV7, HP7⟩
 case rest =>
 clear HC7 HB7 HFV7 HDV7 HP7 HL7 HLS HTB HTN c0 H07 HI0 HI1 HI2 hca
 obtain ⟨HCB, HBX, HFX, HDX, HPX⟩ := hcut
 obtain ⟨ls3, nm3, ao3, cap3, ho3, hv3, hc3⟩ := HCB.out
 have HA := zh (show ∀ W, Below wc.heap.size wc W → Calls Try.prog 13 #[.agg #[.string nm3, .slice ao3 ls3.length cap3], .agg #[.int .i64 (q0 % 5), .int .u16 (q1 % 8400)], .slice fo fs.length fcap, .slice dno ds.length dcap] W (AsPost ⟨ls3, ⟨q0 % 5, q1 % 8400⟩, fs, ds⟩ W) from fun W hb => xv ⟨ls3, ⟨q0 % 5, q1 % 8400⟩, fs, ds⟩ (num_of ho3 HFQ.out HDQ.out hfl hdl q0 q1) nm3 ao3 fo dno cap3 fcap dcap W (hv3.below hb) (HFX.out.below hb) (HDX.out.below hb))
 have HR := zh (show ∀ W, Below wc.heap.size wc W → Calls Try.prog 14 #[.agg #[.string nm3, .slice ao3 ls3.length cap3], .agg #[.int .i64 (q0 % 5), .int .u16 (q1 % 8400)], .slice fo fs.length fcap, .slice dno ds.length dcap] W (AsPost ⟨ls3, ⟨q0 % 5, q1 % 8400⟩, fs, ds⟩ W) from fun W hb => rassemble_any ⟨ls3, ⟨q0 % 5, q1 % 8400⟩, fs, ds⟩ (num_of ho3 HFQ.out HDQ.out hfl hdl q0 q1) nm3 ao3 fo dno cap3 fcap dcap W (hv3.below hb) (HFX.out.below hb) (HDX.out.below hb))
 have HC3 := zh hc3
 have HL3 := zh ho3.2
 clear ho3 hv3 hc3 HCB HFX HDX HFQ HDQ hfl hdl
 go_upto_region 9 with (first | (refine zs _ _ rfl _ rfl _ _ _ (HC3.out) ?_ ?_ ?_; kernel_rfl; kernel_rfl) | (refine zs _ _ rfl _ rfl _ _ _ (HPX.out) ?_ ?_ ?_; kernel_rfl; kernel_rfl) | (go_at_call 13; refine (HA.out _ (Below.refl _ _)).mono ?_; rintro e w9 ⟨s1, pv1, ps1, er1, rfl, ho9, hb9, ha1⟩))
 have HB9 := zh hb9
 have HO9 := zh (own_ints ho9)
 have HA1 := zh ha1
 have HC9 := zh (zf hb9 HC3.out)
 have HP9 := zh (zf hb9 HPX.out)
 clear hb9 ho9 ha1 HA HC3 HPX
 go_upto_region 10 with (first | (refine zs _ _ rfl _ rfl _ _ _ (HC9.out) ?_ ?_ ?_; kernel_rfl; kernel_rfl) | (refine zs _ _ rfl _ rfl _ _ _ (HP9.out) ?_ ?_ ?_; kernel_rfl; kernel_rfl) | (go_at_call 14; refine (HR.out _ HB9.out).mono ?_; rintro e w10 ⟨s2, pv2, ps2, er2, rfl, ho10, hb10, ha2⟩))
 have HB10 := zh (HBX.out.trans ((HB9.out.trans (hb10.mono HB9.out.size)).mono HBX.out.size))
 have hpp := ans_pos HA1.out HL3.out
 obtain ⟨rfl, rfl, rfl⟩ := HA1.out.uniq ha2
 have HNM := zh (numbers_any pv1 pv2 ps1 ps1 hpp w10 (HO9.out.below hb10) (own_ints ho10))
 clear hb10 ho10 ha2 hpp HA1 HO9 HB9 HC9 HP9 HR HBX HL3
 go_wp2_with (go_at_call 15; refine (HNM.out).mono ?_; rintro e w11 ⟨rfl, hb11⟩; have HB11 := zh (HB10.out.trans (hb11.mono HB10.out.size)); clear hb11; rw [decide_eq_true rfl])
 go_ret
 exact ⟨rfl, HB11.out⟩
end Go.Proofs.Ythebmoggbgldmaa
