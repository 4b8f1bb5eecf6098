/- IsaEncodes: walked. Condition: the library's tables read as the text lays them. -/
import Derived.Test.YtakahmhbopakmaaDoorSane
import Derived.Test.YtakahmhbopakmaaDoorREncB
import Derived.Test.YtakahmhbopakmaaDoorRefE
import Derived.Test.YtakahmhbopakmaaDoorRefD
import Derived.Test.YtakahmhbopakmaaDoorMadeC
import Derived.Test.YtakahmhbopakmaaDoorRely
import Derived.Deep.DeepCutAuto
import Derived.Deep.MidRow
set_option linter.all false
namespace Go.Proofs.YtakahmhbopakmaaDoor
open Go.RowKit

theorem exec_load_midE {P : Program} {o : Oper} {a : Act} {w : World} (ty : TypeId) (x : Operand) (ho : o.op = .load ty x) (b off : Nat) (hx : a.eval x = .pointer (some ⟨b, off, none⟩)) (cs : List Value) (d : TypeDesc) (hc : w.rangeAt b off cs)
    (hu : P.underlying ty = some d) (hd : d.isRow = true) (hi : (P.info? ty).map (·.size) = some cs.length) : (execOp a.eval o).run P w = .ok (.value (.agg cs.toArray)) w := by
  unfold execOp
  simp only [ho, hx, Sem.run_bind, run_loadAt_mid w b off ty cs d hc hu hd hi, Sem.run_pure, Result.andThen_ok]
def three7 (i j k : Ins) : Array Value := #[.int .i64 i.op, .int .i64 i.d, .int .i64 i.s, .int .u16 i.imm, .int .u16 i.aux, .int .i64 i.bank, .int .i64 i.size, .int .i64 j.op, .int .i64 j.d, .int .i64 j.s, .int .u16 j.imm, .int .u16 j.aux, .int .i64 j.bank, .int .i64 j.size, .int .i64 k.op, .int .i64 k.d, .int .i64 k.s, .int .u16 k.imm, .int .u16 k.aux, .int .i64 k.bank, .int .i64 k.size]
theorem rvalid_same (i : Ins) (hi : i.Ok) (w : World) : Calls Tryd.prog 21 #[.agg #[.int .i64 (i).op, .int .i64 (i).d, .int .i64 (i).s, .int .u16 (i).imm, .int .u16 (i).aux, .int .i64 (i).bank, .int .i64 (i).size]] w fun e w' => e = .returned (.bool (validS i)) ∧ Below w.heap.size w w' := by
  rw [valid_eq i hi]; exact rvalid_any i w
theorem encE_zero (i : Ins) : (encE i == 0) = validS i := by
  unfold encE
  cases hf : (fOf i.op).isSome
  · have : validS i = false := by unfold validS; simp [hf]
    rw [this]; rfl
  · cases hv : validS i <;> rfl

set_option maxRecDepth 100000 in
set_option maxHeartbeats 4000000 in
theorem encodes_any (i : Ins) (hi : i.Ok) (q0 q1 q2 q3 q4 c0 c1 : Int) (hc1 : i64ok c1) (w : World) (hT : Tabs w) :
    Calls Tryd.prog 3 #[.agg #[.int .i64 (i).op, .int .i64 (i).d, .int .i64 (i).s, .int .u16 (i).imm, .int .u16 (i).aux, .int .i64 (i).bank, .int .i64 (i).size], .agg #[Value.int .i64 q0, .int .i64 q1, .int .i64 q2, .int .i64 q3, .int .i64 q4], .agg #[Value.int .i64 c0, .int .i64 c1]] w fun e w' => e = .returned (.bool true) ∧ Below w.heap.size w w' := by
  have hj := made_ok q0 q1 q2 q3 q4
  have HV := Lib.hid (made_valid q0 q1 q2 q3 q4)
  have HMj := Lib.hid (fun W => made_any q0 q1 q2 q3 q4 W)
  generalize madeS q0 q1 q2 q3 q4 = j at *
  have hm := spoilt_ok j hj c0 c1 hc1
  have HSp := Lib.hid (fun W => spoilt_any j c0 c1 W)
  generalize spoiltS j c0 c1 = m at *
  have HT := Lib.hid hT
  have HZi := Lib.hid (encE_zero i)
  have HZj := Lib.hid (encE_zero j)
  have HZm := Lib.hid (encE_zero m)
  clear hT
  go_enter Tryd.func3, Tryd.ntmps3
  have HB := Lib.hid ((((Below.refl w.heap.size w).alloc (Nat.le_refl _) (.cells #[Value.int .i64 i.op, .int .i64 i.d, .int .i64 i.s, .int .u16 i.imm, .int .u16 i.aux, .int .i64 i.bank, .int .i64 i.size] 24)).alloc (by simp) (.cells #[Value.int .i64 q0, .int .i64 q1, .int .i64 q2, .int .i64 q3, .int .i64 q4] 25)).alloc (by simp <;> omega) (.cells #[Value.int .i64 c0, .int .i64 c1] 26))
  have B0 := Lib.hid ((heap_alloc_old ((w.alloc (.cells #[Value.int .i64 i.op, .int .i64 i.d, .int .i64 i.s, .int .u16 i.imm, .int .u16 i.aux, .int .i64 i.bank, .int .i64 i.size] 24)).alloc (.cells #[Value.int .i64 q0, .int .i64 q1, .int .i64 q2, .int .i64 q3, .int .i64 q4] 25)) (.cells #[Value.int .i64 c0, .int .i64 c1] 26) (by simp <;> omega : w.heap.size < _)).trans ((heap_alloc_old (w.alloc (.cells #[Value.int .i64 i.op, .int .i64 i.d, .int .i64 i.s, .int .u16 i.imm, .int .u16 i.aux, .int .i64 i.bank, .int .i64 i.size] 24)) (.cells #[Value.int .i64 q0, .int .i64 q1, .int .i64 q2, .int .i64 q3, .int .i64 q4] 25) (by simp : w.heap.size < _)).trans (heap_alloc_new w _)))
  have B1 := Lib.hid ((heap_alloc_old ((w.alloc (.cells #[Value.int .i64 i.op, .int .i64 i.d, .int .i64 i.s, .int .u16 i.imm, .int .u16 i.aux, .int .i64 i.bank, .int .i64 i.size] 24)).alloc (.cells #[Value.int .i64 q0, .int .i64 q1, .int .i64 q2, .int .i64 q3, .int .i64 q4] 25)) (.cells #[Value.int .i64 c0, .int .i64 c1] 26) (by simp : w.heap.size + 1 < _)).trans (news_row (w.alloc (.cells #[Value.int .i64 i.op, .int .i64 i.d, .int .i64 i.s, .int .u16 i.imm, .int .u16 i.aux, .int .i64 i.bank, .int .i64 i.size] 24)) (.cells #[Value.int .i64 q0, .int .i64 q1, .int .i64 q2, .int .i64 q3, .int .i64 q4] 25) (by simp)))
  have B2 := Lib.hid (news_row ((w.alloc (.cells #[Value.int .i64 i.op, .int .i64 i.d, .int .i64 i.s, .int .u16 i.imm, .int .u16 i.aux, .int .i64 i.bank, .int .i64 i.size] 24)).alloc (.cells #[Value.int .i64 q0, .int .i64 q1, .int .i64 q2, .int .i64 q3, .int .i64 q4] 25)) (.cells #[Value.int .i64 c0, .int .i64 c1] 26) (by simp : _ = w.heap.size + 2))
  have hz : w.heap.size + 2 < (((w.alloc (.cells #[Value.int .i64 i.op, .int .i64 i.d, .int .i64 i.s, .int .u16 i.imm, .int .u16 i.aux, .int .i64 i.bank, .int .i64 i.size] 24)).alloc (.cells #[Value.int .i64 q0, .int .i64 q1, .int .i64 q2, .int .i64 q3, .int .i64 q4] 25)).alloc (.cells #[Value.int .i64 c0, .int .i64 c1] 26)).heap.size := by simp
  go_upto_region 2 with (go_at_call 15; refine (sanity_any _ (HT.out.stay HB.out)).mono ?_; rintro e w1 ⟨rfl, hb1⟩; replace B0 := Lib.hid ((hb1.block _ (by omega)).trans B0.out); replace B1 := Lib.hid ((hb1.block _ (by omega)).trans B1.out); replace B2 := Lib.hid ((hb1.block _ hz).trans B2.out); replace HB := Lib.hid (HB.out.trans (hb1.mono HB.out.size)); have hz1 := Nat.lt_of_lt_of_le hz hb1.size; clear hb1)
  clear hz
  go_upto_region 3 with (first
    | (refine wpList_load_row rfl _ (.tmp 4) rfl _ rfl _ _ _ _ B1.out Tryd.underlying25 rfl ?_ ?_; kernel_rfl)
    | (go_at_call 16; refine (HMj.out _).mono ?_; rintro e w2 ⟨rfl, hb2⟩; replace B0 := Lib.hid ((hb2.block _ (by omega)).trans B0.out); replace B2 := Lib.hid ((hb2.block _ hz1).trans B2.out); replace HB := Lib.hid (HB.out.trans (hb2.mono HB.out.size)); have hz2 := Nat.lt_of_lt_of_le hz1 hb2.size; clear hb2)
    | (refine wpList_store_row rfl _ _ _ rfl _ _ rfl rfl _ _ (heap_alloc_new _ _) ?_ ?_ ?_ ?_; kernel_rfl; rfl; kernel_rfl; rw [World.setRow_alloc_new]))
  have HJ := Lib.hid (heap_alloc_new w2 (.cells (insCells j) 24))
  replace B0 := Lib.hid ((heap_alloc_old w2 (.cells (insCells j) 24) (by omega)).trans B0.out)
  replace B2 := Lib.hid ((heap_alloc_old w2 (.cells (insCells j) 24) (by omega)).trans B2.out)
  replace HB := Lib.hid (HB.out.alloc HB.out.size (.cells (insCells j) 24))
  refine wp_region_noPanic ?_
  refine wp_region_rely (factOf [isV (.agg (insCells i)), isV (.agg (insCells j)), isV (.agg (insCells j)), isV (.agg #[Value.int .i64 c0, .int .i64 c1]), isV (.agg (insCells m)), isV (.agg (three7 i j m)), newR (w2.alloc (.cells (insCells j) 24)).heap.size 30 21, newV (w2.alloc (.cells (insCells j) 24)).heap.size (.cells (three7 i j m) 30 (0, 0))]) (nth [[0], [1], [2], [3], [4], [5], [6], [6]]) (nth [[], [], [], [], [], [], [], [6]]) (nth [[], [], [], [], [2, 3], [0, 1, 4], [], [6, 5, 4, 0, 1, 2, 3]]) [7] (Kept w.heap.size w (w2.alloc (.cells (insCells j) 24)).heap.size [(w.heap.size, .cells #[Value.int .i64 i.op, .int .i64 i.d, .int .i64 i.s, .int .u16 i.imm, .int .u16 i.aux, .int .i64 i.bank, .int .i64 i.size] 24 (0, 0)), (w2.heap.size, .cells (insCells j) 24 (0, 0)), (w.heap.size + 2, .cells #[Value.int .i64 c0, .int .i64 c1] 26 (0, 0))]) (by kernel_rfl) (by kernel_rfl) (⟨HB.out.drew, HB.out.size, Nat.le_refl _, by intro x hx; simp at hx; rcases hx with rfl | rfl | rfl <;> (show _ < _; simp <;> omega), B0.out, HJ.out, B2.out, trivial⟩) (Kept.grow) (GrowsAll.of ((GrowsAll.cons (Grows.isV _)  (GrowsAll.cons (Grows.isV _)  (GrowsAll.cons (Grows.isV _)  (GrowsAll.cons (Grows.isV _)  (GrowsAll.cons (Grows.isV _)  (GrowsAll.cons (Grows.isV _)  (GrowsAll.cons (Grows.newR _ _ _)  (GrowsAll.cons (Grows.newV _ _) GrowsAll.nil)))))))))) (fun f F hF => ?_)
  simp only [fullGo, Act.put, List.setIfInBounds_toArray, List.set_cons_zero, List.set_cons_succ, Nat.reduceAdd] at hF
  subst hF
  refine ⟨StepObs.cons ?_ (StepObs.cons ?_ (StepObs.cons ?_ (StepObs.cons ?_ (StepObs.cons ?_ (StepObs.cons ?_ (StepObs.cons ?_ (StepObs.cons ?_ (StepObs.nil)))))))), ?_⟩
  · intro w3 hS hF K hK
    rw [if_pos (by rfl)]
    exact wp_load_rowB _ _ rfl _ rfl _ _ _ (hS.2.2.2.2.1) (by kernel_rfl) (hK.out _ _ rfl (After.lit rfl rfl (by first | rfl | kernel_rfl)))
  · intro w3 hS hF K hK
    rw [if_pos (by rfl)]
    exact wp_load_rowB _ _ rfl _ rfl _ _ _ (hS.2.2.2.2.2.1) (by kernel_rfl) (hK.out _ _ rfl (After.lit rfl rfl (by first | rfl | kernel_rfl)))
  · intro w3 hS hF K hK
    rw [if_pos (by rfl)]
    exact wp_load_rowB _ _ rfl _ rfl _ _ _ (hS.2.2.2.2.2.1) (by kernel_rfl) (hK.out _ _ rfl (After.lit rfl rfl (by first | rfl | kernel_rfl)))
  · intro w3 hS hF K hK
    rw [if_pos (by rfl)]
    exact wp_load_rowB _ _ rfl _ rfl _ _ _ (hS.2.2.2.2.2.2.1) (by kernel_rfl) (hK.out _ _ rfl (After.lit rfl rfl (by first | rfl | kernel_rfl)))
  · intro w3 hS hF K hK
    obtain ⟨e2, e3, -⟩ := hF
    replace e2 : f 2 = _ := e2
    replace e3 : f 3 = _ := e3
    try simp only [e2, e3]
    rw [if_pos (by rfl)]
    go_simp
    refine (HSp.out _).mono ?_; rintro e w4 ⟨rfl, hbelow⟩; go_simp
    refine hK.out _ _ rfl (After.litB rfl rfl hbelow ?_)
    first | rfl | kernel_rfl
  · intro w3 hS hF K hK
    obtain ⟨e0, e1, e4, -⟩ := hF
    replace e0 : f 0 = _ := e0
    replace e1 : f 1 = _ := e1
    replace e4 : f 4 = _ := e4
    try simp only [e0, e1, e4]
    rw [if_pos (by rfl)]
    refine wp_of_quiet (v := .agg (three7 i j m)) (by (show _ = _); kernel_rfl) (hK.out _ _ rfl (After.lit rfl rfl ?_))
    first | rfl | kernel_rfl
  · intro w3 hS hF K hK
    rw [if_pos (by rfl)]
    go_simp
    refine hK.out _ _ rfl (After.new rfl rfl hS.2.2.1 rfl ?_)
    first | rfl | kernel_rfl
  · intro w3 hS hF K hK
    obtain ⟨e6, e5, e4, e0, e1, e2, e3, -⟩ := hF
    obtain ⟨g6, c6, e6, hB6, hg6, hn6⟩ := e6
    replace e6 : f 6 = _ := e6
    replace e5 : f 5 = _ := e5
    replace e4 : f 4 = _ := e4
    replace e0 : f 0 = _ := e0
    replace e1 : f 1 = _ := e1
    replace e2 : f 2 = _ := e2
    replace e3 : f 3 = _ := e3
    try simp only [e6, e5, e4, e0, e1, e2, e3]
    rw [if_pos (by rfl)]
    refine wp_store_row _ _ _ rfl g6 _ rfl rfl _ _ hg6 (by kernel_rfl) hn6 (by kernel_rfl) ?_
    exact hK.out _ _ rfl (After.set rfl rfl rfl rfl e6 hB6 hB6 hg6 hS (StaysAll.isV (StaysAll.isV (StaysAll.isV (StaysAll.isV (StaysAll.isV (StaysAll.isV (StaysAll.out (by rfl) (StaysAll.out (by rfl) StaysAll.nil)))))))))
  intro w3 hS hF
  obtain ⟨e7, -⟩ := hF
  obtain ⟨g6, e7, hB6, hg6⟩ := e7
  replace e7 : f 6 = _ := e7
  try simp only [e7]
  refine NoPanic.normal ?_
  have hz3 : w2.heap.size < w3.heap.size := Nat.lt_of_lt_of_le (by simp) hS.2.2.1
  have HG := Lib.hid hg6
  have hzg := (Array.getElem?_eq_some_iff.1 hg6).1
  replace HB := Lib.hid hS.1
  replace HJ := Lib.hid hS.2.2.2.2.2.1
  clear hS hg6 B0 B1 B2
  obtain ⟨g, rfl⟩ : ∃ g : Nat, g = g6 := ⟨_, rfl⟩
  obtain ⟨gj, HGJ⟩ : ∃ gj : Nat, Hid (gj = w2.heap.size) := ⟨_, rfl⟩
  simp only [← HGJ.out] at *
  go_wp2_with fail
  go_loopw [10] (fun x wr => ∃ k : Nat, k ≤ 3 ∧ x = .int .i64 k ∧ Hid (Below w.heap.size w wr) ∧ Hid (wr.heap[g]? = some (.cells (three7 i j m) 30 (0, 0))) ∧ Hid (wr.heap[gj]? = some (.cells (insCells j) 24 (0, 0))) ∧ g < wr.heap.size ∧ gj < wr.heap.size) (fun x _ => 3 - (intOf x).toNat)
  case atStart => exact ⟨0, by omega, rfl, HB, HG, HJ, hzg, hz3⟩
  case round =>
    obtain ⟨k, hk, rfl, HB, HG, HJ, hzg, hzj⟩ := hrel
    have hks : k = 0 ∨ k = 1 ∨ k = 2 ∨ k = 3 := by omega
    rcases hks with rfl | rfl | rfl | rfl
    · have HR := Lib.hid (fun (W : World) (h : W.heap[g]? = some (.cells (three7 i j m) 30 (0, 0))) => (World.rangeAt_of_block h 0 7 : W.rangeAt g 0 (insCells i).toList))
      go_upto_region 8 with (first
        | (refine wpList_load_mid rfl _ (.tmp 30) rfl g 0 rfl (insCells i).toList _ (HR.out _ HG.out) Tryd.underlying24 rfl ?_ ?_; kernel_rfl)
        | (go_at_call 18; refine (encode_any i hi _).mono ?_; rintro e w5 ⟨rfl, hb5⟩; replace HG := Lib.hid (below_keep hb5 HG.out); replace HJ := Lib.hid (below_keep hb5 HJ.out); replace HB := Lib.hid (HB.out.trans (hb5.mono HB.out.size)); clear hb5))
      go_upto_region 9 with (first
        | (refine wpList_load_mid rfl _ (.tmp 37) rfl g 0 rfl (insCells i).toList _ (HR.out _ HG.out) Tryd.underlying24 rfl ?_ ?_; kernel_rfl)
        | (go_at_call 19; refine (rencode_any i hi _).mono ?_; rintro e w6 ⟨rfl, hb6⟩; replace HG := Lib.hid (below_keep hb6 HG.out); replace HJ := Lib.hid (below_keep hb6 HJ.out); replace HB := Lib.hid (HB.out.trans (hb6.mono HB.out.size)); clear hb6))
      have hzg6 := (Array.getElem?_eq_some_iff.1 HG.out).1
      have hzj6 := (Array.getElem?_eq_some_iff.1 HJ.out).1
      refine wp_region_noPanic ?_
      refine wp_region_rely (factOf [isV (.string (strOf (encB i))), isV (.string (strOf (encB i))), isV (.bool false), isV (.bool false), isV (.int .i64 (encE i)), isV (.int .i64 (encE i)), isV (.bool false), isV (.bool false), isV (.bool false), isV (.int .i64 0), isV (.pointer (some ⟨g, 0, none⟩)), isV (.agg (insCells i)), isV (.bool (validS i)), isV (.int .i64 0), isV (.pointer (some ⟨g, 0, none⟩)), isV (.agg (insCells i)), isV (.bool (validS i)), isV (.bool false), isV (.bool false), isV (.bool false), isV (.int .i64 0), isV (.pointer (some ⟨g, 0, none⟩)), isV (.agg (insCells i)), isV (.bool (validS i)), isV (.int .i64 (encE i)), isV (.bool (validS i)), isV (.bool false), isV (.bool false)]) (nth [[0], [1], [2], [3], [4], [5], [6], [7], [8], [9], [10], [11], [12], [13], [14], [15], [16], [17], [18], [19], [20], [21], [22], [23], [24], [25], [26], [27]]) (nth [[], [], [], [], [], [], [], [], [], [], [], [], [], [], [], [], [], [], [], [], [], [], [], [], [], [], [], []]) (nth [[], [], [0, 1], [2], [3], [3], [4, 5, 3], [3, 6], [7, 3], [8], [9, 8], [10, 8], [11, 8], [8], [13, 8], [14, 8], [15, 12, 8], [12, 16, 8], [8, 17], [18, 16], [19], [20, 19], [21, 19], [22, 19], [19], [24, 19], [23, 25, 19], [19, 26]]) [27] (Kept w.heap.size w w6.heap.size [(g, .cells (three7 i j m) 30 (0, 0)), (gj, .cells (insCells j) 24 (0, 0))]) (by kernel_rfl) (by kernel_rfl) (⟨HB.out.drew, HB.out.size, Nat.le_refl _, by intro x hx; simp at hx; rcases hx with rfl | rfl <;> (show _ < _; omega), HG.out, HJ.out, trivial⟩) (Kept.grow) (GrowsAll.of ((GrowsAll.cons (Grows.isV _)  (GrowsAll.cons (Grows.isV _)  (GrowsAll.cons (Grows.isV _)  (GrowsAll.cons (Grows.isV _)  (GrowsAll.cons (Grows.isV _)  (GrowsAll.cons (Grows.isV _)  (GrowsAll.cons (Grows.isV _)  (GrowsAll.cons (Grows.isV _)  (GrowsAll.cons (Grows.isV _)  (GrowsAll.cons (Grows.isV _)  (GrowsAll.cons (Grows.isV _)  (GrowsAll.cons (Grows.isV _)  (GrowsAll.cons (Grows.isV _)  (GrowsAll.cons (Grows.isV _)  (GrowsAll.cons (Grows.isV _)  (GrowsAll.cons (Grows.isV _)  (GrowsAll.cons (Grows.isV _)  (GrowsAll.cons (Grows.isV _)  (GrowsAll.cons (Grows.isV _)  (GrowsAll.cons (Grows.isV _)  (GrowsAll.cons (Grows.isV _)  (GrowsAll.cons (Grows.isV _)  (GrowsAll.cons (Grows.isV _)  (GrowsAll.cons (Grows.isV _)  (GrowsAll.cons (Grows.isV _)  (GrowsAll.cons (Grows.isV _)  (GrowsAll.cons (Grows.isV _)  (GrowsAll.cons (Grows.isV _) GrowsAll.nil)))))))))))))))))))))))))))))) (fun f F hF => ?_)
      simp only [fullGo, Act.put, List.setIfInBounds_toArray, List.set_cons_zero, List.set_cons_succ, Nat.reduceAdd] at hF
      subst hF
      refine ⟨StepObs.cons ?_ (StepObs.cons ?_ (StepObs.cons ?_ (StepObs.cons ?_ (StepObs.cons ?_ (StepObs.cons ?_ (StepObs.cons ?_ (StepObs.cons ?_ (StepObs.cons ?_ (StepObs.cons ?_ (StepObs.cons ?_ (StepObs.cons ?_ (StepObs.cons ?_ (StepObs.cons ?_ (StepObs.cons ?_ (StepObs.cons ?_ (StepObs.cons ?_ (StepObs.cons ?_ (StepObs.cons ?_ (StepObs.cons ?_ (StepObs.cons ?_ (StepObs.cons ?_ (StepObs.cons ?_ (StepObs.cons ?_ (StepObs.cons ?_ (StepObs.cons ?_ (StepObs.cons ?_ (StepObs.cons ?_ (StepObs.nil)))))))))))))))))))))))))))), ?_⟩
      · intro w7 hS hF K hK
        rw [if_pos (by rfl)]
        refine wp_of_quiet (v := .string (strOf (encB i))) (by (show _ = _); kernel_rfl) (hK.out _ _ rfl (After.lit rfl rfl ?_))
        first | rfl | kernel_rfl
      · intro w7 hS hF K hK
        rw [if_pos (by rfl)]
        refine wp_of_quiet (v := .string (strOf (encB i))) (by (show _ = _); kernel_rfl) (hK.out _ _ rfl (After.lit rfl rfl ?_))
        first | rfl | kernel_rfl
      · intro w7 hS hF K hK
        obtain ⟨e0, e1, -⟩ := hF
        replace e0 : f 0 = _ := e0
        replace e1 : f 1 = _ := e1
        try simp only [e0, e1]
        rw [if_pos (by rfl)]
        go_simp
        refine hK.out _ _ rfl (After.lit rfl rfl ?_)
        first | rfl | kernel_rfl
      · intro w7 hS hF K hK
        obtain ⟨e2, -⟩ := hF
        replace e2 : f 2 = _ := e2
        try simp only [e2]
        rw [if_pos (by rfl)]
        refine wp_of_quiet (v := .bool false) (by (show _ = _); kernel_rfl) (hK.out _ _ rfl (After.lit rfl rfl ?_))
        first | rfl | kernel_rfl
      · intro w7 hS hF K hK
        obtain ⟨e3, -⟩ := hF
        replace e3 : f 3 = _ := e3
        try simp only [e3]
        rw [if_pos (by rfl)]
        refine wp_of_quiet (v := .int .i64 (encE i)) (by (show _ = _); kernel_rfl) (hK.out _ _ rfl (After.lit rfl rfl ?_))
        first | rfl | kernel_rfl
      · intro w7 hS hF K hK
        obtain ⟨e3, -⟩ := hF
        replace e3 : f 3 = _ := e3
        try simp only [e3]
        rw [if_pos (by rfl)]
        refine wp_of_quiet (v := .int .i64 (encE i)) (by (show _ = _); kernel_rfl) (hK.out _ _ rfl (After.lit rfl rfl ?_))
        first | rfl | kernel_rfl
      · intro w7 hS hF K hK
        obtain ⟨e4, e5, e3, -⟩ := hF
        replace e4 : f 4 = _ := e4
        replace e5 : f 5 = _ := e5
        replace e3 : f 3 = _ := e3
        try simp only [e4, e5, e3]
        rw [if_pos (by rfl)]
        go_simp
        refine hK.out _ _ rfl (After.lit rfl rfl ?_)
        first | rfl | kernel_rfl
      · intro w7 hS hF K hK
        obtain ⟨e3, e6, -⟩ := hF
        replace e3 : f 3 = _ := e3
        replace e6 : f 6 = _ := e6
        try simp only [e3, e6]
        rw [if_pos (by rfl)]
        refine wp_of_quiet (v := .bool false) (by (show _ = _); kernel_rfl) (hK.out _ _ rfl (After.lit rfl rfl ?_))
        first | rfl | kernel_rfl
      · intro w7 hS hF K hK
        obtain ⟨e7, e3, -⟩ := hF
        replace e7 : f 7 = _ := e7
        replace e3 : f 3 = _ := e3
        try simp only [e7, e3]
        rw [if_pos (by rfl)]
        refine wp_of_quiet (v := .bool false) (by (show _ = _); kernel_rfl) (hK.out _ _ rfl (After.lit rfl rfl ?_))
        first | rfl | kernel_rfl
      · intro w7 hS hF K hK
        obtain ⟨e8, -⟩ := hF
        replace e8 : f 8 = _ := e8
        try simp only [e8]
        rw [if_pos (by rfl)]
        refine wp_of_quiet (v := .int .i64 0) (by (show _ = _); kernel_rfl) (hK.out _ _ rfl (After.lit rfl rfl ?_))
        first | rfl | kernel_rfl
      · intro w7 hS hF K hK
        obtain ⟨e9, e8, -⟩ := hF
        replace e9 : f 9 = _ := e9
        replace e8 : f 8 = _ := e8
        try simp only [e9, e8]
        rw [if_pos (by rfl)]
        refine wp_of_quiet (v := .pointer (some ⟨g, 0, none⟩)) (by (show _ = _); kernel_rfl) (hK.out _ _ rfl (After.lit rfl rfl ?_))
        first | rfl | kernel_rfl
      · intro w7 hS hF K hK
        obtain ⟨e10, e8, -⟩ := hF
        replace e10 : f 10 = _ := e10
        replace e8 : f 8 = _ := e8
        try simp only [e10, e8]
        rw [if_pos (by rfl)]
        exact wp_of_quiet (exec_load_midE _ _ rfl g 0 rfl (insCells i).toList _ (World.rangeAt_of_block hS.2.2.2.2.1 0 7) Tryd.underlying24 rfl (by kernel_rfl)) (hK.out _ _ rfl (After.lit rfl rfl (by first | rfl | kernel_rfl)))
      · intro w7 hS hF K hK
        obtain ⟨e11, e8, -⟩ := hF
        replace e11 : f 11 = _ := e11
        replace e8 : f 8 = _ := e8
        try simp only [e11, e8]
        rw [if_pos (by rfl)]
        go_simp
        refine (valid_any i hi _).mono ?_; rintro e w8 ⟨rfl, hbelow⟩; go_simp
        refine hK.out _ _ rfl (After.litB rfl rfl hbelow ?_)
        first | rfl | kernel_rfl
      · intro w7 hS hF K hK
        obtain ⟨e8, -⟩ := hF
        replace e8 : f 8 = _ := e8
        try simp only [e8]
        rw [if_pos (by rfl)]
        refine wp_of_quiet (v := .int .i64 0) (by (show _ = _); kernel_rfl) (hK.out _ _ rfl (After.lit rfl rfl ?_))
        first | rfl | kernel_rfl
      · intro w7 hS hF K hK
        obtain ⟨e13, e8, -⟩ := hF
        replace e13 : f 13 = _ := e13
        replace e8 : f 8 = _ := e8
        try simp only [e13, e8]
        rw [if_pos (by rfl)]
        refine wp_of_quiet (v := .pointer (some ⟨g, 0, none⟩)) (by (show _ = _); kernel_rfl) (hK.out _ _ rfl (After.lit rfl rfl ?_))
        first | rfl | kernel_rfl
      · intro w7 hS hF K hK
        obtain ⟨e14, e8, -⟩ := hF
        replace e14 : f 14 = _ := e14
        replace e8 : f 8 = _ := e8
        try simp only [e14, e8]
        rw [if_pos (by rfl)]
        exact wp_of_quiet (exec_load_midE _ _ rfl g 0 rfl (insCells i).toList _ (World.rangeAt_of_block hS.2.2.2.2.1 0 7) Tryd.underlying24 rfl (by kernel_rfl)) (hK.out _ _ rfl (After.lit rfl rfl (by first | rfl | kernel_rfl)))
      · intro w7 hS hF K hK
        obtain ⟨e15, e12, e8, -⟩ := hF
        replace e15 : f 15 = _ := e15
        replace e12 : f 12 = _ := e12
        replace e8 : f 8 = _ := e8
        try simp only [e15, e12, e8]
        rw [if_pos (by rfl)]
        go_simp
        refine (rvalid_same i hi _).mono ?_; rintro e w8 ⟨rfl, hbelow⟩; go_simp
        refine hK.out _ _ rfl (After.litB rfl rfl hbelow ?_)
        first | rfl | kernel_rfl
      · intro w7 hS hF K hK
        obtain ⟨e12, e16, e8, -⟩ := hF
        replace e12 : f 12 = _ := e12
        replace e16 : f 16 = _ := e16
        replace e8 : f 8 = _ := e8
        try simp only [e12, e16, e8]
        rw [if_pos (by rfl)]
        go_simp
        refine hK.out _ _ rfl (After.lit rfl rfl ?_)
        first | rfl | kernel_rfl
      · intro w7 hS hF K hK
        obtain ⟨e8, e17, -⟩ := hF
        replace e8 : f 8 = _ := e8
        replace e17 : f 17 = _ := e17
        try simp only [e8, e17]
        rw [if_pos (by rfl)]
        refine wp_of_quiet (v := .bool false) (by (show _ = _); kernel_rfl) (hK.out _ _ rfl (After.lit rfl rfl ?_))
        first | rfl | kernel_rfl
      · intro w7 hS hF K hK
        obtain ⟨e18, e16, -⟩ := hF
        replace e18 : f 18 = _ := e18
        replace e16 : f 16 = _ := e16
        try simp only [e18, e16]
        rw [if_pos (by rfl)]
        refine wp_of_quiet (v := .bool false) (by (show _ = _); kernel_rfl) (hK.out _ _ rfl (After.lit rfl rfl ?_))
        first | rfl | kernel_rfl
      · intro w7 hS hF K hK
        obtain ⟨e19, -⟩ := hF
        replace e19 : f 19 = _ := e19
        try simp only [e19]
        rw [if_pos (by rfl)]
        refine wp_of_quiet (v := .int .i64 0) (by (show _ = _); kernel_rfl) (hK.out _ _ rfl (After.lit rfl rfl ?_))
        first | rfl | kernel_rfl
      · intro w7 hS hF K hK
        obtain ⟨e20, e19, -⟩ := hF
        replace e20 : f 20 = _ := e20
        replace e19 : f 19 = _ := e19
        try simp only [e20, e19]
        rw [if_pos (by rfl)]
        refine wp_of_quiet (v := .pointer (some ⟨g, 0, none⟩)) (by (show _ = _); kernel_rfl) (hK.out _ _ rfl (After.lit rfl rfl ?_))
        first | rfl | kernel_rfl
      · intro w7 hS hF K hK
        obtain ⟨e21, e19, -⟩ := hF
        replace e21 : f 21 = _ := e21
        replace e19 : f 19 = _ := e19
        try simp only [e21, e19]
        rw [if_pos (by rfl)]
        exact wp_of_quiet (exec_load_midE _ _ rfl g 0 rfl (insCells i).toList _ (World.rangeAt_of_block hS.2.2.2.2.1 0 7) Tryd.underlying24 rfl (by kernel_rfl)) (hK.out _ _ rfl (After.lit rfl rfl (by first | rfl | kernel_rfl)))
      · intro w7 hS hF K hK
        obtain ⟨e22, e19, -⟩ := hF
        replace e22 : f 22 = _ := e22
        replace e19 : f 19 = _ := e19
        try simp only [e22, e19]
        rw [if_pos (by rfl)]
        go_simp
        refine (valid_any i hi _).mono ?_; rintro e w8 ⟨rfl, hbelow⟩; go_simp
        refine hK.out _ _ rfl (After.litB rfl rfl hbelow ?_)
        first | rfl | kernel_rfl
      · intro w7 hS hF K hK
        obtain ⟨e19, -⟩ := hF
        replace e19 : f 19 = _ := e19
        try simp only [e19]
        rw [if_pos (by rfl)]
        refine wp_of_quiet (v := .int .i64 (encE i)) (by (show _ = _); kernel_rfl) (hK.out _ _ rfl (After.lit rfl rfl ?_))
        first | rfl | kernel_rfl
      · intro w7 hS hF K hK
        obtain ⟨e24, e19, -⟩ := hF
        replace e24 : f 24 = _ := e24
        replace e19 : f 19 = _ := e19
        try simp only [e24, e19]
        rw [if_pos (by rfl)]
        refine wp_of_quiet (v := .bool (encE i == 0)) (by (show _ = _); kernel_rfl) (hK.out _ _ rfl (After.lit rfl rfl (congrArg Value.bool HZi.out)))
      · intro w7 hS hF K hK
        obtain ⟨e23, e25, e19, -⟩ := hF
        replace e23 : f 23 = _ := e23
        replace e25 : f 25 = _ := e25
        replace e19 : f 19 = _ := e19
        try simp only [e23, e25, e19]
        rw [if_pos (by rfl)]
        go_simp
        refine hK.out _ _ rfl (After.lit rfl rfl ?_)
        first | rfl | kernel_rfl
      · intro w7 hS hF K hK
        obtain ⟨e19, e26, -⟩ := hF
        replace e19 : f 19 = _ := e19
        replace e26 : f 26 = _ := e26
        try simp only [e19, e26]
        rw [if_pos (by rfl)]
        refine wp_of_quiet (v := .bool false) (by (show _ = _); kernel_rfl) (hK.out _ _ rfl (After.lit rfl rfl ?_))
        first | rfl | kernel_rfl
      intro w7 hS hF
      obtain ⟨e27, -⟩ := hF
      replace e27 : f 27 = _ := e27
      try simp only [e27]
      refine NoPanic.normal ?_
      go_wp2_with fail
      go_roundw
      case rel => exact ⟨1, by omega, rfl, Lib.hid hS.1, Lib.hid hS.2.2.2.2.1, Lib.hid hS.2.2.2.2.2.1, (Array.getElem?_eq_some_iff.1 hS.2.2.2.2.1).1, (Array.getElem?_eq_some_iff.1 hS.2.2.2.2.2.1).1⟩
      case measure => simp [intOf]
    · have HR := Lib.hid (fun (W : World) (h : W.heap[g]? = some (.cells (three7 i j m) 30 (0, 0))) => (World.rangeAt_of_block h 7 7 : W.rangeAt g 7 (insCells j).toList))
      go_upto_region 8 with (first
        | (refine wpList_load_mid rfl _ (.tmp 30) rfl g 7 rfl (insCells j).toList _ (HR.out _ HG.out) Tryd.underlying24 rfl ?_ ?_; kernel_rfl)
        | (go_at_call 18; refine (encode_any j hj _).mono ?_; rintro e w5 ⟨rfl, hb5⟩; replace HG := Lib.hid (below_keep hb5 HG.out); replace HJ := Lib.hid (below_keep hb5 HJ.out); replace HB := Lib.hid (HB.out.trans (hb5.mono HB.out.size)); clear hb5))
      go_upto_region 9 with (first
        | (refine wpList_load_mid rfl _ (.tmp 37) rfl g 7 rfl (insCells j).toList _ (HR.out _ HG.out) Tryd.underlying24 rfl ?_ ?_; kernel_rfl)
        | (go_at_call 19; refine (rencode_any j hj _).mono ?_; rintro e w6 ⟨rfl, hb6⟩; replace HG := Lib.hid (below_keep hb6 HG.out); replace HJ := Lib.hid (below_keep hb6 HJ.out); replace HB := Lib.hid (HB.out.trans (hb6.mono HB.out.size)); clear hb6))
      have hzg6 := (Array.getElem?_eq_some_iff.1 HG.out).1
      have hzj6 := (Array.getElem?_eq_some_iff.1 HJ.out).1
      refine wp_region_noPanic ?_
      refine wp_region_rely (factOf [isV (.string (strOf (encB j))), isV (.string (strOf (encB j))), isV (.bool false), isV (.bool false), isV (.int .i64 (encE j)), isV (.int .i64 (encE j)), isV (.bool false), isV (.bool false), isV (.bool false), isV (.int .i64 1), isV (.pointer (some ⟨g, 7, none⟩)), isV (.agg (insCells j)), isV (.bool (validS j)), isV (.int .i64 1), isV (.pointer (some ⟨g, 7, none⟩)), isV (.agg (insCells j)), isV (.bool (validS j)), isV (.bool false), isV (.bool false), isV (.bool false), isV (.int .i64 1), isV (.pointer (some ⟨g, 7, none⟩)), isV (.agg (insCells j)), isV (.bool (validS j)), isV (.int .i64 (encE j)), isV (.bool (validS j)), isV (.bool false), isV (.bool false)]) (nth [[0], [1], [2], [3], [4], [5], [6], [7], [8], [9], [10], [11], [12], [13], [14], [15], [16], [17], [18], [19], [20], [21], [22], [23], [24], [25], [26], [27]]) (nth [[], [], [], [], [], [], [], [], [], [], [], [], [], [], [], [], [], [], [], [], [], [], [], [], [], [], [], []]) (nth [[], [], [0, 1], [2], [3], [3], [4, 5, 3], [3, 6], [7, 3], [8], [9, 8], [10, 8], [11, 8], [8], [13, 8], [14, 8], [15, 12, 8], [12, 16, 8], [8, 17], [18, 16], [19], [20, 19], [21, 19], [22, 19], [19], [24, 19], [23, 25, 19], [19, 26]]) [27] (Kept w.heap.size w w6.heap.size [(g, .cells (three7 i j m) 30 (0, 0)), (gj, .cells (insCells j) 24 (0, 0))]) (by kernel_rfl) (by kernel_rfl) (⟨HB.out.drew, HB.out.size, Nat.le_refl _, by intro x hx; simp at hx; rcases hx with rfl | rfl <;> (show _ < _; omega), HG.out, HJ.out, trivial⟩) (Kept.grow) (GrowsAll.of ((GrowsAll.cons (Grows.isV _)  (GrowsAll.cons (Grows.isV _)  (GrowsAll.cons (Grows.isV _)  (GrowsAll.cons (Grows.isV _)  (GrowsAll.cons (Grows.isV _)  (GrowsAll.cons (Grows.isV _)  (GrowsAll.cons (Grows.isV _)  (GrowsAll.cons (Grows.isV _)  (GrowsAll.cons (Grows.isV _)  (GrowsAll.cons (Grows.isV _)  (GrowsAll.cons (Grows.isV _)  (GrowsAll.cons (Grows.isV _)  (GrowsAll.cons (Grows.isV _)  (GrowsAll.cons (Grows.isV _)  (GrowsAll.cons (Grows.isV _)  (GrowsAll.cons (Grows.isV _)  (GrowsAll.cons (Grows.isV _)  (GrowsAll.cons (Grows.isV _)  (GrowsAll.cons (Grows.isV _)  (GrowsAll.cons (Grows.isV _)  (GrowsAll.cons (Grows.isV _)  (GrowsAll.cons (Grows.isV _)  (GrowsAll.cons (Grows.isV _)  (GrowsAll.cons (Grows.isV _)  (GrowsAll.cons (Grows.isV _)  (GrowsAll.cons (Grows.isV _)  (GrowsAll.cons (Grows.isV _)  (GrowsAll.cons (Grows.isV _) GrowsAll.nil)))))))))))))))))))))))))))))) (fun f F hF => ?_)
      simp only [fullGo, Act.put, List.setIfInBounds_toArray, List.set_cons_zero, List.set_cons_succ, Nat.reduceAdd] at hF
      subst hF
      refine ⟨StepObs.cons ?_ (StepObs.cons ?_ (StepObs.cons ?_ (StepObs.cons ?_ (StepObs.cons ?_ (StepObs.cons ?_ (StepObs.cons ?_ (StepObs.cons ?_ (StepObs.cons ?_ (StepObs.cons ?_ (StepObs.cons ?_ (StepObs.cons ?_ (StepObs.cons ?_ (StepObs.cons ?_ (StepObs.cons ?_ (StepObs.cons ?_ (StepObs.cons ?_ (StepObs.cons ?_ (StepObs.cons ?_ (StepObs.cons ?_ (StepObs.cons ?_ (StepObs.cons ?_ (StepObs.cons ?_ (StepObs.cons ?_ (StepObs.cons ?_ (StepObs.cons ?_ (StepObs.cons ?_ (StepObs.cons ?_ (StepObs.nil)))))))))))))))))))))))))))), ?_⟩
      · intro w7 hS hF K hK
        rw [if_pos (by rfl)]
        refine wp_of_quiet (v := .string (strOf (encB j))) (by (show _ = _); kernel_rfl) (hK.out _ _ rfl (After.lit rfl rfl ?_))
        first | rfl | kernel_rfl
      · intro w7 hS hF K hK
        rw [if_pos (by rfl)]
        refine wp_of_quiet (v := .string (strOf (encB j))) (by (show _ = _); kernel_rfl) (hK.out _ _ rfl (After.lit rfl rfl ?_))
        first | rfl | kernel_rfl
      · intro w7 hS hF K hK
        obtain ⟨e0, e1, -⟩ := hF
        replace e0 : f 0 = _ := e0
        replace e1 : f 1 = _ := e1
        try simp only [e0, e1]
        rw [if_pos (by rfl)]
        go_simp
        refine hK.out _ _ rfl (After.lit rfl rfl ?_)
        first | rfl | kernel_rfl
      · intro w7 hS hF K hK
        obtain ⟨e2, -⟩ := hF
        replace e2 : f 2 = _ := e2
        try simp only [e2]
        rw [if_pos (by rfl)]
        refine wp_of_quiet (v := .bool false) (by (show _ = _); kernel_rfl) (hK.out _ _ rfl (After.lit rfl rfl ?_))
        first | rfl | kernel_rfl
      · intro w7 hS hF K hK
        obtain ⟨e3, -⟩ := hF
        replace e3 : f 3 = _ := e3
        try simp only [e3]
        rw [if_pos (by rfl)]
        refine wp_of_quiet (v := .int .i64 (encE j)) (by (show _ = _); kernel_rfl) (hK.out _ _ rfl (After.lit rfl rfl ?_))
        first | rfl | kernel_rfl
      · intro w7 hS hF K hK
        obtain ⟨e3, -⟩ := hF
        replace e3 : f 3 = _ := e3
        try simp only [e3]
        rw [if_pos (by rfl)]
        refine wp_of_quiet (v := .int .i64 (encE j)) (by (show _ = _); kernel_rfl) (hK.out _ _ rfl (After.lit rfl rfl ?_))
        first | rfl | kernel_rfl
      · intro w7 hS hF K hK
        obtain ⟨e4, e5, e3, -⟩ := hF
        replace e4 : f 4 = _ := e4
        replace e5 : f 5 = _ := e5
        replace e3 : f 3 = _ := e3
        try simp only [e4, e5, e3]
        rw [if_pos (by rfl)]
        go_simp
        refine hK.out _ _ rfl (After.lit rfl rfl ?_)
        first | rfl | kernel_rfl
      · intro w7 hS hF K hK
        obtain ⟨e3, e6, -⟩ := hF
        replace e3 : f 3 = _ := e3
        replace e6 : f 6 = _ := e6
        try simp only [e3, e6]
        rw [if_pos (by rfl)]
        refine wp_of_quiet (v := .bool false) (by (show _ = _); kernel_rfl) (hK.out _ _ rfl (After.lit rfl rfl ?_))
        first | rfl | kernel_rfl
      · intro w7 hS hF K hK
        obtain ⟨e7, e3, -⟩ := hF
        replace e7 : f 7 = _ := e7
        replace e3 : f 3 = _ := e3
        try simp only [e7, e3]
        rw [if_pos (by rfl)]
        refine wp_of_quiet (v := .bool false) (by (show _ = _); kernel_rfl) (hK.out _ _ rfl (After.lit rfl rfl ?_))
        first | rfl | kernel_rfl
      · intro w7 hS hF K hK
        obtain ⟨e8, -⟩ := hF
        replace e8 : f 8 = _ := e8
        try simp only [e8]
        rw [if_pos (by rfl)]
        refine wp_of_quiet (v := .int .i64 1) (by (show _ = _); kernel_rfl) (hK.out _ _ rfl (After.lit rfl rfl ?_))
        first | rfl | kernel_rfl
      · intro w7 hS hF K hK
        obtain ⟨e9, e8, -⟩ := hF
        replace e9 : f 9 = _ := e9
        replace e8 : f 8 = _ := e8
        try simp only [e9, e8]
        rw [if_pos (by rfl)]
        refine wp_of_quiet (v := .pointer (some ⟨g, 7, none⟩)) (by (show _ = _); kernel_rfl) (hK.out _ _ rfl (After.lit rfl rfl ?_))
        first | rfl | kernel_rfl
      · intro w7 hS hF K hK
        obtain ⟨e10, e8, -⟩ := hF
        replace e10 : f 10 = _ := e10
        replace e8 : f 8 = _ := e8
        try simp only [e10, e8]
        rw [if_pos (by rfl)]
        exact wp_of_quiet (exec_load_midE _ _ rfl g 7 rfl (insCells j).toList _ (World.rangeAt_of_block hS.2.2.2.2.1 7 7) Tryd.underlying24 rfl (by kernel_rfl)) (hK.out _ _ rfl (After.lit rfl rfl (by first | rfl | kernel_rfl)))
      · intro w7 hS hF K hK
        obtain ⟨e11, e8, -⟩ := hF
        replace e11 : f 11 = _ := e11
        replace e8 : f 8 = _ := e8
        try simp only [e11, e8]
        rw [if_pos (by rfl)]
        go_simp
        refine (valid_any j hj _).mono ?_; rintro e w8 ⟨rfl, hbelow⟩; go_simp
        refine hK.out _ _ rfl (After.litB rfl rfl hbelow ?_)
        first | rfl | kernel_rfl
      · intro w7 hS hF K hK
        obtain ⟨e8, -⟩ := hF
        replace e8 : f 8 = _ := e8
        try simp only [e8]
        rw [if_pos (by rfl)]
        refine wp_of_quiet (v := .int .i64 1) (by (show _ = _); kernel_rfl) (hK.out _ _ rfl (After.lit rfl rfl ?_))
        first | rfl | kernel_rfl
      · intro w7 hS hF K hK
        obtain ⟨e13, e8, -⟩ := hF
        replace e13 : f 13 = _ := e13
        replace e8 : f 8 = _ := e8
        try simp only [e13, e8]
        rw [if_pos (by rfl)]
        refine wp_of_quiet (v := .pointer (some ⟨g, 7, none⟩)) (by (show _ = _); kernel_rfl) (hK.out _ _ rfl (After.lit rfl rfl ?_))
        first | rfl | kernel_rfl
      · intro w7 hS hF K hK
        obtain ⟨e14, e8, -⟩ := hF
        replace e14 : f 14 = _ := e14
        replace e8 : f 8 = _ := e8
        try simp only [e14, e8]
        rw [if_pos (by rfl)]
        exact wp_of_quiet (exec_load_midE _ _ rfl g 7 rfl (insCells j).toList _ (World.rangeAt_of_block hS.2.2.2.2.1 7 7) Tryd.underlying24 rfl (by kernel_rfl)) (hK.out _ _ rfl (After.lit rfl rfl (by first | rfl | kernel_rfl)))
      · intro w7 hS hF K hK
        obtain ⟨e15, e12, e8, -⟩ := hF
        replace e15 : f 15 = _ := e15
        replace e12 : f 12 = _ := e12
        replace e8 : f 8 = _ := e8
        try simp only [e15, e12, e8]
        rw [if_pos (by rfl)]
        go_simp
        refine (rvalid_same j hj _).mono ?_; rintro e w8 ⟨rfl, hbelow⟩; go_simp
        refine hK.out _ _ rfl (After.litB rfl rfl hbelow ?_)
        first | rfl | kernel_rfl
      · intro w7 hS hF K hK
        obtain ⟨e12, e16, e8, -⟩ := hF
        replace e12 : f 12 = _ := e12
        replace e16 : f 16 = _ := e16
        replace e8 : f 8 = _ := e8
        try simp only [e12, e16, e8]
        rw [if_pos (by rfl)]
        go_simp
        refine hK.out _ _ rfl (After.lit rfl rfl ?_)
        first | rfl | kernel_rfl
      · intro w7 hS hF K hK
        obtain ⟨e8, e17, -⟩ := hF
        replace e8 : f 8 = _ := e8
        replace e17 : f 17 = _ := e17
        try simp only [e8, e17]
        rw [if_pos (by rfl)]
        refine wp_of_quiet (v := .bool false) (by (show _ = _); kernel_rfl) (hK.out _ _ rfl (After.lit rfl rfl ?_))
        first | rfl | kernel_rfl
      · intro w7 hS hF K hK
        obtain ⟨e18, e16, -⟩ := hF
        replace e18 : f 18 = _ := e18
        replace e16 : f 16 = _ := e16
        try simp only [e18, e16]
        rw [if_pos (by rfl)]
        refine wp_of_quiet (v := .bool false) (by (show _ = _); kernel_rfl) (hK.out _ _ rfl (After.lit rfl rfl ?_))
        first | rfl | kernel_rfl
      · intro w7 hS hF K hK
        obtain ⟨e19, -⟩ := hF
        replace e19 : f 19 = _ := e19
        try simp only [e19]
        rw [if_pos (by rfl)]
        refine wp_of_quiet (v := .int .i64 1) (by (show _ = _); kernel_rfl) (hK.out _ _ rfl (After.lit rfl rfl ?_))
        first | rfl | kernel_rfl
      · intro w7 hS hF K hK
        obtain ⟨e20, e19, -⟩ := hF
        replace e20 : f 20 = _ := e20
        replace e19 : f 19 = _ := e19
        try simp only [e20, e19]
        rw [if_pos (by rfl)]
        refine wp_of_quiet (v := .pointer (some ⟨g, 7, none⟩)) (by (show _ = _); kernel_rfl) (hK.out _ _ rfl (After.lit rfl rfl ?_))
        first | rfl | kernel_rfl
      · intro w7 hS hF K hK
        obtain ⟨e21, e19, -⟩ := hF
        replace e21 : f 21 = _ := e21
        replace e19 : f 19 = _ := e19
        try simp only [e21, e19]
        rw [if_pos (by rfl)]
        exact wp_of_quiet (exec_load_midE _ _ rfl g 7 rfl (insCells j).toList _ (World.rangeAt_of_block hS.2.2.2.2.1 7 7) Tryd.underlying24 rfl (by kernel_rfl)) (hK.out _ _ rfl (After.lit rfl rfl (by first | rfl | kernel_rfl)))
      · intro w7 hS hF K hK
        obtain ⟨e22, e19, -⟩ := hF
        replace e22 : f 22 = _ := e22
        replace e19 : f 19 = _ := e19
        try simp only [e22, e19]
        rw [if_pos (by rfl)]
        go_simp
        refine (valid_any j hj _).mono ?_; rintro e w8 ⟨rfl, hbelow⟩; go_simp
        refine hK.out _ _ rfl (After.litB rfl rfl hbelow ?_)
        first | rfl | kernel_rfl
      · intro w7 hS hF K hK
        obtain ⟨e19, -⟩ := hF
        replace e19 : f 19 = _ := e19
        try simp only [e19]
        rw [if_pos (by rfl)]
        refine wp_of_quiet (v := .int .i64 (encE j)) (by (show _ = _); kernel_rfl) (hK.out _ _ rfl (After.lit rfl rfl ?_))
        first | rfl | kernel_rfl
      · intro w7 hS hF K hK
        obtain ⟨e24, e19, -⟩ := hF
        replace e24 : f 24 = _ := e24
        replace e19 : f 19 = _ := e19
        try simp only [e24, e19]
        rw [if_pos (by rfl)]
        refine wp_of_quiet (v := .bool (encE j == 0)) (by (show _ = _); kernel_rfl) (hK.out _ _ rfl (After.lit rfl rfl (congrArg Value.bool HZj.out)))
      · intro w7 hS hF K hK
        obtain ⟨e23, e25, e19, -⟩ := hF
        replace e23 : f 23 = _ := e23
        replace e25 : f 25 = _ := e25
        replace e19 : f 19 = _ := e19
        try simp only [e23, e25, e19]
        rw [if_pos (by rfl)]
        go_simp
        refine hK.out _ _ rfl (After.lit rfl rfl ?_)
        first | rfl | kernel_rfl
      · intro w7 hS hF K hK
        obtain ⟨e19, e26, -⟩ := hF
        replace e19 : f 19 = _ := e19
        replace e26 : f 26 = _ := e26
        try simp only [e19, e26]
        rw [if_pos (by rfl)]
        refine wp_of_quiet (v := .bool false) (by (show _ = _); kernel_rfl) (hK.out _ _ rfl (After.lit rfl rfl ?_))
        first | rfl | kernel_rfl
      intro w7 hS hF
      obtain ⟨e27, -⟩ := hF
      replace e27 : f 27 = _ := e27
      try simp only [e27]
      refine NoPanic.normal ?_
      go_wp2_with fail
      go_roundw
      case rel => exact ⟨2, by omega, rfl, Lib.hid hS.1, Lib.hid hS.2.2.2.2.1, Lib.hid hS.2.2.2.2.2.1, (Array.getElem?_eq_some_iff.1 hS.2.2.2.2.1).1, (Array.getElem?_eq_some_iff.1 hS.2.2.2.2.2.1).1⟩
      case measure => simp [intOf]
    · have HR := Lib.hid (fun (W : World) (h : W.heap[g]? = some (.cells (three7 i j m) 30 (0, 0))) => (World.rangeAt_of_block h 14 7 : W.rangeAt g 14 (insCells m).toList))
      go_upto_region 8 with (first
        | (refine wpList_load_mid rfl _ (.tmp 30) rfl g 14 rfl (insCells m).toList _ (HR.out _ HG.out) Tryd.underlying24 rfl ?_ ?_; kernel_rfl)
        | (go_at_call 18; refine (encode_any m hm _).mono ?_; rintro e w5 ⟨rfl, hb5⟩; replace HG := Lib.hid (below_keep hb5 HG.out); replace HJ := Lib.hid (below_keep hb5 HJ.out); replace HB := Lib.hid (HB.out.trans (hb5.mono HB.out.size)); clear hb5))
      go_upto_region 9 with (first
        | (refine wpList_load_mid rfl _ (.tmp 37) rfl g 14 rfl (insCells m).toList _ (HR.out _ HG.out) Tryd.underlying24 rfl ?_ ?_; kernel_rfl)
        | (go_at_call 19; refine (rencode_any m hm _).mono ?_; rintro e w6 ⟨rfl, hb6⟩; replace HG := Lib.hid (below_keep hb6 HG.out); replace HJ := Lib.hid (below_keep hb6 HJ.out); replace HB := Lib.hid (HB.out.trans (hb6.mono HB.out.size)); clear hb6))
      have hzg6 := (Array.getElem?_eq_some_iff.1 HG.out).1
      have hzj6 := (Array.getElem?_eq_some_iff.1 HJ.out).1
      refine wp_region_noPanic ?_
      refine wp_region_rely (factOf [isV (.string (strOf (encB m))), isV (.string (strOf (encB m))), isV (.bool false), isV (.bool false), isV (.int .i64 (encE m)), isV (.int .i64 (encE m)), isV (.bool false), isV (.bool false), isV (.bool false), isV (.int .i64 2), isV (.pointer (some ⟨g, 14, none⟩)), isV (.agg (insCells m)), isV (.bool (validS m)), isV (.int .i64 2), isV (.pointer (some ⟨g, 14, none⟩)), isV (.agg (insCells m)), isV (.bool (validS m)), isV (.bool false), isV (.bool false), isV (.bool false), isV (.int .i64 2), isV (.pointer (some ⟨g, 14, none⟩)), isV (.agg (insCells m)), isV (.bool (validS m)), isV (.int .i64 (encE m)), isV (.bool (validS m)), isV (.bool false), isV (.bool false)]) (nth [[0], [1], [2], [3], [4], [5], [6], [7], [8], [9], [10], [11], [12], [13], [14], [15], [16], [17], [18], [19], [20], [21], [22], [23], [24], [25], [26], [27]]) (nth [[], [], [], [], [], [], [], [], [], [], [], [], [], [], [], [], [], [], [], [], [], [], [], [], [], [], [], []]) (nth [[], [], [0, 1], [2], [3], [3], [4, 5, 3], [3, 6], [7, 3], [8], [9, 8], [10, 8], [11, 8], [8], [13, 8], [14, 8], [15, 12, 8], [12, 16, 8], [8, 17], [18, 16], [19], [20, 19], [21, 19], [22, 19], [19], [24, 19], [23, 25, 19], [19, 26]]) [27] (Kept w.heap.size w w6.heap.size [(g, .cells (three7 i j m) 30 (0, 0)), (gj, .cells (insCells j) 24 (0, 0))]) (by kernel_rfl) (by kernel_rfl) (⟨HB.out.drew, HB.out.size, Nat.le_refl _, by intro x hx; simp at hx; rcases hx with rfl | rfl <;> (show _ < _; omega), HG.out, HJ.out, trivial⟩) (Kept.grow) (GrowsAll.of ((GrowsAll.cons (Grows.isV _)  (GrowsAll.cons (Grows.isV _)  (GrowsAll.cons (Grows.isV _)  (GrowsAll.cons (Grows.isV _)  (GrowsAll.cons (Grows.isV _)  (GrowsAll.cons (Grows.isV _)  (GrowsAll.cons (Grows.isV _)  (GrowsAll.cons (Grows.isV _)  (GrowsAll.cons (Grows.isV _)  (GrowsAll.cons (Grows.isV _)  (GrowsAll.cons (Grows.isV _)  (GrowsAll.cons (Grows.isV _)  (GrowsAll.cons (Grows.isV _)  (GrowsAll.cons (Grows.isV _)  (GrowsAll.cons (Grows.isV _)  (GrowsAll.cons (Grows.isV _)  (GrowsAll.cons (Grows.isV _)  (GrowsAll.cons (Grows.isV _)  (GrowsAll.cons (Grows.isV _)  (GrowsAll.cons (Grows.isV _)  (GrowsAll.cons (Grows.isV _)  (GrowsAll.cons (Grows.isV _)  (GrowsAll.cons (Grows.isV _)  (GrowsAll.cons (Grows.isV _)  (GrowsAll.cons (Grows.isV _)  (GrowsAll.cons (Grows.isV _)  (GrowsAll.cons (Grows.isV _)  (GrowsAll.cons (Grows.isV _) GrowsAll.nil)))))))))))))))))))))))))))))) (fun f F hF => ?_)
      simp only [fullGo, Act.put, List.setIfInBounds_toArray, List.set_cons_zero, List.set_cons_succ, Nat.reduceAdd] at hF
      subst hF
      refine ⟨StepObs.cons ?_ (StepObs.cons ?_ (StepObs.cons ?_ (StepObs.cons ?_ (StepObs.cons ?_ (StepObs.cons ?_ (StepObs.cons ?_ (StepObs.cons ?_ (StepObs.cons ?_ (StepObs.cons ?_ (StepObs.cons ?_ (StepObs.cons ?_ (StepObs.cons ?_ (StepObs.cons ?_ (StepObs.cons ?_ (StepObs.cons ?_ (StepObs.cons ?_ (StepObs.cons ?_ (StepObs.cons ?_ (StepObs.cons ?_ (StepObs.cons ?_ (StepObs.cons ?_ (StepObs.cons ?_ (StepObs.cons ?_ (StepObs.cons ?_ (StepObs.cons ?_ (StepObs.cons ?_ (StepObs.cons ?_ (StepObs.nil)))))))))))))))))))))))))))), ?_⟩
      · intro w7 hS hF K hK
        rw [if_pos (by rfl)]
        refine wp_of_quiet (v := .string (strOf (encB m))) (by (show _ = _); kernel_rfl) (hK.out _ _ rfl (After.lit rfl rfl ?_))
        first | rfl | kernel_rfl
      · intro w7 hS hF K hK
        rw [if_pos (by rfl)]
        refine wp_of_quiet (v := .string (strOf (encB m))) (by (show _ = _); kernel_rfl) (hK.out _ _ rfl (After.lit rfl rfl ?_))
        first | rfl | kernel_rfl
      · intro w7 hS hF K hK
        obtain ⟨e0, e1, -⟩ := hF
        replace e0 : f 0 = _ := e0
        replace e1 : f 1 = _ := e1
        try simp only [e0, e1]
        rw [if_pos (by rfl)]
        go_simp
        refine hK.out _ _ rfl (After.lit rfl rfl ?_)
        first | rfl | kernel_rfl
      · intro w7 hS hF K hK
        obtain ⟨e2, -⟩ := hF
        replace e2 : f 2 = _ := e2
        try simp only [e2]
        rw [if_pos (by rfl)]
        refine wp_of_quiet (v := .bool false) (by (show _ = _); kernel_rfl) (hK.out _ _ rfl (After.lit rfl rfl ?_))
        first | rfl | kernel_rfl
      · intro w7 hS hF K hK
        obtain ⟨e3, -⟩ := hF
        replace e3 : f 3 = _ := e3
        try simp only [e3]
        rw [if_pos (by rfl)]
        refine wp_of_quiet (v := .int .i64 (encE m)) (by (show _ = _); kernel_rfl) (hK.out _ _ rfl (After.lit rfl rfl ?_))
        first | rfl | kernel_rfl
      · intro w7 hS hF K hK
        obtain ⟨e3, -⟩ := hF
        replace e3 : f 3 = _ := e3
        try simp only [e3]
        rw [if_pos (by rfl)]
        refine wp_of_quiet (v := .int .i64 (encE m)) (by (show _ = _); kernel_rfl) (hK.out _ _ rfl (After.lit rfl rfl ?_))
        first | rfl | kernel_rfl
      · intro w7 hS hF K hK
        obtain ⟨e4, e5, e3, -⟩ := hF
        replace e4 : f 4 = _ := e4
        replace e5 : f 5 = _ := e5
        replace e3 : f 3 = _ := e3
        try simp only [e4, e5, e3]
        rw [if_pos (by rfl)]
        go_simp
        refine hK.out _ _ rfl (After.lit rfl rfl ?_)
        first | rfl | kernel_rfl
      · intro w7 hS hF K hK
        obtain ⟨e3, e6, -⟩ := hF
        replace e3 : f 3 = _ := e3
        replace e6 : f 6 = _ := e6
        try simp only [e3, e6]
        rw [if_pos (by rfl)]
        refine wp_of_quiet (v := .bool false) (by (show _ = _); kernel_rfl) (hK.out _ _ rfl (After.lit rfl rfl ?_))
        first | rfl | kernel_rfl
      · intro w7 hS hF K hK
        obtain ⟨e7, e3, -⟩ := hF
        replace e7 : f 7 = _ := e7
        replace e3 : f 3 = _ := e3
        try simp only [e7, e3]
        rw [if_pos (by rfl)]
        refine wp_of_quiet (v := .bool false) (by (show _ = _); kernel_rfl) (hK.out _ _ rfl (After.lit rfl rfl ?_))
        first | rfl | kernel_rfl
      · intro w7 hS hF K hK
        obtain ⟨e8, -⟩ := hF
        replace e8 : f 8 = _ := e8
        try simp only [e8]
        rw [if_pos (by rfl)]
        refine wp_of_quiet (v := .int .i64 2) (by (show _ = _); kernel_rfl) (hK.out _ _ rfl (After.lit rfl rfl ?_))
        first | rfl | kernel_rfl
      · intro w7 hS hF K hK
        obtain ⟨e9, e8, -⟩ := hF
        replace e9 : f 9 = _ := e9
        replace e8 : f 8 = _ := e8
        try simp only [e9, e8]
        rw [if_pos (by rfl)]
        refine wp_of_quiet (v := .pointer (some ⟨g, 14, none⟩)) (by (show _ = _); kernel_rfl) (hK.out _ _ rfl (After.lit rfl rfl ?_))
        first | rfl | kernel_rfl
      · intro w7 hS hF K hK
        obtain ⟨e10, e8, -⟩ := hF
        replace e10 : f 10 = _ := e10
        replace e8 : f 8 = _ := e8
        try simp only [e10, e8]
        rw [if_pos (by rfl)]
        exact wp_of_quiet (exec_load_midE _ _ rfl g 14 rfl (insCells m).toList _ (World.rangeAt_of_block hS.2.2.2.2.1 14 7) Tryd.underlying24 rfl (by kernel_rfl)) (hK.out _ _ rfl (After.lit rfl rfl (by first | rfl | kernel_rfl)))
      · intro w7 hS hF K hK
        obtain ⟨e11, e8, -⟩ := hF
        replace e11 : f 11 = _ := e11
        replace e8 : f 8 = _ := e8
        try simp only [e11, e8]
        rw [if_pos (by rfl)]
        go_simp
        refine (valid_any m hm _).mono ?_; rintro e w8 ⟨rfl, hbelow⟩; go_simp
        refine hK.out _ _ rfl (After.litB rfl rfl hbelow ?_)
        first | rfl | kernel_rfl
      · intro w7 hS hF K hK
        obtain ⟨e8, -⟩ := hF
        replace e8 : f 8 = _ := e8
        try simp only [e8]
        rw [if_pos (by rfl)]
        refine wp_of_quiet (v := .int .i64 2) (by (show _ = _); kernel_rfl) (hK.out _ _ rfl (After.lit rfl rfl ?_))
        first | rfl | kernel_rfl
      · intro w7 hS hF K hK
        obtain ⟨e13, e8, -⟩ := hF
        replace e13 : f 13 = _ := e13
        replace e8 : f 8 = _ := e8
        try simp only [e13, e8]
        rw [if_pos (by rfl)]
        refine wp_of_quiet (v := .pointer (some ⟨g, 14, none⟩)) (by (show _ = _); kernel_rfl) (hK.out _ _ rfl (After.lit rfl rfl ?_))
        first | rfl | kernel_rfl
      · intro w7 hS hF K hK
        obtain ⟨e14, e8, -⟩ := hF
        replace e14 : f 14 = _ := e14
        replace e8 : f 8 = _ := e8
        try simp only [e14, e8]
        rw [if_pos (by rfl)]
        exact wp_of_quiet (exec_load_midE _ _ rfl g 14 rfl (insCells m).toList _ (World.rangeAt_of_block hS.2.2.2.2.1 14 7) Tryd.underlying24 rfl (by kernel_rfl)) (hK.out _ _ rfl (After.lit rfl rfl (by first | rfl | kernel_rfl)))
      · intro w7 hS hF K hK
        obtain ⟨e15, e12, e8, -⟩ := hF
        replace e15 : f 15 = _ := e15
        replace e12 : f 12 = _ := e12
        replace e8 : f 8 = _ := e8
        try simp only [e15, e12, e8]
        rw [if_pos (by rfl)]
        go_simp
        refine (rvalid_same m hm _).mono ?_; rintro e w8 ⟨rfl, hbelow⟩; go_simp
        refine hK.out _ _ rfl (After.litB rfl rfl hbelow ?_)
        first | rfl | kernel_rfl
      · intro w7 hS hF K hK
        obtain ⟨e12, e16, e8, -⟩ := hF
        replace e12 : f 12 = _ := e12
        replace e16 : f 16 = _ := e16
        replace e8 : f 8 = _ := e8
        try simp only [e12, e16, e8]
        rw [if_pos (by rfl)]
        go_simp
        refine hK.out _ _ rfl (After.lit rfl rfl ?_)
        first | rfl | kernel_rfl
      · intro w7 hS hF K hK
        obtain ⟨e8, e17, -⟩ := hF
        replace e8 : f 8 = _ := e8
        replace e17 : f 17 = _ := e17
        try simp only [e8, e17]
        rw [if_pos (by rfl)]
        refine wp_of_quiet (v := .bool false) (by (show _ = _); kernel_rfl) (hK.out _ _ rfl (After.lit rfl rfl ?_))
        first | rfl | kernel_rfl
      · intro w7 hS hF K hK
        obtain ⟨e18, e16, -⟩ := hF
        replace e18 : f 18 = _ := e18
        replace e16 : f 16 = _ := e16
        try simp only [e18, e16]
        rw [if_pos (by rfl)]
        refine wp_of_quiet (v := .bool false) (by (show _ = _); kernel_rfl) (hK.out _ _ rfl (After.lit rfl rfl ?_))
        first | rfl | kernel_rfl
      · intro w7 hS hF K hK
        obtain ⟨e19, -⟩ := hF
        replace e19 : f 19 = _ := e19
        try simp only [e19]
        rw [if_pos (by rfl)]
        refine wp_of_quiet (v := .int .i64 2) (by (show _ = _); kernel_rfl) (hK.out _ _ rfl (After.lit rfl rfl ?_))
        first | rfl | kernel_rfl
      · intro w7 hS hF K hK
        obtain ⟨e20, e19, -⟩ := hF
        replace e20 : f 20 = _ := e20
        replace e19 : f 19 = _ := e19
        try simp only [e20, e19]
        rw [if_pos (by rfl)]
        refine wp_of_quiet (v := .pointer (some ⟨g, 14, none⟩)) (by (show _ = _); kernel_rfl) (hK.out _ _ rfl (After.lit rfl rfl ?_))
        first | rfl | kernel_rfl
      · intro w7 hS hF K hK
        obtain ⟨e21, e19, -⟩ := hF
        replace e21 : f 21 = _ := e21
        replace e19 : f 19 = _ := e19
        try simp only [e21, e19]
        rw [if_pos (by rfl)]
        exact wp_of_quiet (exec_load_midE _ _ rfl g 14 rfl (insCells m).toList _ (World.rangeAt_of_block hS.2.2.2.2.1 14 7) Tryd.underlying24 rfl (by kernel_rfl)) (hK.out _ _ rfl (After.lit rfl rfl (by first | rfl | kernel_rfl)))
      · intro w7 hS hF K hK
        obtain ⟨e22, e19, -⟩ := hF
        replace e22 : f 22 = _ := e22
        replace e19 : f 19 = _ := e19
        try simp only [e22, e19]
        rw [if_pos (by rfl)]
        go_simp
        refine (valid_any m hm _).mono ?_; rintro e w8 ⟨rfl, hbelow⟩; go_simp
        refine hK.out _ _ rfl (After.litB rfl rfl hbelow ?_)
        first | rfl | kernel_rfl
      · intro w7 hS hF K hK
        obtain ⟨e19, -⟩ := hF
        replace e19 : f 19 = _ := e19
        try simp only [e19]
        rw [if_pos (by rfl)]
        refine wp_of_quiet (v := .int .i64 (encE m)) (by (show _ = _); kernel_rfl) (hK.out _ _ rfl (After.lit rfl rfl ?_))
        first | rfl | kernel_rfl
      · intro w7 hS hF K hK
        obtain ⟨e24, e19, -⟩ := hF
        replace e24 : f 24 = _ := e24
        replace e19 : f 19 = _ := e19
        try simp only [e24, e19]
        rw [if_pos (by rfl)]
        refine wp_of_quiet (v := .bool (encE m == 0)) (by (show _ = _); kernel_rfl) (hK.out _ _ rfl (After.lit rfl rfl (congrArg Value.bool HZm.out)))
      · intro w7 hS hF K hK
        obtain ⟨e23, e25, e19, -⟩ := hF
        replace e23 : f 23 = _ := e23
        replace e25 : f 25 = _ := e25
        replace e19 : f 19 = _ := e19
        try simp only [e23, e25, e19]
        rw [if_pos (by rfl)]
        go_simp
        refine hK.out _ _ rfl (After.lit rfl rfl ?_)
        first | rfl | kernel_rfl
      · intro w7 hS hF K hK
        obtain ⟨e19, e26, -⟩ := hF
        replace e19 : f 19 = _ := e19
        replace e26 : f 26 = _ := e26
        try simp only [e19, e26]
        rw [if_pos (by rfl)]
        refine wp_of_quiet (v := .bool false) (by (show _ = _); kernel_rfl) (hK.out _ _ rfl (After.lit rfl rfl ?_))
        first | rfl | kernel_rfl
      intro w7 hS hF
      obtain ⟨e27, -⟩ := hF
      replace e27 : f 27 = _ := e27
      try simp only [e27]
      refine NoPanic.normal ?_
      go_wp2_with fail
      go_roundw
      case rel => exact ⟨3, by omega, rfl, Lib.hid hS.1, Lib.hid hS.2.2.2.2.1, Lib.hid hS.2.2.2.2.2.1, (Array.getElem?_eq_some_iff.1 hS.2.2.2.2.1).1, (Array.getElem?_eq_some_iff.1 hS.2.2.2.2.2.1).1⟩
      case measure => simp [intOf]
    · have hcJ : ∀ o : Nat, wr.cell? ⟨gj, o, none⟩ = (#[Value.int .i64 j.op, .int .i64 j.d, .int .i64 j.s, .int .u16 j.imm, .int .u16 j.aux, .int .i64 j.bank, .int .i64 j.size] : Array Value)[o]? := fun o => cell_of_row _ gj o _ _ _ HJ.out
      go_wp2_with (go_at_call 20; refine (valid_any j hj _).mono ?_; rintro e w9 ⟨rfl, hb9⟩; rw [HV.out]; replace HB := Lib.hid (HB.out.trans (hb9.mono HB.out.size)); clear hb9)
      go_ret
      exact ⟨rfl, HB.out⟩

end Go.Proofs.YtakahmhbopakmaaDoor
