/- IsaLines: walked. Condition: the library's tables read as the text lays them. -/
import Derived.Test.YtakahmhbopakmaaDoorSane
import Derived.Test.YtakahmhbopakmaaDoorRLine
import Derived.Test.YtakahmhbopakmaaDoorMadeC
import Derived.Test.YtakahmhbopakmaaDoorRely
set_option linter.all false
namespace Go.Proofs.YtakahmhbopakmaaDoor
open Go.RowKit

set_option maxRecDepth 100000 in
set_option maxHeartbeats 4000000 in
theorem lines_any (i : Ins) (hi : i.Ok) (q0 q1 q2 q3 q4 : Int) (p : Place) (p0 : 0 ≤ p.addr) (p1 : p.addr < 65536) (w : World) (hT : Tabs w) :
    Calls Tryd.prog 10 #[.agg #[.int .i64 (i).op, .int .i64 (i).d, .int .i64 (i).s, .int .u16 (i).imm, .int .u16 (i).aux, .int .i64 (i).bank, .int .i64 (i).size], .agg #[Value.int .i64 q0, .int .i64 q1, .int .i64 q2, .int .i64 q3, .int .i64 q4], .agg #[Value.int .i64 p.bank, .int .u16 p.addr]] w fun e w' => e = .returned (.bool true) ∧ Below w.heap.size w w' := by
  have hj := made_ok q0 q1 q2 q3 q4
  have HMj := Lib.hid (fun W => made_any q0 q1 q2 q3 q4 W)
  generalize madeS q0 q1 q2 q3 q4 = j at *
  have HT := Lib.hid hT
  clear hT
  go_enter Tryd.func10, Tryd.ntmps10
  have HB := Lib.hid ((((Below.refl w.heap.size w).alloc (Nat.le_refl _) (.cells #[Value.int .i64 i.op, .int .i64 i.d, .int .i64 i.s, .int .u16 i.imm, .int .u16 i.aux, .int .i64 i.bank, .int .i64 i.size] 24)).alloc (by simp) (.cells #[Value.int .i64 q0, .int .i64 q1, .int .i64 q2, .int .i64 q3, .int .i64 q4] 25)).alloc (by simp <;> omega) (.cells #[Value.int .i64 p.bank, .int .u16 p.addr] 47))
  have B0 := Lib.hid ((heap_alloc_old ((w.alloc (.cells #[Value.int .i64 i.op, .int .i64 i.d, .int .i64 i.s, .int .u16 i.imm, .int .u16 i.aux, .int .i64 i.bank, .int .i64 i.size] 24)).alloc (.cells #[Value.int .i64 q0, .int .i64 q1, .int .i64 q2, .int .i64 q3, .int .i64 q4] 25)) (.cells #[Value.int .i64 p.bank, .int .u16 p.addr] 47) (by simp <;> omega : w.heap.size < _)).trans ((heap_alloc_old (w.alloc (.cells #[Value.int .i64 i.op, .int .i64 i.d, .int .i64 i.s, .int .u16 i.imm, .int .u16 i.aux, .int .i64 i.bank, .int .i64 i.size] 24)) (.cells #[Value.int .i64 q0, .int .i64 q1, .int .i64 q2, .int .i64 q3, .int .i64 q4] 25) (by simp : w.heap.size < _)).trans (heap_alloc_new w _)))
  have B1 := Lib.hid ((heap_alloc_old ((w.alloc (.cells #[Value.int .i64 i.op, .int .i64 i.d, .int .i64 i.s, .int .u16 i.imm, .int .u16 i.aux, .int .i64 i.bank, .int .i64 i.size] 24)).alloc (.cells #[Value.int .i64 q0, .int .i64 q1, .int .i64 q2, .int .i64 q3, .int .i64 q4] 25)) (.cells #[Value.int .i64 p.bank, .int .u16 p.addr] 47) (by simp : w.heap.size + 1 < _)).trans (newsN (w.alloc (.cells #[Value.int .i64 i.op, .int .i64 i.d, .int .i64 i.s, .int .u16 i.imm, .int .u16 i.aux, .int .i64 i.bank, .int .i64 i.size] 24)) (.cells #[Value.int .i64 q0, .int .i64 q1, .int .i64 q2, .int .i64 q3, .int .i64 q4] 25) (by simp)))
  have B2 := Lib.hid (newsN ((w.alloc (.cells #[Value.int .i64 i.op, .int .i64 i.d, .int .i64 i.s, .int .u16 i.imm, .int .u16 i.aux, .int .i64 i.bank, .int .i64 i.size] 24)).alloc (.cells #[Value.int .i64 q0, .int .i64 q1, .int .i64 q2, .int .i64 q3, .int .i64 q4] 25)) (.cells #[Value.int .i64 p.bank, .int .u16 p.addr] 47) (by simp : _ = w.heap.size + 2))
  have hz : w.heap.size + 2 < (((w.alloc (.cells #[Value.int .i64 i.op, .int .i64 i.d, .int .i64 i.s, .int .u16 i.imm, .int .u16 i.aux, .int .i64 i.bank, .int .i64 i.size] 24)).alloc (.cells #[Value.int .i64 q0, .int .i64 q1, .int .i64 q2, .int .i64 q3, .int .i64 q4] 25)).alloc (.cells #[Value.int .i64 p.bank, .int .u16 p.addr] 47)).heap.size := by simp
  go_upto_region 2 with (go_at_call 15; refine (sanity_any _ (HT.out.stay HB.out)).mono ?_; rintro e w1 ⟨rfl, hb1⟩; replace B0 := Lib.hid ((hb1.block _ (by omega)).trans B0.out); replace B1 := Lib.hid ((hb1.block _ (by omega)).trans B1.out); replace B2 := Lib.hid ((hb1.block _ hz).trans B2.out); replace HB := Lib.hid (HB.out.trans (hb1.mono HB.out.size)); have hz1 := Nat.lt_of_lt_of_le hz hb1.size; clear hb1)
  clear hz
  go_upto_region 3 with (first
    | (refine wpList_load_row rfl _ (.tmp 4) rfl _ rfl _ _ _ _ B1.out Tryd.underlying25 rfl ?_ ?_; kernel_rfl)
    | (go_at_call 16; refine (HMj.out _).mono ?_; rintro e w2 ⟨rfl, hb2⟩; replace B0 := Lib.hid ((hb2.block _ (by omega)).trans B0.out); replace B2 := Lib.hid ((hb2.block _ hz1).trans B2.out); replace HB := Lib.hid (HB.out.trans (hb2.mono HB.out.size)); have hz2 := Nat.lt_of_lt_of_le hz1 hb2.size; clear hb2)
    | (refine wpList_store_row rfl _ _ _ rfl _ _ rfl rfl _ _ (heap_alloc_new _ _) ?_ ?_ ?_ ?_; kernel_rfl; rfl; kernel_rfl; rw [World.setRow_alloc_new]))
  have HJ := Lib.hid (heap_alloc_new w2 (.cells (insCells j) 24))
  replace B0 := Lib.hid ((heap_alloc_old w2 (.cells (insCells j) 24) (by omega)).trans B0.out)
  replace B2 := Lib.hid ((heap_alloc_old w2 (.cells (insCells j) 24) (by omega)).trans B2.out)
  replace HB := Lib.hid (HB.out.alloc HB.out.size (.cells (insCells j) 24))
  refine wp_region_relyF 20 (factOf [isV (.bool true), isV (.bool true), isV (.agg (insCells j)), isV (.agg #[Value.int .i64 p.bank, .int .u16 p.addr]), isV (.string ⟨(lineS j p).toArray⟩), isV (.agg (insCells j)), isV (.agg #[Value.int .i64 p.bank, .int .u16 p.addr]), isV (.string ⟨(lineS j p).toArray⟩), isV (.bool true), isV (.bool true), isV (.bool true), isV (.agg (insCells i)), isV (.agg #[Value.int .i64 p.bank, .int .u16 p.addr]), isV (.string ⟨(lineS i p).toArray⟩), isV (.agg (insCells i)), isV (.agg #[Value.int .i64 p.bank, .int .u16 p.addr]), isV (.string ⟨(lineS i p).toArray⟩), isV (.bool true), isV (.bool true), isV (.bool true)]) (nth [[0], [1], [2], [3], [4], [5], [6], [7], [8], [9], [10], [11], [12], [13], [14], [15], [16], [17], [18], [19]]) (nth [[], [], [], [], [], [], [], [], [], [], [], [], [], [], [], [], [], [], [], []]) (nth [[], [0], [1], [1], [2, 3, 1], [1], [1], [5, 6, 4, 1], [4, 7, 1], [1, 8], [9, 7], [10], [10], [11, 12, 10], [10], [10], [14, 15, 13, 10], [13, 16, 10], [10, 17], [18, 16, 0, 1, 2, 3, 4, 5, 6, 7, 8, 9, 10, 11, 12, 13, 14, 15, 17]]) [19] (Kept w.heap.size w (w2.alloc (.cells (insCells j) 24)).heap.size [(w.heap.size, .cells #[Value.int .i64 i.op, .int .i64 i.d, .int .i64 i.s, .int .u16 i.imm, .int .u16 i.aux, .int .i64 i.bank, .int .i64 i.size] 24 (0, 0)), (w2.heap.size, .cells (insCells j) 24 (0, 0)), (w.heap.size + 2, .cells #[Value.int .i64 p.bank, .int .u16 p.addr] 47 (0, 0))]) (by kernel_rfl) (by kernel_rfl) (⟨HB.out.drew, HB.out.size, Nat.le_refl _, by intro x hx; simp at hx; rcases hx with rfl | rfl | rfl <;> (show _ < _; simp <;> omega), B0.out, HJ.out, B2.out, trivial⟩) (Kept.grow) (GrowsAll.of ((GrowsAll.cons (Grows.isV _)  (GrowsAll.cons (Grows.isV _)  (GrowsAll.cons (Grows.isV _)  (GrowsAll.cons (Grows.isV _)  (GrowsAll.cons (Grows.isV _)  (GrowsAll.cons (Grows.isV _)  (GrowsAll.cons (Grows.isV _)  (GrowsAll.cons (Grows.isV _)  (GrowsAll.cons (Grows.isV _)  (GrowsAll.cons (Grows.isV _)  (GrowsAll.cons (Grows.isV _)  (GrowsAll.cons (Grows.isV _)  (GrowsAll.cons (Grows.isV _)  (GrowsAll.cons (Grows.isV _)  (GrowsAll.cons (Grows.isV _)  (GrowsAll.cons (Grows.isV _)  (GrowsAll.cons (Grows.isV _)  (GrowsAll.cons (Grows.isV _)  (GrowsAll.cons (Grows.isV _)  (GrowsAll.cons (Grows.isV _) GrowsAll.nil)))))))))))))))))))))) (fun f F hF => ?_)
  simp only [List.take_succ_cons, List.take_zero, fullGo, Act.put, List.setIfInBounds_toArray, List.set_cons_zero, List.set_cons_succ, Nat.reduceAdd] at hF
  subst hF
  refine ⟨StepObs.cons ?_ (StepObs.cons ?_ (StepObs.cons ?_ (StepObs.cons ?_ (StepObs.cons ?_ (StepObs.cons ?_ (StepObs.cons ?_ (StepObs.cons ?_ (StepObs.cons ?_ (StepObs.cons ?_ (StepObs.cons ?_ (StepObs.cons ?_ (StepObs.cons ?_ (StepObs.cons ?_ (StepObs.cons ?_ (StepObs.cons ?_ (StepObs.cons ?_ (StepObs.cons ?_ (StepObs.cons ?_ (StepObs.cons ?_ (StepObs.nil)))))))))))))))))))), ?_⟩
  · intro w3 hS hF K hK
    rw [if_pos (by rfl)]
    refine wp_of_quiet (v := .bool true) (by (show _ = _); kernel_rfl) (hK.out _ _ rfl (After.lit rfl rfl ?_))
    first | rfl | kernel_rfl
  · intro w3 hS hF K hK
    obtain ⟨e0, -⟩ := hF
    replace e0 : f 0 = _ := e0
    try simp only [e0]
    rw [if_pos (by rfl)]
    refine wp_of_quiet (v := .bool true) (by (show _ = _); kernel_rfl) (hK.out _ _ rfl (After.lit rfl rfl ?_))
    first | rfl | kernel_rfl
  · intro w3 hS hF K hK
    obtain ⟨e1, -⟩ := hF
    replace e1 : f 1 = _ := e1
    try simp only [e1]
    rw [if_pos (by rfl)]
    exact wp_load_rowB _ _ rfl _ rfl _ _ _ (hS.2.2.2.2.2.1) (by kernel_rfl) (hK.out _ _ rfl (After.lit rfl rfl (by first | rfl | kernel_rfl)))
  · intro w3 hS hF K hK
    obtain ⟨e1, -⟩ := hF
    replace e1 : f 1 = _ := e1
    try simp only [e1]
    rw [if_pos (by rfl)]
    exact wp_load_rowB _ _ rfl _ rfl _ _ _ (hS.2.2.2.2.2.2.1) (by kernel_rfl) (hK.out _ _ rfl (After.lit rfl rfl (by first | rfl | kernel_rfl)))
  · intro w3 hS hF K hK
    obtain ⟨e2, e3, e1, -⟩ := hF
    replace e2 : f 2 = _ := e2
    replace e3 : f 3 = _ := e3
    replace e1 : f 1 = _ := e1
    try simp only [e2, e3, e1]
    rw [if_pos (by rfl)]
    go_simp
    refine (line_any j hj p _ (HT.out.stay hS.1)).mono ?_; rintro e w4 ⟨rfl, hbelow⟩; go_simp
    refine hK.out _ _ rfl (After.litB rfl rfl hbelow ?_)
    first | rfl | kernel_rfl
  · intro w3 hS hF K hK
    obtain ⟨e1, -⟩ := hF
    replace e1 : f 1 = _ := e1
    try simp only [e1]
    rw [if_pos (by rfl)]
    exact wp_load_rowB _ _ rfl _ rfl _ _ _ (hS.2.2.2.2.2.1) (by kernel_rfl) (hK.out _ _ rfl (After.lit rfl rfl (by first | rfl | kernel_rfl)))
  · intro w3 hS hF K hK
    obtain ⟨e1, -⟩ := hF
    replace e1 : f 1 = _ := e1
    try simp only [e1]
    rw [if_pos (by rfl)]
    exact wp_load_rowB _ _ rfl _ rfl _ _ _ (hS.2.2.2.2.2.2.1) (by kernel_rfl) (hK.out _ _ rfl (After.lit rfl rfl (by first | rfl | kernel_rfl)))
  · intro w3 hS hF K hK
    obtain ⟨e5, e6, e4, e1, -⟩ := hF
    replace e5 : f 5 = _ := e5
    replace e6 : f 6 = _ := e6
    replace e4 : f 4 = _ := e4
    replace e1 : f 1 = _ := e1
    try simp only [e5, e6, e4, e1]
    rw [if_pos (by rfl)]
    go_simp
    refine (rline_any j hj p p0 p1 _).mono ?_; rintro e w4 ⟨rfl, hbelow⟩; go_simp
    refine hK.out _ _ rfl (After.litB rfl rfl hbelow ?_)
    first | rfl | kernel_rfl
  · intro w3 hS hF K hK
    obtain ⟨e4, e7, e1, -⟩ := hF
    replace e4 : f 4 = _ := e4
    replace e7 : f 7 = _ := e7
    replace e1 : f 1 = _ := e1
    try simp only [e4, e7, e1]
    rw [if_pos (by rfl)]
    go_simp
    refine hK.out _ _ rfl (After.lit rfl rfl ?_)
    first | rfl | kernel_rfl
  · intro w3 hS hF K hK
    obtain ⟨e1, e8, -⟩ := hF
    replace e1 : f 1 = _ := e1
    replace e8 : f 8 = _ := e8
    try simp only [e1, e8]
    rw [if_pos (by rfl)]
    refine wp_of_quiet (v := .bool true) (by (show _ = _); kernel_rfl) (hK.out _ _ rfl (After.lit rfl rfl ?_))
    first | rfl | kernel_rfl
  · intro w3 hS hF K hK
    obtain ⟨e9, e7, -⟩ := hF
    replace e9 : f 9 = _ := e9
    replace e7 : f 7 = _ := e7
    try simp only [e9, e7]
    rw [if_pos (by rfl)]
    refine wp_of_quiet (v := .bool true) (by (show _ = _); kernel_rfl) (hK.out _ _ rfl (After.lit rfl rfl ?_))
    first | rfl | kernel_rfl
  · intro w3 hS hF K hK
    obtain ⟨e10, -⟩ := hF
    replace e10 : f 10 = _ := e10
    try simp only [e10]
    rw [if_pos (by rfl)]
    exact wp_load_rowB _ _ rfl _ rfl _ _ _ (hS.2.2.2.2.1) (by kernel_rfl) (hK.out _ _ rfl (After.lit rfl rfl (by first | rfl | kernel_rfl)))
  · intro w3 hS hF K hK
    obtain ⟨e10, -⟩ := hF
    replace e10 : f 10 = _ := e10
    try simp only [e10]
    rw [if_pos (by rfl)]
    exact wp_load_rowB _ _ rfl _ rfl _ _ _ (hS.2.2.2.2.2.2.1) (by kernel_rfl) (hK.out _ _ rfl (After.lit rfl rfl (by first | rfl | kernel_rfl)))
  · intro w3 hS hF K hK
    obtain ⟨e11, e12, e10, -⟩ := hF
    replace e11 : f 11 = _ := e11
    replace e12 : f 12 = _ := e12
    replace e10 : f 10 = _ := e10
    try simp only [e11, e12, e10]
    rw [if_pos (by rfl)]
    go_simp
    refine (line_any i hi p _ (HT.out.stay hS.1)).mono ?_; rintro e w4 ⟨rfl, hbelow⟩; go_simp
    refine hK.out _ _ rfl (After.litB rfl rfl hbelow ?_)
    first | rfl | kernel_rfl
  · intro w3 hS hF K hK
    obtain ⟨e10, -⟩ := hF
    replace e10 : f 10 = _ := e10
    try simp only [e10]
    rw [if_pos (by rfl)]
    exact wp_load_rowB _ _ rfl _ rfl _ _ _ (hS.2.2.2.2.1) (by kernel_rfl) (hK.out _ _ rfl (After.lit rfl rfl (by first | rfl | kernel_rfl)))
  · intro w3 hS hF K hK
    obtain ⟨e10, -⟩ := hF
    replace e10 : f 10 = _ := e10
    try simp only [e10]
    rw [if_pos (by rfl)]
    exact wp_load_rowB _ _ rfl _ rfl _ _ _ (hS.2.2.2.2.2.2.1) (by kernel_rfl) (hK.out _ _ rfl (After.lit rfl rfl (by first | rfl | kernel_rfl)))
  · intro w3 hS hF K hK
    obtain ⟨e14, e15, e13, e10, -⟩ := hF
    replace e14 : f 14 = _ := e14
    replace e15 : f 15 = _ := e15
    replace e13 : f 13 = _ := e13
    replace e10 : f 10 = _ := e10
    try simp only [e14, e15, e13, e10]
    rw [if_pos (by rfl)]
    go_simp
    refine (rline_any i hi p p0 p1 _).mono ?_; rintro e w4 ⟨rfl, hbelow⟩; go_simp
    refine hK.out _ _ rfl (After.litB rfl rfl hbelow ?_)
    first | rfl | kernel_rfl
  · intro w3 hS hF K hK
    obtain ⟨e13, e16, e10, -⟩ := hF
    replace e13 : f 13 = _ := e13
    replace e16 : f 16 = _ := e16
    replace e10 : f 10 = _ := e10
    try simp only [e13, e16, e10]
    rw [if_pos (by rfl)]
    go_simp
    refine hK.out _ _ rfl (After.lit rfl rfl ?_)
    first | rfl | kernel_rfl
  · intro w3 hS hF K hK
    obtain ⟨e10, e17, -⟩ := hF
    replace e10 : f 10 = _ := e10
    replace e17 : f 17 = _ := e17
    try simp only [e10, e17]
    rw [if_pos (by rfl)]
    refine wp_of_quiet (v := .bool true) (by (show _ = _); kernel_rfl) (hK.out _ _ rfl (After.lit rfl rfl ?_))
    first | rfl | kernel_rfl
  · intro w3 hS hF K hK
    obtain ⟨e18, e16, e0, e1, e2, e3, e4, e5, e6, e7, e8, e9, e10, e11, e12, e13, e14, e15, e17, -⟩ := hF
    replace e18 : f 18 = _ := e18
    replace e16 : f 16 = _ := e16
    replace e0 : f 0 = _ := e0
    replace e1 : f 1 = _ := e1
    replace e2 : f 2 = _ := e2
    replace e3 : f 3 = _ := e3
    replace e4 : f 4 = _ := e4
    replace e5 : f 5 = _ := e5
    replace e6 : f 6 = _ := e6
    replace e7 : f 7 = _ := e7
    replace e8 : f 8 = _ := e8
    replace e9 : f 9 = _ := e9
    replace e10 : f 10 = _ := e10
    replace e11 : f 11 = _ := e11
    replace e12 : f 12 = _ := e12
    replace e13 : f 13 = _ := e13
    replace e14 : f 14 = _ := e14
    replace e15 : f 15 = _ := e15
    replace e17 : f 17 = _ := e17
    try simp only [e18, e16, e0, e1, e2, e3, e4, e5, e6, e7, e8, e9, e10, e11, e12, e13, e14, e15, e17]
    rw [if_pos (by rfl)]
    refine wp_of_quiet (v := .bool true) (by (show _ = _); kernel_rfl) (hK.out _ _ rfl (After.lit rfl rfl ?_))
    first | rfl | kernel_rfl
  intro w3 hS hF
  obtain ⟨e19, -⟩ := hF
  replace e19 : f 19 = _ := e19
  try simp only [e19]
  refine Fin.done (by kernel_rfl) ?_
  go_wp2_with fail
  go_ret
  exact ⟨rfl, hS.1⟩

end Go.Proofs.YtakahmhbopakmaaDoor
