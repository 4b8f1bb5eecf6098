/- Made and Spoilt of the reference: every input. Condition of Spoilt: the instruction's fields lie in their types' ranges. -/
import Derived.Test.YtakahmhbopakmaaDoorMade0
import Derived.Test.YtakahmhbopakmaaDoorMade1
import Derived.Test.YtakahmhbopakmaaDoorMade2
import Derived.Test.YtakahmhbopakmaaDoorMade3
set_option linter.all false
namespace Go.Proofs.YtakahmhbopakmaaDoor
open Go.RowKit

theorem made_any (q0 q1 q2 q3 q4 : Int) (w : World) :
    Calls Tryd.prog 16 #[.agg #[.int .i64 q0, .int .i64 q1, .int .i64 q2, .int .i64 q3, .int .i64 q4]] w fun e w' => e = .returned (.agg (insCells (madeS q0 q1 q2 q3 q4))) ∧ Below w.heap.size w w' := by
  have h18 := fmt18 (madeOp q0) (madeOp_fmt q0).1
  rcases h18 with h | h | h | h | h | h | h | h | h | h | h | h | h | h | h | h | h | h
  · exact made_1 q0 q1 q2 q3 q4 h w
  · exact made_2 q0 q1 q2 q3 q4 h w
  · exact made_3 q0 q1 q2 q3 q4 h w
  · exact made_4 q0 q1 q2 q3 q4 h w
  · exact made_5 q0 q1 q2 q3 q4 h w
  · exact made_6 q0 q1 q2 q3 q4 h w
  · exact made_7 q0 q1 q2 q3 q4 h w
  · exact made_8 q0 q1 q2 q3 q4 h w
  · exact made_9 q0 q1 q2 q3 q4 h w
  · exact made_10 q0 q1 q2 q3 q4 h w
  · exact made_11 q0 q1 q2 q3 q4 h w
  · exact made_12 q0 q1 q2 q3 q4 h w
  · exact made_13 q0 q1 q2 q3 q4 h w
  · exact made_14 q0 q1 q2 q3 q4 h w
  · exact made_15 q0 q1 q2 q3 q4 h w
  · exact made_16 q0 q1 q2 q3 q4 h w
  · exact made_17 q0 q1 q2 q3 q4 h w
  · exact made_18 q0 q1 q2 q3 q4 h w

set_option maxRecDepth 100000 in
set_option maxHeartbeats 1000000 in
theorem spoilt_0 (i : Ins) (c0 c1 : Int) (hk : c0 % 8 = 0) (w : World) :
    Calls Tryd.prog 17 #[.agg #[.int .i64 (i).op, .int .i64 (i).d, .int .i64 (i).s, .int .u16 (i).imm, .int .u16 (i).aux, .int .i64 (i).bank, .int .i64 (i).size], .agg #[.int .i64 c0, .int .i64 c1]] w fun e w' => e = .returned (.agg (insCells (spoiltS i c0 c1))) ∧ Below w.heap.size w w' := by
  have e0 : insCells (spoiltS i c0 c1) = #[.int .i64 c1, .int .i64 i.d, .int .i64 i.s, .int .u16 i.imm, .int .u16 i.aux, .int .i64 i.bank, .int .i64 i.size] := by unfold spoiltS; simp [hk, insCells, vi, vw]
  have E0 := Lib.hid e0
  clear e0
  have a1 := i64_and7 c0
  have hw : IntKind.u16.wrap c1 = c1 % 65536 := rfl
  go_enter Tryd.func17, Tryd.ntmps17
  go_upto_region 16 with fail
  have RR := Lib.hid ((heap_alloc_old ((w.alloc (.cells #[.int .i64 c1, .int .i64 i.d, .int .i64 i.s, .int .u16 i.imm, .int .u16 i.aux, .int .i64 i.bank, .int .i64 i.size] 24)).alloc (.cells #[.int .i64 c0, .int .i64 c1] 26)) (.cells #[.int .i64 0, .int .i64 0, .int .i64 0, .int .u16 0, .int .u16 0, .int .i64 0, .int .i64 0] 24) (by simp; omega : w.heap.size < _)).trans ((heap_alloc_old (w.alloc (.cells #[.int .i64 c1, .int .i64 i.d, .int .i64 i.s, .int .u16 i.imm, .int .u16 i.aux, .int .i64 i.bank, .int .i64 i.size] 24)) (.cells #[.int .i64 c0, .int .i64 c1] 26) (by simp : w.heap.size < _)).trans (heap_alloc_new w (.cells #[.int .i64 c1, .int .i64 i.d, .int .i64 i.s, .int .u16 i.imm, .int .u16 i.aux, .int .i64 i.bank, .int .i64 i.size] 24))))
  go_wp2_with (first
    | (refine wpList_load_row rfl _ (.tmp 2) rfl _ rfl _ #[.int .i64 c1, .int .i64 i.d, .int .i64 i.s, .int .u16 i.imm, .int .u16 i.aux, .int .i64 i.bank, .int .i64 i.size] _ _ RR.out Tryd.underlying24 rfl ?_ ?_; kernel_rfl)
    | (refine wpList_store_row rfl _ _ _ rfl _ _ rfl rfl _ _ (heap_alloc_new _ _) ?_ ?_ ?_ ?_; kernel_rfl; rfl; kernel_rfl; rw [World.setRow_alloc_new]))
  refine bodyPost_ret (results_cell_row (cs := #[.int .i64 c1, .int .i64 i.d, .int .i64 i.s, .int .u16 i.imm, .int .u16 i.aux, .int .i64 i.bank, .int .i64 i.size]) (fr := (0, 0)) rfl _ _ (w.heap.size + 2) 24 _ rfl ?_ (Tryd.underlying24) rfl (by kernel_rfl)) rfl ⟨?_, (((Below.refl _ _).alloc (Nat.le_refl _) _).alloc (by simp) _).alloc (by simp; omega) _⟩
  · have := heap_alloc_new ((w.alloc (.cells #[.int .i64 c1, .int .i64 i.d, .int .i64 i.s, .int .u16 i.imm, .int .u16 i.aux, .int .i64 i.bank, .int .i64 i.size] 24)).alloc (.cells #[.int .i64 c0, .int .i64 c1] 26)) (.cells #[.int .i64 c1, .int .i64 i.d, .int .i64 i.s, .int .u16 i.imm, .int .u16 i.aux, .int .i64 i.bank, .int .i64 i.size] 24)
    simpa using this
  · rw [E0.out]

set_option maxRecDepth 100000 in
set_option maxHeartbeats 1000000 in
theorem spoilt_1 (i : Ins) (c0 c1 : Int) (hk : c0 % 8 = 1) (w : World) :
    Calls Tryd.prog 17 #[.agg #[.int .i64 (i).op, .int .i64 (i).d, .int .i64 (i).s, .int .u16 (i).imm, .int .u16 (i).aux, .int .i64 (i).bank, .int .i64 (i).size], .agg #[.int .i64 c0, .int .i64 c1]] w fun e w' => e = .returned (.agg (insCells (spoiltS i c0 c1))) ∧ Below w.heap.size w w' := by
  have e0 : insCells (spoiltS i c0 c1) = #[.int .i64 i.op, .int .i64 c1, .int .i64 i.s, .int .u16 i.imm, .int .u16 i.aux, .int .i64 i.bank, .int .i64 i.size] := by unfold spoiltS; simp [hk, insCells, vi, vw]
  have E0 := Lib.hid e0
  clear e0
  have a1 := i64_and7 c0
  have hw : IntKind.u16.wrap c1 = c1 % 65536 := rfl
  go_enter Tryd.func17, Tryd.ntmps17
  go_upto_region 16 with fail
  have RR := Lib.hid ((heap_alloc_old ((w.alloc (.cells #[.int .i64 i.op, .int .i64 c1, .int .i64 i.s, .int .u16 i.imm, .int .u16 i.aux, .int .i64 i.bank, .int .i64 i.size] 24)).alloc (.cells #[.int .i64 c0, .int .i64 c1] 26)) (.cells #[.int .i64 0, .int .i64 0, .int .i64 0, .int .u16 0, .int .u16 0, .int .i64 0, .int .i64 0] 24) (by simp; omega : w.heap.size < _)).trans ((heap_alloc_old (w.alloc (.cells #[.int .i64 i.op, .int .i64 c1, .int .i64 i.s, .int .u16 i.imm, .int .u16 i.aux, .int .i64 i.bank, .int .i64 i.size] 24)) (.cells #[.int .i64 c0, .int .i64 c1] 26) (by simp : w.heap.size < _)).trans (heap_alloc_new w (.cells #[.int .i64 i.op, .int .i64 c1, .int .i64 i.s, .int .u16 i.imm, .int .u16 i.aux, .int .i64 i.bank, .int .i64 i.size] 24))))
  go_wp2_with (first
    | (refine wpList_load_row rfl _ (.tmp 2) rfl _ rfl _ #[.int .i64 i.op, .int .i64 c1, .int .i64 i.s, .int .u16 i.imm, .int .u16 i.aux, .int .i64 i.bank, .int .i64 i.size] _ _ RR.out Tryd.underlying24 rfl ?_ ?_; kernel_rfl)
    | (refine wpList_store_row rfl _ _ _ rfl _ _ rfl rfl _ _ (heap_alloc_new _ _) ?_ ?_ ?_ ?_; kernel_rfl; rfl; kernel_rfl; rw [World.setRow_alloc_new]))
  refine bodyPost_ret (results_cell_row (cs := #[.int .i64 i.op, .int .i64 c1, .int .i64 i.s, .int .u16 i.imm, .int .u16 i.aux, .int .i64 i.bank, .int .i64 i.size]) (fr := (0, 0)) rfl _ _ (w.heap.size + 2) 24 _ rfl ?_ (Tryd.underlying24) rfl (by kernel_rfl)) rfl ⟨?_, (((Below.refl _ _).alloc (Nat.le_refl _) _).alloc (by simp) _).alloc (by simp; omega) _⟩
  · have := heap_alloc_new ((w.alloc (.cells #[.int .i64 i.op, .int .i64 c1, .int .i64 i.s, .int .u16 i.imm, .int .u16 i.aux, .int .i64 i.bank, .int .i64 i.size] 24)).alloc (.cells #[.int .i64 c0, .int .i64 c1] 26)) (.cells #[.int .i64 i.op, .int .i64 c1, .int .i64 i.s, .int .u16 i.imm, .int .u16 i.aux, .int .i64 i.bank, .int .i64 i.size] 24)
    simpa using this
  · rw [E0.out]

set_option maxRecDepth 100000 in
set_option maxHeartbeats 1000000 in
theorem spoilt_2 (i : Ins) (c0 c1 : Int) (hk : c0 % 8 = 2) (w : World) :
    Calls Tryd.prog 17 #[.agg #[.int .i64 (i).op, .int .i64 (i).d, .int .i64 (i).s, .int .u16 (i).imm, .int .u16 (i).aux, .int .i64 (i).bank, .int .i64 (i).size], .agg #[.int .i64 c0, .int .i64 c1]] w fun e w' => e = .returned (.agg (insCells (spoiltS i c0 c1))) ∧ Below w.heap.size w w' := by
  have e0 : insCells (spoiltS i c0 c1) = #[.int .i64 i.op, .int .i64 i.d, .int .i64 c1, .int .u16 i.imm, .int .u16 i.aux, .int .i64 i.bank, .int .i64 i.size] := by unfold spoiltS; simp [hk, insCells, vi, vw]
  have E0 := Lib.hid e0
  clear e0
  have a1 := i64_and7 c0
  have hw : IntKind.u16.wrap c1 = c1 % 65536 := rfl
  go_enter Tryd.func17, Tryd.ntmps17
  go_upto_region 16 with fail
  have RR := Lib.hid ((heap_alloc_old ((w.alloc (.cells #[.int .i64 i.op, .int .i64 i.d, .int .i64 c1, .int .u16 i.imm, .int .u16 i.aux, .int .i64 i.bank, .int .i64 i.size] 24)).alloc (.cells #[.int .i64 c0, .int .i64 c1] 26)) (.cells #[.int .i64 0, .int .i64 0, .int .i64 0, .int .u16 0, .int .u16 0, .int .i64 0, .int .i64 0] 24) (by simp; omega : w.heap.size < _)).trans ((heap_alloc_old (w.alloc (.cells #[.int .i64 i.op, .int .i64 i.d, .int .i64 c1, .int .u16 i.imm, .int .u16 i.aux, .int .i64 i.bank, .int .i64 i.size] 24)) (.cells #[.int .i64 c0, .int .i64 c1] 26) (by simp : w.heap.size < _)).trans (heap_alloc_new w (.cells #[.int .i64 i.op, .int .i64 i.d, .int .i64 c1, .int .u16 i.imm, .int .u16 i.aux, .int .i64 i.bank, .int .i64 i.size] 24))))
  go_wp2_with (first
    | (refine wpList_load_row rfl _ (.tmp 2) rfl _ rfl _ #[.int .i64 i.op, .int .i64 i.d, .int .i64 c1, .int .u16 i.imm, .int .u16 i.aux, .int .i64 i.bank, .int .i64 i.size] _ _ RR.out Tryd.underlying24 rfl ?_ ?_; kernel_rfl)
    | (refine wpList_store_row rfl _ _ _ rfl _ _ rfl rfl _ _ (heap_alloc_new _ _) ?_ ?_ ?_ ?_; kernel_rfl; rfl; kernel_rfl; rw [World.setRow_alloc_new]))
  refine bodyPost_ret (results_cell_row (cs := #[.int .i64 i.op, .int .i64 i.d, .int .i64 c1, .int .u16 i.imm, .int .u16 i.aux, .int .i64 i.bank, .int .i64 i.size]) (fr := (0, 0)) rfl _ _ (w.heap.size + 2) 24 _ rfl ?_ (Tryd.underlying24) rfl (by kernel_rfl)) rfl ⟨?_, (((Below.refl _ _).alloc (Nat.le_refl _) _).alloc (by simp) _).alloc (by simp; omega) _⟩
  · have := heap_alloc_new ((w.alloc (.cells #[.int .i64 i.op, .int .i64 i.d, .int .i64 c1, .int .u16 i.imm, .int .u16 i.aux, .int .i64 i.bank, .int .i64 i.size] 24)).alloc (.cells #[.int .i64 c0, .int .i64 c1] 26)) (.cells #[.int .i64 i.op, .int .i64 i.d, .int .i64 c1, .int .u16 i.imm, .int .u16 i.aux, .int .i64 i.bank, .int .i64 i.size] 24)
    simpa using this
  · rw [E0.out]

set_option maxRecDepth 100000 in
set_option maxHeartbeats 1000000 in
theorem spoilt_3 (i : Ins) (c0 c1 : Int) (hk : c0 % 8 = 3) (w : World) :
    Calls Tryd.prog 17 #[.agg #[.int .i64 (i).op, .int .i64 (i).d, .int .i64 (i).s, .int .u16 (i).imm, .int .u16 (i).aux, .int .i64 (i).bank, .int .i64 (i).size], .agg #[.int .i64 c0, .int .i64 c1]] w fun e w' => e = .returned (.agg (insCells (spoiltS i c0 c1))) ∧ Below w.heap.size w w' := by
  have e0 : insCells (spoiltS i c0 c1) = #[.int .i64 i.op, .int .i64 i.d, .int .i64 i.s, .int .u16 (c1 % 65536), .int .u16 i.aux, .int .i64 i.bank, .int .i64 i.size] := by unfold spoiltS; simp [hk, insCells, vi, vw]
  have E0 := Lib.hid e0
  clear e0
  have a1 := i64_and7 c0
  have hw : IntKind.u16.wrap c1 = c1 % 65536 := rfl
  go_enter Tryd.func17, Tryd.ntmps17
  go_upto_region 16 with fail
  have RR := Lib.hid ((heap_alloc_old ((w.alloc (.cells #[.int .i64 i.op, .int .i64 i.d, .int .i64 i.s, .int .u16 (c1 % 65536), .int .u16 i.aux, .int .i64 i.bank, .int .i64 i.size] 24)).alloc (.cells #[.int .i64 c0, .int .i64 c1] 26)) (.cells #[.int .i64 0, .int .i64 0, .int .i64 0, .int .u16 0, .int .u16 0, .int .i64 0, .int .i64 0] 24) (by simp; omega : w.heap.size < _)).trans ((heap_alloc_old (w.alloc (.cells #[.int .i64 i.op, .int .i64 i.d, .int .i64 i.s, .int .u16 (c1 % 65536), .int .u16 i.aux, .int .i64 i.bank, .int .i64 i.size] 24)) (.cells #[.int .i64 c0, .int .i64 c1] 26) (by simp : w.heap.size < _)).trans (heap_alloc_new w (.cells #[.int .i64 i.op, .int .i64 i.d, .int .i64 i.s, .int .u16 (c1 % 65536), .int .u16 i.aux, .int .i64 i.bank, .int .i64 i.size] 24))))
  go_wp2_with (first
    | (refine wpList_load_row rfl _ (.tmp 2) rfl _ rfl _ #[.int .i64 i.op, .int .i64 i.d, .int .i64 i.s, .int .u16 (c1 % 65536), .int .u16 i.aux, .int .i64 i.bank, .int .i64 i.size] _ _ RR.out Tryd.underlying24 rfl ?_ ?_; kernel_rfl)
    | (refine wpList_store_row rfl _ _ _ rfl _ _ rfl rfl _ _ (heap_alloc_new _ _) ?_ ?_ ?_ ?_; kernel_rfl; rfl; kernel_rfl; rw [World.setRow_alloc_new]))
  refine bodyPost_ret (results_cell_row (cs := #[.int .i64 i.op, .int .i64 i.d, .int .i64 i.s, .int .u16 (c1 % 65536), .int .u16 i.aux, .int .i64 i.bank, .int .i64 i.size]) (fr := (0, 0)) rfl _ _ (w.heap.size + 2) 24 _ rfl ?_ (Tryd.underlying24) rfl (by kernel_rfl)) rfl ⟨?_, (((Below.refl _ _).alloc (Nat.le_refl _) _).alloc (by simp) _).alloc (by simp; omega) _⟩
  · have := heap_alloc_new ((w.alloc (.cells #[.int .i64 i.op, .int .i64 i.d, .int .i64 i.s, .int .u16 (c1 % 65536), .int .u16 i.aux, .int .i64 i.bank, .int .i64 i.size] 24)).alloc (.cells #[.int .i64 c0, .int .i64 c1] 26)) (.cells #[.int .i64 i.op, .int .i64 i.d, .int .i64 i.s, .int .u16 (c1 % 65536), .int .u16 i.aux, .int .i64 i.bank, .int .i64 i.size] 24)
    simpa using this
  · rw [E0.out]

set_option maxRecDepth 100000 in
set_option maxHeartbeats 1000000 in
theorem spoilt_4 (i : Ins) (c0 c1 : Int) (hk : c0 % 8 = 4) (w : World) :
    Calls Tryd.prog 17 #[.agg #[.int .i64 (i).op, .int .i64 (i).d, .int .i64 (i).s, .int .u16 (i).imm, .int .u16 (i).aux, .int .i64 (i).bank, .int .i64 (i).size], .agg #[.int .i64 c0, .int .i64 c1]] w fun e w' => e = .returned (.agg (insCells (spoiltS i c0 c1))) ∧ Below w.heap.size w w' := by
  have e0 : insCells (spoiltS i c0 c1) = #[.int .i64 i.op, .int .i64 i.d, .int .i64 i.s, .int .u16 i.imm, .int .u16 (c1 % 65536), .int .i64 i.bank, .int .i64 i.size] := by unfold spoiltS; simp [hk, insCells, vi, vw]
  have E0 := Lib.hid e0
  clear e0
  have a1 := i64_and7 c0
  have hw : IntKind.u16.wrap c1 = c1 % 65536 := rfl
  go_enter Tryd.func17, Tryd.ntmps17
  go_upto_region 16 with fail
  have RR := Lib.hid ((heap_alloc_old ((w.alloc (.cells #[.int .i64 i.op, .int .i64 i.d, .int .i64 i.s, .int .u16 i.imm, .int .u16 (c1 % 65536), .int .i64 i.bank, .int .i64 i.size] 24)).alloc (.cells #[.int .i64 c0, .int .i64 c1] 26)) (.cells #[.int .i64 0, .int .i64 0, .int .i64 0, .int .u16 0, .int .u16 0, .int .i64 0, .int .i64 0] 24) (by simp; omega : w.heap.size < _)).trans ((heap_alloc_old (w.alloc (.cells #[.int .i64 i.op, .int .i64 i.d, .int .i64 i.s, .int .u16 i.imm, .int .u16 (c1 % 65536), .int .i64 i.bank, .int .i64 i.size] 24)) (.cells #[.int .i64 c0, .int .i64 c1] 26) (by simp : w.heap.size < _)).trans (heap_alloc_new w (.cells #[.int .i64 i.op, .int .i64 i.d, .int .i64 i.s, .int .u16 i.imm, .int .u16 (c1 % 65536), .int .i64 i.bank, .int .i64 i.size] 24))))
  go_wp2_with (first
    | (refine wpList_load_row rfl _ (.tmp 2) rfl _ rfl _ #[.int .i64 i.op, .int .i64 i.d, .int .i64 i.s, .int .u16 i.imm, .int .u16 (c1 % 65536), .int .i64 i.bank, .int .i64 i.size] _ _ RR.out Tryd.underlying24 rfl ?_ ?_; kernel_rfl)
    | (refine wpList_store_row rfl _ _ _ rfl _ _ rfl rfl _ _ (heap_alloc_new _ _) ?_ ?_ ?_ ?_; kernel_rfl; rfl; kernel_rfl; rw [World.setRow_alloc_new]))
  refine bodyPost_ret (results_cell_row (cs := #[.int .i64 i.op, .int .i64 i.d, .int .i64 i.s, .int .u16 i.imm, .int .u16 (c1 % 65536), .int .i64 i.bank, .int .i64 i.size]) (fr := (0, 0)) rfl _ _ (w.heap.size + 2) 24 _ rfl ?_ (Tryd.underlying24) rfl (by kernel_rfl)) rfl ⟨?_, (((Below.refl _ _).alloc (Nat.le_refl _) _).alloc (by simp) _).alloc (by simp; omega) _⟩
  · have := heap_alloc_new ((w.alloc (.cells #[.int .i64 i.op, .int .i64 i.d, .int .i64 i.s, .int .u16 i.imm, .int .u16 (c1 % 65536), .int .i64 i.bank, .int .i64 i.size] 24)).alloc (.cells #[.int .i64 c0, .int .i64 c1] 26)) (.cells #[.int .i64 i.op, .int .i64 i.d, .int .i64 i.s, .int .u16 i.imm, .int .u16 (c1 % 65536), .int .i64 i.bank, .int .i64 i.size] 24)
    simpa using this
  · rw [E0.out]

set_option maxRecDepth 100000 in
set_option maxHeartbeats 1000000 in
theorem spoilt_5 (i : Ins) (c0 c1 : Int) (hk : c0 % 8 = 5) (w : World) :
    Calls Tryd.prog 17 #[.agg #[.int .i64 (i).op, .int .i64 (i).d, .int .i64 (i).s, .int .u16 (i).imm, .int .u16 (i).aux, .int .i64 (i).bank, .int .i64 (i).size], .agg #[.int .i64 c0, .int .i64 c1]] w fun e w' => e = .returned (.agg (insCells (spoiltS i c0 c1))) ∧ Below w.heap.size w w' := by
  have e0 : insCells (spoiltS i c0 c1) = #[.int .i64 i.op, .int .i64 i.d, .int .i64 i.s, .int .u16 i.imm, .int .u16 i.aux, .int .i64 c1, .int .i64 i.size] := by unfold spoiltS; simp [hk, insCells, vi, vw]
  have E0 := Lib.hid e0
  clear e0
  have a1 := i64_and7 c0
  have hw : IntKind.u16.wrap c1 = c1 % 65536 := rfl
  go_enter Tryd.func17, Tryd.ntmps17
  go_upto_region 16 with fail
  have RR := Lib.hid ((heap_alloc_old ((w.alloc (.cells #[.int .i64 i.op, .int .i64 i.d, .int .i64 i.s, .int .u16 i.imm, .int .u16 i.aux, .int .i64 c1, .int .i64 i.size] 24)).alloc (.cells #[.int .i64 c0, .int .i64 c1] 26)) (.cells #[.int .i64 0, .int .i64 0, .int .i64 0, .int .u16 0, .int .u16 0, .int .i64 0, .int .i64 0] 24) (by simp; omega : w.heap.size < _)).trans ((heap_alloc_old (w.alloc (.cells #[.int .i64 i.op, .int .i64 i.d, .int .i64 i.s, .int .u16 i.imm, .int .u16 i.aux, .int .i64 c1, .int .i64 i.size] 24)) (.cells #[.int .i64 c0, .int .i64 c1] 26) (by simp : w.heap.size < _)).trans (heap_alloc_new w (.cells #[.int .i64 i.op, .int .i64 i.d, .int .i64 i.s, .int .u16 i.imm, .int .u16 i.aux, .int .i64 c1, .int .i64 i.size] 24))))
  go_wp2_with (first
    | (refine wpList_load_row rfl _ (.tmp 2) rfl _ rfl _ #[.int .i64 i.op, .int .i64 i.d, .int .i64 i.s, .int .u16 i.imm, .int .u16 i.aux, .int .i64 c1, .int .i64 i.size] _ _ RR.out Tryd.underlying24 rfl ?_ ?_; kernel_rfl)
    | (refine wpList_store_row rfl _ _ _ rfl _ _ rfl rfl _ _ (heap_alloc_new _ _) ?_ ?_ ?_ ?_; kernel_rfl; rfl; kernel_rfl; rw [World.setRow_alloc_new]))
  refine bodyPost_ret (results_cell_row (cs := #[.int .i64 i.op, .int .i64 i.d, .int .i64 i.s, .int .u16 i.imm, .int .u16 i.aux, .int .i64 c1, .int .i64 i.size]) (fr := (0, 0)) rfl _ _ (w.heap.size + 2) 24 _ rfl ?_ (Tryd.underlying24) rfl (by kernel_rfl)) rfl ⟨?_, (((Below.refl _ _).alloc (Nat.le_refl _) _).alloc (by simp) _).alloc (by simp; omega) _⟩
  · have := heap_alloc_new ((w.alloc (.cells #[.int .i64 i.op, .int .i64 i.d, .int .i64 i.s, .int .u16 i.imm, .int .u16 i.aux, .int .i64 c1, .int .i64 i.size] 24)).alloc (.cells #[.int .i64 c0, .int .i64 c1] 26)) (.cells #[.int .i64 i.op, .int .i64 i.d, .int .i64 i.s, .int .u16 i.imm, .int .u16 i.aux, .int .i64 c1, .int .i64 i.size] 24)
    simpa using this
  · rw [E0.out]

set_option maxRecDepth 100000 in
set_option maxHeartbeats 1000000 in
theorem spoilt_6 (i : Ins) (c0 c1 : Int) (hk : c0 % 8 = 6) (w : World) :
    Calls Tryd.prog 17 #[.agg #[.int .i64 (i).op, .int .i64 (i).d, .int .i64 (i).s, .int .u16 (i).imm, .int .u16 (i).aux, .int .i64 (i).bank, .int .i64 (i).size], .agg #[.int .i64 c0, .int .i64 c1]] w fun e w' => e = .returned (.agg (insCells (spoiltS i c0 c1))) ∧ Below w.heap.size w w' := by
  have e0 : insCells (spoiltS i c0 c1) = #[.int .i64 i.op, .int .i64 i.d, .int .i64 i.s, .int .u16 i.imm, .int .u16 i.aux, .int .i64 i.bank, .int .i64 c1] := by unfold spoiltS; simp [hk, insCells, vi, vw]
  have E0 := Lib.hid e0
  clear e0
  have a1 := i64_and7 c0
  have hw : IntKind.u16.wrap c1 = c1 % 65536 := rfl
  go_enter Tryd.func17, Tryd.ntmps17
  go_upto_region 16 with fail
  have RR := Lib.hid ((heap_alloc_old ((w.alloc (.cells #[.int .i64 i.op, .int .i64 i.d, .int .i64 i.s, .int .u16 i.imm, .int .u16 i.aux, .int .i64 i.bank, .int .i64 c1] 24)).alloc (.cells #[.int .i64 c0, .int .i64 c1] 26)) (.cells #[.int .i64 0, .int .i64 0, .int .i64 0, .int .u16 0, .int .u16 0, .int .i64 0, .int .i64 0] 24) (by simp; omega : w.heap.size < _)).trans ((heap_alloc_old (w.alloc (.cells #[.int .i64 i.op, .int .i64 i.d, .int .i64 i.s, .int .u16 i.imm, .int .u16 i.aux, .int .i64 i.bank, .int .i64 c1] 24)) (.cells #[.int .i64 c0, .int .i64 c1] 26) (by simp : w.heap.size < _)).trans (heap_alloc_new w (.cells #[.int .i64 i.op, .int .i64 i.d, .int .i64 i.s, .int .u16 i.imm, .int .u16 i.aux, .int .i64 i.bank, .int .i64 c1] 24))))
  go_wp2_with (first
    | (refine wpList_load_row rfl _ (.tmp 2) rfl _ rfl _ #[.int .i64 i.op, .int .i64 i.d, .int .i64 i.s, .int .u16 i.imm, .int .u16 i.aux, .int .i64 i.bank, .int .i64 c1] _ _ RR.out Tryd.underlying24 rfl ?_ ?_; kernel_rfl)
    | (refine wpList_store_row rfl _ _ _ rfl _ _ rfl rfl _ _ (heap_alloc_new _ _) ?_ ?_ ?_ ?_; kernel_rfl; rfl; kernel_rfl; rw [World.setRow_alloc_new]))
  refine bodyPost_ret (results_cell_row (cs := #[.int .i64 i.op, .int .i64 i.d, .int .i64 i.s, .int .u16 i.imm, .int .u16 i.aux, .int .i64 i.bank, .int .i64 c1]) (fr := (0, 0)) rfl _ _ (w.heap.size + 2) 24 _ rfl ?_ (Tryd.underlying24) rfl (by kernel_rfl)) rfl ⟨?_, (((Below.refl _ _).alloc (Nat.le_refl _) _).alloc (by simp) _).alloc (by simp; omega) _⟩
  · have := heap_alloc_new ((w.alloc (.cells #[.int .i64 i.op, .int .i64 i.d, .int .i64 i.s, .int .u16 i.imm, .int .u16 i.aux, .int .i64 i.bank, .int .i64 c1] 24)).alloc (.cells #[.int .i64 c0, .int .i64 c1] 26)) (.cells #[.int .i64 i.op, .int .i64 i.d, .int .i64 i.s, .int .u16 i.imm, .int .u16 i.aux, .int .i64 i.bank, .int .i64 c1] 24)
    simpa using this
  · rw [E0.out]

set_option maxRecDepth 100000 in
set_option maxHeartbeats 1000000 in
theorem spoilt_7 (i : Ins) (c0 c1 : Int) (hk : c0 % 8 = 7) (w : World) :
    Calls Tryd.prog 17 #[.agg #[.int .i64 (i).op, .int .i64 (i).d, .int .i64 (i).s, .int .u16 (i).imm, .int .u16 (i).aux, .int .i64 (i).bank, .int .i64 (i).size], .agg #[.int .i64 c0, .int .i64 c1]] w fun e w' => e = .returned (.agg (insCells (spoiltS i c0 c1))) ∧ Below w.heap.size w w' := by
  have e0 : insCells (spoiltS i c0 c1) = #[.int .i64 i.op, .int .i64 i.d, .int .i64 i.s, .int .u16 i.imm, .int .u16 i.aux, .int .i64 i.bank, .int .i64 i.size] := by unfold spoiltS; simp [hk, insCells, vi, vw]
  have E0 := Lib.hid e0
  clear e0
  have a1 := i64_and7 c0
  have hw : IntKind.u16.wrap c1 = c1 % 65536 := rfl
  go_enter Tryd.func17, Tryd.ntmps17
  go_upto_region 16 with fail
  have RR := Lib.hid ((heap_alloc_old ((w.alloc (.cells #[.int .i64 i.op, .int .i64 i.d, .int .i64 i.s, .int .u16 i.imm, .int .u16 i.aux, .int .i64 i.bank, .int .i64 i.size] 24)).alloc (.cells #[.int .i64 c0, .int .i64 c1] 26)) (.cells #[.int .i64 0, .int .i64 0, .int .i64 0, .int .u16 0, .int .u16 0, .int .i64 0, .int .i64 0] 24) (by simp; omega : w.heap.size < _)).trans ((heap_alloc_old (w.alloc (.cells #[.int .i64 i.op, .int .i64 i.d, .int .i64 i.s, .int .u16 i.imm, .int .u16 i.aux, .int .i64 i.bank, .int .i64 i.size] 24)) (.cells #[.int .i64 c0, .int .i64 c1] 26) (by simp : w.heap.size < _)).trans (heap_alloc_new w (.cells #[.int .i64 i.op, .int .i64 i.d, .int .i64 i.s, .int .u16 i.imm, .int .u16 i.aux, .int .i64 i.bank, .int .i64 i.size] 24))))
  go_wp2_with (first
    | (refine wpList_load_row rfl _ (.tmp 2) rfl _ rfl _ #[.int .i64 i.op, .int .i64 i.d, .int .i64 i.s, .int .u16 i.imm, .int .u16 i.aux, .int .i64 i.bank, .int .i64 i.size] _ _ RR.out Tryd.underlying24 rfl ?_ ?_; kernel_rfl)
    | (refine wpList_store_row rfl _ _ _ rfl _ _ rfl rfl _ _ (heap_alloc_new _ _) ?_ ?_ ?_ ?_; kernel_rfl; rfl; kernel_rfl; rw [World.setRow_alloc_new]))
  refine bodyPost_ret (results_cell_row (cs := #[.int .i64 i.op, .int .i64 i.d, .int .i64 i.s, .int .u16 i.imm, .int .u16 i.aux, .int .i64 i.bank, .int .i64 i.size]) (fr := (0, 0)) rfl _ _ (w.heap.size + 2) 24 _ rfl ?_ (Tryd.underlying24) rfl (by kernel_rfl)) rfl ⟨?_, (((Below.refl _ _).alloc (Nat.le_refl _) _).alloc (by simp) _).alloc (by simp; omega) _⟩
  · have := heap_alloc_new ((w.alloc (.cells #[.int .i64 i.op, .int .i64 i.d, .int .i64 i.s, .int .u16 i.imm, .int .u16 i.aux, .int .i64 i.bank, .int .i64 i.size] 24)).alloc (.cells #[.int .i64 c0, .int .i64 c1] 26)) (.cells #[.int .i64 i.op, .int .i64 i.d, .int .i64 i.s, .int .u16 i.imm, .int .u16 i.aux, .int .i64 i.bank, .int .i64 i.size] 24)
    simpa using this
  · rw [E0.out]

theorem spoilt_any (i : Ins) (c0 c1 : Int) (w : World) :
    Calls Tryd.prog 17 #[.agg #[.int .i64 (i).op, .int .i64 (i).d, .int .i64 (i).s, .int .u16 (i).imm, .int .u16 (i).aux, .int .i64 (i).bank, .int .i64 (i).size], .agg #[.int .i64 c0, .int .i64 c1]] w fun e w' => e = .returned (.agg (insCells (spoiltS i c0 c1))) ∧ Below w.heap.size w w' := by
  have h8 : c0 % 8 = 0 ∨ c0 % 8 = 1 ∨ c0 % 8 = 2 ∨ c0 % 8 = 3 ∨ c0 % 8 = 4 ∨ c0 % 8 = 5 ∨ c0 % 8 = 6 ∨ c0 % 8 = 7 := by omega
  rcases h8 with h | h | h | h | h | h | h | h
  · exact spoilt_0 i c0 c1 h w
  · exact spoilt_1 i c0 c1 h w
  · exact spoilt_2 i c0 c1 h w
  · exact spoilt_3 i c0 c1 h w
  · exact spoilt_4 i c0 c1 h w
  · exact spoilt_5 i c0 c1 h w
  · exact spoilt_6 i c0 c1 h w
  · exact spoilt_7 i c0 c1 h w

end Go.Proofs.YtakahmhbopakmaaDoor
