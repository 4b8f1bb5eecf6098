/- sanity: walked. Condition: the library's tables read as the text lays them. -/
import Derived.Test.YtakahmhbopakmaaDoorSaneA
import Derived.Test.YtakahmhbopakmaaDoorTargetA
set_option linter.all false
namespace Go.Proofs.YtakahmhbopakmaaDoor
open Go.RowKit

def BB (w : World) (e : Ending) (w' : World) (v : Value) : Prop := e = .returned v ∧ Below w.heap.size w w'
theorem cE1 (w : World) : Calls Tryd.prog 18 #[.agg #[.int .i64 32, .int .i64 1, .int .i64 2, .int .u16 0, .int .u16 0, .int .i64 0, .int .i64 2]] w fun e w' => e = .returned (.tuple #[.string ⟨#[32, 18]⟩, .int .i64 0]) ∧ Below w.heap.size w w' := by
  have := encode_any sI1 ⟨⟨by decide, by decide⟩, ⟨by decide, by decide⟩, ⟨by decide, by decide⟩, ⟨by decide, by decide⟩, ⟨by decide, by decide⟩, ⟨by decide, by decide⟩, ⟨by decide, by decide⟩⟩ w
  rw [sE1.1, sE1.2] at this
  exact this
theorem cE2 (w : World) : Calls Tryd.prog 18 #[.agg #[.int .i64 65, .int .i64 3, .int .i64 0, .int .u16 4660, .int .u16 0, .int .i64 0, .int .i64 4]] w fun e w' => e = .returned (.tuple #[.string ⟨#[65, 3, 52, 18]⟩, .int .i64 0]) ∧ Below w.heap.size w w' := by
  have := encode_any sI2 ⟨⟨by decide, by decide⟩, ⟨by decide, by decide⟩, ⟨by decide, by decide⟩, ⟨by decide, by decide⟩, ⟨by decide, by decide⟩, ⟨by decide, by decide⟩, ⟨by decide, by decide⟩⟩ w
  rw [sE2.1, sE2.2] at this
  exact this
theorem cE3 (w : World) : Calls Tryd.prog 18 #[.agg #[.int .i64 80, .int .i64 1, .int .i64 2, .int .u16 300, .int .u16 0, .int .i64 0, .int .i64 3]] w fun e w' => e = .returned (.tuple #[.string (strOf (encB sI3)), .int .i64 3]) ∧ Below w.heap.size w w' := by
  have := encode_any sI3 ⟨⟨by decide, by decide⟩, ⟨by decide, by decide⟩, ⟨by decide, by decide⟩, ⟨by decide, by decide⟩, ⟨by decide, by decide⟩, ⟨by decide, by decide⟩, ⟨by decide, by decide⟩⟩ w
  rw [sE3] at this
  exact this
theorem cD4 (w : World) : Calls Tryd.prog 22 #[.string ⟨#[133, 2, 5, 16, 0, 64, 1]⟩] w fun e w' => e = .returned (.tuple #[.agg #[.int .i64 133, .int .i64 2, .int .i64 0, .int .u16 16, .int .u16 320, .int .i64 5, .int .i64 7], .int .i64 0]) ∧ Below w.heap.size w w' := by
  have := decode_any ⟨#[133, 2, 5, 16, 0, 64, 1]⟩ (by decide) w
  rw [sD4.1, sD4.2] at this
  exact this
theorem cT5 (w : World) : Calls Tryd.prog 26 #[.agg #[.int .i64 128, .int .i64 0, .int .i64 0, .int .u16 65534, .int .u16 0, .int .i64 0, .int .i64 2], .agg #[.int .i64 3, .int .u16 4352]] w fun e w' => e = .returned (.tuple #[.agg #[.int .i64 3, .int .u16 4352], .bool true]) ∧ Below w.heap.size w w' := by
  have := target_any sI5 ⟨⟨by decide, by decide⟩, ⟨by decide, by decide⟩, ⟨by decide, by decide⟩, ⟨by decide, by decide⟩, ⟨by decide, by decide⟩, ⟨by decide, by decide⟩, ⟨by decide, by decide⟩⟩ ⟨3, 4352⟩ w
  have h : targetS sI5 ⟨3, 4352⟩ = (⟨3, 4352⟩, true) := by unfold targetS; rw [if_pos sV5]; rfl
  rw [h] at this
  exact this
theorem cT6 (w : World) : Calls Tryd.prog 26 #[.agg #[.int .i64 129, .int .i64 0, .int .i64 0, .int .u16 4096, .int .u16 0, .int .i64 0, .int .i64 3], .agg #[.int .i64 0, .int .u16 256]] w fun e w' => e = .returned (.tuple #[.agg #[.int .i64 0, .int .u16 0], .bool false]) ∧ Below w.heap.size w w' := by
  have := target_any sI6 ⟨⟨by decide, by decide⟩, ⟨by decide, by decide⟩, ⟨by decide, by decide⟩, ⟨by decide, by decide⟩, ⟨by decide, by decide⟩, ⟨by decide, by decide⟩, ⟨by decide, by decide⟩⟩ ⟨0, 256⟩ w
  have h : targetS sI6 ⟨0, 256⟩ = (⟨0, 0⟩, false) := by unfold targetS; rw [if_pos sV6]; rfl
  rw [h] at this
  exact this
theorem cL7 (w : World) (hT : Tabs w) : Calls Tryd.prog 27 #[.agg #[.int .i64 146, .int .i64 1, .int .i64 2, .int .u16 256, .int .u16 0, .int .i64 3, .int .i64 5], .agg #[.int .i64 0, .int .u16 0]] w fun e w' => e = .returned (.string ⟨#[108, 100, 99, 32, 114, 49, 44, 32, 51, 58, 91, 114, 50, 43, 48, 120, 48, 49, 48, 48, 93]⟩) ∧ Below w.heap.size w w' := by
  have := line_any sI7 ⟨⟨by decide, by decide⟩, ⟨by decide, by decide⟩, ⟨by decide, by decide⟩, ⟨by decide, by decide⟩, ⟨by decide, by decide⟩, ⟨by decide, by decide⟩, ⟨by decide, by decide⟩⟩ ⟨0, 0⟩ w hT
  rw [sL7] at this
  exact this

set_option maxRecDepth 100000 in
set_option maxHeartbeats 2000000 in
theorem sanity_any (w : World) (hT : Tabs w) :
    Calls Tryd.prog 15 #[] w fun e w' => e = .returned (.bool true) ∧ Below w.heap.size w w' := by
  have HT := Lib.hid hT
  clear hT
  have HBB := Lib.hid (Below.refl w.heap.size w)
  generalize strOf (encB sI3) = s3 at *
  go_enter Tryd.func15, Tryd.ntmps15
  go_upto_region 2 with (go_at_call 18; refine (cE1 _).mono ?_; rintro e w1 ⟨rfl, hb1⟩; have HBB := Lib.hid hb1; clear hb1)
  go_upto_region 3 with (go_at_call 18; refine (cE2 _).mono ?_; rintro e w2 ⟨rfl, hb2⟩; have HBB := Lib.hid (HBB.out.trans (hb2.mono HBB.out.size)); clear hb2)
  go_upto_region 4 with (go_at_call 18; refine (cE3 _).mono ?_; rintro e w3 ⟨rfl, hb3⟩; have HBB := Lib.hid (HBB.out.trans (hb3.mono HBB.out.size)); clear hb3)
  go_upto_region 5 with (first
    | (refine wpList_store_row rfl _ _ _ rfl _ _ rfl rfl _ _ (heap_alloc_new _ _) ?_ ?_ ?_ ?_; kernel_rfl; rfl; kernel_rfl; rw [World.setRow_alloc_new])
    | (go_at_call 22; refine (cD4 _).mono ?_; rintro e w4 ⟨rfl, hb4⟩; have HBB := Lib.hid (HBB.out.trans (hb4.mono HBB.out.size)); clear hb4))
  have hB1 := heap_alloc_new w4 (.cells #[.int .i64 133, .int .i64 2, .int .i64 0, .int .u16 16, .int .u16 320, .int .i64 5, .int .i64 7] 24)
  have hz1 : w4.heap.size < (w4.alloc (.cells #[.int .i64 133, .int .i64 2, .int .i64 0, .int .u16 16, .int .u16 320, .int .i64 5, .int .i64 7] 24)).heap.size := by simp
  have HBB := Lib.hid (HBB.out.alloc HBB.out.size (.cells #[.int .i64 133, .int .i64 2, .int .i64 0, .int .u16 16, .int .u16 320, .int .i64 5, .int .i64 7] 24))
  go_upto_region 6 with (first
    | (refine wpList_store_row rfl _ _ _ rfl _ _ rfl rfl _ _ (heap_alloc_new _ _) ?_ ?_ ?_ ?_; kernel_rfl; rfl; kernel_rfl; rw [World.setRow_alloc_new])
    | (go_at_call 26; refine (cT5 _).mono ?_; rintro e w5 ⟨rfl, hb5⟩; have HBB := Lib.hid (HBB.out.trans (hb5.mono HBB.out.size)); have hB1 := (hb5.block _ hz1).trans hB1; have hz5 := Nat.lt_of_lt_of_le hz1 hb5.size; clear hb5))
  have hB1 := (heap_alloc_old w5 (.cells #[.int .i64 3, .int .u16 4352] 47) hz5).trans hB1
  have hB2 := heap_alloc_new w5 (.cells #[.int .i64 3, .int .u16 4352] 47)
  have hz1 : w4.heap.size < (w5.alloc (.cells #[.int .i64 3, .int .u16 4352] 47)).heap.size := by simp; omega
  have hz2 : w5.heap.size < (w5.alloc (.cells #[.int .i64 3, .int .u16 4352] 47)).heap.size := by simp
  have HBB := Lib.hid (HBB.out.alloc HBB.out.size (.cells #[.int .i64 3, .int .u16 4352] 47))
  go_upto_region 7 with (first
    | (refine wpList_store_row rfl _ _ _ rfl _ _ rfl rfl _ _ (heap_alloc_new _ _) ?_ ?_ ?_ ?_; kernel_rfl; rfl; kernel_rfl; rw [World.setRow_alloc_new])
    | (go_at_call 26; refine (cT6 _).mono ?_; rintro e w6 ⟨rfl, hb6⟩; have HBB := Lib.hid (HBB.out.trans (hb6.mono HBB.out.size)); have hB1 := (hb6.block _ hz1).trans hB1; have hB2 := (hb6.block _ hz2).trans hB2; have hz61 := Nat.lt_of_lt_of_le hz1 hb6.size; have hz62 := Nat.lt_of_lt_of_le hz2 hb6.size; clear hb6))
  have hB1 := (heap_alloc_old w6 (.cells #[.int .i64 0, .int .u16 0] 47) hz61).trans hB1
  have hB2 := (heap_alloc_old w6 (.cells #[.int .i64 0, .int .u16 0] 47) hz62).trans hB2
  have hz1 : w4.heap.size < (w6.alloc (.cells #[.int .i64 0, .int .u16 0] 47)).heap.size := by simp; omega
  have hz2 : w5.heap.size < (w6.alloc (.cells #[.int .i64 0, .int .u16 0] 47)).heap.size := by simp; omega
  have HBB := Lib.hid (HBB.out.alloc HBB.out.size (.cells #[.int .i64 0, .int .u16 0] 47))
  go_upto_region 8 with (
    (go_at_call 27; refine (cL7 _ (HT.out.stay HBB.out)).mono ?_; rintro e w7 ⟨rfl, hb7⟩; have HBB := Lib.hid (HBB.out.trans (hb7.mono HBB.out.size)); have hB1 := (hb7.block _ hz1).trans hB1; have hB2 := (hb7.block _ hz2).trans hB2; clear hb7))
  have hc1 := fun o => cell_of_row w7 w4.heap.size o _ _ _ hB1
  have hc2 := fun o => cell_of_row w7 w5.heap.size o _ _ _ hB2
  clear hB1 hB2
  go_wp2_with fail
  go_ret
  exact ⟨rfl, HBB.out⟩

end Go.Proofs.YtakahmhbopakmaaDoor
