/- The reference: Mod, Right. No condition beyond what each states. -/
import Derived.Test.YtepmgnhblegiiaaDoorSolF
set_option linter.all false
namespace Go.Proofs.YtepmgnhblegiiaaDoor
open Go Go.RowKit Go.Maps

theorem tmod_range (n m : Int) (hm : 0 < m) : -m ≤ n.tmod m ∧ n.tmod m < m := by
  have h0 := Int.emod_nonneg n (show m ≠ 0 by omega)
  have h1 := Int.emod_lt_of_pos n hm
  rw [Int.tmod_eq_emod]
  split <;> omega
theorem mod_math (n m : Int) (hm : 0 < m) : ((n.tmod m) + m).tmod m = n % m := by
  have h1 := tmod_range n m hm
  rw [Int.tmod_eq_emod_of_nonneg (by omega), Int.add_emod_right]
  rw [Int.tmod_eq_emod]
  split
  · simp
  · rw [Int.sub_emod]
    have : ((m.natAbs : Int)) % m = 0 := by rw [show (m.natAbs : Int) = m by omega]; exact Int.emod_self
    rw [this]; simp
theorem mod_math2 (n m : Int) (hm : 0 < m) : ((n.tmod m) + m) % m = n % m := by
  rw [Int.add_emod_right, Int.tmod_eq_emod]
  split
  · simp
  · rw [Int.sub_emod]
    have : ((m.natAbs : Int)) % m = 0 := by rw [show (m.natAbs : Int) = m by omega]; exact Int.emod_self
    rw [this]; simp
theorem mod_any (n m : Int) (hn : -9223372036854775808 ≤ n ∧ n ≤ 9223372036854775807) (hm : 0 < m ∧ m ≤ 1000000) (w : World) :
    Calls Tryd.prog 20 #[.int .i64 n, .int .i64 m] w fun e w' => e = .returned (.int .i64 (n % m)) ∧ w = w' := by
  have hz : ¬ m = 0 := by omega
  have h1 := tmod_range n m hm.1
  have HM := Lib.hid (mod_math2 n m hm.1)
  go_enter Tryd.func20, Tryd.ntmps20
  go_wp2
  go_ret
  exact ⟨by rw [← HM.out]; rfl, rfl⟩

set_option maxRecDepth 100000 in
set_option maxHeartbeats 2000000 in
theorem rright_any (n : Int) (c : Con) (w : World) : Calls Tryd.prog 21 #[.int .i64 n, .agg (conCells c)] w fun e w' => e = .returned (.bool (rightS n c)) ∧ Below w.heap.size w w' := by
  obtain ⟨k, a, b, m⟩ := c
  have hbl : Below w.heap.size w (w.alloc (.cells #[.int .i64 k, .int .i64 a, .int .i64 b, .int .i64 m] 37)) := (Below.refl _ _).alloc (Nat.le_refl _) _
  have HB := Lib.hid hbl
  clear hbl
  generalize hq : rightS n ⟨k, a, b, m⟩ = q
  have HQ := Lib.hid hq
  clear hq
  change Calls _ _ #[.int .i64 n, .agg #[.int .i64 k, .int .i64 a, .int .i64 b, .int .i64 m]] w _
  go_enter Tryd.func21, Tryd.ntmps21
  by_cases a0 : a < 0
  · go_wp2
    all_goals (go_ret; exact ⟨congrArg (fun x => Ending.returned (Value.bool x)) (by rw [← HQ.out]; first | (simp [rightS]; done) | (simp [rightS]; omega) | (simp [rightS, *]; done) | (simp [rightS, *]; omega)), HB.out⟩)
  by_cases a1 : n ≤ a
  · go_wp2
    all_goals (go_ret; exact ⟨congrArg (fun x => Ending.returned (Value.bool x)) (by rw [← HQ.out]; first | (simp [rightS]; done) | (simp [rightS]; omega) | (simp [rightS, *]; done) | (simp [rightS, *]; omega)), HB.out⟩)
  by_cases b0 : b < 0
  · rcases (show k = 1 ∨ k = 5 ∨ k = 2 ∨ k = 3 ∨ k = 4 ∨ k = 6 ∨ k = 7 ∨ (k ≠ 1 ∧ k ≠ 2 ∧ k ≠ 3 ∧ k ≠ 4 ∧ k ≠ 5 ∧ k ≠ 6 ∧ k ≠ 7) by omega) with rfl | rfl | rfl | rfl | rfl | rfl | rfl | hk
    all_goals
      go_wp2
      all_goals (go_ret; exact ⟨congrArg (fun x => Ending.returned (Value.bool x)) (by rw [← HQ.out]; first | (simp [rightS]; done) | (simp [rightS]; omega) | (simp [rightS, *]; done) | (simp [rightS, *]; omega)), HB.out⟩)
  by_cases b1 : n ≤ b
  · rcases (show k = 1 ∨ k = 5 ∨ k = 2 ∨ k = 3 ∨ k = 4 ∨ k = 6 ∨ k = 7 ∨ (k ≠ 1 ∧ k ≠ 2 ∧ k ≠ 3 ∧ k ≠ 4 ∧ k ≠ 5 ∧ k ≠ 6 ∧ k ≠ 7) by omega) with rfl | rfl | rfl | rfl | rfl | rfl | rfl | hk
    all_goals
      go_wp2
      all_goals (go_ret; exact ⟨congrArg (fun x => Ending.returned (Value.bool x)) (by rw [← HQ.out]; first | (simp [rightS]; done) | (simp [rightS]; omega) | (simp [rightS, *]; done) | (simp [rightS, *]; omega)), HB.out⟩)
  · rcases (show k = 1 ∨ k = 5 ∨ k = 2 ∨ k = 3 ∨ k = 4 ∨ k = 6 ∨ k = 7 ∨ (k ≠ 1 ∧ k ≠ 2 ∧ k ≠ 3 ∧ k ≠ 4 ∧ k ≠ 5 ∧ k ≠ 6 ∧ k ≠ 7) by omega) with rfl | rfl | rfl | rfl | rfl | rfl | rfl | hk
    all_goals
      go_wp2
      all_goals (go_ret; exact ⟨congrArg (fun x => Ending.returned (Value.bool x)) (by rw [← HQ.out]; first | (simp [rightS]; done) | (simp [rightS]; omega) | (simp [rightS, *]; done) | (simp [rightS, *]; omega)), HB.out⟩)
end Go.Proofs.YtepmgnhblegiiaaDoor
