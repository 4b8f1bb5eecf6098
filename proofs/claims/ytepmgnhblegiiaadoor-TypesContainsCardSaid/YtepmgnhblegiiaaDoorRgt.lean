/- right: whether a constraint is well-formed. No condition beyond what each states. -/
import Derived.Test.YtepmgnhblegiiaaDoorSolF
import Derived.Deep.DeepCutAuto
set_option linter.all false
namespace Go.Proofs.YtepmgnhblegiiaaDoor
open Go Go.RowKit Go.Maps

theorem within_any (w : World) (gn : Nat) (T : TypeId) (n a : Int) (h : w.heap[gn]? = some (.cells #[.int .i64 n] T (0, 0))) :
    Calls Tryd.prog 38 #[.int .i64 a, .pointer (some ⟨gn, 0, none⟩)] w fun e w' => e = .returned (.bool (decide (0 ≤ a ∧ a < n))) ∧ w = w' := by
  have c0 := cell_of_one h
  clear h
  go_enter Tryd.func38, Tryd.ntmps38
  by_cases h0 : 0 ≤ a
  · have e0 : decide (a ≥ 0) = true := by simpa using h0
    by_cases h1 : a < n
    · go_wp2
      go_ret
      exact ⟨by simp [h0, h1], rfl⟩
    · go_wp2
      go_ret
      exact ⟨by simp [h0, h1], rfl⟩
  · go_wp2
    go_ret
    exact ⟨by rw [show decide (0 ≤ a) = false from decide_eq_false (by omega)]; rfl, rfl⟩
theorem least_any (w : World) (gc : Nat) (T : TypeId) (c : Con) (a : Int) (h : w.heap[gc]? = some (.cells (conCells c) T (0, 0))) :
    Calls Tryd.prog 39 #[.int .i64 a, .pointer (some ⟨gc, 0, none⟩)] w fun e w' => e = .returned (.bool (decide (a ≤ c.n ∧ c.n ≤ 65535))) ∧ w = w' := by
  have c0 : w.cell? ⟨gc, 3, none⟩ = some (.int .i64 c.n) := by rw [cell_of_row _ _ _ _ _ _ h]; rfl
  clear h
  go_enter Tryd.func39, Tryd.ntmps39
  by_cases h0 : a ≤ c.n
  · by_cases h1 : c.n ≤ 65535
    · go_wp2
      go_ret
      exact ⟨by simp [h0, h1], rfl⟩
    · go_wp2
      go_ret
      exact ⟨by simp [h0, h1], rfl⟩
  · go_wp2
    go_ret
    exact ⟨by rw [show decide (a ≤ c.n) = false from decide_eq_false (by omega)]; rfl, rfl⟩
def inB (n a : Int) : Bool := decide (0 ≤ a ∧ a < n)
def leB (m a : Int) : Bool := decide (a ≤ m ∧ m ≤ 65535)
def RgtPost (n : Int) (c : Con) (w : World) (e : Ending) (w' : World) : Prop := e = .returned (.bool (rightS n c)) ∧ Below w.heap.size w w'

set_option maxRecDepth 100000 in
set_option maxHeartbeats 2000000 in
theorem right_any (n : Int) (c : Con) (w : World) : Calls Tryd.prog 28 #[.int .i64 n, .agg (conCells c)] w (RgtPost n c w) := by
  obtain ⟨k, a, b, m⟩ := c
  obtain ⟨W, hW⟩ : ∃ W, W = (w.alloc (.cells #[.int .i64 n] 3)).alloc (.cells #[.int .i64 k, .int .i64 a, .int .i64 b, .int .i64 m] 37) := ⟨_, rfl⟩
  have b1 : W.heap[w.heap.size]? = some (.cells #[.int .i64 n] 3 (0, 0)) := by
    rw [hW, alloc_other _ _ (by simp)]; exact heap_alloc_new _ _
  have b2 : W.heap[w.heap.size + 1]? = some (.cells (conCells ⟨k, a, b, m⟩) 37 (0, 0)) := by
    have := heap_alloc_new (w.alloc (.cells #[.int .i64 n] 3)) (.cells #[.int .i64 k, .int .i64 a, .int .i64 b, .int .i64 m] 37)
    rw [hW]; simpa [conCells] using this
  have hbl : Below w.heap.size w W := by rw [hW]; exact ((Below.refl _ _).alloc (Nat.le_refl _) _).alloc (by simp) _
  have HIN := Lib.hid (fun x => show Calls Tryd.prog 38 #[.int .i64 x, .pointer (some ⟨w.heap.size, 0, none⟩)] W fun e w' => e = .returned (.bool (inB n x)) ∧ W = w' from within_any W w.heap.size _ n x b1)
  have HLE := Lib.hid (fun x => show Calls Tryd.prog 39 #[.int .i64 x, .pointer (some ⟨w.heap.size + 1, 0, none⟩)] W fun e w' => e = .returned (.bool (leB m x)) ∧ W = w' from least_any W (w.heap.size + 1) _ ⟨k, a, b, m⟩ x b2)
  have HBL := Lib.hid hbl
  have k0 : W.cell? ⟨w.heap.size + 1, 0, none⟩ = some (.int .i64 k) := by rw [cell_of_row _ _ _ _ _ _ b2]; rfl
  have k1 : W.cell? ⟨w.heap.size + 1, 1, none⟩ = some (.int .i64 a) := by rw [cell_of_row _ _ _ _ _ _ b2]; rfl
  have k2 : W.cell? ⟨w.heap.size + 1, 2, none⟩ = some (.int .i64 b) := by rw [cell_of_row _ _ _ _ _ _ b2]; rfl
  have hin : ∀ x, inB n x = decide (0 ≤ x ∧ x < n) := fun _ => rfl
  have hle : ∀ x, leB m x = decide (x ≤ m ∧ m ≤ 65535) := fun _ => rfl
  have HSP := Lib.hid (show rightS n ⟨k, a, b, m⟩ = (inB n a && (((decide (k = 1 ∨ k = 5)) && inB n b) || (decide (k = 2) && leB m 1) || decide (k = 3 ∨ k = 4) || (decide (k = 6) && inB n b && leB m 0) || (decide (k = 7) && inB n b && leB m 1))) from rfl)
  change Calls _ _ #[.int .i64 n, .agg #[.int .i64 k, .int .i64 a, .int .i64 b, .int .i64 m]] w _
  clear hbl b1 b2 hin hle
  go_enter Tryd.func28, Tryd.ntmps28
  go_upto_region 3 with (fail)
  change Code.wp _ _ _ _ ((w.alloc (.cells #[.int .i64 n] 3)).alloc (.cells #[.int .i64 k, .int .i64 a, .int .i64 b, .int .i64 m] 37))
  rw [← hW]
  clear hW
  rcases (show k = 1 ∨ k = 5 ∨ k = 2 ∨ k = 3 ∨ k = 4 ∨ k = 6 ∨ k = 7 ∨ (k ≠ 1 ∧ k ≠ 2 ∧ k ≠ 3 ∧ k ≠ 4 ∧ k ≠ 5 ∧ k ≠ 6 ∧ k ≠ 7) by omega) with rfl | rfl | rfl | rfl | rfl | rfl | rfl | hk
  · cases h0 : inB n a <;> cases h1 : inB n b
    all_goals
      go_wp2_with (first | (go_at_call 38; refine (HIN.out _).mono ?_; rintro e w4 ⟨rfl, rfl⟩) | (go_at_call 39; refine (HLE.out _).mono ?_; rintro e w4 ⟨rfl, rfl⟩))
      go_ret
      exact ⟨by rw [HSP.out, h0, h1]; rfl, HBL.out⟩
  · cases h0 : inB n a <;> cases h1 : inB n b
    all_goals
      go_wp2_with (first | (go_at_call 38; refine (HIN.out _).mono ?_; rintro e w4 ⟨rfl, rfl⟩) | (go_at_call 39; refine (HLE.out _).mono ?_; rintro e w4 ⟨rfl, rfl⟩))
      go_ret
      exact ⟨by rw [HSP.out, h0, h1]; rfl, HBL.out⟩
  · cases h0 : inB n a <;> cases h1 : leB m 1
    all_goals
      go_wp2_with (first | (go_at_call 38; refine (HIN.out _).mono ?_; rintro e w4 ⟨rfl, rfl⟩) | (go_at_call 39; refine (HLE.out _).mono ?_; rintro e w4 ⟨rfl, rfl⟩))
      go_ret
      exact ⟨by rw [HSP.out, h0, h1]; rfl, HBL.out⟩
  · cases h0 : inB n a
    all_goals
      go_wp2_with (first | (go_at_call 38; refine (HIN.out _).mono ?_; rintro e w4 ⟨rfl, rfl⟩) | (go_at_call 39; refine (HLE.out _).mono ?_; rintro e w4 ⟨rfl, rfl⟩))
      go_ret
      exact ⟨by rw [HSP.out, h0]; rfl, HBL.out⟩
  · cases h0 : inB n a
    all_goals
      go_wp2_with (first | (go_at_call 38; refine (HIN.out _).mono ?_; rintro e w4 ⟨rfl, rfl⟩) | (go_at_call 39; refine (HLE.out _).mono ?_; rintro e w4 ⟨rfl, rfl⟩))
      go_ret
      exact ⟨by rw [HSP.out, h0]; rfl, HBL.out⟩
  · cases h0 : inB n a <;> cases h1 : inB n b <;> cases h2 : leB m 0
    all_goals
      go_wp2_with (first | (go_at_call 38; refine (HIN.out _).mono ?_; rintro e w4 ⟨rfl, rfl⟩) | (go_at_call 39; refine (HLE.out _).mono ?_; rintro e w4 ⟨rfl, rfl⟩))
      go_ret
      exact ⟨by rw [HSP.out, h0, h1, h2]; rfl, HBL.out⟩
  · cases h0 : inB n a <;> cases h1 : inB n b <;> cases h2 : leB m 1
    all_goals
      go_wp2_with (first | (go_at_call 38; refine (HIN.out _).mono ?_; rintro e w4 ⟨rfl, rfl⟩) | (go_at_call 39; refine (HLE.out _).mono ?_; rintro e w4 ⟨rfl, rfl⟩))
      go_ret
      exact ⟨by rw [HSP.out, h0, h1, h2]; rfl, HBL.out⟩
  · obtain ⟨n1, n2, n3, n4, n5, n6, n7⟩ := hk
    have q1 : (k == 1) = false := by simpa using n1
    have q2 : (k == 2) = false := by simpa using n2
    have q3 : (k == 3) = false := by simpa using n3
    have q4 : (k == 4) = false := by simpa using n4
    have q5 : (k == 5) = false := by simpa using n5
    have q6 : (k == 6) = false := by simpa using n6
    have q7 : (k == 7) = false := by simpa using n7
    have hs : rightS n ⟨k, a, b, m⟩ = false := by rw [HSP.out]; simp [n1, n2, n3, n4, n5, n6, n7]
    have HS := Lib.hid hs
    clear hs n1 n2 n3 n4 n5 n6 n7
    go_wp2_with (first | (go_at_call 38; refine (HIN.out _).mono ?_; rintro e w4 ⟨rfl, rfl⟩) | (go_at_call 39; refine (HLE.out _).mono ?_; rintro e w4 ⟨rfl, rfl⟩))
    go_ret
    exact ⟨by rw [HS.out]; rfl, HBL.out⟩
end Go.Proofs.YtepmgnhblegiiaaDoor
