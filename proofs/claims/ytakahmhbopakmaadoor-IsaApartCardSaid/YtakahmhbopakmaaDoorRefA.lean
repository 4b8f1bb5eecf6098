/- Format of the reference implementation: the kind of the format of an operation. No condition. -/
import Derived.Test.YtakahmhbopakmaaDoorKit
set_option linter.all false
namespace Go.Proofs.YtakahmhbopakmaaDoor
open Go.RowKit

def fmtTab : List Int := [
  1, 1, 1, 1, 1, 1, 0, 0, 0, 0, 0, 0, 0, 0, 0, 0,  2, 2, 2, 2, 3, 3, 0, 0, 0, 0, 0, 0, 0, 0, 0, 0,
  4, 4, 4, 4, 4, 4, 4, 4, 4, 4, 4, 4, 4, 4, 4, 0,  5, 5, 5, 5, 5, 5, 5, 5, 5, 5, 5, 5, 5, 5, 5, 0,
  6, 6, 6, 6, 6, 6, 6, 6, 6, 6, 6, 6, 6, 6, 6, 0,  7, 7, 7, 7, 9, 9, 9, 9, 8, 8, 8, 8, 0, 0, 0, 0,
  10, 10, 10, 10, 10, 10, 10, 10, 10, 10, 10, 10, 10, 10, 0, 0,  11, 11, 11, 11, 11, 11, 11, 11, 11, 11, 11, 11, 11, 11, 0, 0,
  10, 11, 11, 12, 12, 13, 14, 0, 0, 0, 0, 0, 0, 0, 0, 0,  15, 15, 16, 16, 0, 0, 17, 0, 0, 0, 0, 0, 0, 0, 0, 0,
  15, 15, 18, 18]
/-- The kind of the format of an operation, 0 if there is none. -/
def fmtS (op : Int) : Int := if 0 ≤ op ∧ op ≤ 163 then fmtTab.getD op.toNat 0 else 0

theorem fmt_out (op : Int) (h : op < 0 ∨ 163 < op) (w : World) :
    Calls Tryd.prog 32 #[.int .i64 op] w fun e w' => e = .returned (.int .i64 0) ∧ Below w.heap.size w w' := by
  rcases h with h | h
  · go_enter Tryd.func32, Tryd.ntmps32
    go_wp2
    go_ret
    exact ⟨rfl, Below.refl _ _⟩
  · have h' : ¬ op < 0 := by omega
    go_enter Tryd.func32, Tryd.ntmps32
    go_wp2
    go_ret
    exact ⟨rfl, Below.refl _ _⟩

theorem fmt_leaf (op : Int) (h0 : 0 ≤ op) (h1 : op ≤ 163) (c : Int) (h : fmtTab.getD op.toNat 0 = c) : Ending.returned (.int .i64 c) = .returned (.int .i64 (fmtS op)) := by
  unfold fmtS; rw [if_pos ⟨h0, h1⟩, h]
theorem fmt_at (c lo hi : Nat) (f : Int) (h : ∀ n, n < 164 → n / 16 = c → lo ≤ n % 16 → n % 16 ≤ hi → fmtTab.getD n 0 = f) (op : Int) (h0 : 0 ≤ op) (h1 : op ≤ 163) (hq : op / 16 = c) (hl : lo ≤ op % 16) (hh : op % 16 ≤ hi) : fmtTab.getD op.toNat 0 = f :=
  h op.toNat (by omega) (by omega) (by omega) (by omega)
theorem i64_and15 (n : Int) : bits .and .i64 n 15 = n % 16 := by
  have h15 : (BitVec.ofInt 64 15).toNat = 2 ^ 4 - 1 := by decide
  have key : (BitVec.ofInt 64 n &&& BitVec.ofInt 64 15).toNat = (n % ((2 ^ 64 : Nat) : Int)).toNat % 2 ^ 4 := by
    rw [BitVec.toNat_and, BitVec.toNat_ofInt, h15, Nat.and_two_pow_sub_one_eq_mod]
  show IntKind.i64.wrap ((BitVec.ofInt 64 n &&& BitVec.ofInt 64 15).toNat : Nat) = n % 16
  rw [key, IntKind.wrap_i64]
  omega

set_option maxHeartbeats 1000000 in
theorem fmt_0 (op : Int) (h0 : 0 ≤ op) (h1 : op ≤ 163) (hq : op / 16 = 0) (w : World) :
    Calls Tryd.prog 32 #[.int .i64 op] w fun e w' => e = .returned (.int .i64 (fmtS op)) ∧ Below w.heap.size w w' := by
  have hand := i64_and15 op
  have r0 : 0 ≤ op % 16 := by omega
  have r1 : op % 16 < 16 := by omega
  go_enter Tryd.func32, Tryd.ntmps32
  go_wp2
  all_goals (go_ret; refine ⟨?_, Below.refl _ _⟩; exact fmt_leaf op h0 h1 _ (by first | exact fmt_at 0 0 5 1 (by decide +kernel) op h0 h1 hq (by omega) (by omega) | exact fmt_at 0 6 15 0 (by decide +kernel) op h0 h1 hq (by omega) (by omega)))

set_option maxHeartbeats 1000000 in
theorem fmt_1 (op : Int) (h0 : 0 ≤ op) (h1 : op ≤ 163) (hq : op / 16 = 1) (w : World) :
    Calls Tryd.prog 32 #[.int .i64 op] w fun e w' => e = .returned (.int .i64 (fmtS op)) ∧ Below w.heap.size w w' := by
  have hand := i64_and15 op
  have r0 : 0 ≤ op % 16 := by omega
  have r1 : op % 16 < 16 := by omega
  go_enter Tryd.func32, Tryd.ntmps32
  go_wp2
  all_goals (go_ret; refine ⟨?_, Below.refl _ _⟩; exact fmt_leaf op h0 h1 _ (by first | exact fmt_at 1 0 3 2 (by decide +kernel) op h0 h1 hq (by omega) (by omega) | exact fmt_at 1 4 5 3 (by decide +kernel) op h0 h1 hq (by omega) (by omega) | exact fmt_at 1 6 15 0 (by decide +kernel) op h0 h1 hq (by omega) (by omega)))

set_option maxHeartbeats 1000000 in
theorem fmt_2 (op : Int) (h0 : 0 ≤ op) (h1 : op ≤ 163) (hq : op / 16 = 2) (w : World) :
    Calls Tryd.prog 32 #[.int .i64 op] w fun e w' => e = .returned (.int .i64 (fmtS op)) ∧ Below w.heap.size w w' := by
  have hand := i64_and15 op
  have r0 : 0 ≤ op % 16 := by omega
  have r1 : op % 16 < 16 := by omega
  go_enter Tryd.func32, Tryd.ntmps32
  go_wp2
  all_goals (go_ret; refine ⟨?_, Below.refl _ _⟩; exact fmt_leaf op h0 h1 _ (by first | exact fmt_at 2 0 14 4 (by decide +kernel) op h0 h1 hq (by omega) (by omega) | exact fmt_at 2 15 15 0 (by decide +kernel) op h0 h1 hq (by omega) (by omega)))

set_option maxHeartbeats 1000000 in
theorem fmt_3 (op : Int) (h0 : 0 ≤ op) (h1 : op ≤ 163) (hq : op / 16 = 3) (w : World) :
    Calls Tryd.prog 32 #[.int .i64 op] w fun e w' => e = .returned (.int .i64 (fmtS op)) ∧ Below w.heap.size w w' := by
  have hand := i64_and15 op
  have r0 : 0 ≤ op % 16 := by omega
  have r1 : op % 16 < 16 := by omega
  go_enter Tryd.func32, Tryd.ntmps32
  go_wp2
  all_goals (go_ret; refine ⟨?_, Below.refl _ _⟩; exact fmt_leaf op h0 h1 _ (by first | exact fmt_at 3 0 14 5 (by decide +kernel) op h0 h1 hq (by omega) (by omega) | exact fmt_at 3 15 15 0 (by decide +kernel) op h0 h1 hq (by omega) (by omega)))

set_option maxHeartbeats 1000000 in
theorem fmt_4 (op : Int) (h0 : 0 ≤ op) (h1 : op ≤ 163) (hq : op / 16 = 4) (w : World) :
    Calls Tryd.prog 32 #[.int .i64 op] w fun e w' => e = .returned (.int .i64 (fmtS op)) ∧ Below w.heap.size w w' := by
  have hand := i64_and15 op
  have r0 : 0 ≤ op % 16 := by omega
  have r1 : op % 16 < 16 := by omega
  go_enter Tryd.func32, Tryd.ntmps32
  go_wp2
  all_goals (go_ret; refine ⟨?_, Below.refl _ _⟩; exact fmt_leaf op h0 h1 _ (by first | exact fmt_at 4 0 14 6 (by decide +kernel) op h0 h1 hq (by omega) (by omega) | exact fmt_at 4 15 15 0 (by decide +kernel) op h0 h1 hq (by omega) (by omega)))

set_option maxHeartbeats 1000000 in
theorem fmt_5 (op : Int) (h0 : 0 ≤ op) (h1 : op ≤ 163) (hq : op / 16 = 5) (w : World) :
    Calls Tryd.prog 32 #[.int .i64 op] w fun e w' => e = .returned (.int .i64 (fmtS op)) ∧ Below w.heap.size w w' := by
  have hand := i64_and15 op
  have r0 : 0 ≤ op % 16 := by omega
  have r1 : op % 16 < 16 := by omega
  go_enter Tryd.func32, Tryd.ntmps32
  go_wp2
  all_goals (go_ret; refine ⟨?_, Below.refl _ _⟩; exact fmt_leaf op h0 h1 _ (by first | exact fmt_at 5 0 3 7 (by decide +kernel) op h0 h1 hq (by omega) (by omega) | exact fmt_at 5 4 7 9 (by decide +kernel) op h0 h1 hq (by omega) (by omega) | exact fmt_at 5 8 11 8 (by decide +kernel) op h0 h1 hq (by omega) (by omega) | exact fmt_at 5 12 15 0 (by decide +kernel) op h0 h1 hq (by omega) (by omega)))

set_option maxHeartbeats 1000000 in
theorem fmt_6 (op : Int) (h0 : 0 ≤ op) (h1 : op ≤ 163) (hq : op / 16 = 6) (w : World) :
    Calls Tryd.prog 32 #[.int .i64 op] w fun e w' => e = .returned (.int .i64 (fmtS op)) ∧ Below w.heap.size w w' := by
  have hand := i64_and15 op
  have r0 : 0 ≤ op % 16 := by omega
  have r1 : op % 16 < 16 := by omega
  go_enter Tryd.func32, Tryd.ntmps32
  go_wp2
  all_goals (go_ret; refine ⟨?_, Below.refl _ _⟩; exact fmt_leaf op h0 h1 _ (by first | exact fmt_at 6 0 13 10 (by decide +kernel) op h0 h1 hq (by omega) (by omega) | exact fmt_at 6 14 15 0 (by decide +kernel) op h0 h1 hq (by omega) (by omega)))

set_option maxHeartbeats 1000000 in
theorem fmt_7 (op : Int) (h0 : 0 ≤ op) (h1 : op ≤ 163) (hq : op / 16 = 7) (w : World) :
    Calls Tryd.prog 32 #[.int .i64 op] w fun e w' => e = .returned (.int .i64 (fmtS op)) ∧ Below w.heap.size w w' := by
  have hand := i64_and15 op
  have r0 : 0 ≤ op % 16 := by omega
  have r1 : op % 16 < 16 := by omega
  go_enter Tryd.func32, Tryd.ntmps32
  go_wp2
  all_goals (go_ret; refine ⟨?_, Below.refl _ _⟩; exact fmt_leaf op h0 h1 _ (by first | exact fmt_at 7 0 13 11 (by decide +kernel) op h0 h1 hq (by omega) (by omega) | exact fmt_at 7 14 15 0 (by decide +kernel) op h0 h1 hq (by omega) (by omega)))

set_option maxHeartbeats 1000000 in
theorem fmt_8 (op : Int) (h0 : 0 ≤ op) (h1 : op ≤ 163) (hq : op / 16 = 8) (w : World) :
    Calls Tryd.prog 32 #[.int .i64 op] w fun e w' => e = .returned (.int .i64 (fmtS op)) ∧ Below w.heap.size w w' := by
  have hand := i64_and15 op
  have r0 : 0 ≤ op % 16 := by omega
  have r1 : op % 16 < 16 := by omega
  go_enter Tryd.func32, Tryd.ntmps32
  go_wp2
  go_ret
  refine ⟨?_, (Below.refl _ _).alloc (Nat.le_refl _) _⟩
  obtain ⟨m, rfl⟩ : ∃ m : Nat, op = 128 + (m : Int) := ⟨(op - 128).toNat, by omega⟩
  have hm : m = 0 ∨ m = 1 ∨ m = 2 ∨ m = 3 ∨ m = 4 ∨ m = 5 ∨ m = 6 ∨ m = 7 ∨ m = 8 ∨ m = 9 ∨ m = 10 ∨ m = 11 ∨ m = 12 ∨ m = 13 ∨ m = 14 ∨ m = 15 := by omega
  rcases hm with rfl | rfl | rfl | rfl | rfl | rfl | rfl | rfl | rfl | rfl | rfl | rfl | rfl | rfl | rfl | rfl <;> first | rfl | (exfalso; omega)

set_option maxHeartbeats 1000000 in
theorem fmt_9 (op : Int) (h0 : 0 ≤ op) (h1 : op ≤ 163) (hq : op / 16 = 9) (w : World) :
    Calls Tryd.prog 32 #[.int .i64 op] w fun e w' => e = .returned (.int .i64 (fmtS op)) ∧ Below w.heap.size w w' := by
  have hand := i64_and15 op
  have r0 : 0 ≤ op % 16 := by omega
  have r1 : op % 16 < 16 := by omega
  go_enter Tryd.func32, Tryd.ntmps32
  go_wp2
  go_ret
  refine ⟨?_, (Below.refl _ _).alloc (Nat.le_refl _) _⟩
  obtain ⟨m, rfl⟩ : ∃ m : Nat, op = 144 + (m : Int) := ⟨(op - 144).toNat, by omega⟩
  have hm : m = 0 ∨ m = 1 ∨ m = 2 ∨ m = 3 ∨ m = 4 ∨ m = 5 ∨ m = 6 ∨ m = 7 ∨ m = 8 ∨ m = 9 ∨ m = 10 ∨ m = 11 ∨ m = 12 ∨ m = 13 ∨ m = 14 ∨ m = 15 := by omega
  rcases hm with rfl | rfl | rfl | rfl | rfl | rfl | rfl | rfl | rfl | rfl | rfl | rfl | rfl | rfl | rfl | rfl <;> first | rfl | (exfalso; omega)

set_option maxHeartbeats 1000000 in
theorem fmt_10 (op : Int) (h0 : 0 ≤ op) (h1 : op ≤ 163) (hq : op / 16 = 10) (w : World) :
    Calls Tryd.prog 32 #[.int .i64 op] w fun e w' => e = .returned (.int .i64 (fmtS op)) ∧ Below w.heap.size w w' := by
  have hand := i64_and15 op
  have r0 : 0 ≤ op % 16 := by omega
  have r1 : op % 16 < 16 := by omega
  go_enter Tryd.func32, Tryd.ntmps32
  go_wp2
  go_ret
  refine ⟨?_, (Below.refl _ _).alloc (Nat.le_refl _) _⟩
  obtain ⟨m, rfl⟩ : ∃ m : Nat, op = 160 + (m : Int) := ⟨(op - 160).toNat, by omega⟩
  have hm : m = 0 ∨ m = 1 ∨ m = 2 ∨ m = 3 ∨ m = 4 ∨ m = 5 ∨ m = 6 ∨ m = 7 ∨ m = 8 ∨ m = 9 ∨ m = 10 ∨ m = 11 ∨ m = 12 ∨ m = 13 ∨ m = 14 ∨ m = 15 := by omega
  rcases hm with rfl | rfl | rfl | rfl | rfl | rfl | rfl | rfl | rfl | rfl | rfl | rfl | rfl | rfl | rfl | rfl <;> first | rfl | (exfalso; omega)

theorem fmt_any (op : Int) (w : World) :
    Calls Tryd.prog 32 #[.int .i64 op] w fun e w' => e = .returned (.int .i64 (fmtS op)) ∧ Below w.heap.size w w' := by
  by_cases h : 0 ≤ op ∧ op ≤ 163
  · obtain ⟨h0, h1⟩ := h
    have : op / 16 = 0 ∨ op / 16 = 1 ∨ op / 16 = 2 ∨ op / 16 = 3 ∨ op / 16 = 4 ∨ op / 16 = 5 ∨ op / 16 = 6 ∨ op / 16 = 7 ∨ op / 16 = 8 ∨ op / 16 = 9 ∨ op / 16 = 10 := by omega
    rcases this with h | h | h | h | h | h | h | h | h | h | h
    · exact fmt_0 op h0 h1 h w
    · exact fmt_1 op h0 h1 h w
    · exact fmt_2 op h0 h1 h w
    · exact fmt_3 op h0 h1 h w
    · exact fmt_4 op h0 h1 h w
    · exact fmt_5 op h0 h1 h w
    · exact fmt_6 op h0 h1 h w
    · exact fmt_7 op h0 h1 h w
    · exact fmt_8 op h0 h1 h w
    · exact fmt_9 op h0 h1 h w
    · exact fmt_10 op h0 h1 h w
  · have e : fmtS op = 0 := by unfold fmtS; rw [if_neg h]
    rw [e]; exact fmt_out op (by omega) w

end Go.Proofs.YtakahmhbopakmaaDoor
