/- Valid of the reference implementation, walked. -/
import Derived.Test.YthebmoggbgldmaaLaIsaG
set_option linter.all false
namespace Go.Proofs.Ythebmoggbgldmaa
open Go.RowKit
def fmtTab : List Int := [
 1, 1, 1, 1, 1, 1, 0, 0, 0, 0, 0, 0, 0, 0, 0, 0,  2, 2, 2, 2, 3, 3, 0, 0, 0, 0, 0, 0, 0, 0, 0, 0,
 4, 4, 4, 4, 4, 4, 4, 4, 4, 4, 4, 4, 4, 4, 4, 0,  5, 5, 5, 5, 5, 5, 5, 5, 5, 5, 5, 5, 5, 5, 5, 0,
 6, 6, 6, 6, 6, 6, 6, 6, 6, 6, 6, 6, 6, 6, 6, 0,  7, 7, 7, 7, 9, 9, 9, 9, 8, 8, 8, 8, 0, 0, 0, 0,
 10, 10, 10, 10, 10, 10, 10, 10, 10, 10, 10, 10, 10, 10, 0, 0,  11, 11, 11, 11, 11, 11, 11, 11, 11, 11, 11, 11, 11, 11, 0, 0,
 10, 11, 11, 12, 12, 13, 14, 0, 0, 0, 0, 0, 0, 0, 0, 0,  15, 15, 16, 16, 0, 0, 17, 0, 0, 0, 0, 0, 0, 0, 0, 0,
 15, 15, 18, 18]
def zw (op : Int) : Int := if 0 ≤ op ∧ op ≤ 163 then fmtTab.getD op.toNat 0 else 0
theorem fmt_out (op : Int) (h : op < 0 ∨ 163 < op) (w : World) :
  Calls Try.prog 38 #[.int .i64 op] w fun e w' => e = .returned (.int .i64 0) ∧ Below w.heap.size w w' := by
 rcases h with h | h
 ·go_enter Try.func38, Try.ntmps38
  go_wp2
  go_ret
  exact ⟨rfl, Below.refl _ _⟩
 ·have h' : ¬ op < 0 := by omega
  go_enter Try.func38, Try.ntmps38
  go_wp2
  go_ret
  exact ⟨rfl, Below.refl _ _⟩
theorem fmt_leaf (op : Int) (h0 : 0 ≤ op) (h1 : op ≤ 163) (c : Int) (h : fmtTab.getD op.toNat 0 = c) : Ending.returned (.int .i64 c) = .returned (.int .i64 (zw op)) := by
 unfold zw; rw [if_pos ⟨h0, h1⟩, h]
theorem jb (c lo hi : Nat) (f : Int) (h : ∀ n, n < 164 → n / 16 = c → lo ≤ n % 16 → n % 16 ≤ hi → fmtTab.getD n 0 = f) (op : Int) (h0 : 0 ≤ op) (h1 : op ≤ 163) (hq : op / 16 = c) (hl : lo ≤ op % 16) (hh : op % 16 ≤ hi) : fmtTab.getD op.toNat 0 = f :=
 h op.toNat (by omega) (by omega) (by omega) (by omega)
theorem xY (n : Int) : bits .and .i64 n 15 = n % 16 := by
 have h15 : (BitVec.ofInt 64 15).toNat = 2 ^ 4 - 1 := by decide
 have key : (BitVec.ofInt 64 n &&& BitVec.ofInt 64 15).toNat = (n % ((2 ^ 64 : Nat) : Int)).toNat % 2 ^ 4 := by
  rw [BitVec.toNat_and, BitVec.toNat_ofInt, h15, Nat.and_two_pow_sub_one_eq_mod]
 show IntKind.i64.wrap ((BitVec.ofInt 64 n &&& BitVec.ofInt 64 15).toNat : Nat) = n % 16
 rw [key, IntKind.wrap_i64]
 omega
set_option maxHeartbeats 1000000 in
theorem fmt_0 (op : Int) (h0 : 0 ≤ op) (h1 : op ≤ 163) (hq : op / 16 = 0) (w : World) :
  Calls Try.prog 38 #[.int .i64 op] w fun e w' => e = .returned (.int .i64 (zw op)) ∧ Below w.heap.size w w' := by
 have hand := xY op
 have r0 : 0 ≤ op % 16 := by omega
 have r1 : op % 16 < 16 := by omega
 go_enter Try.func38, Try.ntmps38
 go_wp2
 all_goals (go_ret; refine ⟨?_, Below.refl _ _⟩; exact fmt_leaf op h0 h1 _ (by first | exact jb 0 0 5 1 (by decide +kernel) op h0 h1 hq (by omega) (by omega) | exact jb 0 6 15 0 (by decide +kernel) op h0 h1 hq (by omega) (by omega)))
set_option maxHeartbeats 1000000 in
theorem fmt_1 (op : Int) (h0 : 0 ≤ op) (h1 : op ≤ 163) (hq : op / 16 = 1) (w : World) :
  Calls Try.prog 38 #[.int .i64 op] w fun e w' => e = .returned (.int .i64 (zw op)) ∧ Below w.heap.size w w' := by
 have hand := xY op
 have r0 : 0 ≤ op % 16 := by omega
 have r1 : op % 16 < 16 := by omega
 go_enter Try.func38, Try.ntmps38
 go_wp2
 all_goals (go_ret; refine ⟨?_, Below.refl _ _⟩; exact fmt_leaf op h0 h1 _ (by first | exact jb 1 0 3 2 (by decide +kernel) op h0 h1 hq (by omega) (by omega) | exact jb 1 4 5 3 (by decide +kernel) op h0 h1 hq (by omega) (by omega) | exact jb 1 6 15 0 (by decide +kernel) op h0 h1 hq (by omega) (by omega)))
set_option maxHeartbeats 1000000 in
theorem fmt_2 (op : Int) (h0 : 0 ≤ op) (h1 : op ≤ 163) (hq : op / 16 = 2) (w : World) :
  Calls Try.prog 38 #[.int .i64 op] w fun e w' => e = .returned (.int .i64 (zw op)) ∧ Below w.heap.size w w' := by
 have hand := xY op
 have r0 : 0 ≤ op % 16 := by omega
 have r1 : op % 16 < 16 := by omega
 go_enter Try.func38, Try.ntmps38
 go_wp2
 all_goals (go_ret; refine ⟨?_, Below.refl _ _⟩; exact fmt_leaf op h0 h1 _ (by first | exact jb 2 0 14 4 (by decide +kernel) op h0 h1 hq (by omega) (by omega) | exact jb 2 15 15 0 (by decide +kernel) op h0 h1 hq (by omega) (by omega)))
set_option maxHeartbeats 1000000 in
theorem fmt_3 (op : Int) (h0 : 0 ≤ op) (h1 : op ≤ 163) (hq : op / 16 = 3) (w : World) :
  Calls Try.prog 38 #[.int .i64 op] w fun e w' => e = .returned (.int .i64 (zw op)) ∧ Below w.heap.size w w' := by
 have hand := xY op
 have r0 : 0 ≤ op % 16 := by omega
 have r1 : op % 16 < 16 := by omega
 go_enter Try.func38, Try.ntmps38
 go_wp2
 all_goals (go_ret; refine ⟨?_, Below.refl _ _⟩; exact fmt_leaf op h0 h1 _ (by first | exact jb 3 0 14 5 (by decide +kernel) op h0 h1 hq (by omega) (by omega) | exact jb 3 15 15 0 (by decide +kernel) op h0 h1 hq (by omega) (by omega)))
set_option maxHeartbeats 1000000 in
theorem fmt_4 (op : Int) (h0 : 0 ≤ op) (h1 : op ≤ 163) (hq : op / 16 = 4) (w : World) :
  Calls Try.prog 38 #[.int .i64 op] w fun e w' => e = .returned (.int .i64 (zw op)) ∧ Below w.heap.size w w' := by
 have hand := xY op
 have r0 : 0 ≤ op % 16 := by omega
 have r1 : op % 16 < 16 := by omega
 go_enter Try.func38, Try.ntmps38
 go_wp2
 all_goals (go_ret; refine ⟨?_, Below.refl _ _⟩; exact fmt_leaf op h0 h1 _ (by first | exact jb 4 0 14 6 (by decide +kernel) op h0 h1 hq (by omega) (by omega) | exact jb 4 15 15 0 (by decide +kernel) op h0 h1 hq (by omega) (by omega)))
set_option maxHeartbeats 1000000 in
theorem fmt_5 (op : Int) (h0 : 0 ≤ op) (h1 : op ≤ 163) (hq : op / 16 = 5) (w : World) :
  Calls Try.prog 38 #[.int .i64 op] w fun e w' => e = .returned (.int .i64 (zw op)) ∧ Below w.heap.size w w' := by
 have hand := xY op
 have r0 : 0 ≤ op % 16 := by omega
 have r1 : op % 16 < 16 := by omega
 go_enter Try.func38, Try.ntmps38
 go_wp2
 all_goals (go_ret; refine ⟨?_, Below.refl _ _⟩; exact fmt_leaf op h0 h1 _ (by first | exact jb 5 0 3 7 (by decide +kernel) op h0 h1 hq (by omega) (by omega) | exact jb 5 4 7 9 (by decide +kernel) op h0 h1 hq (by omega) (by omega) | exact jb 5 8 11 8 (by decide +kernel) op h0 h1 hq (by omega) (by omega) | exact jb 5 12 15 0 (by decide +kernel) op h0 h1 hq (by omega) (by omega)))
set_option maxHeartbeats 1000000 in
theorem fmt_6 (op : Int) (h0 : 0 ≤ op) (h1 : op ≤ 163) (hq : op / 16 = 6) (w : World) :
  Calls Try.prog 38 #[.int .i64 op] w fun e w' => e = .returned (.int .i64 (zw op)) ∧ Below w.heap.size w w' := by
 have hand := xY op
 have r0 : 0 ≤ op % 16 := by omega
 have r1 : op % 16 < 16 := by omega
 go_enter Try.func38, Try.ntmps38
 go_wp2
 all_goals (go_ret; refine ⟨?_, Below.refl _ _⟩; exact fmt_leaf op h0 h1 _ (by first | exact jb 6 0 13 10 (by decide +kernel) op h0 h1 hq (by omega) (by omega) | exact jb 6 14 15 0 (by decide +kernel) op h0 h1 hq (by omega) (by omega)))
set_option maxHeartbeats 1000000 in
theorem fmt_7 (op : Int) (h0 : 0 ≤ op) (h1 : op ≤ 163) (hq : op / 16 = 7) (w : World) :
  Calls Try.prog 38 #[.int .i64 op] w fun e w' => e = .returned (.int .i64 (zw op)) ∧ Below w.heap.size w w' := by
 have hand := xY op
 have r0 : 0 ≤ op % 16 := by omega
 have r1 : op % 16 < 16 := by omega
 go_enter Try.func38, Try.ntmps38
 go_wp2
 all_goals (go_ret; refine ⟨?_, Below.refl _ _⟩; exact fmt_leaf op h0 h1 _ (by first | exact jb 7 0 13 11 (by decide +kernel) op h0 h1 hq (by omega) (by omega) | exact jb 7 14 15 0 (by decide +kernel) op h0 h1 hq (by omega) (by omega)))
set_option maxHeartbeats 1000000 in
theorem fmt_8 (op : Int) (h0 : 0 ≤ op) (h1 : op ≤ 163) (hq : op / 16 = 8) (w : World) :
  Calls Try.prog 38 #[.int .i64 op] w fun e w' => e = .returned (.int .i64 (zw op)) ∧ Below w.heap.size w w' := by
 have hand := xY op
 have r0 : 0 ≤ op % 16 := by omega
 have r1 : op % 16 < 16 := by omega
 go_enter Try.func38, Try.ntmps38
 go_wp2
 go_ret
 refine ⟨?_, (Below.refl _ _).alloc (zn _) _⟩
 obtain ⟨m, rfl⟩ : ∃ m : Nat, op = 128 + (m : Int) := ⟨(op - 128).toNat, by omega⟩
 have hm : m = 0 ∨ m = 1 ∨ m = 2 ∨ m = 3 ∨ m = 4 ∨ m = 5 ∨ m = 6 ∨ m = 7 ∨ m = 8 ∨ m = 9 ∨ m = 10 ∨ m = 11 ∨ m = 12 ∨ m = 13 ∨ m = 14 ∨ m = 15 := by omega
 rcases hm with rfl | rfl | rfl | rfl | rfl | rfl | rfl | rfl | rfl | rfl | rfl | rfl | rfl | rfl | rfl | rfl <;> first | rfl | (exfalso; omega)
set_option maxHeartbeats 1000000 in
theorem fmt_9 (op : Int) (h0 : 0 ≤ op) (h1 : op ≤ 163) (hq : op / 16 = 9) (w : World) :
  Calls Try.prog 38 #[.int .i64 op] w fun e w' => e = .returned (.int .i64 (zw op)) ∧ Below w.heap.size w w' := by
 have hand := xY op
 have r0 : 0 ≤ op % 16 := by omega
 have r1 : op % 16 < 16 := by omega
 go_enter Try.func38, Try.ntmps38
 go_wp2
 go_ret
 refine ⟨?_, (Below.refl _ _).alloc (zn _) _⟩
 obtain ⟨m, rfl⟩ : ∃ m : Nat, op = 144 + (m : Int) := ⟨(op - 144).toNat, by omega⟩
 have hm : m = 0 ∨ m = 1 ∨ m = 2 ∨ m = 3 ∨ m = 4 ∨ m = 5 ∨ m = 6 ∨ m = 7 ∨ m = 8 ∨ m = 9 ∨ m = 10 ∨ m = 11 ∨ m = 12 ∨ m = 13 ∨ m = 14 ∨ m = 15 := by omega
 rcases hm with rfl | rfl | rfl | rfl | rfl | rfl | rfl | rfl | rfl | rfl | rfl | rfl | rfl | rfl | rfl | rfl <;> first | rfl | (exfalso; omega)
set_option maxHeartbeats 1000000 in
theorem fmt_10 (op : Int) (h0 : 0 ≤ op) (h1 : op ≤ 163) (hq : op / 16 = 10) (w : World) :
  Calls Try.prog 38 #[.int .i64 op] w fun e w' => e = .returned (.int .i64 (zw op)) ∧ Below w.heap.size w w' := by
 have hand := xY op
 have r0 : 0 ≤ op % 16 := by omega
 have r1 : op % 16 < 16 := by omega
 go_enter Try.func38, Try.ntmps38
 go_wp2
 go_ret
 refine ⟨?_, (Below.refl _ _).alloc (zn _) _⟩
 obtain ⟨m, rfl⟩ : ∃ m : Nat, op = 160 + (m : Int) := ⟨(op - 160).toNat, by omega⟩
 have hm : m = 0 ∨ m = 1 ∨ m = 2 ∨ m = 3 ∨ m = 4 ∨ m = 5 ∨ m = 6 ∨ m = 7 ∨ m = 8 ∨ m = 9 ∨ m = 10 ∨ m = 11 ∨ m = 12 ∨ m = 13 ∨ m = 14 ∨ m = 15 := by omega
 rcases hm with rfl | rfl | rfl | rfl | rfl | rfl | rfl | rfl | rfl | rfl | rfl | rfl | rfl | rfl | rfl | rfl <;> first | rfl | (exfalso; omega)
theorem yH (op : Int) (w : World) :
  Calls Try.prog 38 #[.int .i64 op] w fun e w' => e = .returned (.int .i64 (zw op)) ∧ Below w.heap.size w w' := by
 by_cases h : 0 ≤ op ∧ op ≤ 163
 ·obtain ⟨h0, h1⟩ := h
  have : op / 16 = 0 ∨ op / 16 = 1 ∨ op / 16 = 2 ∨ op / 16 = 3 ∨ op / 16 = 4 ∨ op / 16 = 5 ∨ op / 16 = 6 ∨ op / 16 = 7 ∨ op / 16 = 8 ∨ op / 16 = 9 ∨ op / 16 = 10 := by omega
  rcases this with h | h | h | h | h | h | h | h | h | h | h
  ·exact fmt_0 op h0 h1 h w
  ·exact fmt_1 op h0 h1 h w
  ·exact fmt_2 op h0 h1 h w
  ·exact fmt_3 op h0 h1 h w
  ·exact fmt_4 op h0 h1 h w
  ·exact fmt_5 op h0 h1 h w
  ·exact fmt_6 op h0 h1 h w
  ·exact fmt_7 op h0 h1 h w
  ·exact fmt_8 op h0 h1 h w
  ·exact fmt_9 op h0 h1 h w
  ·exact fmt_10 op h0 h1 h w
 ·have e : zw op = 0 := by unfold zw; rw [if_neg h]
  rw [e]; exact fmt_out op (by omega) w
end Go.Proofs.Ythebmoggbgldmaa
namespace Go.Proofs.Ythebmoggbgldmaa
open Go.RowKit
def xG : List Int := [0, 1, 2, 2, 2, 3, 4, 3, 4, 4, 2, 3, 4, 7, 4, 3, 5, 6, 3]
def zp (op : Int) : Int := xG.getD (zw op).toNat 0
theorem fmtTab_bd : ∀ n, n < 164 → 0 ≤ fmtTab.getD n 0 ∧ fmtTab.getD n 0 ≤ 18 := by decide +kernel
theorem fmtS_bd (op : Int) : 0 ≤ zw op ∧ zw op ≤ 18 := by
 unfold zw
 split
 ·exact fmtTab_bd _ (by omega)
 ·omega
theorem rsize_at (n : Int) : (#[Value.int .i64 0, .int .i64 1, .int .i64 2, .int .i64 2, .int .i64 2, .int .i64 3, .int .i64 4, .int .i64 3, .int .i64 4, .int .i64 4, .int .i64 2, .int .i64 3, .int .i64 4, .int .i64 7, .int .i64 4, .int .i64 3, .int .i64 5, .int .i64 6, .int .i64 3])[(zw n).toNat]? = some (.int .i64 (zp n)) := by
 obtain ⟨f0, f1⟩ := fmtS_bd n
 unfold zp
 have hk : (zw n).toNat ≤ 18 := by omega
 generalize (zw n).toNat = k at hk
 have : k = 0 ∨ k = 1 ∨ k = 2 ∨ k = 3 ∨ k = 4 ∨ k = 5 ∨ k = 6 ∨ k = 7 ∨ k = 8 ∨ k = 9 ∨ k = 10 ∨ k = 11 ∨ k = 12 ∨ k = 13 ∨ k = 14 ∨ k = 15 ∨ k = 16 ∨ k = 17 ∨ k = 18 := by omega
 rcases this with rfl | rfl | rfl | rfl | rfl | rfl | rfl | rfl | rfl | rfl | rfl | rfl | rfl | rfl | rfl | rfl | rfl | rfl | rfl <;> rfl
set_option maxHeartbeats 1000000 in
theorem yL (n : Int) (h0 : 0 ≤ n) (h1 : n < 256) (w : World) :
  Calls Try.prog 35 #[.int .u8 n] w fun e w' => e = .returned (.int .i64 (zp n)) ∧ Below w.heap.size w w' := by
 obtain ⟨f0, f1⟩ := fmtS_bd n
 go_enter Try.func35, Try.ntmps35
 go_wp2_with (first
  | (go_at_call 38; refine (yH _ _).mono ?_; rintro e w1 ⟨rfl, hb1⟩; have hz1 := hb1.size; simp at hz1; have hcz := (cell_of_row w1 w.heap.size (zw n).toNat _ _ _ ((hb1.block _ (by simp)).trans (heap_alloc_new w _))).trans (rsize_at n))
  | (refine wpList_store_row rfl _ _ _ rfl _ _ rfl rfl _ _ (heap_alloc_new _ _) ?_ ?_ ?_ ?_; kernel_rfl; rfl; kernel_rfl; rw [World.setRow_alloc_new]))
 go_ret
 exact ⟨rfl, ((Below.refl _ _).alloc (zn _) _).trans (hb1.mono (by simp))⟩
set_option maxHeartbeats 400000 in
theorem rreg_any (n : Int) (w : World) :
  Calls Try.prog 76 #[.int .i64 n] w fun e w' => e = .returned (.bool (yz n)) ∧ w = w' := by
 go_enter Try.func76, Try.ntmps76
 go_wp2
 all_goals (go_ret; exact ⟨by congr 2; unfold yz; first | (simp_all; done) | (simp_all; omega), rfl⟩)
def xt (n : Int) : Bool := decide (n < 128) || decide (65408 ≤ n)
set_option maxHeartbeats 400000 in
theorem signed_any (n : Int) (w : World) :
  Calls Try.prog 77 #[.int .u16 n] w fun e w' => e = .returned (.bool (xt n)) ∧ w = w' := by
 go_enter Try.func77, Try.ntmps77
 go_wp2
 all_goals (go_ret; refine ⟨?_, rfl⟩; first | rfl | (congr 2; unfold xt; first | (simp_all; done) | (simp_all; omega)))
end Go.Proofs.Ythebmoggbgldmaa
namespace Go.Proofs.Ythebmoggbgldmaa
open Go.RowKit
def yi (f : Int) (i : Ins) : Bool :=
 if f = 1 then (i.d == 0) && (i.s == 0) && (i.imm == 0) && (i.aux == 0) && (i.bank == 0)
 else if f = 2 then yz i.d && (i.s == 0) && (i.imm == 0) && (i.aux == 0) && (i.bank == 0)
 else if f = 3 then (i.d == 0) && (i.s == 0) && decide (i.imm < 256) && (i.aux == 0) && (i.bank == 0)
 else if f = 4 then yz i.d && yz i.s && (i.imm == 0) && (i.aux == 0) && (i.bank == 0)
 else if f = 5 ∨ f = 18 then yz i.d && (i.s == 0) && xt i.imm && (i.aux == 0) && (i.bank == 0)
 else if f = 6 ∨ f = 9 ∨ f = 14 then yz i.d && (i.s == 0) && (i.aux == 0) && (i.bank == 0)
 else if f = 7 then yz i.d && yz i.s && xt i.imm && (i.aux == 0) && (i.bank == 0)
 else if f = 8 then yz i.d && yz i.s && (i.aux == 0) && (i.bank == 0)
 else if f = 10 then (i.d == 0) && (i.s == 0) && xt i.imm && (i.aux == 0) && (i.bank == 0)
 else if f = 11 then (i.d == 0) && (i.s == 0) && (i.aux == 0) && (i.bank == 0)
 else if f = 12 then (i.d == 0) && (i.s == 0) && (i.aux == 0) && (decide (0 ≤ i.bank) && decide (i.bank < 64))
 else if f = 13 then yz i.d && (i.s == 0) && decide (1 ≤ i.bank) && decide (i.bank < 256)
 else if f = 15 then yz i.d && (i.s == 0) && decide (i.imm < 256) && (i.aux == 0) && (i.bank == 0)
 else if f = 16 then yz i.d && yz i.s && (i.aux == 0) && (decide (0 ≤ i.bank) && decide (i.bank < 64))
 else (i.d == 0) && yz i.s && (i.bank == 0)
def zR (i : Ins) : Bool := !(zw i.op == 0) && (i.size == zp i.op) && yi (zw i.op) i
theorem jS {op : Int} (hf : zw op ≠ 0) : 0 ≤ op ∧ op ≤ 163 := by
 by_cases h : 0 ≤ op ∧ op ≤ 163
 ·exact h
 ·unfold zw at hf; rw [if_neg h] at hf; exact absurd rfl hf
theorem tk {P : Program} {ops : Array Oper} {Q : Exit → Act → World → Prop} {md : Region.Mode} {S : World → Prop} (i : Nat) {oi : Oper} {v : Value} {fuel : Nat} {listed : Array Bool} {a : Act} {w : World} (hi : ops[i]? = some oi) (hS : S w)
  (hy : ∀ w, S w → (execOp a.eval oi).run P w = .ok (.value v) w) (h : wpAnyH P md ops Q S fuel (listed.setIfInBounds i true) (a.put oi.dst v) w)
  (hs : Region.noSelect ops = true := by kernel_rfl) (hf : Region.free md ops listed i = true := by kernel_rfl) (hr : (Region.ready md ops listed).contains i = true := by kernel_rfl)
  (hQ : ∀ c a w, Q (.panic c) (a.put oi.dst v) w → Q (.panic c) a w := by exact fun _ _ _ h => h) (hw : Region.wanted oi (yielded ops a.tmps) = true := by rfl) : wpAnyH P md ops Q S (fuel + 1) listed a w :=
 wpAnyH_take hi hs hf hr hQ (.inl ⟨hw, hy⟩) hS h
end Go.Proofs.Ythebmoggbgldmaa
