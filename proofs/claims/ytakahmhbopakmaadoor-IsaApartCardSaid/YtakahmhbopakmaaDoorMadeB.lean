/- Made of the reference: what its loop keeps. No condition. -/
import Derived.Test.YtakahmhbopakmaaDoorMadeA
import Derived.Deep.AppendLies
set_option linter.all false
namespace Go.Proofs.YtakahmhbopakmaaDoor
open Go.RowKit

set_option maxHeartbeats 400000 in
theorem rextend_any (n : Int) (h0 : 0 ≤ n) (h1 : n < 256) (w : World) :
    Calls Tryd.prog 33 #[.int .u8 n] w fun e w' => e = .returned (.int .u16 (extendS n)) ∧ w = w' := by
  by_cases h : n < 128
  · have e1 : extendS n = n := by unfold extendS; rw [if_pos h]
    rw [e1]
    go_enter Tryd.func33, Tryd.ntmps33
    go_wp2
    go_ret
    exact ⟨rfl, rfl⟩
  · have e1 : extendS n = 65280 + n := by unfold extendS; rw [if_neg h]; omega
    rw [e1]
    have h' : 128 ≤ n := by omega
    have hw : IntKind.u16.wrap n = n := IntWalk.u16_in _ (by omega)
    have hw2 : IntKind.u16.wrap (65280 + n) = 65280 + n := IntWalk.u16_in _ (by omega)
    go_enter Tryd.func33, Tryd.ntmps33
    go_wp2
    go_ret
    exact ⟨rfl, rfl⟩

theorem infoI : (Tryd.prog.info? 3).map (fun i => (i.zero, i.size, i.bytes)) = some (some (.int .i64 0), 1, 8) := by kernel_rfl
theorem i64_and65535 (n : Int) : bits .and .i64 n 65535 = n % 65536 := by
  have h15 : (BitVec.ofInt 64 65535).toNat = 2 ^ 16 - 1 := by decide
  have key : (BitVec.ofInt 64 n &&& BitVec.ofInt 64 65535).toNat = (n % ((2 ^ 64 : Nat) : Int)).toNat % 2 ^ 16 := by
    rw [BitVec.toNat_and, BitVec.toNat_ofInt, h15, Nat.and_two_pow_sub_one_eq_mod]
  show IntKind.i64.wrap ((BitVec.ofInt 64 n &&& BitVec.ofInt 64 65535).toNat : Nat) = n % 65536
  rw [key, IntKind.wrap_i64]
  omega
theorem i64_and63 (n : Int) : bits .and .i64 n 63 = n % 64 := by
  have h15 : (BitVec.ofInt 64 63).toNat = 2 ^ 6 - 1 := by decide
  have key : (BitVec.ofInt 64 n &&& BitVec.ofInt 64 63).toNat = (n % ((2 ^ 64 : Nat) : Int)).toNat % 2 ^ 6 := by
    rw [BitVec.toNat_and, BitVec.toNat_ofInt, h15, Nat.and_two_pow_sub_one_eq_mod]
  show IntKind.i64.wrap ((BitVec.ofInt 64 n &&& BitVec.ofInt 64 63).toNat : Nat) = n % 64
  rw [key, IntKind.wrap_i64]
  omega
theorem i64_and7 (n : Int) : bits .and .i64 n 7 = n % 8 := by
  have h15 : (BitVec.ofInt 64 7).toNat = 2 ^ 3 - 1 := by decide
  have key : (BitVec.ofInt 64 n &&& BitVec.ofInt 64 7).toNat = (n % ((2 ^ 64 : Nat) : Int)).toNat % 2 ^ 3 := by
    rw [BitVec.toNat_and, BitVec.toNat_ofInt, h15, Nat.and_two_pow_sub_one_eq_mod]
  show IntKind.i64.wrap ((BitVec.ofInt 64 n &&& BitVec.ofInt 64 7).toNat : Nat) = n % 8
  rw [key, IntKind.wrap_i64]
  omega

/-- What the loop of Made keeps. -/
structure MRel (q0 q1 q2 q3 q4 : Int) (k : Nat) (v : Value) (w0 w : World) : Prop where
  own : w.ownsRow (w0.heap.size + 2) 3 1 v (opsTo k).length ((opsTo k).map vi)
  h0 : w.heap[w0.heap.size]? = some (.cells #[.int .i64 q0, .int .i64 q1, .int .i64 q2, .int .i64 q3, .int .i64 q4] 25 (0, 0))
  h1 : w.heap[w0.heap.size + 1]? = some (.cells #[.int .i64 0, .int .i64 0, .int .i64 0, .int .u16 0, .int .u16 0, .int .i64 0, .int .i64 0] 24 (0, 0))
  hb : Below w0.heap.size w0 w
  z : w0.heap.size + 2 ≤ w.heap.size

section
variable {q0 q1 q2 q3 q4 : Int} {k : Nat} {v v' : Value} {w0 w w1 w2 : World}
theorem MRel.stay (h : MRel q0 q1 q2 q3 q4 k v w0 w) (hb : Below w.heap.size w w1) : MRel q0 q1 q2 q3 q4 k v w0 w1 :=
  ⟨own_below h.own hb, (hb.block _ (by have := h.z; omega)).trans h.h0, (hb.block _ (by have := h.z; omega)).trans h.h1, h.hb.trans (hb.mono h.hb.size), Nat.le_trans h.z hb.size⟩
theorem MRel.skip (h : MRel q0 q1 q2 q3 q4 k v w0 w) (hf : (fmtS (k : Int) != 0) = false) : MRel q0 q1 q2 q3 q4 (k + 1) v w0 w := by
  refine ⟨?_, h.h0, h.h1, h.hb, h.z⟩
  rw [opsTo_no k hf]; exact h.own
theorem MRel.more (h : MRel q0 q1 q2 q3 q4 k v w0 w) (hf : (fmtS (k : Int) != 0) = true) (hb : Below w.heap.size w w1) (hg : w1.grownBy w2 v.ownBlock)
    (hown : w2.ownsRow (w0.heap.size + 2) 3 1 v' ((opsTo k).length + 1) ((opsTo k).map vi ++ [vi k])) : MRel q0 q1 q2 q3 q4 (k + 1) v' w0 w2 := by
  have h' := h.stay hb
  have hl := h'.own.lt
  have hz := h'.z
  have hbl : ∀ b, b < w0.heap.size + 2 → w2.heap[b]? = w1.heap[b]? := fun b hb => hg.block b (by omega) (fun e => by have := (hl b e.symm).1; omega)
  refine ⟨?_, (hbl _ (by omega)).trans h'.h0, (hbl _ (by omega)).trans h'.h1, ?_, by have := hg.size; omega⟩
  · rw [opsTo_yes k hf, List.length_append, List.map_append]; exact hown
  · refine h'.hb.grown hg (by omega) (fun k hk => ?_)
    have := (hl k hk).1
    omega
end

end Go.Proofs.YtakahmhbopakmaaDoor
