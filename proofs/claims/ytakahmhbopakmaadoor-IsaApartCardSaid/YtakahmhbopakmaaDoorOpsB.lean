/- operands of package isa: joined, for every valid instruction. -/
import Derived.Test.YtakahmhbopakmaaDoorOps0
import Derived.Test.YtakahmhbopakmaaDoorOps1
import Derived.Test.YtakahmhbopakmaaDoorOps2
import Derived.Test.YtakahmhbopakmaaDoorOps3
import Derived.Test.YtakahmhbopakmaaDoorRefD
set_option linter.all false
namespace Go.Proofs.YtakahmhbopakmaaDoor
open Go.RowKit

set_option synthInstance.maxSize 5000 in
set_option synthInstance.maxHeartbeats 400000 in
theorem classes : ∀ n : Nat, n < 164 → (fOf n).isSome = true → ((0 ≤ (n : Int) ∧ (n : Int) ≤ 5) ∨ (6 ≤ (n : Int) ∧ (n : Int) ≤ 19) ∨ (20 ≤ (n : Int) ∧ (n : Int) ≤ 21) ∨ (22 ≤ (n : Int) ∧ (n : Int) ≤ 47) ∨ (48 ≤ (n : Int) ∧ (n : Int) ≤ 79) ∨ (80 ≤ (n : Int) ∧ (n : Int) ≤ 83) ∨ (84 ≤ (n : Int) ∧ (n : Int) ≤ 87) ∨ (88 ≤ (n : Int) ∧ (n : Int) ≤ 95) ∨ (96 ≤ (n : Int) ∧ (n : Int) ≤ 130) ∨ (131 ≤ (n : Int) ∧ (n : Int) ≤ 132) ∨ (133 ≤ (n : Int) ∧ (n : Int) ≤ 133) ∨ (134 ≤ (n : Int) ∧ (n : Int) ≤ 134) ∨ (144 ≤ (n : Int) ∧ (n : Int) ≤ 144) ∨ (145 ≤ (n : Int) ∧ (n : Int) ≤ 145) ∨ (146 ≤ (n : Int) ∧ (n : Int) ≤ 146) ∨ (147 ≤ (n : Int) ∧ (n : Int) ≤ 147) ∨ (150 ≤ (n : Int) ∧ (n : Int) ≤ 150) ∨ (160 ≤ (n : Int) ∧ (n : Int) ≤ 161) ∨ (162 ≤ (n : Int) ∧ (n : Int) ≤ 162) ∨ (163 ≤ (n : Int) ∧ (n : Int) ≤ 163)) := by decide +kernel
theorem rsizeTab_bd : ∀ n : Nat, n < 19 → 0 ≤ rsizeTab.getD n 0 ∧ rsizeTab.getD n 0 ≤ 7 := by decide +kernel
theorem rsizeS_bd (op : Int) : 0 ≤ rsizeS op ∧ rsizeS op ≤ 7 := by
  have h := fmtS_bd op
  exact rsizeTab_bd _ (by omega)
theorem valid_known {i : Ins} (h : validS i = true) : ∃ k, fOf i.op = some k := by
  cases hf : fOf i.op with
  | none => unfold validS at h; rw [hf] at h; cases h
  | some k => exact ⟨k, rfl⟩
theorem valid_op {i : Ins} (h : validS i = true) : 0 ≤ i.op ∧ i.op ≤ 163 := by
  obtain ⟨k, hk⟩ := valid_known h
  have := op_bd hk
  omega
theorem valid_size {i : Ins} (hi : i.Ok) (h : validS i = true) : i.size = rsizeS i.op := by
  rw [valid_eq i hi] at h
  unfold rvalidS at h
  simp only [Bool.and_eq_true, beq_iff_eq] at h
  exact h.1.2
theorem valid_size_bd {i : Ins} (hi : i.Ok) (h : validS i = true) : 0 ≤ i.size ∧ i.size ≤ 7 := by
  rw [valid_size hi h]; exact rsizeS_bd _
theorem valid_class {i : Ins} (h : validS i = true) : (0 ≤ i.op ∧ i.op ≤ 5) ∨ (6 ≤ i.op ∧ i.op ≤ 19) ∨ (20 ≤ i.op ∧ i.op ≤ 21) ∨ (22 ≤ i.op ∧ i.op ≤ 47) ∨ (48 ≤ i.op ∧ i.op ≤ 79) ∨ (80 ≤ i.op ∧ i.op ≤ 83) ∨ (84 ≤ i.op ∧ i.op ≤ 87) ∨ (88 ≤ i.op ∧ i.op ≤ 95) ∨ (96 ≤ i.op ∧ i.op ≤ 130) ∨ (131 ≤ i.op ∧ i.op ≤ 132) ∨ (133 ≤ i.op ∧ i.op ≤ 133) ∨ (134 ≤ i.op ∧ i.op ≤ 134) ∨ (144 ≤ i.op ∧ i.op ≤ 144) ∨ (145 ≤ i.op ∧ i.op ≤ 145) ∨ (146 ≤ i.op ∧ i.op ≤ 146) ∨ (147 ≤ i.op ∧ i.op ≤ 147) ∨ (150 ≤ i.op ∧ i.op ≤ 150) ∨ (160 ≤ i.op ∧ i.op ≤ 161) ∨ (162 ≤ i.op ∧ i.op ≤ 162) ∨ (163 ≤ i.op ∧ i.op ≤ 163) := by
  obtain ⟨k, hk⟩ := valid_known h
  obtain ⟨o0, o1⟩ := valid_op h
  obtain ⟨n, hn⟩ : ∃ n : Nat, i.op = n := ⟨i.op.toNat, by omega⟩
  have := classes n (by omega) (by rw [← hn, hk]; rfl)
  rwa [hn]
theorem operands_any (i : Ins) (hi : i.Ok) (p : Place) (h : validS i = true) (w : World) (hT : Tabs w) :
    Calls Tryd.prog 48 #[.agg #[.int .i64 (i).op, .int .i64 (i).d, .int .i64 (i).s, .int .u16 (i).imm, .int .u16 (i).aux, .int .i64 (i).bank, .int .i64 (i).size], .agg #[.int .i64 p.bank, .int .u16 p.addr]] w (OpsPost (opS i p) w) := by
  have hs := valid_size_bd hi h
  rcases valid_class h with ⟨a, b⟩ | ⟨a, b⟩ | ⟨a, b⟩ | ⟨a, b⟩ | ⟨a, b⟩ | ⟨a, b⟩ | ⟨a, b⟩ | ⟨a, b⟩ | ⟨a, b⟩ | ⟨a, b⟩ | ⟨a, b⟩ | ⟨a, b⟩ | ⟨a, b⟩ | ⟨a, b⟩ | ⟨a, b⟩ | ⟨a, b⟩ | ⟨a, b⟩ | ⟨a, b⟩ | ⟨a, b⟩ | ⟨a, b⟩
  · exact ops_0 i hi p a b hs w hT
  · exact ops_6 i hi p a b hs w hT
  · exact ops_20 i hi p a b hs w hT
  · exact ops_22 i hi p a b hs w hT
  · exact ops_48 i hi p a b hs w hT
  · exact ops_80 i hi p a b hs w hT
  · exact ops_84 i hi p a b hs w hT
  · exact ops_88 i hi p a b hs w hT
  · exact ops_96 i hi p a b hs w hT
  · exact ops_131 i hi p a b hs w hT
  · exact ops_133 i hi p a b hs w hT
  · exact ops_134 i hi p a b hs w hT
  · exact ops_144 i hi p a b hs w hT
  · exact ops_145 i hi p a b hs w hT
  · exact ops_146 i hi p a b hs w hT
  · exact ops_147 i hi p a b hs w hT
  · exact ops_150 i hi p a b hs w hT
  · exact ops_160 i hi p a b hs w hT
  · exact ops_162 i hi p a b hs w hT
  · exact ops_163 i hi p a b hs w hT

theorem ite_pred {α : Type} {P : α → Prop} {c : Prop} [Decidable c] {a b : α} (h1 : P a) (h2 : P b) : P (if c then a else b) := by split <;> assumption
theorem opS_le (i : Ins) (p : Place) : (opS i p).length ≤ 4 := by
  unfold opS
  iterate 15 (refine ite_pred (P := fun l : List (List UInt8) => l.length ≤ 4) (by simp) ?_)
  simp
theorem opS_len (i : Ins) (hi : i.Ok) (p : Place) : ∀ x ∈ opS i p, x.length ≤ 100 := by
  have ld := reg8_len i.d hi.d
  have ls := reg8_len i.s hi.s
  have lb := Lib.itoa_length_le i.bank hi.bank.1 hi.bank.2
  have la := addr8_len i.imm
  have lx := addr8_len i.aux
  have lt := addr8_len (tgt i p)
  obtain ⟨m0, m1⟩ := hi.imm
  obtain ⟨a0, a1⟩ := hi.aux
  have lm := mem8_len i.s i.imm hi.s m0 m1
  have ln := num_len i.imm m0 m1
  have lnx := num_len i.aux a0 a1
  have li := Lib.itoa_length_le i.imm (by omega) (by omega)
  unfold opS
  iterate 15 (refine ite_pred (P := fun l : List (List UInt8) => ∀ x ∈ l, x.length ≤ 100) (by first | (simp; done) | (simp; omega)) ?_)
  first | (simp; done) | (simp; omega)

end Go.Proofs.YtakahmhbopakmaaDoor
