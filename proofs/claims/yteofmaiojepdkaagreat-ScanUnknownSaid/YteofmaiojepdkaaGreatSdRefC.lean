/- Valid of the reference implementation, walked. -/
import Derived.Test.YteofmaiojepdkaaGreatSdIsaG
set_option linter.all false
namespace Go.Proofs.YteofmaiojepdkaaGreat
open Go.RowKit
def zT (f : Int) (i : Ins) : Bool :=
 if f = 1 then (i.d == 0) && (i.s == 0) && (i.imm == 0) && (i.aux == 0) && (i.bank == 0)
 else if f = 2 then zX i.d && (i.s == 0) && (i.imm == 0) && (i.aux == 0) && (i.bank == 0)
 else if f = 3 then (i.d == 0) && (i.s == 0) && decide (i.imm < 256) && (i.aux == 0) && (i.bank == 0)
 else if f = 4 then zX i.d && zX i.s && (i.imm == 0) && (i.aux == 0) && (i.bank == 0)
 else if f = 5 ∨ f = 18 then zX i.d && (i.s == 0) && y8 i.imm && (i.aux == 0) && (i.bank == 0)
 else if f = 6 ∨ f = 9 ∨ f = 14 then zX i.d && (i.s == 0) && (i.aux == 0) && (i.bank == 0)
 else if f = 7 then zX i.d && zX i.s && y8 i.imm && (i.aux == 0) && (i.bank == 0)
 else if f = 8 then zX i.d && zX i.s && (i.aux == 0) && (i.bank == 0)
 else if f = 10 then (i.d == 0) && (i.s == 0) && y8 i.imm && (i.aux == 0) && (i.bank == 0)
 else if f = 11 then (i.d == 0) && (i.s == 0) && (i.aux == 0) && (i.bank == 0)
 else if f = 12 then (i.d == 0) && (i.s == 0) && (i.aux == 0) && (decide (0 ≤ i.bank) && decide (i.bank < 64))
 else if f = 13 then zX i.d && (i.s == 0) && decide (1 ≤ i.bank) && decide (i.bank < 256)
 else if f = 15 then zX i.d && (i.s == 0) && decide (i.imm < 256) && (i.aux == 0) && (i.bank == 0)
 else if f = 16 then zX i.d && zX i.s && (i.aux == 0) && (decide (0 ≤ i.bank) && decide (i.bank < 64))
 else (i.d == 0) && zX i.s && (i.bank == 0)
def zw (i : Ins) : Bool := !(zf i.op == 0) && (i.size == zd i.op) && zT (zf i.op) i
theorem op_of_fmt {op : Int} (hf : zf op ≠ 0) : 0 ≤ op ∧ op ≤ 163 := by
 by_cases h : 0 ≤ op ∧ op ≤ 163
 ·exact h
 ·unfold zf at hf; rw [if_neg h] at hf; exact absurd rfl hf
theorem tk {P : Program} {ops : Array Oper} {Q : Exit → Act → World → Prop} {md : Region.Mode} {S : World → Prop} (i : Nat) {oi : Oper} {v : Value} {fuel : Nat} {listed : Array Bool} {a : Act} {w : World} (hi : ops[i]? = some oi) (hS : S w)
  (hy : ∀ w, S w → (execOp a.eval oi).run P w = .ok (.value v) w) (h : wpAnyH P md ops Q S fuel (listed.setIfInBounds i true) (a.put oi.dst v) w)
  (hs : Region.noSelect ops = true := by kernel_rfl) (hf : Region.free md ops listed i = true := by kernel_rfl) (hr : (Region.ready md ops listed).contains i = true := by kernel_rfl)
  (hQ : ∀ c a w, Q (.panic c) (a.put oi.dst v) w → Q (.panic c) a w := by exact fun _ _ _ h => h) (hw : Region.wanted oi (yielded ops a.tmps) = true := by rfl) : wpAnyH P md ops Q S (fuel + 1) listed a w :=
 wpAnyH_take hi hs hf hr hQ (.inl ⟨hw, hy⟩) hS h
end Go.Proofs.YteofmaiojepdkaaGreat
