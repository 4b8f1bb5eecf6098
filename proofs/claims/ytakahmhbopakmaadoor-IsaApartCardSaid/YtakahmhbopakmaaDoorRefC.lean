/- Valid of the reference implementation, walked. -/
import Derived.Test.YtakahmhbopakmaaDoorRefB
import Derived.Deep.Cut
set_option linter.all false
namespace Go.Proofs.YtakahmhbopakmaaDoor
open Go.RowKit

def rvBody (f : Int) (i : Ins) : Bool :=
  if f = 1 then (i.d == 0) && (i.s == 0) && (i.imm == 0) && (i.aux == 0) && (i.bank == 0)
  else if f = 2 then regB i.d && (i.s == 0) && (i.imm == 0) && (i.aux == 0) && (i.bank == 0)
  else if f = 3 then (i.d == 0) && (i.s == 0) && decide (i.imm < 256) && (i.aux == 0) && (i.bank == 0)
  else if f = 4 then regB i.d && regB i.s && (i.imm == 0) && (i.aux == 0) && (i.bank == 0)
  else if f = 5 ∨ f = 18 then regB i.d && (i.s == 0) && sgnB i.imm && (i.aux == 0) && (i.bank == 0)
  else if f = 6 ∨ f = 9 ∨ f = 14 then regB i.d && (i.s == 0) && (i.aux == 0) && (i.bank == 0)
  else if f = 7 then regB i.d && regB i.s && sgnB i.imm && (i.aux == 0) && (i.bank == 0)
  else if f = 8 then regB i.d && regB i.s && (i.aux == 0) && (i.bank == 0)
  else if f = 10 then (i.d == 0) && (i.s == 0) && sgnB i.imm && (i.aux == 0) && (i.bank == 0)
  else if f = 11 then (i.d == 0) && (i.s == 0) && (i.aux == 0) && (i.bank == 0)
  else if f = 12 then (i.d == 0) && (i.s == 0) && (i.aux == 0) && (decide (0 ≤ i.bank) && decide (i.bank < 64))
  else if f = 13 then regB i.d && (i.s == 0) && decide (1 ≤ i.bank) && decide (i.bank < 256)
  else if f = 15 then regB i.d && (i.s == 0) && decide (i.imm < 256) && (i.aux == 0) && (i.bank == 0)
  else if f = 16 then regB i.d && regB i.s && (i.aux == 0) && (decide (0 ≤ i.bank) && decide (i.bank < 64))
  else (i.d == 0) && regB i.s && (i.bank == 0)
def rvalidS (i : Ins) : Bool := !(fmtS i.op == 0) && (i.size == rsizeS i.op) && rvBody (fmtS i.op) i

theorem op_of_fmt {op : Int} (hf : fmtS op ≠ 0) : 0 ≤ op ∧ op ≤ 163 := by
  by_cases h : 0 ≤ op ∧ op ≤ 163
  · exact h
  · unfold fmtS at hf; rw [if_neg h] at hf; exact absurd rfl hf

end Go.Proofs.YtakahmhbopakmaaDoor
