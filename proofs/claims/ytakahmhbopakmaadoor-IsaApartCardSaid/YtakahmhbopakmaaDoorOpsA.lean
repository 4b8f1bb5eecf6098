/- operands of package isa: what it answers, in plain terms. -/
import Derived.Test.YtakahmhbopakmaaDoorLineB
set_option linter.all false
namespace Go.Proofs.YtakahmhbopakmaaDoor
open Go.RowKit

structure Place where
  bank : Int
  addr : Int
def tgt (i : Ins) (p : Place) : Int := (p.addr + i.size + i.imm) % 65536
theorem tgt_lo (i : Ins) (p : Place) : 0 ≤ tgt i p := by unfold tgt; omega
theorem tgt_hi (i : Ins) (p : Place) : tgt i p < 65536 := by unfold tgt; omega
theorem tgt_eq (i : Ins) (p : Place) : IntKind.u16.wrap (IntKind.u16.wrap (p.addr + i.size) + i.imm) = tgt i p := by
  unfold tgt IntKind.wrap; simp [IntKind.bits, IntKind.signed]
/-- The texts of the operands of an instruction. -/
def opS (i : Ins) (p : Place) : List (List UInt8) :=
  if i.op ≤ 5 then [] else if i.op ≤ 19 then [reg8 i.d] else if i.op ≤ 21 then [Lib.itoa i.imm] else if i.op < 48 then [reg8 i.d, reg8 i.s]
  else if i.op < 80 then [reg8 i.d, Lib.itoa (sgnI i.imm)] else if 84 ≤ i.op ∧ i.op ≤ 87 then [reg8 i.d, [91] ++ addr8 i.imm ++ [93]]
  else if i.op < 96 then [reg8 i.d, mem8 i.s i.imm] else if i.op ≤ 130 then [addr8 (tgt i p)] else if i.op ≤ 132 then [Lib.itoa i.bank ++ [58] ++ addr8 i.imm]
  else if i.op = 133 then [reg8 i.d, Lib.itoa i.bank, addr8 (tgt i p), addr8 i.aux] else if i.op = 134 then [reg8 i.d, addr8 i.imm]
  else if i.op = 145 then [Lib.itoa i.imm, reg8 i.d] else if i.op = 146 ∨ i.op = 147 then [reg8 i.d, Lib.itoa i.bank ++ [58, 91] ++ reg8 i.s ++ [43] ++ addr8 i.imm ++ [93]]
  else if i.op = 150 then [mem8 i.s i.imm, Lib.itoa (sgnI i.aux)] else if i.op = 162 ∨ i.op = 163 then [reg8 i.d, Lib.itoa (sgnI i.imm)] else [reg8 i.d, Lib.itoa i.imm]

def OpsPost (l : List (List UInt8)) (w : World) (e : Ending) (w' : World) : Prop :=
  ((l = [] ∧ e = .returned (.slice none 0 0)) ∨ (l ≠ [] ∧ ∃ g, e = .returned (.slice (some ⟨g, 0, none⟩) l.length l.length) ∧ g < w'.heap.size ∧ ∀ (j : Nat) x, l[j]? = some x → w'.cell? ⟨g, j, none⟩ = some (.string ⟨x.toArray⟩))) ∧ Below w.heap.size w w'

def strV (x : List UInt8) : Value := .string ⟨x.toArray⟩
theorem OpsPost.of_new (l : List (List UInt8)) (w W : World) {t : Nat} {n m : Nat} {r : Array Value} (hb : Below w.heap.size w W) (hl : l ≠ []) (hr : n = l.length ∧ m = l.length ∧ r = (l.map strV).toArray) :
    OpsPost l w (.returned (.slice (some ⟨W.heap.size, 0, none⟩) n m)) (W.alloc (.cells r t)) := by
  obtain ⟨rfl, rfl, rfl⟩ := hr
  refine ⟨Or.inr ⟨hl, _, rfl, by simp, fun j x hj => ?_⟩, hb.alloc hb.size _⟩
  rw [cell_of_row _ _ _ _ _ _ (heap_alloc_new _ _)]
  simp [hj, strV]

def insRow (i : Ins) : Array Value := #[Value.int .i64 i.op, .int .i64 i.d, .int .i64 i.s, .int .u16 i.imm, .int .u16 i.aux, .int .i64 i.bank, .int .i64 i.size]
def plcRow (p : Place) : Array Value := #[Value.int .i64 p.bank, .int .u16 p.addr]
/-- What the walk of operands keeps. -/
structure Held (i : Ins) (p : Place) (w W : World) : Prop where
  ci : ∀ o : Nat, W.cell? ⟨w.heap.size, o, none⟩ = (#[Value.int .i64 i.op, .int .i64 i.d, .int .i64 i.s, .int .u16 i.imm, .int .u16 i.aux, .int .i64 i.bank, .int .i64 i.size] : Array Value)[o]?
  cp : ∀ o : Nat, W.cell? ⟨w.heap.size + 1, o, none⟩ = (#[Value.int .i64 p.bank, .int .u16 p.addr] : Array Value)[o]?
  z : w.heap.size + 2 ≤ W.heap.size
  bb : Below w.heap.size w W
theorem Held.stay {i p w W W'} (h : Held i p w W) (hb : Below W.heap.size W W') : Held i p w W' :=
  ⟨fun o => (hb.cell (by have := h.z; show w.heap.size < _; omega)).trans (h.ci o), fun o => (hb.cell (by have := h.z; show w.heap.size + 1 < _; omega)).trans (h.cp o), Nat.le_trans h.z hb.size, h.bb.trans (hb.mono (by have := h.z; omega))⟩
theorem Held.drew {i p w W} (h : Held i p w W) : Held i p w W.drew := ⟨h.ci, h.cp, h.z, h.bb.drew⟩
theorem Held.alloc {i p w W} (h : Held i p w W) (o : Obj) : Held i p w (W.alloc o) := h.stay ((Below.refl _ _).alloc (Nat.le_refl _) _)
theorem Held.tabs {i p w W} (h : Held i p w W) (hT : Tabs w) : Tabs W := hT.stay h.bb

end Go.Proofs.YtakahmhbopakmaaDoor
