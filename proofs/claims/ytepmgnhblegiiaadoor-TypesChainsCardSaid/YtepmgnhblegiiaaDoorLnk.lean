/- Numbers under a slice; blocks that a law makes. No condition. -/
import Derived.Test.YtepmgnhblegiiaaDoorCnv
import Derived.Test.YtepmgnhblegiiaaDoorPlM
set_option linter.all false
namespace Go.Proofs.YtepmgnhblegiiaaDoor
open Go Go.RowKit Go.Maps

/-- Numbers under a slice. -/
def LnkW (ao : Option Addr) (len : Nat) (w : World) : Prop := 0 < len → ∃ b off c t fr, ao = some ⟨b, off, none⟩ ∧ w.heap[b]? = some (.cells c t fr) ∧ ∀ i, i < len → ∃ z : Int, c[off + i]? = some (.int .i64 z) ∧ i64ok z
theorem LnkW.below {ao : Option Addr} {len : Nat} {w w' : World} (h : LnkW ao len w) (hb : Below w.heap.size w w') : LnkW ao len w' := fun h0 => by
  obtain ⟨b, off, c, t, fr, e, hg, hc⟩ := h h0
  exact ⟨b, off, c, t, fr, e, below_keep hb hg, hc⟩
/-- A table, just made. -/
def TabQ (B : Nat) (tab : Array Value) (n : Nat) (v : Value) (w : World) : Prop := ∃ g, v = .slice (some ⟨g, 0, none⟩) n n ∧ B ≤ g ∧ w.heap[g]? = some (.cells tab 3 (0, 0))
/-- A place in it. -/
def TatQ (B : Nat) (tab : Array Value) (m : Nat) (v : Value) (w : World) : Prop := ∃ g, v = .pointer (some ⟨g, m, none⟩) ∧ B ≤ g ∧ w.heap[g]? = some (.cells tab 3 (0, 0))
end Go.Proofs.YtepmgnhblegiiaaDoor
