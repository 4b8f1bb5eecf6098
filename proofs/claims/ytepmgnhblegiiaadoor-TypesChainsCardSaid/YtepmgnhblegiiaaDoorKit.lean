/- Small general lemmas that the walks of this seat use: reading results that lie in memory, worlds that only grow. No condition. -/
import Derived.Test.YtepmgnhblegiiaaDoorRows
import Derived.WalkKit
import Derived.WalkSpells
import Derived.WalkLawsBesides
import Derived.Deep.LoopGhost
import Derived.Deep.WholeRow
import Derived.Deep.Cut
import Derived.Deep.CutBlock
import Derived.Lib.Hide
import Derived.Laws.CopyOwn
set_option linter.all false
namespace Go.Proofs.YtepmgnhblegiiaaDoor
open Go.RowKit

def vi (n : Int) : Value := .int .i64 n
def vw (n : Int) : Value := .int .u16 n
def vb (n : Int) : Value := .int .u8 n

theorem results_row_tmp {P : Program} {fn : Func} {p u : Tmp} {ty : TypeId} (h : fn.results = #[.cell p ty, .tmp u]) (tmps : Array Value) (w : World) (g : Nat) (t : TypeId) (cs : Array Value) (fr : Nat × Nat) (d : TypeDesc)
    (hp : tmps.getD p undef = .pointer (some ⟨g, 0, none⟩)) (hg : w.heap[g]? = some (.cells cs t fr))
    (hu : P.underlying ty = some d) (hd : (match d with | .struct _ | .array _ _ => true | _ => false) = true) (hi : (P.info? ty).map (·.size) = some cs.size) :
    (results fn tmps).run P w = .ok (.tuple #[.agg cs, tmps.getD u undef]) w := by
  rw [results_cell_tmp h, hp]
  simp [asAddr, Result.andThen, run_loadVar_row w g t ty cs fr d hg hu hd hi]

theorem lt_of_below_alloc {w wr : World} {o : Obj} {B : Nat} (hb : Below B (w.alloc o) wr) : w.heap.size < wr.heap.size := by
  have := hb.size; simp at this; omega

/-- An instruction. -/
structure Ins where
  op : Int
  d : Int
  s : Int
  imm : Int
  aux : Int
  bank : Int
  size : Int
def i64ok (n : Int) : Prop := -9223372036854775808 ≤ n ∧ n ≤ 9223372036854775807
/-- The fields lie in their types' ranges. -/
structure Ins.Ok (i : Ins) : Prop where
  op : i64ok i.op
  d : i64ok i.d
  s : i64ok i.s
  imm : 0 ≤ i.imm ∧ i.imm < 65536
  aux : 0 ≤ i.aux ∧ i.aux < 65536
  bank : i64ok i.bank
  size : i64ok i.size

end Go.Proofs.YtepmgnhblegiiaaDoor
