/-
  No cell of these rows narrows 'for every input' (looked for: loops, veiled, ifaces, maps, wideKeys, modest, calm, conditions, laid).
  DERIVED. THE GIVEN ROWS OF THIS SEAT. 11 by the template 'for every input the law returns true; each argument reads behind the call as it read before'; 0 by the template 'total and deterministic' (their statements: YteofmaiojepdkaaGreatTotals.lean).
  GIVEN WITH THE SEED: the statements are not yours to turn. If you find one false, say at which input.
  Laid BY PROGRAM, IN A SANDBOX (cutbox-rows.mjs): the forced cells as the released guide's own fill.sh prints them over the translation ffee66d540073802… (all of the seat's roots in one cut). By AI agents, Wed Nov 11 2026. No macro, syntax, notation, axiom, sorry.
-/
import Derived.Test.YteofmaiojepdkaaGreatChecked
import GoSem.Claim
import GoSem.ClaimJoined
import GoSem.ClaimMapViews
import Derived.JoinedTies
import Derived.KernelRfl
namespace Go.Proofs.YteofmaiojepdkaaGreat
/- THE CELL 'sum', in the pinned program and in every row, IS THE sha256 OF THE DUMP (.gsa) THAT YteofmaiojepdkaaGreatProg.lean LOADS. Nothing in Lean hashes anything: it is a label: what it is worth is what the hold of that sum in a sandbox is worth. -/
noncomputable def Tryz.pinned : Pinned := { name := "yteofmaiojepdkaagreat", sum := "ffee66d540073802f4548b565ce0b9d7d71482e6ea0be35f4996c76d4f3e44d4", checked := Tryz.checked }
namespace Rows
def none {H : Type} : Left H := { results := [], args := [] }

/-- 'vellumlaw05.ScanExact': WHATEVER THE INPUT: true; the input reads as it did. -/
def scanExactSpec : ChangeSpec := { name := "scanExact", fn := fun _ => fun
  | [d1, d2, d3] => { results := [.lit (.bool true)], args := [d1, d2, d3] }
  | _ => none }
def scanExactRow : OpenClaim := { program := "yteofmaiojepdkaagreat", sum := "ffee66d540073802f4548b565ce0b9d7d71482e6ea0be35f4996c76d4f3e44d4", func := "vellum/vellumlaw05.ScanExact", spec := "scanExact", unfollowed := true, recurses := true, plainKeys := false, apart := false }
def ScanExactSaid : Prop := scanExactRow.holds Tryz.pinned (OpenSpec.ofChange scanExactSpec)

/-- ITS FALSE NEIGHBOUR: 'it returns false'. Refute it at one input. -/
def scanExactWrong : ChangeSpec := { name := "scanExact", fn := fun _ => fun
  | [d1, d2, d3] => { results := [.lit (.bool false)], args := [d1, d2, d3] }
  | _ => none }
def ScanExactWrongFalsely : Prop := scanExactRow.holds Tryz.pinned (OpenSpec.ofChange scanExactWrong)

/-- 'vellumlaw05.ScanBytes': WHATEVER THE INPUT: true; the input reads as it did. -/
def scanBytesSpec : ChangeSpec := { name := "scanBytes", fn := fun _ => fun
  | [d1, d2, d3] => { results := [.lit (.bool true)], args := [d1, d2, d3] }
  | _ => none }
def scanBytesRow : OpenClaim := { program := "yteofmaiojepdkaagreat", sum := "ffee66d540073802f4548b565ce0b9d7d71482e6ea0be35f4996c76d4f3e44d4", func := "vellum/vellumlaw05.ScanBytes", spec := "scanBytes", unfollowed := true, recurses := true, plainKeys := false, apart := false }
def ScanBytesSaid : Prop := scanBytesRow.holds Tryz.pinned (OpenSpec.ofChange scanBytesSpec)

/-- ITS FALSE NEIGHBOUR: 'it returns false'. Refute it at one input. -/
def scanBytesWrong : ChangeSpec := { name := "scanBytes", fn := fun _ => fun
  | [d1, d2, d3] => { results := [.lit (.bool false)], args := [d1, d2, d3] }
  | _ => none }
def ScanBytesWrongFalsely : Prop := scanBytesRow.holds Tryz.pinned (OpenSpec.ofChange scanBytesWrong)

/-- 'vellumlaw05.ScanClosed': WHATEVER THE INPUT: true; the input reads as it did. -/
def scanClosedSpec : ChangeSpec := { name := "scanClosed", fn := fun _ => fun
  | [d1, d2] => { results := [.lit (.bool true)], args := [d1, d2] }
  | _ => none }
def scanClosedRow : OpenClaim := { program := "yteofmaiojepdkaagreat", sum := "ffee66d540073802f4548b565ce0b9d7d71482e6ea0be35f4996c76d4f3e44d4", func := "vellum/vellumlaw05.ScanClosed", spec := "scanClosed", unfollowed := true, recurses := true, plainKeys := false, apart := false }
def ScanClosedSaid : Prop := scanClosedRow.holds Tryz.pinned (OpenSpec.ofChange scanClosedSpec)

/-- ITS FALSE NEIGHBOUR: 'it returns false'. Refute it at one input. -/
def scanClosedWrong : ChangeSpec := { name := "scanClosed", fn := fun _ => fun
  | [d1, d2] => { results := [.lit (.bool false)], args := [d1, d2] }
  | _ => none }
def ScanClosedWrongFalsely : Prop := scanClosedRow.holds Tryz.pinned (OpenSpec.ofChange scanClosedWrong)

/-- 'vellumlaw05.ScanDecodes': WHATEVER THE INPUT: true; the input reads as it did. -/
def scanDecodesSpec : ChangeSpec := { name := "scanDecodes", fn := fun _ => fun
  | [d1, d2, d3] => { results := [.lit (.bool true)], args := [d1, d2, d3] }
  | _ => none }
def scanDecodesRow : OpenClaim := { program := "yteofmaiojepdkaagreat", sum := "ffee66d540073802f4548b565ce0b9d7d71482e6ea0be35f4996c76d4f3e44d4", func := "vellum/vellumlaw05.ScanDecodes", spec := "scanDecodes", unfollowed := true, recurses := true, plainKeys := false, apart := false }
def ScanDecodesSaid : Prop := scanDecodesRow.holds Tryz.pinned (OpenSpec.ofChange scanDecodesSpec)

/-- ITS FALSE NEIGHBOUR: 'it returns false'. Refute it at one input. -/
def scanDecodesWrong : ChangeSpec := { name := "scanDecodes", fn := fun _ => fun
  | [d1, d2, d3] => { results := [.lit (.bool false)], args := [d1, d2, d3] }
  | _ => none }
def ScanDecodesWrongFalsely : Prop := scanDecodesRow.holds Tryz.pinned (OpenSpec.ofChange scanDecodesWrong)

/-- 'vellumlaw05.ScanClasses': WHATEVER THE INPUT: true; the input reads as it did. -/
def scanClassesSpec : ChangeSpec := { name := "scanClasses", fn := fun _ => fun
  | [d1, d2, d3] => { results := [.lit (.bool true)], args := [d1, d2, d3] }
  | _ => none }
def scanClassesRow : OpenClaim := { program := "yteofmaiojepdkaagreat", sum := "ffee66d540073802f4548b565ce0b9d7d71482e6ea0be35f4996c76d4f3e44d4", func := "vellum/vellumlaw05.ScanClasses", spec := "scanClasses", unfollowed := true, recurses := true, plainKeys := false, apart := false }
def ScanClassesSaid : Prop := scanClassesRow.holds Tryz.pinned (OpenSpec.ofChange scanClassesSpec)

/-- ITS FALSE NEIGHBOUR: 'it returns false'. Refute it at one input. -/
def scanClassesWrong : ChangeSpec := { name := "scanClasses", fn := fun _ => fun
  | [d1, d2, d3] => { results := [.lit (.bool false)], args := [d1, d2, d3] }
  | _ => none }
def ScanClassesWrongFalsely : Prop := scanClassesRow.holds Tryz.pinned (OpenSpec.ofChange scanClassesWrong)

/-- 'vellumlaw05.ScanMore': WHATEVER THE INPUT: true; the input reads as it did. -/
def scanMoreSpec : ChangeSpec := { name := "scanMore", fn := fun _ => fun
  | [d1, d2, d3] => { results := [.lit (.bool true)], args := [d1, d2, d3] }
  | _ => none }
def scanMoreRow : OpenClaim := { program := "yteofmaiojepdkaagreat", sum := "ffee66d540073802f4548b565ce0b9d7d71482e6ea0be35f4996c76d4f3e44d4", func := "vellum/vellumlaw05.ScanMore", spec := "scanMore", unfollowed := true, recurses := true, plainKeys := false, apart := false }
def ScanMoreSaid : Prop := scanMoreRow.holds Tryz.pinned (OpenSpec.ofChange scanMoreSpec)

/-- ITS FALSE NEIGHBOUR: 'it returns false'. Refute it at one input. -/
def scanMoreWrong : ChangeSpec := { name := "scanMore", fn := fun _ => fun
  | [d1, d2, d3] => { results := [.lit (.bool false)], args := [d1, d2, d3] }
  | _ => none }
def ScanMoreWrongFalsely : Prop := scanMoreRow.holds Tryz.pinned (OpenSpec.ofChange scanMoreWrong)

/-- 'vellumlaw05.ScanTables': WHATEVER THE INPUT: true; the input reads as it did. -/
def scanTablesSpec : ChangeSpec := { name := "scanTables", fn := fun _ => fun
  | [d1, d2] => { results := [.lit (.bool true)], args := [d1, d2] }
  | _ => none }
def scanTablesRow : OpenClaim := { program := "yteofmaiojepdkaagreat", sum := "ffee66d540073802f4548b565ce0b9d7d71482e6ea0be35f4996c76d4f3e44d4", func := "vellum/vellumlaw05.ScanTables", spec := "scanTables", unfollowed := true, recurses := true, plainKeys := false, apart := false }
def ScanTablesSaid : Prop := scanTablesRow.holds Tryz.pinned (OpenSpec.ofChange scanTablesSpec)

/-- ITS FALSE NEIGHBOUR: 'it returns false'. Refute it at one input. -/
def scanTablesWrong : ChangeSpec := { name := "scanTables", fn := fun _ => fun
  | [d1, d2] => { results := [.lit (.bool false)], args := [d1, d2] }
  | _ => none }
def ScanTablesWrongFalsely : Prop := scanTablesRow.holds Tryz.pinned (OpenSpec.ofChange scanTablesWrong)

/-- 'vellumlaw05.ScanUnknown': WHATEVER THE INPUT: true; the input reads as it did. -/
def scanUnknownSpec : ChangeSpec := { name := "scanUnknown", fn := fun _ => fun
  | [d1, d2, d3] => { results := [.lit (.bool true)], args := [d1, d2, d3] }
  | _ => none }
def scanUnknownRow : OpenClaim := { program := "yteofmaiojepdkaagreat", sum := "ffee66d540073802f4548b565ce0b9d7d71482e6ea0be35f4996c76d4f3e44d4", func := "vellum/vellumlaw05.ScanUnknown", spec := "scanUnknown", unfollowed := true, recurses := true, plainKeys := false, apart := false }
def ScanUnknownSaid : Prop := scanUnknownRow.holds Tryz.pinned (OpenSpec.ofChange scanUnknownSpec)

/-- ITS FALSE NEIGHBOUR: 'it returns false'. Refute it at one input. -/
def scanUnknownWrong : ChangeSpec := { name := "scanUnknown", fn := fun _ => fun
  | [d1, d2, d3] => { results := [.lit (.bool false)], args := [d1, d2, d3] }
  | _ => none }
def ScanUnknownWrongFalsely : Prop := scanUnknownRow.holds Tryz.pinned (OpenSpec.ofChange scanUnknownWrong)

/-- 'vellumlaw05.ScanMany': WHATEVER THE INPUT: true; the input reads as it did. -/
def scanManySpec : ChangeSpec := { name := "scanMany", fn := fun _ => fun
  | [d] => { results := [.lit (.bool true)], args := [d] }
  | _ => none }
def scanManyRow : OpenClaim := { program := "yteofmaiojepdkaagreat", sum := "ffee66d540073802f4548b565ce0b9d7d71482e6ea0be35f4996c76d4f3e44d4", func := "vellum/vellumlaw05.ScanMany", spec := "scanMany", unfollowed := true, recurses := true, plainKeys := false, apart := false }
def ScanManySaid : Prop := scanManyRow.holds Tryz.pinned (OpenSpec.ofChange scanManySpec)

/-- ITS FALSE NEIGHBOUR: 'it returns false'. Refute it at one input. -/
def scanManyWrong : ChangeSpec := { name := "scanMany", fn := fun _ => fun
  | [d] => { results := [.lit (.bool false)], args := [d] }
  | _ => none }
def ScanManyWrongFalsely : Prop := scanManyRow.holds Tryz.pinned (OpenSpec.ofChange scanManyWrong)

/-- 'vellumlaw05.ScanThunks': WHATEVER THE INPUT: true; the input reads as it did. -/
def scanThunksSpec : ChangeSpec := { name := "scanThunks", fn := fun _ => fun
  | [d1, d2, d3] => { results := [.lit (.bool true)], args := [d1, d2, d3] }
  | _ => none }
def scanThunksRow : OpenClaim := { program := "yteofmaiojepdkaagreat", sum := "ffee66d540073802f4548b565ce0b9d7d71482e6ea0be35f4996c76d4f3e44d4", func := "vellum/vellumlaw05.ScanThunks", spec := "scanThunks", unfollowed := true, recurses := true, plainKeys := false, apart := false }
def ScanThunksSaid : Prop := scanThunksRow.holds Tryz.pinned (OpenSpec.ofChange scanThunksSpec)

/-- ITS FALSE NEIGHBOUR: 'it returns false'. Refute it at one input. -/
def scanThunksWrong : ChangeSpec := { name := "scanThunks", fn := fun _ => fun
  | [d1, d2, d3] => { results := [.lit (.bool false)], args := [d1, d2, d3] }
  | _ => none }
def ScanThunksWrongFalsely : Prop := scanThunksRow.holds Tryz.pinned (OpenSpec.ofChange scanThunksWrong)

/-- 'vellumlaw05.ScanWhy': WHATEVER THE INPUT: true; the input reads as it did. -/
def scanWhySpec : ChangeSpec := { name := "scanWhy", fn := fun _ => fun
  | [d1, d2, d3] => { results := [.lit (.bool true)], args := [d1, d2, d3] }
  | _ => none }
def scanWhyRow : OpenClaim := { program := "yteofmaiojepdkaagreat", sum := "ffee66d540073802f4548b565ce0b9d7d71482e6ea0be35f4996c76d4f3e44d4", func := "vellum/vellumlaw05.ScanWhy", spec := "scanWhy", unfollowed := true, recurses := true, plainKeys := false, apart := false }
def ScanWhySaid : Prop := scanWhyRow.holds Tryz.pinned (OpenSpec.ofChange scanWhySpec)

/-- ITS FALSE NEIGHBOUR: 'it returns false'. Refute it at one input. -/
def scanWhyWrong : ChangeSpec := { name := "scanWhy", fn := fun _ => fun
  | [d1, d2, d3] => { results := [.lit (.bool false)], args := [d1, d2, d3] }
  | _ => none }
def ScanWhyWrongFalsely : Prop := scanWhyRow.holds Tryz.pinned (OpenSpec.ofChange scanWhyWrong)

/- THE SECOND FORM. 'bulk': how many values and letters a reading holds, each counted each time it is reached (what is shared counts as often as it is met; a slice's spare places count too). A statement '..UptoSaid' is the law's where the arguments, and the package variables that the reading takes, are together of bulk at most 1048576: NARROWER than '..Said'. Prove '..Said' where nothing that the law and all that it calls make is longer than what came in: it says more and counts as full. Else prove '..UptoSaid'. A law counts once. -/
mutual
def uptoBulk {H : Type} : DataW H → Nat
  | .lit (.string bytes) => bytes.length + 1
  | .lit _ => 1
  | .nil => 1
  | .ptr d => uptoBulk d + 1
  | .slice elems spare => uptoBulkAll elems + uptoBulkAll spare + 1
  | .agg parts => uptoBulkAll parts + 1
  | .iface _ d => uptoBulk d + 1
  | .map entries => uptoBulkEntries entries + 1
  | .held _ => 1
def uptoBulkAll {H : Type} : List (DataW H) → Nat
  | [] => 0
  | d :: r => uptoBulk d + uptoBulkAll r
def uptoBulkEntries {H : Type} : List (Lit × DataW H) → Nat
  | [] => 0
  | x :: r => uptoBulkEntry x + uptoBulkEntries r
def uptoBulkEntry {H : Type} : Lit × DataW H → Nat
  | (.string bytes, d) => bytes.length + uptoBulk d + 1
  | (_, d) => uptoBulk d + 1
 end
def uptoSmall : (H : Type) → List (DataW H) → Bool := fun _ ds => decide (uptoBulkAll ds ≤ 1048576)
def OpenSpec.upto (s : _root_.Go.ChangeSpec) : _root_.Go.OpenSpec := { _root_.Go.OpenSpec.ofChange s with cond := some uptoSmall }

/-- 'vellumlaw05.ScanExact', WHERE WHAT IT READS IS OF BULK AT MOST 1048576: true; the input reads as it did. -/
def scanExactUptoRow : OpenClaim := { program := "yteofmaiojepdkaagreat", sum := "ffee66d540073802f4548b565ce0b9d7d71482e6ea0be35f4996c76d4f3e44d4", func := "vellum/vellumlaw05.ScanExact", spec := "scanExact", unfollowed := true, recurses := true, plainKeys := false, apart := false, narrowed := true }
def ScanExactUptoSaid : Prop := scanExactUptoRow.holds Tryz.pinned (OpenSpec.upto scanExactSpec)

/-- 'vellumlaw05.ScanBytes', WHERE WHAT IT READS IS OF BULK AT MOST 1048576: true; the input reads as it did. -/
def scanBytesUptoRow : OpenClaim := { program := "yteofmaiojepdkaagreat", sum := "ffee66d540073802f4548b565ce0b9d7d71482e6ea0be35f4996c76d4f3e44d4", func := "vellum/vellumlaw05.ScanBytes", spec := "scanBytes", unfollowed := true, recurses := true, plainKeys := false, apart := false, narrowed := true }
def ScanBytesUptoSaid : Prop := scanBytesUptoRow.holds Tryz.pinned (OpenSpec.upto scanBytesSpec)

/-- 'vellumlaw05.ScanClosed', WHERE WHAT IT READS IS OF BULK AT MOST 1048576: true; the input reads as it did. -/
def scanClosedUptoRow : OpenClaim := { program := "yteofmaiojepdkaagreat", sum := "ffee66d540073802f4548b565ce0b9d7d71482e6ea0be35f4996c76d4f3e44d4", func := "vellum/vellumlaw05.ScanClosed", spec := "scanClosed", unfollowed := true, recurses := true, plainKeys := false, apart := false, narrowed := true }
def ScanClosedUptoSaid : Prop := scanClosedUptoRow.holds Tryz.pinned (OpenSpec.upto scanClosedSpec)

/-- 'vellumlaw05.ScanDecodes', WHERE WHAT IT READS IS OF BULK AT MOST 1048576: true; the input reads as it did. -/
def scanDecodesUptoRow : OpenClaim := { program := "yteofmaiojepdkaagreat", sum := "ffee66d540073802f4548b565ce0b9d7d71482e6ea0be35f4996c76d4f3e44d4", func := "vellum/vellumlaw05.ScanDecodes", spec := "scanDecodes", unfollowed := true, recurses := true, plainKeys := false, apart := false, narrowed := true }
def ScanDecodesUptoSaid : Prop := scanDecodesUptoRow.holds Tryz.pinned (OpenSpec.upto scanDecodesSpec)

/-- 'vellumlaw05.ScanClasses', WHERE WHAT IT READS IS OF BULK AT MOST 1048576: true; the input reads as it did. -/
def scanClassesUptoRow : OpenClaim := { program := "yteofmaiojepdkaagreat", sum := "ffee66d540073802f4548b565ce0b9d7d71482e6ea0be35f4996c76d4f3e44d4", func := "vellum/vellumlaw05.ScanClasses", spec := "scanClasses", unfollowed := true, recurses := true, plainKeys := false, apart := false, narrowed := true }
def ScanClassesUptoSaid : Prop := scanClassesUptoRow.holds Tryz.pinned (OpenSpec.upto scanClassesSpec)

/-- 'vellumlaw05.ScanMore', WHERE WHAT IT READS IS OF BULK AT MOST 1048576: true; the input reads as it did. -/
def scanMoreUptoRow : OpenClaim := { program := "yteofmaiojepdkaagreat", sum := "ffee66d540073802f4548b565ce0b9d7d71482e6ea0be35f4996c76d4f3e44d4", func := "vellum/vellumlaw05.ScanMore", spec := "scanMore", unfollowed := true, recurses := true, plainKeys := false, apart := false, narrowed := true }
def ScanMoreUptoSaid : Prop := scanMoreUptoRow.holds Tryz.pinned (OpenSpec.upto scanMoreSpec)

/-- 'vellumlaw05.ScanTables', WHERE WHAT IT READS IS OF BULK AT MOST 1048576: true; the input reads as it did. -/
def scanTablesUptoRow : OpenClaim := { program := "yteofmaiojepdkaagreat", sum := "ffee66d540073802f4548b565ce0b9d7d71482e6ea0be35f4996c76d4f3e44d4", func := "vellum/vellumlaw05.ScanTables", spec := "scanTables", unfollowed := true, recurses := true, plainKeys := false, apart := false, narrowed := true }
def ScanTablesUptoSaid : Prop := scanTablesUptoRow.holds Tryz.pinned (OpenSpec.upto scanTablesSpec)

/-- 'vellumlaw05.ScanUnknown', WHERE WHAT IT READS IS OF BULK AT MOST 1048576: true; the input reads as it did. -/
def scanUnknownUptoRow : OpenClaim := { program := "yteofmaiojepdkaagreat", sum := "ffee66d540073802f4548b565ce0b9d7d71482e6ea0be35f4996c76d4f3e44d4", func := "vellum/vellumlaw05.ScanUnknown", spec := "scanUnknown", unfollowed := true, recurses := true, plainKeys := false, apart := false, narrowed := true }
def ScanUnknownUptoSaid : Prop := scanUnknownUptoRow.holds Tryz.pinned (OpenSpec.upto scanUnknownSpec)

/-- 'vellumlaw05.ScanMany', WHERE WHAT IT READS IS OF BULK AT MOST 1048576: true; the input reads as it did. -/
def scanManyUptoRow : OpenClaim := { program := "yteofmaiojepdkaagreat", sum := "ffee66d540073802f4548b565ce0b9d7d71482e6ea0be35f4996c76d4f3e44d4", func := "vellum/vellumlaw05.ScanMany", spec := "scanMany", unfollowed := true, recurses := true, plainKeys := false, apart := false, narrowed := true }
def ScanManyUptoSaid : Prop := scanManyUptoRow.holds Tryz.pinned (OpenSpec.upto scanManySpec)

/-- 'vellumlaw05.ScanThunks', WHERE WHAT IT READS IS OF BULK AT MOST 1048576: true; the input reads as it did. -/
def scanThunksUptoRow : OpenClaim := { program := "yteofmaiojepdkaagreat", sum := "ffee66d540073802f4548b565ce0b9d7d71482e6ea0be35f4996c76d4f3e44d4", func := "vellum/vellumlaw05.ScanThunks", spec := "scanThunks", unfollowed := true, recurses := true, plainKeys := false, apart := false, narrowed := true }
def ScanThunksUptoSaid : Prop := scanThunksUptoRow.holds Tryz.pinned (OpenSpec.upto scanThunksSpec)

/-- 'vellumlaw05.ScanWhy', WHERE WHAT IT READS IS OF BULK AT MOST 1048576: true; the input reads as it did. -/
def scanWhyUptoRow : OpenClaim := { program := "yteofmaiojepdkaagreat", sum := "ffee66d540073802f4548b565ce0b9d7d71482e6ea0be35f4996c76d4f3e44d4", func := "vellum/vellumlaw05.ScanWhy", spec := "scanWhy", unfollowed := true, recurses := true, plainKeys := false, apart := false, narrowed := true }
def ScanWhyUptoSaid : Prop := scanWhyUptoRow.holds Tryz.pinned (OpenSpec.upto scanWhySpec)

end Rows
end Go.Proofs.YteofmaiojepdkaaGreat
