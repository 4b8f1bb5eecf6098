/-
  No cell of these rows narrows 'for every input' (looked for: loops, veiled, ifaces, maps, wideKeys, modest, calm, conditions, laid).
  DERIVED. THE GIVEN ROWS OF THIS SEAT. 4 by the template 'for every input the law returns true; each argument reads behind the call as it read before'; 0 by the template 'total and deterministic' (their statements: YthebmoggbgldmaaTotals.lean).
  GIVEN WITH THE SEED: the statements are not yours to turn. If you find one false, say at which input.
  Laid BY PROGRAM, IN A SANDBOX (cutbox-rows.mjs): the forced cells as the released guide's own fill.sh prints them over the translation 16207105fef5b3ac… (all of the seat's roots in one cut). By AI agents, Wed Nov 11 2026. No macro, syntax, notation, axiom, sorry.
-/
import Derived.Test.YthebmoggbgldmaaChecked
import GoSem.Claim
import GoSem.ClaimJoined
import GoSem.ClaimMapViews
import Derived.JoinedTies
import Derived.KernelRfl
namespace Go.Proofs.Ythebmoggbgldmaa
/- THE CELL 'sum', in the pinned program and in every row, IS THE sha256 OF THE DUMP (.gsa) THAT YthebmoggbgldmaaProg.lean LOADS. Nothing in Lean hashes anything: it is a label: what it is worth is what the hold of that sum in a sandbox is worth. -/
noncomputable def Try.pinned : Pinned := { name := "ythebmoggbgldmaa", sum := "16207105fef5b3acb6c5c2426dc1c06339524282c293c858e5088855c16a9f34", checked := Try.checked }
namespace Rows
def none {H : Type} : Left H := { results := [], args := [] }

/-- 'vellumlaw19.LinkAssembles': WHATEVER THE INPUT: true; the input reads as it did. -/
def linkAssemblesSpec : ChangeSpec := { name := "linkAssembles", fn := fun _ => fun
  | [d1, d2, d3] => { results := [.lit (.bool true)], args := [d1, d2, d3] }
  | _ => none }
def linkAssemblesRow : OpenClaim := { program := "ythebmoggbgldmaa", sum := "16207105fef5b3acb6c5c2426dc1c06339524282c293c858e5088855c16a9f34", func := "vellum/vellumlaw19.LinkAssembles", spec := "linkAssembles", inPlace := ["internal/abi.NoEscape"], unfollowed := true, recurses := true, apart := false }
def LinkAssemblesSaid : Prop := linkAssemblesRow.holds Try.pinned (OpenSpec.ofChange linkAssemblesSpec)

/-- ITS FALSE NEIGHBOUR: 'it returns false'. Refute it at one input. -/
def linkAssemblesWrong : ChangeSpec := { name := "linkAssembles", fn := fun _ => fun
  | [d1, d2, d3] => { results := [.lit (.bool false)], args := [d1, d2, d3] }
  | _ => none }
def LinkAssemblesWrongFalsely : Prop := linkAssemblesRow.holds Try.pinned (OpenSpec.ofChange linkAssemblesWrong)

/-- 'vellumlaw19.LinkForms': WHATEVER THE INPUT: true; the input reads as it did. -/
def linkFormsSpec : ChangeSpec := { name := "linkForms", fn := fun _ => fun
  | [d1, d2, d3] => { results := [.lit (.bool true)], args := [d1, d2, d3] }
  | _ => none }
def linkFormsRow : OpenClaim := { program := "ythebmoggbgldmaa", sum := "16207105fef5b3acb6c5c2426dc1c06339524282c293c858e5088855c16a9f34", func := "vellum/vellumlaw19.LinkForms", spec := "linkForms", inPlace := ["internal/abi.NoEscape"], unfollowed := true, recurses := true, apart := false }
def LinkFormsSaid : Prop := linkFormsRow.holds Try.pinned (OpenSpec.ofChange linkFormsSpec)

/-- ITS FALSE NEIGHBOUR: 'it returns false'. Refute it at one input. -/
def linkFormsWrong : ChangeSpec := { name := "linkForms", fn := fun _ => fun
  | [d1, d2, d3] => { results := [.lit (.bool false)], args := [d1, d2, d3] }
  | _ => none }
def LinkFormsWrongFalsely : Prop := linkFormsRow.holds Try.pinned (OpenSpec.ofChange linkFormsWrong)

/-- 'vellumlaw19.LinkBranches': WHATEVER THE INPUT: true; the input reads as it did. -/
def linkBranchesSpec : ChangeSpec := { name := "linkBranches", fn := fun _ => fun
  | [d1, d2, d3] => { results := [.lit (.bool true)], args := [d1, d2, d3] }
  | _ => none }
def linkBranchesRow : OpenClaim := { program := "ythebmoggbgldmaa", sum := "16207105fef5b3acb6c5c2426dc1c06339524282c293c858e5088855c16a9f34", func := "vellum/vellumlaw19.LinkBranches", spec := "linkBranches", inPlace := ["internal/abi.NoEscape"], unfollowed := true, recurses := true, apart := false }
def LinkBranchesSaid : Prop := linkBranchesRow.holds Try.pinned (OpenSpec.ofChange linkBranchesSpec)

/-- ITS FALSE NEIGHBOUR: 'it returns false'. Refute it at one input. -/
def linkBranchesWrong : ChangeSpec := { name := "linkBranches", fn := fun _ => fun
  | [d1, d2, d3] => { results := [.lit (.bool false)], args := [d1, d2, d3] }
  | _ => none }
def LinkBranchesWrongFalsely : Prop := linkBranchesRow.holds Try.pinned (OpenSpec.ofChange linkBranchesWrong)

/-- 'vellumlaw19.LinkTables': WHATEVER THE INPUT: true; the input reads as it did. -/
def linkTablesSpec : ChangeSpec := { name := "linkTables", fn := fun _ => fun
  | [d1, d2, d3] => { results := [.lit (.bool true)], args := [d1, d2, d3] }
  | _ => none }
def linkTablesRow : OpenClaim := { program := "ythebmoggbgldmaa", sum := "16207105fef5b3acb6c5c2426dc1c06339524282c293c858e5088855c16a9f34", func := "vellum/vellumlaw19.LinkTables", spec := "linkTables", inPlace := ["internal/abi.NoEscape"], unfollowed := true, recurses := true, apart := false }
def LinkTablesSaid : Prop := linkTablesRow.holds Try.pinned (OpenSpec.ofChange linkTablesSpec)

/-- ITS FALSE NEIGHBOUR: 'it returns false'. Refute it at one input. -/
def linkTablesWrong : ChangeSpec := { name := "linkTables", fn := fun _ => fun
  | [d1, d2, d3] => { results := [.lit (.bool false)], args := [d1, d2, d3] }
  | _ => none }
def LinkTablesWrongFalsely : Prop := linkTablesRow.holds Try.pinned (OpenSpec.ofChange linkTablesWrong)

/- THE SECOND FORM. 'bulk': how many values and letters a reading holds, each counted each time it is reached (what is shared counts as often as it is met; a slice's spare places count too). A statement '..UptoSaid' is the law's where the arguments, and the package variables that the reading takes, are together of bulk at most 1048576: NARROWER than '..Said'. Prove '..Said' where nothing that the law and all that it calls make is longer than what came in: it says more and counts as full. Else prove '..UptoSaid'. A law counts once. -/
mutual
def uptoBulk {H : Type} : DataW H → Nat
  | .lit (.string bytes) => bytes.length + 1
  | .lit _ => 1
  | .nil => 1
  | .ptr d => uptoBulk d + 1
  | .slice elems spare => uptoBulkAll elems + uptoBulkAll spare + 1
  | .agg parts => uptoBulkAll parts + 1
  | .iface _ d => uptoBulk d + 1
  | .map entries => uptoBulkEntries entries + 1
  | .held _ => 1
def uptoBulkAll {H : Type} : List (DataW H) → Nat
  | [] => 0
  | d :: r => uptoBulk d + uptoBulkAll r
def uptoBulkEntries {H : Type} : List (Lit × DataW H) → Nat
  | [] => 0
  | x :: r => uptoBulkEntry x + uptoBulkEntries r
def uptoBulkEntry {H : Type} : Lit × DataW H → Nat
  | (.string bytes, d) => bytes.length + uptoBulk d + 1
  | (_, d) => uptoBulk d + 1
 end
def uptoSmall : (H : Type) → List (DataW H) → Bool := fun _ ds => decide (uptoBulkAll ds ≤ 1048576)
def OpenSpec.upto (s : _root_.Go.ChangeSpec) : _root_.Go.OpenSpec := { _root_.Go.OpenSpec.ofChange s with cond := some uptoSmall }

/-- 'vellumlaw19.LinkAssembles', WHERE WHAT IT READS IS OF BULK AT MOST 1048576: true; the input reads as it did. -/
def linkAssemblesUptoRow : OpenClaim := { program := "ythebmoggbgldmaa", sum := "16207105fef5b3acb6c5c2426dc1c06339524282c293c858e5088855c16a9f34", func := "vellum/vellumlaw19.LinkAssembles", spec := "linkAssembles", inPlace := ["internal/abi.NoEscape"], unfollowed := true, recurses := true, apart := false, narrowed := true }
def LinkAssemblesUptoSaid : Prop := linkAssemblesUptoRow.holds Try.pinned (OpenSpec.upto linkAssemblesSpec)

/-- 'vellumlaw19.LinkForms', WHERE WHAT IT READS IS OF BULK AT MOST 1048576: true; the input reads as it did. -/
def linkFormsUptoRow : OpenClaim := { program := "ythebmoggbgldmaa", sum := "16207105fef5b3acb6c5c2426dc1c06339524282c293c858e5088855c16a9f34", func := "vellum/vellumlaw19.LinkForms", spec := "linkForms", inPlace := ["internal/abi.NoEscape"], unfollowed := true, recurses := true, apart := false, narrowed := true }
def LinkFormsUptoSaid : Prop := linkFormsUptoRow.holds Try.pinned (OpenSpec.upto linkFormsSpec)

/-- 'vellumlaw19.LinkBranches', WHERE WHAT IT READS IS OF BULK AT MOST 1048576: true; the input reads as it did. -/
def linkBranchesUptoRow : OpenClaim := { program := "ythebmoggbgldmaa", sum := "16207105fef5b3acb6c5c2426dc1c06339524282c293c858e5088855c16a9f34", func := "vellum/vellumlaw19.LinkBranches", spec := "linkBranches", inPlace := ["internal/abi.NoEscape"], unfollowed := true, recurses := true, apart := false, narrowed := true }
def LinkBranchesUptoSaid : Prop := linkBranchesUptoRow.holds Try.pinned (OpenSpec.upto linkBranchesSpec)

/-- 'vellumlaw19.LinkTables', WHERE WHAT IT READS IS OF BULK AT MOST 1048576: true; the input reads as it did. -/
def linkTablesUptoRow : OpenClaim := { program := "ythebmoggbgldmaa", sum := "16207105fef5b3acb6c5c2426dc1c06339524282c293c858e5088855c16a9f34", func := "vellum/vellumlaw19.LinkTables", spec := "linkTables", inPlace := ["internal/abi.NoEscape"], unfollowed := true, recurses := true, apart := false, narrowed := true }
def LinkTablesUptoSaid : Prop := linkTablesUptoRow.holds Try.pinned (OpenSpec.upto linkTablesSpec)

end Rows
end Go.Proofs.Ythebmoggbgldmaa
