/-
  NARROWER THAN 'FOR EVERY INPUT', by the rows' own cells (each row's printed sentence says how): TypesSolves: laid · TypesFirst: laid · TypesArguments: laid · TypesOrder: laid · TypesImplied: laid · TypesGrow: laid · TypesRenamed: laid · TypesChains: laid · TypesContains: laid · TypesSizes: laid · TypesPrints: laid.
  DERIVED. THE GIVEN ROWS OF THIS SEAT. 11 by the template 'for every input the law returns true; each argument reads behind the call as it read before'; 0 by the template 'total and deterministic' (their statements: YtepmgnhblegiiaaDoorTotals.lean).
  GIVEN WITH THE SEED: the statements are not yours to turn. If you find one false, say at which input.
  Laid BY PROGRAM, IN A SANDBOX (cutbox-rows.mjs): the forced cells as the released guide's own fill.sh prints them over the translation 8e05617d919dc669… (all of the seat's roots in one cut). By AI agents, Wed Nov 11 2026. No macro, syntax, notation, axiom, sorry.
-/
import Derived.Test.YtepmgnhblegiiaaDoorChecked
import GoSem.Claim
import GoSem.ClaimJoined
import GoSem.ClaimMapViews
import Derived.JoinedTies
import Derived.KernelRfl
namespace Go.Proofs.YtepmgnhblegiiaaDoor
/- THE CELL 'sum', in the pinned program and in every row, IS THE sha256 OF THE DUMP (.gsa) THAT YtepmgnhblegiiaaDoorProg.lean LOADS. Nothing in Lean hashes anything: it is a label: what it is worth is what the hold of that sum in a sandbox is worth. -/
noncomputable def Tryd.pinned : Pinned := { name := "ytepmgnhblegiiaadoor", sum := "8e05617d919dc669d1d0331d1f684dbb542551b4a7ca8b9aa7e76ad560148992", checked := Tryd.checked }
namespace Rows
def none {H : Type} : Left H := { results := [], args := [] }

/- WHAT THE LISTED PACKAGE-LEVEL VARIABLES READ AS WHEN THE CALL BEGINS. Each datum BY PROGRAM (the guide's laid-datum.mjs) off the statement by which the dump's own 'gosem.cut.vars' lays the variable. In a bare row this is a premise. The card (YtepmgnhblegiiaaDoorCards.lean) ties it to the program's text. -/
def laid_math_bits_deBruijn32tab {H : Type} : DataW H := .agg [.lit (.int .u8 0), .lit (.int .u8 1), .lit (.int .u8 28), .lit (.int .u8 2), .lit (.int .u8 29), .lit (.int .u8 14), .lit (.int .u8 24), .lit (.int .u8 3), .lit (.int .u8 30), .lit (.int .u8 22), .lit (.int .u8 20), .lit (.int .u8 15), .lit (.int .u8 25), .lit (.int .u8 17), .lit (.int .u8 4), .lit (.int .u8 8), .lit (.int .u8 31), .lit (.int .u8 27), .lit (.int .u8 13), .lit (.int .u8 23), .lit (.int .u8 21), .lit (.int .u8 19), .lit (.int .u8 16), .lit (.int .u8 7), .lit (.int .u8 26), .lit (.int .u8 12), .lit (.int .u8 18), .lit (.int .u8 6), .lit (.int .u8 11), .lit (.int .u8 5), .lit (.int .u8 10), .lit (.int .u8 9)]
def laid_math_bits_deBruijn64tab {H : Type} : DataW H := .agg [.lit (.int .u8 0), .lit (.int .u8 1), .lit (.int .u8 56), .lit (.int .u8 2), .lit (.int .u8 57), .lit (.int .u8 49), .lit (.int .u8 28), .lit (.int .u8 3), .lit (.int .u8 61), .lit (.int .u8 58), .lit (.int .u8 42), .lit (.int .u8 50), .lit (.int .u8 38), .lit (.int .u8 29), .lit (.int .u8 17), .lit (.int .u8 4), .lit (.int .u8 62), .lit (.int .u8 47), .lit (.int .u8 59), .lit (.int .u8 36), .lit (.int .u8 45), .lit (.int .u8 43), .lit (.int .u8 51), .lit (.int .u8 22), .lit (.int .u8 53), .lit (.int .u8 39), .lit (.int .u8 33), .lit (.int .u8 30), .lit (.int .u8 24), .lit (.int .u8 18), .lit (.int .u8 12), .lit (.int .u8 5), .lit (.int .u8 63), .lit (.int .u8 55), .lit (.int .u8 48), .lit (.int .u8 27), .lit (.int .u8 60), .lit (.int .u8 41), .lit (.int .u8 37), .lit (.int .u8 16), .lit (.int .u8 46), .lit (.int .u8 35), .lit (.int .u8 44), .lit (.int .u8 21), .lit (.int .u8 52), .lit (.int .u8 32), .lit (.int .u8 23), .lit (.int .u8 11), .lit (.int .u8 54), .lit (.int .u8 26), .lit (.int .u8 40), .lit (.int .u8 15), .lit (.int .u8 34), .lit (.int .u8 20), .lit (.int .u8 31), .lit (.int .u8 10), .lit (.int .u8 25), .lit (.int .u8 14), .lit (.int .u8 19), .lit (.int .u8 9), .lit (.int .u8 13), .lit (.int .u8 8), .lit (.int .u8 7), .lit (.int .u8 6)]
def laid_internal_strconv_uint64pow10 {H : Type} : DataW H := .agg [.lit (.int .u64 1), .lit (.int .u64 10), .lit (.int .u64 100), .lit (.int .u64 1000), .lit (.int .u64 10000), .lit (.int .u64 100000), .lit (.int .u64 1000000), .lit (.int .u64 10000000), .lit (.int .u64 100000000), .lit (.int .u64 1000000000), .lit (.int .u64 10000000000), .lit (.int .u64 100000000000), .lit (.int .u64 1000000000000), .lit (.int .u64 10000000000000), .lit (.int .u64 100000000000000), .lit (.int .u64 1000000000000000), .lit (.int .u64 10000000000000000), .lit (.int .u64 100000000000000000), .lit (.int .u64 1000000000000000000), .lit (.int .u64 10000000000000000000)]

/-- 'vellumlaw11.TypesSolves': WHATEVER THE INPUT: true; the input reads as it did. -/
def typesSolvesSpec : ChangeSpec := { name := "typesSolves", fn := fun _ => fun
  | [d1, d2] => { results := [.lit (.bool true)], args := [d1, d2] }
  | _ => none }
def typesSolvesRow : OpenClaim := { program := "ytepmgnhblegiiaadoor", sum := "8e05617d919dc669d1d0331d1f684dbb542551b4a7ca8b9aa7e76ad560148992", func := "vellum/vellumlaw11.TypesSolves", spec := "typesSolves", inPlace := ["internal/abi.NoEscape", "internal/bytealg.MakeNoZero"], unfollowed := true, recurses := true, named := ["internal/strconv.uint64pow10", "math/bits.deBruijn32tab", "math/bits.deBruijn64tab"], apart := false, laid := [("math/bits.deBruijn32tab", laid_math_bits_deBruijn32tab), ("math/bits.deBruijn64tab", laid_math_bits_deBruijn64tab), ("internal/strconv.uint64pow10", laid_internal_strconv_uint64pow10)] }
def TypesSolvesSaid : Prop := typesSolvesRow.holds Tryd.pinned (OpenSpec.ofChange typesSolvesSpec)

/-- ITS FALSE NEIGHBOUR: 'it returns false'. Refute it at one input. -/
def typesSolvesWrong : ChangeSpec := { name := "typesSolves", fn := fun _ => fun
  | [d1, d2] => { results := [.lit (.bool false)], args := [d1, d2] }
  | _ => none }
def TypesSolvesWrongFalsely : Prop := typesSolvesRow.holds Tryd.pinned (OpenSpec.ofChange typesSolvesWrong)

/-- 'vellumlaw11.TypesFirst': WHATEVER THE INPUT: true; the input reads as it did. -/
def typesFirstSpec : ChangeSpec := { name := "typesFirst", fn := fun _ => fun
  | [d1, d2] => { results := [.lit (.bool true)], args := [d1, d2] }
  | _ => none }
def typesFirstRow : OpenClaim := { program := "ytepmgnhblegiiaadoor", sum := "8e05617d919dc669d1d0331d1f684dbb542551b4a7ca8b9aa7e76ad560148992", func := "vellum/vellumlaw11.TypesFirst", spec := "typesFirst", inPlace := ["internal/abi.NoEscape", "internal/bytealg.MakeNoZero"], unfollowed := true, recurses := true, named := ["internal/strconv.uint64pow10", "math/bits.deBruijn32tab", "math/bits.deBruijn64tab"], apart := false, laid := [("math/bits.deBruijn32tab", laid_math_bits_deBruijn32tab), ("math/bits.deBruijn64tab", laid_math_bits_deBruijn64tab), ("internal/strconv.uint64pow10", laid_internal_strconv_uint64pow10)] }
def TypesFirstSaid : Prop := typesFirstRow.holds Tryd.pinned (OpenSpec.ofChange typesFirstSpec)

/-- ITS FALSE NEIGHBOUR: 'it returns false'. Refute it at one input. -/
def typesFirstWrong : ChangeSpec := { name := "typesFirst", fn := fun _ => fun
  | [d1, d2] => { results := [.lit (.bool false)], args := [d1, d2] }
  | _ => none }
def TypesFirstWrongFalsely : Prop := typesFirstRow.holds Tryd.pinned (OpenSpec.ofChange typesFirstWrong)

/-- 'vellumlaw11.TypesArguments': WHATEVER THE INPUT: true; the input reads as it did. -/
def typesArgumentsSpec : ChangeSpec := { name := "typesArguments", fn := fun _ => fun
  | [d1, d2, d3] => { results := [.lit (.bool true)], args := [d1, d2, d3] }
  | _ => none }
def typesArgumentsRow : OpenClaim := { program := "ytepmgnhblegiiaadoor", sum := "8e05617d919dc669d1d0331d1f684dbb542551b4a7ca8b9aa7e76ad560148992", func := "vellum/vellumlaw11.TypesArguments", spec := "typesArguments", inPlace := ["internal/abi.NoEscape", "internal/bytealg.MakeNoZero"], unfollowed := true, recurses := true, named := ["internal/strconv.uint64pow10", "math/bits.deBruijn32tab", "math/bits.deBruijn64tab"], apart := false, laid := [("math/bits.deBruijn32tab", laid_math_bits_deBruijn32tab), ("math/bits.deBruijn64tab", laid_math_bits_deBruijn64tab), ("internal/strconv.uint64pow10", laid_internal_strconv_uint64pow10)] }
def TypesArgumentsSaid : Prop := typesArgumentsRow.holds Tryd.pinned (OpenSpec.ofChange typesArgumentsSpec)

/-- ITS FALSE NEIGHBOUR: 'it returns false'. Refute it at one input. -/
def typesArgumentsWrong : ChangeSpec := { name := "typesArguments", fn := fun _ => fun
  | [d1, d2, d3] => { results := [.lit (.bool false)], args := [d1, d2, d3] }
  | _ => none }
def TypesArgumentsWrongFalsely : Prop := typesArgumentsRow.holds Tryd.pinned (OpenSpec.ofChange typesArgumentsWrong)

/-- 'vellumlaw11.TypesOrder': WHATEVER THE INPUT: true; the input reads as it did. -/
def typesOrderSpec : ChangeSpec := { name := "typesOrder", fn := fun _ => fun
  | [d1, d2, d3] => { results := [.lit (.bool true)], args := [d1, d2, d3] }
  | _ => none }
def typesOrderRow : OpenClaim := { program := "ytepmgnhblegiiaadoor", sum := "8e05617d919dc669d1d0331d1f684dbb542551b4a7ca8b9aa7e76ad560148992", func := "vellum/vellumlaw11.TypesOrder", spec := "typesOrder", inPlace := ["internal/abi.NoEscape", "internal/bytealg.MakeNoZero"], unfollowed := true, recurses := true, named := ["internal/strconv.uint64pow10", "math/bits.deBruijn32tab", "math/bits.deBruijn64tab"], apart := false, laid := [("math/bits.deBruijn32tab", laid_math_bits_deBruijn32tab), ("math/bits.deBruijn64tab", laid_math_bits_deBruijn64tab), ("internal/strconv.uint64pow10", laid_internal_strconv_uint64pow10)] }
def TypesOrderSaid : Prop := typesOrderRow.holds Tryd.pinned (OpenSpec.ofChange typesOrderSpec)

/-- ITS FALSE NEIGHBOUR: 'it returns false'. Refute it at one input. -/
def typesOrderWrong : ChangeSpec := { name := "typesOrder", fn := fun _ => fun
  | [d1, d2, d3] => { results := [.lit (.bool false)], args := [d1, d2, d3] }
  | _ => none }
def TypesOrderWrongFalsely : Prop := typesOrderRow.holds Tryd.pinned (OpenSpec.ofChange typesOrderWrong)

/-- 'vellumlaw11.TypesImplied': WHATEVER THE INPUT: true; the input reads as it did. -/
def typesImpliedSpec : ChangeSpec := { name := "typesImplied", fn := fun _ => fun
  | [d1, d2] => { results := [.lit (.bool true)], args := [d1, d2] }
  | _ => none }
def typesImpliedRow : OpenClaim := { program := "ytepmgnhblegiiaadoor", sum := "8e05617d919dc669d1d0331d1f684dbb542551b4a7ca8b9aa7e76ad560148992", func := "vellum/vellumlaw11.TypesImplied", spec := "typesImplied", inPlace := ["internal/abi.NoEscape", "internal/bytealg.MakeNoZero"], unfollowed := true, recurses := true, named := ["internal/strconv.uint64pow10", "math/bits.deBruijn32tab", "math/bits.deBruijn64tab"], apart := false, laid := [("math/bits.deBruijn32tab", laid_math_bits_deBruijn32tab), ("math/bits.deBruijn64tab", laid_math_bits_deBruijn64tab), ("internal/strconv.uint64pow10", laid_internal_strconv_uint64pow10)] }
def TypesImpliedSaid : Prop := typesImpliedRow.holds Tryd.pinned (OpenSpec.ofChange typesImpliedSpec)

/-- ITS FALSE NEIGHBOUR: 'it returns false'. Refute it at one input. -/
def typesImpliedWrong : ChangeSpec := { name := "typesImplied", fn := fun _ => fun
  | [d1, d2] => { results := [.lit (.bool false)], args := [d1, d2] }
  | _ => none }
def TypesImpliedWrongFalsely : Prop := typesImpliedRow.holds Tryd.pinned (OpenSpec.ofChange typesImpliedWrong)

/-- 'vellumlaw11.TypesGrow': WHATEVER THE INPUT: true; the input reads as it did. -/
def typesGrowSpec : ChangeSpec := { name := "typesGrow", fn := fun _ => fun
  | [d1, d2, d3] => { results := [.lit (.bool true)], args := [d1, d2, d3] }
  | _ => none }
def typesGrowRow : OpenClaim := { program := "ytepmgnhblegiiaadoor", sum := "8e05617d919dc669d1d0331d1f684dbb542551b4a7ca8b9aa7e76ad560148992", func := "vellum/vellumlaw11.TypesGrow", spec := "typesGrow", inPlace := ["internal/abi.NoEscape", "internal/bytealg.MakeNoZero"], unfollowed := true, recurses := true, named := ["internal/strconv.uint64pow10", "math/bits.deBruijn32tab", "math/bits.deBruijn64tab"], apart := false, laid := [("math/bits.deBruijn32tab", laid_math_bits_deBruijn32tab), ("math/bits.deBruijn64tab", laid_math_bits_deBruijn64tab), ("internal/strconv.uint64pow10", laid_internal_strconv_uint64pow10)] }
def TypesGrowSaid : Prop := typesGrowRow.holds Tryd.pinned (OpenSpec.ofChange typesGrowSpec)

/-- ITS FALSE NEIGHBOUR: 'it returns false'. Refute it at one input. -/
def typesGrowWrong : ChangeSpec := { name := "typesGrow", fn := fun _ => fun
  | [d1, d2, d3] => { results := [.lit (.bool false)], args := [d1, d2, d3] }
  | _ => none }
def TypesGrowWrongFalsely : Prop := typesGrowRow.holds Tryd.pinned (OpenSpec.ofChange typesGrowWrong)

/-- 'vellumlaw11.TypesRenamed': WHATEVER THE INPUT: true; the input reads as it did. -/
def typesRenamedSpec : ChangeSpec := { name := "typesRenamed", fn := fun _ => fun
  | [d1, d2, d3] => { results := [.lit (.bool true)], args := [d1, d2, d3] }
  | _ => none }
def typesRenamedRow : OpenClaim := { program := "ytepmgnhblegiiaadoor", sum := "8e05617d919dc669d1d0331d1f684dbb542551b4a7ca8b9aa7e76ad560148992", func := "vellum/vellumlaw11.TypesRenamed", spec := "typesRenamed", inPlace := ["internal/abi.NoEscape", "internal/bytealg.MakeNoZero"], unfollowed := true, recurses := true, named := ["internal/strconv.uint64pow10", "math/bits.deBruijn32tab", "math/bits.deBruijn64tab"], apart := false, laid := [("math/bits.deBruijn32tab", laid_math_bits_deBruijn32tab), ("math/bits.deBruijn64tab", laid_math_bits_deBruijn64tab), ("internal/strconv.uint64pow10", laid_internal_strconv_uint64pow10)] }
def TypesRenamedSaid : Prop := typesRenamedRow.holds Tryd.pinned (OpenSpec.ofChange typesRenamedSpec)

/-- ITS FALSE NEIGHBOUR: 'it returns false'. Refute it at one input. -/
def typesRenamedWrong : ChangeSpec := { name := "typesRenamed", fn := fun _ => fun
  | [d1, d2, d3] => { results := [.lit (.bool false)], args := [d1, d2, d3] }
  | _ => none }
def TypesRenamedWrongFalsely : Prop := typesRenamedRow.holds Tryd.pinned (OpenSpec.ofChange typesRenamedWrong)

/-- 'vellumlaw11.TypesChains': WHATEVER THE INPUT: true; the input reads as it did. -/
def typesChainsSpec : ChangeSpec := { name := "typesChains", fn := fun _ => fun
  | [d1, d2, d3] => { results := [.lit (.bool true)], args := [d1, d2, d3] }
  | _ => none }
def typesChainsRow : OpenClaim := { program := "ytepmgnhblegiiaadoor", sum := "8e05617d919dc669d1d0331d1f684dbb542551b4a7ca8b9aa7e76ad560148992", func := "vellum/vellumlaw11.TypesChains", spec := "typesChains", inPlace := ["internal/abi.NoEscape", "internal/bytealg.MakeNoZero"], unfollowed := true, recurses := true, named := ["internal/strconv.uint64pow10", "math/bits.deBruijn32tab", "math/bits.deBruijn64tab"], apart := false, laid := [("math/bits.deBruijn32tab", laid_math_bits_deBruijn32tab), ("math/bits.deBruijn64tab", laid_math_bits_deBruijn64tab), ("internal/strconv.uint64pow10", laid_internal_strconv_uint64pow10)] }
def TypesChainsSaid : Prop := typesChainsRow.holds Tryd.pinned (OpenSpec.ofChange typesChainsSpec)

/-- ITS FALSE NEIGHBOUR: 'it returns false'. Refute it at one input. -/
def typesChainsWrong : ChangeSpec := { name := "typesChains", fn := fun _ => fun
  | [d1, d2, d3] => { results := [.lit (.bool false)], args := [d1, d2, d3] }
  | _ => none }
def TypesChainsWrongFalsely : Prop := typesChainsRow.holds Tryd.pinned (OpenSpec.ofChange typesChainsWrong)

/-- 'vellumlaw11.TypesContains': WHATEVER THE INPUT: true; the input reads as it did. -/
def typesContainsSpec : ChangeSpec := { name := "typesContains", fn := fun _ => fun
  | [d1, d2, d3] => { results := [.lit (.bool true)], args := [d1, d2, d3] }
  | _ => none }
def typesContainsRow : OpenClaim := { program := "ytepmgnhblegiiaadoor", sum := "8e05617d919dc669d1d0331d1f684dbb542551b4a7ca8b9aa7e76ad560148992", func := "vellum/vellumlaw11.TypesContains", spec := "typesContains", inPlace := ["internal/abi.NoEscape", "internal/bytealg.MakeNoZero"], unfollowed := true, recurses := true, named := ["internal/strconv.uint64pow10", "math/bits.deBruijn32tab", "math/bits.deBruijn64tab"], apart := false, laid := [("math/bits.deBruijn32tab", laid_math_bits_deBruijn32tab), ("math/bits.deBruijn64tab", laid_math_bits_deBruijn64tab), ("internal/strconv.uint64pow10", laid_internal_strconv_uint64pow10)] }
def TypesContainsSaid : Prop := typesContainsRow.holds Tryd.pinned (OpenSpec.ofChange typesContainsSpec)

/-- ITS FALSE NEIGHBOUR: 'it returns false'. Refute it at one input. -/
def typesContainsWrong : ChangeSpec := { name := "typesContains", fn := fun _ => fun
  | [d1, d2, d3] => { results := [.lit (.bool false)], args := [d1, d2, d3] }
  | _ => none }
def TypesContainsWrongFalsely : Prop := typesContainsRow.holds Tryd.pinned (OpenSpec.ofChange typesContainsWrong)

/-- 'vellumlaw11.TypesSizes': WHATEVER THE INPUT: true; the input reads as it did. -/
def typesSizesSpec : ChangeSpec := { name := "typesSizes", fn := fun _ => fun
  | [d1, d2, d3] => { results := [.lit (.bool true)], args := [d1, d2, d3] }
  | _ => none }
def typesSizesRow : OpenClaim := { program := "ytepmgnhblegiiaadoor", sum := "8e05617d919dc669d1d0331d1f684dbb542551b4a7ca8b9aa7e76ad560148992", func := "vellum/vellumlaw11.TypesSizes", spec := "typesSizes", inPlace := ["internal/abi.NoEscape", "internal/bytealg.MakeNoZero"], unfollowed := true, recurses := true, named := ["internal/strconv.uint64pow10", "math/bits.deBruijn32tab", "math/bits.deBruijn64tab"], apart := false, laid := [("math/bits.deBruijn32tab", laid_math_bits_deBruijn32tab), ("math/bits.deBruijn64tab", laid_math_bits_deBruijn64tab), ("internal/strconv.uint64pow10", laid_internal_strconv_uint64pow10)] }
def TypesSizesSaid : Prop := typesSizesRow.holds Tryd.pinned (OpenSpec.ofChange typesSizesSpec)

/-- ITS FALSE NEIGHBOUR: 'it returns false'. Refute it at one input. -/
def typesSizesWrong : ChangeSpec := { name := "typesSizes", fn := fun _ => fun
  | [d1, d2, d3] => { results := [.lit (.bool false)], args := [d1, d2, d3] }
  | _ => none }
def TypesSizesWrongFalsely : Prop := typesSizesRow.holds Tryd.pinned (OpenSpec.ofChange typesSizesWrong)

/-- 'vellumlaw11.TypesPrints': WHATEVER THE INPUT: true; the input reads as it did. -/
def typesPrintsSpec : ChangeSpec := { name := "typesPrints", fn := fun _ => fun
  | [d1, d2, d3] => { results := [.lit (.bool true)], args := [d1, d2, d3] }
  | _ => none }
def typesPrintsRow : OpenClaim := { program := "ytepmgnhblegiiaadoor", sum := "8e05617d919dc669d1d0331d1f684dbb542551b4a7ca8b9aa7e76ad560148992", func := "vellum/vellumlaw11.TypesPrints", spec := "typesPrints", inPlace := ["internal/abi.NoEscape", "internal/bytealg.MakeNoZero"], unfollowed := true, recurses := true, named := ["internal/strconv.uint64pow10", "math/bits.deBruijn32tab", "math/bits.deBruijn64tab"], apart := false, laid := [("math/bits.deBruijn32tab", laid_math_bits_deBruijn32tab), ("math/bits.deBruijn64tab", laid_math_bits_deBruijn64tab), ("internal/strconv.uint64pow10", laid_internal_strconv_uint64pow10)] }
def TypesPrintsSaid : Prop := typesPrintsRow.holds Tryd.pinned (OpenSpec.ofChange typesPrintsSpec)

/-- ITS FALSE NEIGHBOUR: 'it returns false'. Refute it at one input. -/
def typesPrintsWrong : ChangeSpec := { name := "typesPrints", fn := fun _ => fun
  | [d1, d2, d3] => { results := [.lit (.bool false)], args := [d1, d2, d3] }
  | _ => none }
def TypesPrintsWrongFalsely : Prop := typesPrintsRow.holds Tryd.pinned (OpenSpec.ofChange typesPrintsWrong)

/- THE SECOND FORM. 'bulk': how many values and letters a reading holds, each counted each time it is reached (what is shared counts as often as it is met; a slice's spare places count too). A statement '..UptoSaid' is the law's where the arguments, and the package variables that the reading takes, are together of bulk at most 1048576: NARROWER than '..Said'. Prove '..Said' where nothing that the law and all that it calls make is longer than what came in: it says more and counts as full. Else prove '..UptoSaid'. A law counts once. -/
mutual
def uptoBulk {H : Type} : DataW H → Nat
  | .lit (.string bytes) => bytes.length + 1
  | .lit _ => 1
  | .nil => 1
  | .ptr d => uptoBulk d + 1
  | .slice elems spare => uptoBulkAll elems + uptoBulkAll spare + 1
  | .agg parts => uptoBulkAll parts + 1
  | .iface _ d => uptoBulk d + 1
  | .map entries => uptoBulkEntries entries + 1
  | .held _ => 1
def uptoBulkAll {H : Type} : List (DataW H) → Nat
  | [] => 0
  | d :: r => uptoBulk d + uptoBulkAll r
def uptoBulkEntries {H : Type} : List (Lit × DataW H) → Nat
  | [] => 0
  | x :: r => uptoBulkEntry x + uptoBulkEntries r
def uptoBulkEntry {H : Type} : Lit × DataW H → Nat
  | (.string bytes, d) => bytes.length + uptoBulk d + 1
  | (_, d) => uptoBulk d + 1
 end
def uptoSmall : (H : Type) → List (DataW H) → Bool := fun _ ds => decide (uptoBulkAll ds ≤ 1048576)
def OpenSpec.upto (s : _root_.Go.ChangeSpec) : _root_.Go.OpenSpec := { _root_.Go.OpenSpec.ofChange s with cond := some uptoSmall }

/-- 'vellumlaw11.TypesSolves', WHERE WHAT IT READS IS OF BULK AT MOST 1048576: true; the input reads as it did. -/
def typesSolvesUptoRow : OpenClaim := { program := "ytepmgnhblegiiaadoor", sum := "8e05617d919dc669d1d0331d1f684dbb542551b4a7ca8b9aa7e76ad560148992", func := "vellum/vellumlaw11.TypesSolves", spec := "typesSolves", inPlace := ["internal/abi.NoEscape", "internal/bytealg.MakeNoZero"], unfollowed := true, recurses := true, named := ["internal/strconv.uint64pow10", "math/bits.deBruijn32tab", "math/bits.deBruijn64tab"], apart := false, laid := [("math/bits.deBruijn32tab", laid_math_bits_deBruijn32tab), ("math/bits.deBruijn64tab", laid_math_bits_deBruijn64tab), ("internal/strconv.uint64pow10", laid_internal_strconv_uint64pow10)], narrowed := true }
def TypesSolvesUptoSaid : Prop := typesSolvesUptoRow.holds Tryd.pinned (OpenSpec.upto typesSolvesSpec)

/-- 'vellumlaw11.TypesFirst', WHERE WHAT IT READS IS OF BULK AT MOST 1048576: true; the input reads as it did. -/
def typesFirstUptoRow : OpenClaim := { program := "ytepmgnhblegiiaadoor", sum := "8e05617d919dc669d1d0331d1f684dbb542551b4a7ca8b9aa7e76ad560148992", func := "vellum/vellumlaw11.TypesFirst", spec := "typesFirst", inPlace := ["internal/abi.NoEscape", "internal/bytealg.MakeNoZero"], unfollowed := true, recurses := true, named := ["internal/strconv.uint64pow10", "math/bits.deBruijn32tab", "math/bits.deBruijn64tab"], apart := false, laid := [("math/bits.deBruijn32tab", laid_math_bits_deBruijn32tab), ("math/bits.deBruijn64tab", laid_math_bits_deBruijn64tab), ("internal/strconv.uint64pow10", laid_internal_strconv_uint64pow10)], narrowed := true }
def TypesFirstUptoSaid : Prop := typesFirstUptoRow.holds Tryd.pinned (OpenSpec.upto typesFirstSpec)

/-- 'vellumlaw11.TypesArguments', WHERE WHAT IT READS IS OF BULK AT MOST 1048576: true; the input reads as it did. -/
def typesArgumentsUptoRow : OpenClaim := { program := "ytepmgnhblegiiaadoor", sum := "8e05617d919dc669d1d0331d1f684dbb542551b4a7ca8b9aa7e76ad560148992", func := "vellum/vellumlaw11.TypesArguments", spec := "typesArguments", inPlace := ["internal/abi.NoEscape", "internal/bytealg.MakeNoZero"], unfollowed := true, recurses := true, named := ["internal/strconv.uint64pow10", "math/bits.deBruijn32tab", "math/bits.deBruijn64tab"], apart := false, laid := [("math/bits.deBruijn32tab", laid_math_bits_deBruijn32tab), ("math/bits.deBruijn64tab", laid_math_bits_deBruijn64tab), ("internal/strconv.uint64pow10", laid_internal_strconv_uint64pow10)], narrowed := true }
def TypesArgumentsUptoSaid : Prop := typesArgumentsUptoRow.holds Tryd.pinned (OpenSpec.upto typesArgumentsSpec)

/-- 'vellumlaw11.TypesOrder', WHERE WHAT IT READS IS OF BULK AT MOST 1048576: true; the input reads as it did. -/
def typesOrderUptoRow : OpenClaim := { program := "ytepmgnhblegiiaadoor", sum := "8e05617d919dc669d1d0331d1f684dbb542551b4a7ca8b9aa7e76ad560148992", func := "vellum/vellumlaw11.TypesOrder", spec := "typesOrder", inPlace := ["internal/abi.NoEscape", "internal/bytealg.MakeNoZero"], unfollowed := true, recurses := true, named := ["internal/strconv.uint64pow10", "math/bits.deBruijn32tab", "math/bits.deBruijn64tab"], apart := false, laid := [("math/bits.deBruijn32tab", laid_math_bits_deBruijn32tab), ("math/bits.deBruijn64tab", laid_math_bits_deBruijn64tab), ("internal/strconv.uint64pow10", laid_internal_strconv_uint64pow10)], narrowed := true }
def TypesOrderUptoSaid : Prop := typesOrderUptoRow.holds Tryd.pinned (OpenSpec.upto typesOrderSpec)

/-- 'vellumlaw11.TypesImplied', WHERE WHAT IT READS IS OF BULK AT MOST 1048576: true; the input reads as it did. -/
def typesImpliedUptoRow : OpenClaim := { program := "ytepmgnhblegiiaadoor", sum := "8e05617d919dc669d1d0331d1f684dbb542551b4a7ca8b9aa7e76ad560148992", func := "vellum/vellumlaw11.TypesImplied", spec := "typesImplied", inPlace := ["internal/abi.NoEscape", "internal/bytealg.MakeNoZero"], unfollowed := true, recurses := true, named := ["internal/strconv.uint64pow10", "math/bits.deBruijn32tab", "math/bits.deBruijn64tab"], apart := false, laid := [("math/bits.deBruijn32tab", laid_math_bits_deBruijn32tab), ("math/bits.deBruijn64tab", laid_math_bits_deBruijn64tab), ("internal/strconv.uint64pow10", laid_internal_strconv_uint64pow10)], narrowed := true }
def TypesImpliedUptoSaid : Prop := typesImpliedUptoRow.holds Tryd.pinned (OpenSpec.upto typesImpliedSpec)

/-- 'vellumlaw11.TypesGrow', WHERE WHAT IT READS IS OF BULK AT MOST 1048576: true; the input reads as it did. -/
def typesGrowUptoRow : OpenClaim := { program := "ytepmgnhblegiiaadoor", sum := "8e05617d919dc669d1d0331d1f684dbb542551b4a7ca8b9aa7e76ad560148992", func := "vellum/vellumlaw11.TypesGrow", spec := "typesGrow", inPlace := ["internal/abi.NoEscape", "internal/bytealg.MakeNoZero"], unfollowed := true, recurses := true, named := ["internal/strconv.uint64pow10", "math/bits.deBruijn32tab", "math/bits.deBruijn64tab"], apart := false, laid := [("math/bits.deBruijn32tab", laid_math_bits_deBruijn32tab), ("math/bits.deBruijn64tab", laid_math_bits_deBruijn64tab), ("internal/strconv.uint64pow10", laid_internal_strconv_uint64pow10)], narrowed := true }
def TypesGrowUptoSaid : Prop := typesGrowUptoRow.holds Tryd.pinned (OpenSpec.upto typesGrowSpec)

/-- 'vellumlaw11.TypesRenamed', WHERE WHAT IT READS IS OF BULK AT MOST 1048576: true; the input reads as it did. -/
def typesRenamedUptoRow : OpenClaim := { program := "ytepmgnhblegiiaadoor", sum := "8e05617d919dc669d1d0331d1f684dbb542551b4a7ca8b9aa7e76ad560148992", func := "vellum/vellumlaw11.TypesRenamed", spec := "typesRenamed", inPlace := ["internal/abi.NoEscape", "internal/bytealg.MakeNoZero"], unfollowed := true, recurses := true, named := ["internal/strconv.uint64pow10", "math/bits.deBruijn32tab", "math/bits.deBruijn64tab"], apart := false, laid := [("math/bits.deBruijn32tab", laid_math_bits_deBruijn32tab), ("math/bits.deBruijn64tab", laid_math_bits_deBruijn64tab), ("internal/strconv.uint64pow10", laid_internal_strconv_uint64pow10)], narrowed := true }
def TypesRenamedUptoSaid : Prop := typesRenamedUptoRow.holds Tryd.pinned (OpenSpec.upto typesRenamedSpec)

/-- 'vellumlaw11.TypesChains', WHERE WHAT IT READS IS OF BULK AT MOST 1048576: true; the input reads as it did. -/
def typesChainsUptoRow : OpenClaim := { program := "ytepmgnhblegiiaadoor", sum := "8e05617d919dc669d1d0331d1f684dbb542551b4a7ca8b9aa7e76ad560148992", func := "vellum/vellumlaw11.TypesChains", spec := "typesChains", inPlace := ["internal/abi.NoEscape", "internal/bytealg.MakeNoZero"], unfollowed := true, recurses := true, named := ["internal/strconv.uint64pow10", "math/bits.deBruijn32tab", "math/bits.deBruijn64tab"], apart := false, laid := [("math/bits.deBruijn32tab", laid_math_bits_deBruijn32tab), ("math/bits.deBruijn64tab", laid_math_bits_deBruijn64tab), ("internal/strconv.uint64pow10", laid_internal_strconv_uint64pow10)], narrowed := true }
def TypesChainsUptoSaid : Prop := typesChainsUptoRow.holds Tryd.pinned (OpenSpec.upto typesChainsSpec)

/-- 'vellumlaw11.TypesContains', WHERE WHAT IT READS IS OF BULK AT MOST 1048576: true; the input reads as it did. -/
def typesContainsUptoRow : OpenClaim := { program := "ytepmgnhblegiiaadoor", sum := "8e05617d919dc669d1d0331d1f684dbb542551b4a7ca8b9aa7e76ad560148992", func := "vellum/vellumlaw11.TypesContains", spec := "typesContains", inPlace := ["internal/abi.NoEscape", "internal/bytealg.MakeNoZero"], unfollowed := true, recurses := true, named := ["internal/strconv.uint64pow10", "math/bits.deBruijn32tab", "math/bits.deBruijn64tab"], apart := false, laid := [("math/bits.deBruijn32tab", laid_math_bits_deBruijn32tab), ("math/bits.deBruijn64tab", laid_math_bits_deBruijn64tab), ("internal/strconv.uint64pow10", laid_internal_strconv_uint64pow10)], narrowed := true }
def TypesContainsUptoSaid : Prop := typesContainsUptoRow.holds Tryd.pinned (OpenSpec.upto typesContainsSpec)

/-- 'vellumlaw11.TypesSizes', WHERE WHAT IT READS IS OF BULK AT MOST 1048576: true; the input reads as it did. -/
def typesSizesUptoRow : OpenClaim := { program := "ytepmgnhblegiiaadoor", sum := "8e05617d919dc669d1d0331d1f684dbb542551b4a7ca8b9aa7e76ad560148992", func := "vellum/vellumlaw11.TypesSizes", spec := "typesSizes", inPlace := ["internal/abi.NoEscape", "internal/bytealg.MakeNoZero"], unfollowed := true, recurses := true, named := ["internal/strconv.uint64pow10", "math/bits.deBruijn32tab", "math/bits.deBruijn64tab"], apart := false, laid := [("math/bits.deBruijn32tab", laid_math_bits_deBruijn32tab), ("math/bits.deBruijn64tab", laid_math_bits_deBruijn64tab), ("internal/strconv.uint64pow10", laid_internal_strconv_uint64pow10)], narrowed := true }
def TypesSizesUptoSaid : Prop := typesSizesUptoRow.holds Tryd.pinned (OpenSpec.upto typesSizesSpec)

/-- 'vellumlaw11.TypesPrints', WHERE WHAT IT READS IS OF BULK AT MOST 1048576: true; the input reads as it did. -/
def typesPrintsUptoRow : OpenClaim := { program := "ytepmgnhblegiiaadoor", sum := "8e05617d919dc669d1d0331d1f684dbb542551b4a7ca8b9aa7e76ad560148992", func := "vellum/vellumlaw11.TypesPrints", spec := "typesPrints", inPlace := ["internal/abi.NoEscape", "internal/bytealg.MakeNoZero"], unfollowed := true, recurses := true, named := ["internal/strconv.uint64pow10", "math/bits.deBruijn32tab", "math/bits.deBruijn64tab"], apart := false, laid := [("math/bits.deBruijn32tab", laid_math_bits_deBruijn32tab), ("math/bits.deBruijn64tab", laid_math_bits_deBruijn64tab), ("internal/strconv.uint64pow10", laid_internal_strconv_uint64pow10)], narrowed := true }
def TypesPrintsUptoSaid : Prop := typesPrintsUptoRow.holds Tryd.pinned (OpenSpec.upto typesPrintsSpec)

end Rows
end Go.Proofs.YtepmgnhblegiiaaDoor
