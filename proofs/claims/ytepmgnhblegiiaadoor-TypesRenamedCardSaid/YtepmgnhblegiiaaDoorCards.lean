/-
  DERIVED. GIVEN WITH THE SEED: THE CARDS: each row of YtepmgnhblegiiaaDoorRows.lean that lists a variable, with what it lists TIED to the program's text (the seventh form; the later family's looks); each row that meets fmt, with fmt's text TOLD by the authors' own Lean function (tested against real Go, not proved from fmt's source: count such statements apart). THE CARD IS WHAT COUNTS. Prove the row's statement (the work); the ties are given (YtepmgnhblegiiaaDoorTie.lean); close each card by the builder's one call (the guide's Derived/Test/ToyasCard.lean, 'card_holds'). Laid BY PROGRAM, IN A SANDBOX (cutbox-door.mjs). By AI agents, Wed Nov 11 2026. No macro, syntax, notation, axiom, sorry.
-/
import Derived.Test.YtepmgnhblegiiaaDoorRows
import GoSem.ClaimSeven
namespace Go.Proofs.YtepmgnhblegiiaaDoor
namespace Rows

/-- THE TIED CARD OF 'vellumlaw11.TypesSolves'. -/
def typesSolvesCard : Claim7 := { stood := { row := typesSolvesRow, standIns := [], harness := (true, "b1bc535e30f160444524ab8aa0e50f07aaffa6f3ce23ffcc10d56a9353042c43"), looks := false }, kinds := [], alts := [], laidByText := true, laidKinds := [.data, .data, .data], laidTests := true, laidLooks := .later }
def TypesSolvesCardSaid : Prop := Claim7.holds Tryd.pinned (.plain (OpenSpec.ofChange typesSolvesSpec)) typesSolvesCard

/-- THE TIED CARD OF 'vellumlaw11.TypesFirst'. -/
def typesFirstCard : Claim7 := { stood := { row := typesFirstRow, standIns := [], harness := (true, "b1bc535e30f160444524ab8aa0e50f07aaffa6f3ce23ffcc10d56a9353042c43"), looks := false }, kinds := [], alts := [], laidByText := true, laidKinds := [.data, .data, .data], laidTests := true, laidLooks := .later }
def TypesFirstCardSaid : Prop := Claim7.holds Tryd.pinned (.plain (OpenSpec.ofChange typesFirstSpec)) typesFirstCard

/-- THE TIED CARD OF 'vellumlaw11.TypesArguments'. -/
def typesArgumentsCard : Claim7 := { stood := { row := typesArgumentsRow, standIns := [], harness := (true, "b1bc535e30f160444524ab8aa0e50f07aaffa6f3ce23ffcc10d56a9353042c43"), looks := false }, kinds := [], alts := [], laidByText := true, laidKinds := [.data, .data, .data], laidTests := true, laidLooks := .later }
def TypesArgumentsCardSaid : Prop := Claim7.holds Tryd.pinned (.plain (OpenSpec.ofChange typesArgumentsSpec)) typesArgumentsCard

/-- THE TIED CARD OF 'vellumlaw11.TypesOrder'. -/
def typesOrderCard : Claim7 := { stood := { row := typesOrderRow, standIns := [], harness := (true, "b1bc535e30f160444524ab8aa0e50f07aaffa6f3ce23ffcc10d56a9353042c43"), looks := false }, kinds := [], alts := [], laidByText := true, laidKinds := [.data, .data, .data], laidTests := true, laidLooks := .later }
def TypesOrderCardSaid : Prop := Claim7.holds Tryd.pinned (.plain (OpenSpec.ofChange typesOrderSpec)) typesOrderCard

/-- THE TIED CARD OF 'vellumlaw11.TypesImplied'. -/
def typesImpliedCard : Claim7 := { stood := { row := typesImpliedRow, standIns := [], harness := (true, "b1bc535e30f160444524ab8aa0e50f07aaffa6f3ce23ffcc10d56a9353042c43"), looks := false }, kinds := [], alts := [], laidByText := true, laidKinds := [.data, .data, .data], laidTests := true, laidLooks := .later }
def TypesImpliedCardSaid : Prop := Claim7.holds Tryd.pinned (.plain (OpenSpec.ofChange typesImpliedSpec)) typesImpliedCard

/-- THE TIED CARD OF 'vellumlaw11.TypesGrow'. -/
def typesGrowCard : Claim7 := { stood := { row := typesGrowRow, standIns := [], harness := (true, "b1bc535e30f160444524ab8aa0e50f07aaffa6f3ce23ffcc10d56a9353042c43"), looks := false }, kinds := [], alts := [], laidByText := true, laidKinds := [.data, .data, .data], laidTests := true, laidLooks := .later }
def TypesGrowCardSaid : Prop := Claim7.holds Tryd.pinned (.plain (OpenSpec.ofChange typesGrowSpec)) typesGrowCard

/-- THE TIED CARD OF 'vellumlaw11.TypesRenamed'. -/
def typesRenamedCard : Claim7 := { stood := { row := typesRenamedRow, standIns := [], harness := (true, "b1bc535e30f160444524ab8aa0e50f07aaffa6f3ce23ffcc10d56a9353042c43"), looks := false }, kinds := [], alts := [], laidByText := true, laidKinds := [.data, .data, .data], laidTests := true, laidLooks := .later }
def TypesRenamedCardSaid : Prop := Claim7.holds Tryd.pinned (.plain (OpenSpec.ofChange typesRenamedSpec)) typesRenamedCard

/-- THE TIED CARD OF 'vellumlaw11.TypesChains'. -/
def typesChainsCard : Claim7 := { stood := { row := typesChainsRow, standIns := [], harness := (true, "b1bc535e30f160444524ab8aa0e50f07aaffa6f3ce23ffcc10d56a9353042c43"), looks := false }, kinds := [], alts := [], laidByText := true, laidKinds := [.data, .data, .data], laidTests := true, laidLooks := .later }
def TypesChainsCardSaid : Prop := Claim7.holds Tryd.pinned (.plain (OpenSpec.ofChange typesChainsSpec)) typesChainsCard

/-- THE TIED CARD OF 'vellumlaw11.TypesContains'. -/
def typesContainsCard : Claim7 := { stood := { row := typesContainsRow, standIns := [], harness := (true, "b1bc535e30f160444524ab8aa0e50f07aaffa6f3ce23ffcc10d56a9353042c43"), looks := false }, kinds := [], alts := [], laidByText := true, laidKinds := [.data, .data, .data], laidTests := true, laidLooks := .later }
def TypesContainsCardSaid : Prop := Claim7.holds Tryd.pinned (.plain (OpenSpec.ofChange typesContainsSpec)) typesContainsCard

/-- THE TIED CARD OF 'vellumlaw11.TypesSizes'. -/
def typesSizesCard : Claim7 := { stood := { row := typesSizesRow, standIns := [], harness := (true, "b1bc535e30f160444524ab8aa0e50f07aaffa6f3ce23ffcc10d56a9353042c43"), looks := false }, kinds := [], alts := [], laidByText := true, laidKinds := [.data, .data, .data], laidTests := true, laidLooks := .later }
def TypesSizesCardSaid : Prop := Claim7.holds Tryd.pinned (.plain (OpenSpec.ofChange typesSizesSpec)) typesSizesCard

/-- THE TIED CARD OF 'vellumlaw11.TypesPrints'. -/
def typesPrintsCard : Claim7 := { stood := { row := typesPrintsRow, standIns := [], harness := (true, "b1bc535e30f160444524ab8aa0e50f07aaffa6f3ce23ffcc10d56a9353042c43"), looks := false }, kinds := [], alts := [], laidByText := true, laidKinds := [.data, .data, .data], laidTests := true, laidLooks := .later }
def TypesPrintsCardSaid : Prop := Claim7.holds Tryd.pinned (.plain (OpenSpec.ofChange typesPrintsSpec)) typesPrintsCard

/-- THE SECOND FORM's CARD OF 'vellumlaw11.TypesSolves'. -/
def typesSolvesUptoCard : Claim7 := { stood := { row := typesSolvesUptoRow, standIns := [], harness := (true, "b1bc535e30f160444524ab8aa0e50f07aaffa6f3ce23ffcc10d56a9353042c43"), looks := false }, kinds := [], alts := [], laidByText := true, laidKinds := [.data, .data, .data], laidTests := true, laidLooks := .later }
def TypesSolvesUptoCardSaid : Prop := Claim7.holds Tryd.pinned (.plain (OpenSpec.upto typesSolvesSpec)) typesSolvesUptoCard

/-- THE SECOND FORM's CARD OF 'vellumlaw11.TypesFirst'. -/
def typesFirstUptoCard : Claim7 := { stood := { row := typesFirstUptoRow, standIns := [], harness := (true, "b1bc535e30f160444524ab8aa0e50f07aaffa6f3ce23ffcc10d56a9353042c43"), looks := false }, kinds := [], alts := [], laidByText := true, laidKinds := [.data, .data, .data], laidTests := true, laidLooks := .later }
def TypesFirstUptoCardSaid : Prop := Claim7.holds Tryd.pinned (.plain (OpenSpec.upto typesFirstSpec)) typesFirstUptoCard

/-- THE SECOND FORM's CARD OF 'vellumlaw11.TypesArguments'. -/
def typesArgumentsUptoCard : Claim7 := { stood := { row := typesArgumentsUptoRow, standIns := [], harness := (true, "b1bc535e30f160444524ab8aa0e50f07aaffa6f3ce23ffcc10d56a9353042c43"), looks := false }, kinds := [], alts := [], laidByText := true, laidKinds := [.data, .data, .data], laidTests := true, laidLooks := .later }
def TypesArgumentsUptoCardSaid : Prop := Claim7.holds Tryd.pinned (.plain (OpenSpec.upto typesArgumentsSpec)) typesArgumentsUptoCard

/-- THE SECOND FORM's CARD OF 'vellumlaw11.TypesOrder'. -/
def typesOrderUptoCard : Claim7 := { stood := { row := typesOrderUptoRow, standIns := [], harness := (true, "b1bc535e30f160444524ab8aa0e50f07aaffa6f3ce23ffcc10d56a9353042c43"), looks := false }, kinds := [], alts := [], laidByText := true, laidKinds := [.data, .data, .data], laidTests := true, laidLooks := .later }
def TypesOrderUptoCardSaid : Prop := Claim7.holds Tryd.pinned (.plain (OpenSpec.upto typesOrderSpec)) typesOrderUptoCard

/-- THE SECOND FORM's CARD OF 'vellumlaw11.TypesImplied'. -/
def typesImpliedUptoCard : Claim7 := { stood := { row := typesImpliedUptoRow, standIns := [], harness := (true, "b1bc535e30f160444524ab8aa0e50f07aaffa6f3ce23ffcc10d56a9353042c43"), looks := false }, kinds := [], alts := [], laidByText := true, laidKinds := [.data, .data, .data], laidTests := true, laidLooks := .later }
def TypesImpliedUptoCardSaid : Prop := Claim7.holds Tryd.pinned (.plain (OpenSpec.upto typesImpliedSpec)) typesImpliedUptoCard

/-- THE SECOND FORM's CARD OF 'vellumlaw11.TypesGrow'. -/
def typesGrowUptoCard : Claim7 := { stood := { row := typesGrowUptoRow, standIns := [], harness := (true, "b1bc535e30f160444524ab8aa0e50f07aaffa6f3ce23ffcc10d56a9353042c43"), looks := false }, kinds := [], alts := [], laidByText := true, laidKinds := [.data, .data, .data], laidTests := true, laidLooks := .later }
def TypesGrowUptoCardSaid : Prop := Claim7.holds Tryd.pinned (.plain (OpenSpec.upto typesGrowSpec)) typesGrowUptoCard

/-- THE SECOND FORM's CARD OF 'vellumlaw11.TypesRenamed'. -/
def typesRenamedUptoCard : Claim7 := { stood := { row := typesRenamedUptoRow, standIns := [], harness := (true, "b1bc535e30f160444524ab8aa0e50f07aaffa6f3ce23ffcc10d56a9353042c43"), looks := false }, kinds := [], alts := [], laidByText := true, laidKinds := [.data, .data, .data], laidTests := true, laidLooks := .later }
def TypesRenamedUptoCardSaid : Prop := Claim7.holds Tryd.pinned (.plain (OpenSpec.upto typesRenamedSpec)) typesRenamedUptoCard

/-- THE SECOND FORM's CARD OF 'vellumlaw11.TypesChains'. -/
def typesChainsUptoCard : Claim7 := { stood := { row := typesChainsUptoRow, standIns := [], harness := (true, "b1bc535e30f160444524ab8aa0e50f07aaffa6f3ce23ffcc10d56a9353042c43"), looks := false }, kinds := [], alts := [], laidByText := true, laidKinds := [.data, .data, .data], laidTests := true, laidLooks := .later }
def TypesChainsUptoCardSaid : Prop := Claim7.holds Tryd.pinned (.plain (OpenSpec.upto typesChainsSpec)) typesChainsUptoCard

/-- THE SECOND FORM's CARD OF 'vellumlaw11.TypesContains'. -/
def typesContainsUptoCard : Claim7 := { stood := { row := typesContainsUptoRow, standIns := [], harness := (true, "b1bc535e30f160444524ab8aa0e50f07aaffa6f3ce23ffcc10d56a9353042c43"), looks := false }, kinds := [], alts := [], laidByText := true, laidKinds := [.data, .data, .data], laidTests := true, laidLooks := .later }
def TypesContainsUptoCardSaid : Prop := Claim7.holds Tryd.pinned (.plain (OpenSpec.upto typesContainsSpec)) typesContainsUptoCard

/-- THE SECOND FORM's CARD OF 'vellumlaw11.TypesSizes'. -/
def typesSizesUptoCard : Claim7 := { stood := { row := typesSizesUptoRow, standIns := [], harness := (true, "b1bc535e30f160444524ab8aa0e50f07aaffa6f3ce23ffcc10d56a9353042c43"), looks := false }, kinds := [], alts := [], laidByText := true, laidKinds := [.data, .data, .data], laidTests := true, laidLooks := .later }
def TypesSizesUptoCardSaid : Prop := Claim7.holds Tryd.pinned (.plain (OpenSpec.upto typesSizesSpec)) typesSizesUptoCard

/-- THE SECOND FORM's CARD OF 'vellumlaw11.TypesPrints'. -/
def typesPrintsUptoCard : Claim7 := { stood := { row := typesPrintsUptoRow, standIns := [], harness := (true, "b1bc535e30f160444524ab8aa0e50f07aaffa6f3ce23ffcc10d56a9353042c43"), looks := false }, kinds := [], alts := [], laidByText := true, laidKinds := [.data, .data, .data], laidTests := true, laidLooks := .later }
def TypesPrintsUptoCardSaid : Prop := Claim7.holds Tryd.pinned (.plain (OpenSpec.upto typesPrintsSpec)) typesPrintsUptoCard
end Rows
end Go.Proofs.YtepmgnhblegiiaaDoor
