/-
  DERIVED. GIVEN WITH THE SEED: THE CARDS: each row of YtakahmhbopakmaaDoorRows.lean that lists a variable, with what it lists TIED to the program's text (the seventh form; the later family's looks); each row that meets fmt, with fmt's text TOLD by the authors' own Lean function (tested against real Go, not proved from fmt's source: count such statements apart). THE CARD IS WHAT COUNTS. Prove the row's statement (the work); the ties are given (YtakahmhbopakmaaDoorTie.lean); close each card by the builder's one call (the guide's Derived/Test/ToyasCard.lean, 'card_holds'). Laid BY PROGRAM, IN A SANDBOX (cutbox-door.mjs). By AI agents, Wed Nov 11 2026. No macro, syntax, notation, axiom, sorry.
-/
import Derived.Test.YtakahmhbopakmaaDoorRows
import GoSem.ClaimSeven
namespace Go.Proofs.YtakahmhbopakmaaDoor
namespace Rows

/-- THE TIED CARD OF 'vellumlaw02.IsaEncodes'. -/
def isaEncodesCard : Claim7 := { stood := { row := isaEncodesRow, standIns := [], harness := (true, "b1fe015485a535e8f1ff526f03643ad6243f6ecded8e510bbf2e28f69168f28c"), looks := false }, kinds := [], alts := [], laidByText := true, laidKinds := [.data, .data, .data, .listed, .data], laidTests := true, laidLooks := .later }
def IsaEncodesCardSaid : Prop := Claim7.holds Tryd.pinned (.plain (OpenSpec.ofChange isaEncodesSpec)) isaEncodesCard

/-- THE TIED CARD OF 'vellumlaw02.IsaDecodes'. -/
def isaDecodesCard : Claim7 := { stood := { row := isaDecodesRow, standIns := [], harness := (true, "b1fe015485a535e8f1ff526f03643ad6243f6ecded8e510bbf2e28f69168f28c"), looks := false }, kinds := [], alts := [], laidByText := true, laidKinds := [.data, .data, .data, .listed, .data], laidTests := true, laidLooks := .later }
def IsaDecodesCardSaid : Prop := Claim7.holds Tryd.pinned (.plain (OpenSpec.ofChange isaDecodesSpec)) isaDecodesCard

/-- THE TIED CARD OF 'vellumlaw02.IsaInverts'. -/
def isaInvertsCard : Claim7 := { stood := { row := isaInvertsRow, standIns := [], harness := (true, "b1fe015485a535e8f1ff526f03643ad6243f6ecded8e510bbf2e28f69168f28c"), looks := false }, kinds := [], alts := [], laidByText := true, laidKinds := [.data, .data, .data, .listed, .data], laidTests := true, laidLooks := .later }
def IsaInvertsCardSaid : Prop := Claim7.holds Tryd.pinned (.plain (OpenSpec.ofChange isaInvertsSpec)) isaInvertsCard

/-- THE TIED CARD OF 'vellumlaw02.IsaUnique'. -/
def isaUniqueCard : Claim7 := { stood := { row := isaUniqueRow, standIns := [], harness := (true, "b1fe015485a535e8f1ff526f03643ad6243f6ecded8e510bbf2e28f69168f28c"), looks := false }, kinds := [], alts := [], laidByText := true, laidKinds := [.data, .data, .data, .listed, .data], laidTests := true, laidLooks := .later }
def IsaUniqueCardSaid : Prop := Claim7.holds Tryd.pinned (.plain (OpenSpec.ofChange isaUniqueSpec)) isaUniqueCard

/-- THE TIED CARD OF 'vellumlaw02.IsaSizes'. -/
def isaSizesCard : Claim7 := { stood := { row := isaSizesRow, standIns := [], harness := (true, "b1fe015485a535e8f1ff526f03643ad6243f6ecded8e510bbf2e28f69168f28c"), looks := false }, kinds := [], alts := [], laidByText := true, laidKinds := [.data, .data, .data, .listed, .data], laidTests := true, laidLooks := .later }
def IsaSizesCardSaid : Prop := Claim7.holds Tryd.pinned (.plain (OpenSpec.ofChange isaSizesSpec)) isaSizesCard

/-- THE TIED CARD OF 'vellumlaw02.IsaPrefix'. -/
def isaPrefixCard : Claim7 := { stood := { row := isaPrefixRow, standIns := [], harness := (true, "b1fe015485a535e8f1ff526f03643ad6243f6ecded8e510bbf2e28f69168f28c"), looks := false }, kinds := [], alts := [], laidByText := true, laidKinds := [.data, .data, .data, .listed, .data], laidTests := true, laidLooks := .later }
def IsaPrefixCardSaid : Prop := Claim7.holds Tryd.pinned (.plain (OpenSpec.ofChange isaPrefixSpec)) isaPrefixCard

/-- THE TIED CARD OF 'vellumlaw02.IsaReaches'. -/
def isaReachesCard : Claim7 := { stood := { row := isaReachesRow, standIns := [], harness := (true, "b1fe015485a535e8f1ff526f03643ad6243f6ecded8e510bbf2e28f69168f28c"), looks := false }, kinds := [], alts := [], laidByText := true, laidKinds := [.data, .data, .data, .listed, .data], laidTests := true, laidLooks := .later }
def IsaReachesCardSaid : Prop := Claim7.holds Tryd.pinned (.plain (OpenSpec.ofChange isaReachesSpec)) isaReachesCard

/-- THE TIED CARD OF 'vellumlaw02.IsaLines'. -/
def isaLinesCard : Claim7 := { stood := { row := isaLinesRow, standIns := [], harness := (true, "b1fe015485a535e8f1ff526f03643ad6243f6ecded8e510bbf2e28f69168f28c"), looks := false }, kinds := [], alts := [], laidByText := true, laidKinds := [.data, .data, .data, .listed, .data], laidTests := true, laidLooks := .later }
def IsaLinesCardSaid : Prop := Claim7.holds Tryd.pinned (.plain (OpenSpec.ofChange isaLinesSpec)) isaLinesCard

/-- THE TIED CARD OF 'vellumlaw02.IsaApart'. -/
def isaApartCard : Claim7 := { stood := { row := isaApartRow, standIns := [], harness := (true, "b1fe015485a535e8f1ff526f03643ad6243f6ecded8e510bbf2e28f69168f28c"), looks := false }, kinds := [], alts := [], laidByText := true, laidKinds := [.data, .data, .data, .listed, .data], laidTests := true, laidLooks := .later }
def IsaApartCardSaid : Prop := Claim7.holds Tryd.pinned (.plain (OpenSpec.ofChange isaApartSpec)) isaApartCard

/-- THE TIED CARD OF 'vellumlaw02.IsaStream'. -/
def isaStreamCard : Claim7 := { stood := { row := isaStreamRow, standIns := [], harness := (true, "b1fe015485a535e8f1ff526f03643ad6243f6ecded8e510bbf2e28f69168f28c"), looks := false }, kinds := [], alts := [], laidByText := true, laidKinds := [.data, .data, .data, .listed, .data], laidTests := true, laidLooks := .later }
def IsaStreamCardSaid : Prop := Claim7.holds Tryd.pinned (.plain (OpenSpec.ofChange isaStreamSpec)) isaStreamCard

/-- THE TIED CARD OF 'vellumlaw02.IsaForms'. -/
def isaFormsCard : Claim7 := { stood := { row := isaFormsRow, standIns := [], harness := (true, "b1fe015485a535e8f1ff526f03643ad6243f6ecded8e510bbf2e28f69168f28c"), looks := false }, kinds := [], alts := [], laidByText := true, laidKinds := [.data, .data, .data, .listed, .data], laidTests := true, laidLooks := .later }
def IsaFormsCardSaid : Prop := Claim7.holds Tryd.pinned (.plain (OpenSpec.ofChange isaFormsSpec)) isaFormsCard

/-- THE TIED CARD OF 'vellumlaw02.IsaTargets'. -/
def isaTargetsCard : Claim7 := { stood := { row := isaTargetsRow, standIns := [], harness := (true, "b1fe015485a535e8f1ff526f03643ad6243f6ecded8e510bbf2e28f69168f28c"), looks := false }, kinds := [], alts := [], laidByText := true, laidKinds := [.data, .data, .data, .listed, .data], laidTests := true, laidLooks := .later }
def IsaTargetsCardSaid : Prop := Claim7.holds Tryd.pinned (.plain (OpenSpec.ofChange isaTargetsSpec)) isaTargetsCard

/-- THE SECOND FORM's CARD OF 'vellumlaw02.IsaEncodes'. -/
def isaEncodesUptoCard : Claim7 := { stood := { row := isaEncodesUptoRow, standIns := [], harness := (true, "b1fe015485a535e8f1ff526f03643ad6243f6ecded8e510bbf2e28f69168f28c"), looks := false }, kinds := [], alts := [], laidByText := true, laidKinds := [.data, .data, .data, .listed, .data], laidTests := true, laidLooks := .later }
def IsaEncodesUptoCardSaid : Prop := Claim7.holds Tryd.pinned (.plain (OpenSpec.upto isaEncodesSpec)) isaEncodesUptoCard

/-- THE SECOND FORM's CARD OF 'vellumlaw02.IsaDecodes'. -/
def isaDecodesUptoCard : Claim7 := { stood := { row := isaDecodesUptoRow, standIns := [], harness := (true, "b1fe015485a535e8f1ff526f03643ad6243f6ecded8e510bbf2e28f69168f28c"), looks := false }, kinds := [], alts := [], laidByText := true, laidKinds := [.data, .data, .data, .listed, .data], laidTests := true, laidLooks := .later }
def IsaDecodesUptoCardSaid : Prop := Claim7.holds Tryd.pinned (.plain (OpenSpec.upto isaDecodesSpec)) isaDecodesUptoCard

/-- THE SECOND FORM's CARD OF 'vellumlaw02.IsaInverts'. -/
def isaInvertsUptoCard : Claim7 := { stood := { row := isaInvertsUptoRow, standIns := [], harness := (true, "b1fe015485a535e8f1ff526f03643ad6243f6ecded8e510bbf2e28f69168f28c"), looks := false }, kinds := [], alts := [], laidByText := true, laidKinds := [.data, .data, .data, .listed, .data], laidTests := true, laidLooks := .later }
def IsaInvertsUptoCardSaid : Prop := Claim7.holds Tryd.pinned (.plain (OpenSpec.upto isaInvertsSpec)) isaInvertsUptoCard

/-- THE SECOND FORM's CARD OF 'vellumlaw02.IsaUnique'. -/
def isaUniqueUptoCard : Claim7 := { stood := { row := isaUniqueUptoRow, standIns := [], harness := (true, "b1fe015485a535e8f1ff526f03643ad6243f6ecded8e510bbf2e28f69168f28c"), looks := false }, kinds := [], alts := [], laidByText := true, laidKinds := [.data, .data, .data, .listed, .data], laidTests := true, laidLooks := .later }
def IsaUniqueUptoCardSaid : Prop := Claim7.holds Tryd.pinned (.plain (OpenSpec.upto isaUniqueSpec)) isaUniqueUptoCard

/-- THE SECOND FORM's CARD OF 'vellumlaw02.IsaSizes'. -/
def isaSizesUptoCard : Claim7 := { stood := { row := isaSizesUptoRow, standIns := [], harness := (true, "b1fe015485a535e8f1ff526f03643ad6243f6ecded8e510bbf2e28f69168f28c"), looks := false }, kinds := [], alts := [], laidByText := true, laidKinds := [.data, .data, .data, .listed, .data], laidTests := true, laidLooks := .later }
def IsaSizesUptoCardSaid : Prop := Claim7.holds Tryd.pinned (.plain (OpenSpec.upto isaSizesSpec)) isaSizesUptoCard

/-- THE SECOND FORM's CARD OF 'vellumlaw02.IsaPrefix'. -/
def isaPrefixUptoCard : Claim7 := { stood := { row := isaPrefixUptoRow, standIns := [], harness := (true, "b1fe015485a535e8f1ff526f03643ad6243f6ecded8e510bbf2e28f69168f28c"), looks := false }, kinds := [], alts := [], laidByText := true, laidKinds := [.data, .data, .data, .listed, .data], laidTests := true, laidLooks := .later }
def IsaPrefixUptoCardSaid : Prop := Claim7.holds Tryd.pinned (.plain (OpenSpec.upto isaPrefixSpec)) isaPrefixUptoCard

/-- THE SECOND FORM's CARD OF 'vellumlaw02.IsaReaches'. -/
def isaReachesUptoCard : Claim7 := { stood := { row := isaReachesUptoRow, standIns := [], harness := (true, "b1fe015485a535e8f1ff526f03643ad6243f6ecded8e510bbf2e28f69168f28c"), looks := false }, kinds := [], alts := [], laidByText := true, laidKinds := [.data, .data, .data, .listed, .data], laidTests := true, laidLooks := .later }
def IsaReachesUptoCardSaid : Prop := Claim7.holds Tryd.pinned (.plain (OpenSpec.upto isaReachesSpec)) isaReachesUptoCard

/-- THE SECOND FORM's CARD OF 'vellumlaw02.IsaLines'. -/
def isaLinesUptoCard : Claim7 := { stood := { row := isaLinesUptoRow, standIns := [], harness := (true, "b1fe015485a535e8f1ff526f03643ad6243f6ecded8e510bbf2e28f69168f28c"), looks := false }, kinds := [], alts := [], laidByText := true, laidKinds := [.data, .data, .data, .listed, .data], laidTests := true, laidLooks := .later }
def IsaLinesUptoCardSaid : Prop := Claim7.holds Tryd.pinned (.plain (OpenSpec.upto isaLinesSpec)) isaLinesUptoCard

/-- THE SECOND FORM's CARD OF 'vellumlaw02.IsaApart'. -/
def isaApartUptoCard : Claim7 := { stood := { row := isaApartUptoRow, standIns := [], harness := (true, "b1fe015485a535e8f1ff526f03643ad6243f6ecded8e510bbf2e28f69168f28c"), looks := false }, kinds := [], alts := [], laidByText := true, laidKinds := [.data, .data, .data, .listed, .data], laidTests := true, laidLooks := .later }
def IsaApartUptoCardSaid : Prop := Claim7.holds Tryd.pinned (.plain (OpenSpec.upto isaApartSpec)) isaApartUptoCard

/-- THE SECOND FORM's CARD OF 'vellumlaw02.IsaStream'. -/
def isaStreamUptoCard : Claim7 := { stood := { row := isaStreamUptoRow, standIns := [], harness := (true, "b1fe015485a535e8f1ff526f03643ad6243f6ecded8e510bbf2e28f69168f28c"), looks := false }, kinds := [], alts := [], laidByText := true, laidKinds := [.data, .data, .data, .listed, .data], laidTests := true, laidLooks := .later }
def IsaStreamUptoCardSaid : Prop := Claim7.holds Tryd.pinned (.plain (OpenSpec.upto isaStreamSpec)) isaStreamUptoCard

/-- THE SECOND FORM's CARD OF 'vellumlaw02.IsaForms'. -/
def isaFormsUptoCard : Claim7 := { stood := { row := isaFormsUptoRow, standIns := [], harness := (true, "b1fe015485a535e8f1ff526f03643ad6243f6ecded8e510bbf2e28f69168f28c"), looks := false }, kinds := [], alts := [], laidByText := true, laidKinds := [.data, .data, .data, .listed, .data], laidTests := true, laidLooks := .later }
def IsaFormsUptoCardSaid : Prop := Claim7.holds Tryd.pinned (.plain (OpenSpec.upto isaFormsSpec)) isaFormsUptoCard

/-- THE SECOND FORM's CARD OF 'vellumlaw02.IsaTargets'. -/
def isaTargetsUptoCard : Claim7 := { stood := { row := isaTargetsUptoRow, standIns := [], harness := (true, "b1fe015485a535e8f1ff526f03643ad6243f6ecded8e510bbf2e28f69168f28c"), looks := false }, kinds := [], alts := [], laidByText := true, laidKinds := [.data, .data, .data, .listed, .data], laidTests := true, laidLooks := .later }
def IsaTargetsUptoCardSaid : Prop := Claim7.holds Tryd.pinned (.plain (OpenSpec.upto isaTargetsSpec)) isaTargetsUptoCard
end Rows
end Go.Proofs.YtakahmhbopakmaaDoor
