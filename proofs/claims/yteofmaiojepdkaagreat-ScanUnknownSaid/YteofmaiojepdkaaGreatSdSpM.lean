/- Chapter 05 in plain Lean: the bank that vellumref04.Fill fills has few calls; images of three banks, two of which are nearly empty. No condition beyond what each states. -/
import Derived.Test.YteofmaiojepdkaaGreatSdRmC
import Derived.KernelRfl
set_option linter.all false
namespace Go.Proofs.YteofmaiojepdkaaGreat
open Go
structure LaidI (I : zp) : Prop where
 ok : I.Ok
 bk : ∃ b0 b1 s, I.banks = [b0, b1, xN (je s)] ∧ 0 ≤ s ∧ nzB b0 ≤ 320 ∧ nzB b1 ≤ 310
 en : I.entry = 0
 ve : I.vector = 0 ∨ I.vector = 700
end Go.Proofs.YteofmaiojepdkaaGreat
