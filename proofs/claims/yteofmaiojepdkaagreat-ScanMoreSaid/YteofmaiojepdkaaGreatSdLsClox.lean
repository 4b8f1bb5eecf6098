/- The law ScanClosed, walked. Condition: the numbers lie in their types' ranges. -/
import Derived.Test.YteofmaiojepdkaaGreatSdSpN
set_option linter.all false
namespace Go.Proofs.YteofmaiojepdkaaGreat
open Go Go.RowKit Go.Maps Go.Sort
theorem routine5_in {R : List RtR} {p : zc} {A : Option Addr} {c : Nat} {w : World} (h : RdS w 8 A R.length c (R.flatMap rtvL)) (hl : R.length ≤ 9223372036854775807) (hp : p ∈ yI R) :
  Calls Tryz.prog 21 #[.slice A R.length c, .agg #[.int .i64 p.bank, .int .u16 p.addr]] w fun e w' => (∃ k : Nat, e = .returned (.int .i64 k)) ∧ Below w.heap.size w w' :=
 (routine5_any R p A c w h hl).mono fun e w' ⟨h, hb⟩ => by
  rcases h with ⟨k, x, -, -, rfl⟩ | ⟨h, -⟩
  ·exact ⟨⟨k, rfl⟩, hb⟩
  ·exact absurd hp h
end Go.Proofs.YteofmaiojepdkaaGreat
