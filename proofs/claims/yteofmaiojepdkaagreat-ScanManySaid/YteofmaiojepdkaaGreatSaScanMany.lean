/- ScanMany: the statement, proved. With more entries than the limit there are no routines, and one issue. No condition of our own: every input. -/
import Derived.Test.YteofmaiojepdkaaGreatSaLcS
import Derived.Test.YteofmaiojepdkaaGreatSaLsMny
set_option linter.all false
namespace Go.Proofs.YteofmaiojepdkaaGreat.scanManyDone
open Go.ChangeShapes Go.WideShapes Go.ChangeAt Go.RowKit
set_option maxRecDepth 100000
theorem lifted (os : Os) (started : os.Started) (H : Type) (enc : TypeId × Value → H) :
    ReturnsInHanded {} Tryz.checked os 11 .any (Rows.scanManySpec.pre6 enc Tryz.prog Tryz.f11 Rows.scanManyRow.domain false) (Rows.scanManySpec.post enc Tryz.prog Tryz.f11 false true false false) := by
  refine returnsInHanded_of_change (C := Tryz.checked) cOwn started (by kernel_rfl) Tryz.func11
    (ChangeSpec.witness6 (enc := enc) (C := Tryz.checked) false ⟨#[], #[.int .i64 0], []⟩ 8 (by kernel_rfl) (by kernel_rfl) (by kernel_rfl) (by kernel_rfl)) ?_
  intro W base args ds gs before hval0 hW hcnd _
  have hval : ∀ (j : Nat) t v, Tryz.f11.params[j]? = some t → args[j]? = some v → Value.okWide Tryz.prog W .any base t v := hval0
  have hW' := hW
  obtain ⟨p, q, hA0, hV, hpq, hfz, hnd⟩ := hW
  obtain ⟨rfl, -⟩ := trodVars_none hV
  have hA : DataW.TrodAll enc Tryz.prog W 0 (fun _ => true) true Tryz.f11.params.toList args.toList ds p := hA0
  rw [Tryz.params11] at hA hval
  obtain ⟨v0, vs0, d0, ds0, p0, q0, e0, rfl, -, t0, r0⟩ := trodAll_cons hA
  obtain ⟨en, rfl, -⟩ := trodAll_nil r0
  obtain rfl : args = #[v0] := by cases args; simp_all
  obtain ⟨n, hn, rfl⟩ := arg_int (hval 0 _ v0 rfl rfl)
  refine (scanmany_any n hn W).mono fun e W' ⟨he, hb⟩ => ⟨_, he, ?_⟩
  exact post_law cLaidOut (by kernel_rfl) rfl 4 rfl Tryz.underlying4 rfl hW' hb
theorem over : Rows.ScanManySaid :=
  OpenClaim.holds_of_wide 11 Tryz.f11 rfl rfl rfl rfl rfl rfl rfl ⟨rfl, rfl, rfl, rfl, rfl⟩ rfl rfl rfl rfl rfl (by kernel_rfl) Tryz.func11 (by kernel_rfl)
    (of_decide_eq_true (by kernel_rfl)) (by unfold Func.isWrapper; first | (rw [if_pos (by decide +kernel)]; kernel_rfl) | (rw [if_neg (by decide +kernel)]; exact ⟨rfl, rfl⟩))
    (fun os started H enc _ => lifted os started H enc)
end Go.Proofs.YteofmaiojepdkaaGreat.scanManyDone
