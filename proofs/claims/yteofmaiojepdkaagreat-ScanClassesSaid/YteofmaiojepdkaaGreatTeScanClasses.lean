/- ScanClasses: the statement, proved: the class of every byte follows from the instructions of the listing. No condition of our own: every input. -/
import Derived.Test.YteofmaiojepdkaaGreatTeLsCls
set_option linter.all false
namespace Go.Proofs.YteofmaiojepdkaaGreat.scanClassesDone
open Go.ChangeShapes Go.WideShapes Go.ChangeAt Go.RowKit
set_option maxRecDepth 100000
theorem lifted (os : Os) (started : os.Started) (H : Type) (enc : TypeId × Value → H) :
  ReturnsInHanded {} Tryz.checked os 7 .any (Rows.scanClassesSpec.pre6 enc Tryz.prog Tryz.f7 Rows.scanClassesRow.domain false) (Rows.scanClassesSpec.post enc Tryz.prog Tryz.f7 false true false false) := by
 refine returnsInHanded_of_change (C := Tryz.checked) cOwn started (by kernel_rfl) Tryz.func7
  (ChangeSpec.witness6 (enc := enc) (C := Tryz.checked) false ⟨#[], #[.slice none 0 0, .agg #[.int .i64 0, .int .i64 0, .int .i64 0, .int .i64 0], .slice none 0 0], []⟩ 8 (by kernel_rfl) (by kernel_rfl) (by kernel_rfl) (by kernel_rfl)) ?_
 intro W base args ds gs before hval0 hW hcnd _
 have hval : ∀ (j : Nat) t v, Tryz.f7.params[j]? = some t → args[j]? = some v → Value.okWide Tryz.prog W .any base t v := hval0
 have hW' := hW
 obtain ⟨p, q, hA0, hV, hpq, hfz, hnd⟩ := hW
 obtain ⟨rfl, -⟩ := trodVars_none hV
 have hA : DataW.TrodAll enc Tryz.prog W 0 (fun _ => true) true Tryz.f7.params.toList args.toList ds p := hA0
 rw [Tryz.params7] at hA hval
 obtain ⟨v0, vs0, d0, ds0, p0, q0, e0, rfl, -, t0, r0⟩ := trodAll_cons hA
 obtain ⟨v1, vs1, d1, ds1, p1, q1, e1, rfl, -, t1, r1⟩ := trodAll_cons r0
 obtain ⟨v2, vs2, d2, ds2, p2, q2, e2, rfl, -, t2, r2⟩ := trodAll_cons r1
 obtain ⟨en, rfl, -⟩ := trodAll_nil r2
 obtain rfl : args = #[v0, v1, v2] := by cases args; simp_all
 obtain ⟨p0, n0, cp0, b0, f0, Q0, rfl, hl0, hm0, hp0, hQ0, hd0⟩ := open_int_arrays (m := 5) (by decide) Tryz.underlying22 Tryz.underlying196 Tryz.underlying3 (by kernel_rfl) (by kernel_rfl) (hval 0 _ v0 rfl rfl) t0
 obtain ⟨S0, hS0, hV0⟩ := five_of hp0 hQ0
 have hn0 : n0 ≤ 9223372036854775807 := by unfold maxLen at hm0; omega
 obtain ⟨N1, hN1, rfl⟩ := arg_c4N (hval 1 _ v1 rfl rfl)
 obtain ⟨p2, n2, cp2, b2, f2, Q2, rfl, hl2, hm2, hp2, hQ2, hd2⟩ := open_int_arrays (m := 2) (by decide) Tryz.underlying24 Tryz.underlying80 Tryz.underlying3 (by kernel_rfl) (by kernel_rfl) (hval 2 _ v2 rfl rfl) t2
 obtain ⟨S2, hS2, hV2⟩ := two_of hp2 hQ2
 have hn2 : n2 ≤ 9223372036854775807 := by unfold maxLen at hm2; omega
 refine (scanclasses_any p0 n0 cp0 S0 hn0 N1 p2 n2 cp2 S2 hn2 hS2 W (hV0 cp0 hl0) (hV2 cp2 hl2)).mono fun e W' ⟨he, hb⟩ => ⟨_, he, ?_⟩
 exact post_law cLaidOut (by kernel_rfl) rfl 4 rfl Tryz.underlying4 rfl hW' hb
theorem over : Rows.ScanClassesSaid :=
 OpenClaim.holds_of_wide 7 Tryz.f7 rfl rfl rfl rfl rfl rfl rfl ⟨rfl, rfl, rfl, rfl, rfl⟩ rfl rfl rfl rfl rfl (by kernel_rfl) Tryz.func7 (by kernel_rfl)
  (of_decide_eq_true (by kernel_rfl)) (by unfold Func.isWrapper; first | (rw [if_pos (by decide +kernel)]; kernel_rfl) | (rw [if_neg (by decide +kernel)]; exact ⟨rfl, rfl⟩))
  (fun os started H enc _ => lifted os started H enc)
end Go.Proofs.YteofmaiojepdkaaGreat.scanClassesDone
