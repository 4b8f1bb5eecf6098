/- LinkAssembles: the statement, proved. For all chunks and places, Assemble returns what the reference model returns. No condition of our own: every input. -/
import Derived.Test.YthebmoggbgldmaaLaLnG
set_option linter.all false
namespace Go.Proofs.Ythebmoggbgldmaa.linkAssemblesDone
open Go.ChangeShapes Go.WideShapes Go.ChangeAt Go.RowKit
set_option maxRecDepth 100000
theorem lifted (os : Os) (started : os.Started) (H : Type) (enc : TypeId × Value → H) :
  ReturnsInHanded {} Try.checked os 3 .any (Rows.linkAssemblesSpec.pre6 enc Try.prog Try.f3 Rows.linkAssemblesRow.domain false) (Rows.linkAssemblesSpec.post enc Try.prog Try.f3 false true false false) := by
 refine returnsInHanded_of_change (C := Try.checked) cOwn started (by kernel_rfl) Try.func3
  (ChangeSpec.witness6 (enc := enc) (C := Try.checked) false ⟨#[], #[.slice none 0 0, .slice none 0 0, .agg #[.int .i64 0, .int .i64 0, .int .i64 0, .int .i64 0, .int .i64 0, .int .i64 0]], []⟩ 8 (by kernel_rfl) (by kernel_rfl) (by kernel_rfl) (by kernel_rfl)) ?_
 intro W base args ds gs before hval0 hW hcnd _
 have hval : ∀ (j : Nat) t v, Try.f3.params[j]? = some t → args[j]? = some v → Value.okWide Try.prog W .any base t v := hval0
 have hW' := hW
 obtain ⟨p, q, hA0, hV, hpq, hfz, hnd⟩ := hW
 obtain ⟨rfl, -⟩ := trodVars_none hV
 have hA : DataW.TrodAll enc Try.prog W 0 (fun _ => true) true Try.f3.params.toList args.toList ds p := hA0
 rw [Try.params3] at hA hval
 obtain ⟨v0, vs0, d0, ds0, p0, q0, e0, rfl, -, t0, r0⟩ := trodAll_cons hA
 obtain ⟨v1, vs1, d1, ds1, p1, q1, e1, rfl, -, t1, r1⟩ := trodAll_cons r0
 obtain ⟨v2, vs2, d2, ds2, p2, q2, e2, rfl, -, t2, r2⟩ := trodAll_cons r1
 obtain ⟨en, rfl, -⟩ := trodAll_nil r2
 obtain rfl : args = #[v0, v1, v2] := by cases args; simp_all
 obtain ⟨p0, n0, cp0, b0, f0, Q0, rfl, hl0, hm0, hp0, hQ0, hd0⟩ := je (m := 6) (by decide) Try.underlying22 Try.underlying24 Try.underlying3 (by kernel_rfl) (by kernel_rfl) (hval 0 _ v0 rfl rfl) t0
 obtain ⟨S0, hS0, hV0⟩ := six_of hp0 hQ0
 have hn0 : n0 < 9223372036854775808 := by unfold maxLen at hm0; omega
 obtain ⟨p1, n1, cp1, b1, f1, Q1, rfl, hl1, hm1, hp1, hQ1, hd1⟩ := je (m := 2) (by decide) Try.underlying23 Try.underlying63 Try.underlying3 (by kernel_rfl) (by kernel_rfl) (hval 1 _ v1 rfl rfl) t1
 obtain ⟨S1, hS1, hV1⟩ := pair_of hp1 hQ1
 have hn1 : n1 < 9223372036854775808 := by unfold maxLen at hm1; omega
 obtain ⟨c20, c21, c22, c23, c24, c25, hc2, rfl⟩ := arg_c6 (hval 2 _ v2 rfl rfl)
 refine (linkassembles_any p0 n0 cp0 S0 hS0 hn0 p1 n1 cp1 S1 hS1 hn1 c20 c21 c22 c23 c24 c25 hc2.1 hc2.2.1 hc2.2.2.1 hc2.2.2.2.1 hc2.2.2.2.2.1 hc2.2.2.2.2.2 W (hV0 cp0 hl0) (hV1 cp1 hl1)).mono fun e W' ⟨he, hb⟩ => ⟨_, he, ?_⟩
 exact post_law cLaidOut (by kernel_rfl) rfl 4 rfl Try.underlying4 rfl hW' hb
theorem over : Rows.LinkAssemblesSaid :=
 OpenClaim.holds_of_wide 3 Try.f3 rfl rfl rfl rfl rfl rfl rfl ⟨rfl, rfl, rfl, rfl, rfl⟩ rfl rfl rfl rfl rfl (by kernel_rfl) Try.func3 (by kernel_rfl)
  (of_decide_eq_true (by kernel_rfl)) (by unfold Func.isWrapper; first | (rw [if_pos (by decide +kernel)]; kernel_rfl) | (rw [if_neg (by decide +kernel)]; exact ⟨rfl, rfl⟩))
  (fun os started H enc _ => lifted os started H enc)
end Go.Proofs.Ythebmoggbgldmaa.linkAssemblesDone
