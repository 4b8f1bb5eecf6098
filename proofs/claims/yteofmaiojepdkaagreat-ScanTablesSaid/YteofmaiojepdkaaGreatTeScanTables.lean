/- ScanTables: the statement, proved: a jump table is followed for exactly as many entries as its limit says. No condition of our own: every input. -/
import Derived.Test.YteofmaiojepdkaaGreatTeLsTab
set_option linter.all false
namespace Go.Proofs.YteofmaiojepdkaaGreat.scanTablesDone
open Go.ChangeShapes Go.WideShapes Go.ChangeAt Go.RowKit
set_option maxRecDepth 100000
theorem lifted (os : Os) (started : os.Started) (H : Type) (enc : TypeId × Value → H) :
  ReturnsInHanded {} Tryz.checked os 9 .any (Rows.scanTablesSpec.pre6 enc Tryz.prog Tryz.f9 Rows.scanTablesRow.domain false) (Rows.scanTablesSpec.post enc Tryz.prog Tryz.f9 false true false false) := by
 refine returnsInHanded_of_change (C := Tryz.checked) cOwn started (by kernel_rfl) Tryz.func9
  (ChangeSpec.witness6 (enc := enc) (C := Tryz.checked) false ⟨#[], #[.int .u8 0, .slice none 0 0], []⟩ 8 (by kernel_rfl) (by kernel_rfl) (by kernel_rfl) (by kernel_rfl)) ?_
 intro W base args ds gs before hval0 hW hcnd _
 have hval : ∀ (j : Nat) t v, Tryz.f9.params[j]? = some t → args[j]? = some v → Value.okWide Tryz.prog W .any base t v := hval0
 have hW' := hW
 obtain ⟨p, q, hA0, hV, hpq, hfz, hnd⟩ := hW
 obtain ⟨rfl, -⟩ := trodVars_none hV
 have hA : DataW.TrodAll enc Tryz.prog W 0 (fun _ => true) true Tryz.f9.params.toList args.toList ds p := hA0
 rw [Tryz.params9] at hA hval
 obtain ⟨v0, vs0, d0, ds0, p0, q0, e0, rfl, -, t0, r0⟩ := trodAll_cons hA
 obtain ⟨v1, vs1, d1, ds1, p1, q1, e1, rfl, -, t1, r1⟩ := trodAll_cons r0
 obtain ⟨en, rfl, -⟩ := trodAll_nil r1
 obtain rfl : args = #[v0, v1] := by cases args; simp_all
 obtain ⟨x0, rfl, hx0⟩ := value_int Tryz.underlying5 (hval 0 _ v0 rfl rfl)
 obtain ⟨p1, n1, cp1, V1, rfl, hn1, hb1, hr1⟩ := open_u8s Tryz.underlying73 Tryz.underlying5 (by kernel_rfl) (hval 1 _ v1 rfl rfl) t1
 refine (scantables_any x0 (has_u8 hx0) p1 n1 cp1 V1 hb1 hn1 W hr1).mono fun e W' ⟨he, hb⟩ => ⟨_, he, ?_⟩
 exact post_law cLaidOut (by kernel_rfl) rfl 4 rfl Tryz.underlying4 rfl hW' hb
theorem over : Rows.ScanTablesSaid :=
 OpenClaim.holds_of_wide 9 Tryz.f9 rfl rfl rfl rfl rfl rfl rfl ⟨rfl, rfl, rfl, rfl, rfl⟩ rfl rfl rfl rfl rfl (by kernel_rfl) Tryz.func9 (by kernel_rfl)
  (of_decide_eq_true (by kernel_rfl)) (by unfold Func.isWrapper; first | (rw [if_pos (by decide +kernel)]; kernel_rfl) | (rw [if_neg (by decide +kernel)]; exact ⟨rfl, rfl⟩))
  (fun os started H enc _ => lifted os started H enc)
end Go.Proofs.YteofmaiojepdkaaGreat.scanTablesDone
