/- TypesGrow: the card, proved. With further constraints, classes only become larger, and nothing that is known of them is lost. No condition of our own: every input within the form's reach, the listed library tables as their text lays them. -/
import Derived.Test.YtepmgnhblegiiaaDoorCrd
import Derived.SizedLaws
import Derived.ChangeMaps5
import Derived.Test.YtepmgnhblegiiaaDoorLGro
set_option linter.all false
namespace Go.Proofs.YtepmgnhblegiiaaDoor.typesGrow
open Go.ChangeShapes Go.WideShapes Go.ChangeAt Go.RowKit
set_option maxRecDepth 100000

theorem contract (H : Type) (enc : TypeId × Value → H) (W : World) (base : Nat) (args : Array Value) (ds gs : List (DataW H)) (before : List MemPlace)
    (hval : ∀ (j : Nat) t v, Tryd.f8.params[j]? = some t → args[j]? = some v → Value.okWide Tryd.prog W .any base t v)
    (hW : DataW.Whole enc Tryd.prog Tryd.f8.params.toList Rows.typesGrowSpec.vars false W args.toList ds gs before) (hL : laidMetH Tryd.prog laidAll W)
    (hR : (DataW.weightsEach Tryd.prog (Tryd.f8.params.toList ++ (OpenSpec.ofChange Rows.typesGrowSpec).bare.plain.varTypes Tryd.prog) (ds ++ gs)).all (· ≤ reachBytes) = true) :
    Calls Tryd.prog 8 args W fun e W' => ∃ v, e = .returned v ∧ Rows.typesGrowSpec.post enc Tryd.prog Tryd.f8 false true false false W args v W' := by
  have hT := tabs_of_laid hL
  have hW' := hW
  obtain ⟨p, q, hA0, hV, hpq, hfz, hnd⟩ := hW
  obtain ⟨rfl, -⟩ := trodVars_none hV
  have hA : DataW.TrodAll enc Tryd.prog W 0 (fun _ => true) true Tryd.f8.params.toList args.toList ds p := hA0
  rw [Tryd.params8] at hA hval
  obtain ⟨v0, vs0, d0, ds0, p0, q0, e0, rfl, -, t0, r0⟩ := trodAll_cons hA
  obtain ⟨v1, vs1, d1, ds1, p1, q1, e1, rfl, -, t1, r1⟩ := trodAll_cons r0
  obtain ⟨v2, vs2, d2, ds2, p2, q2, e2, rfl, -, t2, r2⟩ := trodAll_cons r1
  obtain ⟨en, rfl, -⟩ := trodAll_nil r2
  obtain rfl : args = #[v0, v1, v2] := by cases args; simp_all
  obtain ⟨z0, hz0, rfl⟩ := arg_int (hval 0 _ v0 rfl rfl)
  obtain ⟨p1, n1, cp1, b1, f1, Q1, rfl, hl1, hm1, hp1, hQ1, hd1⟩ := open_int_arrays (m := 4) (by decide) Tryd.underlying22 Tryd.underlying34 Tryd.underlying3 (by kernel_rfl) (by kernel_rfl) (hval 1 _ v1 rfl rfl) t1
  have hn1 : n1 ≤ 140737488351232 := by
    rcases hd1 with h | ⟨es, sp, rfl, h⟩
    · omega
    · have := sized_slice hR (j := 1) (t := 22) (elems := es) (spare := sp) (by kernel_rfl) rfl Tryd.underlying22
      rw [show Tryd.prog.bytesOf 34 = 32 by kernel_rfl] at this
      simp [reachBytes] at this
      omega
  obtain ⟨z2, hz2, rfl⟩ := arg_int (hval 2 _ v2 rfl rfl)
  refine (typesGrow_any z0 hz0 p1 n1 cp1 (by omega) z2 hz2 W (arr_of hp1 hQ1) hT).mono fun e W' ⟨he, hb⟩ => ⟨_, he, ?_⟩
  exact post_law cLaidOut (by kernel_rfl) rfl 4 rfl Tryd.underlying4 rfl hW' hb

theorem reads (os : Os) {H : Type} (enc : TypeId × Value → H) : ∃ places, DataW.whole enc Tryd.prog ((World.doorLaid Tryd.prog 48 os).forCall (fun _ _ => 0) ⟨#[], #[.int .i64 0, .slice none 0 0, .int .i64 0], []⟩).memory Tryd.f8.params.toList Rows.typesGrowSpec.vars false (#[.int .i64 0, .slice none 0 0, .int .i64 0] : Array Value).toList 8 = some ([.lit (.int .i64 0), .nil, .lit (.int .i64 0)], [], places) :=
  ⟨[], by kernel_rfl⟩

theorem lifted (os : Os) (started : os.Started) (H : Type) (enc : TypeId × Value → H) (F : Stop.Interp) :
    ReturnsInHanded {} Tryd.checked os 8 .any ((OpenSpec.ofChange Rows.typesGrowSpec).preRow enc Tryd.prog Tryd.f8 Rows.typesGrowRow.domain false Rows.typesGrowRow.laid) (((OpenSpec.ofChange Rows.typesGrowSpec).at F).post enc Tryd.prog Tryd.f8 false true false false) := by
  obtain ⟨places, hx⟩ := reads os enc
  refine returnsInHanded_of_row (C := Tryd.checked) (s := OpenSpec.ofChange Rows.typesGrowSpec) cOwn started (by kernel_rfl) Tryd.func8
    (witness_row_atRef (enc := enc) (C := Tryd.checked) false (World.doorLaid Tryd.prog 48 os) #[.int .i64 0, .slice none 0 0, .int .i64 0] rfl (by kernel_rfl) (by kernel_rfl) (by kernel_rfl)
      (OpenSpec.preRow_of_cond 8 hx (by kernel_rfl) (fun k hk => by cases hk) (by kernel_rfl) (door_met os _))) ?_
  intro W base args ds gs before hval hW _ _ hR hL _ _
  exact contract H enc W base args ds gs before hval hW hL hR

theorem said : Rows.TypesGrowSaid :=
  OpenClaim.holds_of_cond 8 Tryd.f8 rfl rfl rfl rfl rfl rfl rfl ⟨rfl, rfl, rfl, rfl, rfl⟩ rfl rfl rfl rfl rfl (by kernel_rfl) Tryd.func8 (by kernel_rfl)
    (of_decide_eq_true (by kernel_rfl)) (by unfold Func.isWrapper; first | (rw [if_pos (by decide +kernel)]; kernel_rfl) | (rw [if_neg (by decide +kernel)]; exact ⟨rfl, rfl⟩))
    (fun os started H enc _ F => by rw [OpenClaim.pre_eq_preRow]; exact lifted os started H enc F)

theorem plain (f : FuncId) (fn : Func) (hf : Tryd.pinned.checked.prog.funcNamed "vellum/vellumlaw11.TypesGrow" = some f) (hfn : Tryd.pinned.checked.prog.funcs[f]? = some fn) :
    false = Tryd.pinned.checked.prog.looks [] ∧ ∀ (j : Nat) t, fn.params[j]? = some t → Tryd.pinned.checked.prog.wantsStandIn t = false := by
  obtain rfl : f = 8 := Option.some.inj ((show Tryd.prog.funcNamed "vellum/vellumlaw11.TypesGrow" = some 8 by kernel_rfl).symm.trans hf) |>.symm
  obtain rfl : fn = Tryd.f8 := (Option.some.inj (Tryd.func8.symm.trans hfn)).symm
  refine ⟨by kernel_rfl, fun j t ht => ?_⟩
  have hall : (Tryd.f8.params.toList.all fun t => !Tryd.prog.wantsStandIn t) = true := by kernel_rfl
  have hm : t ∈ Tryd.f8.params.toList := by
    have := Array.mem_of_getElem? ht
    simpa using this
  have h1 := List.all_eq_true.1 hall t hm
  have h2 : Tryd.prog.wantsStandIn t = false := by simpa using h1
  exact h2

theorem card : Rows.TypesGrowCardSaid :=
  Claim7.holds_tied_plain_at .later [] _ _ _ _ said (fun _ h => by cases h) (by kernel_rfl) (fun _ h => by cases h) typesGrow_row_tie rfl ⟨rfl, rfl⟩ (by kernel_rfl) rfl plain (by kernel_rfl)
end Go.Proofs.YtepmgnhblegiiaaDoor.typesGrow
