/- Valid of the reference implementation, walked: formats 6, 7, 8, 9, 10. -/
import Derived.Test.YteofmaiojepdkaaGreatTbIsaG
set_option linter.all false
namespace Go.Proofs.YteofmaiojepdkaaGreat
open Go.RowKit
set_option maxRecDepth 100000 in
set_option maxHeartbeats 20000000 in
theorem rvalid_g1 (i : Ins) (hf : zq i.op = 6 ∨ zq i.op = 7 ∨ zq i.op = 8 ∨ zq i.op = 9 ∨ zq i.op = 10) (w : World) :
  Calls Tryz.prog 60 #[.agg #[.int .i64 (i).op, .int .i64 (i).d, .int .i64 (i).s, .int .u16 (i).imm, .int .u16 (i).aux, .int .i64 (i).bank, .int .i64 (i).size]] w fun e w' => e = .returned (.bool (zu i)) ∧ Below w.heap.size w w' := by
 rcases hf with hf | hf | hf | hf | hf
 all_goals
  obtain ⟨o0, o1⟩ := op_of_fmt (op := i.op) (by rw [hf]; decide)
  have HF := zh hf
  clear hf
  go_enter Tryz.func60, Tryz.ntmps60
  go_wp2_with (first
   | (go_at_call 59; refine (xo _ _).mono ?_; rintro e w1 ⟨rfl, hb1⟩; rw [HF.out]; have hz1 := hb1.size; simp at hz1))
  have hc1 : ∀ o, w1.cell? ⟨w.heap.size, o, none⟩ = (ze i)[o]? := fun o => cell_of_row w1 w.heap.size o _ _ _ ((hb1.block w.heap.size (by simp)).trans (heap_alloc_new w _))
  unfold ze vi vw at hc1
  have hwu : IntKind.u8.wrap i.op = i.op := IntWalk.u8_in _ (by omega)
  refine wp_region_noPanic ?_
  refine wp_region_held_drew (S := fun w' => ∀ o, w'.cell? ⟨w.heap.size, o, none⟩ = (#[Value.int .i64 i.op, .int .i64 i.d, .int .i64 i.s, .int .u16 i.imm, .int .u16 i.aux, .int .i64 i.bank, .int .i64 i.size] : Array Value)[o]?) (by kernel_rfl) hc1 (fun hHeld => ?_)
  (refine tke 0 ?_)
  (refine tke 1 ?_)
  (refine tke 2 ?_)
  (refine tke 3 ?_)
  (refine tke 4 ?_)
  (refine tke 5 ?_)
  (refine tke 6 ?_)
  (refine tke 7 ?_)
  (refine wpAnyH_ready (rs := [8]) (by kernel_rfl) (by simp) (AllReadyH.cons (o := _) rfl (fun K hK => ?_) AllReadyH.nil))
  rw [if_pos (by rfl)]
  go_simp
  refine (yH i.op o0 (by omega) _).mono ?_
  rintro e w2 ⟨rfl, hb2⟩
  have hc2 : ∀ o, w2.cell? ⟨w.heap.size, o, none⟩ = (#[Value.int .i64 i.op, .int .i64 i.d, .int .i64 i.s, .int .u16 i.imm, .int .u16 i.aux, .int .i64 i.bank, .int .i64 i.size] : Array Value)[o]? := fun o => (hb2.cell (by show w.heap.size < w1.heap.size; omega)).trans (hHeld o)
  refine hK.out _ _ hc2 (fun hHeld => ?_)
  (refine pts ?_)
  clear hc1
  have hbb : Below w.heap.size w w2 := ((((Below.refl _ _).alloc (zn _) _).trans (hb1.mono (by simp))).drew).trans (hb2.mono (by show _ ≤ w1.heap.size; omega))
  by_cases hsz : i.size = zc i.op
  ·have hsb : (i.size == zc i.op) = true := by simpa using hsz
   have hsn : (i.size != zc i.op) = false := by simpa using hsz
   have e0 : zu i = zS (zq i.op) i := by unfold zu; rw [HF.out, hsb]; rfl
   have E0 := zh e0
   clear e0 hsz
   (refine tke 9 ?_)
   (refine tke 10 ?_)
   refine wpAnyH_done (by kernel_rfl) ?_ _
   refine NoPanic.normal ?_
   go_wp2_with (first
    | (go_at_call 85; refine (rreg_any _ _).mono ?_; rintro e ww ⟨rfl, rfl⟩)
    | (go_at_call 86; refine (signed_any _ _).mono ?_; rintro e ww ⟨rfl, rfl⟩))
   all_goals
    go_ret
    refine ⟨?_, hbb⟩
    rw [E0.out, HF.out]
    show Ending.returned (Value.bool _) = _
    congr 2
    unfold zS
    first | (simp_all; done) | (simp_all; omega)
  ·have hsb : (i.size == zc i.op) = false := by simpa using hsz
   have hsn : (i.size != zc i.op) = true := by simpa using hsz
   have e0 : zu i = false := by unfold zu; rw [hsb]; simp
   have E0 := zh e0
   clear e0 hsz
   (refine tke 9 ?_)
   (refine tke 10 ?_)
   refine wpAnyH_done (by kernel_rfl) ?_ _
   refine NoPanic.normal ?_
   go_wp2
   go_ret
   exact ⟨by rw [E0.out]; rfl, hbb⟩
end Go.Proofs.YteofmaiojepdkaaGreat
