/- Valid of the reference implementation, walked: formats 6, 7, 8, 9, 10. -/
import Derived.Test.YteofmaiojepdkaaGreatSdRefC
set_option linter.all false
namespace Go.Proofs.YteofmaiojepdkaaGreat
open Go.RowKit
set_option maxRecDepth 100000 in
set_option maxHeartbeats 20000000 in
theorem rvalid_g1 (i : Ins) (hf : zf i.op = 6 ∨ zf i.op = 7 ∨ zf i.op = 8 ∨ zf i.op = 9 ∨ zf i.op = 10) (w : World) :
  Calls Tryz.prog 60 #[.agg #[.int .i64 (i).op, .int .i64 (i).d, .int .i64 (i).s, .int .u16 (i).imm, .int .u16 (i).aux, .int .i64 (i).bank, .int .i64 (i).size]] w fun e w' => e = .returned (.bool (zw i)) ∧ Below w.heap.size w w' := by
 rcases hf with hf | hf | hf | hf | hf
 all_goals
  obtain ⟨o0, o1⟩ := op_of_fmt (op := i.op) (by rw [hf]; decide)
  have HF := zh hf
  clear hf
  go_enter Tryz.func60, Tryz.ntmps60
  go_wp2_with (first
   | (go_at_call 59; refine (yg _ _).mono ?_; rintro e w1 ⟨rfl, hb1⟩; rw [HF.out]; have hz1 := hb1.size; simp at hz1))
  have hc1 : ∀ o, w1.cell? ⟨w.heap.size, o, none⟩ = (zj i)[o]? := fun o => cell_of_row w1 w.heap.size o _ _ _ ((hb1.block w.heap.size (by simp)).trans (heap_alloc_new w _))
  unfold zj vi vw at hc1
  have hwu : IntKind.u8.wrap i.op = i.op := IntWalk.u8_in _ (by omega)
  refine wp_region_noPanic ?_
  refine wp_region_held_drew (S := fun w' => ∀ o, w'.cell? ⟨w.heap.size, o, none⟩ = (#[Value.int .i64 i.op, .int .i64 i.d, .int .i64 i.s, .int .u16 i.imm, .int .u16 i.aux, .int .i64 i.bank, .int .i64 i.size] : Array Value)[o]?) (by kernel_rfl) hc1 (fun hHeld => ?_)
  (refine tk 0 (v := ?_) rfl (by assumption) ?_ ?_; rotate_left; (focus (intro w hSw; (try dsimp only at hSw); go_simp; try with_reducible rfl)); (try simp only [zA, zB, zC, Act.put, zD, zE, zF]))
  (refine tk 1 (v := ?_) rfl (by assumption) ?_ ?_; rotate_left; (focus (intro w hSw; (try dsimp only at hSw); go_simp; try with_reducible rfl)); (try simp only [zA, zB, zC, Act.put, zD, zE, zF]))
  (refine tk 2 (v := ?_) rfl (by assumption) ?_ ?_; rotate_left; (focus (intro w hSw; (try dsimp only at hSw); go_simp; try with_reducible rfl)); (try simp only [zA, zB, zC, Act.put, zD, zE, zF]))
  (refine tk 3 (v := ?_) rfl (by assumption) ?_ ?_; rotate_left; (focus (intro w hSw; (try dsimp only at hSw); go_simp; try with_reducible rfl)); (try simp only [zA, zB, zC, Act.put, zD, zE, zF]))
  (refine tk 4 (v := ?_) rfl (by assumption) ?_ ?_; rotate_left; (focus (intro w hSw; (try dsimp only at hSw); go_simp; try with_reducible rfl)); (try simp only [zA, zB, zC, Act.put, zD, zE, zF]))
  (refine tk 5 (v := ?_) rfl (by assumption) ?_ ?_; rotate_left; (focus (intro w hSw; (try dsimp only at hSw); go_simp; try with_reducible rfl)); (try simp only [zA, zB, zC, Act.put, zD, zE, zF]))
  (refine tk 6 (v := ?_) rfl (by assumption) ?_ ?_; rotate_left; (focus (intro w hSw; (try dsimp only at hSw); go_simp; try with_reducible rfl)); (try simp only [zA, zB, zC, Act.put, zD, zE, zF]))
  (refine tk 7 (v := ?_) rfl (by assumption) ?_ ?_; rotate_left; (focus (intro w hSw; (try dsimp only at hSw); go_simp; try with_reducible rfl)); (try simp only [zA, zB, zC, Act.put, zD, zE, zF]))
  (refine wpAnyH_ready (rs := [8]) (by kernel_rfl) (by simp) (AllReadyH.cons (o := _) rfl (fun K hK => ?_) AllReadyH.nil))
  rw [if_pos (by rfl)]
  go_simp
  refine (jm i.op o0 (by omega) _).mono ?_
  rintro e w2 ⟨rfl, hb2⟩
  have hc2 : ∀ o, w2.cell? ⟨w.heap.size, o, none⟩ = (#[Value.int .i64 i.op, .int .i64 i.d, .int .i64 i.s, .int .u16 i.imm, .int .u16 i.aux, .int .i64 i.bank, .int .i64 i.size] : Array Value)[o]? := fun o => (hb2.cell (by show w.heap.size < w1.heap.size; omega)).trans (hHeld o)
  refine hK.out _ _ hc2 (fun hHeld => ?_)
  (try simp only [zA, zB, zC, Act.put, zD, zE, zF])
  clear hc1
  have hbb : Below w.heap.size w w2 := ((((Below.refl _ _).alloc (zn _) _).trans (hb1.mono (by simp))).drew).trans (hb2.mono (by show _ ≤ w1.heap.size; omega))
  by_cases hsz : i.size = zd i.op
  ·have hsb : (i.size == zd i.op) = true := by simpa using hsz
   have hsn : (i.size != zd i.op) = false := by simpa using hsz
   have e0 : zw i = zT (zf i.op) i := by unfold zw; rw [HF.out, hsb]; rfl
   have E0 := zh e0
   clear e0 hsz
   (refine tk 9 (v := ?_) rfl (by assumption) ?_ ?_; rotate_left; (focus (intro w hSw; (try dsimp only at hSw); go_simp; try with_reducible rfl)); (try simp only [zA, zB, zC, Act.put, zD, zE, zF]))
   (refine tk 10 (v := ?_) rfl (by assumption) ?_ ?_; rotate_left; (focus (intro w hSw; (try dsimp only at hSw); go_simp; try with_reducible rfl)); (try simp only [zA, zB, zC, Act.put, zD, zE, zF]))
   refine wpAnyH_done (by kernel_rfl) ?_ _
   refine NoPanic.normal ?_
   go_wp2_with (first
    | (go_at_call 85; refine (rreg_any _ _).mono ?_; rintro e ww ⟨rfl, rfl⟩)
    | (go_at_call 86; refine (signed_any _ _).mono ?_; rintro e ww ⟨rfl, rfl⟩))
   all_goals
    go_ret
    refine ⟨?_, hbb⟩
    rw [E0.out, HF.out]
    show Ending.returned (Value.bool _) = _
    congr 2
    unfold zT
    first | (simp_all; done) | (simp_all; omega)
  ·have hsb : (i.size == zd i.op) = false := by simpa using hsz
   have hsn : (i.size != zd i.op) = true := by simpa using hsz
   have e0 : zw i = false := by unfold zw; rw [hsb]; simp
   have E0 := zh e0
   clear e0 hsz
   (refine tk 9 (v := ?_) rfl (by assumption) ?_ ?_; rotate_left; (focus (intro w hSw; (try dsimp only at hSw); go_simp; try with_reducible rfl)); (try simp only [zA, zB, zC, Act.put, zD, zE, zF]))
   (refine tk 10 (v := ?_) rfl (by assumption) ?_ ?_; rotate_left; (focus (intro w hSw; (try dsimp only at hSw); go_simp; try with_reducible rfl)); (try simp only [zA, zB, zC, Act.put, zD, zE, zF]))
   refine wpAnyH_done (by kernel_rfl) ?_ _
   refine NoPanic.normal ?_
   go_wp2
   go_ret
   exact ⟨by rw [E0.out]; rfl, hbb⟩
end Go.Proofs.YteofmaiojepdkaaGreat
