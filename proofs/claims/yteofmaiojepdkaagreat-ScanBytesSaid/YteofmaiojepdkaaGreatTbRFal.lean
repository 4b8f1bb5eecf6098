/- Falls of the reference: walked. Condition: the fields lie in their types' ranges. -/
import Derived.Test.YteofmaiojepdkaaGreatTbRFldB
set_option linter.all false
namespace Go.Proofs.YteofmaiojepdkaaGreat
open Go.RowKit
theorem rfalls_stop (i : Ins) (h : stopS i.op = true) (w : World) :
  Calls Tryz.prog 49 #[.agg #[.int .i64 (i).op, .int .i64 (i).d, .int .i64 (i).s, .int .u16 (i).imm, .int .u16 (i).aux, .int .i64 (i).bank, .int .i64 (i).size]] w fun e w' => e = .returned (.bool (xZ i)) ∧ Below w.heap.size w w' := by
 have e1 : xZ i = false := by unfold xZ; rw [h]; rfl
 rw [e1]
 clear e1
 unfold stopS at h
 simp only [Bool.or_eq_true, beq_iff_eq, or_assoc] at h
 obtain ⟨op, d, s, imm, aux, bank, size⟩ := i
 have HB := zh (heap_alloc_new w (.cells #[.int .i64 op, .int .i64 d, .int .i64 s, .int .u16 imm, .int .u16 aux, .int .i64 bank, .int .i64 size] 53))
 rcases h with h | h | h | h | h | h | h | h <;> subst h
 ·go_enter Tryz.func49, Tryz.ntmps49
  go_wp2_with (first
   | (refine wpList_load_row rfl _ (.tmp 1) rfl _ rfl _ _ _ _ HB.out Tryz.underlying53 rfl ?_ ?_; kernel_rfl)
   | (go_at_call 60; refine (yl ⟨1, d, s, imm, aux, bank, size⟩ _).mono ?_; rintro e w2 ⟨rfl, hb2⟩; have hc := cell_of_row w2 w.heap.size 0 _ _ _ ((hb2.block _ (by simp)).trans HB.out)))
  go_ret
  exact ⟨rfl, ((Below.refl _ _).alloc (zn _) _).trans (hb2.mono (by simp))⟩
 ·go_enter Tryz.func49, Tryz.ntmps49
  go_wp2_with (first
   | (refine wpList_load_row rfl _ (.tmp 1) rfl _ rfl _ _ _ _ HB.out Tryz.underlying53 rfl ?_ ?_; kernel_rfl)
   | (go_at_call 60; refine (yl ⟨2, d, s, imm, aux, bank, size⟩ _).mono ?_; rintro e w2 ⟨rfl, hb2⟩; have hc := cell_of_row w2 w.heap.size 0 _ _ _ ((hb2.block _ (by simp)).trans HB.out)))
  go_ret
  exact ⟨rfl, ((Below.refl _ _).alloc (zn _) _).trans (hb2.mono (by simp))⟩
 ·go_enter Tryz.func49, Tryz.ntmps49
  go_wp2_with (first
   | (refine wpList_load_row rfl _ (.tmp 1) rfl _ rfl _ _ _ _ HB.out Tryz.underlying53 rfl ?_ ?_; kernel_rfl)
   | (go_at_call 60; refine (yl ⟨3, d, s, imm, aux, bank, size⟩ _).mono ?_; rintro e w2 ⟨rfl, hb2⟩; have hc := cell_of_row w2 w.heap.size 0 _ _ _ ((hb2.block _ (by simp)).trans HB.out)))
  go_ret
  exact ⟨rfl, ((Below.refl _ _).alloc (zn _) _).trans (hb2.mono (by simp))⟩
 ·go_enter Tryz.func49, Tryz.ntmps49
  go_wp2_with (first
   | (refine wpList_load_row rfl _ (.tmp 1) rfl _ rfl _ _ _ _ HB.out Tryz.underlying53 rfl ?_ ?_; kernel_rfl)
   | (go_at_call 60; refine (yl ⟨128, d, s, imm, aux, bank, size⟩ _).mono ?_; rintro e w2 ⟨rfl, hb2⟩; have hc := cell_of_row w2 w.heap.size 0 _ _ _ ((hb2.block _ (by simp)).trans HB.out)))
  go_ret
  exact ⟨rfl, ((Below.refl _ _).alloc (zn _) _).trans (hb2.mono (by simp))⟩
 ·go_enter Tryz.func49, Tryz.ntmps49
  go_wp2_with (first
   | (refine wpList_load_row rfl _ (.tmp 1) rfl _ rfl _ _ _ _ HB.out Tryz.underlying53 rfl ?_ ?_; kernel_rfl)
   | (go_at_call 60; refine (yl ⟨129, d, s, imm, aux, bank, size⟩ _).mono ?_; rintro e w2 ⟨rfl, hb2⟩; have hc := cell_of_row w2 w.heap.size 0 _ _ _ ((hb2.block _ (by simp)).trans HB.out)))
  go_ret
  exact ⟨rfl, ((Below.refl _ _).alloc (zn _) _).trans (hb2.mono (by simp))⟩
 ·go_enter Tryz.func49, Tryz.ntmps49
  go_wp2_with (first
   | (refine wpList_load_row rfl _ (.tmp 1) rfl _ rfl _ _ _ _ HB.out Tryz.underlying53 rfl ?_ ?_; kernel_rfl)
   | (go_at_call 60; refine (yl ⟨131, d, s, imm, aux, bank, size⟩ _).mono ?_; rintro e w2 ⟨rfl, hb2⟩; have hc := cell_of_row w2 w.heap.size 0 _ _ _ ((hb2.block _ (by simp)).trans HB.out)))
  go_ret
  exact ⟨rfl, ((Below.refl _ _).alloc (zn _) _).trans (hb2.mono (by simp))⟩
 ·go_enter Tryz.func49, Tryz.ntmps49
  go_wp2_with (first
   | (refine wpList_load_row rfl _ (.tmp 1) rfl _ rfl _ _ _ _ HB.out Tryz.underlying53 rfl ?_ ?_; kernel_rfl)
   | (go_at_call 60; refine (yl ⟨133, d, s, imm, aux, bank, size⟩ _).mono ?_; rintro e w2 ⟨rfl, hb2⟩; have hc := cell_of_row w2 w.heap.size 0 _ _ _ ((hb2.block _ (by simp)).trans HB.out)))
  go_ret
  exact ⟨rfl, ((Below.refl _ _).alloc (zn _) _).trans (hb2.mono (by simp))⟩
 ·go_enter Tryz.func49, Tryz.ntmps49
  go_wp2_with (first
   | (refine wpList_load_row rfl _ (.tmp 1) rfl _ rfl _ _ _ _ HB.out Tryz.underlying53 rfl ?_ ?_; kernel_rfl)
   | (go_at_call 60; refine (yl ⟨134, d, s, imm, aux, bank, size⟩ _).mono ?_; rintro e w2 ⟨rfl, hb2⟩; have hc := cell_of_row w2 w.heap.size 0 _ _ _ ((hb2.block _ (by simp)).trans HB.out)))
  go_ret
  exact ⟨rfl, ((Below.refl _ _).alloc (zn _) _).trans (hb2.mono (by simp))⟩
theorem rfalls_any (i : Ins) (hi : i.Ok) (w : World) :
  Calls Tryz.prog 49 #[.agg #[.int .i64 (i).op, .int .i64 (i).d, .int .i64 (i).s, .int .u16 (i).imm, .int .u16 (i).aux, .int .i64 (i).bank, .int .i64 (i).size]] w fun e w' => e = .returned (.bool (xZ i)) ∧ Below w.heap.size w w' := by
 cases h : stopS i.op with
 | true => exact rfalls_stop i h w
 | false =>
  have e1 : xZ i = zu i := by unfold xZ; rw [h, y3 i hi]; rfl
  rw [e1]
  clear e1
  unfold stopS at h
  simp only [Bool.or_eq_false_iff, beq_eq_false_iff_ne, and_assoc] at h
  obtain ⟨h1, h2, h3, h4, h5, h6, h7, h8⟩ := h
  have HB := zh (heap_alloc_new w (.cells #[.int .i64 i.op, .int .i64 i.d, .int .i64 i.s, .int .u16 i.imm, .int .u16 i.aux, .int .i64 i.bank, .int .i64 i.size] 53))
  go_enter Tryz.func49, Tryz.ntmps49
  go_wp2_with (first
   | (refine wpList_load_row rfl _ (.tmp 1) rfl _ rfl _ _ _ _ HB.out Tryz.underlying53 rfl ?_ ?_; kernel_rfl)
   | (go_at_call 60; refine (yl i _).mono ?_; rintro e w2 ⟨rfl, hb2⟩; have hc := cell_of_row w2 w.heap.size 0 _ _ _ ((hb2.block _ (by simp)).trans HB.out)))
  go_ret
  exact ⟨rfl, ((Below.refl _ _).alloc (zn _) _).trans (hb2.mono (by simp))⟩
end Go.Proofs.YteofmaiojepdkaaGreat
