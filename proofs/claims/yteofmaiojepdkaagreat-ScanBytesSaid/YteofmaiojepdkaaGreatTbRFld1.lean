/- fields of the reference, walked: formats 18, 6, 9, 14, 7. -/
import Derived.Test.YteofmaiojepdkaaGreatTbShS
set_option linter.all false
namespace Go.Proofs.YteofmaiojepdkaaGreat
open Go.RowKit
set_option maxRecDepth 100000 in
set_option maxHeartbeats 20000000 in
theorem rfields_g1 (s : ByteArray) (hf : (zq (byt s 0) = 18 ∧ 3 ≤ s.size) ∨ (zq (byt s 0) = 6 ∧ 4 ≤ s.size) ∨ (zq (byt s 0) = 9 ∧ 4 ≤ s.size) ∨ (zq (byt s 0) = 14 ∧ 4 ≤ s.size) ∨ (zq (byt s 0) = 7 ∧ 3 ≤ s.size)) (hm : s.size ≤ 9223372036854775807) (w : World) :
  Calls Tryz.prog 84 #[.string s] w fun e w' => e = .returned (.agg (ze (rdF (zq (byt s 0)) (byt s) (byt s 0) (zc (byt s 0))))) ∧ Below w.heap.size w w' := by
 have ix : ∀ W, (Instr.index 9 (.string s) (.int .i64 0)).run Tryz.prog W = .ok (.int .u8 (byt s 0)) W := zl s 0 (by omega)
 obtain ⟨b0, b1⟩ := zL s 0
 have hw0 : IntKind.i64.wrap (byt s 0) = byt s 0 := IntWalk.i64_in _ (by omega)
 have HF := zh hf
 clear hf
 go_enter Tryz.func84, Tryz.ntmps84
 go_upto_region 1 with (fail)
 go_cut [3] (fun s3 wx => RFCut s w s3 wx)
 case first =>
  clear HF
  refine wp_region_noPanic ?_
  refine wp_region_held_drew (S := fun w' => True) (by kernel_rfl) trivial (fun hHeld => ?_)
  (refine tke 0 ?_)
  (refine tke 3 ?_)
  (refine tke 1 ?_)
  (refine tke 4 ?_)
  (refine tke 2 ?_)
  (refine wpAnyH_ready (rs := [5, 7]) (by kernel_rfl) (by simp) (AllReadyH.cons (o := _) rfl (fun K hK => ?_) (AllReadyH.cons (o := _) rfl (fun K hK => ?_) AllReadyH.nil)))
  ·rw [if_pos (by rfl)]
   go_simp
   refine (yH _ b0 b1 _).mono ?_
   rintro e w1 ⟨rfl, hb1⟩
   have hz := hb1.size
   simp at hz
   refine hK.out _ _ trivial (fun hHeld => ?_)
   (refine pts ?_)
   (refine tke 6 ?_)
   (refine wpAnyH_ready (rs := [7]) (by kernel_rfl) (by simp) (AllReadyH.cons (o := _) rfl (fun K hK => ?_) AllReadyH.nil))
   rw [if_pos (by rfl)]
   go_simp
   refine hK.out _ _ trivial (fun hHeld => ?_)
   (refine pts ?_)
   (refine wpAnyH_ready (rs := [8]) (by kernel_rfl) (by simp) (AllReadyH.cons (o := _) rfl (fun K hK => ?_) AllReadyH.nil))
   rw [if_pos (by rfl)]
   go_simp
   refine hK.out _ _ trivial (fun hHeld => wpAnyH_done (by kernel_rfl) ?_ _)
   (refine pts ?_)
   refine NoPanic.normal ?_
   go_wp2_with fail
   go_meet
   exact RFCut.mk' rfl (heap_alloc_new _ _) (by omega) (by simp) (((Below.refl _ _).drew.trans (hb1.mono (by simp))).alloc (by omega) _)
  ·rw [if_pos (by rfl)]
   go_simp
   refine hK.out _ _ trivial (fun hHeld => ?_)
   (refine pts ?_)
   (refine wpAnyH_ready (rs := [5]) (by kernel_rfl) (by simp) (AllReadyH.cons (o := _) rfl (fun K hK => ?_) AllReadyH.nil))
   rw [if_pos (by rfl)]
   go_simp
   refine (yH _ b0 b1 _).mono ?_
   rintro e w1 ⟨rfl, hb1⟩
   have hz := hb1.size
   simp at hz
   have hg1 : w1.heap[w.heap.size + 1]? = some (.cells #[Value.int .i64 0, .int .i64 0, .int .i64 0, .int .u16 0, .int .u16 0, .int .i64 0, .int .i64 0] 53 (0, 0)) := (hb1.block (w.heap.size + 1) (by simp <;> omega)).trans (news_row _ _ (by simp))
   refine hK.out _ _ trivial (fun hHeld => ?_)
   (refine pts ?_)
   (refine tke 6 ?_)
   (refine wpAnyH_ready (rs := [8]) (by kernel_rfl) (by simp) (AllReadyH.cons (o := _) rfl (fun K hK => ?_) AllReadyH.nil))
   rw [if_pos (by rfl)]
   refine wp_store_row _ _ _ rfl (w.heap.size + 1) _ rfl rfl _ _ hg1 ?_ ?_ ?_ ?_
   ·kernel_rfl
   ·rfl
   ·kernel_rfl
   refine hK.out _ _ trivial (fun hHeld => wpAnyH_done (by kernel_rfl) ?_ _)
   (refine pts ?_)
   refine NoPanic.normal ?_
   go_wp2_with fail
   go_meet
   exact RFCut.mk' rfl (setRow_heap _ _ _ _ _ _ hg1) (by omega) (by simp <;> omega) (below_setRow (((Below.refl _ _).alloc (by simp) _).drew.trans (hb1.mono (by simp))) (zn _) _)
 case rest =>
  obtain ⟨g, rfl, hg, hr, hlt, hlt2, hb⟩ := hcut
  have hq := cell_of_row wc g 0 _ _ _ hg
  have RR := zh hg
  have SS := zh hr
  have TT := zh hb
  clear hg hr hb
  have hf := HF.out
  clear HF
  rcases hf with ⟨hf, hs⟩ | ⟨hf, hs⟩ | ⟨hf, hs⟩ | ⟨hf, hs⟩ | ⟨hf, hs⟩
  all_goals
   have HF := zh hf
   clear hf
   go_upto_region 3 with (first
    | (go_at_call 59; refine (xo _ _).mono ?_; rintro e w3 ⟨rfl, hb3⟩; rw [HF.out]; have hz3 := hb3.size; replace RR := zh ((hb3.block g hlt2).trans RR.out); replace SS := zh ((hb3.block w.heap.size (by omega)).trans SS.out); replace TT := zh (TT.out.trans (hb3.mono TT.out.size)); clear hb3 hq))
   have hlt3 : g < w3.heap.size := by omega
   have hne : w.heap.size ≠ g := by omega
   have hle : w.heap.size ≤ g := by omega
   clear hz3 hlt2
   have hcz : ∀ j, w3.cell? ⟨g, j, none⟩ = (#[Value.int .i64 (byt s 0), .int .i64 0, .int .i64 0, .int .u16 0, .int .u16 0, .int .i64 0, .int .i64 (zc (byt s 0))] : Array Value)[j]? := fun j => cell_of_row w3 g j _ _ _ RR.out
   have hfz : ∀ j, w3.frozen? ⟨g, j, none⟩ = false := fun j => frozen_of_row w3 g j _ _ RR.out
  ·have ix1 : ∀ W, (Instr.index 9 (.string s) (.int .i64 1)).run Tryz.prog W = .ok (.int .u8 (byt s 1)) W := zl s 1 (by omega)
   obtain ⟨c1, d1⟩ := zL s 1
   have ix2 : ∀ W, (Instr.index 9 (.string s) (.int .i64 2)).run Tryz.prog W = .ok (.int .u8 (byt s 2)) W := zl s 2 (by omega)
   obtain ⟨c2, d2⟩ := zL s 2
   have hx1 : IntKind.i64.wrap (byt s 1) = byt s 1 := IntWalk.i64_in _ (by omega)
   have hy1 : IntKind.u16.wrap (byt s 1) = byt s 1 := IntWalk.u16_in _ (by omega)
   have hx2 : IntKind.i64.wrap (byt s 2) = byt s 2 := IntWalk.i64_in _ (by omega)
   have hy2 : IntKind.u16.wrap (byt s 2) = byt s 2 := IntWalk.u16_in _ (by omega)
   go_upto_region 52 with (first | (go_at_call 114; refine (zN _ (by omega) (by omega) _).mono ?_; rintro e ww ⟨rfl, rfl⟩))
   have r0 := RR.out
   have s0 := SS.out
   have t0 := TT.out
   have r1 := heap_setCell_same _ g 1 _ _ (.int .i64 (byt s 1)) r0
   have s1 := (heap_setCell_other _ ⟨g, 1, none⟩ w.heap.size (.int .i64 (byt s 1)) hne).trans s0
   have t1 := t0.setCell (p := ⟨g, 1, none⟩) hle (.int .i64 (byt s 1))
   have r2 := heap_setCell_same _ g 3 _ _ (.int .u16 (zH (byt s 2))) r1
   have s2 := (heap_setCell_other _ ⟨g, 3, none⟩ w.heap.size (.int .u16 (zH (byt s 2))) hne).trans s1
   have t2 := t1.setCell (p := ⟨g, 3, none⟩) hle (.int .u16 (zH (byt s 2)))
   have rr : _ = some (Obj.cells #[.int .i64 (byt s 0), .int .i64 (byt s 1), .int .i64 0, .int .u16 (zH (byt s 2)), .int .u16 0, .int .i64 0, .int .i64 (zc (byt s 0))] 53 (0, 0)) := r2
   replace RR := zh rr
   replace SS := zh s2
   replace TT := zh t2
   clear rr r0 s0 t0 r1 s1 t1 r2 s2 t2
   go_wp2_with (first
    | (refine wpList_load_row rfl _ (.tmp 3) rfl _ rfl _ #[.int .i64 (byt s 0), .int .i64 (byt s 1), .int .i64 0, .int .u16 (zH (byt s 2)), .int .u16 0, .int .i64 0, .int .i64 (zc (byt s 0))] _ _ RR.out Tryz.underlying53 rfl ?_ ?_; kernel_rfl)
    | (refine wpList_store_row rfl _ (.tmp 2) _ rfl _ #[.int .i64 (byt s 0), .int .i64 (byt s 1), .int .i64 0, .int .u16 (zH (byt s 2)), .int .u16 0, .int .i64 0, .int .i64 (zc (byt s 0))] rfl rfl _ _ SS.out ?_ ?_ ?_ ?_; kernel_rfl; rfl; kernel_rfl))
   refine bodyPost_ret (results_cell_row (cs := #[.int .i64 (byt s 0), .int .i64 (byt s 1), .int .i64 0, .int .u16 (zH (byt s 2)), .int .u16 0, .int .i64 0, .int .i64 (zc (byt s 0))]) (fr := (0, 0)) rfl _ _ w.heap.size 53 _ rfl (setRow_heap _ _ _ _ _ _ SS.out) (Tryz.underlying53) rfl (by kernel_rfl)) rfl ⟨?_, below_setRow TT.out (zn _) _⟩
   rw [HF.out]
   first | rfl | simp [rdF, ze, vi, vw]
  ·have ix1 : ∀ W, (Instr.index 9 (.string s) (.int .i64 1)).run Tryz.prog W = .ok (.int .u8 (byt s 1)) W := zl s 1 (by omega)
   obtain ⟨c1, d1⟩ := zL s 1
   have ix2 : ∀ W, (Instr.index 9 (.string s) (.int .i64 2)).run Tryz.prog W = .ok (.int .u8 (byt s 2)) W := zl s 2 (by omega)
   obtain ⟨c2, d2⟩ := zL s 2
   have ix3 : ∀ W, (Instr.index 9 (.string s) (.int .i64 3)).run Tryz.prog W = .ok (.int .u8 (byt s 3)) W := zl s 3 (by omega)
   obtain ⟨c3, d3⟩ := zL s 3
   have hx1 : IntKind.i64.wrap (byt s 1) = byt s 1 := IntWalk.i64_in _ (by omega)
   have hy1 : IntKind.u16.wrap (byt s 1) = byt s 1 := IntWalk.u16_in _ (by omega)
   have hx2 : IntKind.i64.wrap (byt s 2) = byt s 2 := IntWalk.i64_in _ (by omega)
   have hy2 : IntKind.u16.wrap (byt s 2) = byt s 2 := IntWalk.u16_in _ (by omega)
   go_upto_region 39 with (first | (go_at_call 114; refine (zN _ (by omega) (by omega) _).mono ?_; rintro e ww ⟨rfl, rfl⟩))
   have r0 := RR.out
   have s0 := SS.out
   have t0 := TT.out
   have r1 := heap_setCell_same _ g 1 _ _ (.int .i64 (byt s 1)) r0
   have s1 := (heap_setCell_other _ ⟨g, 1, none⟩ w.heap.size (.int .i64 (byt s 1)) hne).trans s0
   have t1 := t0.setCell (p := ⟨g, 1, none⟩) hle (.int .i64 (byt s 1))
   have rr : _ = some (Obj.cells #[.int .i64 (byt s 0), .int .i64 (byt s 1), .int .i64 0, .int .u16 0, .int .u16 0, .int .i64 0, .int .i64 (zc (byt s 0))] 53 (0, 0)) := r1
   replace RR := zh rr
   replace SS := zh s1
   replace TT := zh t1
   clear rr r0 s0 t0 r1 s1 t1
   go_wp2_with fail
   refine (xv s 2 (by omega) hm _ rfl _).mono ?_
   rintro e w4 ⟨rfl, hb4⟩
   replace RR := zh ((hb4.block g (by first | omega | (simp <;> omega))).trans RR.out)
   replace SS := zh ((hb4.block w.heap.size (by first | omega | (simp <;> omega))).trans SS.out)
   replace TT := zh (TT.out.trans (hb4.mono TT.out.size))
   have hlt4 : g < w4.heap.size := Nat.lt_of_lt_of_le (by first | omega | (simp <;> omega)) hb4.size
   clear hb4 hcz hfz
   have hcz : ∀ j, w4.cell? ⟨g, j, none⟩ = (#[.int .i64 (byt s 0), .int .i64 (byt s 1), .int .i64 0, .int .u16 0, .int .u16 0, .int .i64 0, .int .i64 (zc (byt s 0))] : Array Value)[j]? := fun j => cell_of_row w4 g j _ _ _ RR.out
   have hfz : ∀ j, w4.frozen? ⟨g, j, none⟩ = false := fun j => frozen_of_row w4 g j _ _ RR.out
   go_upto_region 52 with (first | (go_at_call 114; refine (zN _ (by omega) (by omega) _).mono ?_; rintro e ww ⟨rfl, rfl⟩))
   have r0 := RR.out
   have s0 := SS.out
   have t0 := TT.out
   have r1 := heap_setCell_same _ g 3 _ _ (.int .u16 (byt s 2 + 256 * byt s 3)) r0
   have s1 := (heap_setCell_other _ ⟨g, 3, none⟩ w.heap.size (.int .u16 (byt s 2 + 256 * byt s 3)) hne).trans s0
   have t1 := t0.setCell (p := ⟨g, 3, none⟩) hle (.int .u16 (byt s 2 + 256 * byt s 3))
   have rr : _ = some (Obj.cells #[.int .i64 (byt s 0), .int .i64 (byt s 1), .int .i64 0, .int .u16 (byt s 2 + 256 * byt s 3), .int .u16 0, .int .i64 0, .int .i64 (zc (byt s 0))] 53 (0, 0)) := r1
   replace RR := zh rr
   replace SS := zh s1
   replace TT := zh t1
   clear rr r0 s0 t0 r1 s1 t1
   go_wp2_with (first
    | (refine wpList_load_row rfl _ (.tmp 3) rfl _ rfl _ #[.int .i64 (byt s 0), .int .i64 (byt s 1), .int .i64 0, .int .u16 (byt s 2 + 256 * byt s 3), .int .u16 0, .int .i64 0, .int .i64 (zc (byt s 0))] _ _ RR.out Tryz.underlying53 rfl ?_ ?_; kernel_rfl)
    | (refine wpList_store_row rfl _ (.tmp 2) _ rfl _ #[.int .i64 (byt s 0), .int .i64 (byt s 1), .int .i64 0, .int .u16 (byt s 2 + 256 * byt s 3), .int .u16 0, .int .i64 0, .int .i64 (zc (byt s 0))] rfl rfl _ _ SS.out ?_ ?_ ?_ ?_; kernel_rfl; rfl; kernel_rfl))
   refine bodyPost_ret (results_cell_row (cs := #[.int .i64 (byt s 0), .int .i64 (byt s 1), .int .i64 0, .int .u16 (byt s 2 + 256 * byt s 3), .int .u16 0, .int .i64 0, .int .i64 (zc (byt s 0))]) (fr := (0, 0)) rfl _ _ w.heap.size 53 _ rfl (setRow_heap _ _ _ _ _ _ SS.out) (Tryz.underlying53) rfl (by kernel_rfl)) rfl ⟨?_, below_setRow TT.out (zn _) _⟩
   rw [HF.out]
   first | rfl | simp [rdF, ze, vi, vw]
  ·have ix1 : ∀ W, (Instr.index 9 (.string s) (.int .i64 1)).run Tryz.prog W = .ok (.int .u8 (byt s 1)) W := zl s 1 (by omega)
   obtain ⟨c1, d1⟩ := zL s 1
   have ix2 : ∀ W, (Instr.index 9 (.string s) (.int .i64 2)).run Tryz.prog W = .ok (.int .u8 (byt s 2)) W := zl s 2 (by omega)
   obtain ⟨c2, d2⟩ := zL s 2
   have ix3 : ∀ W, (Instr.index 9 (.string s) (.int .i64 3)).run Tryz.prog W = .ok (.int .u8 (byt s 3)) W := zl s 3 (by omega)
   obtain ⟨c3, d3⟩ := zL s 3
   have hx1 : IntKind.i64.wrap (byt s 1) = byt s 1 := IntWalk.i64_in _ (by omega)
   have hy1 : IntKind.u16.wrap (byt s 1) = byt s 1 := IntWalk.u16_in _ (by omega)
   have hx2 : IntKind.i64.wrap (byt s 2) = byt s 2 := IntWalk.i64_in _ (by omega)
   have hy2 : IntKind.u16.wrap (byt s 2) = byt s 2 := IntWalk.u16_in _ (by omega)
   go_upto_region 39 with (first | (go_at_call 114; refine (zN _ (by omega) (by omega) _).mono ?_; rintro e ww ⟨rfl, rfl⟩))
   have r0 := RR.out
   have s0 := SS.out
   have t0 := TT.out
   have r1 := heap_setCell_same _ g 1 _ _ (.int .i64 (byt s 1)) r0
   have s1 := (heap_setCell_other _ ⟨g, 1, none⟩ w.heap.size (.int .i64 (byt s 1)) hne).trans s0
   have t1 := t0.setCell (p := ⟨g, 1, none⟩) hle (.int .i64 (byt s 1))
   have rr : _ = some (Obj.cells #[.int .i64 (byt s 0), .int .i64 (byt s 1), .int .i64 0, .int .u16 0, .int .u16 0, .int .i64 0, .int .i64 (zc (byt s 0))] 53 (0, 0)) := r1
   replace RR := zh rr
   replace SS := zh s1
   replace TT := zh t1
   clear rr r0 s0 t0 r1 s1 t1
   go_wp2_with fail
   refine (xv s 2 (by omega) hm _ rfl _).mono ?_
   rintro e w4 ⟨rfl, hb4⟩
   replace RR := zh ((hb4.block g (by first | omega | (simp <;> omega))).trans RR.out)
   replace SS := zh ((hb4.block w.heap.size (by first | omega | (simp <;> omega))).trans SS.out)
   replace TT := zh (TT.out.trans (hb4.mono TT.out.size))
   have hlt4 : g < w4.heap.size := Nat.lt_of_lt_of_le (by first | omega | (simp <;> omega)) hb4.size
   clear hb4 hcz hfz
   have hcz : ∀ j, w4.cell? ⟨g, j, none⟩ = (#[.int .i64 (byt s 0), .int .i64 (byt s 1), .int .i64 0, .int .u16 0, .int .u16 0, .int .i64 0, .int .i64 (zc (byt s 0))] : Array Value)[j]? := fun j => cell_of_row w4 g j _ _ _ RR.out
   have hfz : ∀ j, w4.frozen? ⟨g, j, none⟩ = false := fun j => frozen_of_row w4 g j _ _ RR.out
   go_upto_region 52 with (first | (go_at_call 114; refine (zN _ (by omega) (by omega) _).mono ?_; rintro e ww ⟨rfl, rfl⟩))
   have r0 := RR.out
   have s0 := SS.out
   have t0 := TT.out
   have r1 := heap_setCell_same _ g 3 _ _ (.int .u16 (byt s 2 + 256 * byt s 3)) r0
   have s1 := (heap_setCell_other _ ⟨g, 3, none⟩ w.heap.size (.int .u16 (byt s 2 + 256 * byt s 3)) hne).trans s0
   have t1 := t0.setCell (p := ⟨g, 3, none⟩) hle (.int .u16 (byt s 2 + 256 * byt s 3))
   have rr : _ = some (Obj.cells #[.int .i64 (byt s 0), .int .i64 (byt s 1), .int .i64 0, .int .u16 (byt s 2 + 256 * byt s 3), .int .u16 0, .int .i64 0, .int .i64 (zc (byt s 0))] 53 (0, 0)) := r1
   replace RR := zh rr
   replace SS := zh s1
   replace TT := zh t1
   clear rr r0 s0 t0 r1 s1 t1
   go_wp2_with (first
    | (refine wpList_load_row rfl _ (.tmp 3) rfl _ rfl _ #[.int .i64 (byt s 0), .int .i64 (byt s 1), .int .i64 0, .int .u16 (byt s 2 + 256 * byt s 3), .int .u16 0, .int .i64 0, .int .i64 (zc (byt s 0))] _ _ RR.out Tryz.underlying53 rfl ?_ ?_; kernel_rfl)
    | (refine wpList_store_row rfl _ (.tmp 2) _ rfl _ #[.int .i64 (byt s 0), .int .i64 (byt s 1), .int .i64 0, .int .u16 (byt s 2 + 256 * byt s 3), .int .u16 0, .int .i64 0, .int .i64 (zc (byt s 0))] rfl rfl _ _ SS.out ?_ ?_ ?_ ?_; kernel_rfl; rfl; kernel_rfl))
   refine bodyPost_ret (results_cell_row (cs := #[.int .i64 (byt s 0), .int .i64 (byt s 1), .int .i64 0, .int .u16 (byt s 2 + 256 * byt s 3), .int .u16 0, .int .i64 0, .int .i64 (zc (byt s 0))]) (fr := (0, 0)) rfl _ _ w.heap.size 53 _ rfl (setRow_heap _ _ _ _ _ _ SS.out) (Tryz.underlying53) rfl (by kernel_rfl)) rfl ⟨?_, below_setRow TT.out (zn _) _⟩
   rw [HF.out]
   first | rfl | simp [rdF, ze, vi, vw]
  ·have ix1 : ∀ W, (Instr.index 9 (.string s) (.int .i64 1)).run Tryz.prog W = .ok (.int .u8 (byt s 1)) W := zl s 1 (by omega)
   obtain ⟨c1, d1⟩ := zL s 1
   have ix2 : ∀ W, (Instr.index 9 (.string s) (.int .i64 2)).run Tryz.prog W = .ok (.int .u8 (byt s 2)) W := zl s 2 (by omega)
   obtain ⟨c2, d2⟩ := zL s 2
   have ix3 : ∀ W, (Instr.index 9 (.string s) (.int .i64 3)).run Tryz.prog W = .ok (.int .u8 (byt s 3)) W := zl s 3 (by omega)
   obtain ⟨c3, d3⟩ := zL s 3
   have hx1 : IntKind.i64.wrap (byt s 1) = byt s 1 := IntWalk.i64_in _ (by omega)
   have hy1 : IntKind.u16.wrap (byt s 1) = byt s 1 := IntWalk.u16_in _ (by omega)
   have hx2 : IntKind.i64.wrap (byt s 2) = byt s 2 := IntWalk.i64_in _ (by omega)
   have hy2 : IntKind.u16.wrap (byt s 2) = byt s 2 := IntWalk.u16_in _ (by omega)
   go_upto_region 39 with (first | (go_at_call 114; refine (zN _ (by omega) (by omega) _).mono ?_; rintro e ww ⟨rfl, rfl⟩))
   have r0 := RR.out
   have s0 := SS.out
   have t0 := TT.out
   have r1 := heap_setCell_same _ g 1 _ _ (.int .i64 (byt s 1)) r0
   have s1 := (heap_setCell_other _ ⟨g, 1, none⟩ w.heap.size (.int .i64 (byt s 1)) hne).trans s0
   have t1 := t0.setCell (p := ⟨g, 1, none⟩) hle (.int .i64 (byt s 1))
   have rr : _ = some (Obj.cells #[.int .i64 (byt s 0), .int .i64 (byt s 1), .int .i64 0, .int .u16 0, .int .u16 0, .int .i64 0, .int .i64 (zc (byt s 0))] 53 (0, 0)) := r1
   replace RR := zh rr
   replace SS := zh s1
   replace TT := zh t1
   clear rr r0 s0 t0 r1 s1 t1
   go_wp2_with fail
   refine (xv s 2 (by omega) hm _ rfl _).mono ?_
   rintro e w4 ⟨rfl, hb4⟩
   replace RR := zh ((hb4.block g (by first | omega | (simp <;> omega))).trans RR.out)
   replace SS := zh ((hb4.block w.heap.size (by first | omega | (simp <;> omega))).trans SS.out)
   replace TT := zh (TT.out.trans (hb4.mono TT.out.size))
   have hlt4 : g < w4.heap.size := Nat.lt_of_lt_of_le (by first | omega | (simp <;> omega)) hb4.size
   clear hb4 hcz hfz
   have hcz : ∀ j, w4.cell? ⟨g, j, none⟩ = (#[.int .i64 (byt s 0), .int .i64 (byt s 1), .int .i64 0, .int .u16 0, .int .u16 0, .int .i64 0, .int .i64 (zc (byt s 0))] : Array Value)[j]? := fun j => cell_of_row w4 g j _ _ _ RR.out
   have hfz : ∀ j, w4.frozen? ⟨g, j, none⟩ = false := fun j => frozen_of_row w4 g j _ _ RR.out
   go_upto_region 52 with (first | (go_at_call 114; refine (zN _ (by omega) (by omega) _).mono ?_; rintro e ww ⟨rfl, rfl⟩))
   have r0 := RR.out
   have s0 := SS.out
   have t0 := TT.out
   have r1 := heap_setCell_same _ g 3 _ _ (.int .u16 (byt s 2 + 256 * byt s 3)) r0
   have s1 := (heap_setCell_other _ ⟨g, 3, none⟩ w.heap.size (.int .u16 (byt s 2 + 256 * byt s 3)) hne).trans s0
   have t1 := t0.setCell (p := ⟨g, 3, none⟩) hle (.int .u16 (byt s 2 + 256 * byt s 3))
   have rr : _ = some (Obj.cells #[.int .i64 (byt s 0), .int .i64 (byt s 1), .int .i64 0, .int .u16 (byt s 2 + 256 * byt s 3), .int .u16 0, .int .i64 0, .int .i64 (zc (byt s 0))] 53 (0, 0)) := r1
   replace RR := zh rr
   replace SS := zh s1
   replace TT := zh t1
   clear rr r0 s0 t0 r1 s1 t1
   go_wp2_with (first
    | (refine wpList_load_row rfl _ (.tmp 3) rfl _ rfl _ #[.int .i64 (byt s 0), .int .i64 (byt s 1), .int .i64 0, .int .u16 (byt s 2 + 256 * byt s 3), .int .u16 0, .int .i64 0, .int .i64 (zc (byt s 0))] _ _ RR.out Tryz.underlying53 rfl ?_ ?_; kernel_rfl)
    | (refine wpList_store_row rfl _ (.tmp 2) _ rfl _ #[.int .i64 (byt s 0), .int .i64 (byt s 1), .int .i64 0, .int .u16 (byt s 2 + 256 * byt s 3), .int .u16 0, .int .i64 0, .int .i64 (zc (byt s 0))] rfl rfl _ _ SS.out ?_ ?_ ?_ ?_; kernel_rfl; rfl; kernel_rfl))
   refine bodyPost_ret (results_cell_row (cs := #[.int .i64 (byt s 0), .int .i64 (byt s 1), .int .i64 0, .int .u16 (byt s 2 + 256 * byt s 3), .int .u16 0, .int .i64 0, .int .i64 (zc (byt s 0))]) (fr := (0, 0)) rfl _ _ w.heap.size 53 _ rfl (setRow_heap _ _ _ _ _ _ SS.out) (Tryz.underlying53) rfl (by kernel_rfl)) rfl ⟨?_, below_setRow TT.out (zn _) _⟩
   rw [HF.out]
   first | rfl | simp [rdF, ze, vi, vw]
  ·have ix1 : ∀ W, (Instr.index 9 (.string s) (.int .i64 1)).run Tryz.prog W = .ok (.int .u8 (byt s 1)) W := zl s 1 (by omega)
   obtain ⟨c1, d1⟩ := zL s 1
   have ix2 : ∀ W, (Instr.index 9 (.string s) (.int .i64 2)).run Tryz.prog W = .ok (.int .u8 (byt s 2)) W := zl s 2 (by omega)
   obtain ⟨c2, d2⟩ := zL s 2
   have hx1 : IntKind.i64.wrap (byt s 1) = byt s 1 := IntWalk.i64_in _ (by omega)
   have hy1 : IntKind.u16.wrap (byt s 1) = byt s 1 := IntWalk.u16_in _ (by omega)
   have hx2 : IntKind.i64.wrap (byt s 2) = byt s 2 := IntWalk.i64_in _ (by omega)
   have hy2 : IntKind.u16.wrap (byt s 2) = byt s 2 := IntWalk.u16_in _ (by omega)
   have hx9 : (byt s 1).tdiv 16 = byt s 1 / 16 := Int.tdiv_eq_ediv_of_nonneg (by omega)
   have hxa : IntKind.u8.wrap (byt s 1 / 16) = byt s 1 / 16 := IntWalk.u8_in _ (by omega)
   have hx7 : IntKind.i64.wrap (byt s 1 / 16) = byt s 1 / 16 := IntWalk.i64_in _ (by omega)
   have hx8 : IntKind.i64.wrap (byt s 1 % 16) = byt s 1 % 16 := IntWalk.i64_in _ (by omega)
   go_upto_region 52 with (first | (go_at_call 114; refine (zN _ (by omega) (by omega) _).mono ?_; rintro e ww ⟨rfl, rfl⟩))
   have r0 := RR.out
   have s0 := SS.out
   have t0 := TT.out
   have r1 := heap_setCell_same _ g 1 _ _ (.int .i64 (byt s 1 / 16)) r0
   have s1 := (heap_setCell_other _ ⟨g, 1, none⟩ w.heap.size (.int .i64 (byt s 1 / 16)) hne).trans s0
   have t1 := t0.setCell (p := ⟨g, 1, none⟩) hle (.int .i64 (byt s 1 / 16))
   have r2 := heap_setCell_same _ g 2 _ _ (.int .i64 (byt s 1 % 16)) r1
   have s2 := (heap_setCell_other _ ⟨g, 2, none⟩ w.heap.size (.int .i64 (byt s 1 % 16)) hne).trans s1
   have t2 := t1.setCell (p := ⟨g, 2, none⟩) hle (.int .i64 (byt s 1 % 16))
   have r3 := heap_setCell_same _ g 3 _ _ (.int .u16 (zH (byt s 2))) r2
   have s3 := (heap_setCell_other _ ⟨g, 3, none⟩ w.heap.size (.int .u16 (zH (byt s 2))) hne).trans s2
   have t3 := t2.setCell (p := ⟨g, 3, none⟩) hle (.int .u16 (zH (byt s 2)))
   have rr : _ = some (Obj.cells #[.int .i64 (byt s 0), .int .i64 (byt s 1 / 16), .int .i64 (byt s 1 % 16), .int .u16 (zH (byt s 2)), .int .u16 0, .int .i64 0, .int .i64 (zc (byt s 0))] 53 (0, 0)) := r3
   replace RR := zh rr
   replace SS := zh s3
   replace TT := zh t3
   clear rr r0 s0 t0 r1 s1 t1 r2 s2 t2 r3 s3 t3
   go_wp2_with (first
    | (refine wpList_load_row rfl _ (.tmp 3) rfl _ rfl _ #[.int .i64 (byt s 0), .int .i64 (byt s 1 / 16), .int .i64 (byt s 1 % 16), .int .u16 (zH (byt s 2)), .int .u16 0, .int .i64 0, .int .i64 (zc (byt s 0))] _ _ RR.out Tryz.underlying53 rfl ?_ ?_; kernel_rfl)
    | (refine wpList_store_row rfl _ (.tmp 2) _ rfl _ #[.int .i64 (byt s 0), .int .i64 (byt s 1 / 16), .int .i64 (byt s 1 % 16), .int .u16 (zH (byt s 2)), .int .u16 0, .int .i64 0, .int .i64 (zc (byt s 0))] rfl rfl _ _ SS.out ?_ ?_ ?_ ?_; kernel_rfl; rfl; kernel_rfl))
   refine bodyPost_ret (results_cell_row (cs := #[.int .i64 (byt s 0), .int .i64 (byt s 1 / 16), .int .i64 (byt s 1 % 16), .int .u16 (zH (byt s 2)), .int .u16 0, .int .i64 0, .int .i64 (zc (byt s 0))]) (fr := (0, 0)) rfl _ _ w.heap.size 53 _ rfl (setRow_heap _ _ _ _ _ _ SS.out) (Tryz.underlying53) rfl (by kernel_rfl)) rfl ⟨?_, below_setRow TT.out (zn _) _⟩
   rw [HF.out]
   first | rfl | simp [rdF, ze, vi, vw]
end Go.Proofs.YteofmaiojepdkaaGreat
