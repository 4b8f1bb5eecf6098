/- fields of the reference, walked: formats 1, 2, 3, 4, 5. -/
import Derived.Test.YtakahmhbopakmaaDoorRFldA
set_option linter.all false
namespace Go.Proofs.YtakahmhbopakmaaDoor
open Go.RowKit

set_option maxRecDepth 100000 in
set_option maxHeartbeats 4000000 in
theorem rfields_1 (s : ByteArray) (hf : fmtS (byt s 0) = 1) (hs : 1 ≤ s.size) (hm : s.size ≤ 9223372036854775807) (w : World) :
    Calls Tryd.prog 42 #[.string s] w fun e w' => e = .returned (.agg (insCells (rdF 1 (byt s) (byt s 0) (rsizeS (byt s 0))))) ∧ Below w.heap.size w w' := by
  have ix : ∀ W, (Instr.index 9 (.string s) (.int .i64 0)).run Tryd.prog W = .ok (.int .u8 (byt s 0)) W := index_byt s 0 (by omega)
  obtain ⟨b0, b1⟩ := byt_bd s 0
  have hw0 : IntKind.i64.wrap (byt s 0) = byt s 0 := IntWalk.i64_in _ (by omega)
  have HF := Lib.hid hf
  clear hf
  go_enter Tryd.func42, Tryd.ntmps42
  go_upto_region 1 with (fail)
  go_cut [3] (fun s3 wx => RFCut s w s3 wx)
  case first =>
    clear HF
    refine wp_region_noPanic ?_
    refine wp_region_held_drew (S := fun w' => True) (by kernel_rfl) trivial (fun hHeld => ?_)
    (refine wpAnyH_take (i := 0) (oi := _) (v := ?_) rfl (by kernel_rfl) (by kernel_rfl) (by kernel_rfl) (fun _ _ _ h => h) (Or.inl ⟨by rfl, ?_⟩) (by assumption) ?_; rotate_left; (focus (intro w hSw; (try dsimp only at hSw); go_simp; try with_reducible rfl)); (try simp only [List.getElem_toArray, List.getElem_cons_succ, List.getElem_cons_zero, Act.put, List.setIfInBounds_toArray, List.set_cons_zero, List.set_cons_succ]))
    (refine wpAnyH_take (i := 3) (oi := _) (v := ?_) rfl (by kernel_rfl) (by kernel_rfl) (by kernel_rfl) (fun _ _ _ h => h) (Or.inl ⟨by rfl, ?_⟩) (by assumption) ?_; rotate_left; (focus (intro w hSw; (try dsimp only at hSw); go_simp; try with_reducible rfl)); (try simp only [List.getElem_toArray, List.getElem_cons_succ, List.getElem_cons_zero, Act.put, List.setIfInBounds_toArray, List.set_cons_zero, List.set_cons_succ]))
    (refine wpAnyH_take (i := 1) (oi := _) (v := ?_) rfl (by kernel_rfl) (by kernel_rfl) (by kernel_rfl) (fun _ _ _ h => h) (Or.inl ⟨by rfl, ?_⟩) (by assumption) ?_; rotate_left; (focus (intro w hSw; (try dsimp only at hSw); go_simp; try with_reducible rfl)); (try simp only [List.getElem_toArray, List.getElem_cons_succ, List.getElem_cons_zero, Act.put, List.setIfInBounds_toArray, List.set_cons_zero, List.set_cons_succ]))
    (refine wpAnyH_take (i := 4) (oi := _) (v := ?_) rfl (by kernel_rfl) (by kernel_rfl) (by kernel_rfl) (fun _ _ _ h => h) (Or.inl ⟨by rfl, ?_⟩) (by assumption) ?_; rotate_left; (focus (intro w hSw; (try dsimp only at hSw); go_simp; try with_reducible rfl)); (try simp only [List.getElem_toArray, List.getElem_cons_succ, List.getElem_cons_zero, Act.put, List.setIfInBounds_toArray, List.set_cons_zero, List.set_cons_succ]))
    (refine wpAnyH_take (i := 2) (oi := _) (v := ?_) rfl (by kernel_rfl) (by kernel_rfl) (by kernel_rfl) (fun _ _ _ h => h) (Or.inl ⟨by rfl, ?_⟩) (by assumption) ?_; rotate_left; (focus (intro w hSw; (try dsimp only at hSw); go_simp; try with_reducible rfl)); (try simp only [List.getElem_toArray, List.getElem_cons_succ, List.getElem_cons_zero, Act.put, List.setIfInBounds_toArray, List.set_cons_zero, List.set_cons_succ]))
    (refine wpAnyH_ready (rs := [5, 7]) (by kernel_rfl) (by simp) (AllReadyH.cons (o := _) rfl (fun K hK => ?_) (AllReadyH.cons (o := _) rfl (fun K hK => ?_) AllReadyH.nil)))
    · rw [if_pos (by rfl)]
      go_simp
      refine (rsize_any _ b0 b1 _).mono ?_
      rintro e w1 ⟨rfl, hb1⟩
      have hz := hb1.size
      simp at hz
      refine hK.out _ _ trivial (fun hHeld => ?_)
      (try simp only [List.getElem_toArray, List.getElem_cons_succ, List.getElem_cons_zero, Act.put, List.setIfInBounds_toArray, List.set_cons_zero, List.set_cons_succ])
      (refine wpAnyH_take (i := 6) (oi := _) (v := ?_) rfl (by kernel_rfl) (by kernel_rfl) (by kernel_rfl) (fun _ _ _ h => h) (Or.inl ⟨by rfl, ?_⟩) (by assumption) ?_; rotate_left; (focus (intro w hSw; (try dsimp only at hSw); go_simp; try with_reducible rfl)); (try simp only [List.getElem_toArray, List.getElem_cons_succ, List.getElem_cons_zero, Act.put, List.setIfInBounds_toArray, List.set_cons_zero, List.set_cons_succ]))
      (refine wpAnyH_ready (rs := [7]) (by kernel_rfl) (by simp) (AllReadyH.cons (o := _) rfl (fun K hK => ?_) AllReadyH.nil))
      rw [if_pos (by rfl)]
      go_simp
      refine hK.out _ _ trivial (fun hHeld => ?_)
      (try simp only [List.getElem_toArray, List.getElem_cons_succ, List.getElem_cons_zero, Act.put, List.setIfInBounds_toArray, List.set_cons_zero, List.set_cons_succ])
      (refine wpAnyH_ready (rs := [8]) (by kernel_rfl) (by simp) (AllReadyH.cons (o := _) rfl (fun K hK => ?_) AllReadyH.nil))
      rw [if_pos (by rfl)]
      go_simp
      refine hK.out _ _ trivial (fun hHeld => wpAnyH_done (by kernel_rfl) ?_ _)
      (try simp only [List.getElem_toArray, List.getElem_cons_succ, List.getElem_cons_zero, Act.put, List.setIfInBounds_toArray, List.set_cons_zero, List.set_cons_succ])
      refine NoPanic.normal ?_
      go_wp2_with fail
      go_meet
      exact RFCut.mk' rfl (heap_alloc_new _ _) (by omega) (by simp) (((Below.refl _ _).drew.trans (hb1.mono (by simp))).alloc (by omega) _)
    · rw [if_pos (by rfl)]
      go_simp
      refine hK.out _ _ trivial (fun hHeld => ?_)
      (try simp only [List.getElem_toArray, List.getElem_cons_succ, List.getElem_cons_zero, Act.put, List.setIfInBounds_toArray, List.set_cons_zero, List.set_cons_succ])
      (refine wpAnyH_ready (rs := [5]) (by kernel_rfl) (by simp) (AllReadyH.cons (o := _) rfl (fun K hK => ?_) AllReadyH.nil))
      rw [if_pos (by rfl)]
      go_simp
      refine (rsize_any _ b0 b1 _).mono ?_
      rintro e w1 ⟨rfl, hb1⟩
      have hz := hb1.size
      simp at hz
      have hg1 : w1.heap[w.heap.size + 1]? = some (.cells #[Value.int .i64 0, .int .i64 0, .int .i64 0, .int .u16 0, .int .u16 0, .int .i64 0, .int .i64 0] 24 (0, 0)) := (hb1.block (w.heap.size + 1) (by simp <;> omega)).trans (news_row _ _ (by simp))
      refine hK.out _ _ trivial (fun hHeld => ?_)
      (try simp only [List.getElem_toArray, List.getElem_cons_succ, List.getElem_cons_zero, Act.put, List.setIfInBounds_toArray, List.set_cons_zero, List.set_cons_succ])
      (refine wpAnyH_take (i := 6) (oi := _) (v := ?_) rfl (by kernel_rfl) (by kernel_rfl) (by kernel_rfl) (fun _ _ _ h => h) (Or.inl ⟨by rfl, ?_⟩) (by assumption) ?_; rotate_left; (focus (intro w hSw; (try dsimp only at hSw); go_simp; try with_reducible rfl)); (try simp only [List.getElem_toArray, List.getElem_cons_succ, List.getElem_cons_zero, Act.put, List.setIfInBounds_toArray, List.set_cons_zero, List.set_cons_succ]))
      (refine wpAnyH_ready (rs := [8]) (by kernel_rfl) (by simp) (AllReadyH.cons (o := _) rfl (fun K hK => ?_) AllReadyH.nil))
      rw [if_pos (by rfl)]
      refine wp_store_row _ _ _ rfl (w.heap.size + 1) _ rfl rfl _ _ hg1 ?_ ?_ ?_ ?_
      · kernel_rfl
      · rfl
      · kernel_rfl
      refine hK.out _ _ trivial (fun hHeld => wpAnyH_done (by kernel_rfl) ?_ _)
      (try simp only [List.getElem_toArray, List.getElem_cons_succ, List.getElem_cons_zero, Act.put, List.setIfInBounds_toArray, List.set_cons_zero, List.set_cons_succ])
      refine NoPanic.normal ?_
      go_wp2_with fail
      go_meet
      exact RFCut.mk' rfl (setRow_heap _ _ _ _ _ _ hg1) (by omega) (by simp <;> omega) (below_setRow (((Below.refl _ _).alloc (by simp) _).drew.trans (hb1.mono (by simp))) (Nat.le_refl _) _)
  case rest =>
    obtain ⟨g, rfl, hg, hr, hlt, hlt2, hb⟩ := hcut
    have hq := cell_of_row wc g 0 _ _ _ hg
    have RR := Lib.hid hg
    have SS := Lib.hid hr
    have TT := Lib.hid hb
    clear hg hr hb
    go_upto_region 3 with (first
      | (go_at_call 32; refine (fmt_any _ _).mono ?_; rintro e w3 ⟨rfl, hb3⟩; rw [HF.out]; have hz3 := hb3.size; replace RR := Lib.hid ((hb3.block g hlt2).trans RR.out); replace SS := Lib.hid ((hb3.block w.heap.size (by omega)).trans SS.out); replace TT := Lib.hid (TT.out.trans (hb3.mono TT.out.size)); clear hb3 hq))
    have hlt3 : g < w3.heap.size := by omega
    have hne : w.heap.size ≠ g := by omega
    have hle : w.heap.size ≤ g := by omega
    clear hz3 hlt2
    have hcz : ∀ j, w3.cell? ⟨g, j, none⟩ = (#[Value.int .i64 (byt s 0), .int .i64 0, .int .i64 0, .int .u16 0, .int .u16 0, .int .i64 0, .int .i64 (rsizeS (byt s 0))] : Array Value)[j]? := fun j => cell_of_row w3 g j _ _ _ RR.out
    have hfz : ∀ j, w3.frozen? ⟨g, j, none⟩ = false := fun j => frozen_of_row w3 g j _ _ RR.out
    go_upto_region 52 with (first | (go_at_call 33; refine (rextend_any _ (by omega) (by omega) _).mono ?_; rintro e ww ⟨rfl, rfl⟩))
    go_wp2_with (first
      | (refine wpList_load_row rfl _ (.tmp 3) rfl _ rfl _ #[.int .i64 (byt s 0), .int .i64 0, .int .i64 0, .int .u16 0, .int .u16 0, .int .i64 0, .int .i64 (rsizeS (byt s 0))] _ _ RR.out Tryd.underlying24 rfl ?_ ?_; kernel_rfl)
      | (refine wpList_store_row rfl _ (.tmp 2) _ rfl _ #[.int .i64 (byt s 0), .int .i64 0, .int .i64 0, .int .u16 0, .int .u16 0, .int .i64 0, .int .i64 (rsizeS (byt s 0))] rfl rfl _ _ SS.out ?_ ?_ ?_ ?_; kernel_rfl; rfl; kernel_rfl))
    refine bodyPost_ret (results_cell_row (cs := #[.int .i64 (byt s 0), .int .i64 0, .int .i64 0, .int .u16 0, .int .u16 0, .int .i64 0, .int .i64 (rsizeS (byt s 0))]) (fr := (0, 0)) rfl _ _ w.heap.size 24 _ rfl (setRow_heap _ _ _ _ _ _ SS.out) (Tryd.underlying24) rfl (by kernel_rfl)) rfl ⟨?_, below_setRow TT.out (Nat.le_refl _) _⟩
    first | rfl | simp [rdF, insCells, vi, vw]

set_option maxRecDepth 100000 in
set_option maxHeartbeats 4000000 in
theorem rfields_2 (s : ByteArray) (hf : fmtS (byt s 0) = 2) (hs : 2 ≤ s.size) (hm : s.size ≤ 9223372036854775807) (w : World) :
    Calls Tryd.prog 42 #[.string s] w fun e w' => e = .returned (.agg (insCells (rdF 2 (byt s) (byt s 0) (rsizeS (byt s 0))))) ∧ Below w.heap.size w w' := by
  have ix : ∀ W, (Instr.index 9 (.string s) (.int .i64 0)).run Tryd.prog W = .ok (.int .u8 (byt s 0)) W := index_byt s 0 (by omega)
  have ix1 : ∀ W, (Instr.index 9 (.string s) (.int .i64 1)).run Tryd.prog W = .ok (.int .u8 (byt s 1)) W := index_byt s 1 (by omega)
  obtain ⟨c1, d1⟩ := byt_bd s 1
  have hx1 : IntKind.i64.wrap (byt s 1) = byt s 1 := IntWalk.i64_in _ (by omega)
  have hy1 : IntKind.u16.wrap (byt s 1) = byt s 1 := IntWalk.u16_in _ (by omega)
  obtain ⟨b0, b1⟩ := byt_bd s 0
  have hw0 : IntKind.i64.wrap (byt s 0) = byt s 0 := IntWalk.i64_in _ (by omega)
  have HF := Lib.hid hf
  clear hf
  go_enter Tryd.func42, Tryd.ntmps42
  go_upto_region 1 with (fail)
  go_cut [3] (fun s3 wx => RFCut s w s3 wx)
  case first =>
    clear HF ix1
    refine wp_region_noPanic ?_
    refine wp_region_held_drew (S := fun w' => True) (by kernel_rfl) trivial (fun hHeld => ?_)
    (refine wpAnyH_take (i := 0) (oi := _) (v := ?_) rfl (by kernel_rfl) (by kernel_rfl) (by kernel_rfl) (fun _ _ _ h => h) (Or.inl ⟨by rfl, ?_⟩) (by assumption) ?_; rotate_left; (focus (intro w hSw; (try dsimp only at hSw); go_simp; try with_reducible rfl)); (try simp only [List.getElem_toArray, List.getElem_cons_succ, List.getElem_cons_zero, Act.put, List.setIfInBounds_toArray, List.set_cons_zero, List.set_cons_succ]))
    (refine wpAnyH_take (i := 3) (oi := _) (v := ?_) rfl (by kernel_rfl) (by kernel_rfl) (by kernel_rfl) (fun _ _ _ h => h) (Or.inl ⟨by rfl, ?_⟩) (by assumption) ?_; rotate_left; (focus (intro w hSw; (try dsimp only at hSw); go_simp; try with_reducible rfl)); (try simp only [List.getElem_toArray, List.getElem_cons_succ, List.getElem_cons_zero, Act.put, List.setIfInBounds_toArray, List.set_cons_zero, List.set_cons_succ]))
    (refine wpAnyH_take (i := 1) (oi := _) (v := ?_) rfl (by kernel_rfl) (by kernel_rfl) (by kernel_rfl) (fun _ _ _ h => h) (Or.inl ⟨by rfl, ?_⟩) (by assumption) ?_; rotate_left; (focus (intro w hSw; (try dsimp only at hSw); go_simp; try with_reducible rfl)); (try simp only [List.getElem_toArray, List.getElem_cons_succ, List.getElem_cons_zero, Act.put, List.setIfInBounds_toArray, List.set_cons_zero, List.set_cons_succ]))
    (refine wpAnyH_take (i := 4) (oi := _) (v := ?_) rfl (by kernel_rfl) (by kernel_rfl) (by kernel_rfl) (fun _ _ _ h => h) (Or.inl ⟨by rfl, ?_⟩) (by assumption) ?_; rotate_left; (focus (intro w hSw; (try dsimp only at hSw); go_simp; try with_reducible rfl)); (try simp only [List.getElem_toArray, List.getElem_cons_succ, List.getElem_cons_zero, Act.put, List.setIfInBounds_toArray, List.set_cons_zero, List.set_cons_succ]))
    (refine wpAnyH_take (i := 2) (oi := _) (v := ?_) rfl (by kernel_rfl) (by kernel_rfl) (by kernel_rfl) (fun _ _ _ h => h) (Or.inl ⟨by rfl, ?_⟩) (by assumption) ?_; rotate_left; (focus (intro w hSw; (try dsimp only at hSw); go_simp; try with_reducible rfl)); (try simp only [List.getElem_toArray, List.getElem_cons_succ, List.getElem_cons_zero, Act.put, List.setIfInBounds_toArray, List.set_cons_zero, List.set_cons_succ]))
    (refine wpAnyH_ready (rs := [5, 7]) (by kernel_rfl) (by simp) (AllReadyH.cons (o := _) rfl (fun K hK => ?_) (AllReadyH.cons (o := _) rfl (fun K hK => ?_) AllReadyH.nil)))
    · rw [if_pos (by rfl)]
      go_simp
      refine (rsize_any _ b0 b1 _).mono ?_
      rintro e w1 ⟨rfl, hb1⟩
      have hz := hb1.size
      simp at hz
      refine hK.out _ _ trivial (fun hHeld => ?_)
      (try simp only [List.getElem_toArray, List.getElem_cons_succ, List.getElem_cons_zero, Act.put, List.setIfInBounds_toArray, List.set_cons_zero, List.set_cons_succ])
      (refine wpAnyH_take (i := 6) (oi := _) (v := ?_) rfl (by kernel_rfl) (by kernel_rfl) (by kernel_rfl) (fun _ _ _ h => h) (Or.inl ⟨by rfl, ?_⟩) (by assumption) ?_; rotate_left; (focus (intro w hSw; (try dsimp only at hSw); go_simp; try with_reducible rfl)); (try simp only [List.getElem_toArray, List.getElem_cons_succ, List.getElem_cons_zero, Act.put, List.setIfInBounds_toArray, List.set_cons_zero, List.set_cons_succ]))
      (refine wpAnyH_ready (rs := [7]) (by kernel_rfl) (by simp) (AllReadyH.cons (o := _) rfl (fun K hK => ?_) AllReadyH.nil))
      rw [if_pos (by rfl)]
      go_simp
      refine hK.out _ _ trivial (fun hHeld => ?_)
      (try simp only [List.getElem_toArray, List.getElem_cons_succ, List.getElem_cons_zero, Act.put, List.setIfInBounds_toArray, List.set_cons_zero, List.set_cons_succ])
      (refine wpAnyH_ready (rs := [8]) (by kernel_rfl) (by simp) (AllReadyH.cons (o := _) rfl (fun K hK => ?_) AllReadyH.nil))
      rw [if_pos (by rfl)]
      go_simp
      refine hK.out _ _ trivial (fun hHeld => wpAnyH_done (by kernel_rfl) ?_ _)
      (try simp only [List.getElem_toArray, List.getElem_cons_succ, List.getElem_cons_zero, Act.put, List.setIfInBounds_toArray, List.set_cons_zero, List.set_cons_succ])
      refine NoPanic.normal ?_
      go_wp2_with fail
      go_meet
      exact RFCut.mk' rfl (heap_alloc_new _ _) (by omega) (by simp) (((Below.refl _ _).drew.trans (hb1.mono (by simp))).alloc (by omega) _)
    · rw [if_pos (by rfl)]
      go_simp
      refine hK.out _ _ trivial (fun hHeld => ?_)
      (try simp only [List.getElem_toArray, List.getElem_cons_succ, List.getElem_cons_zero, Act.put, List.setIfInBounds_toArray, List.set_cons_zero, List.set_cons_succ])
      (refine wpAnyH_ready (rs := [5]) (by kernel_rfl) (by simp) (AllReadyH.cons (o := _) rfl (fun K hK => ?_) AllReadyH.nil))
      rw [if_pos (by rfl)]
      go_simp
      refine (rsize_any _ b0 b1 _).mono ?_
      rintro e w1 ⟨rfl, hb1⟩
      have hz := hb1.size
      simp at hz
      have hg1 : w1.heap[w.heap.size + 1]? = some (.cells #[Value.int .i64 0, .int .i64 0, .int .i64 0, .int .u16 0, .int .u16 0, .int .i64 0, .int .i64 0] 24 (0, 0)) := (hb1.block (w.heap.size + 1) (by simp <;> omega)).trans (news_row _ _ (by simp))
      refine hK.out _ _ trivial (fun hHeld => ?_)
      (try simp only [List.getElem_toArray, List.getElem_cons_succ, List.getElem_cons_zero, Act.put, List.setIfInBounds_toArray, List.set_cons_zero, List.set_cons_succ])
      (refine wpAnyH_take (i := 6) (oi := _) (v := ?_) rfl (by kernel_rfl) (by kernel_rfl) (by kernel_rfl) (fun _ _ _ h => h) (Or.inl ⟨by rfl, ?_⟩) (by assumption) ?_; rotate_left; (focus (intro w hSw; (try dsimp only at hSw); go_simp; try with_reducible rfl)); (try simp only [List.getElem_toArray, List.getElem_cons_succ, List.getElem_cons_zero, Act.put, List.setIfInBounds_toArray, List.set_cons_zero, List.set_cons_succ]))
      (refine wpAnyH_ready (rs := [8]) (by kernel_rfl) (by simp) (AllReadyH.cons (o := _) rfl (fun K hK => ?_) AllReadyH.nil))
      rw [if_pos (by rfl)]
      refine wp_store_row _ _ _ rfl (w.heap.size + 1) _ rfl rfl _ _ hg1 ?_ ?_ ?_ ?_
      · kernel_rfl
      · rfl
      · kernel_rfl
      refine hK.out _ _ trivial (fun hHeld => wpAnyH_done (by kernel_rfl) ?_ _)
      (try simp only [List.getElem_toArray, List.getElem_cons_succ, List.getElem_cons_zero, Act.put, List.setIfInBounds_toArray, List.set_cons_zero, List.set_cons_succ])
      refine NoPanic.normal ?_
      go_wp2_with fail
      go_meet
      exact RFCut.mk' rfl (setRow_heap _ _ _ _ _ _ hg1) (by omega) (by simp <;> omega) (below_setRow (((Below.refl _ _).alloc (by simp) _).drew.trans (hb1.mono (by simp))) (Nat.le_refl _) _)
  case rest =>
    obtain ⟨g, rfl, hg, hr, hlt, hlt2, hb⟩ := hcut
    have hq := cell_of_row wc g 0 _ _ _ hg
    have RR := Lib.hid hg
    have SS := Lib.hid hr
    have TT := Lib.hid hb
    clear hg hr hb
    go_upto_region 3 with (first
      | (go_at_call 32; refine (fmt_any _ _).mono ?_; rintro e w3 ⟨rfl, hb3⟩; rw [HF.out]; have hz3 := hb3.size; replace RR := Lib.hid ((hb3.block g hlt2).trans RR.out); replace SS := Lib.hid ((hb3.block w.heap.size (by omega)).trans SS.out); replace TT := Lib.hid (TT.out.trans (hb3.mono TT.out.size)); clear hb3 hq))
    have hlt3 : g < w3.heap.size := by omega
    have hne : w.heap.size ≠ g := by omega
    have hle : w.heap.size ≤ g := by omega
    clear hz3 hlt2
    have hcz : ∀ j, w3.cell? ⟨g, j, none⟩ = (#[Value.int .i64 (byt s 0), .int .i64 0, .int .i64 0, .int .u16 0, .int .u16 0, .int .i64 0, .int .i64 (rsizeS (byt s 0))] : Array Value)[j]? := fun j => cell_of_row w3 g j _ _ _ RR.out
    have hfz : ∀ j, w3.frozen? ⟨g, j, none⟩ = false := fun j => frozen_of_row w3 g j _ _ RR.out
    go_upto_region 52 with (first | (go_at_call 33; refine (rextend_any _ (by omega) (by omega) _).mono ?_; rintro e ww ⟨rfl, rfl⟩))
    have r0 := RR.out
    have s0 := SS.out
    have t0 := TT.out
    have r1 := heap_setCell_same _ g 1 _ _ (.int .i64 (byt s 1)) r0
    have s1 := (heap_setCell_other _ ⟨g, 1, none⟩ w.heap.size (.int .i64 (byt s 1)) hne).trans s0
    have t1 := t0.setCell (p := ⟨g, 1, none⟩) hle (.int .i64 (byt s 1))
    have rr : _ = some (Obj.cells #[.int .i64 (byt s 0), .int .i64 (byt s 1), .int .i64 0, .int .u16 0, .int .u16 0, .int .i64 0, .int .i64 (rsizeS (byt s 0))] 24 (0, 0)) := r1
    replace RR := Lib.hid rr
    replace SS := Lib.hid s1
    replace TT := Lib.hid t1
    clear rr r0 s0 t0 r1 s1 t1
    go_wp2_with (first
      | (refine wpList_load_row rfl _ (.tmp 3) rfl _ rfl _ #[.int .i64 (byt s 0), .int .i64 (byt s 1), .int .i64 0, .int .u16 0, .int .u16 0, .int .i64 0, .int .i64 (rsizeS (byt s 0))] _ _ RR.out Tryd.underlying24 rfl ?_ ?_; kernel_rfl)
      | (refine wpList_store_row rfl _ (.tmp 2) _ rfl _ #[.int .i64 (byt s 0), .int .i64 (byt s 1), .int .i64 0, .int .u16 0, .int .u16 0, .int .i64 0, .int .i64 (rsizeS (byt s 0))] rfl rfl _ _ SS.out ?_ ?_ ?_ ?_; kernel_rfl; rfl; kernel_rfl))
    refine bodyPost_ret (results_cell_row (cs := #[.int .i64 (byt s 0), .int .i64 (byt s 1), .int .i64 0, .int .u16 0, .int .u16 0, .int .i64 0, .int .i64 (rsizeS (byt s 0))]) (fr := (0, 0)) rfl _ _ w.heap.size 24 _ rfl (setRow_heap _ _ _ _ _ _ SS.out) (Tryd.underlying24) rfl (by kernel_rfl)) rfl ⟨?_, below_setRow TT.out (Nat.le_refl _) _⟩
    first | rfl | simp [rdF, insCells, vi, vw]

set_option maxRecDepth 100000 in
set_option maxHeartbeats 4000000 in
theorem rfields_3 (s : ByteArray) (hf : fmtS (byt s 0) = 3) (hs : 2 ≤ s.size) (hm : s.size ≤ 9223372036854775807) (w : World) :
    Calls Tryd.prog 42 #[.string s] w fun e w' => e = .returned (.agg (insCells (rdF 3 (byt s) (byt s 0) (rsizeS (byt s 0))))) ∧ Below w.heap.size w w' := by
  have ix : ∀ W, (Instr.index 9 (.string s) (.int .i64 0)).run Tryd.prog W = .ok (.int .u8 (byt s 0)) W := index_byt s 0 (by omega)
  have ix1 : ∀ W, (Instr.index 9 (.string s) (.int .i64 1)).run Tryd.prog W = .ok (.int .u8 (byt s 1)) W := index_byt s 1 (by omega)
  obtain ⟨c1, d1⟩ := byt_bd s 1
  have hx1 : IntKind.i64.wrap (byt s 1) = byt s 1 := IntWalk.i64_in _ (by omega)
  have hy1 : IntKind.u16.wrap (byt s 1) = byt s 1 := IntWalk.u16_in _ (by omega)
  obtain ⟨b0, b1⟩ := byt_bd s 0
  have hw0 : IntKind.i64.wrap (byt s 0) = byt s 0 := IntWalk.i64_in _ (by omega)
  have HF := Lib.hid hf
  clear hf
  go_enter Tryd.func42, Tryd.ntmps42
  go_upto_region 1 with (fail)
  go_cut [3] (fun s3 wx => RFCut s w s3 wx)
  case first =>
    clear HF ix1
    refine wp_region_noPanic ?_
    refine wp_region_held_drew (S := fun w' => True) (by kernel_rfl) trivial (fun hHeld => ?_)
    (refine wpAnyH_take (i := 0) (oi := _) (v := ?_) rfl (by kernel_rfl) (by kernel_rfl) (by kernel_rfl) (fun _ _ _ h => h) (Or.inl ⟨by rfl, ?_⟩) (by assumption) ?_; rotate_left; (focus (intro w hSw; (try dsimp only at hSw); go_simp; try with_reducible rfl)); (try simp only [List.getElem_toArray, List.getElem_cons_succ, List.getElem_cons_zero, Act.put, List.setIfInBounds_toArray, List.set_cons_zero, List.set_cons_succ]))
    (refine wpAnyH_take (i := 3) (oi := _) (v := ?_) rfl (by kernel_rfl) (by kernel_rfl) (by kernel_rfl) (fun _ _ _ h => h) (Or.inl ⟨by rfl, ?_⟩) (by assumption) ?_; rotate_left; (focus (intro w hSw; (try dsimp only at hSw); go_simp; try with_reducible rfl)); (try simp only [List.getElem_toArray, List.getElem_cons_succ, List.getElem_cons_zero, Act.put, List.setIfInBounds_toArray, List.set_cons_zero, List.set_cons_succ]))
    (refine wpAnyH_take (i := 1) (oi := _) (v := ?_) rfl (by kernel_rfl) (by kernel_rfl) (by kernel_rfl) (fun _ _ _ h => h) (Or.inl ⟨by rfl, ?_⟩) (by assumption) ?_; rotate_left; (focus (intro w hSw; (try dsimp only at hSw); go_simp; try with_reducible rfl)); (try simp only [List.getElem_toArray, List.getElem_cons_succ, List.getElem_cons_zero, Act.put, List.setIfInBounds_toArray, List.set_cons_zero, List.set_cons_succ]))
    (refine wpAnyH_take (i := 4) (oi := _) (v := ?_) rfl (by kernel_rfl) (by kernel_rfl) (by kernel_rfl) (fun _ _ _ h => h) (Or.inl ⟨by rfl, ?_⟩) (by assumption) ?_; rotate_left; (focus (intro w hSw; (try dsimp only at hSw); go_simp; try with_reducible rfl)); (try simp only [List.getElem_toArray, List.getElem_cons_succ, List.getElem_cons_zero, Act.put, List.setIfInBounds_toArray, List.set_cons_zero, List.set_cons_succ]))
    (refine wpAnyH_take (i := 2) (oi := _) (v := ?_) rfl (by kernel_rfl) (by kernel_rfl) (by kernel_rfl) (fun _ _ _ h => h) (Or.inl ⟨by rfl, ?_⟩) (by assumption) ?_; rotate_left; (focus (intro w hSw; (try dsimp only at hSw); go_simp; try with_reducible rfl)); (try simp only [List.getElem_toArray, List.getElem_cons_succ, List.getElem_cons_zero, Act.put, List.setIfInBounds_toArray, List.set_cons_zero, List.set_cons_succ]))
    (refine wpAnyH_ready (rs := [5, 7]) (by kernel_rfl) (by simp) (AllReadyH.cons (o := _) rfl (fun K hK => ?_) (AllReadyH.cons (o := _) rfl (fun K hK => ?_) AllReadyH.nil)))
    · rw [if_pos (by rfl)]
      go_simp
      refine (rsize_any _ b0 b1 _).mono ?_
      rintro e w1 ⟨rfl, hb1⟩
      have hz := hb1.size
      simp at hz
      refine hK.out _ _ trivial (fun hHeld => ?_)
      (try simp only [List.getElem_toArray, List.getElem_cons_succ, List.getElem_cons_zero, Act.put, List.setIfInBounds_toArray, List.set_cons_zero, List.set_cons_succ])
      (refine wpAnyH_take (i := 6) (oi := _) (v := ?_) rfl (by kernel_rfl) (by kernel_rfl) (by kernel_rfl) (fun _ _ _ h => h) (Or.inl ⟨by rfl, ?_⟩) (by assumption) ?_; rotate_left; (focus (intro w hSw; (try dsimp only at hSw); go_simp; try with_reducible rfl)); (try simp only [List.getElem_toArray, List.getElem_cons_succ, List.getElem_cons_zero, Act.put, List.setIfInBounds_toArray, List.set_cons_zero, List.set_cons_succ]))
      (refine wpAnyH_ready (rs := [7]) (by kernel_rfl) (by simp) (AllReadyH.cons (o := _) rfl (fun K hK => ?_) AllReadyH.nil))
      rw [if_pos (by rfl)]
      go_simp
      refine hK.out _ _ trivial (fun hHeld => ?_)
      (try simp only [List.getElem_toArray, List.getElem_cons_succ, List.getElem_cons_zero, Act.put, List.setIfInBounds_toArray, List.set_cons_zero, List.set_cons_succ])
      (refine wpAnyH_ready (rs := [8]) (by kernel_rfl) (by simp) (AllReadyH.cons (o := _) rfl (fun K hK => ?_) AllReadyH.nil))
      rw [if_pos (by rfl)]
      go_simp
      refine hK.out _ _ trivial (fun hHeld => wpAnyH_done (by kernel_rfl) ?_ _)
      (try simp only [List.getElem_toArray, List.getElem_cons_succ, List.getElem_cons_zero, Act.put, List.setIfInBounds_toArray, List.set_cons_zero, List.set_cons_succ])
      refine NoPanic.normal ?_
      go_wp2_with fail
      go_meet
      exact RFCut.mk' rfl (heap_alloc_new _ _) (by omega) (by simp) (((Below.refl _ _).drew.trans (hb1.mono (by simp))).alloc (by omega) _)
    · rw [if_pos (by rfl)]
      go_simp
      refine hK.out _ _ trivial (fun hHeld => ?_)
      (try simp only [List.getElem_toArray, List.getElem_cons_succ, List.getElem_cons_zero, Act.put, List.setIfInBounds_toArray, List.set_cons_zero, List.set_cons_succ])
      (refine wpAnyH_ready (rs := [5]) (by kernel_rfl) (by simp) (AllReadyH.cons (o := _) rfl (fun K hK => ?_) AllReadyH.nil))
      rw [if_pos (by rfl)]
      go_simp
      refine (rsize_any _ b0 b1 _).mono ?_
      rintro e w1 ⟨rfl, hb1⟩
      have hz := hb1.size
      simp at hz
      have hg1 : w1.heap[w.heap.size + 1]? = some (.cells #[Value.int .i64 0, .int .i64 0, .int .i64 0, .int .u16 0, .int .u16 0, .int .i64 0, .int .i64 0] 24 (0, 0)) := (hb1.block (w.heap.size + 1) (by simp <;> omega)).trans (news_row _ _ (by simp))
      refine hK.out _ _ trivial (fun hHeld => ?_)
      (try simp only [List.getElem_toArray, List.getElem_cons_succ, List.getElem_cons_zero, Act.put, List.setIfInBounds_toArray, List.set_cons_zero, List.set_cons_succ])
      (refine wpAnyH_take (i := 6) (oi := _) (v := ?_) rfl (by kernel_rfl) (by kernel_rfl) (by kernel_rfl) (fun _ _ _ h => h) (Or.inl ⟨by rfl, ?_⟩) (by assumption) ?_; rotate_left; (focus (intro w hSw; (try dsimp only at hSw); go_simp; try with_reducible rfl)); (try simp only [List.getElem_toArray, List.getElem_cons_succ, List.getElem_cons_zero, Act.put, List.setIfInBounds_toArray, List.set_cons_zero, List.set_cons_succ]))
      (refine wpAnyH_ready (rs := [8]) (by kernel_rfl) (by simp) (AllReadyH.cons (o := _) rfl (fun K hK => ?_) AllReadyH.nil))
      rw [if_pos (by rfl)]
      refine wp_store_row _ _ _ rfl (w.heap.size + 1) _ rfl rfl _ _ hg1 ?_ ?_ ?_ ?_
      · kernel_rfl
      · rfl
      · kernel_rfl
      refine hK.out _ _ trivial (fun hHeld => wpAnyH_done (by kernel_rfl) ?_ _)
      (try simp only [List.getElem_toArray, List.getElem_cons_succ, List.getElem_cons_zero, Act.put, List.setIfInBounds_toArray, List.set_cons_zero, List.set_cons_succ])
      refine NoPanic.normal ?_
      go_wp2_with fail
      go_meet
      exact RFCut.mk' rfl (setRow_heap _ _ _ _ _ _ hg1) (by omega) (by simp <;> omega) (below_setRow (((Below.refl _ _).alloc (by simp) _).drew.trans (hb1.mono (by simp))) (Nat.le_refl _) _)
  case rest =>
    obtain ⟨g, rfl, hg, hr, hlt, hlt2, hb⟩ := hcut
    have hq := cell_of_row wc g 0 _ _ _ hg
    have RR := Lib.hid hg
    have SS := Lib.hid hr
    have TT := Lib.hid hb
    clear hg hr hb
    go_upto_region 3 with (first
      | (go_at_call 32; refine (fmt_any _ _).mono ?_; rintro e w3 ⟨rfl, hb3⟩; rw [HF.out]; have hz3 := hb3.size; replace RR := Lib.hid ((hb3.block g hlt2).trans RR.out); replace SS := Lib.hid ((hb3.block w.heap.size (by omega)).trans SS.out); replace TT := Lib.hid (TT.out.trans (hb3.mono TT.out.size)); clear hb3 hq))
    have hlt3 : g < w3.heap.size := by omega
    have hne : w.heap.size ≠ g := by omega
    have hle : w.heap.size ≤ g := by omega
    clear hz3 hlt2
    have hcz : ∀ j, w3.cell? ⟨g, j, none⟩ = (#[Value.int .i64 (byt s 0), .int .i64 0, .int .i64 0, .int .u16 0, .int .u16 0, .int .i64 0, .int .i64 (rsizeS (byt s 0))] : Array Value)[j]? := fun j => cell_of_row w3 g j _ _ _ RR.out
    have hfz : ∀ j, w3.frozen? ⟨g, j, none⟩ = false := fun j => frozen_of_row w3 g j _ _ RR.out
    go_upto_region 52 with (first | (go_at_call 33; refine (rextend_any _ (by omega) (by omega) _).mono ?_; rintro e ww ⟨rfl, rfl⟩))
    have r0 := RR.out
    have s0 := SS.out
    have t0 := TT.out
    have r1 := heap_setCell_same _ g 3 _ _ (.int .u16 (byt s 1)) r0
    have s1 := (heap_setCell_other _ ⟨g, 3, none⟩ w.heap.size (.int .u16 (byt s 1)) hne).trans s0
    have t1 := t0.setCell (p := ⟨g, 3, none⟩) hle (.int .u16 (byt s 1))
    have rr : _ = some (Obj.cells #[.int .i64 (byt s 0), .int .i64 0, .int .i64 0, .int .u16 (byt s 1), .int .u16 0, .int .i64 0, .int .i64 (rsizeS (byt s 0))] 24 (0, 0)) := r1
    replace RR := Lib.hid rr
    replace SS := Lib.hid s1
    replace TT := Lib.hid t1
    clear rr r0 s0 t0 r1 s1 t1
    go_wp2_with (first
      | (refine wpList_load_row rfl _ (.tmp 3) rfl _ rfl _ #[.int .i64 (byt s 0), .int .i64 0, .int .i64 0, .int .u16 (byt s 1), .int .u16 0, .int .i64 0, .int .i64 (rsizeS (byt s 0))] _ _ RR.out Tryd.underlying24 rfl ?_ ?_; kernel_rfl)
      | (refine wpList_store_row rfl _ (.tmp 2) _ rfl _ #[.int .i64 (byt s 0), .int .i64 0, .int .i64 0, .int .u16 (byt s 1), .int .u16 0, .int .i64 0, .int .i64 (rsizeS (byt s 0))] rfl rfl _ _ SS.out ?_ ?_ ?_ ?_; kernel_rfl; rfl; kernel_rfl))
    refine bodyPost_ret (results_cell_row (cs := #[.int .i64 (byt s 0), .int .i64 0, .int .i64 0, .int .u16 (byt s 1), .int .u16 0, .int .i64 0, .int .i64 (rsizeS (byt s 0))]) (fr := (0, 0)) rfl _ _ w.heap.size 24 _ rfl (setRow_heap _ _ _ _ _ _ SS.out) (Tryd.underlying24) rfl (by kernel_rfl)) rfl ⟨?_, below_setRow TT.out (Nat.le_refl _) _⟩
    first | rfl | simp [rdF, insCells, vi, vw]

set_option maxRecDepth 100000 in
set_option maxHeartbeats 4000000 in
theorem rfields_4 (s : ByteArray) (hf : fmtS (byt s 0) = 4) (hs : 2 ≤ s.size) (hm : s.size ≤ 9223372036854775807) (w : World) :
    Calls Tryd.prog 42 #[.string s] w fun e w' => e = .returned (.agg (insCells (rdF 4 (byt s) (byt s 0) (rsizeS (byt s 0))))) ∧ Below w.heap.size w w' := by
  have ix : ∀ W, (Instr.index 9 (.string s) (.int .i64 0)).run Tryd.prog W = .ok (.int .u8 (byt s 0)) W := index_byt s 0 (by omega)
  have ix1 : ∀ W, (Instr.index 9 (.string s) (.int .i64 1)).run Tryd.prog W = .ok (.int .u8 (byt s 1)) W := index_byt s 1 (by omega)
  obtain ⟨c1, d1⟩ := byt_bd s 1
  have hx1 : IntKind.i64.wrap (byt s 1) = byt s 1 := IntWalk.i64_in _ (by omega)
  have hy1 : IntKind.u16.wrap (byt s 1) = byt s 1 := IntWalk.u16_in _ (by omega)
  have hx9 : (byt s 1).tdiv 16 = byt s 1 / 16 := Int.tdiv_eq_ediv_of_nonneg (by omega)
  have hxa : IntKind.u8.wrap (byt s 1 / 16) = byt s 1 / 16 := IntWalk.u8_in _ (by omega)
  have hx7 : IntKind.i64.wrap (byt s 1 / 16) = byt s 1 / 16 := IntWalk.i64_in _ (by omega)
  have hx8 : IntKind.i64.wrap (byt s 1 % 16) = byt s 1 % 16 := IntWalk.i64_in _ (by omega)
  obtain ⟨b0, b1⟩ := byt_bd s 0
  have hw0 : IntKind.i64.wrap (byt s 0) = byt s 0 := IntWalk.i64_in _ (by omega)
  have HF := Lib.hid hf
  clear hf
  go_enter Tryd.func42, Tryd.ntmps42
  go_upto_region 1 with (fail)
  go_cut [3] (fun s3 wx => RFCut s w s3 wx)
  case first =>
    clear HF ix1
    refine wp_region_noPanic ?_
    refine wp_region_held_drew (S := fun w' => True) (by kernel_rfl) trivial (fun hHeld => ?_)
    (refine wpAnyH_take (i := 0) (oi := _) (v := ?_) rfl (by kernel_rfl) (by kernel_rfl) (by kernel_rfl) (fun _ _ _ h => h) (Or.inl ⟨by rfl, ?_⟩) (by assumption) ?_; rotate_left; (focus (intro w hSw; (try dsimp only at hSw); go_simp; try with_reducible rfl)); (try simp only [List.getElem_toArray, List.getElem_cons_succ, List.getElem_cons_zero, Act.put, List.setIfInBounds_toArray, List.set_cons_zero, List.set_cons_succ]))
    (refine wpAnyH_take (i := 3) (oi := _) (v := ?_) rfl (by kernel_rfl) (by kernel_rfl) (by kernel_rfl) (fun _ _ _ h => h) (Or.inl ⟨by rfl, ?_⟩) (by assumption) ?_; rotate_left; (focus (intro w hSw; (try dsimp only at hSw); go_simp; try with_reducible rfl)); (try simp only [List.getElem_toArray, List.getElem_cons_succ, List.getElem_cons_zero, Act.put, List.setIfInBounds_toArray, List.set_cons_zero, List.set_cons_succ]))
    (refine wpAnyH_take (i := 1) (oi := _) (v := ?_) rfl (by kernel_rfl) (by kernel_rfl) (by kernel_rfl) (fun _ _ _ h => h) (Or.inl ⟨by rfl, ?_⟩) (by assumption) ?_; rotate_left; (focus (intro w hSw; (try dsimp only at hSw); go_simp; try with_reducible rfl)); (try simp only [List.getElem_toArray, List.getElem_cons_succ, List.getElem_cons_zero, Act.put, List.setIfInBounds_toArray, List.set_cons_zero, List.set_cons_succ]))
    (refine wpAnyH_take (i := 4) (oi := _) (v := ?_) rfl (by kernel_rfl) (by kernel_rfl) (by kernel_rfl) (fun _ _ _ h => h) (Or.inl ⟨by rfl, ?_⟩) (by assumption) ?_; rotate_left; (focus (intro w hSw; (try dsimp only at hSw); go_simp; try with_reducible rfl)); (try simp only [List.getElem_toArray, List.getElem_cons_succ, List.getElem_cons_zero, Act.put, List.setIfInBounds_toArray, List.set_cons_zero, List.set_cons_succ]))
    (refine wpAnyH_take (i := 2) (oi := _) (v := ?_) rfl (by kernel_rfl) (by kernel_rfl) (by kernel_rfl) (fun _ _ _ h => h) (Or.inl ⟨by rfl, ?_⟩) (by assumption) ?_; rotate_left; (focus (intro w hSw; (try dsimp only at hSw); go_simp; try with_reducible rfl)); (try simp only [List.getElem_toArray, List.getElem_cons_succ, List.getElem_cons_zero, Act.put, List.setIfInBounds_toArray, List.set_cons_zero, List.set_cons_succ]))
    (refine wpAnyH_ready (rs := [5, 7]) (by kernel_rfl) (by simp) (AllReadyH.cons (o := _) rfl (fun K hK => ?_) (AllReadyH.cons (o := _) rfl (fun K hK => ?_) AllReadyH.nil)))
    · rw [if_pos (by rfl)]
      go_simp
      refine (rsize_any _ b0 b1 _).mono ?_
      rintro e w1 ⟨rfl, hb1⟩
      have hz := hb1.size
      simp at hz
      refine hK.out _ _ trivial (fun hHeld => ?_)
      (try simp only [List.getElem_toArray, List.getElem_cons_succ, List.getElem_cons_zero, Act.put, List.setIfInBounds_toArray, List.set_cons_zero, List.set_cons_succ])
      (refine wpAnyH_take (i := 6) (oi := _) (v := ?_) rfl (by kernel_rfl) (by kernel_rfl) (by kernel_rfl) (fun _ _ _ h => h) (Or.inl ⟨by rfl, ?_⟩) (by assumption) ?_; rotate_left; (focus (intro w hSw; (try dsimp only at hSw); go_simp; try with_reducible rfl)); (try simp only [List.getElem_toArray, List.getElem_cons_succ, List.getElem_cons_zero, Act.put, List.setIfInBounds_toArray, List.set_cons_zero, List.set_cons_succ]))
      (refine wpAnyH_ready (rs := [7]) (by kernel_rfl) (by simp) (AllReadyH.cons (o := _) rfl (fun K hK => ?_) AllReadyH.nil))
      rw [if_pos (by rfl)]
      go_simp
      refine hK.out _ _ trivial (fun hHeld => ?_)
      (try simp only [List.getElem_toArray, List.getElem_cons_succ, List.getElem_cons_zero, Act.put, List.setIfInBounds_toArray, List.set_cons_zero, List.set_cons_succ])
      (refine wpAnyH_ready (rs := [8]) (by kernel_rfl) (by simp) (AllReadyH.cons (o := _) rfl (fun K hK => ?_) AllReadyH.nil))
      rw [if_pos (by rfl)]
      go_simp
      refine hK.out _ _ trivial (fun hHeld => wpAnyH_done (by kernel_rfl) ?_ _)
      (try simp only [List.getElem_toArray, List.getElem_cons_succ, List.getElem_cons_zero, Act.put, List.setIfInBounds_toArray, List.set_cons_zero, List.set_cons_succ])
      refine NoPanic.normal ?_
      go_wp2_with fail
      go_meet
      exact RFCut.mk' rfl (heap_alloc_new _ _) (by omega) (by simp) (((Below.refl _ _).drew.trans (hb1.mono (by simp))).alloc (by omega) _)
    · rw [if_pos (by rfl)]
      go_simp
      refine hK.out _ _ trivial (fun hHeld => ?_)
      (try simp only [List.getElem_toArray, List.getElem_cons_succ, List.getElem_cons_zero, Act.put, List.setIfInBounds_toArray, List.set_cons_zero, List.set_cons_succ])
      (refine wpAnyH_ready (rs := [5]) (by kernel_rfl) (by simp) (AllReadyH.cons (o := _) rfl (fun K hK => ?_) AllReadyH.nil))
      rw [if_pos (by rfl)]
      go_simp
      refine (rsize_any _ b0 b1 _).mono ?_
      rintro e w1 ⟨rfl, hb1⟩
      have hz := hb1.size
      simp at hz
      have hg1 : w1.heap[w.heap.size + 1]? = some (.cells #[Value.int .i64 0, .int .i64 0, .int .i64 0, .int .u16 0, .int .u16 0, .int .i64 0, .int .i64 0] 24 (0, 0)) := (hb1.block (w.heap.size + 1) (by simp <;> omega)).trans (news_row _ _ (by simp))
      refine hK.out _ _ trivial (fun hHeld => ?_)
      (try simp only [List.getElem_toArray, List.getElem_cons_succ, List.getElem_cons_zero, Act.put, List.setIfInBounds_toArray, List.set_cons_zero, List.set_cons_succ])
      (refine wpAnyH_take (i := 6) (oi := _) (v := ?_) rfl (by kernel_rfl) (by kernel_rfl) (by kernel_rfl) (fun _ _ _ h => h) (Or.inl ⟨by rfl, ?_⟩) (by assumption) ?_; rotate_left; (focus (intro w hSw; (try dsimp only at hSw); go_simp; try with_reducible rfl)); (try simp only [List.getElem_toArray, List.getElem_cons_succ, List.getElem_cons_zero, Act.put, List.setIfInBounds_toArray, List.set_cons_zero, List.set_cons_succ]))
      (refine wpAnyH_ready (rs := [8]) (by kernel_rfl) (by simp) (AllReadyH.cons (o := _) rfl (fun K hK => ?_) AllReadyH.nil))
      rw [if_pos (by rfl)]
      refine wp_store_row _ _ _ rfl (w.heap.size + 1) _ rfl rfl _ _ hg1 ?_ ?_ ?_ ?_
      · kernel_rfl
      · rfl
      · kernel_rfl
      refine hK.out _ _ trivial (fun hHeld => wpAnyH_done (by kernel_rfl) ?_ _)
      (try simp only [List.getElem_toArray, List.getElem_cons_succ, List.getElem_cons_zero, Act.put, List.setIfInBounds_toArray, List.set_cons_zero, List.set_cons_succ])
      refine NoPanic.normal ?_
      go_wp2_with fail
      go_meet
      exact RFCut.mk' rfl (setRow_heap _ _ _ _ _ _ hg1) (by omega) (by simp <;> omega) (below_setRow (((Below.refl _ _).alloc (by simp) _).drew.trans (hb1.mono (by simp))) (Nat.le_refl _) _)
  case rest =>
    obtain ⟨g, rfl, hg, hr, hlt, hlt2, hb⟩ := hcut
    have hq := cell_of_row wc g 0 _ _ _ hg
    have RR := Lib.hid hg
    have SS := Lib.hid hr
    have TT := Lib.hid hb
    clear hg hr hb
    go_upto_region 3 with (first
      | (go_at_call 32; refine (fmt_any _ _).mono ?_; rintro e w3 ⟨rfl, hb3⟩; rw [HF.out]; have hz3 := hb3.size; replace RR := Lib.hid ((hb3.block g hlt2).trans RR.out); replace SS := Lib.hid ((hb3.block w.heap.size (by omega)).trans SS.out); replace TT := Lib.hid (TT.out.trans (hb3.mono TT.out.size)); clear hb3 hq))
    have hlt3 : g < w3.heap.size := by omega
    have hne : w.heap.size ≠ g := by omega
    have hle : w.heap.size ≤ g := by omega
    clear hz3 hlt2
    have hcz : ∀ j, w3.cell? ⟨g, j, none⟩ = (#[Value.int .i64 (byt s 0), .int .i64 0, .int .i64 0, .int .u16 0, .int .u16 0, .int .i64 0, .int .i64 (rsizeS (byt s 0))] : Array Value)[j]? := fun j => cell_of_row w3 g j _ _ _ RR.out
    have hfz : ∀ j, w3.frozen? ⟨g, j, none⟩ = false := fun j => frozen_of_row w3 g j _ _ RR.out
    go_upto_region 52 with (first | (go_at_call 33; refine (rextend_any _ (by omega) (by omega) _).mono ?_; rintro e ww ⟨rfl, rfl⟩))
    have r0 := RR.out
    have s0 := SS.out
    have t0 := TT.out
    have r1 := heap_setCell_same _ g 1 _ _ (.int .i64 (byt s 1 / 16)) r0
    have s1 := (heap_setCell_other _ ⟨g, 1, none⟩ w.heap.size (.int .i64 (byt s 1 / 16)) hne).trans s0
    have t1 := t0.setCell (p := ⟨g, 1, none⟩) hle (.int .i64 (byt s 1 / 16))
    have r2 := heap_setCell_same _ g 2 _ _ (.int .i64 (byt s 1 % 16)) r1
    have s2 := (heap_setCell_other _ ⟨g, 2, none⟩ w.heap.size (.int .i64 (byt s 1 % 16)) hne).trans s1
    have t2 := t1.setCell (p := ⟨g, 2, none⟩) hle (.int .i64 (byt s 1 % 16))
    have rr : _ = some (Obj.cells #[.int .i64 (byt s 0), .int .i64 (byt s 1 / 16), .int .i64 (byt s 1 % 16), .int .u16 0, .int .u16 0, .int .i64 0, .int .i64 (rsizeS (byt s 0))] 24 (0, 0)) := r2
    replace RR := Lib.hid rr
    replace SS := Lib.hid s2
    replace TT := Lib.hid t2
    clear rr r0 s0 t0 r1 s1 t1 r2 s2 t2
    go_wp2_with (first
      | (refine wpList_load_row rfl _ (.tmp 3) rfl _ rfl _ #[.int .i64 (byt s 0), .int .i64 (byt s 1 / 16), .int .i64 (byt s 1 % 16), .int .u16 0, .int .u16 0, .int .i64 0, .int .i64 (rsizeS (byt s 0))] _ _ RR.out Tryd.underlying24 rfl ?_ ?_; kernel_rfl)
      | (refine wpList_store_row rfl _ (.tmp 2) _ rfl _ #[.int .i64 (byt s 0), .int .i64 (byt s 1 / 16), .int .i64 (byt s 1 % 16), .int .u16 0, .int .u16 0, .int .i64 0, .int .i64 (rsizeS (byt s 0))] rfl rfl _ _ SS.out ?_ ?_ ?_ ?_; kernel_rfl; rfl; kernel_rfl))
    refine bodyPost_ret (results_cell_row (cs := #[.int .i64 (byt s 0), .int .i64 (byt s 1 / 16), .int .i64 (byt s 1 % 16), .int .u16 0, .int .u16 0, .int .i64 0, .int .i64 (rsizeS (byt s 0))]) (fr := (0, 0)) rfl _ _ w.heap.size 24 _ rfl (setRow_heap _ _ _ _ _ _ SS.out) (Tryd.underlying24) rfl (by kernel_rfl)) rfl ⟨?_, below_setRow TT.out (Nat.le_refl _) _⟩
    first | rfl | simp [rdF, insCells, vi, vw]

set_option maxRecDepth 100000 in
set_option maxHeartbeats 4000000 in
theorem rfields_5 (s : ByteArray) (hf : fmtS (byt s 0) = 5) (hs : 3 ≤ s.size) (hm : s.size ≤ 9223372036854775807) (w : World) :
    Calls Tryd.prog 42 #[.string s] w fun e w' => e = .returned (.agg (insCells (rdF 5 (byt s) (byt s 0) (rsizeS (byt s 0))))) ∧ Below w.heap.size w w' := by
  have ix : ∀ W, (Instr.index 9 (.string s) (.int .i64 0)).run Tryd.prog W = .ok (.int .u8 (byt s 0)) W := index_byt s 0 (by omega)
  have ix1 : ∀ W, (Instr.index 9 (.string s) (.int .i64 1)).run Tryd.prog W = .ok (.int .u8 (byt s 1)) W := index_byt s 1 (by omega)
  obtain ⟨c1, d1⟩ := byt_bd s 1
  have ix2 : ∀ W, (Instr.index 9 (.string s) (.int .i64 2)).run Tryd.prog W = .ok (.int .u8 (byt s 2)) W := index_byt s 2 (by omega)
  obtain ⟨c2, d2⟩ := byt_bd s 2
  have hx1 : IntKind.i64.wrap (byt s 1) = byt s 1 := IntWalk.i64_in _ (by omega)
  have hy1 : IntKind.u16.wrap (byt s 1) = byt s 1 := IntWalk.u16_in _ (by omega)
  have hx2 : IntKind.i64.wrap (byt s 2) = byt s 2 := IntWalk.i64_in _ (by omega)
  have hy2 : IntKind.u16.wrap (byt s 2) = byt s 2 := IntWalk.u16_in _ (by omega)
  obtain ⟨b0, b1⟩ := byt_bd s 0
  have hw0 : IntKind.i64.wrap (byt s 0) = byt s 0 := IntWalk.i64_in _ (by omega)
  have HF := Lib.hid hf
  clear hf
  go_enter Tryd.func42, Tryd.ntmps42
  go_upto_region 1 with (fail)
  go_cut [3] (fun s3 wx => RFCut s w s3 wx)
  case first =>
    clear HF ix1 ix2
    refine wp_region_noPanic ?_
    refine wp_region_held_drew (S := fun w' => True) (by kernel_rfl) trivial (fun hHeld => ?_)
    (refine wpAnyH_take (i := 0) (oi := _) (v := ?_) rfl (by kernel_rfl) (by kernel_rfl) (by kernel_rfl) (fun _ _ _ h => h) (Or.inl ⟨by rfl, ?_⟩) (by assumption) ?_; rotate_left; (focus (intro w hSw; (try dsimp only at hSw); go_simp; try with_reducible rfl)); (try simp only [List.getElem_toArray, List.getElem_cons_succ, List.getElem_cons_zero, Act.put, List.setIfInBounds_toArray, List.set_cons_zero, List.set_cons_succ]))
    (refine wpAnyH_take (i := 3) (oi := _) (v := ?_) rfl (by kernel_rfl) (by kernel_rfl) (by kernel_rfl) (fun _ _ _ h => h) (Or.inl ⟨by rfl, ?_⟩) (by assumption) ?_; rotate_left; (focus (intro w hSw; (try dsimp only at hSw); go_simp; try with_reducible rfl)); (try simp only [List.getElem_toArray, List.getElem_cons_succ, List.getElem_cons_zero, Act.put, List.setIfInBounds_toArray, List.set_cons_zero, List.set_cons_succ]))
    (refine wpAnyH_take (i := 1) (oi := _) (v := ?_) rfl (by kernel_rfl) (by kernel_rfl) (by kernel_rfl) (fun _ _ _ h => h) (Or.inl ⟨by rfl, ?_⟩) (by assumption) ?_; rotate_left; (focus (intro w hSw; (try dsimp only at hSw); go_simp; try with_reducible rfl)); (try simp only [List.getElem_toArray, List.getElem_cons_succ, List.getElem_cons_zero, Act.put, List.setIfInBounds_toArray, List.set_cons_zero, List.set_cons_succ]))
    (refine wpAnyH_take (i := 4) (oi := _) (v := ?_) rfl (by kernel_rfl) (by kernel_rfl) (by kernel_rfl) (fun _ _ _ h => h) (Or.inl ⟨by rfl, ?_⟩) (by assumption) ?_; rotate_left; (focus (intro w hSw; (try dsimp only at hSw); go_simp; try with_reducible rfl)); (try simp only [List.getElem_toArray, List.getElem_cons_succ, List.getElem_cons_zero, Act.put, List.setIfInBounds_toArray, List.set_cons_zero, List.set_cons_succ]))
    (refine wpAnyH_take (i := 2) (oi := _) (v := ?_) rfl (by kernel_rfl) (by kernel_rfl) (by kernel_rfl) (fun _ _ _ h => h) (Or.inl ⟨by rfl, ?_⟩) (by assumption) ?_; rotate_left; (focus (intro w hSw; (try dsimp only at hSw); go_simp; try with_reducible rfl)); (try simp only [List.getElem_toArray, List.getElem_cons_succ, List.getElem_cons_zero, Act.put, List.setIfInBounds_toArray, List.set_cons_zero, List.set_cons_succ]))
    (refine wpAnyH_ready (rs := [5, 7]) (by kernel_rfl) (by simp) (AllReadyH.cons (o := _) rfl (fun K hK => ?_) (AllReadyH.cons (o := _) rfl (fun K hK => ?_) AllReadyH.nil)))
    · rw [if_pos (by rfl)]
      go_simp
      refine (rsize_any _ b0 b1 _).mono ?_
      rintro e w1 ⟨rfl, hb1⟩
      have hz := hb1.size
      simp at hz
      refine hK.out _ _ trivial (fun hHeld => ?_)
      (try simp only [List.getElem_toArray, List.getElem_cons_succ, List.getElem_cons_zero, Act.put, List.setIfInBounds_toArray, List.set_cons_zero, List.set_cons_succ])
      (refine wpAnyH_take (i := 6) (oi := _) (v := ?_) rfl (by kernel_rfl) (by kernel_rfl) (by kernel_rfl) (fun _ _ _ h => h) (Or.inl ⟨by rfl, ?_⟩) (by assumption) ?_; rotate_left; (focus (intro w hSw; (try dsimp only at hSw); go_simp; try with_reducible rfl)); (try simp only [List.getElem_toArray, List.getElem_cons_succ, List.getElem_cons_zero, Act.put, List.setIfInBounds_toArray, List.set_cons_zero, List.set_cons_succ]))
      (refine wpAnyH_ready (rs := [7]) (by kernel_rfl) (by simp) (AllReadyH.cons (o := _) rfl (fun K hK => ?_) AllReadyH.nil))
      rw [if_pos (by rfl)]
      go_simp
      refine hK.out _ _ trivial (fun hHeld => ?_)
      (try simp only [List.getElem_toArray, List.getElem_cons_succ, List.getElem_cons_zero, Act.put, List.setIfInBounds_toArray, List.set_cons_zero, List.set_cons_succ])
      (refine wpAnyH_ready (rs := [8]) (by kernel_rfl) (by simp) (AllReadyH.cons (o := _) rfl (fun K hK => ?_) AllReadyH.nil))
      rw [if_pos (by rfl)]
      go_simp
      refine hK.out _ _ trivial (fun hHeld => wpAnyH_done (by kernel_rfl) ?_ _)
      (try simp only [List.getElem_toArray, List.getElem_cons_succ, List.getElem_cons_zero, Act.put, List.setIfInBounds_toArray, List.set_cons_zero, List.set_cons_succ])
      refine NoPanic.normal ?_
      go_wp2_with fail
      go_meet
      exact RFCut.mk' rfl (heap_alloc_new _ _) (by omega) (by simp) (((Below.refl _ _).drew.trans (hb1.mono (by simp))).alloc (by omega) _)
    · rw [if_pos (by rfl)]
      go_simp
      refine hK.out _ _ trivial (fun hHeld => ?_)
      (try simp only [List.getElem_toArray, List.getElem_cons_succ, List.getElem_cons_zero, Act.put, List.setIfInBounds_toArray, List.set_cons_zero, List.set_cons_succ])
      (refine wpAnyH_ready (rs := [5]) (by kernel_rfl) (by simp) (AllReadyH.cons (o := _) rfl (fun K hK => ?_) AllReadyH.nil))
      rw [if_pos (by rfl)]
      go_simp
      refine (rsize_any _ b0 b1 _).mono ?_
      rintro e w1 ⟨rfl, hb1⟩
      have hz := hb1.size
      simp at hz
      have hg1 : w1.heap[w.heap.size + 1]? = some (.cells #[Value.int .i64 0, .int .i64 0, .int .i64 0, .int .u16 0, .int .u16 0, .int .i64 0, .int .i64 0] 24 (0, 0)) := (hb1.block (w.heap.size + 1) (by simp <;> omega)).trans (news_row _ _ (by simp))
      refine hK.out _ _ trivial (fun hHeld => ?_)
      (try simp only [List.getElem_toArray, List.getElem_cons_succ, List.getElem_cons_zero, Act.put, List.setIfInBounds_toArray, List.set_cons_zero, List.set_cons_succ])
      (refine wpAnyH_take (i := 6) (oi := _) (v := ?_) rfl (by kernel_rfl) (by kernel_rfl) (by kernel_rfl) (fun _ _ _ h => h) (Or.inl ⟨by rfl, ?_⟩) (by assumption) ?_; rotate_left; (focus (intro w hSw; (try dsimp only at hSw); go_simp; try with_reducible rfl)); (try simp only [List.getElem_toArray, List.getElem_cons_succ, List.getElem_cons_zero, Act.put, List.setIfInBounds_toArray, List.set_cons_zero, List.set_cons_succ]))
      (refine wpAnyH_ready (rs := [8]) (by kernel_rfl) (by simp) (AllReadyH.cons (o := _) rfl (fun K hK => ?_) AllReadyH.nil))
      rw [if_pos (by rfl)]
      refine wp_store_row _ _ _ rfl (w.heap.size + 1) _ rfl rfl _ _ hg1 ?_ ?_ ?_ ?_
      · kernel_rfl
      · rfl
      · kernel_rfl
      refine hK.out _ _ trivial (fun hHeld => wpAnyH_done (by kernel_rfl) ?_ _)
      (try simp only [List.getElem_toArray, List.getElem_cons_succ, List.getElem_cons_zero, Act.put, List.setIfInBounds_toArray, List.set_cons_zero, List.set_cons_succ])
      refine NoPanic.normal ?_
      go_wp2_with fail
      go_meet
      exact RFCut.mk' rfl (setRow_heap _ _ _ _ _ _ hg1) (by omega) (by simp <;> omega) (below_setRow (((Below.refl _ _).alloc (by simp) _).drew.trans (hb1.mono (by simp))) (Nat.le_refl _) _)
  case rest =>
    obtain ⟨g, rfl, hg, hr, hlt, hlt2, hb⟩ := hcut
    have hq := cell_of_row wc g 0 _ _ _ hg
    have RR := Lib.hid hg
    have SS := Lib.hid hr
    have TT := Lib.hid hb
    clear hg hr hb
    go_upto_region 3 with (first
      | (go_at_call 32; refine (fmt_any _ _).mono ?_; rintro e w3 ⟨rfl, hb3⟩; rw [HF.out]; have hz3 := hb3.size; replace RR := Lib.hid ((hb3.block g hlt2).trans RR.out); replace SS := Lib.hid ((hb3.block w.heap.size (by omega)).trans SS.out); replace TT := Lib.hid (TT.out.trans (hb3.mono TT.out.size)); clear hb3 hq))
    have hlt3 : g < w3.heap.size := by omega
    have hne : w.heap.size ≠ g := by omega
    have hle : w.heap.size ≤ g := by omega
    clear hz3 hlt2
    have hcz : ∀ j, w3.cell? ⟨g, j, none⟩ = (#[Value.int .i64 (byt s 0), .int .i64 0, .int .i64 0, .int .u16 0, .int .u16 0, .int .i64 0, .int .i64 (rsizeS (byt s 0))] : Array Value)[j]? := fun j => cell_of_row w3 g j _ _ _ RR.out
    have hfz : ∀ j, w3.frozen? ⟨g, j, none⟩ = false := fun j => frozen_of_row w3 g j _ _ RR.out
    go_upto_region 52 with (first | (go_at_call 33; refine (rextend_any _ (by omega) (by omega) _).mono ?_; rintro e ww ⟨rfl, rfl⟩))
    have r0 := RR.out
    have s0 := SS.out
    have t0 := TT.out
    have r1 := heap_setCell_same _ g 1 _ _ (.int .i64 (byt s 1)) r0
    have s1 := (heap_setCell_other _ ⟨g, 1, none⟩ w.heap.size (.int .i64 (byt s 1)) hne).trans s0
    have t1 := t0.setCell (p := ⟨g, 1, none⟩) hle (.int .i64 (byt s 1))
    have r2 := heap_setCell_same _ g 3 _ _ (.int .u16 (extendS (byt s 2))) r1
    have s2 := (heap_setCell_other _ ⟨g, 3, none⟩ w.heap.size (.int .u16 (extendS (byt s 2))) hne).trans s1
    have t2 := t1.setCell (p := ⟨g, 3, none⟩) hle (.int .u16 (extendS (byt s 2)))
    have rr : _ = some (Obj.cells #[.int .i64 (byt s 0), .int .i64 (byt s 1), .int .i64 0, .int .u16 (extendS (byt s 2)), .int .u16 0, .int .i64 0, .int .i64 (rsizeS (byt s 0))] 24 (0, 0)) := r2
    replace RR := Lib.hid rr
    replace SS := Lib.hid s2
    replace TT := Lib.hid t2
    clear rr r0 s0 t0 r1 s1 t1 r2 s2 t2
    go_wp2_with (first
      | (refine wpList_load_row rfl _ (.tmp 3) rfl _ rfl _ #[.int .i64 (byt s 0), .int .i64 (byt s 1), .int .i64 0, .int .u16 (extendS (byt s 2)), .int .u16 0, .int .i64 0, .int .i64 (rsizeS (byt s 0))] _ _ RR.out Tryd.underlying24 rfl ?_ ?_; kernel_rfl)
      | (refine wpList_store_row rfl _ (.tmp 2) _ rfl _ #[.int .i64 (byt s 0), .int .i64 (byt s 1), .int .i64 0, .int .u16 (extendS (byt s 2)), .int .u16 0, .int .i64 0, .int .i64 (rsizeS (byt s 0))] rfl rfl _ _ SS.out ?_ ?_ ?_ ?_; kernel_rfl; rfl; kernel_rfl))
    refine bodyPost_ret (results_cell_row (cs := #[.int .i64 (byt s 0), .int .i64 (byt s 1), .int .i64 0, .int .u16 (extendS (byt s 2)), .int .u16 0, .int .i64 0, .int .i64 (rsizeS (byt s 0))]) (fr := (0, 0)) rfl _ _ w.heap.size 24 _ rfl (setRow_heap _ _ _ _ _ _ SS.out) (Tryd.underlying24) rfl (by kernel_rfl)) rfl ⟨?_, below_setRow TT.out (Nat.le_refl _) _⟩
    first | rfl | simp [rdF, insCells, vi, vw]

end Go.Proofs.YtakahmhbopakmaaDoor
