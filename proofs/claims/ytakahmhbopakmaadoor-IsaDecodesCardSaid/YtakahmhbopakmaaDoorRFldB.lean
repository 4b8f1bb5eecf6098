/- fields and Decode of the reference: every string. -/
import Derived.Test.YtakahmhbopakmaaDoorRFld0
import Derived.Test.YtakahmhbopakmaaDoorRFld1
import Derived.Test.YtakahmhbopakmaaDoorRFld2
import Derived.Test.YtakahmhbopakmaaDoorRFld3
set_option linter.all false
namespace Go.Proofs.YtakahmhbopakmaaDoor
open Go.RowKit

theorem rfields_any (s : ByteArray) (hf : fmtS (byt s 0) ≠ 0) (hs : rsizeS (byt s 0) ≤ s.size) (hm : s.size ≤ 9223372036854775807) (w : World) :
    Calls Tryd.prog 42 #[.string s] w fun e w' => e = .returned (.agg (insCells (readB s))) ∧ Below w.heap.size w w' := by
  rw [readB_eq s hf]
  have hr : rsizeS (byt s 0) = rsizeTab.getD (fmtS (byt s 0)).toNat 0 := rfl
  rw [hr] at hs
  rcases fmt18' _ hf with e | e | e | e | e | e | e | e | e | e | e | e | e | e | e | e | e | e <;> (rw [e] at hs; simp [rsizeTab] at hs)
  · rw [e]; exact rfields_1 s e (by omega) hm w
  · rw [e]; exact rfields_2 s e (by omega) hm w
  · rw [e]; exact rfields_3 s e (by omega) hm w
  · rw [e]; exact rfields_4 s e (by omega) hm w
  · rw [e]; exact rfields_5 s e (by omega) hm w
  · rw [e]; exact rfields_6 s e (by omega) hm w
  · rw [e]; exact rfields_7 s e (by omega) hm w
  · rw [e]; exact rfields_8 s e (by omega) hm w
  · rw [e]; exact rfields_9 s e (by omega) hm w
  · rw [e]; exact rfields_10 s e (by omega) hm w
  · rw [e]; exact rfields_11 s e (by omega) hm w
  · rw [e]; exact rfields_12 s e (by omega) hm w
  · rw [e]; exact rfields_13 s e (by omega) hm w
  · rw [e]; exact rfields_14 s e (by omega) hm w
  · rw [e]; exact rfields_15 s e (by omega) hm w
  · rw [e]; exact rfields_16 s e (by omega) hm w
  · rw [e]; exact rfields_17 s e (by omega) hm w
  · rw [e]; exact rfields_18 s e (by omega) hm w

set_option maxRecDepth 100000 in
set_option maxHeartbeats 1000000 in
theorem rdecode_empty (s : ByteArray) (h0 : s.size = 0) (w : World) :
    Calls Tryd.prog 23 #[.string s] w fun e w' => e = .returned (.tuple #[.agg (insCells ins00), .int .i64 10]) ∧ Below w.heap.size w w' := by
  go_enter Tryd.func23, Tryd.ntmps23
  go_wp2_with (first | (refine wpList_store_row rfl _ _ _ rfl _ _ rfl rfl _ _ (heap_alloc_new _ _) ?_ ?_ ?_ ?_; kernel_rfl; rfl; kernel_rfl; rw [World.setRow_alloc_new]))
  refine bodyPost_ret (results_row_tmp (cs := insCells ins00) (fr := (0, 0)) Tryd.results23 _ _ w.heap.size 24 _ ?_ (heap_alloc_new _ _) Tryd.underlying24 rfl (by kernel_rfl)) rfl ⟨rfl, (Below.refl _ _).alloc (Nat.le_refl _) _⟩
  rfl
set_option maxRecDepth 100000 in
set_option maxHeartbeats 1000000 in
theorem rdecode_none (s : ByteArray) (h0 : 1 ≤ s.size) (hm : s.size ≤ 9223372036854775807) (hf : rsizeS (byt s 0) = 0) (w : World) :
    Calls Tryd.prog 23 #[.string s] w fun e w' => e = .returned (.tuple #[.agg (insCells ins00), .int .i64 11]) ∧ Below w.heap.size w w' := by
  have ix : ∀ W, (Instr.index 9 (.string s) (.int .i64 0)).run Tryd.prog W = .ok (.int .u8 (byt s 0)) W := index_byt s 0 h0
  have hne : ((s.size : Int) == 0) = false := beq_eq_false_iff_ne.2 (by omega)
  obtain ⟨b0, b1⟩ := byt_bd s 0
  have HF := Lib.hid hf
  clear hf
  go_enter Tryd.func23, Tryd.ntmps23
  go_wp2_with (first
    | (go_at_call 25; refine (rsize_any _ b0 b1 _).mono ?_; rintro e w1 ⟨rfl, hb1⟩; rw [HF.out]; have HB0 := Lib.hid ((hb1.block w.heap.size (by simp)).trans (heap_alloc_new w _)))
    | (refine wpList_store_row rfl _ (.tmp 2) _ rfl _ (insCells ins00) rfl rfl _ _ HB0.out ?_ ?_ ?_ ?_; kernel_rfl; rfl; kernel_rfl))
  refine bodyPost_ret (results_row_tmp (cs := insCells ins00) (fr := (0, 0)) Tryd.results23 _ _ w.heap.size 24 _ ?_ (setRow_heap _ _ _ _ _ _ HB0.out) Tryd.underlying24 rfl (by kernel_rfl)) rfl ⟨rfl, below_setRow (((Below.refl _ _).alloc (Nat.le_refl _) _).trans (hb1.mono (by simp))) (Nat.le_refl _) _⟩
  rfl
set_option maxRecDepth 100000 in
set_option maxHeartbeats 1000000 in
theorem rdecode_short (s : ByteArray) (h0 : 1 ≤ s.size) (hm : s.size ≤ 9223372036854775807) (hf : rsizeS (byt s 0) ≠ 0) (hl : (s.size : Int) < rsizeS (byt s 0)) (w : World) :
    Calls Tryd.prog 23 #[.string s] w fun e w' => e = .returned (.tuple #[.agg (insCells ins00), .int .i64 10]) ∧ Below w.heap.size w w' := by
  have ix : ∀ W, (Instr.index 9 (.string s) (.int .i64 0)).run Tryd.prog W = .ok (.int .u8 (byt s 0)) W := index_byt s 0 h0
  have hne : ((s.size : Int) == 0) = false := beq_eq_false_iff_ne.2 (by omega)
  have hnz : (rsizeS (byt s 0) == 0) = false := by simpa using hf
  have hd : decide ((s.size : Int) < rsizeS (byt s 0)) = true := decide_eq_true hl
  obtain ⟨b0, b1⟩ := byt_bd s 0
  clear hf
  go_enter Tryd.func23, Tryd.ntmps23
  go_wp2_with (first
    | (go_at_call 25; refine (rsize_any _ b0 b1 _).mono ?_; rintro e w1 ⟨rfl, hb1⟩; have HB0 := Lib.hid ((hb1.block w.heap.size (by simp)).trans (heap_alloc_new w _)))
    | (refine wpList_store_row rfl _ (.tmp 2) _ rfl _ (insCells ins00) rfl rfl _ _ HB0.out ?_ ?_ ?_ ?_; kernel_rfl; rfl; kernel_rfl))
  refine bodyPost_ret (results_row_tmp (cs := insCells ins00) (fr := (0, 0)) Tryd.results23 _ _ w.heap.size 24 _ ?_ (setRow_heap _ _ _ _ _ _ HB0.out) Tryd.underlying24 rfl (by kernel_rfl)) rfl ⟨rfl, below_setRow (((Below.refl _ _).alloc (Nat.le_refl _) _).trans (hb1.mono (by simp))) (Nat.le_refl _) _⟩
  rfl
set_option maxRecDepth 100000 in
set_option maxHeartbeats 2000000 in
theorem rdecode_good (s : ByteArray) (h0 : 1 ≤ s.size) (hm : s.size ≤ 9223372036854775807) (hf : fmtS (byt s 0) ≠ 0) (hnz0 : rsizeS (byt s 0) ≠ 0) (hl : rsizeS (byt s 0) ≤ (s.size : Int)) (hv : rvalidS (readB s) = true) (w : World) :
    Calls Tryd.prog 23 #[.string s] w fun e w' => e = .returned (.tuple #[.agg (insCells (readB s)), .int .i64 0]) ∧ Below w.heap.size w w' := by
  have ix : ∀ W, (Instr.index 9 (.string s) (.int .i64 0)).run Tryd.prog W = .ok (.int .u8 (byt s 0)) W := index_byt s 0 h0
  have hne : ((s.size : Int) == 0) = false := beq_eq_false_iff_ne.2 (by omega)
  have hnz : (rsizeS (byt s 0) == 0) = false := by simpa using hnz0
  have hd : decide ((s.size : Int) < rsizeS (byt s 0)) = false := decide_eq_false (by omega)
  obtain ⟨b0, b1⟩ := byt_bd s 0
  have HRF := Lib.hid (fun W => rfields_any s hf hl hm W)
  have HV := Lib.hid hv
  clear hf hv hnz0
  go_enter Tryd.func23, Tryd.ntmps23
  go_wp2_with (first
    | (go_at_call 25; refine (rsize_any _ b0 b1 _).mono ?_; rintro e w1 ⟨rfl, hb1⟩; have HB0 := Lib.hid ((hb1.block w.heap.size (by simp)).trans (heap_alloc_new w _)); have hz1 := hb1.size; simp at hz1)
    | (go_at_call 42; refine (HRF.out _).mono ?_; rintro e w2 ⟨rfl, hb2⟩; have hz2 := hb2.size; replace HB0 := Lib.hid ((hb2.block w.heap.size (by omega)).trans HB0.out))
    | (go_at_call 21; refine (rvalid_any (readB s) _).mono ?_; rintro e w3 ⟨rfl, hb3⟩; rw [HV.out]; replace HB0 := Lib.hid ((hb3.block w.heap.size (by simp <;> omega)).trans ((heap_alloc_old _ _ (by omega)).trans HB0.out)))
    | (refine wpList_load_row rfl _ (.tmp 5) rfl _ rfl _ (insCells (readB s)) _ _ (heap_alloc_new w2 _) Tryd.underlying24 rfl ?_ ?_; kernel_rfl)
    | (refine wpList_load_row rfl _ (.tmp 5) rfl _ rfl _ (insCells (readB s)) _ _ ((hb3.block _ (by simp)).trans (heap_alloc_new w2 _)) Tryd.underlying24 rfl ?_ ?_; kernel_rfl)
    | (refine wpList_store_row rfl _ (.tmp 2) _ rfl _ (insCells (readB s)) rfl rfl _ _ HB0.out ?_ ?_ ?_ ?_; kernel_rfl; rfl; kernel_rfl)
    | (refine wpList_store_row rfl _ _ _ rfl _ _ rfl rfl _ _ (heap_alloc_new _ _) ?_ ?_ ?_ ?_; kernel_rfl; rfl; kernel_rfl; rw [World.setRow_alloc_new]))
  refine bodyPost_ret (results_row_tmp (cs := insCells (readB s)) (fr := (0, 0)) Tryd.results23 _ _ w.heap.size 24 _ ?_ (setRow_heap _ _ _ _ _ _ HB0.out) Tryd.underlying24 rfl (by kernel_rfl)) rfl ⟨rfl, below_setRow ((((((Below.refl _ _).alloc (Nat.le_refl _) _).trans (hb1.mono (by simp))).trans (hb2.mono (by omega))).alloc (by omega) _).trans (hb3.mono (by simp <;> omega))) (Nat.le_refl _) _⟩
  rfl
set_option maxRecDepth 100000 in
set_option maxHeartbeats 2000000 in
theorem rdecode_bad (s : ByteArray) (h0 : 1 ≤ s.size) (hm : s.size ≤ 9223372036854775807) (hf : fmtS (byt s 0) ≠ 0) (hnz0 : rsizeS (byt s 0) ≠ 0) (hl : rsizeS (byt s 0) ≤ (s.size : Int)) (hv : rvalidS (readB s) = false) (w : World) :
    Calls Tryd.prog 23 #[.string s] w fun e w' => e = .returned (.tuple #[.agg (insCells ins00), .int .i64 11]) ∧ Below w.heap.size w w' := by
  have ix : ∀ W, (Instr.index 9 (.string s) (.int .i64 0)).run Tryd.prog W = .ok (.int .u8 (byt s 0)) W := index_byt s 0 h0
  have hne : ((s.size : Int) == 0) = false := beq_eq_false_iff_ne.2 (by omega)
  have hnz : (rsizeS (byt s 0) == 0) = false := by simpa using hnz0
  have hd : decide ((s.size : Int) < rsizeS (byt s 0)) = false := decide_eq_false (by omega)
  obtain ⟨b0, b1⟩ := byt_bd s 0
  have HRF := Lib.hid (fun W => rfields_any s hf hl hm W)
  have HV := Lib.hid hv
  clear hf hv hnz0
  go_enter Tryd.func23, Tryd.ntmps23
  go_wp2_with (first
    | (go_at_call 25; refine (rsize_any _ b0 b1 _).mono ?_; rintro e w1 ⟨rfl, hb1⟩; have HB0 := Lib.hid ((hb1.block w.heap.size (by simp)).trans (heap_alloc_new w _)); have hz1 := hb1.size; simp at hz1)
    | (go_at_call 42; refine (HRF.out _).mono ?_; rintro e w2 ⟨rfl, hb2⟩; have hz2 := hb2.size; replace HB0 := Lib.hid ((hb2.block w.heap.size (by omega)).trans HB0.out))
    | (go_at_call 21; refine (rvalid_any (readB s) _).mono ?_; rintro e w3 ⟨rfl, hb3⟩; rw [HV.out]; replace HB0 := Lib.hid ((hb3.block w.heap.size (by simp <;> omega)).trans ((heap_alloc_old _ _ (by omega)).trans HB0.out)))
    | (refine wpList_load_row rfl _ (.tmp 5) rfl _ rfl _ (insCells (readB s)) _ _ (heap_alloc_new w2 _) Tryd.underlying24 rfl ?_ ?_; kernel_rfl)
    | (refine wpList_load_row rfl _ (.tmp 5) rfl _ rfl _ (insCells (readB s)) _ _ ((hb3.block _ (by simp)).trans (heap_alloc_new w2 _)) Tryd.underlying24 rfl ?_ ?_; kernel_rfl)
    | (refine wpList_store_row rfl _ (.tmp 2) _ rfl _ (insCells ins00) rfl rfl _ _ HB0.out ?_ ?_ ?_ ?_; kernel_rfl; rfl; kernel_rfl)
    | (refine wpList_store_row rfl _ _ _ rfl _ _ rfl rfl _ _ (heap_alloc_new _ _) ?_ ?_ ?_ ?_; kernel_rfl; rfl; kernel_rfl; rw [World.setRow_alloc_new]))
  refine bodyPost_ret (results_row_tmp (cs := insCells ins00) (fr := (0, 0)) Tryd.results23 _ _ w.heap.size 24 _ ?_ (setRow_heap _ _ _ _ _ _ HB0.out) Tryd.underlying24 rfl (by kernel_rfl)) rfl ⟨rfl, below_setRow ((((((Below.refl _ _).alloc (Nat.le_refl _) _).trans (hb1.mono (by simp))).trans (hb2.mono (by omega))).alloc (by omega) _).trans (hb3.mono (by simp <;> omega))) (Nat.le_refl _) _⟩
  rfl

theorem rsize_zero {op : Int} (h : fmtS op ≠ 0) : 1 ≤ rsizeS op := by
  have h2 := fmt_rng h
  rw [rsize_fmt]
  have : ∀ n : Nat, n ≤ 18 → 1 ≤ n → 1 ≤ rsizeTab.getD n 0 := by decide
  exact this _ (by omega) (by omega)
theorem rdecode_any (s : ByteArray) (hm : s.size ≤ 9223372036854775807) (w : World) :
    Calls Tryd.prog 23 #[.string s] w fun e w' => e = .returned (.tuple #[.agg (insCells (decI s)), .int .i64 (decE s)]) ∧ Below w.heap.size w w' := by
  by_cases h0 : s.size = 0
  · have he : decE s = 10 := by unfold decE; rw [if_pos h0]
    have hd : decI s = ins00 := by unfold decI; rw [he]; rfl
    rw [hd, he]; exact rdecode_empty s h0 w
  by_cases hf : fmtS (byt s 0) = 0
  · have he : decE s = 11 := by unfold decE; rw [if_neg h0, fOf_zero hf]; rfl
    have hd : decI s = ins00 := by unfold decI; rw [he]; rfl
    rw [hd, he]; exact rdecode_none s (by omega) hm (by rw [rsize_fmt, hf]; rfl) w
  · have hfo := (fOf_some hf).1
    have hr1 := rsize_zero hf
    by_cases hl : (s.size : Int) < rsizeS (byt s 0)
    · have he : decE s = 10 := by unfold decE; rw [if_neg h0, hfo, size_eq]; simp [hl]
      have hd : decI s = ins00 := by unfold decI; rw [he]; rfl
      rw [hd, he]; exact rdecode_short s (by omega) hm (by omega) hl w
    · have hok : (readB s).Ok := rdTo_ok s _ 4
      cases hv : validS (readB s) with
      | true =>
        have he : decE s = 0 := by unfold decE; rw [if_neg h0, hfo, hv, size_eq]; simp [hl]
        have hd : decI s = readB s := by unfold decI; rw [he]; rfl
        rw [hd, he]; exact rdecode_good s (by omega) hm hf (by omega) (by omega) (by rw [← valid_eq _ hok]; exact hv) w
      | false =>
        have he : decE s = 11 := by unfold decE; rw [if_neg h0, hfo, hv, size_eq]; simp [hl]
        have hd : decI s = ins00 := by unfold decI; rw [he]; rfl
        rw [hd, he]; exact rdecode_bad s (by omega) hm hf (by omega) (by omega) (by rw [← valid_eq _ hok]; exact hv) w

end Go.Proofs.YtakahmhbopakmaaDoor
