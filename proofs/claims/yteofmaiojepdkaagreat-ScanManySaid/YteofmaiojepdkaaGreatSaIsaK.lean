/- Decode of package isa: walked. No condition beyond what each states. -/
import Derived.Test.YteofmaiojepdkaaGreatSaIsaI
set_option linter.all false
namespace Go.Proofs.YteofmaiojepdkaaGreat
open Go.RowKit
set_option maxRecDepth 100000 in
set_option maxHeartbeats 1000000 in
theorem decode_empty (s : ByteArray) (h0 : s.size = 0) (w : World) :
    Calls Tryz.prog 134 #[.string s] w fun e w' => e = .returned (.tuple #[.agg (zk ya), .int .i64 10]) ∧ Below w.heap.size w w' := by
  have hs : s.toList = [] := by
    rw [ByteArray.toList_eq]
    have : s.data.toList.length = 0 := by simpa using h0
    exact List.eq_nil_of_length_eq_zero this
  clear h0
  go_enter Tryz.func134, Tryz.ntmps134
  go_wp2_with (first | (refine wpList_store_row rfl _ _ _ rfl _ _ rfl rfl _ _ (heap_alloc_new _ _) ?_ ?_ ?_ ?_; kernel_rfl; rfl; kernel_rfl; rw [World.setRow_alloc_new]))
  refine bodyPost_ret (zf (cs := zk ya) (fr := (0, 0)) Tryz.results134 _ _ w.heap.size 53 _ ?_ (heap_alloc_new _ _) Tryz.underlying53 rfl (by kernel_rfl)) rfl ⟨rfl, (Below.refl _ _).alloc (zn _) _⟩
  rfl
theorem y2 {s : ByteArray} (h : 1 ≤ s.size) : s.toList.isEmpty = false := by
  rw [ByteArray.toList_eq]
  cases e : s.data.toList with
  | nil =>
    have : s.data.toList.length = s.size := by simp
    rw [e] at this
    simp at this
    omega
  | cons _ _ => rfl
set_option maxRecDepth 100000 in
set_option maxHeartbeats 1000000 in
theorem decode_none (s : ByteArray) (h0 : 1 ≤ s.size) (hf : fOf (byt s 0) = none) (w : World) :
    Calls Tryz.prog 134 #[.string s] w fun e w' => e = .returned (.tuple #[.agg (zk ya), .int .i64 11]) ∧ Below w.heap.size w w' := by
  have hs := y2 h0
  have ix : ∀ W, (Instr.index 9 (.string s) (.int .i64 0)).run Tryz.prog W = .ok (.int .u8 (byt s 0)) W := yN s 0 h0
  obtain ⟨b0, b1⟩ := ys s 0
  have HF := zh hf
  clear hf
  go_enter Tryz.func134, Tryz.ntmps134
  go_wp2_with (first
    | (go_at_call 135; refine (yk _ _).mono ?_; rintro e w1 ⟨rfl, hb1⟩; rw [HF.out, Option.isSome_none]; have hz1 := hb1.size; simp at hz1; have hB0 := (hb1.block w.heap.size (by simp)).trans (heap_alloc_new w _); have HB0 := zh hB0; clear hB0)
    | (refine wpList_store_row rfl _ (.tmp 2) _ rfl _ (zk ya) rfl rfl _ _ ((heap_alloc_old _ _ hz1).trans HB0.out) ?_ ?_ ?_ ?_; kernel_rfl; rfl; kernel_rfl)
    | (refine wpList_store_row rfl _ _ _ rfl _ _ rfl rfl _ _ (heap_alloc_new _ _) ?_ ?_ ?_ ?_; kernel_rfl; rfl; kernel_rfl; rw [World.setRow_alloc_new]))
  refine bodyPost_ret (zf (cs := zk ya) (fr := (0, 0)) Tryz.results134 _ _ w.heap.size 53 _ ?_ (setRow_heap _ _ _ _ _ _ ((heap_alloc_old _ _ hz1).trans HB0.out)) Tryz.underlying53 rfl (by kernel_rfl)) rfl ⟨rfl, below_setRow ((((Below.refl _ _).alloc (zn _) _).trans (hb1.mono (by simp))).alloc (by omega) _) (zn _) _⟩
  rfl
set_option maxRecDepth 100000 in
set_option maxHeartbeats 1000000 in
theorem decode_short (s : ByteArray) (h0 : 1 ≤ s.size) (hm : s.size ≤ 9223372036854775807) (k : Nat) (hf : fOf (byt s 0) = some k) (hl : (s.size : Int) < zm (byt s 0)) (w : World) :
    Calls Tryz.prog 134 #[.string s] w fun e w' => e = .returned (.tuple #[.agg (zk ya), .int .i64 10]) ∧ Below w.heap.size w w' := by
  have hs := y2 h0
  have ix : ∀ W, (Instr.index 9 (.string s) (.int .i64 0)).run Tryz.prog W = .ok (.int .u8 (byt s 0)) W := yN s 0 h0
  obtain ⟨b0, b1⟩ := ys s 0
  have HF := zh hf
  clear hf
  go_enter Tryz.func134, Tryz.ntmps134
  go_wp2_with (first
    | (go_at_call 135; refine (yk _ _).mono ?_; rintro e w1 ⟨rfl, hb1⟩; rw [HF.out, Option.isSome_some]; have hz1 := hb1.size; simp at hz1; have hB0 := (hb1.block w.heap.size (by simp)).trans (heap_alloc_new w _); have HB0 := zh hB0; clear hB0)
    | (go_at_call 133; refine (size_any _ b0 b1 _).mono ?_; rintro e w2 ⟨rfl, hb2⟩; have hz2 := hb2.size; simp at hz2)
    | (refine wpList_store_row rfl _ (.tmp 2) _ rfl _ (zk ya) rfl rfl _ _ ((hb2.block _ (by simp <;> omega)).trans ((heap_alloc_old _ _ hz1).trans HB0.out)) ?_ ?_ ?_ ?_; kernel_rfl; rfl; kernel_rfl)
    | (refine wpList_store_row rfl _ _ _ rfl _ _ rfl rfl _ _ (heap_alloc_new _ _) ?_ ?_ ?_ ?_; kernel_rfl; rfl; kernel_rfl; rw [World.setRow_alloc_new]))
  refine bodyPost_ret (zf (cs := zk ya) (fr := (0, 0)) Tryz.results134 _ _ w.heap.size 53 _ ?_ (setRow_heap _ _ _ _ _ _ ((hb2.block _ (by simp <;> omega)).trans ((heap_alloc_old _ _ hz1).trans HB0.out))) Tryz.underlying53 rfl (by kernel_rfl)) rfl ⟨rfl, below_setRow (((((Below.refl _ _).alloc (zn _) _).trans (hb1.mono (by simp))).alloc (by omega) _).trans (hb2.mono (by simp <;> omega))) (zn _) _⟩
  rfl
set_option maxRecDepth 100000 in
set_option maxHeartbeats 2000000 in
theorem decode_good (s : ByteArray) (h0 : 1 ≤ s.size) (hm : s.size ≤ 9223372036854775807) (k : Nat) (hf : fOf (byt s 0) = some k) (hl : zm (byt s 0) ≤ (s.size : Int)) (hv : zl (yR s) = true) (w : World) :
    Calls Tryz.prog 134 #[.string s] w fun e w' => e = .returned (.tuple #[.agg (zk (yR s)), .int .i64 0]) ∧ Below w.heap.size w w' := by
  have hs := y2 h0
  have ix : ∀ W, (Instr.index 9 (.string s) (.int .i64 0)).run Tryz.prog W = .ok (.int .u8 (byt s 0)) W := yN s 0 h0
  obtain ⟨b0, b1⟩ := ys s 0
  have hok : (yR s).Ok := rdTo_ok s _ 4
  have hsl := size_len hf (yd s)
  have hRd := fun W => read_any s (fld (byt s 0) 0) (fld (byt s 0) 1) (fld (byt s 0) 2) (fld (byt s 0) 3) h0 hm
    (fun m hm' => by
      rw [rdTo_len _ _ (yd s)]
      have h1 := bytesTo_le (yd s) (fF (fld (byt s 0) 0) (fld (byt s 0) 1) (fld (byt s 0) 2) (fld (byt s 0) 3)) m 4 hm'
      have h2 : ((zi (yd s) (fF (fld (byt s 0) 0) (fld (byt s 0) 1) (fld (byt s 0) 2) (fld (byt s 0) 3)) 4).length : Int) = zm (byt s 0) := hsl
      omega) W
  have HRD := zh hRd
  have HF := zh hf
  have HV := zh hv
  clear hf hv hRd hsl
  go_enter Tryz.func134, Tryz.ntmps134
  go_wp2_with (first
    | (go_at_call 135; refine (yk _ _).mono ?_; rintro e w1 ⟨rfl, hb1⟩; rw [HF.out, Option.isSome_some]; have hz1 := hb1.size; simp at hz1; have hB0 := (hb1.block w.heap.size (by simp)).trans (heap_alloc_new w _); have HB0 := zh hB0; clear hB0)
    | (go_at_call 133; refine (size_any _ b0 b1 _).mono ?_; rintro e w2 ⟨rfl, hb2⟩; have hz2 := hb2.size; simp at hz2; have hc2 := fun o => cell_of_row w2 w1.heap.size o _ _ _ ((hb2.block _ (by simp)).trans (heap_alloc_new w1 _)))
    | (go_at_call 138; refine (HRD.out _).mono ?_; rintro e w3 ⟨rfl, hb3⟩; have hz3 := hb3.size; clear hc2)
    | (go_at_call 119; refine (yf (yR s) hok _).mono ?_; rintro e w4 ⟨rfl, hb4⟩; rw [HV.out]; have hz4 := hb4.size; simp at hz4)
    | (refine wpList_load_row rfl _ (.tmp 6) rfl _ rfl _ (zk (yR s)) _ _ (heap_alloc_new w3 _) Tryz.underlying53 rfl ?_ ?_; kernel_rfl)
    | (refine wpList_load_row rfl _ (.tmp 6) rfl _ rfl _ (zk (yR s)) _ _ ((hb4.block _ (by simp)).trans (heap_alloc_new w3 _)) Tryz.underlying53 rfl ?_ ?_; kernel_rfl)
    | (refine wpList_store_row rfl _ (.tmp 2) _ rfl _ (zk (yR s)) rfl rfl _ _ ((hb4.block _ (by simp <;> omega)).trans ((heap_alloc_old _ _ (by omega)).trans ((hb3.block _ (by omega)).trans ((hb2.block _ (by simp <;> omega)).trans ((heap_alloc_old _ _ hz1).trans HB0.out))))) ?_ ?_ ?_ ?_; kernel_rfl; rfl; kernel_rfl)
    | (refine wpList_store_row rfl _ _ _ rfl _ _ rfl rfl _ _ (heap_alloc_new _ _) ?_ ?_ ?_ ?_; kernel_rfl; rfl; kernel_rfl; rw [World.setRow_alloc_new]))
  refine bodyPost_ret (zf (cs := zk (yR s)) (fr := (0, 0)) Tryz.results134 _ _ w.heap.size 53 _ ?_ (setRow_heap _ _ _ _ _ _ ((hb4.block _ (by simp <;> omega)).trans ((heap_alloc_old _ _ (by omega)).trans ((hb3.block _ (by omega)).trans ((hb2.block _ (by simp <;> omega)).trans ((heap_alloc_old _ _ hz1).trans HB0.out)))))) Tryz.underlying53 rfl (by kernel_rfl)) rfl ⟨rfl, below_setRow ((((((((Below.refl _ _).alloc (zn _) _).trans (hb1.mono (by simp))).alloc (by omega) _).trans (hb2.mono (by simp <;> omega))).trans (hb3.mono (by omega))).alloc (by omega) _).trans (hb4.mono (by simp <;> omega))) (zn _) _⟩
  rfl
set_option maxRecDepth 100000 in
set_option maxHeartbeats 2000000 in
theorem decode_bad (s : ByteArray) (h0 : 1 ≤ s.size) (hm : s.size ≤ 9223372036854775807) (k : Nat) (hf : fOf (byt s 0) = some k) (hl : zm (byt s 0) ≤ (s.size : Int)) (hv : zl (yR s) = false) (w : World) :
    Calls Tryz.prog 134 #[.string s] w fun e w' => e = .returned (.tuple #[.agg (zk ya), .int .i64 11]) ∧ Below w.heap.size w w' := by
  have hs := y2 h0
  have ix : ∀ W, (Instr.index 9 (.string s) (.int .i64 0)).run Tryz.prog W = .ok (.int .u8 (byt s 0)) W := yN s 0 h0
  obtain ⟨b0, b1⟩ := ys s 0
  have hok : (yR s).Ok := rdTo_ok s _ 4
  have hsl := size_len hf (yd s)
  have hRd := fun W => read_any s (fld (byt s 0) 0) (fld (byt s 0) 1) (fld (byt s 0) 2) (fld (byt s 0) 3) h0 hm
    (fun m hm' => by
      rw [rdTo_len _ _ (yd s)]
      have h1 := bytesTo_le (yd s) (fF (fld (byt s 0) 0) (fld (byt s 0) 1) (fld (byt s 0) 2) (fld (byt s 0) 3)) m 4 hm'
      have h2 : ((zi (yd s) (fF (fld (byt s 0) 0) (fld (byt s 0) 1) (fld (byt s 0) 2) (fld (byt s 0) 3)) 4).length : Int) = zm (byt s 0) := hsl
      omega) W
  have HRD := zh hRd
  have HF := zh hf
  have HV := zh hv
  clear hf hv hRd hsl
  go_enter Tryz.func134, Tryz.ntmps134
  go_wp2_with (first
    | (go_at_call 135; refine (yk _ _).mono ?_; rintro e w1 ⟨rfl, hb1⟩; rw [HF.out, Option.isSome_some]; have hz1 := hb1.size; simp at hz1; have hB0 := (hb1.block w.heap.size (by simp)).trans (heap_alloc_new w _); have HB0 := zh hB0; clear hB0)
    | (go_at_call 133; refine (size_any _ b0 b1 _).mono ?_; rintro e w2 ⟨rfl, hb2⟩; have hz2 := hb2.size; simp at hz2; have hc2 := fun o => cell_of_row w2 w1.heap.size o _ _ _ ((hb2.block _ (by simp)).trans (heap_alloc_new w1 _)))
    | (go_at_call 138; refine (HRD.out _).mono ?_; rintro e w3 ⟨rfl, hb3⟩; have hz3 := hb3.size; clear hc2)
    | (go_at_call 119; refine (yf (yR s) hok _).mono ?_; rintro e w4 ⟨rfl, hb4⟩; rw [HV.out]; have hz4 := hb4.size; simp at hz4)
    | (refine wpList_load_row rfl _ (.tmp 6) rfl _ rfl _ (zk (yR s)) _ _ (heap_alloc_new w3 _) Tryz.underlying53 rfl ?_ ?_; kernel_rfl)
    | (refine wpList_load_row rfl _ (.tmp 6) rfl _ rfl _ (zk (yR s)) _ _ ((hb4.block _ (by simp)).trans (heap_alloc_new w3 _)) Tryz.underlying53 rfl ?_ ?_; kernel_rfl)
    | (refine wpList_store_row rfl _ (.tmp 2) _ rfl _ (zk ya) rfl rfl _ _ ((hb4.block _ (by simp <;> omega)).trans ((heap_alloc_old _ _ (by omega)).trans ((hb3.block _ (by omega)).trans ((hb2.block _ (by simp <;> omega)).trans ((heap_alloc_old _ _ hz1).trans HB0.out))))) ?_ ?_ ?_ ?_; kernel_rfl; rfl; kernel_rfl)
    | (refine wpList_store_row rfl _ _ _ rfl _ _ rfl rfl _ _ (heap_alloc_new _ _) ?_ ?_ ?_ ?_; kernel_rfl; rfl; kernel_rfl; rw [World.setRow_alloc_new]))
  refine bodyPost_ret (zf (cs := zk ya) (fr := (0, 0)) Tryz.results134 _ _ w.heap.size 53 _ ?_ (setRow_heap _ _ _ _ _ _ ((hb4.block _ (by simp <;> omega)).trans ((heap_alloc_old _ _ (by omega)).trans ((hb3.block _ (by omega)).trans ((hb2.block _ (by simp <;> omega)).trans ((heap_alloc_old _ _ hz1).trans HB0.out)))))) Tryz.underlying53 rfl (by kernel_rfl)) rfl ⟨rfl, below_setRow ((((((((Below.refl _ _).alloc (zn _) _).trans (hb1.mono (by simp))).alloc (by omega) _).trans (hb2.mono (by simp <;> omega))).trans (hb3.mono (by omega))).alloc (by omega) _).trans (hb4.mono (by simp <;> omega))) (zn _) _⟩
  rfl
theorem decode_any (s : ByteArray) (hm : s.size ≤ 9223372036854775807) (w : World) :
    Calls Tryz.prog 134 #[.string s] w fun e w' => e = .returned (.tuple #[.agg (zk (decI s)), .int .i64 (decE s)]) ∧ Below w.heap.size w w' := by
  by_cases h0 : s.size = 0
  · have he : decE s = 10 := by unfold decE; rw [if_pos h0]
    have hd : decI s = ya := by unfold decI; rw [he]; rfl
    rw [hd, he]; exact decode_empty s h0 w
  · cases hf : fOf (byt s 0) with
    | none =>
      have he : decE s = 11 := by unfold decE; rw [if_neg h0, hf]; rfl
      have hd : decI s = ya := by unfold decI; rw [he]; rfl
      rw [hd, he]; exact decode_none s (by omega) hf w
    | some k =>
      by_cases hl : (s.size : Int) < zm (byt s 0)
      · have he : decE s = 10 := by unfold decE; rw [if_neg h0, hf]; simp [hl]
        have hd : decI s = ya := by unfold decI; rw [he]; rfl
        rw [hd, he]; exact decode_short s (by omega) hm k hf hl w
      · cases hv : zl (yR s) with
        | true =>
          have he : decE s = 0 := by unfold decE; rw [if_neg h0, hf, hv]; simp [hl]
          have hd : decI s = yR s := by unfold decI; rw [he]; rfl
          rw [hd, he]; exact decode_good s (by omega) hm k hf (by omega) hv w
        | false =>
          have he : decE s = 11 := by unfold decE; rw [if_neg h0, hf, hv]; simp [hl]
          have hd : decI s = ya := by unfold decI; rw [he]; rfl
          rw [hd, he]; exact decode_bad s (by omega) hm k hf (by omega) hv w
end Go.Proofs.YteofmaiojepdkaaGreat
