/- fields and Decode of the reference: every string. -/
import Derived.Test.YthebmoggbgldmaaLaRFld1
import Derived.Test.YthebmoggbgldmaaLaRFld2
import Derived.Test.YthebmoggbgldmaaLaRFld3
set_option linter.all false
namespace Go.Proofs.Ythebmoggbgldmaa
open Go.RowKit
theorem rfields_any (s : ByteArray) (hf : zw (byt s 0) ≠ 0) (hs : zp (byt s 0) ≤ s.size) (hm : s.size ≤ 9223372036854775807) (w : World) :
  Calls Try.prog 36 #[.string s] w fun e w' => e = .returned (.agg (zt (jl s))) ∧ Below w.heap.size w w' := by
 rw [readB_eq s hf]
 have hr : zp (byt s 0) = xG.getD (zw (byt s 0)).toNat 0 := rfl
 rw [hr] at hs
 rcases fmt18' _ hf with e | e | e | e | e | e | e | e | e | e | e | e | e | e | e | e | e | e <;> (rw [e] at hs; simp [xG] at hs)
 ·exact rfields_g0 s (by omega) hm w
 ·exact rfields_g0 s (by omega) hm w
 ·exact rfields_g0 s (by omega) hm w
 ·exact rfields_g0 s (by omega) hm w
 ·exact rfields_g0 s (by omega) hm w
 ·exact rfields_g1 s (by omega) hm w
 ·exact rfields_g1 s (by omega) hm w
 ·exact rfields_g2 s (by omega) hm w
 ·exact rfields_g1 s (by omega) hm w
 ·exact rfields_g2 s (by omega) hm w
 ·exact rfields_g2 s (by omega) hm w
 ·exact rfields_g2 s (by omega) hm w
 ·exact rfields_g3 s (by omega) hm w
 ·exact rfields_g1 s (by omega) hm w
 ·exact rfields_g3 s (by omega) hm w
 ·exact rfields_g3 s (by omega) hm w
 ·exact rfields_g3 s (by omega) hm w
 ·exact rfields_g1 s (by omega) hm w
set_option maxRecDepth 100000 in
set_option maxHeartbeats 1000000 in
theorem rdecode_empty (s : ByteArray) (h0 : s.size = 0) (w : World) :
  Calls Try.prog 17 #[.string s] w fun e w' => e = .returned (.tuple #[.agg (zt ins00), .int .i64 10]) ∧ Below w.heap.size w w' := by
 go_enter Try.func17, Try.ntmps17
 go_wp2_with (first | (refine wpList_store_row rfl _ _ _ rfl _ _ rfl rfl _ _ (heap_alloc_new _ _) ?_ ?_ ?_ ?_; kernel_rfl; rfl; kernel_rfl; rw [World.setRow_alloc_new]))
 refine bodyPost_ret (zI (cs := zt ins00) (fr := (0, 0)) Try.results17 _ _ w.heap.size 53 _ ?_ (heap_alloc_new _ _) Try.underlying53 rfl (by kernel_rfl)) rfl ⟨rfl, (Below.refl _ _).alloc (zn _) _⟩
 rfl
set_option maxRecDepth 100000 in
set_option maxHeartbeats 1000000 in
theorem rdecode_none (s : ByteArray) (h0 : 1 ≤ s.size) (hm : s.size ≤ 9223372036854775807) (hf : zp (byt s 0) = 0) (w : World) :
  Calls Try.prog 17 #[.string s] w fun e w' => e = .returned (.tuple #[.agg (zt ins00), .int .i64 11]) ∧ Below w.heap.size w w' := by
 have ix : ∀ W, (Instr.index 9 (.string s) (.int .i64 0)).run Try.prog W = .ok (.int .u8 (byt s 0)) W := zS s 0 h0
 have hne : ((s.size : Int) == 0) = false := beq_eq_false_iff_ne.2 (by omega)
 obtain ⟨b0, b1⟩ := yj s 0
 have HF := zh hf
 clear hf
 go_enter Try.func17, Try.ntmps17
 go_wp2_with (first
  | (go_at_call 35; refine (yL _ b0 b1 _).mono ?_; rintro e w1 ⟨rfl, hb1⟩; rw [HF.out]; have HB0 := zh ((hb1.block w.heap.size (by simp)).trans (heap_alloc_new w _)))
  | (refine wpList_store_row rfl _ (.tmp 2) _ rfl _ (zt ins00) rfl rfl _ _ HB0.out ?_ ?_ ?_ ?_; kernel_rfl; rfl; kernel_rfl))
 refine bodyPost_ret (zI (cs := zt ins00) (fr := (0, 0)) Try.results17 _ _ w.heap.size 53 _ ?_ (setRow_heap _ _ _ _ _ _ HB0.out) Try.underlying53 rfl (by kernel_rfl)) rfl ⟨rfl, below_setRow (((Below.refl _ _).alloc (zn _) _).trans (hb1.mono (by simp))) (zn _) _⟩
 rfl
set_option maxRecDepth 100000 in
set_option maxHeartbeats 1000000 in
theorem rdecode_short (s : ByteArray) (h0 : 1 ≤ s.size) (hm : s.size ≤ 9223372036854775807) (hf : zp (byt s 0) ≠ 0) (hl : (s.size : Int) < zp (byt s 0)) (w : World) :
  Calls Try.prog 17 #[.string s] w fun e w' => e = .returned (.tuple #[.agg (zt ins00), .int .i64 10]) ∧ Below w.heap.size w w' := by
 have ix : ∀ W, (Instr.index 9 (.string s) (.int .i64 0)).run Try.prog W = .ok (.int .u8 (byt s 0)) W := zS s 0 h0
 have hne : ((s.size : Int) == 0) = false := beq_eq_false_iff_ne.2 (by omega)
 have hnz : (zp (byt s 0) == 0) = false := by simpa using hf
 have hd : decide ((s.size : Int) < zp (byt s 0)) = true := decide_eq_true hl
 obtain ⟨b0, b1⟩ := yj s 0
 clear hf
 go_enter Try.func17, Try.ntmps17
 go_wp2_with (first
  | (go_at_call 35; refine (yL _ b0 b1 _).mono ?_; rintro e w1 ⟨rfl, hb1⟩; have HB0 := zh ((hb1.block w.heap.size (by simp)).trans (heap_alloc_new w _)))
  | (refine wpList_store_row rfl _ (.tmp 2) _ rfl _ (zt ins00) rfl rfl _ _ HB0.out ?_ ?_ ?_ ?_; kernel_rfl; rfl; kernel_rfl))
 refine bodyPost_ret (zI (cs := zt ins00) (fr := (0, 0)) Try.results17 _ _ w.heap.size 53 _ ?_ (setRow_heap _ _ _ _ _ _ HB0.out) Try.underlying53 rfl (by kernel_rfl)) rfl ⟨rfl, below_setRow (((Below.refl _ _).alloc (zn _) _).trans (hb1.mono (by simp))) (zn _) _⟩
 rfl
set_option maxRecDepth 100000 in
set_option maxHeartbeats 2000000 in
theorem rdecode_good (s : ByteArray) (h0 : 1 ≤ s.size) (hm : s.size ≤ 9223372036854775807) (hf : zw (byt s 0) ≠ 0) (hnz0 : zp (byt s 0) ≠ 0) (hl : zp (byt s 0) ≤ (s.size : Int)) (hv : zR (jl s) = true) (w : World) :
  Calls Try.prog 17 #[.string s] w fun e w' => e = .returned (.tuple #[.agg (zt (jl s)), .int .i64 0]) ∧ Below w.heap.size w w' := by
 have ix : ∀ W, (Instr.index 9 (.string s) (.int .i64 0)).run Try.prog W = .ok (.int .u8 (byt s 0)) W := zS s 0 h0
 have hne : ((s.size : Int) == 0) = false := beq_eq_false_iff_ne.2 (by omega)
 have hnz : (zp (byt s 0) == 0) = false := by simpa using hnz0
 have hd : decide ((s.size : Int) < zp (byt s 0)) = false := decide_eq_false (by omega)
 obtain ⟨b0, b1⟩ := yj s 0
 have HRF := zh (fun W => rfields_any s hf hl hm W)
 have HV := zh hv
 clear hf hv hnz0
 go_enter Try.func17, Try.ntmps17
 go_wp2_with (first
  | (go_at_call 35; refine (yL _ b0 b1 _).mono ?_; rintro e w1 ⟨rfl, hb1⟩; have HB0 := zh ((hb1.block w.heap.size (by simp)).trans (heap_alloc_new w _)); have hz1 := hb1.size; simp at hz1)
  | (go_at_call 36; refine (HRF.out _).mono ?_; rintro e w2 ⟨rfl, hb2⟩; have hz2 := hb2.size; replace HB0 := zh ((hb2.block w.heap.size (by omega)).trans HB0.out))
  | (go_at_call 37; refine (yY (jl s) _).mono ?_; rintro e w3 ⟨rfl, hb3⟩; rw [HV.out]; replace HB0 := zh ((hb3.block w.heap.size (by simp <;> omega)).trans ((heap_alloc_old _ _ (by omega)).trans HB0.out)))
  | (refine wpList_load_row rfl _ (.tmp 5) rfl _ rfl _ (zt (jl s)) _ _ (heap_alloc_new w2 _) Try.underlying53 rfl ?_ ?_; kernel_rfl)
  | (refine wpList_load_row rfl _ (.tmp 5) rfl _ rfl _ (zt (jl s)) _ _ ((hb3.block _ (by simp)).trans (heap_alloc_new w2 _)) Try.underlying53 rfl ?_ ?_; kernel_rfl)
  | (refine wpList_store_row rfl _ (.tmp 2) _ rfl _ (zt (jl s)) rfl rfl _ _ HB0.out ?_ ?_ ?_ ?_; kernel_rfl; rfl; kernel_rfl)
  | (refine wpList_store_row rfl _ _ _ rfl _ _ rfl rfl _ _ (heap_alloc_new _ _) ?_ ?_ ?_ ?_; kernel_rfl; rfl; kernel_rfl; rw [World.setRow_alloc_new]))
 refine bodyPost_ret (zI (cs := zt (jl s)) (fr := (0, 0)) Try.results17 _ _ w.heap.size 53 _ ?_ (setRow_heap _ _ _ _ _ _ HB0.out) Try.underlying53 rfl (by kernel_rfl)) rfl ⟨rfl, below_setRow ((((((Below.refl _ _).alloc (zn _) _).trans (hb1.mono (by simp))).trans (hb2.mono (by omega))).alloc (by omega) _).trans (hb3.mono (by simp <;> omega))) (zn _) _⟩
 rfl
set_option maxRecDepth 100000 in
set_option maxHeartbeats 2000000 in
theorem rdecode_bad (s : ByteArray) (h0 : 1 ≤ s.size) (hm : s.size ≤ 9223372036854775807) (hf : zw (byt s 0) ≠ 0) (hnz0 : zp (byt s 0) ≠ 0) (hl : zp (byt s 0) ≤ (s.size : Int)) (hv : zR (jl s) = false) (w : World) :
  Calls Try.prog 17 #[.string s] w fun e w' => e = .returned (.tuple #[.agg (zt ins00), .int .i64 11]) ∧ Below w.heap.size w w' := by
 have ix : ∀ W, (Instr.index 9 (.string s) (.int .i64 0)).run Try.prog W = .ok (.int .u8 (byt s 0)) W := zS s 0 h0
 have hne : ((s.size : Int) == 0) = false := beq_eq_false_iff_ne.2 (by omega)
 have hnz : (zp (byt s 0) == 0) = false := by simpa using hnz0
 have hd : decide ((s.size : Int) < zp (byt s 0)) = false := decide_eq_false (by omega)
 obtain ⟨b0, b1⟩ := yj s 0
 have HRF := zh (fun W => rfields_any s hf hl hm W)
 have HV := zh hv
 clear hf hv hnz0
 go_enter Try.func17, Try.ntmps17
 go_wp2_with (first
  | (go_at_call 35; refine (yL _ b0 b1 _).mono ?_; rintro e w1 ⟨rfl, hb1⟩; have HB0 := zh ((hb1.block w.heap.size (by simp)).trans (heap_alloc_new w _)); have hz1 := hb1.size; simp at hz1)
  | (go_at_call 36; refine (HRF.out _).mono ?_; rintro e w2 ⟨rfl, hb2⟩; have hz2 := hb2.size; replace HB0 := zh ((hb2.block w.heap.size (by omega)).trans HB0.out))
  | (go_at_call 37; refine (yY (jl s) _).mono ?_; rintro e w3 ⟨rfl, hb3⟩; rw [HV.out]; replace HB0 := zh ((hb3.block w.heap.size (by simp <;> omega)).trans ((heap_alloc_old _ _ (by omega)).trans HB0.out)))
  | (refine wpList_load_row rfl _ (.tmp 5) rfl _ rfl _ (zt (jl s)) _ _ (heap_alloc_new w2 _) Try.underlying53 rfl ?_ ?_; kernel_rfl)
  | (refine wpList_load_row rfl _ (.tmp 5) rfl _ rfl _ (zt (jl s)) _ _ ((hb3.block _ (by simp)).trans (heap_alloc_new w2 _)) Try.underlying53 rfl ?_ ?_; kernel_rfl)
  | (refine wpList_store_row rfl _ (.tmp 2) _ rfl _ (zt ins00) rfl rfl _ _ HB0.out ?_ ?_ ?_ ?_; kernel_rfl; rfl; kernel_rfl)
  | (refine wpList_store_row rfl _ _ _ rfl _ _ rfl rfl _ _ (heap_alloc_new _ _) ?_ ?_ ?_ ?_; kernel_rfl; rfl; kernel_rfl; rw [World.setRow_alloc_new]))
 refine bodyPost_ret (zI (cs := zt ins00) (fr := (0, 0)) Try.results17 _ _ w.heap.size 53 _ ?_ (setRow_heap _ _ _ _ _ _ HB0.out) Try.underlying53 rfl (by kernel_rfl)) rfl ⟨rfl, below_setRow ((((((Below.refl _ _).alloc (zn _) _).trans (hb1.mono (by simp))).trans (hb2.mono (by omega))).alloc (by omega) _).trans (hb3.mono (by simp <;> omega))) (zn _) _⟩
 rfl
theorem rsize_zero {op : Int} (h : zw op ≠ 0) : 1 ≤ zp op := by
 have h2 := fmt_rng h
 rw [rsize_fmt]
 have : ∀ n : Nat, n ≤ 18 → 1 ≤ n → 1 ≤ xG.getD n 0 := by decide
 exact this _ (by omega) (by omega)
theorem rdecode_any (s : ByteArray) (hm : s.size ≤ 9223372036854775807) (w : World) :
  Calls Try.prog 17 #[.string s] w fun e w' => e = .returned (.tuple #[.agg (zt (decI s)), .int .i64 (decE s)]) ∧ Below w.heap.size w w' := by
 by_cases h0 : s.size = 0
 ·have he : decE s = 10 := by unfold decE; rw [if_pos h0]
  have hd : decI s = ins00 := by unfold decI; rw [he]; rfl
  rw [hd, he]; exact rdecode_empty s h0 w
 by_cases hf : zw (byt s 0) = 0
 ·have he : decE s = 11 := by unfold decE; rw [if_neg h0, fOf_zero hf]; rfl
  have hd : decI s = ins00 := by unfold decI; rw [he]; rfl
  rw [hd, he]; exact rdecode_none s (by omega) hm (by rw [rsize_fmt, hf]; rfl) w
 ·have hfo := (fOf_some hf).1
  have hr1 := rsize_zero hf
  by_cases hl : (s.size : Int) < zp (byt s 0)
  ·have he : decE s = 10 := by unfold decE; rw [if_neg h0, hfo, ju]; simp [hl]
   have hd : decI s = ins00 := by unfold decI; rw [he]; rfl
   rw [hd, he]; exact rdecode_short s (by omega) hm (by omega) hl w
  ·have hok : (jl s).Ok := rdTo_ok s _ 4
   cases hv : zQ (jl s) with
   | true =>
    have he : decE s = 0 := by unfold decE; rw [if_neg h0, hfo, hv, ju]; simp [hl]
    have hd : decI s = jl s := by unfold decI; rw [he]; rfl
    rw [hd, he]; exact rdecode_good s (by omega) hm hf (by omega) (by omega) (by rw [← yR _ hok]; exact hv) w
   | false =>
    have he : decE s = 11 := by unfold decE; rw [if_neg h0, hfo, hv, ju]; simp [hl]
    have hd : decI s = ins00 := by unfold decI; rw [he]; rfl
    rw [hd, he]; exact rdecode_bad s (by omega) hm hf (by omega) (by omega) (by rw [← yR _ hok]; exact hv) w
end Go.Proofs.Ythebmoggbgldmaa
