/- Encode of the reference, walked: formats 1, 2, 3, 4, 5. -/
import Derived.Test.YteofmaiojepdkaaGreatSbRFld0
import Derived.Test.YteofmaiojepdkaaGreatSbRFld1
import Derived.Test.YteofmaiojepdkaaGreatSbRFld2
import Derived.Test.YteofmaiojepdkaaGreatSbRFld3
set_option linter.all false
namespace Go.Proofs.YteofmaiojepdkaaGreat
open Go.RowKit
theorem rfields_any (s : ByteArray) (hf : zf (byt s 0) ≠ 0) (hs : zc (byt s 0) ≤ s.size) (hm : s.size ≤ 9223372036854775807) (w : World) :
  Calls Tryz.prog 84 #[.string s] w fun e w' => e = .returned (.agg (ze (yv s))) ∧ Below w.heap.size w w' := by
 rw [readB_eq s hf]
 have hr : zc (byt s 0) = yz.getD (zf (byt s 0)).toNat 0 := rfl
 rw [hr] at hs
 rcases fmt18' _ hf with e | e | e | e | e | e | e | e | e | e | e | e | e | e | e | e | e | e <;> (rw [e] at hs; simp [yz] at hs)
 ·exact rfields_g0 s (by omega) hm w
 ·exact rfields_g0 s (by omega) hm w
 ·exact rfields_g0 s (by omega) hm w
 ·exact rfields_g0 s (by omega) hm w
 ·exact rfields_g0 s (by omega) hm w
 ·exact rfields_g1 s (by omega) hm w
 ·exact rfields_g1 s (by omega) hm w
 ·exact rfields_g2 s (by omega) hm w
 ·exact rfields_g1 s (by omega) hm w
 ·exact rfields_g2 s (by omega) hm w
 ·exact rfields_g2 s (by omega) hm w
 ·exact rfields_g2 s (by omega) hm w
 ·exact rfields_g3 s (by omega) hm w
 ·exact rfields_g1 s (by omega) hm w
 ·exact rfields_g3 s (by omega) hm w
 ·exact rfields_g3 s (by omega) hm w
 ·exact rfields_g3 s (by omega) hm w
 ·exact rfields_g1 s (by omega) hm w
set_option maxRecDepth 100000 in
set_option maxHeartbeats 1000000 in
theorem rdecode_empty (s : ByteArray) (h0 : s.size = 0) (w : World) :
  Calls Tryz.prog 57 #[.string s] w fun e w' => e = .returned (.tuple #[.agg (ze ya), .int .i64 10]) ∧ Below w.heap.size w w' := by
 go_enter Tryz.func57, Tryz.ntmps57
 go_wp2_with (first | (refine wpList_store_row rfl _ _ _ rfl _ _ rfl rfl _ _ (heap_alloc_new _ _) ?_ ?_ ?_ ?_; kernel_rfl; rfl; kernel_rfl; rw [World.setRow_alloc_new]))
 refine bodyPost_ret (zi (cs := ze ya) (fr := (0, 0)) Tryz.results57 _ _ w.heap.size 53 _ ?_ (heap_alloc_new _ _) Tryz.underlying53 rfl (by kernel_rfl)) rfl ⟨rfl, (Below.refl _ _).alloc (zn _) _⟩
 rfl
set_option maxRecDepth 100000 in
set_option maxHeartbeats 1000000 in
theorem rdecode_none (s : ByteArray) (h0 : 1 ≤ s.size) (hm : s.size ≤ 9223372036854775807) (hf : zc (byt s 0) = 0) (w : World) :
  Calls Tryz.prog 57 #[.string s] w fun e w' => e = .returned (.tuple #[.agg (ze ya), .int .i64 11]) ∧ Below w.heap.size w w' := by
 have ix : ∀ W, (Instr.index 9 (.string s) (.int .i64 0)).run Tryz.prog W = .ok (.int .u8 (byt s 0)) W := zl s 0 h0
 have hne : ((s.size : Int) == 0) = false := beq_eq_false_iff_ne.2 (by omega)
 obtain ⟨b0, b1⟩ := zz s 0
 have HF := zh hf
 clear hf
 go_enter Tryz.func57, Tryz.ntmps57
 go_wp2_with (first
  | (go_at_call 56; refine (yd _ b0 b1 _).mono ?_; rintro e w1 ⟨rfl, hb1⟩; rw [HF.out]; have HB0 := zh ((hb1.block w.heap.size (by simp)).trans (heap_alloc_new w _)))
  | (refine wpList_store_row rfl _ (.tmp 2) _ rfl _ (ze ya) rfl rfl _ _ HB0.out ?_ ?_ ?_ ?_; kernel_rfl; rfl; kernel_rfl))
 refine bodyPost_ret (zi (cs := ze ya) (fr := (0, 0)) Tryz.results57 _ _ w.heap.size 53 _ ?_ (setRow_heap _ _ _ _ _ _ HB0.out) Tryz.underlying53 rfl (by kernel_rfl)) rfl ⟨rfl, below_setRow (((Below.refl _ _).alloc (zn _) _).trans (hb1.mono (by simp))) (zn _) _⟩
 rfl
set_option maxRecDepth 100000 in
set_option maxHeartbeats 1000000 in
theorem rdecode_short (s : ByteArray) (h0 : 1 ≤ s.size) (hm : s.size ≤ 9223372036854775807) (hf : zc (byt s 0) ≠ 0) (hl : (s.size : Int) < zc (byt s 0)) (w : World) :
  Calls Tryz.prog 57 #[.string s] w fun e w' => e = .returned (.tuple #[.agg (ze ya), .int .i64 10]) ∧ Below w.heap.size w w' := by
 have ix : ∀ W, (Instr.index 9 (.string s) (.int .i64 0)).run Tryz.prog W = .ok (.int .u8 (byt s 0)) W := zl s 0 h0
 have hne : ((s.size : Int) == 0) = false := beq_eq_false_iff_ne.2 (by omega)
 have hnz : (zc (byt s 0) == 0) = false := by simpa using hf
 have hd : decide ((s.size : Int) < zc (byt s 0)) = true := decide_eq_true hl
 obtain ⟨b0, b1⟩ := zz s 0
 clear hf
 go_enter Tryz.func57, Tryz.ntmps57
 go_wp2_with (first
  | (go_at_call 56; refine (yd _ b0 b1 _).mono ?_; rintro e w1 ⟨rfl, hb1⟩; have HB0 := zh ((hb1.block w.heap.size (by simp)).trans (heap_alloc_new w _)))
  | (refine wpList_store_row rfl _ (.tmp 2) _ rfl _ (ze ya) rfl rfl _ _ HB0.out ?_ ?_ ?_ ?_; kernel_rfl; rfl; kernel_rfl))
 refine bodyPost_ret (zi (cs := ze ya) (fr := (0, 0)) Tryz.results57 _ _ w.heap.size 53 _ ?_ (setRow_heap _ _ _ _ _ _ HB0.out) Tryz.underlying53 rfl (by kernel_rfl)) rfl ⟨rfl, below_setRow (((Below.refl _ _).alloc (zn _) _).trans (hb1.mono (by simp))) (zn _) _⟩
 rfl
set_option maxRecDepth 100000 in
set_option maxHeartbeats 2000000 in
theorem rdecode_good (s : ByteArray) (h0 : 1 ≤ s.size) (hm : s.size ≤ 9223372036854775807) (hf : zf (byt s 0) ≠ 0) (hnz0 : zc (byt s 0) ≠ 0) (hl : zc (byt s 0) ≤ (s.size : Int)) (hv : zq (yv s) = true) (w : World) :
  Calls Tryz.prog 57 #[.string s] w fun e w' => e = .returned (.tuple #[.agg (ze (yv s)), .int .i64 0]) ∧ Below w.heap.size w w' := by
 have ix : ∀ W, (Instr.index 9 (.string s) (.int .i64 0)).run Tryz.prog W = .ok (.int .u8 (byt s 0)) W := zl s 0 h0
 have hne : ((s.size : Int) == 0) = false := beq_eq_false_iff_ne.2 (by omega)
 have hnz : (zc (byt s 0) == 0) = false := by simpa using hnz0
 have hd : decide ((s.size : Int) < zc (byt s 0)) = false := decide_eq_false (by omega)
 obtain ⟨b0, b1⟩ := zz s 0
 have HRF := zh (fun W => rfields_any s hf hl hm W)
 have HV := zh hv
 clear hf hv hnz0
 go_enter Tryz.func57, Tryz.ntmps57
 go_wp2_with (first
  | (go_at_call 56; refine (yd _ b0 b1 _).mono ?_; rintro e w1 ⟨rfl, hb1⟩; have HB0 := zh ((hb1.block w.heap.size (by simp)).trans (heap_alloc_new w _)); have hz1 := hb1.size; simp at hz1)
  | (go_at_call 84; refine (HRF.out _).mono ?_; rintro e w2 ⟨rfl, hb2⟩; have hz2 := hb2.size; replace HB0 := zh ((hb2.block w.heap.size (by omega)).trans HB0.out))
  | (go_at_call 60; refine (xR (yv s) _).mono ?_; rintro e w3 ⟨rfl, hb3⟩; rw [HV.out]; replace HB0 := zh ((hb3.block w.heap.size (by simp <;> omega)).trans ((heap_alloc_old _ _ (by omega)).trans HB0.out)))
  | (refine wpList_load_row rfl _ (.tmp 5) rfl _ rfl _ (ze (yv s)) _ _ (heap_alloc_new w2 _) Tryz.underlying53 rfl ?_ ?_; kernel_rfl)
  | (refine wpList_load_row rfl _ (.tmp 5) rfl _ rfl _ (ze (yv s)) _ _ ((hb3.block _ (by simp)).trans (heap_alloc_new w2 _)) Tryz.underlying53 rfl ?_ ?_; kernel_rfl)
  | (refine wpList_store_row rfl _ (.tmp 2) _ rfl _ (ze (yv s)) rfl rfl _ _ HB0.out ?_ ?_ ?_ ?_; kernel_rfl; rfl; kernel_rfl)
  | (refine wpList_store_row rfl _ _ _ rfl _ _ rfl rfl _ _ (heap_alloc_new _ _) ?_ ?_ ?_ ?_; kernel_rfl; rfl; kernel_rfl; rw [World.setRow_alloc_new]))
 refine bodyPost_ret (zi (cs := ze (yv s)) (fr := (0, 0)) Tryz.results57 _ _ w.heap.size 53 _ ?_ (setRow_heap _ _ _ _ _ _ HB0.out) Tryz.underlying53 rfl (by kernel_rfl)) rfl ⟨rfl, below_setRow ((((((Below.refl _ _).alloc (zn _) _).trans (hb1.mono (by simp))).trans (hb2.mono (by omega))).alloc (by omega) _).trans (hb3.mono (by simp <;> omega))) (zn _) _⟩
 rfl
set_option maxRecDepth 100000 in
set_option maxHeartbeats 2000000 in
theorem rdecode_bad (s : ByteArray) (h0 : 1 ≤ s.size) (hm : s.size ≤ 9223372036854775807) (hf : zf (byt s 0) ≠ 0) (hnz0 : zc (byt s 0) ≠ 0) (hl : zc (byt s 0) ≤ (s.size : Int)) (hv : zq (yv s) = false) (w : World) :
  Calls Tryz.prog 57 #[.string s] w fun e w' => e = .returned (.tuple #[.agg (ze ya), .int .i64 11]) ∧ Below w.heap.size w w' := by
 have ix : ∀ W, (Instr.index 9 (.string s) (.int .i64 0)).run Tryz.prog W = .ok (.int .u8 (byt s 0)) W := zl s 0 h0
 have hne : ((s.size : Int) == 0) = false := beq_eq_false_iff_ne.2 (by omega)
 have hnz : (zc (byt s 0) == 0) = false := by simpa using hnz0
 have hd : decide ((s.size : Int) < zc (byt s 0)) = false := decide_eq_false (by omega)
 obtain ⟨b0, b1⟩ := zz s 0
 have HRF := zh (fun W => rfields_any s hf hl hm W)
 have HV := zh hv
 clear hf hv hnz0
 go_enter Tryz.func57, Tryz.ntmps57
 go_wp2_with (first
  | (go_at_call 56; refine (yd _ b0 b1 _).mono ?_; rintro e w1 ⟨rfl, hb1⟩; have HB0 := zh ((hb1.block w.heap.size (by simp)).trans (heap_alloc_new w _)); have hz1 := hb1.size; simp at hz1)
  | (go_at_call 84; refine (HRF.out _).mono ?_; rintro e w2 ⟨rfl, hb2⟩; have hz2 := hb2.size; replace HB0 := zh ((hb2.block w.heap.size (by omega)).trans HB0.out))
  | (go_at_call 60; refine (xR (yv s) _).mono ?_; rintro e w3 ⟨rfl, hb3⟩; rw [HV.out]; replace HB0 := zh ((hb3.block w.heap.size (by simp <;> omega)).trans ((heap_alloc_old _ _ (by omega)).trans HB0.out)))
  | (refine wpList_load_row rfl _ (.tmp 5) rfl _ rfl _ (ze (yv s)) _ _ (heap_alloc_new w2 _) Tryz.underlying53 rfl ?_ ?_; kernel_rfl)
  | (refine wpList_load_row rfl _ (.tmp 5) rfl _ rfl _ (ze (yv s)) _ _ ((hb3.block _ (by simp)).trans (heap_alloc_new w2 _)) Tryz.underlying53 rfl ?_ ?_; kernel_rfl)
  | (refine wpList_store_row rfl _ (.tmp 2) _ rfl _ (ze ya) rfl rfl _ _ HB0.out ?_ ?_ ?_ ?_; kernel_rfl; rfl; kernel_rfl)
  | (refine wpList_store_row rfl _ _ _ rfl _ _ rfl rfl _ _ (heap_alloc_new _ _) ?_ ?_ ?_ ?_; kernel_rfl; rfl; kernel_rfl; rw [World.setRow_alloc_new]))
 refine bodyPost_ret (zi (cs := ze ya) (fr := (0, 0)) Tryz.results57 _ _ w.heap.size 53 _ ?_ (setRow_heap _ _ _ _ _ _ HB0.out) Tryz.underlying53 rfl (by kernel_rfl)) rfl ⟨rfl, below_setRow ((((((Below.refl _ _).alloc (zn _) _).trans (hb1.mono (by simp))).trans (hb2.mono (by omega))).alloc (by omega) _).trans (hb3.mono (by simp <;> omega))) (zn _) _⟩
 rfl
theorem rsize_zero {op : Int} (h : zf op ≠ 0) : 1 ≤ zc op := by
 have h2 := fmt_rng h
 rw [rsize_fmt]
 have : ∀ n : Nat, n ≤ 18 → 1 ≤ n → 1 ≤ yz.getD n 0 := by decide
 exact this _ (by omega) (by omega)
theorem rdecode_any (s : ByteArray) (hm : s.size ≤ 9223372036854775807) (w : World) :
  Calls Tryz.prog 57 #[.string s] w fun e w' => e = .returned (.tuple #[.agg (ze (yP s)), .int .i64 (xl s)]) ∧ Below w.heap.size w w' := by
 by_cases h0 : s.size = 0
 ·have he : xl s = 10 := by unfold xl; rw [if_pos h0]
  have hd : yP s = ya := by unfold yP; rw [he]; rfl
  rw [hd, he]; exact rdecode_empty s h0 w
 by_cases hf : zf (byt s 0) = 0
 ·have he : xl s = 11 := by unfold xl; rw [if_neg h0, fOf_zero hf]; rfl
  have hd : yP s = ya := by unfold yP; rw [he]; rfl
  rw [hd, he]; exact rdecode_none s (by omega) hm (by rw [rsize_fmt, hf]; rfl) w
 ·have hfo := (fOf_some hf).1
  have hr1 := rsize_zero hf
  by_cases hl : (s.size : Int) < zc (byt s 0)
  ·have he : xl s = 10 := by unfold xl; rw [if_neg h0, hfo, size_eq]; simp [hl]
   have hd : yP s = ya := by unfold yP; rw [he]; rfl
   rw [hd, he]; exact rdecode_short s (by omega) hm (by omega) hl w
  ·have hok : (yv s).Ok := rdTo_ok s _ 4
   cases hv : zx (yv s) with
   | true =>
    have he : xl s = 0 := by unfold xl; rw [if_neg h0, hfo, hv, size_eq]; simp [hl]
    have hd : yP s = yv s := by unfold yP; rw [he]; rfl
    rw [hd, he]; exact rdecode_good s (by omega) hm hf (by omega) (by omega) (by rw [← valid_eq _ hok]; exact hv) w
   | false =>
    have he : xl s = 11 := by unfold xl; rw [if_neg h0, hfo, hv, size_eq]; simp [hl]
    have hd : yP s = ya := by unfold yP; rw [he]; rfl
    rw [hd, he]; exact rdecode_bad s (by omega) hm hf (by omega) (by omega) (by rw [← valid_eq _ hok]; exact hv) w
end Go.Proofs.YteofmaiojepdkaaGreat
namespace Go.Proofs.YteofmaiojepdkaaGreat
open Go.RowKit
set_option maxRecDepth 100000 in
set_option maxHeartbeats 40000000 in
theorem rencode_g0 (i : Ins) (hi : i.Ok) (hf : zf i.op = 1 ∨ zf i.op = 2 ∨ zf i.op = 3 ∨ zf i.op = 4 ∨ zf i.op = 5) (hv : zx i = true) (w : World) :
  Calls Tryz.prog 28 #[.agg #[.int .i64 (i).op, .int .i64 (i).d, .int .i64 (i).s, .int .u16 (i).imm, .int .u16 (i).aux, .int .i64 (i).bank, .int .i64 (i).size]] w fun e w' => e = .returned (.tuple #[.string (xJ (i.op :: zJ (zf i.op) i)), .int .i64 0]) ∧ Below w.heap.size w w' := by
 rcases hf with hf | hf | hf | hf | hf
 all_goals
  obtain ⟨-, ⟨o0, o1⟩, ⟨d0, d1⟩, ⟨s0, s1⟩, ⟨k0, k1⟩, -⟩ := yR i hi hv
  obtain ⟨m0, m1⟩ := hi.imm
  obtain ⟨x0, x1⟩ := hi.aux
  obtain ⟨i5, hi5, iz0, iz1, iz2⟩ := info_parts info5
  rw [valid_eq i hi] at hv
  have HF := zh hf
  have HV := zh hv
  clear hf hv
  have w1 : IntKind.u8.wrap i.op = i.op := IntWalk.u8_in _ (by omega)
  have w2 : IntKind.u8.wrap i.d = i.d := IntWalk.u8_in _ (by omega)
  have w3 : IntKind.u8.wrap (16 * i.d + i.s) = 16 * i.d + i.s := IntWalk.u8_in _ (by omega)
  have w4 : IntKind.u8.wrap i.bank = i.bank := IntWalk.u8_in _ (by omega)
  have w5 : IntKind.u8.wrap i.s = i.s := IntWalk.u8_in _ (by omega)
  go_enter Tryz.func28, Tryz.ntmps28
  go_upto_region 7 with (first
   | (go_at_call 59; refine (yg _ _).mono ?_; rintro e w1 ⟨rfl, hb1⟩; rw [HF.out]; have hz1 := hb1.size; simp at hz1; have HB1 := zh ((hb1.block w.heap.size (by simp)).trans (heap_alloc_new w _)))
   | (go_at_call 60; refine (xR i _).mono ?_; rintro e w2 ⟨rfl, hb2⟩; rw [HV.out]; have hz2 := hb2.size)
   | (refine wpList_load_row rfl _ (.tmp 1) rfl _ rfl _ _ _ _ HB1.out Tryz.underlying53 rfl ?_ ?_; kernel_rfl))
  have hc2 : ∀ o : Nat, w2.cell? ⟨w.heap.size, o, none⟩ = (#[Value.int .i64 i.op, .int .i64 i.d, .int .i64 i.s, .int .u16 i.imm, .int .u16 i.aux, .int .i64 i.bank, .int .i64 i.size] : Array Value)[o]? := fun o => cell_of_row w2 w.heap.size o _ _ _ ((hb2.block _ (by omega)).trans HB1.out)
  have hbb : Below w.heap.size w w2 := ((Below.refl _ _).alloc (zn _) _).trans ((hb1.mono (by simp)).trans (hb2.mono (by omega)))
  have HBB := zh hbb
  have hlt : w.heap.size < w2.heap.size := by omega
  clear hb1 hb2 hbb
  go_upto_region 12 with (first
   | (go_at_call 61; refine (two_any i.imm m0 m1 _).mono ?_; rintro e w3 ⟨rfl, rfl⟩)
   | (go_at_call 61; refine (two_any i.aux x0 x1 _).mono ?_; rintro e w3 ⟨rfl, rfl⟩))
  have hE : EHeld i w2.heap.size w (((w2.alloc (.cells #[.int .u8 i.op] 5)).alloc (.cells #[.int .u8 (i.imm % 256), .int .u8 (i.imm / 256)] 5)).alloc (.cells #[.int .u8 (i.aux % 256), .int .u8 (i.aux / 256)] 5)) := by
   have e1 : ((w2.alloc (.cells #[.int .u8 i.op] 5)).heap.size) = w2.heap.size + 1 := by simp
   have e2 : (((w2.alloc (.cells #[.int .u8 i.op] 5)).alloc (.cells #[.int .u8 (i.imm % 256), .int .u8 (i.imm / 256)] 5)).heap.size) = w2.heap.size + 2 := by simp
   refine ⟨fun o => ?_, fun o => ?_, fun o => ?_, ?_, (((HBB.out.alloc HBB.out.size _).alloc (by simp; omega) _).alloc (by simp; omega) _), hlt, by simp⟩
   ·rw [World.cell?_alloc_lt _ _ _ (by simp; omega), World.cell?_alloc_lt _ _ _ (by simp; omega), World.cell?_alloc_lt _ _ _ (by simp; omega)]; exact hc2 o
   ·rw [World.cell?_alloc_lt _ _ _ (by simp)]
    have := cell_of_row _ _ o _ _ _ (heap_alloc_new (w2.alloc (.cells #[.int .u8 i.op] 5)) (.cells #[.int .u8 (i.imm % 256), .int .u8 (i.imm / 256)] 5))
    rw [e1] at this; exact this
   ·have := cell_of_row _ _ o _ _ _ (heap_alloc_new ((w2.alloc (.cells #[.int .u8 i.op] 5)).alloc (.cells #[.int .u8 (i.imm % 256), .int .u8 (i.imm / 256)] 5)) (.cells #[.int .u8 (i.aux % 256), .int .u8 (i.aux / 256)] 5))
    rw [e2] at this; exact this
   ·exact ((World.ownsRow_lit (base := w2.heap.size) (size := 1) (e := 5) w2 #[.int .u8 i.op] 1 (zn _) (by decide) rfl).alloc _).alloc _
  have HE := zh hE
  clear hE
 ·have HTL := zh (show zJ (zf i.op) i = [] from by rw [HF.out]; simp [zJ])
  go_upto_region 42 with fail
  have hEE : EEnd i w2.heap.size (.slice (some ⟨w2.heap.size, 0, none⟩) 1 1) w (((w2.alloc (.cells #[.int .u8 i.op] 5)).alloc (.cells #[.int .u8 (i.imm % 256), .int .u8 (i.imm / 256)] 5)).alloc (.cells #[.int .u8 (i.aux % 256), .int .u8 (i.aux / 256)] 5)) := ⟨by rw [HTL.out]; exact HE.out.own, HE.out.hb⟩
  have hcv := zR (P := Tryz.prog) _ 73 9 5 Tryz.underlying73 Tryz.underlying5 Tryz.underlying9 _ _ _ _ hEE.own
  go_wp2
  go_ret2
  exact ⟨rfl, hEE.hb⟩
 ·have HTL := zh (show zJ (zf i.op) i = [i.d] from by rw [HF.out]; simp [zJ])
  have hlit := World.ownsRow_lit (base := w2.heap.size) (size := 1) (e := 5) (((w2.alloc (.cells #[.int .u8 i.op] 5)).alloc (.cells #[.int .u8 (i.imm % 256), .int .u8 (i.imm / 256)] 5)).alloc (.cells #[.int .u8 (i.aux % 256), .int .u8 (i.aux / 256)] 5)) #[.int .u8 i.d] 1 (by simp <;> omega) (by decide) rfl
  simp only [World.size_alloc] at hlit
  have HLIT := zh hlit
  have HOWNA := zh (HE.out.alloc (.cells #[.int .u8 i.d] 5)).own
  clear hlit
  go_upto_region 42 with (at_builtin; go_must (refine zN rfl _ _ _ rfl w2.heap.size 5 i5 (.int .u8 0) 1 Tryz.underlying73 hi5 iz0 iz1 iz2 rfl _ _ _ rfl HOWNA.out _ _ _ _ rfl HLIT.out (by simp [Value.oneCell']) (by decide) (by decide) (by simp <;> omega) ?_); intro v6 w6 hown6 hg6; have HEE := zh ((HE.out.alloc (.cells #[.int .u8 i.d] 5)).end hg6 _ HTL.out hown6); clear hown6 hg6)
  have hEE := HEE.out
  have hcv := zR (P := Tryz.prog) _ 73 9 5 Tryz.underlying73 Tryz.underlying5 Tryz.underlying9 _ _ _ _ hEE.own
  go_wp2
  go_ret2
  exact ⟨rfl, hEE.hb⟩
 ·have HTL := zh (show zJ (zf i.op) i = [i.imm % 256] from by rw [HF.out]; simp [zJ])
  have hlit := World.ownsRow_lit (base := w2.heap.size) (size := 1) (e := 5) (((w2.alloc (.cells #[.int .u8 i.op] 5)).alloc (.cells #[.int .u8 (i.imm % 256), .int .u8 (i.imm / 256)] 5)).alloc (.cells #[.int .u8 (i.aux % 256), .int .u8 (i.aux / 256)] 5)) #[.int .u8 (i.imm % 256)] 1 (by simp <;> omega) (by decide) rfl
  simp only [World.size_alloc] at hlit
  have HLIT := zh hlit
  have HOWNA := zh (HE.out.alloc (.cells #[.int .u8 (i.imm % 256)] 5)).own
  clear hlit
  go_upto_region 42 with (at_builtin; go_must (refine zN rfl _ _ _ rfl w2.heap.size 5 i5 (.int .u8 0) 1 Tryz.underlying73 hi5 iz0 iz1 iz2 rfl _ _ _ rfl HOWNA.out _ _ _ _ rfl HLIT.out (by simp [Value.oneCell']) (by decide) (by decide) (by simp <;> omega) ?_); intro v6 w6 hown6 hg6; have HEE := zh ((HE.out.alloc (.cells #[.int .u8 (i.imm % 256)] 5)).end hg6 _ HTL.out hown6); clear hown6 hg6)
  have hEE := HEE.out
  have hcv := zR (P := Tryz.prog) _ 73 9 5 Tryz.underlying73 Tryz.underlying5 Tryz.underlying9 _ _ _ _ hEE.own
  go_wp2
  go_ret2
  exact ⟨rfl, hEE.hb⟩
 ·have HTL := zh (show zJ (zf i.op) i = [16 * i.d + i.s] from by rw [HF.out]; simp [zJ])
  have hlit := World.ownsRow_lit (base := w2.heap.size) (size := 1) (e := 5) (((w2.alloc (.cells #[.int .u8 i.op] 5)).alloc (.cells #[.int .u8 (i.imm % 256), .int .u8 (i.imm / 256)] 5)).alloc (.cells #[.int .u8 (i.aux % 256), .int .u8 (i.aux / 256)] 5)) #[.int .u8 (16 * i.d + i.s)] 1 (by simp <;> omega) (by decide) rfl
  simp only [World.size_alloc] at hlit
  have HLIT := zh hlit
  have HOWNA := zh (HE.out.alloc (.cells #[.int .u8 (16 * i.d + i.s)] 5)).own
  clear hlit
  go_upto_region 42 with (at_builtin; go_must (refine zN rfl _ _ _ rfl w2.heap.size 5 i5 (.int .u8 0) 1 Tryz.underlying73 hi5 iz0 iz1 iz2 rfl _ _ _ rfl HOWNA.out _ _ _ _ rfl HLIT.out (by simp [Value.oneCell']) (by decide) (by decide) (by simp <;> omega) ?_); intro v6 w6 hown6 hg6; have HEE := zh ((HE.out.alloc (.cells #[.int .u8 (16 * i.d + i.s)] 5)).end hg6 _ HTL.out hown6); clear hown6 hg6)
  have hEE := HEE.out
  have hcv := zR (P := Tryz.prog) _ 73 9 5 Tryz.underlying73 Tryz.underlying5 Tryz.underlying9 _ _ _ _ hEE.own
  go_wp2
  go_ret2
  exact ⟨rfl, hEE.hb⟩
 ·have HTL := zh (show zJ (zf i.op) i = [i.d, i.imm % 256] from by rw [HF.out]; simp [zJ])
  have hlit := World.ownsRow_lit (base := w2.heap.size) (size := 1) (e := 5) (((w2.alloc (.cells #[.int .u8 i.op] 5)).alloc (.cells #[.int .u8 (i.imm % 256), .int .u8 (i.imm / 256)] 5)).alloc (.cells #[.int .u8 (i.aux % 256), .int .u8 (i.aux / 256)] 5)) #[.int .u8 i.d, .int .u8 (i.imm % 256)] 2 (by simp <;> omega) (by decide) rfl
  simp only [World.size_alloc] at hlit
  have HLIT := zh hlit
  have HOWNA := zh (HE.out.alloc (.cells #[.int .u8 i.d, .int .u8 (i.imm % 256)] 5)).own
  clear hlit
  go_upto_region 42 with (at_builtin; go_must (refine zN rfl _ _ _ rfl w2.heap.size 5 i5 (.int .u8 0) 1 Tryz.underlying73 hi5 iz0 iz1 iz2 rfl _ _ _ rfl HOWNA.out _ _ _ _ rfl HLIT.out (by simp [Value.oneCell']) (by decide) (by decide) (by simp <;> omega) ?_); intro v6 w6 hown6 hg6; have HEE := zh ((HE.out.alloc (.cells #[.int .u8 i.d, .int .u8 (i.imm % 256)] 5)).end hg6 _ HTL.out hown6); clear hown6 hg6)
  have hEE := HEE.out
  have hcv := zR (P := Tryz.prog) _ 73 9 5 Tryz.underlying73 Tryz.underlying5 Tryz.underlying9 _ _ _ _ hEE.own
  go_wp2
  go_ret2
  exact ⟨rfl, hEE.hb⟩
end Go.Proofs.YteofmaiojepdkaaGreat
