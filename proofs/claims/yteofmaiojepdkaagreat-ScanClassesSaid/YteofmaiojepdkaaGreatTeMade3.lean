/- Made of the reference: every input. No condition. -/
import Derived.Test.YteofmaiojepdkaaGreatTeRFldB
import Derived.Test.YteofmaiojepdkaaGreatTeMade1
set_option linter.all false
namespace Go.Proofs.YteofmaiojepdkaaGreat
open Go.RowKit
set_option maxRecDepth 100000 in
set_option maxHeartbeats 20000000 in
theorem made_g3 (q0 q1 q2 q3 q4 : Int) (hf : ze (zV q0) = 15 ∨ ze (zV q0) = 16 ∨ ze (zV q0) = 17 ∨ ze (zV q0) = 18) (w : World) :
  Calls Tryz.prog 117 #[.agg #[.int .i64 q0, .int .i64 q1, .int .i64 q2, .int .i64 q3, .int .i64 q4]] w fun e w' => e = .returned (.agg (zd (madeS q0 q1 q2 q3 q4))) ∧ Below w.heap.size w w' := by
 obtain ⟨i3, hi3, iz0, iz1, iz2⟩ := info_parts infoI
 have e0 : madeS q0 q1 q2 q3 q4 = xS (ze (zV q0)) (zV q0) q1 q2 q3 q4 := rfl
 obtain ⟨-, o0, o1⟩ := jg q0
 obtain ⟨m, hm⟩ : ∃ m : Nat, q0 % 65536 % 113 = m := ⟨(q0 % 65536 % 113).toNat, by omega⟩
 have hm1 : m < 113 := by omega
 have hget : (ji 164)[m]? = some (zV q0) := by
  rw [opAt_get m hm1]; unfold zV; rw [hm]; rfl
 generalize zV q0 = op at *
 have a1 := yP q0
 have HM := zh hm
 have HGET := zh hget
 have HF := zh hf
 have E0 := zh e0
 clear hm hget hf e0
 go_enter Tryz.func117, Tryz.ntmps117
 go_wp2
 go_loopw [3, 4] (fun v x wr => ∃ k : Nat, k ≤ 164 ∧ x = .int .i64 k ∧ MRel q0 q1 q2 q3 q4 k v w wr) (fun _ x _ => 164 - (intOf x).toNat)
 case atStart =>
  refine ⟨0, by omega, rfl, ⟨⟨rfl, .inl ⟨rfl, rfl⟩⟩, ?_, ?_, ((Below.refl _ _).alloc (zn _) _).alloc (by simp) _, by simp⟩⟩
  ·exact (heap_alloc_old _ _ (by simp)).trans (heap_alloc_new _ _)
  ·have := heap_alloc_new (w.alloc (.cells #[.int .i64 q0, .int .i64 q1, .int .i64 q2, .int .i64 q3, .int .i64 q4] 196)) (.cells #[.int .i64 0, .int .i64 0, .int .i64 0, .int .u16 0, .int .u16 0, .int .i64 0, .int .i64 0] 53)
   simpa using this
 case round =>
  obtain ⟨k, hk, rfl, hM⟩ := hrel
  by_cases hlt : k < 164
  ·have hz := hM.z
   have hol := opsTo_le k
   have HOWN := zh hM.own
   by_cases hfm : (ze (k : Int) != 0) = true
   ·have HFM := zh hfm
    go_wp2_with (first
     | (go_at_call 59; refine (yi _ _).mono ?_; rintro e w1 ⟨rfl, hb1⟩; have hz1 := hb1.size; have HOWNA := zh ((xO HOWN.out hb1).alloc (.cells #[.int .i64 k] 3)); have HLIT := zh (World.ownsRow_lit (base := w1.heap.size) (size := 1) (e := 3) w1 #[.int .i64 k] 1 (by simp) (by decide) rfl))
     | (at_builtin; go_must (refine zN rfl _ _ _ rfl (w.heap.size + 2) 3 i3 (.int .i64 0) 8 Tryz.underlying70 hi3 iz0 iz1 iz2 rfl _ _ _ rfl HOWNA.out _ _ _ _ rfl HLIT.out (by simp [Value.oneCell']) ?_ ?_ ?_ ?_); (unfold maxLen; omega); omega; (simp; omega); intro v4 w4 hown4 hg4; have HOWN4 := zh hown4; clear hown4))
    go_roundw
    case rel => exact ⟨k + 1, by omega, by go_num, hM.more HFM.out (hb1.alloc hb1.size _) hg4 HOWN4.out⟩
    case measure => simp [intOf]; omega
   ·have hfm : (ze (k : Int) != 0) = false := by simpa using hfm
    have HFM := zh hfm
    go_wp2_with (first
     | (go_at_call 59; refine (yi _ _).mono ?_; rintro e w1 ⟨rfl, hb1⟩))
    go_roundw
    case rel => exact ⟨k + 1, by omega, by go_num, (hM.skip HFM.out).stay hb1⟩
    case measure => simp [intOf]; omega
  ·have ek : k = 164 := by omega
   subst ek
   have hown := hM.own
   rw [opsAll_len] at hown
   obtain ⟨g, cap, rfl, hgb, hgl⟩ := hown.form (by decide)
   have hcg : wr.cell? ⟨g, m, none⟩ = some (.int .i64 op) := by
    rw [hown.cellAt m (by omega), List.getElem?_map, HGET.out]; rfl
   have hz := hM.z
   have H0 := zh hM.h0
   have hq := cell_of_row wr w.heap.size 0 _ _ _ H0.out
   have H1 := zh hM.h1
   have HBB := zh hM.hb
   clear hown hM
   have hm := HM.out
   go_upto_region 8 with fail
   clear hcg hq hm
   have hwu : IntKind.u8.wrap op = op := IntWalk.u8_in _ (by omega)
   go_upto_region 9 with (first
    | (refine stN ?_)
    | (go_at_call 56; refine (yf op o0 (by omega) _).mono ?_; rintro e w2 ⟨rfl, hb2⟩; have hz2 := hb2.size))
   have HB2 := zh (heap_alloc_new w2 (.cells #[.int .i64 op, .int .i64 0, .int .i64 0, .int .u16 0, .int .u16 0, .int .i64 0, .int .i64 (zc op)] 53))
   have H0 := zh ((heap_alloc_old w2 (.cells #[.int .i64 op, .int .i64 0, .int .i64 0, .int .u16 0, .int .u16 0, .int .i64 0, .int .i64 (zc op)] 53) (by omega)).trans ((hb2.block _ (by omega)).trans H0.out))
   have H1 := zh ((heap_alloc_old w2 (.cells #[.int .i64 op, .int .i64 0, .int .i64 0, .int .u16 0, .int .u16 0, .int .i64 0, .int .i64 (zc op)] 53) (by omega)).trans ((hb2.block _ (by omega)).trans H1.out))
   have hq1 := cell_of_row _ w.heap.size 1 _ _ _ H0.out
   have hq2 := cell_of_row _ w.heap.size 2 _ _ _ H0.out
   have hq3 := cell_of_row _ w.heap.size 3 _ _ _ H0.out
   have a71 := i64_and7 q1
   have a72 := i64_and7 q2
   have hw3 : IntKind.u16.wrap q3 = q3 % 65536 := rfl
   have hf := HF.out
   clear HF
   rcases hf with hf | hf | hf | hf
   all_goals
    have HF := zh hf
    clear hf
    go_upto_region 13 with (first
     | (go_at_call 59; refine (yi _ _).mono ?_; rintro e w3 ⟨rfl, hb3⟩; rw [HF.out]; have hz3 := hb3.size; simp at hz3))
    have HB3 := zh ((hb3.block w2.heap.size (by simp)).trans HB2.out)
    have H0 := zh ((hb3.block w.heap.size (by simp; omega)).trans H0.out)
    have H1 := zh ((hb3.block (w.heap.size + 1) (by simp; omega)).trans H1.out)
    clear hq1 hq2 hq3
    have hq2 := cell_of_row _ w.heap.size 2 _ _ _ H0.out
    have hq4 := cell_of_row _ w.heap.size 4 _ _ _ H0.out
    have hfz : ∀ j, w3.frozen? ⟨w2.heap.size, j, none⟩ = false := fun j => frozen_of_row w3 w2.heap.size j _ _ HB3.out
    have hcz : ∀ j, w3.cell? ⟨w2.heap.size, j, none⟩ = (#[Value.int .i64 op, .int .i64 0, .int .i64 0, .int .u16 0, .int .u16 0, .int .i64 0, .int .i64 (zc op)] : Array Value)[j]? := fun j => cell_of_row w3 w2.heap.size j _ _ _ HB3.out
    have a6 := i64_and63 q4
    have a65 := yP q4
    have hw8 : IntKind.u8.wrap (q3 % 65536) = q3 % 256 := by show q3 % 65536 % 256 = q3 % 256; omega
    have hw2 : IntKind.u16.wrap q2 = q2 % 65536 := rfl
    have hw4 : IntKind.u16.wrap q4 = q4 % 65536 := rfl
    have hbb : Below w.heap.size w w3 := (HBB.out.trans (hb2.mono (by omega))).trans ((Below.alloc (Below.refl _ _) (by omega) _).trans (hb3.mono (by simp; omega)))
    have HBB := zh hbb
    clear hbb hb3 hb2
    go_upto_region 59 with (first
     | (go_at_call 114; refine (zG _ (by omega) (by omega) _).mono ?_; rintro e ww ⟨rfl, rfl⟩))
    have hne : w.heap.size + 1 ≠ w2.heap.size := by omega
    have hle : w.heap.size ≤ w2.heap.size := by omega
   ·have r0 := HB3.out
    have s0 := H1.out
    have t0 := HBB.out
    have r1 := heap_setCell_same _ w2.heap.size 1 _ _ (.int .i64 (q1 % 8)) r0
    have s1 := (heap_setCell_other _ ⟨w2.heap.size, 1, none⟩ (w.heap.size + 1) (.int .i64 (q1 % 8)) hne).trans s0
    have t1 := t0.setCell (p := ⟨w2.heap.size, 1, none⟩) hle (.int .i64 (q1 % 8))
    have r2 := heap_setCell_same _ w2.heap.size 3 _ _ (.int .u16 (q3 % 256)) r1
    have s2 := (heap_setCell_other _ ⟨w2.heap.size, 3, none⟩ (w.heap.size + 1) (.int .u16 (q3 % 256)) hne).trans s1
    have t2 := t1.setCell (p := ⟨w2.heap.size, 3, none⟩) hle (.int .u16 (q3 % 256))
    have rr : _ = some (Obj.cells #[.int .i64 op, .int .i64 (q1 % 8), .int .i64 0, .int .u16 (q3 % 256), .int .u16 0, .int .i64 0, .int .i64 (zc op)] 53 (0, 0)) := r2
    have RR := zh rr
    have SS := zh s2
    have TT := zh t2
    clear rr r0 s0 t0 r1 s1 t1 r2 s2 t2
    go_wp2_with (first
     | (refine wpList_load_row rfl _ (.tmp 6) rfl _ rfl _ #[.int .i64 op, .int .i64 (q1 % 8), .int .i64 0, .int .u16 (q3 % 256), .int .u16 0, .int .i64 0, .int .i64 (zc op)] _ _ RR.out Tryz.underlying53 rfl ?_ ?_; kernel_rfl)
     | (refine wpList_store_row rfl _ (.tmp 2) _ rfl _ #[.int .i64 op, .int .i64 (q1 % 8), .int .i64 0, .int .u16 (q3 % 256), .int .u16 0, .int .i64 0, .int .i64 (zc op)] rfl rfl _ _ SS.out ?_ ?_ ?_ ?_; kernel_rfl; rfl; kernel_rfl))
    refine bodyPost_ret (results_cell_row (cs := #[.int .i64 op, .int .i64 (q1 % 8), .int .i64 0, .int .u16 (q3 % 256), .int .u16 0, .int .i64 0, .int .i64 (zc op)]) (fr := (0, 0)) rfl _ _ (w.heap.size + 1) 53 _ rfl (setRow_heap _ _ _ _ _ _ SS.out) (Tryz.underlying53) rfl (by kernel_rfl)) rfl ⟨?_, below_setRow TT.out (by omega) _⟩
    rw [E0.out, HF.out]
    first | rfl | simp [xS, mkD, mkS, mkI, zd, vi, vw]
   ·have r0 := HB3.out
    have s0 := H1.out
    have t0 := HBB.out
    have r1 := heap_setCell_same _ w2.heap.size 1 _ _ (.int .i64 (q1 % 8)) r0
    have s1 := (heap_setCell_other _ ⟨w2.heap.size, 1, none⟩ (w.heap.size + 1) (.int .i64 (q1 % 8)) hne).trans s0
    have t1 := t0.setCell (p := ⟨w2.heap.size, 1, none⟩) hle (.int .i64 (q1 % 8))
    have r2 := heap_setCell_same _ w2.heap.size 2 _ _ (.int .i64 (q2 % 8)) r1
    have s2 := (heap_setCell_other _ ⟨w2.heap.size, 2, none⟩ (w.heap.size + 1) (.int .i64 (q2 % 8)) hne).trans s1
    have t2 := t1.setCell (p := ⟨w2.heap.size, 2, none⟩) hle (.int .i64 (q2 % 8))
    have r3 := heap_setCell_same _ w2.heap.size 3 _ _ (.int .u16 (q3 % 65536)) r2
    have s3 := (heap_setCell_other _ ⟨w2.heap.size, 3, none⟩ (w.heap.size + 1) (.int .u16 (q3 % 65536)) hne).trans s2
    have t3 := t2.setCell (p := ⟨w2.heap.size, 3, none⟩) hle (.int .u16 (q3 % 65536))
    have r4 := heap_setCell_same _ w2.heap.size 5 _ _ (.int .i64 (q4 % 64)) r3
    have s4 := (heap_setCell_other _ ⟨w2.heap.size, 5, none⟩ (w.heap.size + 1) (.int .i64 (q4 % 64)) hne).trans s3
    have t4 := t3.setCell (p := ⟨w2.heap.size, 5, none⟩) hle (.int .i64 (q4 % 64))
    have rr : _ = some (Obj.cells #[.int .i64 op, .int .i64 (q1 % 8), .int .i64 (q2 % 8), .int .u16 (q3 % 65536), .int .u16 0, .int .i64 (q4 % 64), .int .i64 (zc op)] 53 (0, 0)) := r4
    have RR := zh rr
    have SS := zh s4
    have TT := zh t4
    clear rr r0 s0 t0 r1 s1 t1 r2 s2 t2 r3 s3 t3 r4 s4 t4
    go_wp2_with (first
     | (refine wpList_load_row rfl _ (.tmp 6) rfl _ rfl _ #[.int .i64 op, .int .i64 (q1 % 8), .int .i64 (q2 % 8), .int .u16 (q3 % 65536), .int .u16 0, .int .i64 (q4 % 64), .int .i64 (zc op)] _ _ RR.out Tryz.underlying53 rfl ?_ ?_; kernel_rfl)
     | (refine wpList_store_row rfl _ (.tmp 2) _ rfl _ #[.int .i64 op, .int .i64 (q1 % 8), .int .i64 (q2 % 8), .int .u16 (q3 % 65536), .int .u16 0, .int .i64 (q4 % 64), .int .i64 (zc op)] rfl rfl _ _ SS.out ?_ ?_ ?_ ?_; kernel_rfl; rfl; kernel_rfl))
    refine bodyPost_ret (results_cell_row (cs := #[.int .i64 op, .int .i64 (q1 % 8), .int .i64 (q2 % 8), .int .u16 (q3 % 65536), .int .u16 0, .int .i64 (q4 % 64), .int .i64 (zc op)]) (fr := (0, 0)) rfl _ _ (w.heap.size + 1) 53 _ rfl (setRow_heap _ _ _ _ _ _ SS.out) (Tryz.underlying53) rfl (by kernel_rfl)) rfl ⟨?_, below_setRow TT.out (by omega) _⟩
    rw [E0.out, HF.out]
    first | rfl | simp [xS, mkD, mkS, mkI, zd, vi, vw]
   ·have r0 := HB3.out
    have s0 := H1.out
    have t0 := HBB.out
    have r1 := heap_setCell_same _ w2.heap.size 2 _ _ (.int .i64 (q2 % 8)) r0
    have s1 := (heap_setCell_other _ ⟨w2.heap.size, 2, none⟩ (w.heap.size + 1) (.int .i64 (q2 % 8)) hne).trans s0
    have t1 := t0.setCell (p := ⟨w2.heap.size, 2, none⟩) hle (.int .i64 (q2 % 8))
    have r2 := heap_setCell_same _ w2.heap.size 3 _ _ (.int .u16 (q3 % 65536)) r1
    have s2 := (heap_setCell_other _ ⟨w2.heap.size, 3, none⟩ (w.heap.size + 1) (.int .u16 (q3 % 65536)) hne).trans s1
    have t2 := t1.setCell (p := ⟨w2.heap.size, 3, none⟩) hle (.int .u16 (q3 % 65536))
    have r3 := heap_setCell_same _ w2.heap.size 4 _ _ (.int .u16 (q4 % 65536)) r2
    have s3 := (heap_setCell_other _ ⟨w2.heap.size, 4, none⟩ (w.heap.size + 1) (.int .u16 (q4 % 65536)) hne).trans s2
    have t3 := t2.setCell (p := ⟨w2.heap.size, 4, none⟩) hle (.int .u16 (q4 % 65536))
    have rr : _ = some (Obj.cells #[.int .i64 op, .int .i64 0, .int .i64 (q2 % 8), .int .u16 (q3 % 65536), .int .u16 (q4 % 65536), .int .i64 0, .int .i64 (zc op)] 53 (0, 0)) := r3
    have RR := zh rr
    have SS := zh s3
    have TT := zh t3
    clear rr r0 s0 t0 r1 s1 t1 r2 s2 t2 r3 s3 t3
    go_wp2_with (first
     | (refine wpList_load_row rfl _ (.tmp 6) rfl _ rfl _ #[.int .i64 op, .int .i64 0, .int .i64 (q2 % 8), .int .u16 (q3 % 65536), .int .u16 (q4 % 65536), .int .i64 0, .int .i64 (zc op)] _ _ RR.out Tryz.underlying53 rfl ?_ ?_; kernel_rfl)
     | (refine wpList_store_row rfl _ (.tmp 2) _ rfl _ #[.int .i64 op, .int .i64 0, .int .i64 (q2 % 8), .int .u16 (q3 % 65536), .int .u16 (q4 % 65536), .int .i64 0, .int .i64 (zc op)] rfl rfl _ _ SS.out ?_ ?_ ?_ ?_; kernel_rfl; rfl; kernel_rfl))
    refine bodyPost_ret (results_cell_row (cs := #[.int .i64 op, .int .i64 0, .int .i64 (q2 % 8), .int .u16 (q3 % 65536), .int .u16 (q4 % 65536), .int .i64 0, .int .i64 (zc op)]) (fr := (0, 0)) rfl _ _ (w.heap.size + 1) 53 _ rfl (setRow_heap _ _ _ _ _ _ SS.out) (Tryz.underlying53) rfl (by kernel_rfl)) rfl ⟨?_, below_setRow TT.out (by omega) _⟩
    rw [E0.out, HF.out]
    first | rfl | simp [xS, mkD, mkS, mkI, zd, vi, vw]
   ·have r0 := HB3.out
    have s0 := H1.out
    have t0 := HBB.out
    have r1 := heap_setCell_same _ w2.heap.size 1 _ _ (.int .i64 (q1 % 8)) r0
    have s1 := (heap_setCell_other _ ⟨w2.heap.size, 1, none⟩ (w.heap.size + 1) (.int .i64 (q1 % 8)) hne).trans s0
    have t1 := t0.setCell (p := ⟨w2.heap.size, 1, none⟩) hle (.int .i64 (q1 % 8))
    have r2 := heap_setCell_same _ w2.heap.size 3 _ _ (.int .u16 (zj (q3 % 256))) r1
    have s2 := (heap_setCell_other _ ⟨w2.heap.size, 3, none⟩ (w.heap.size + 1) (.int .u16 (zj (q3 % 256))) hne).trans s1
    have t2 := t1.setCell (p := ⟨w2.heap.size, 3, none⟩) hle (.int .u16 (zj (q3 % 256)))
    have rr : _ = some (Obj.cells #[.int .i64 op, .int .i64 (q1 % 8), .int .i64 0, .int .u16 (zj (q3 % 256)), .int .u16 0, .int .i64 0, .int .i64 (zc op)] 53 (0, 0)) := r2
    have RR := zh rr
    have SS := zh s2
    have TT := zh t2
    clear rr r0 s0 t0 r1 s1 t1 r2 s2 t2
    go_wp2_with (first
     | (refine wpList_load_row rfl _ (.tmp 6) rfl _ rfl _ #[.int .i64 op, .int .i64 (q1 % 8), .int .i64 0, .int .u16 (zj (q3 % 256)), .int .u16 0, .int .i64 0, .int .i64 (zc op)] _ _ RR.out Tryz.underlying53 rfl ?_ ?_; kernel_rfl)
     | (refine wpList_store_row rfl _ (.tmp 2) _ rfl _ #[.int .i64 op, .int .i64 (q1 % 8), .int .i64 0, .int .u16 (zj (q3 % 256)), .int .u16 0, .int .i64 0, .int .i64 (zc op)] rfl rfl _ _ SS.out ?_ ?_ ?_ ?_; kernel_rfl; rfl; kernel_rfl))
    refine bodyPost_ret (results_cell_row (cs := #[.int .i64 op, .int .i64 (q1 % 8), .int .i64 0, .int .u16 (zj (q3 % 256)), .int .u16 0, .int .i64 0, .int .i64 (zc op)]) (fr := (0, 0)) rfl _ _ (w.heap.size + 1) 53 _ rfl (setRow_heap _ _ _ _ _ _ SS.out) (Tryz.underlying53) rfl (by kernel_rfl)) rfl ⟨?_, below_setRow TT.out (by omega) _⟩
    rw [E0.out, HF.out]
    first | rfl | simp [xS, mkD, mkS, mkI, zd, vi, vw]
end Go.Proofs.YteofmaiojepdkaaGreat
namespace Go.Proofs.YteofmaiojepdkaaGreat
open Go.RowKit
theorem made_any (q0 q1 q2 q3 q4 : Int) (w : World) :
  Calls Tryz.prog 117 #[.agg #[.int .i64 q0, .int .i64 q1, .int .i64 q2, .int .i64 q3, .int .i64 q4]] w fun e w' => e = .returned (.agg (zd (madeS q0 q1 q2 q3 q4))) ∧ Below w.heap.size w w' := by
 have h18 := fmt18 (zV q0) (jg q0).1
 rcases h18 with h | h | h | h | h | h | h | h | h | h | h | h | h | h | h | h | h | h
 ·exact made_g0 q0 q1 q2 q3 q4 (by omega) w
 ·exact made_g0 q0 q1 q2 q3 q4 (by omega) w
 ·exact made_g0 q0 q1 q2 q3 q4 (by omega) w
 ·exact made_g0 q0 q1 q2 q3 q4 (by omega) w
 ·exact made_g0 q0 q1 q2 q3 q4 (by omega) w
 ·exact made_g1 q0 q1 q2 q3 q4 (by omega) w
 ·exact made_g1 q0 q1 q2 q3 q4 (by omega) w
 ·exact made_g1 q0 q1 q2 q3 q4 (by omega) w
 ·exact made_g1 q0 q1 q2 q3 q4 (by omega) w
 ·exact made_g2 q0 q1 q2 q3 q4 (by omega) w
 ·exact made_g2 q0 q1 q2 q3 q4 (by omega) w
 ·exact made_g2 q0 q1 q2 q3 q4 (by omega) w
 ·exact made_g2 q0 q1 q2 q3 q4 (by omega) w
 ·exact made_g2 q0 q1 q2 q3 q4 (by omega) w
 ·exact made_g3 q0 q1 q2 q3 q4 (by omega) w
 ·exact made_g3 q0 q1 q2 q3 q4 (by omega) w
 ·exact made_g3 q0 q1 q2 q3 q4 (by omega) w
 ·exact made_g3 q0 q1 q2 q3 q4 (by omega) w
end Go.Proofs.YteofmaiojepdkaaGreat
