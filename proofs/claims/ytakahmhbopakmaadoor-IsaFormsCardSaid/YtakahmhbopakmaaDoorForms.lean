/- IsaForms: walked. Condition: the library's tables read as the text lays them. -/
import Derived.Test.YtakahmhbopakmaaDoorSane
import Derived.Test.YtakahmhbopakmaaDoorFormsA
import Derived.BigQuiet
import Derived.Deep.QuietTactic
set_option linter.all false
namespace Go.Proofs.YtakahmhbopakmaaDoor
open Go.RowKit

set_option maxRecDepth 100000 in
set_option maxHeartbeats 1000000 in
theorem forms_zero (op r0 r1 : Int) (o0 : 0 ≤ op) (o1 : op < 256) (a0 : 0 ≤ r0) (a1 : r0 < 256) (b0 : 0 ≤ r1) (b1 : r1 < 256)  (w : World) (hT : Tabs w) :
    Calls Tryd.prog 13 #[.int .u8 op, .agg #[.int .u8 r0, .int .u8 r1], .int .u16 0] w fun e w' => e = .returned (.bool true) ∧ Below w.heap.size w w' := by
  have v1 := fv1 (op % 15) (r0 % 8) (r1 % 8) 0 (by omega) (by omega) (by omega) (by omega)
  have v2 : validS ⟨32 + op % 15 + 16, r0 % 8, 0, 0, 0, 0, 3⟩ = true := (fv2 (op % 15) (r0 % 8) (r1 % 8) 0 (by omega) (by omega) (by omega) (by omega)).trans (by unfold fitsB; simp)
  have v3 := fv3 (op % 15) (r0 % 8) (r1 % 8) 0 (by omega) (by omega) (by omega) (by omega)
  have v4 : validS ⟨80 + op % 4, r0 % 8, r1 % 8, 0, 0, 0, 3⟩ = true := (fv4 (op % 4) (r0 % 8) (r1 % 8) 0 (by omega) (by omega) (by omega) (by omega)).trans (by unfold fitsB; simp)
  have v5 := fv5 (op % 4) (r0 % 8) (r1 % 8) 0 (by omega) (by omega) (by omega) (by omega)
  have v6 : validS ⟨32 + op % 15, r0 % 8, r1 % 8, 0, 0, 0, 2⟩ = true := (fv6 (op % 15) (r0 % 8) (r1 % 8) 0 (by omega) (by omega) (by omega) (by omega)).trans (by simp)
  have v7 := fv7 (op % 15) (r0 % 8) (r1 % 8) 0 (by omega) (by omega) (by omega) (by omega)
  have V1 := Lib.hid v1
  have V2 := Lib.hid v2
  have V3 := Lib.hid v3
  have V4 := Lib.hid v4
  have V5 := Lib.hid v5
  have V6 := Lib.hid v6
  have V7 := Lib.hid v7
  clear v1 v2 v3 v4 v5 v6 v7
  have HT := Lib.hid hT
  clear hT
  go_enter Tryd.func13, Tryd.ntmps13
  go_upto_region 2 with (go_at_call 15; refine (sanity_any _ (HT.out.stay ((Below.refl _ _).alloc (Nat.le_refl _) _))).mono ?_; rintro e w1 ⟨rfl, hb1⟩; have hB := (hb1.block w.heap.size (by simp)).trans (heap_alloc_new w _); have hc := fun o => cell_of_row w1 w.heap.size o _ _ _ hB; have HBB := Lib.hid (((Below.refl w.heap.size w).alloc (Nat.le_refl _) _).trans (hb1.mono (by simp))); clear hb1 hB)
  go_upto_region 5 with fail
  go_quiet (fail)
  replace HBB := Lib.hid (belowN HBB.out nq)
  clear hc
  go_upto_region 7 with (go_at_call 20; refine (valid_any ⟨32 + op % 15, r0 % 8, r1 % 8, 0, 0, 0, 2⟩ (okSmall _ _ _ _ _ _ (by omega) (by omega) (by omega) (by omega) (by omega) (by omega)) _).mono ?_; rintro e w2 ⟨rfl, hb2⟩; rw [V1.out]; replace HBB := Lib.hid (HBB.out.trans (hb2.mono HBB.out.size)); clear hb2)
  go_upto_region 8 with (go_at_call 20; refine (valid_any ⟨32 + op % 15 + 16, r0 % 8, 0, 0, 0, 0, 3⟩ (okSmall _ _ _ _ _ _ (by omega) (by omega) (by omega) (by omega) (by omega) (by omega)) _).mono ?_; rintro e w3 ⟨rfl, hb3⟩; rw [V2.out]; replace HBB := Lib.hid (HBB.out.trans (hb3.mono HBB.out.size)); clear hb3)
  go_upto_region 9 with (go_at_call 20; refine (valid_any ⟨32 + op % 15 + 32, r0 % 8, 0, 0, 0, 0, 4⟩ (okSmall _ _ _ _ _ _ (by omega) (by omega) (by omega) (by omega) (by omega) (by omega)) _).mono ?_; rintro e w4 ⟨rfl, hb4⟩; rw [V3.out]; replace HBB := Lib.hid (HBB.out.trans (hb4.mono HBB.out.size)); clear hb4)
  go_upto_region 10 with (go_at_call 20; refine (valid_any ⟨80 + op % 4, r0 % 8, r1 % 8, 0, 0, 0, 3⟩ (okSmall _ _ _ _ _ _ (by omega) (by omega) (by omega) (by omega) (by omega) (by omega)) _).mono ?_; rintro e w5 ⟨rfl, hb5⟩; rw [V4.out]; replace HBB := Lib.hid (HBB.out.trans (hb5.mono HBB.out.size)); clear hb5)
  go_upto_region 11 with (go_at_call 20; refine (valid_any ⟨80 + op % 4 + 8, r0 % 8, r1 % 8, 0, 0, 0, 4⟩ (okSmall _ _ _ _ _ _ (by omega) (by omega) (by omega) (by omega) (by omega) (by omega)) _).mono ?_; rintro e w6 ⟨rfl, hb6⟩; rw [V5.out]; replace HBB := Lib.hid (HBB.out.trans (hb6.mono HBB.out.size)); clear hb6)
  go_upto_region 12 with (go_at_call 20; refine (valid_any ⟨32 + op % 15, r0 % 8, r1 % 8, 0, 0, 0, 2⟩ (okSmall _ _ _ _ _ _ (by omega) (by omega) (by omega) (by omega) (by omega) (by omega)) _).mono ?_; rintro e w7 ⟨rfl, hb7⟩; rw [V6.out]; replace HBB := Lib.hid (HBB.out.trans (hb7.mono HBB.out.size)); clear hb7)
  go_wp2_with (go_at_call 20; refine (valid_any ⟨32 + op % 15, r0 % 8 + 8, r1 % 8, 0, 0, 0, 2⟩ (okSmall _ _ _ _ _ _ (by omega) (by omega) (by omega) (by omega) (by omega) (by omega)) _).mono ?_; rintro e w8 ⟨rfl, hb8⟩; rw [V7.out]; replace HBB := Lib.hid (HBB.out.trans (hb8.mono HBB.out.size)); clear hb8)
  go_ret
  exact ⟨rfl, HBB.out⟩

set_option maxRecDepth 100000 in
set_option maxHeartbeats 1000000 in
theorem forms_low (op r0 r1 n : Int) (o0 : 0 ≤ op) (o1 : op < 256) (a0 : 0 ≤ r0) (a1 : r0 < 256) (b0 : 0 ≤ r1) (b1 : r1 < 256) (h1 : 0 < n) (h2 : n < 128) (w : World) (hT : Tabs w) :
    Calls Tryd.prog 13 #[.int .u8 op, .agg #[.int .u8 r0, .int .u8 r1], .int .u16 n] w fun e w' => e = .returned (.bool true) ∧ Below w.heap.size w w' := by
  have v1 := fv1 (op % 15) (r0 % 8) (r1 % 8) n (by omega) (by omega) (by omega) (by omega)
  have v2 : validS ⟨32 + op % 15 + 16, r0 % 8, 0, n, 0, 0, 3⟩ = true := (fv2 (op % 15) (r0 % 8) (r1 % 8) n (by omega) (by omega) (by omega) (by omega)).trans (by unfold fitsB; simp; omega)
  have v3 := fv3 (op % 15) (r0 % 8) (r1 % 8) n (by omega) (by omega) (by omega) (by omega)
  have v4 : validS ⟨80 + op % 4, r0 % 8, r1 % 8, n, 0, 0, 3⟩ = true := (fv4 (op % 4) (r0 % 8) (r1 % 8) n (by omega) (by omega) (by omega) (by omega)).trans (by unfold fitsB; simp; omega)
  have v5 := fv5 (op % 4) (r0 % 8) (r1 % 8) n (by omega) (by omega) (by omega) (by omega)
  have v6 : validS ⟨32 + op % 15, r0 % 8, r1 % 8, n, 0, 0, 2⟩ = false := (fv6 (op % 15) (r0 % 8) (r1 % 8) n (by omega) (by omega) (by omega) (by omega)).trans (by simp; omega)
  have v7 := fv7 (op % 15) (r0 % 8) (r1 % 8) 0 (by omega) (by omega) (by omega) (by omega)
  have V1 := Lib.hid v1
  have V2 := Lib.hid v2
  have V3 := Lib.hid v3
  have V4 := Lib.hid v4
  have V5 := Lib.hid v5
  have V6 := Lib.hid v6
  have V7 := Lib.hid v7
  clear v1 v2 v3 v4 v5 v6 v7
  have HT := Lib.hid hT
  clear hT
  go_enter Tryd.func13, Tryd.ntmps13
  go_upto_region 2 with (go_at_call 15; refine (sanity_any _ (HT.out.stay ((Below.refl _ _).alloc (Nat.le_refl _) _))).mono ?_; rintro e w1 ⟨rfl, hb1⟩; have hB := (hb1.block w.heap.size (by simp)).trans (heap_alloc_new w _); have hc := fun o => cell_of_row w1 w.heap.size o _ _ _ hB; have HBB := Lib.hid (((Below.refl w.heap.size w).alloc (Nat.le_refl _) _).trans (hb1.mono (by simp))); clear hb1 hB)
  go_upto_region 5 with fail
  go_quiet (fail)
  replace HBB := Lib.hid (belowN HBB.out nq)
  clear hc
  go_upto_region 7 with (go_at_call 20; refine (valid_any ⟨32 + op % 15, r0 % 8, r1 % 8, 0, 0, 0, 2⟩ (okSmall _ _ _ _ _ _ (by omega) (by omega) (by omega) (by omega) (by omega) (by omega)) _).mono ?_; rintro e w2 ⟨rfl, hb2⟩; rw [V1.out]; replace HBB := Lib.hid (HBB.out.trans (hb2.mono HBB.out.size)); clear hb2)
  go_upto_region 8 with (go_at_call 20; refine (valid_any ⟨32 + op % 15 + 16, r0 % 8, 0, n, 0, 0, 3⟩ (okSmall _ _ _ _ _ _ (by omega) (by omega) (by omega) (by omega) (by omega) (by omega)) _).mono ?_; rintro e w3 ⟨rfl, hb3⟩; rw [V2.out]; replace HBB := Lib.hid (HBB.out.trans (hb3.mono HBB.out.size)); clear hb3)
  go_upto_region 9 with (go_at_call 20; refine (valid_any ⟨32 + op % 15 + 32, r0 % 8, 0, n, 0, 0, 4⟩ (okSmall _ _ _ _ _ _ (by omega) (by omega) (by omega) (by omega) (by omega) (by omega)) _).mono ?_; rintro e w4 ⟨rfl, hb4⟩; rw [V3.out]; replace HBB := Lib.hid (HBB.out.trans (hb4.mono HBB.out.size)); clear hb4)
  go_upto_region 10 with (go_at_call 20; refine (valid_any ⟨80 + op % 4, r0 % 8, r1 % 8, n, 0, 0, 3⟩ (okSmall _ _ _ _ _ _ (by omega) (by omega) (by omega) (by omega) (by omega) (by omega)) _).mono ?_; rintro e w5 ⟨rfl, hb5⟩; rw [V4.out]; replace HBB := Lib.hid (HBB.out.trans (hb5.mono HBB.out.size)); clear hb5)
  go_upto_region 11 with (go_at_call 20; refine (valid_any ⟨80 + op % 4 + 8, r0 % 8, r1 % 8, n, 0, 0, 4⟩ (okSmall _ _ _ _ _ _ (by omega) (by omega) (by omega) (by omega) (by omega) (by omega)) _).mono ?_; rintro e w6 ⟨rfl, hb6⟩; rw [V5.out]; replace HBB := Lib.hid (HBB.out.trans (hb6.mono HBB.out.size)); clear hb6)
  go_upto_region 12 with (go_at_call 20; refine (valid_any ⟨32 + op % 15, r0 % 8, r1 % 8, n, 0, 0, 2⟩ (okSmall _ _ _ _ _ _ (by omega) (by omega) (by omega) (by omega) (by omega) (by omega)) _).mono ?_; rintro e w7 ⟨rfl, hb7⟩; rw [V6.out]; replace HBB := Lib.hid (HBB.out.trans (hb7.mono HBB.out.size)); clear hb7)
  go_wp2_with (go_at_call 20; refine (valid_any ⟨32 + op % 15, r0 % 8 + 8, r1 % 8, 0, 0, 0, 2⟩ (okSmall _ _ _ _ _ _ (by omega) (by omega) (by omega) (by omega) (by omega) (by omega)) _).mono ?_; rintro e w8 ⟨rfl, hb8⟩; rw [V7.out]; replace HBB := Lib.hid (HBB.out.trans (hb8.mono HBB.out.size)); clear hb8)
  go_ret
  exact ⟨(by have h0 : (n == 0) = false := (by simp; omega); show Ending.returned (.bool (!(n == 0))) = _; rw [h0]; rfl), HBB.out⟩

set_option maxRecDepth 100000 in
set_option maxHeartbeats 1000000 in
theorem forms_mid (op r0 r1 n : Int) (o0 : 0 ≤ op) (o1 : op < 256) (a0 : 0 ≤ r0) (a1 : r0 < 256) (b0 : 0 ≤ r1) (b1 : r1 < 256) (h1 : 128 ≤ n) (h2 : n < 65408) (w : World) (hT : Tabs w) :
    Calls Tryd.prog 13 #[.int .u8 op, .agg #[.int .u8 r0, .int .u8 r1], .int .u16 n] w fun e w' => e = .returned (.bool true) ∧ Below w.heap.size w w' := by
  have v1 := fv1 (op % 15) (r0 % 8) (r1 % 8) n (by omega) (by omega) (by omega) (by omega)
  have v2 : validS ⟨32 + op % 15 + 16, r0 % 8, 0, n, 0, 0, 3⟩ = false := (fv2 (op % 15) (r0 % 8) (r1 % 8) n (by omega) (by omega) (by omega) (by omega)).trans (by unfold fitsB; simp; omega)
  have v3 := fv3 (op % 15) (r0 % 8) (r1 % 8) n (by omega) (by omega) (by omega) (by omega)
  have v4 : validS ⟨80 + op % 4, r0 % 8, r1 % 8, n, 0, 0, 3⟩ = false := (fv4 (op % 4) (r0 % 8) (r1 % 8) n (by omega) (by omega) (by omega) (by omega)).trans (by unfold fitsB; simp; omega)
  have v5 := fv5 (op % 4) (r0 % 8) (r1 % 8) n (by omega) (by omega) (by omega) (by omega)
  have v6 : validS ⟨32 + op % 15, r0 % 8, r1 % 8, n, 0, 0, 2⟩ = false := (fv6 (op % 15) (r0 % 8) (r1 % 8) n (by omega) (by omega) (by omega) (by omega)).trans (by simp; omega)
  have v7 := fv7 (op % 15) (r0 % 8) (r1 % 8) 0 (by omega) (by omega) (by omega) (by omega)
  have V1 := Lib.hid v1
  have V2 := Lib.hid v2
  have V3 := Lib.hid v3
  have V4 := Lib.hid v4
  have V5 := Lib.hid v5
  have V6 := Lib.hid v6
  have V7 := Lib.hid v7
  clear v1 v2 v3 v4 v5 v6 v7
  have e1 : decide (n < 128) = false := decide_eq_false (by omega)
  have e2 : decide (65408 ≤ n) = false := decide_eq_false (by omega)
  have HT := Lib.hid hT
  clear hT
  go_enter Tryd.func13, Tryd.ntmps13
  go_upto_region 2 with (go_at_call 15; refine (sanity_any _ (HT.out.stay ((Below.refl _ _).alloc (Nat.le_refl _) _))).mono ?_; rintro e w1 ⟨rfl, hb1⟩; have hB := (hb1.block w.heap.size (by simp)).trans (heap_alloc_new w _); have hc := fun o => cell_of_row w1 w.heap.size o _ _ _ hB; have HBB := Lib.hid (((Below.refl w.heap.size w).alloc (Nat.le_refl _) _).trans (hb1.mono (by simp))); clear hb1 hB)
  go_upto_region 5 with fail
  go_quiet (fail)
  replace HBB := Lib.hid (belowN HBB.out nq)
  clear hc
  go_upto_region 7 with (go_at_call 20; refine (valid_any ⟨32 + op % 15, r0 % 8, r1 % 8, 0, 0, 0, 2⟩ (okSmall _ _ _ _ _ _ (by omega) (by omega) (by omega) (by omega) (by omega) (by omega)) _).mono ?_; rintro e w2 ⟨rfl, hb2⟩; rw [V1.out]; replace HBB := Lib.hid (HBB.out.trans (hb2.mono HBB.out.size)); clear hb2)
  go_upto_region 8 with (go_at_call 20; refine (valid_any ⟨32 + op % 15 + 16, r0 % 8, 0, n, 0, 0, 3⟩ (okSmall _ _ _ _ _ _ (by omega) (by omega) (by omega) (by omega) (by omega) (by omega)) _).mono ?_; rintro e w3 ⟨rfl, hb3⟩; rw [V2.out]; replace HBB := Lib.hid (HBB.out.trans (hb3.mono HBB.out.size)); clear hb3)
  go_upto_region 9 with (go_at_call 20; refine (valid_any ⟨32 + op % 15 + 32, r0 % 8, 0, n, 0, 0, 4⟩ (okSmall _ _ _ _ _ _ (by omega) (by omega) (by omega) (by omega) (by omega) (by omega)) _).mono ?_; rintro e w4 ⟨rfl, hb4⟩; rw [V3.out]; replace HBB := Lib.hid (HBB.out.trans (hb4.mono HBB.out.size)); clear hb4)
  go_upto_region 10 with (go_at_call 20; refine (valid_any ⟨80 + op % 4, r0 % 8, r1 % 8, n, 0, 0, 3⟩ (okSmall _ _ _ _ _ _ (by omega) (by omega) (by omega) (by omega) (by omega) (by omega)) _).mono ?_; rintro e w5 ⟨rfl, hb5⟩; rw [V4.out]; replace HBB := Lib.hid (HBB.out.trans (hb5.mono HBB.out.size)); clear hb5)
  go_upto_region 11 with (go_at_call 20; refine (valid_any ⟨80 + op % 4 + 8, r0 % 8, r1 % 8, n, 0, 0, 4⟩ (okSmall _ _ _ _ _ _ (by omega) (by omega) (by omega) (by omega) (by omega) (by omega)) _).mono ?_; rintro e w6 ⟨rfl, hb6⟩; rw [V5.out]; replace HBB := Lib.hid (HBB.out.trans (hb6.mono HBB.out.size)); clear hb6)
  go_upto_region 12 with (go_at_call 20; refine (valid_any ⟨32 + op % 15, r0 % 8, r1 % 8, n, 0, 0, 2⟩ (okSmall _ _ _ _ _ _ (by omega) (by omega) (by omega) (by omega) (by omega) (by omega)) _).mono ?_; rintro e w7 ⟨rfl, hb7⟩; rw [V6.out]; replace HBB := Lib.hid (HBB.out.trans (hb7.mono HBB.out.size)); clear hb7)
  go_wp2_with (go_at_call 20; refine (valid_any ⟨32 + op % 15, r0 % 8 + 8, r1 % 8, 0, 0, 0, 2⟩ (okSmall _ _ _ _ _ _ (by omega) (by omega) (by omega) (by omega) (by omega) (by omega)) _).mono ?_; rintro e w8 ⟨rfl, hb8⟩; rw [V7.out]; replace HBB := Lib.hid (HBB.out.trans (hb8.mono HBB.out.size)); clear hb8)
  go_ret
  exact ⟨(by have h0 : (n == 0) = false := (by simp; omega); show Ending.returned (.bool (!(n == 0))) = _; rw [h0]; rfl), HBB.out⟩

set_option maxRecDepth 100000 in
set_option maxHeartbeats 1000000 in
theorem forms_high (op r0 r1 n : Int) (o0 : 0 ≤ op) (o1 : op < 256) (a0 : 0 ≤ r0) (a1 : r0 < 256) (b0 : 0 ≤ r1) (b1 : r1 < 256) (h1 : 65408 ≤ n) (h2 : n < 65536) (w : World) (hT : Tabs w) :
    Calls Tryd.prog 13 #[.int .u8 op, .agg #[.int .u8 r0, .int .u8 r1], .int .u16 n] w fun e w' => e = .returned (.bool true) ∧ Below w.heap.size w w' := by
  have v1 := fv1 (op % 15) (r0 % 8) (r1 % 8) n (by omega) (by omega) (by omega) (by omega)
  have v2 : validS ⟨32 + op % 15 + 16, r0 % 8, 0, n, 0, 0, 3⟩ = true := (fv2 (op % 15) (r0 % 8) (r1 % 8) n (by omega) (by omega) (by omega) (by omega)).trans (by unfold fitsB; simp; omega)
  have v3 := fv3 (op % 15) (r0 % 8) (r1 % 8) n (by omega) (by omega) (by omega) (by omega)
  have v4 : validS ⟨80 + op % 4, r0 % 8, r1 % 8, n, 0, 0, 3⟩ = true := (fv4 (op % 4) (r0 % 8) (r1 % 8) n (by omega) (by omega) (by omega) (by omega)).trans (by unfold fitsB; simp; omega)
  have v5 := fv5 (op % 4) (r0 % 8) (r1 % 8) n (by omega) (by omega) (by omega) (by omega)
  have v6 : validS ⟨32 + op % 15, r0 % 8, r1 % 8, n, 0, 0, 2⟩ = false := (fv6 (op % 15) (r0 % 8) (r1 % 8) n (by omega) (by omega) (by omega) (by omega)).trans (by simp; omega)
  have v7 := fv7 (op % 15) (r0 % 8) (r1 % 8) 0 (by omega) (by omega) (by omega) (by omega)
  have V1 := Lib.hid v1
  have V2 := Lib.hid v2
  have V3 := Lib.hid v3
  have V4 := Lib.hid v4
  have V5 := Lib.hid v5
  have V6 := Lib.hid v6
  have V7 := Lib.hid v7
  clear v1 v2 v3 v4 v5 v6 v7
  have HT := Lib.hid hT
  clear hT
  go_enter Tryd.func13, Tryd.ntmps13
  go_upto_region 2 with (go_at_call 15; refine (sanity_any _ (HT.out.stay ((Below.refl _ _).alloc (Nat.le_refl _) _))).mono ?_; rintro e w1 ⟨rfl, hb1⟩; have hB := (hb1.block w.heap.size (by simp)).trans (heap_alloc_new w _); have hc := fun o => cell_of_row w1 w.heap.size o _ _ _ hB; have HBB := Lib.hid (((Below.refl w.heap.size w).alloc (Nat.le_refl _) _).trans (hb1.mono (by simp))); clear hb1 hB)
  go_upto_region 5 with fail
  go_quiet (fail)
  replace HBB := Lib.hid (belowN HBB.out nq)
  clear hc
  go_upto_region 7 with (go_at_call 20; refine (valid_any ⟨32 + op % 15, r0 % 8, r1 % 8, 0, 0, 0, 2⟩ (okSmall _ _ _ _ _ _ (by omega) (by omega) (by omega) (by omega) (by omega) (by omega)) _).mono ?_; rintro e w2 ⟨rfl, hb2⟩; rw [V1.out]; replace HBB := Lib.hid (HBB.out.trans (hb2.mono HBB.out.size)); clear hb2)
  go_upto_region 8 with (go_at_call 20; refine (valid_any ⟨32 + op % 15 + 16, r0 % 8, 0, n, 0, 0, 3⟩ (okSmall _ _ _ _ _ _ (by omega) (by omega) (by omega) (by omega) (by omega) (by omega)) _).mono ?_; rintro e w3 ⟨rfl, hb3⟩; rw [V2.out]; replace HBB := Lib.hid (HBB.out.trans (hb3.mono HBB.out.size)); clear hb3)
  go_upto_region 9 with (go_at_call 20; refine (valid_any ⟨32 + op % 15 + 32, r0 % 8, 0, n, 0, 0, 4⟩ (okSmall _ _ _ _ _ _ (by omega) (by omega) (by omega) (by omega) (by omega) (by omega)) _).mono ?_; rintro e w4 ⟨rfl, hb4⟩; rw [V3.out]; replace HBB := Lib.hid (HBB.out.trans (hb4.mono HBB.out.size)); clear hb4)
  go_upto_region 10 with (go_at_call 20; refine (valid_any ⟨80 + op % 4, r0 % 8, r1 % 8, n, 0, 0, 3⟩ (okSmall _ _ _ _ _ _ (by omega) (by omega) (by omega) (by omega) (by omega) (by omega)) _).mono ?_; rintro e w5 ⟨rfl, hb5⟩; rw [V4.out]; replace HBB := Lib.hid (HBB.out.trans (hb5.mono HBB.out.size)); clear hb5)
  go_upto_region 11 with (go_at_call 20; refine (valid_any ⟨80 + op % 4 + 8, r0 % 8, r1 % 8, n, 0, 0, 4⟩ (okSmall _ _ _ _ _ _ (by omega) (by omega) (by omega) (by omega) (by omega) (by omega)) _).mono ?_; rintro e w6 ⟨rfl, hb6⟩; rw [V5.out]; replace HBB := Lib.hid (HBB.out.trans (hb6.mono HBB.out.size)); clear hb6)
  go_upto_region 12 with (go_at_call 20; refine (valid_any ⟨32 + op % 15, r0 % 8, r1 % 8, n, 0, 0, 2⟩ (okSmall _ _ _ _ _ _ (by omega) (by omega) (by omega) (by omega) (by omega) (by omega)) _).mono ?_; rintro e w7 ⟨rfl, hb7⟩; rw [V6.out]; replace HBB := Lib.hid (HBB.out.trans (hb7.mono HBB.out.size)); clear hb7)
  go_wp2_with (go_at_call 20; refine (valid_any ⟨32 + op % 15, r0 % 8 + 8, r1 % 8, 0, 0, 0, 2⟩ (okSmall _ _ _ _ _ _ (by omega) (by omega) (by omega) (by omega) (by omega) (by omega)) _).mono ?_; rintro e w8 ⟨rfl, hb8⟩; rw [V7.out]; replace HBB := Lib.hid (HBB.out.trans (hb8.mono HBB.out.size)); clear hb8)
  go_ret
  exact ⟨(by have h0 : (n == 0) = false := (by simp; omega); show Ending.returned (.bool (!(n == 0))) = _; rw [h0]; rfl), HBB.out⟩

theorem forms_any (op r0 r1 n : Int) (o0 : 0 ≤ op) (o1 : op < 256) (a0 : 0 ≤ r0) (a1 : r0 < 256) (b0 : 0 ≤ r1) (b1 : r1 < 256) (n0 : 0 ≤ n) (n1 : n < 65536) (w : World) (hT : Tabs w) :
    Calls Tryd.prog 13 #[.int .u8 op, .agg #[.int .u8 r0, .int .u8 r1], .int .u16 n] w fun e w' => e = .returned (.bool true) ∧ Below w.heap.size w w' := by
  by_cases h : n = 0
  · subst h; exact forms_zero op r0 r1 o0 o1 a0 a1 b0 b1 w hT
  by_cases h2 : n < 128
  · exact forms_low op r0 r1 n o0 o1 a0 a1 b0 b1 (by omega) h2 w hT
  by_cases h3 : n < 65408
  · exact forms_mid op r0 r1 n o0 o1 a0 a1 b0 b1 (by omega) h3 w hT
  · exact forms_high op r0 r1 n o0 o1 a0 a1 b0 b1 (by omega) n1 w hT

end Go.Proofs.YtakahmhbopakmaaDoor
