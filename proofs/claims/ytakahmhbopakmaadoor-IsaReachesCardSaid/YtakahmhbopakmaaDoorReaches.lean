/- IsaReaches: walked. Condition: the library's tables read as the text lays them. -/
import Derived.Test.YtakahmhbopakmaaDoorSane
import Derived.Test.YtakahmhbopakmaaDoorFormsA
import Derived.Test.YtakahmhbopakmaaDoorTargetA
import Derived.Test.YtakahmhbopakmaaDoorRely
import Derived.Deep.DeepCutAuto
import Derived.Deep.DeepMust
set_option linter.all false
namespace Go.Proofs.YtakahmhbopakmaaDoor
open Go.RowKit

theorem fmt_j : ∀ n : Nat, n < 14 → fmtS (96 + n) = 10 ∧ fmtS (112 + n) = 11 := by decide +kernel
theorem fj (x : Int) (hx : 0 ≤ x ∧ x < 14) : fmtS (96 + x) = 10 ∧ fmtS (112 + x) = 11 := by
  obtain ⟨m, hm⟩ : ∃ m : Nat, x = m := ⟨x.toNat, by omega⟩
  subst hm
  exact fmt_j m (by omega)
theorem rc_valid11 (op n : Int) (ho : 0 ≤ op ∧ op < 1000) (hf : fmtS op = 11) (hn : 0 ≤ n ∧ n < 65536) : validS ⟨op, 0, 0, n, 0, 0, 3⟩ = true := by
  rw [rv_at _ (okSmall _ _ _ _ _ _ (by omega) (by omega) (by omega) (by omega) (by omega) (by omega)) 11 hf (by decide)]
  simp [rvBody, rsizeTab]
theorem rc_valid10 (op n : Int) (ho : 0 ≤ op ∧ op < 1000) (hf : fmtS op = 10) (hn : 0 ≤ n ∧ n < 65536) : validS ⟨op, 0, 0, n, 0, 0, 2⟩ = fitsB n := by
  rw [rv_at _ (okSmall _ _ _ _ _ _ (by omega) (by omega) (by omega) (by omega) (by omega) (by omega)) 10 hf (by decide)]
  simp [rvBody, rsizeTab, sgnB, fitsB]
theorem rc_valid13 (n : Int) (hn : 0 ≤ n ∧ n < 65536) : validS ⟨133, 0, 0, n, 0, 1, 7⟩ = true := by
  rw [rv_at _ (okSmall _ _ _ _ _ _ (by omega) (by omega) (by omega) (by omega) (by omega) (by omega)) 13 (show fmtS 133 = 13 by decide +kernel) (by decide)]
  simp [rvBody, rsizeTab, regB]
theorem rc_valid12 (n : Int) (hn : 0 ≤ n ∧ n < 65536) : validS ⟨131, 0, 0, n, 0, 5, 4⟩ = true := by
  rw [rv_at _ (okSmall _ _ _ _ _ _ (by omega) (by omega) (by omega) (by omega) (by omega) (by omega)) 12 (show fmtS 131 = 12 by decide +kernel) (by decide)]
  simp [rvBody, rsizeTab]
theorem rc_target (i : Ins) (bk A D : Int) (hv : validS i = true) (hr : relS i.op = true) (hA : 0 ≤ A ∧ A < 8192) (hD : 0 ≤ D ∧ D < 8192) (hs : A < 4096 ↔ D < 4096) (hb : A < 4096 → bk = 0) (him : i.imm = (D - A - i.size) % 65536) (hsz : 0 ≤ i.size ∧ i.size < 100) :
    targetS i ⟨bk, A⟩ = (⟨bk, D⟩, true) := by
  have ht : tgt i ⟨bk, A⟩ = D := by unfold tgt; rw [him]; show (A + i.size + (D - A - i.size) % 65536) % 65536 = D; omega
  unfold targetS
  rw [if_pos hv, if_pos hr, ht]
  by_cases h : A < 4096
  · have h2 := hs.1 h
    rw [if_neg (by unfold winS; simp; omega), hb h]
  · have h2 : 4096 ≤ D := by omega
    rw [if_pos (by unfold winS; simp; omega), if_pos (by unfold winS; simp; omega)]
theorem rc_far (D : Int) (hD : 0 ≤ D ∧ D < 8192) (p : Place) : targetS ⟨131, 0, 0, D, 0, 5, 4⟩ p = (⟨if D < 4096 then 0 else 5, D⟩, true) := by
  unfold targetS
  rw [if_pos (rc_valid12 D (by omega)), if_neg (show ¬ relS 131 = true by decide), if_pos (show farS 131 = true by decide)]
  by_cases h : D < 4096
  · rw [if_neg (by unfold winS; simp; omega), if_pos h]
  · rw [if_pos (by unfold winS; simp; omega), if_neg h]
theorem u16_wrap (x : Int) : IntKind.u16.wrap x = x % 65536 := by
  simp [IntKind.wrap, IntKind.signed, IntKind.bits]

def rcC (J m3 m7 : Int) (k : Nat) : Array Value := match k with
  | 0 => #[.int .i64 129, .int .i64 0, .int .i64 0, .int .u16 0, .int .u16 0, .int .i64 0, .int .i64 3, .int .i64 130, .int .i64 0, .int .i64 0, .int .u16 0, .int .u16 0, .int .i64 0, .int .i64 3, .int .i64 (112 + J), .int .i64 0, .int .i64 0, .int .u16 0, .int .u16 0, .int .i64 0, .int .i64 3, .int .i64 133, .int .i64 0, .int .i64 0, .int .u16 0, .int .u16 0, .int .i64 1, .int .i64 7]
  | 1 => #[.int .i64 129, .int .i64 0, .int .i64 0, .int .u16 m3, .int .u16 0, .int .i64 0, .int .i64 3, .int .i64 130, .int .i64 0, .int .i64 0, .int .u16 0, .int .u16 0, .int .i64 0, .int .i64 3, .int .i64 (112 + J), .int .i64 0, .int .i64 0, .int .u16 0, .int .u16 0, .int .i64 0, .int .i64 3, .int .i64 133, .int .i64 0, .int .i64 0, .int .u16 0, .int .u16 0, .int .i64 1, .int .i64 7]
  | 2 => #[.int .i64 129, .int .i64 0, .int .i64 0, .int .u16 m3, .int .u16 0, .int .i64 0, .int .i64 3, .int .i64 130, .int .i64 0, .int .i64 0, .int .u16 m3, .int .u16 0, .int .i64 0, .int .i64 3, .int .i64 (112 + J), .int .i64 0, .int .i64 0, .int .u16 0, .int .u16 0, .int .i64 0, .int .i64 3, .int .i64 133, .int .i64 0, .int .i64 0, .int .u16 0, .int .u16 0, .int .i64 1, .int .i64 7]
  | 3 => #[.int .i64 129, .int .i64 0, .int .i64 0, .int .u16 m3, .int .u16 0, .int .i64 0, .int .i64 3, .int .i64 130, .int .i64 0, .int .i64 0, .int .u16 m3, .int .u16 0, .int .i64 0, .int .i64 3, .int .i64 (112 + J), .int .i64 0, .int .i64 0, .int .u16 m3, .int .u16 0, .int .i64 0, .int .i64 3, .int .i64 133, .int .i64 0, .int .i64 0, .int .u16 0, .int .u16 0, .int .i64 1, .int .i64 7]
  | _ => #[.int .i64 129, .int .i64 0, .int .i64 0, .int .u16 m3, .int .u16 0, .int .i64 0, .int .i64 3, .int .i64 130, .int .i64 0, .int .i64 0, .int .u16 m3, .int .u16 0, .int .i64 0, .int .i64 3, .int .i64 (112 + J), .int .i64 0, .int .i64 0, .int .u16 m3, .int .u16 0, .int .i64 0, .int .i64 3, .int .i64 133, .int .i64 0, .int .i64 0, .int .u16 m7, .int .u16 0, .int .i64 1, .int .i64 7]
set_option maxRecDepth 100000 in
set_option maxHeartbeats 10000000 in
theorem reaches_any (b a t c : Int) (ha : 0 ≤ a ∧ a < 65536) (ht : 0 ≤ t ∧ t < 65536) (hc : 0 ≤ c ∧ c < 256) (w : World) (hT : Tabs w) :
    Calls Tryd.prog 9 #[.agg #[.int .i64 b, .int .u16 a], .int .u16 t, .int .u8 c] w fun e w' => e = .returned (.bool true) ∧ Below w.heap.size w w' := by
  obtain ⟨a0, a1⟩ := ha
  obtain ⟨t0, t1⟩ := ht
  obtain ⟨c0, c1⟩ := hc
  have HT := Lib.hid hT
  clear hT
  obtain ⟨A, eA⟩ : ∃ A, a % 8192 = A := ⟨_, rfl⟩
  obtain ⟨R, eR⟩ : ∃ R, t % 4096 = R := ⟨_, rfl⟩
  obtain ⟨J, eK⟩ : ∃ J, c % 14 = J := ⟨_, rfl⟩
  have hA0 : 0 ≤ A := by omega
  have hA1 : A < 8192 := by omega
  have hR0 : 0 ≤ R := by omega
  have hR1 : R < 4096 := by omega
  have hK0 : 0 ≤ J := by omega
  have hK1 : J < 14 := by omega
  have t1A : A.tdiv 4096 = A / 4096 := Int.tdiv_eq_ediv_of_nonneg hA0
  have t2A : IntKind.u16.wrap (A / 4096) = A / 4096 := IntWalk.u16_in _ (by omega)
  obtain ⟨G, eG⟩ : ∃ G, A / 4096 = G := ⟨_, rfl⟩
  have hG : 0 ≤ G ∧ G ≤ 1 := by omega
  obtain ⟨D, eD⟩ : ∃ D, G * 4096 + R = D := ⟨_, rfl⟩
  have hD0 : 0 ≤ D := by omega
  have hD1 : D < 8192 := by omega
  have hs : A < 4096 ↔ D < 4096 := by omega
  rw [eG] at t1A t2A
  have EG := Lib.hid eG
  have HS := Lib.hid hs
  clear eG hs
  obtain ⟨hG0, hG1⟩ := hG
  go_enter Tryd.func9, Tryd.ntmps9
  have HB := Lib.hid ((Below.refl w.heap.size w).alloc (Nat.le_refl _) (.cells #[.int .i64 b, .int .u16 a] 47))
  have H0 := Lib.hid (heap_alloc_new w (.cells #[.int .i64 b, .int .u16 a] 47))
  go_upto_region 2 with (go_at_call 15; refine (sanity_any _ (HT.out.stay HB.out)).mono ?_; rintro e w1 ⟨rfl, hb1⟩; replace H0 := Lib.hid ((hb1.block _ (by simp)).trans H0.out); replace HB := Lib.hid (HB.out.trans (hb1.mono HB.out.size)); clear hb1)
  have hc1 := cell_of_row w1 w.heap.size 1 _ _ _ H0.out
  simp only [List.getElem?_toArray, List.getElem?_cons_succ, List.getElem?_cons_zero] at hc1
  go_upto_region 3 with (refine wpList_store_at rfl _ _ _ rfl _ _ (by rfl) _ (by rfl) _ _ (H0.out) _ (by rfl) ?_ ?_ ?_ (#[.int .i64 b, .int .u16 (a % 8192)]) (by rfl) ?_; rfl; kernel_rfl; kernel_rfl)
  rw [eA]
  replace HB := Lib.hid (below_setRow HB.out (Nat.le_refl _) #[.int .i64 b, .int .u16 A])
  replace H0 := Lib.hid (setRow_heap w1 w.heap.size _ #[.int .i64 b, .int .u16 A] _ _ H0.out)
  obtain ⟨w2, hw2⟩ : ∃ w2 : World, w1.setRow w.heap.size #[.int .i64 b, .int .u16 A] = w2 := ⟨_, rfl⟩
  rw [hw2] at HB H0 ⊢
  clear hw2 hc1 eA
  have hc2 := cell_of_row w2 w.heap.size 1 _ _ _ H0.out
  simp only [List.getElem?_toArray, List.getElem?_cons_succ, List.getElem?_cons_zero] at hc2
  go_upto_if 33 with fail
  go_cut [] (fun wx => ∃ bk : Int, (A < 4096 → bk = 0) ∧ Hid (wx.heap[w.heap.size]? = some (.cells #[.int .i64 bk, .int .u16 A] 47 (0, 0))) ∧ Hid (Below w.heap.size w wx))
  case first =>
    by_cases hA : A < 4096
    · go_wp2_with (refine wpList_store_at rfl _ _ _ rfl _ _ (by rfl) _ (by rfl) _ _ (H0.out) _ (by rfl) ?_ ?_ ?_ (#[.int .i64 0, .int .u16 A]) (by rfl) ?_; rfl; kernel_rfl; kernel_rfl)
      go_meet
      exact ⟨0, fun _ => rfl, Lib.hid (setRow_heap w2 w.heap.size _ #[.int .i64 0, .int .u16 A] _ _ H0.out), Lib.hid (below_setRow HB.out (Nat.le_refl _) _)⟩
    · go_wp2_with fail
      go_meet
      exact ⟨b, fun h => absurd h (by omega), H0, HB⟩
  case rest =>
    obtain ⟨bk, hbk, H0, HB⟩ := hcut
    obtain ⟨m3, hm3⟩ : ∃ m, (D - A - 3) % 65536 = m := ⟨_, rfl⟩
    obtain ⟨m7, hm7⟩ : ∃ m, (D - A - 7) % 65536 = m := ⟨_, rfl⟩
    have HM3 := Lib.hid (show IntKind.u16.wrap (IntKind.u16.wrap (D - A) - 3) = m3 by rw [u16_wrap, u16_wrap]; omega)
    have HM7 := Lib.hid (show IntKind.u16.wrap (IntKind.u16.wrap (D - A) - 7) = m7 by rw [u16_wrap, u16_wrap]; omega)
    have b3 : 0 ≤ m3 ∧ m3 < 65536 := by omega
    have b7 : 0 ≤ m7 ∧ m7 < 65536 := by omega
    have fK := fj J ⟨hK0, hK1⟩
    have hs' := HS.out
    have q0 := rc_target ⟨129, 0, 0, m3, 0, 0, 3⟩ bk A D (rc_valid11 129 m3 (by omega) (by decide +kernel) b3) (show relS 129 = true by decide) ⟨hA0, hA1⟩ ⟨hD0, hD1⟩ hs' hbk hm3.symm (by show 0 ≤ (3 : Int) ∧ (3 : Int) < 100; omega)
    have q1 := rc_target ⟨130, 0, 0, m3, 0, 0, 3⟩ bk A D (rc_valid11 130 m3 (by omega) (by decide +kernel) b3) (show relS 130 = true by decide) ⟨hA0, hA1⟩ ⟨hD0, hD1⟩ hs' hbk hm3.symm (by show 0 ≤ (3 : Int) ∧ (3 : Int) < 100; omega)
    have q2 := rc_target ⟨112 + J, 0, 0, m3, 0, 0, 3⟩ bk A D (rc_valid11 (112 + J) m3 (by omega) fK.2 b3) (show relS (112 + J) = true by unfold relS; simp; omega) ⟨hA0, hA1⟩ ⟨hD0, hD1⟩ hs' hbk hm3.symm (by show 0 ≤ (3 : Int) ∧ (3 : Int) < 100; omega)
    have q3 := rc_target ⟨133, 0, 0, m7, 0, 1, 7⟩ bk A D (rc_valid13 m7 b7) (show relS 133 = true by decide) ⟨hA0, hA1⟩ ⟨hD0, hD1⟩ hs' hbk hm7.symm (by show 0 ≤ (7 : Int) ∧ (7 : Int) < 100; omega)
    have q4 := rc_far D ⟨hD0, hD1⟩ ⟨bk, A⟩
    have HX0 := Lib.hid (fun W => by have := target_any ⟨129, 0, 0, m3, 0, 0, 3⟩ (okSmall _ _ _ _ _ _ (by omega) (by omega) (by omega) b3 (by omega) (by omega)) ⟨bk, A⟩ W; rw [q0] at this; exact this)
    have HX1 := Lib.hid (fun W => by have := target_any ⟨130, 0, 0, m3, 0, 0, 3⟩ (okSmall _ _ _ _ _ _ (by omega) (by omega) (by omega) b3 (by omega) (by omega)) ⟨bk, A⟩ W; rw [q1] at this; exact this)
    have HX2 := Lib.hid (fun W => by have := target_any ⟨112 + J, 0, 0, m3, 0, 0, 3⟩ (okSmall _ _ _ _ _ _ (by omega) (by omega) (by omega) b3 (by omega) (by omega)) ⟨bk, A⟩ W; rw [q2] at this; exact this)
    have HX3 := Lib.hid (fun W => by have := target_any ⟨133, 0, 0, m7, 0, 1, 7⟩ (okSmall _ _ _ _ _ _ (by omega) (by omega) (by omega) b7 (by omega) (by omega)) ⟨bk, A⟩ W; rw [q3] at this; exact this)
    have HX4 := Lib.hid (fun W => by have := target_any ⟨131, 0, 0, D, 0, 5, 4⟩ (okSmall _ _ _ _ _ _ (by omega) (by omega) (by omega) (by omega) (by omega) (by omega)) ⟨bk, A⟩ W; rw [q4] at this; exact this)
    clear hbk hc2 q0 q1 q2 q3 q4 b3 b7 fK hs' hm3 hm7
    obtain ⟨w3, rfl⟩ : ∃ w3 : World, w3 = wc := ⟨_, rfl⟩
    go_upto_region 8 with (refine wpList_store_row rfl _ _ _ rfl _ _ rfl rfl _ _ (heap_alloc_new _ _) ?_ ?_ ?_ ?_; kernel_rfl; rfl; kernel_rfl; rw [World.setRow_alloc_new])
    have hz : w.heap.size < w3.heap.size := (Array.getElem?_eq_some_iff.1 H0.out).1
    have HG := Lib.hid (heap_alloc_new w3 (.cells (rcC J m3 m7 0) 48))
    replace H0 := Lib.hid ((heap_alloc_old w3 (.cells (rcC J m3 m7 0) 48) hz).trans H0.out)
    replace HB := Lib.hid (HB.out.alloc HB.out.size (.cells (rcC J m3 m7 0) 48))
    obtain ⟨w4, hw4⟩ : ∃ w4 : World, w3.alloc (.cells (rcC J m3 m7 0) 48) = w4 := ⟨_, rfl⟩
    rw [hw4] at HG H0 HB
    rw [show w3.alloc (.cells #[.int .i64 129, .int .i64 0, .int .i64 0, .int .u16 0, .int .u16 0, .int .i64 0, .int .i64 3, .int .i64 130, .int .i64 0, .int .i64 0, .int .u16 0, .int .u16 0, .int .i64 0, .int .i64 3, .int .i64 (112 + J), .int .i64 0, .int .i64 0, .int .u16 0, .int .u16 0, .int .i64 0, .int .i64 3, .int .i64 133, .int .i64 0, .int .i64 0, .int .u16 0, .int .u16 0, .int .i64 1, .int .i64 7] 48) = w4 from hw4]
    clear hw4
    obtain ⟨g, hg⟩ : ∃ g : Nat, w3.heap.size = g := ⟨_, rfl⟩
    rw [hg] at HG ⊢
    have HWG := Lib.hid (show w.heap.size < g by omega)
    clear hg hz w3
    go_wp2_with fail
    go_loopw [10] (fun x wr => ∃ k : Nat, k ≤ 4 ∧ x = .int .i64 k ∧ Hid (Below w.heap.size w wr) ∧ Hid (wr.heap[g]? = some (.cells (rcC J m3 m7 k) 48 (0, 0))) ∧ Hid (wr.heap[w.heap.size]? = some (.cells #[.int .i64 bk, .int .u16 A] 47 (0, 0)))) (fun x _ => 4 - (intOf x).toNat)
    case atStart => exact ⟨0, by omega, rfl, HB, HG, H0⟩
    case round =>
      obtain ⟨k, hk, rfl, HB, HG, H0⟩ := hrel
      have hks : k = 0 ∨ k = 1 ∨ k = 2 ∨ k = 3 ∨ k = 4 := by omega
      rcases hks with rfl | rfl | rfl | rfl | rfl
      · go_upto_region 11 with fail
        refine wp_region_relyF 13 (factOf [isV (.int .i64 0), isV (.int .u16 D), isV (.pointer (some ⟨w.heap.size, 1, none⟩)), isV (.int .u16 A), isV (.int .u16 (IntKind.u16.wrap (D - A))), isV (.int .i64 0), isV (.pointer (some ⟨g, 0, none⟩)), isV (.pointer (some ⟨g, 6, none⟩)), isV (.int .i64 3), isV (.int .u16 3), isV (.int .u16 m3), isV (.pointer (some ⟨g, 0, none⟩)), isV (.pointer (some ⟨g, 3, none⟩))]) (nth [[0], [1], [2], [3], [4], [5], [6], [7], [8], [9], [10], [11], [12]]) (nth [[], [], [], [], [], [], [], [], [], [], [], [], []]) (nth [[], [], [], [2], [1, 3], [], [5], [6], [7], [8], [4, 9], [0, 1, 2, 3, 4, 5, 6, 7, 8, 9, 10], [11, 0, 1, 2, 3, 4, 5, 6, 7, 8, 9, 10]]) [10, 12] (Kept w.heap.size w wr.heap.size [(g, .cells #[.int .i64 129, .int .i64 0, .int .i64 0, .int .u16 0, .int .u16 0, .int .i64 0, .int .i64 3, .int .i64 130, .int .i64 0, .int .i64 0, .int .u16 0, .int .u16 0, .int .i64 0, .int .i64 3, .int .i64 (112 + J), .int .i64 0, .int .i64 0, .int .u16 0, .int .u16 0, .int .i64 0, .int .i64 3, .int .i64 133, .int .i64 0, .int .i64 0, .int .u16 0, .int .u16 0, .int .i64 1, .int .i64 7] 48 (0, 0)), (w.heap.size, .cells #[.int .i64 bk, .int .u16 A] 47 (0, 0))]) (by kernel_rfl) (by kernel_rfl) (⟨HB.out.drew, HB.out.size, Nat.le_refl _, by intro x hx; simp at hx; rcases hx with rfl | rfl <;> first | exact (Array.getElem?_eq_some_iff.1 HG.out).1 | exact (Array.getElem?_eq_some_iff.1 H0.out).1, HG.out, H0.out, trivial⟩) (Kept.grow) (GrowsAll.of ((GrowsAll.cons (Grows.isV _)  (GrowsAll.cons (Grows.isV _)  (GrowsAll.cons (Grows.isV _)  (GrowsAll.cons (Grows.isV _)  (GrowsAll.cons (Grows.isV _)  (GrowsAll.cons (Grows.isV _)  (GrowsAll.cons (Grows.isV _)  (GrowsAll.cons (Grows.isV _)  (GrowsAll.cons (Grows.isV _)  (GrowsAll.cons (Grows.isV _)  (GrowsAll.cons (Grows.isV _)  (GrowsAll.cons (Grows.isV _)  (GrowsAll.cons (Grows.isV _) GrowsAll.nil))))))))))))))) (fun f F hF => ?_)
        simp only [List.take_succ_cons, List.take_zero, fullGo, Act.put, List.setIfInBounds_toArray, List.set_cons_zero, List.set_cons_succ, Nat.reduceAdd] at hF
        subst hF
        refine ⟨StepObs.cons ?_ (StepObs.cons ?_ (StepObs.cons ?_ (StepObs.cons ?_ (StepObs.cons ?_ (StepObs.cons ?_ (StepObs.cons ?_ (StepObs.cons ?_ (StepObs.cons ?_ (StepObs.cons ?_ (StepObs.cons ?_ (StepObs.cons ?_ (StepObs.cons ?_ (StepObs.nil))))))))))))), ?_⟩
        · intro w5 hS hF K hK
          rw [if_pos (by rfl)]
          refine wp_of_quiet (v := .int .i64 0) (by (show _ = _); kernel_rfl) (hK.out _ _ rfl (After.lit rfl rfl ?_))
          first | rfl | kernel_rfl
        · intro w5 hS hF K hK
          rw [if_pos (by rfl)]
          refine wp_of_quiet (v := .int .u16 D) (by (show _ = _); kernel_rfl) (hK.out _ _ rfl (After.lit rfl rfl ?_))
          first | rfl | kernel_rfl
        · intro w5 hS hF K hK
          rw [if_pos (by rfl)]
          refine wp_of_quiet (v := .pointer (some ⟨w.heap.size, 1, none⟩)) (by (show _ = _); kernel_rfl) (hK.out _ _ rfl (After.lit rfl rfl ?_))
          first | rfl | kernel_rfl
        · intro w5 hS hF K hK
          obtain ⟨e2, -⟩ := hF
          replace e2 : f 2 = _ := e2
          try simp only [e2]
          rw [if_pos (by rfl)]
          exact wp_of_quiet (exec_load_at _ _ rfl _ _ rfl _ _ _ (hS.2.2.2.2.2.1) (.int .u16 A) (by kernel_rfl) (fun _ => by kernel_rfl)) (hK.out _ _ rfl (After.lit rfl rfl (by first | rfl | kernel_rfl)))
        · intro w5 hS hF K hK
          obtain ⟨e1, e3, -⟩ := hF
          replace e1 : f 1 = _ := e1
          replace e3 : f 3 = _ := e3
          try simp only [e1, e3]
          rw [if_pos (by rfl)]
          refine wp_of_quiet (v := .int .u16 (IntKind.u16.wrap (D - A))) (by (show _ = _); kernel_rfl) (hK.out _ _ rfl (After.lit rfl rfl ?_))
          first | rfl | kernel_rfl
        · intro w5 hS hF K hK
          rw [if_pos (by rfl)]
          refine wp_of_quiet (v := .int .i64 0) (by (show _ = _); kernel_rfl) (hK.out _ _ rfl (After.lit rfl rfl ?_))
          first | rfl | kernel_rfl
        · intro w5 hS hF K hK
          obtain ⟨e5, -⟩ := hF
          replace e5 : f 5 = _ := e5
          try simp only [e5]
          rw [if_pos (by rfl)]
          refine wp_of_quiet (v := .pointer (some ⟨g, 0, none⟩)) (by (show _ = _); kernel_rfl) (hK.out _ _ rfl (After.lit rfl rfl ?_))
          first | rfl | kernel_rfl
        · intro w5 hS hF K hK
          obtain ⟨e6, -⟩ := hF
          replace e6 : f 6 = _ := e6
          try simp only [e6]
          rw [if_pos (by rfl)]
          refine wp_of_quiet (v := .pointer (some ⟨g, 6, none⟩)) (by (show _ = _); kernel_rfl) (hK.out _ _ rfl (After.lit rfl rfl ?_))
          first | rfl | kernel_rfl
        · intro w5 hS hF K hK
          obtain ⟨e7, -⟩ := hF
          replace e7 : f 7 = _ := e7
          try simp only [e7]
          rw [if_pos (by rfl)]
          exact wp_of_quiet (exec_load_at _ _ rfl _ _ rfl _ _ _ (hS.2.2.2.2.1) (.int .i64 3) (by kernel_rfl) (fun _ => by kernel_rfl)) (hK.out _ _ rfl (After.lit rfl rfl (by first | rfl | kernel_rfl)))
        · intro w5 hS hF K hK
          obtain ⟨e8, -⟩ := hF
          replace e8 : f 8 = _ := e8
          try simp only [e8]
          rw [if_pos (by rfl)]
          refine wp_of_quiet (v := .int .u16 3) (by (show _ = _); kernel_rfl) (hK.out _ _ rfl (After.lit rfl rfl ?_))
          first | rfl | kernel_rfl
        · intro w5 hS hF K hK
          obtain ⟨e4, e9, -⟩ := hF
          replace e4 : f 4 = _ := e4
          replace e9 : f 9 = _ := e9
          try simp only [e4, e9]
          rw [if_pos (by rfl)]
          exact wp_of_quiet (v := .int .u16 (IntKind.u16.wrap (IntKind.u16.wrap (D - A) - 3))) (by (show _ = _); kernel_rfl) (hK.out _ _ rfl (After.lit rfl rfl (congrArg (Value.int .u16) HM3.out)))
        · intro w5 hS hF K hK
          obtain ⟨e0, e1, e2, e3, e4, e5, e6, e7, e8, e9, e10, -⟩ := hF
          replace e0 : f 0 = _ := e0
          replace e1 : f 1 = _ := e1
          replace e2 : f 2 = _ := e2
          replace e3 : f 3 = _ := e3
          replace e4 : f 4 = _ := e4
          replace e5 : f 5 = _ := e5
          replace e6 : f 6 = _ := e6
          replace e7 : f 7 = _ := e7
          replace e8 : f 8 = _ := e8
          replace e9 : f 9 = _ := e9
          replace e10 : f 10 = _ := e10
          try simp only [e0, e1, e2, e3, e4, e5, e6, e7, e8, e9, e10]
          rw [if_pos (by rfl)]
          refine wp_of_quiet (v := .pointer (some ⟨g, 0, none⟩)) (by (show _ = _); kernel_rfl) (hK.out _ _ rfl (After.lit rfl rfl ?_))
          first | rfl | kernel_rfl
        · intro w5 hS hF K hK
          obtain ⟨e11, e0, e1, e2, e3, e4, e5, e6, e7, e8, e9, e10, -⟩ := hF
          replace e11 : f 11 = _ := e11
          replace e0 : f 0 = _ := e0
          replace e1 : f 1 = _ := e1
          replace e2 : f 2 = _ := e2
          replace e3 : f 3 = _ := e3
          replace e4 : f 4 = _ := e4
          replace e5 : f 5 = _ := e5
          replace e6 : f 6 = _ := e6
          replace e7 : f 7 = _ := e7
          replace e8 : f 8 = _ := e8
          replace e9 : f 9 = _ := e9
          replace e10 : f 10 = _ := e10
          try simp only [e11, e0, e1, e2, e3, e4, e5, e6, e7, e8, e9, e10]
          rw [if_pos (by rfl)]
          refine wp_of_quiet (v := .pointer (some ⟨g, 3, none⟩)) (by (show _ = _); kernel_rfl) (hK.out _ _ rfl (After.lit rfl rfl ?_))
          first | rfl | kernel_rfl
        intro w5 hS hF
        obtain ⟨e10, e12, -⟩ := hF
        replace e10 : f 10 = _ := e10
        replace e12 : f 12 = _ := e12
        try simp only [e10, e12]
        refine Fin.last rfl (fun K hK => ?_)
        rw [if_pos (by rfl)]
        refine wp_store_at _ _ _ rfl g 3 (by rfl) _ (by rfl) _ _ hS.2.2.2.2.1 _ (by rfl) (Nat.le_of_ble_eq_true rfl) (by kernel_rfl) (by rfl) #[.int .i64 129, .int .i64 0, .int .i64 0, .int .u16 m3, .int .u16 0, .int .i64 0, .int .i64 3, .int .i64 130, .int .i64 0, .int .i64 0, .int .u16 0, .int .u16 0, .int .i64 0, .int .i64 3, .int .i64 (112 + J), .int .i64 0, .int .i64 0, .int .u16 0, .int .u16 0, .int .i64 0, .int .i64 3, .int .i64 133, .int .i64 0, .int .i64 0, .int .u16 0, .int .u16 0, .int .i64 1, .int .i64 7] (by rfl) (hK.out _ _ ?_)
        try simp only [Act.put, List.setIfInBounds_toArray, List.set_cons_zero, List.set_cons_succ]
        replace HG := Lib.hid (setRow_heap w5 g _ #[.int .i64 129, .int .i64 0, .int .i64 0, .int .u16 m3, .int .u16 0, .int .i64 0, .int .i64 3, .int .i64 130, .int .i64 0, .int .i64 0, .int .u16 0, .int .u16 0, .int .i64 0, .int .i64 3, .int .i64 (112 + J), .int .i64 0, .int .i64 0, .int .u16 0, .int .u16 0, .int .i64 0, .int .i64 3, .int .i64 133, .int .i64 0, .int .i64 0, .int .u16 0, .int .u16 0, .int .i64 1, .int .i64 7] _ _ hS.2.2.2.2.1)
        replace H0 := Lib.hid ((setRow_other w5 g w.heap.size #[.int .i64 129, .int .i64 0, .int .i64 0, .int .u16 m3, .int .u16 0, .int .i64 0, .int .i64 3, .int .i64 130, .int .i64 0, .int .i64 0, .int .u16 0, .int .u16 0, .int .i64 0, .int .i64 3, .int .i64 (112 + J), .int .i64 0, .int .i64 0, .int .u16 0, .int .u16 0, .int .i64 0, .int .i64 3, .int .i64 133, .int .i64 0, .int .i64 0, .int .u16 0, .int .u16 0, .int .i64 1, .int .i64 7] (by have := HWG.out; omega)).trans hS.2.2.2.2.2.1)
        replace HB := Lib.hid (below_setRow hS.1 (Nat.le_of_lt HWG.out) #[.int .i64 129, .int .i64 0, .int .i64 0, .int .u16 m3, .int .u16 0, .int .i64 0, .int .i64 3, .int .i64 130, .int .i64 0, .int .i64 0, .int .u16 0, .int .u16 0, .int .i64 0, .int .i64 3, .int .i64 (112 + J), .int .i64 0, .int .i64 0, .int .u16 0, .int .u16 0, .int .i64 0, .int .i64 3, .int .i64 133, .int .i64 0, .int .i64 0, .int .u16 0, .int .u16 0, .int .i64 1, .int .i64 7])
        obtain ⟨w6, hw6⟩ : ∃ w6 : World, w5.setRow g #[.int .i64 129, .int .i64 0, .int .i64 0, .int .u16 m3, .int .u16 0, .int .i64 0, .int .i64 3, .int .i64 130, .int .i64 0, .int .i64 0, .int .u16 0, .int .u16 0, .int .i64 0, .int .i64 3, .int .i64 (112 + J), .int .i64 0, .int .i64 0, .int .u16 0, .int .u16 0, .int .i64 0, .int .i64 3, .int .i64 133, .int .i64 0, .int .i64 0, .int .u16 0, .int .u16 0, .int .i64 1, .int .i64 7] = w6 := ⟨_, rfl⟩
        rw [hw6] at HG H0 HB ⊢
        clear hw6 hS
        go_upto_region 12 with fail
        refine wp_region_relyF 11 (factOf [isV (.int .i64 0), isV (.pointer (some ⟨g, 0, none⟩)), isV (.agg (#[.int .i64 129, .int .i64 0, .int .i64 0, .int .u16 m3, .int .u16 0, .int .i64 0, .int .i64 3])), isV (.agg #[.int .i64 bk, .int .u16 A]), isV (.tuple #[.agg #[.int .i64 bk, .int .u16 D], .bool true]), isV (.tuple #[.agg #[.int .i64 bk, .int .u16 D], .bool true]), isV (.agg #[.int .i64 bk, .int .u16 D]), isV (.bool true), newR w6.heap.size 47 2, newV w6.heap.size (.cells #[.int .i64 bk, .int .u16 D] 47 (0, 0)), isV (.bool true)]) (nth [[0], [1], [2], [3], [4], [5], [6], [7], [8], [8], [10]]) (nth [[], [], [], [], [], [], [], [], [], [8], []]) (nth [[], [0], [1], [], [2, 3], [4], [5], [5], [], [8, 6, 4, 0, 1, 2, 3, 5], [7, 9, 0, 1, 2, 3, 4, 5, 6]]) [9, 10] (Kept w.heap.size w w6.heap.size [(g, .cells #[.int .i64 129, .int .i64 0, .int .i64 0, .int .u16 m3, .int .u16 0, .int .i64 0, .int .i64 3, .int .i64 130, .int .i64 0, .int .i64 0, .int .u16 0, .int .u16 0, .int .i64 0, .int .i64 3, .int .i64 (112 + J), .int .i64 0, .int .i64 0, .int .u16 0, .int .u16 0, .int .i64 0, .int .i64 3, .int .i64 133, .int .i64 0, .int .i64 0, .int .u16 0, .int .u16 0, .int .i64 1, .int .i64 7] 48 (0, 0)), (w.heap.size, .cells #[.int .i64 bk, .int .u16 A] 47 (0, 0))]) (by kernel_rfl) (by kernel_rfl) (⟨HB.out.drew, HB.out.size, Nat.le_refl _, by intro x hx; simp at hx; rcases hx with rfl | rfl <;> first | exact (Array.getElem?_eq_some_iff.1 HG.out).1 | exact (Array.getElem?_eq_some_iff.1 H0.out).1, HG.out, H0.out, trivial⟩) (Kept.grow) (GrowsAll.of ((GrowsAll.cons (Grows.isV _)  (GrowsAll.cons (Grows.isV _)  (GrowsAll.cons (Grows.isV _)  (GrowsAll.cons (Grows.isV _)  (GrowsAll.cons (Grows.isV _)  (GrowsAll.cons (Grows.isV _)  (GrowsAll.cons (Grows.isV _)  (GrowsAll.cons (Grows.isV _)  (GrowsAll.cons (Grows.newR _ _ _)  (GrowsAll.cons (Grows.newV _ _)  (GrowsAll.cons (Grows.isV _) GrowsAll.nil))))))))))))) (fun f F hF => ?_)
        simp only [List.take_succ_cons, List.take_zero, fullGo, Act.put, List.setIfInBounds_toArray, List.set_cons_zero, List.set_cons_succ, Nat.reduceAdd] at hF
        subst hF
        refine ⟨StepObs.cons ?_ (StepObs.cons ?_ (StepObs.cons ?_ (StepObs.cons ?_ (StepObs.cons ?_ (StepObs.cons ?_ (StepObs.cons ?_ (StepObs.cons ?_ (StepObs.cons ?_ (StepObs.cons ?_ (StepObs.cons ?_ (StepObs.nil))))))))))), ?_⟩
        · intro w7 hS hF K hK
          rw [if_pos (by rfl)]
          refine wp_of_quiet (v := .int .i64 0) (by (show _ = _); kernel_rfl) (hK.out _ _ rfl (After.lit rfl rfl ?_))
          first | rfl | kernel_rfl
        · intro w7 hS hF K hK
          obtain ⟨e0, -⟩ := hF
          replace e0 : f 0 = _ := e0
          try simp only [e0]
          rw [if_pos (by rfl)]
          refine wp_of_quiet (v := .pointer (some ⟨g, 0, none⟩)) (by (show _ = _); kernel_rfl) (hK.out _ _ rfl (After.lit rfl rfl ?_))
          first | rfl | kernel_rfl
        · intro w7 hS hF K hK
          obtain ⟨e1, -⟩ := hF
          replace e1 : f 1 = _ := e1
          try simp only [e1]
          rw [if_pos (by rfl)]
          exact wp_of_quiet (exec_load_midB _ _ rfl _ _ rfl _ _ _ (hS.2.2.2.2.1) (#[.int .i64 129, .int .i64 0, .int .i64 0, .int .u16 m3, .int .u16 0, .int .i64 0, .int .i64 3]).toList (by kernel_rfl) (by kernel_rfl)) (hK.out _ _ rfl (After.lit rfl rfl (by first | rfl | kernel_rfl)))
        · intro w7 hS hF K hK
          rw [if_pos (by rfl)]
          exact wp_load_rowB _ _ rfl _ rfl _ _ _ (hS.2.2.2.2.2.1) (by kernel_rfl) (hK.out _ _ rfl (After.lit rfl rfl (by first | rfl | kernel_rfl)))
        · intro w7 hS hF K hK
          obtain ⟨e2, e3, -⟩ := hF
          replace e2 : f 2 = _ := e2
          replace e3 : f 3 = _ := e3
          try simp only [e2, e3]
          rw [if_pos (by rfl)]
          go_simp
          refine (HX0.out _).mono ?_; rintro e w8 ⟨rfl, hbelow⟩; go_simp
          refine hK.out _ _ rfl (After.litB rfl rfl hbelow ?_)
          first | rfl | kernel_rfl
        · intro w7 hS hF K hK
          obtain ⟨e4, -⟩ := hF
          replace e4 : f 4 = _ := e4
          try simp only [e4]
          rw [if_pos (by rfl)]
          refine wp_of_quiet (v := .tuple #[.agg #[.int .i64 bk, .int .u16 D], .bool true]) (by (show _ = _); kernel_rfl) (hK.out _ _ rfl (After.lit rfl rfl ?_))
          first | rfl | kernel_rfl
        · intro w7 hS hF K hK
          obtain ⟨e5, -⟩ := hF
          replace e5 : f 5 = _ := e5
          try simp only [e5]
          rw [if_pos (by rfl)]
          refine wp_of_quiet (v := .agg #[.int .i64 bk, .int .u16 D]) (by (show _ = _); kernel_rfl) (hK.out _ _ rfl (After.lit rfl rfl ?_))
          first | rfl | kernel_rfl
        · intro w7 hS hF K hK
          obtain ⟨e5, -⟩ := hF
          replace e5 : f 5 = _ := e5
          try simp only [e5]
          rw [if_pos (by rfl)]
          refine wp_of_quiet (v := .bool true) (by (show _ = _); kernel_rfl) (hK.out _ _ rfl (After.lit rfl rfl ?_))
          first | rfl | kernel_rfl
        · intro w7 hS hF K hK
          rw [if_pos (by rfl)]
          go_simp
          refine hK.out _ _ rfl (After.new rfl rfl hS.2.2.1 rfl ?_)
          first | rfl | kernel_rfl
        · intro w7 hS hF K hK
          obtain ⟨e8, e6, e4, e0, e1, e2, e3, e5, -⟩ := hF
          obtain ⟨g8, c8, e8, hB8, hg8, hn8⟩ := e8
          replace e8 : f 8 = _ := e8
          replace e6 : f 6 = _ := e6
          replace e4 : f 4 = _ := e4
          replace e0 : f 0 = _ := e0
          replace e1 : f 1 = _ := e1
          replace e2 : f 2 = _ := e2
          replace e3 : f 3 = _ := e3
          replace e5 : f 5 = _ := e5
          try simp only [e8, e6, e4, e0, e1, e2, e3, e5]
          rw [if_pos (by rfl)]
          refine wp_store_row _ _ _ rfl g8 _ rfl rfl _ _ hg8 (by kernel_rfl) hn8 (by kernel_rfl) ?_
          exact hK.out _ _ rfl (After.set rfl rfl rfl rfl e8 hB8 hB8 hg8 hS (StaysAll.isV (StaysAll.isV (StaysAll.isV (StaysAll.isV (StaysAll.isV (StaysAll.isV (StaysAll.isV (StaysAll.isV (StaysAll.out (by rfl) (StaysAll.out (by rfl) (StaysAll.isV StaysAll.nil))))))))))))
        · intro w7 hS hF K hK
          obtain ⟨e7, e9, e0, e1, e2, e3, e4, e5, e6, -⟩ := hF
          replace e7 : f 7 = _ := e7
          obtain ⟨g8, e9, hB8, hg8⟩ := e9
          replace e9 : f 8 = _ := e9
          replace e0 : f 0 = _ := e0
          replace e1 : f 1 = _ := e1
          replace e2 : f 2 = _ := e2
          replace e3 : f 3 = _ := e3
          replace e4 : f 4 = _ := e4
          replace e5 : f 5 = _ := e5
          replace e6 : f 6 = _ := e6
          try simp only [e7, e9, e0, e1, e2, e3, e4, e5, e6]
          rw [if_pos (by rfl)]
          refine wp_of_quiet (v := .bool true) (by (show _ = _); kernel_rfl) (hK.out _ _ rfl (After.lit rfl rfl ?_))
          first | rfl | kernel_rfl
        intro w7 hS hF
        obtain ⟨e9, e10, -⟩ := hF
        obtain ⟨g8, e9, hB8, hg8⟩ := e9
        replace e9 : f 8 = _ := e9
        replace e10 : f 10 = _ := e10
        try simp only [e9, e10]
        refine Fin.done (by kernel_rfl) ?_
        have hcA : ∀ o : Nat, w7.cell? ⟨g8, o, none⟩ = (#[.int .i64 bk, .int .u16 D] : Array Value)[o]? := fun o => cell_of_row _ g8 o _ _ _ hg8
        have hcB : ∀ o : Nat, w7.cell? ⟨w.heap.size, o, none⟩ = (#[.int .i64 bk, .int .u16 A] : Array Value)[o]? := fun o => cell_of_row _ w.heap.size o _ _ _ hS.2.2.2.2.2.1
        have HS2 := Lib.hid hS
        clear hS hg8
        go_wp2_with fail
        go_roundw
        case rel => exact ⟨1, by omega, rfl, Lib.hid HS2.out.1, Lib.hid HS2.out.2.2.2.2.1, Lib.hid HS2.out.2.2.2.2.2.1⟩
        case measure => simp [intOf]
      · go_upto_region 11 with fail
        refine wp_region_relyF 13 (factOf [isV (.int .i64 1), isV (.int .u16 D), isV (.pointer (some ⟨w.heap.size, 1, none⟩)), isV (.int .u16 A), isV (.int .u16 (IntKind.u16.wrap (D - A))), isV (.int .i64 1), isV (.pointer (some ⟨g, 7, none⟩)), isV (.pointer (some ⟨g, 13, none⟩)), isV (.int .i64 3), isV (.int .u16 3), isV (.int .u16 m3), isV (.pointer (some ⟨g, 7, none⟩)), isV (.pointer (some ⟨g, 10, none⟩))]) (nth [[0], [1], [2], [3], [4], [5], [6], [7], [8], [9], [10], [11], [12]]) (nth [[], [], [], [], [], [], [], [], [], [], [], [], []]) (nth [[], [], [], [2], [1, 3], [], [5], [6], [7], [8], [4, 9], [0, 1, 2, 3, 4, 5, 6, 7, 8, 9, 10], [11, 0, 1, 2, 3, 4, 5, 6, 7, 8, 9, 10]]) [10, 12] (Kept w.heap.size w wr.heap.size [(g, .cells #[.int .i64 129, .int .i64 0, .int .i64 0, .int .u16 m3, .int .u16 0, .int .i64 0, .int .i64 3, .int .i64 130, .int .i64 0, .int .i64 0, .int .u16 0, .int .u16 0, .int .i64 0, .int .i64 3, .int .i64 (112 + J), .int .i64 0, .int .i64 0, .int .u16 0, .int .u16 0, .int .i64 0, .int .i64 3, .int .i64 133, .int .i64 0, .int .i64 0, .int .u16 0, .int .u16 0, .int .i64 1, .int .i64 7] 48 (0, 0)), (w.heap.size, .cells #[.int .i64 bk, .int .u16 A] 47 (0, 0))]) (by kernel_rfl) (by kernel_rfl) (⟨HB.out.drew, HB.out.size, Nat.le_refl _, by intro x hx; simp at hx; rcases hx with rfl | rfl <;> first | exact (Array.getElem?_eq_some_iff.1 HG.out).1 | exact (Array.getElem?_eq_some_iff.1 H0.out).1, HG.out, H0.out, trivial⟩) (Kept.grow) (GrowsAll.of ((GrowsAll.cons (Grows.isV _)  (GrowsAll.cons (Grows.isV _)  (GrowsAll.cons (Grows.isV _)  (GrowsAll.cons (Grows.isV _)  (GrowsAll.cons (Grows.isV _)  (GrowsAll.cons (Grows.isV _)  (GrowsAll.cons (Grows.isV _)  (GrowsAll.cons (Grows.isV _)  (GrowsAll.cons (Grows.isV _)  (GrowsAll.cons (Grows.isV _)  (GrowsAll.cons (Grows.isV _)  (GrowsAll.cons (Grows.isV _)  (GrowsAll.cons (Grows.isV _) GrowsAll.nil))))))))))))))) (fun f F hF => ?_)
        simp only [List.take_succ_cons, List.take_zero, fullGo, Act.put, List.setIfInBounds_toArray, List.set_cons_zero, List.set_cons_succ, Nat.reduceAdd] at hF
        subst hF
        refine ⟨StepObs.cons ?_ (StepObs.cons ?_ (StepObs.cons ?_ (StepObs.cons ?_ (StepObs.cons ?_ (StepObs.cons ?_ (StepObs.cons ?_ (StepObs.cons ?_ (StepObs.cons ?_ (StepObs.cons ?_ (StepObs.cons ?_ (StepObs.cons ?_ (StepObs.cons ?_ (StepObs.nil))))))))))))), ?_⟩
        · intro w5 hS hF K hK
          rw [if_pos (by rfl)]
          refine wp_of_quiet (v := .int .i64 1) (by (show _ = _); kernel_rfl) (hK.out _ _ rfl (After.lit rfl rfl ?_))
          first | rfl | kernel_rfl
        · intro w5 hS hF K hK
          rw [if_pos (by rfl)]
          refine wp_of_quiet (v := .int .u16 D) (by (show _ = _); kernel_rfl) (hK.out _ _ rfl (After.lit rfl rfl ?_))
          first | rfl | kernel_rfl
        · intro w5 hS hF K hK
          rw [if_pos (by rfl)]
          refine wp_of_quiet (v := .pointer (some ⟨w.heap.size, 1, none⟩)) (by (show _ = _); kernel_rfl) (hK.out _ _ rfl (After.lit rfl rfl ?_))
          first | rfl | kernel_rfl
        · intro w5 hS hF K hK
          obtain ⟨e2, -⟩ := hF
          replace e2 : f 2 = _ := e2
          try simp only [e2]
          rw [if_pos (by rfl)]
          exact wp_of_quiet (exec_load_at _ _ rfl _ _ rfl _ _ _ (hS.2.2.2.2.2.1) (.int .u16 A) (by kernel_rfl) (fun _ => by kernel_rfl)) (hK.out _ _ rfl (After.lit rfl rfl (by first | rfl | kernel_rfl)))
        · intro w5 hS hF K hK
          obtain ⟨e1, e3, -⟩ := hF
          replace e1 : f 1 = _ := e1
          replace e3 : f 3 = _ := e3
          try simp only [e1, e3]
          rw [if_pos (by rfl)]
          refine wp_of_quiet (v := .int .u16 (IntKind.u16.wrap (D - A))) (by (show _ = _); kernel_rfl) (hK.out _ _ rfl (After.lit rfl rfl ?_))
          first | rfl | kernel_rfl
        · intro w5 hS hF K hK
          rw [if_pos (by rfl)]
          refine wp_of_quiet (v := .int .i64 1) (by (show _ = _); kernel_rfl) (hK.out _ _ rfl (After.lit rfl rfl ?_))
          first | rfl | kernel_rfl
        · intro w5 hS hF K hK
          obtain ⟨e5, -⟩ := hF
          replace e5 : f 5 = _ := e5
          try simp only [e5]
          rw [if_pos (by rfl)]
          refine wp_of_quiet (v := .pointer (some ⟨g, 7, none⟩)) (by (show _ = _); kernel_rfl) (hK.out _ _ rfl (After.lit rfl rfl ?_))
          first | rfl | kernel_rfl
        · intro w5 hS hF K hK
          obtain ⟨e6, -⟩ := hF
          replace e6 : f 6 = _ := e6
          try simp only [e6]
          rw [if_pos (by rfl)]
          refine wp_of_quiet (v := .pointer (some ⟨g, 13, none⟩)) (by (show _ = _); kernel_rfl) (hK.out _ _ rfl (After.lit rfl rfl ?_))
          first | rfl | kernel_rfl
        · intro w5 hS hF K hK
          obtain ⟨e7, -⟩ := hF
          replace e7 : f 7 = _ := e7
          try simp only [e7]
          rw [if_pos (by rfl)]
          exact wp_of_quiet (exec_load_at _ _ rfl _ _ rfl _ _ _ (hS.2.2.2.2.1) (.int .i64 3) (by kernel_rfl) (fun _ => by kernel_rfl)) (hK.out _ _ rfl (After.lit rfl rfl (by first | rfl | kernel_rfl)))
        · intro w5 hS hF K hK
          obtain ⟨e8, -⟩ := hF
          replace e8 : f 8 = _ := e8
          try simp only [e8]
          rw [if_pos (by rfl)]
          refine wp_of_quiet (v := .int .u16 3) (by (show _ = _); kernel_rfl) (hK.out _ _ rfl (After.lit rfl rfl ?_))
          first | rfl | kernel_rfl
        · intro w5 hS hF K hK
          obtain ⟨e4, e9, -⟩ := hF
          replace e4 : f 4 = _ := e4
          replace e9 : f 9 = _ := e9
          try simp only [e4, e9]
          rw [if_pos (by rfl)]
          exact wp_of_quiet (v := .int .u16 (IntKind.u16.wrap (IntKind.u16.wrap (D - A) - 3))) (by (show _ = _); kernel_rfl) (hK.out _ _ rfl (After.lit rfl rfl (congrArg (Value.int .u16) HM3.out)))
        · intro w5 hS hF K hK
          obtain ⟨e0, e1, e2, e3, e4, e5, e6, e7, e8, e9, e10, -⟩ := hF
          replace e0 : f 0 = _ := e0
          replace e1 : f 1 = _ := e1
          replace e2 : f 2 = _ := e2
          replace e3 : f 3 = _ := e3
          replace e4 : f 4 = _ := e4
          replace e5 : f 5 = _ := e5
          replace e6 : f 6 = _ := e6
          replace e7 : f 7 = _ := e7
          replace e8 : f 8 = _ := e8
          replace e9 : f 9 = _ := e9
          replace e10 : f 10 = _ := e10
          try simp only [e0, e1, e2, e3, e4, e5, e6, e7, e8, e9, e10]
          rw [if_pos (by rfl)]
          refine wp_of_quiet (v := .pointer (some ⟨g, 7, none⟩)) (by (show _ = _); kernel_rfl) (hK.out _ _ rfl (After.lit rfl rfl ?_))
          first | rfl | kernel_rfl
        · intro w5 hS hF K hK
          obtain ⟨e11, e0, e1, e2, e3, e4, e5, e6, e7, e8, e9, e10, -⟩ := hF
          replace e11 : f 11 = _ := e11
          replace e0 : f 0 = _ := e0
          replace e1 : f 1 = _ := e1
          replace e2 : f 2 = _ := e2
          replace e3 : f 3 = _ := e3
          replace e4 : f 4 = _ := e4
          replace e5 : f 5 = _ := e5
          replace e6 : f 6 = _ := e6
          replace e7 : f 7 = _ := e7
          replace e8 : f 8 = _ := e8
          replace e9 : f 9 = _ := e9
          replace e10 : f 10 = _ := e10
          try simp only [e11, e0, e1, e2, e3, e4, e5, e6, e7, e8, e9, e10]
          rw [if_pos (by rfl)]
          refine wp_of_quiet (v := .pointer (some ⟨g, 10, none⟩)) (by (show _ = _); kernel_rfl) (hK.out _ _ rfl (After.lit rfl rfl ?_))
          first | rfl | kernel_rfl
        intro w5 hS hF
        obtain ⟨e10, e12, -⟩ := hF
        replace e10 : f 10 = _ := e10
        replace e12 : f 12 = _ := e12
        try simp only [e10, e12]
        refine Fin.last rfl (fun K hK => ?_)
        rw [if_pos (by rfl)]
        refine wp_store_at _ _ _ rfl g 10 (by rfl) _ (by rfl) _ _ hS.2.2.2.2.1 _ (by rfl) (Nat.le_of_ble_eq_true rfl) (by kernel_rfl) (by rfl) #[.int .i64 129, .int .i64 0, .int .i64 0, .int .u16 m3, .int .u16 0, .int .i64 0, .int .i64 3, .int .i64 130, .int .i64 0, .int .i64 0, .int .u16 m3, .int .u16 0, .int .i64 0, .int .i64 3, .int .i64 (112 + J), .int .i64 0, .int .i64 0, .int .u16 0, .int .u16 0, .int .i64 0, .int .i64 3, .int .i64 133, .int .i64 0, .int .i64 0, .int .u16 0, .int .u16 0, .int .i64 1, .int .i64 7] (by rfl) (hK.out _ _ ?_)
        try simp only [Act.put, List.setIfInBounds_toArray, List.set_cons_zero, List.set_cons_succ]
        replace HG := Lib.hid (setRow_heap w5 g _ #[.int .i64 129, .int .i64 0, .int .i64 0, .int .u16 m3, .int .u16 0, .int .i64 0, .int .i64 3, .int .i64 130, .int .i64 0, .int .i64 0, .int .u16 m3, .int .u16 0, .int .i64 0, .int .i64 3, .int .i64 (112 + J), .int .i64 0, .int .i64 0, .int .u16 0, .int .u16 0, .int .i64 0, .int .i64 3, .int .i64 133, .int .i64 0, .int .i64 0, .int .u16 0, .int .u16 0, .int .i64 1, .int .i64 7] _ _ hS.2.2.2.2.1)
        replace H0 := Lib.hid ((setRow_other w5 g w.heap.size #[.int .i64 129, .int .i64 0, .int .i64 0, .int .u16 m3, .int .u16 0, .int .i64 0, .int .i64 3, .int .i64 130, .int .i64 0, .int .i64 0, .int .u16 m3, .int .u16 0, .int .i64 0, .int .i64 3, .int .i64 (112 + J), .int .i64 0, .int .i64 0, .int .u16 0, .int .u16 0, .int .i64 0, .int .i64 3, .int .i64 133, .int .i64 0, .int .i64 0, .int .u16 0, .int .u16 0, .int .i64 1, .int .i64 7] (by have := HWG.out; omega)).trans hS.2.2.2.2.2.1)
        replace HB := Lib.hid (below_setRow hS.1 (Nat.le_of_lt HWG.out) #[.int .i64 129, .int .i64 0, .int .i64 0, .int .u16 m3, .int .u16 0, .int .i64 0, .int .i64 3, .int .i64 130, .int .i64 0, .int .i64 0, .int .u16 m3, .int .u16 0, .int .i64 0, .int .i64 3, .int .i64 (112 + J), .int .i64 0, .int .i64 0, .int .u16 0, .int .u16 0, .int .i64 0, .int .i64 3, .int .i64 133, .int .i64 0, .int .i64 0, .int .u16 0, .int .u16 0, .int .i64 1, .int .i64 7])
        obtain ⟨w6, hw6⟩ : ∃ w6 : World, w5.setRow g #[.int .i64 129, .int .i64 0, .int .i64 0, .int .u16 m3, .int .u16 0, .int .i64 0, .int .i64 3, .int .i64 130, .int .i64 0, .int .i64 0, .int .u16 m3, .int .u16 0, .int .i64 0, .int .i64 3, .int .i64 (112 + J), .int .i64 0, .int .i64 0, .int .u16 0, .int .u16 0, .int .i64 0, .int .i64 3, .int .i64 133, .int .i64 0, .int .i64 0, .int .u16 0, .int .u16 0, .int .i64 1, .int .i64 7] = w6 := ⟨_, rfl⟩
        rw [hw6] at HG H0 HB ⊢
        clear hw6 hS
        go_upto_region 12 with fail
        refine wp_region_relyF 11 (factOf [isV (.int .i64 1), isV (.pointer (some ⟨g, 7, none⟩)), isV (.agg (#[.int .i64 130, .int .i64 0, .int .i64 0, .int .u16 m3, .int .u16 0, .int .i64 0, .int .i64 3])), isV (.agg #[.int .i64 bk, .int .u16 A]), isV (.tuple #[.agg #[.int .i64 bk, .int .u16 D], .bool true]), isV (.tuple #[.agg #[.int .i64 bk, .int .u16 D], .bool true]), isV (.agg #[.int .i64 bk, .int .u16 D]), isV (.bool true), newR w6.heap.size 47 2, newV w6.heap.size (.cells #[.int .i64 bk, .int .u16 D] 47 (0, 0)), isV (.bool true)]) (nth [[0], [1], [2], [3], [4], [5], [6], [7], [8], [8], [10]]) (nth [[], [], [], [], [], [], [], [], [], [8], []]) (nth [[], [0], [1], [], [2, 3], [4], [5], [5], [], [8, 6, 4, 0, 1, 2, 3, 5], [7, 9, 0, 1, 2, 3, 4, 5, 6]]) [9, 10] (Kept w.heap.size w w6.heap.size [(g, .cells #[.int .i64 129, .int .i64 0, .int .i64 0, .int .u16 m3, .int .u16 0, .int .i64 0, .int .i64 3, .int .i64 130, .int .i64 0, .int .i64 0, .int .u16 m3, .int .u16 0, .int .i64 0, .int .i64 3, .int .i64 (112 + J), .int .i64 0, .int .i64 0, .int .u16 0, .int .u16 0, .int .i64 0, .int .i64 3, .int .i64 133, .int .i64 0, .int .i64 0, .int .u16 0, .int .u16 0, .int .i64 1, .int .i64 7] 48 (0, 0)), (w.heap.size, .cells #[.int .i64 bk, .int .u16 A] 47 (0, 0))]) (by kernel_rfl) (by kernel_rfl) (⟨HB.out.drew, HB.out.size, Nat.le_refl _, by intro x hx; simp at hx; rcases hx with rfl | rfl <;> first | exact (Array.getElem?_eq_some_iff.1 HG.out).1 | exact (Array.getElem?_eq_some_iff.1 H0.out).1, HG.out, H0.out, trivial⟩) (Kept.grow) (GrowsAll.of ((GrowsAll.cons (Grows.isV _)  (GrowsAll.cons (Grows.isV _)  (GrowsAll.cons (Grows.isV _)  (GrowsAll.cons (Grows.isV _)  (GrowsAll.cons (Grows.isV _)  (GrowsAll.cons (Grows.isV _)  (GrowsAll.cons (Grows.isV _)  (GrowsAll.cons (Grows.isV _)  (GrowsAll.cons (Grows.newR _ _ _)  (GrowsAll.cons (Grows.newV _ _)  (GrowsAll.cons (Grows.isV _) GrowsAll.nil))))))))))))) (fun f F hF => ?_)
        simp only [List.take_succ_cons, List.take_zero, fullGo, Act.put, List.setIfInBounds_toArray, List.set_cons_zero, List.set_cons_succ, Nat.reduceAdd] at hF
        subst hF
        refine ⟨StepObs.cons ?_ (StepObs.cons ?_ (StepObs.cons ?_ (StepObs.cons ?_ (StepObs.cons ?_ (StepObs.cons ?_ (StepObs.cons ?_ (StepObs.cons ?_ (StepObs.cons ?_ (StepObs.cons ?_ (StepObs.cons ?_ (StepObs.nil))))))))))), ?_⟩
        · intro w7 hS hF K hK
          rw [if_pos (by rfl)]
          refine wp_of_quiet (v := .int .i64 1) (by (show _ = _); kernel_rfl) (hK.out _ _ rfl (After.lit rfl rfl ?_))
          first | rfl | kernel_rfl
        · intro w7 hS hF K hK
          obtain ⟨e0, -⟩ := hF
          replace e0 : f 0 = _ := e0
          try simp only [e0]
          rw [if_pos (by rfl)]
          refine wp_of_quiet (v := .pointer (some ⟨g, 7, none⟩)) (by (show _ = _); kernel_rfl) (hK.out _ _ rfl (After.lit rfl rfl ?_))
          first | rfl | kernel_rfl
        · intro w7 hS hF K hK
          obtain ⟨e1, -⟩ := hF
          replace e1 : f 1 = _ := e1
          try simp only [e1]
          rw [if_pos (by rfl)]
          exact wp_of_quiet (exec_load_midB _ _ rfl _ _ rfl _ _ _ (hS.2.2.2.2.1) (#[.int .i64 130, .int .i64 0, .int .i64 0, .int .u16 m3, .int .u16 0, .int .i64 0, .int .i64 3]).toList (by kernel_rfl) (by kernel_rfl)) (hK.out _ _ rfl (After.lit rfl rfl (by first | rfl | kernel_rfl)))
        · intro w7 hS hF K hK
          rw [if_pos (by rfl)]
          exact wp_load_rowB _ _ rfl _ rfl _ _ _ (hS.2.2.2.2.2.1) (by kernel_rfl) (hK.out _ _ rfl (After.lit rfl rfl (by first | rfl | kernel_rfl)))
        · intro w7 hS hF K hK
          obtain ⟨e2, e3, -⟩ := hF
          replace e2 : f 2 = _ := e2
          replace e3 : f 3 = _ := e3
          try simp only [e2, e3]
          rw [if_pos (by rfl)]
          go_simp
          refine (HX1.out _).mono ?_; rintro e w8 ⟨rfl, hbelow⟩; go_simp
          refine hK.out _ _ rfl (After.litB rfl rfl hbelow ?_)
          first | rfl | kernel_rfl
        · intro w7 hS hF K hK
          obtain ⟨e4, -⟩ := hF
          replace e4 : f 4 = _ := e4
          try simp only [e4]
          rw [if_pos (by rfl)]
          refine wp_of_quiet (v := .tuple #[.agg #[.int .i64 bk, .int .u16 D], .bool true]) (by (show _ = _); kernel_rfl) (hK.out _ _ rfl (After.lit rfl rfl ?_))
          first | rfl | kernel_rfl
        · intro w7 hS hF K hK
          obtain ⟨e5, -⟩ := hF
          replace e5 : f 5 = _ := e5
          try simp only [e5]
          rw [if_pos (by rfl)]
          refine wp_of_quiet (v := .agg #[.int .i64 bk, .int .u16 D]) (by (show _ = _); kernel_rfl) (hK.out _ _ rfl (After.lit rfl rfl ?_))
          first | rfl | kernel_rfl
        · intro w7 hS hF K hK
          obtain ⟨e5, -⟩ := hF
          replace e5 : f 5 = _ := e5
          try simp only [e5]
          rw [if_pos (by rfl)]
          refine wp_of_quiet (v := .bool true) (by (show _ = _); kernel_rfl) (hK.out _ _ rfl (After.lit rfl rfl ?_))
          first | rfl | kernel_rfl
        · intro w7 hS hF K hK
          rw [if_pos (by rfl)]
          go_simp
          refine hK.out _ _ rfl (After.new rfl rfl hS.2.2.1 rfl ?_)
          first | rfl | kernel_rfl
        · intro w7 hS hF K hK
          obtain ⟨e8, e6, e4, e0, e1, e2, e3, e5, -⟩ := hF
          obtain ⟨g8, c8, e8, hB8, hg8, hn8⟩ := e8
          replace e8 : f 8 = _ := e8
          replace e6 : f 6 = _ := e6
          replace e4 : f 4 = _ := e4
          replace e0 : f 0 = _ := e0
          replace e1 : f 1 = _ := e1
          replace e2 : f 2 = _ := e2
          replace e3 : f 3 = _ := e3
          replace e5 : f 5 = _ := e5
          try simp only [e8, e6, e4, e0, e1, e2, e3, e5]
          rw [if_pos (by rfl)]
          refine wp_store_row _ _ _ rfl g8 _ rfl rfl _ _ hg8 (by kernel_rfl) hn8 (by kernel_rfl) ?_
          exact hK.out _ _ rfl (After.set rfl rfl rfl rfl e8 hB8 hB8 hg8 hS (StaysAll.isV (StaysAll.isV (StaysAll.isV (StaysAll.isV (StaysAll.isV (StaysAll.isV (StaysAll.isV (StaysAll.isV (StaysAll.out (by rfl) (StaysAll.out (by rfl) (StaysAll.isV StaysAll.nil))))))))))))
        · intro w7 hS hF K hK
          obtain ⟨e7, e9, e0, e1, e2, e3, e4, e5, e6, -⟩ := hF
          replace e7 : f 7 = _ := e7
          obtain ⟨g8, e9, hB8, hg8⟩ := e9
          replace e9 : f 8 = _ := e9
          replace e0 : f 0 = _ := e0
          replace e1 : f 1 = _ := e1
          replace e2 : f 2 = _ := e2
          replace e3 : f 3 = _ := e3
          replace e4 : f 4 = _ := e4
          replace e5 : f 5 = _ := e5
          replace e6 : f 6 = _ := e6
          try simp only [e7, e9, e0, e1, e2, e3, e4, e5, e6]
          rw [if_pos (by rfl)]
          refine wp_of_quiet (v := .bool true) (by (show _ = _); kernel_rfl) (hK.out _ _ rfl (After.lit rfl rfl ?_))
          first | rfl | kernel_rfl
        intro w7 hS hF
        obtain ⟨e9, e10, -⟩ := hF
        obtain ⟨g8, e9, hB8, hg8⟩ := e9
        replace e9 : f 8 = _ := e9
        replace e10 : f 10 = _ := e10
        try simp only [e9, e10]
        refine Fin.done (by kernel_rfl) ?_
        have hcA : ∀ o : Nat, w7.cell? ⟨g8, o, none⟩ = (#[.int .i64 bk, .int .u16 D] : Array Value)[o]? := fun o => cell_of_row _ g8 o _ _ _ hg8
        have hcB : ∀ o : Nat, w7.cell? ⟨w.heap.size, o, none⟩ = (#[.int .i64 bk, .int .u16 A] : Array Value)[o]? := fun o => cell_of_row _ w.heap.size o _ _ _ hS.2.2.2.2.2.1
        have HS2 := Lib.hid hS
        clear hS hg8
        go_wp2_with fail
        go_roundw
        case rel => exact ⟨2, by omega, rfl, Lib.hid HS2.out.1, Lib.hid HS2.out.2.2.2.2.1, Lib.hid HS2.out.2.2.2.2.2.1⟩
        case measure => simp [intOf]
      · go_upto_region 11 with fail
        refine wp_region_relyF 13 (factOf [isV (.int .i64 2), isV (.int .u16 D), isV (.pointer (some ⟨w.heap.size, 1, none⟩)), isV (.int .u16 A), isV (.int .u16 (IntKind.u16.wrap (D - A))), isV (.int .i64 2), isV (.pointer (some ⟨g, 14, none⟩)), isV (.pointer (some ⟨g, 20, none⟩)), isV (.int .i64 3), isV (.int .u16 3), isV (.int .u16 m3), isV (.pointer (some ⟨g, 14, none⟩)), isV (.pointer (some ⟨g, 17, none⟩))]) (nth [[0], [1], [2], [3], [4], [5], [6], [7], [8], [9], [10], [11], [12]]) (nth [[], [], [], [], [], [], [], [], [], [], [], [], []]) (nth [[], [], [], [2], [1, 3], [], [5], [6], [7], [8], [4, 9], [0, 1, 2, 3, 4, 5, 6, 7, 8, 9, 10], [11, 0, 1, 2, 3, 4, 5, 6, 7, 8, 9, 10]]) [10, 12] (Kept w.heap.size w wr.heap.size [(g, .cells #[.int .i64 129, .int .i64 0, .int .i64 0, .int .u16 m3, .int .u16 0, .int .i64 0, .int .i64 3, .int .i64 130, .int .i64 0, .int .i64 0, .int .u16 m3, .int .u16 0, .int .i64 0, .int .i64 3, .int .i64 (112 + J), .int .i64 0, .int .i64 0, .int .u16 0, .int .u16 0, .int .i64 0, .int .i64 3, .int .i64 133, .int .i64 0, .int .i64 0, .int .u16 0, .int .u16 0, .int .i64 1, .int .i64 7] 48 (0, 0)), (w.heap.size, .cells #[.int .i64 bk, .int .u16 A] 47 (0, 0))]) (by kernel_rfl) (by kernel_rfl) (⟨HB.out.drew, HB.out.size, Nat.le_refl _, by intro x hx; simp at hx; rcases hx with rfl | rfl <;> first | exact (Array.getElem?_eq_some_iff.1 HG.out).1 | exact (Array.getElem?_eq_some_iff.1 H0.out).1, HG.out, H0.out, trivial⟩) (Kept.grow) (GrowsAll.of ((GrowsAll.cons (Grows.isV _)  (GrowsAll.cons (Grows.isV _)  (GrowsAll.cons (Grows.isV _)  (GrowsAll.cons (Grows.isV _)  (GrowsAll.cons (Grows.isV _)  (GrowsAll.cons (Grows.isV _)  (GrowsAll.cons (Grows.isV _)  (GrowsAll.cons (Grows.isV _)  (GrowsAll.cons (Grows.isV _)  (GrowsAll.cons (Grows.isV _)  (GrowsAll.cons (Grows.isV _)  (GrowsAll.cons (Grows.isV _)  (GrowsAll.cons (Grows.isV _) GrowsAll.nil))))))))))))))) (fun f F hF => ?_)
        simp only [List.take_succ_cons, List.take_zero, fullGo, Act.put, List.setIfInBounds_toArray, List.set_cons_zero, List.set_cons_succ, Nat.reduceAdd] at hF
        subst hF
        refine ⟨StepObs.cons ?_ (StepObs.cons ?_ (StepObs.cons ?_ (StepObs.cons ?_ (StepObs.cons ?_ (StepObs.cons ?_ (StepObs.cons ?_ (StepObs.cons ?_ (StepObs.cons ?_ (StepObs.cons ?_ (StepObs.cons ?_ (StepObs.cons ?_ (StepObs.cons ?_ (StepObs.nil))))))))))))), ?_⟩
        · intro w5 hS hF K hK
          rw [if_pos (by rfl)]
          refine wp_of_quiet (v := .int .i64 2) (by (show _ = _); kernel_rfl) (hK.out _ _ rfl (After.lit rfl rfl ?_))
          first | rfl | kernel_rfl
        · intro w5 hS hF K hK
          rw [if_pos (by rfl)]
          refine wp_of_quiet (v := .int .u16 D) (by (show _ = _); kernel_rfl) (hK.out _ _ rfl (After.lit rfl rfl ?_))
          first | rfl | kernel_rfl
        · intro w5 hS hF K hK
          rw [if_pos (by rfl)]
          refine wp_of_quiet (v := .pointer (some ⟨w.heap.size, 1, none⟩)) (by (show _ = _); kernel_rfl) (hK.out _ _ rfl (After.lit rfl rfl ?_))
          first | rfl | kernel_rfl
        · intro w5 hS hF K hK
          obtain ⟨e2, -⟩ := hF
          replace e2 : f 2 = _ := e2
          try simp only [e2]
          rw [if_pos (by rfl)]
          exact wp_of_quiet (exec_load_at _ _ rfl _ _ rfl _ _ _ (hS.2.2.2.2.2.1) (.int .u16 A) (by kernel_rfl) (fun _ => by kernel_rfl)) (hK.out _ _ rfl (After.lit rfl rfl (by first | rfl | kernel_rfl)))
        · intro w5 hS hF K hK
          obtain ⟨e1, e3, -⟩ := hF
          replace e1 : f 1 = _ := e1
          replace e3 : f 3 = _ := e3
          try simp only [e1, e3]
          rw [if_pos (by rfl)]
          refine wp_of_quiet (v := .int .u16 (IntKind.u16.wrap (D - A))) (by (show _ = _); kernel_rfl) (hK.out _ _ rfl (After.lit rfl rfl ?_))
          first | rfl | kernel_rfl
        · intro w5 hS hF K hK
          rw [if_pos (by rfl)]
          refine wp_of_quiet (v := .int .i64 2) (by (show _ = _); kernel_rfl) (hK.out _ _ rfl (After.lit rfl rfl ?_))
          first | rfl | kernel_rfl
        · intro w5 hS hF K hK
          obtain ⟨e5, -⟩ := hF
          replace e5 : f 5 = _ := e5
          try simp only [e5]
          rw [if_pos (by rfl)]
          refine wp_of_quiet (v := .pointer (some ⟨g, 14, none⟩)) (by (show _ = _); kernel_rfl) (hK.out _ _ rfl (After.lit rfl rfl ?_))
          first | rfl | kernel_rfl
        · intro w5 hS hF K hK
          obtain ⟨e6, -⟩ := hF
          replace e6 : f 6 = _ := e6
          try simp only [e6]
          rw [if_pos (by rfl)]
          refine wp_of_quiet (v := .pointer (some ⟨g, 20, none⟩)) (by (show _ = _); kernel_rfl) (hK.out _ _ rfl (After.lit rfl rfl ?_))
          first | rfl | kernel_rfl
        · intro w5 hS hF K hK
          obtain ⟨e7, -⟩ := hF
          replace e7 : f 7 = _ := e7
          try simp only [e7]
          rw [if_pos (by rfl)]
          exact wp_of_quiet (exec_load_at _ _ rfl _ _ rfl _ _ _ (hS.2.2.2.2.1) (.int .i64 3) (by kernel_rfl) (fun _ => by kernel_rfl)) (hK.out _ _ rfl (After.lit rfl rfl (by first | rfl | kernel_rfl)))
        · intro w5 hS hF K hK
          obtain ⟨e8, -⟩ := hF
          replace e8 : f 8 = _ := e8
          try simp only [e8]
          rw [if_pos (by rfl)]
          refine wp_of_quiet (v := .int .u16 3) (by (show _ = _); kernel_rfl) (hK.out _ _ rfl (After.lit rfl rfl ?_))
          first | rfl | kernel_rfl
        · intro w5 hS hF K hK
          obtain ⟨e4, e9, -⟩ := hF
          replace e4 : f 4 = _ := e4
          replace e9 : f 9 = _ := e9
          try simp only [e4, e9]
          rw [if_pos (by rfl)]
          exact wp_of_quiet (v := .int .u16 (IntKind.u16.wrap (IntKind.u16.wrap (D - A) - 3))) (by (show _ = _); kernel_rfl) (hK.out _ _ rfl (After.lit rfl rfl (congrArg (Value.int .u16) HM3.out)))
        · intro w5 hS hF K hK
          obtain ⟨e0, e1, e2, e3, e4, e5, e6, e7, e8, e9, e10, -⟩ := hF
          replace e0 : f 0 = _ := e0
          replace e1 : f 1 = _ := e1
          replace e2 : f 2 = _ := e2
          replace e3 : f 3 = _ := e3
          replace e4 : f 4 = _ := e4
          replace e5 : f 5 = _ := e5
          replace e6 : f 6 = _ := e6
          replace e7 : f 7 = _ := e7
          replace e8 : f 8 = _ := e8
          replace e9 : f 9 = _ := e9
          replace e10 : f 10 = _ := e10
          try simp only [e0, e1, e2, e3, e4, e5, e6, e7, e8, e9, e10]
          rw [if_pos (by rfl)]
          refine wp_of_quiet (v := .pointer (some ⟨g, 14, none⟩)) (by (show _ = _); kernel_rfl) (hK.out _ _ rfl (After.lit rfl rfl ?_))
          first | rfl | kernel_rfl
        · intro w5 hS hF K hK
          obtain ⟨e11, e0, e1, e2, e3, e4, e5, e6, e7, e8, e9, e10, -⟩ := hF
          replace e11 : f 11 = _ := e11
          replace e0 : f 0 = _ := e0
          replace e1 : f 1 = _ := e1
          replace e2 : f 2 = _ := e2
          replace e3 : f 3 = _ := e3
          replace e4 : f 4 = _ := e4
          replace e5 : f 5 = _ := e5
          replace e6 : f 6 = _ := e6
          replace e7 : f 7 = _ := e7
          replace e8 : f 8 = _ := e8
          replace e9 : f 9 = _ := e9
          replace e10 : f 10 = _ := e10
          try simp only [e11, e0, e1, e2, e3, e4, e5, e6, e7, e8, e9, e10]
          rw [if_pos (by rfl)]
          refine wp_of_quiet (v := .pointer (some ⟨g, 17, none⟩)) (by (show _ = _); kernel_rfl) (hK.out _ _ rfl (After.lit rfl rfl ?_))
          first | rfl | kernel_rfl
        intro w5 hS hF
        obtain ⟨e10, e12, -⟩ := hF
        replace e10 : f 10 = _ := e10
        replace e12 : f 12 = _ := e12
        try simp only [e10, e12]
        refine Fin.last rfl (fun K hK => ?_)
        rw [if_pos (by rfl)]
        refine wp_store_at _ _ _ rfl g 17 (by rfl) _ (by rfl) _ _ hS.2.2.2.2.1 _ (by rfl) (Nat.le_of_ble_eq_true rfl) (by kernel_rfl) (by rfl) #[.int .i64 129, .int .i64 0, .int .i64 0, .int .u16 m3, .int .u16 0, .int .i64 0, .int .i64 3, .int .i64 130, .int .i64 0, .int .i64 0, .int .u16 m3, .int .u16 0, .int .i64 0, .int .i64 3, .int .i64 (112 + J), .int .i64 0, .int .i64 0, .int .u16 m3, .int .u16 0, .int .i64 0, .int .i64 3, .int .i64 133, .int .i64 0, .int .i64 0, .int .u16 0, .int .u16 0, .int .i64 1, .int .i64 7] (by rfl) (hK.out _ _ ?_)
        try simp only [Act.put, List.setIfInBounds_toArray, List.set_cons_zero, List.set_cons_succ]
        replace HG := Lib.hid (setRow_heap w5 g _ #[.int .i64 129, .int .i64 0, .int .i64 0, .int .u16 m3, .int .u16 0, .int .i64 0, .int .i64 3, .int .i64 130, .int .i64 0, .int .i64 0, .int .u16 m3, .int .u16 0, .int .i64 0, .int .i64 3, .int .i64 (112 + J), .int .i64 0, .int .i64 0, .int .u16 m3, .int .u16 0, .int .i64 0, .int .i64 3, .int .i64 133, .int .i64 0, .int .i64 0, .int .u16 0, .int .u16 0, .int .i64 1, .int .i64 7] _ _ hS.2.2.2.2.1)
        replace H0 := Lib.hid ((setRow_other w5 g w.heap.size #[.int .i64 129, .int .i64 0, .int .i64 0, .int .u16 m3, .int .u16 0, .int .i64 0, .int .i64 3, .int .i64 130, .int .i64 0, .int .i64 0, .int .u16 m3, .int .u16 0, .int .i64 0, .int .i64 3, .int .i64 (112 + J), .int .i64 0, .int .i64 0, .int .u16 m3, .int .u16 0, .int .i64 0, .int .i64 3, .int .i64 133, .int .i64 0, .int .i64 0, .int .u16 0, .int .u16 0, .int .i64 1, .int .i64 7] (by have := HWG.out; omega)).trans hS.2.2.2.2.2.1)
        replace HB := Lib.hid (below_setRow hS.1 (Nat.le_of_lt HWG.out) #[.int .i64 129, .int .i64 0, .int .i64 0, .int .u16 m3, .int .u16 0, .int .i64 0, .int .i64 3, .int .i64 130, .int .i64 0, .int .i64 0, .int .u16 m3, .int .u16 0, .int .i64 0, .int .i64 3, .int .i64 (112 + J), .int .i64 0, .int .i64 0, .int .u16 m3, .int .u16 0, .int .i64 0, .int .i64 3, .int .i64 133, .int .i64 0, .int .i64 0, .int .u16 0, .int .u16 0, .int .i64 1, .int .i64 7])
        obtain ⟨w6, hw6⟩ : ∃ w6 : World, w5.setRow g #[.int .i64 129, .int .i64 0, .int .i64 0, .int .u16 m3, .int .u16 0, .int .i64 0, .int .i64 3, .int .i64 130, .int .i64 0, .int .i64 0, .int .u16 m3, .int .u16 0, .int .i64 0, .int .i64 3, .int .i64 (112 + J), .int .i64 0, .int .i64 0, .int .u16 m3, .int .u16 0, .int .i64 0, .int .i64 3, .int .i64 133, .int .i64 0, .int .i64 0, .int .u16 0, .int .u16 0, .int .i64 1, .int .i64 7] = w6 := ⟨_, rfl⟩
        rw [hw6] at HG H0 HB ⊢
        clear hw6 hS
        go_upto_region 12 with fail
        refine wp_region_relyF 11 (factOf [isV (.int .i64 2), isV (.pointer (some ⟨g, 14, none⟩)), isV (.agg (#[.int .i64 (112 + J), .int .i64 0, .int .i64 0, .int .u16 m3, .int .u16 0, .int .i64 0, .int .i64 3])), isV (.agg #[.int .i64 bk, .int .u16 A]), isV (.tuple #[.agg #[.int .i64 bk, .int .u16 D], .bool true]), isV (.tuple #[.agg #[.int .i64 bk, .int .u16 D], .bool true]), isV (.agg #[.int .i64 bk, .int .u16 D]), isV (.bool true), newR w6.heap.size 47 2, newV w6.heap.size (.cells #[.int .i64 bk, .int .u16 D] 47 (0, 0)), isV (.bool true)]) (nth [[0], [1], [2], [3], [4], [5], [6], [7], [8], [8], [10]]) (nth [[], [], [], [], [], [], [], [], [], [8], []]) (nth [[], [0], [1], [], [2, 3], [4], [5], [5], [], [8, 6, 4, 0, 1, 2, 3, 5], [7, 9, 0, 1, 2, 3, 4, 5, 6]]) [9, 10] (Kept w.heap.size w w6.heap.size [(g, .cells #[.int .i64 129, .int .i64 0, .int .i64 0, .int .u16 m3, .int .u16 0, .int .i64 0, .int .i64 3, .int .i64 130, .int .i64 0, .int .i64 0, .int .u16 m3, .int .u16 0, .int .i64 0, .int .i64 3, .int .i64 (112 + J), .int .i64 0, .int .i64 0, .int .u16 m3, .int .u16 0, .int .i64 0, .int .i64 3, .int .i64 133, .int .i64 0, .int .i64 0, .int .u16 0, .int .u16 0, .int .i64 1, .int .i64 7] 48 (0, 0)), (w.heap.size, .cells #[.int .i64 bk, .int .u16 A] 47 (0, 0))]) (by kernel_rfl) (by kernel_rfl) (⟨HB.out.drew, HB.out.size, Nat.le_refl _, by intro x hx; simp at hx; rcases hx with rfl | rfl <;> first | exact (Array.getElem?_eq_some_iff.1 HG.out).1 | exact (Array.getElem?_eq_some_iff.1 H0.out).1, HG.out, H0.out, trivial⟩) (Kept.grow) (GrowsAll.of ((GrowsAll.cons (Grows.isV _)  (GrowsAll.cons (Grows.isV _)  (GrowsAll.cons (Grows.isV _)  (GrowsAll.cons (Grows.isV _)  (GrowsAll.cons (Grows.isV _)  (GrowsAll.cons (Grows.isV _)  (GrowsAll.cons (Grows.isV _)  (GrowsAll.cons (Grows.isV _)  (GrowsAll.cons (Grows.newR _ _ _)  (GrowsAll.cons (Grows.newV _ _)  (GrowsAll.cons (Grows.isV _) GrowsAll.nil))))))))))))) (fun f F hF => ?_)
        simp only [List.take_succ_cons, List.take_zero, fullGo, Act.put, List.setIfInBounds_toArray, List.set_cons_zero, List.set_cons_succ, Nat.reduceAdd] at hF
        subst hF
        refine ⟨StepObs.cons ?_ (StepObs.cons ?_ (StepObs.cons ?_ (StepObs.cons ?_ (StepObs.cons ?_ (StepObs.cons ?_ (StepObs.cons ?_ (StepObs.cons ?_ (StepObs.cons ?_ (StepObs.cons ?_ (StepObs.cons ?_ (StepObs.nil))))))))))), ?_⟩
        · intro w7 hS hF K hK
          rw [if_pos (by rfl)]
          refine wp_of_quiet (v := .int .i64 2) (by (show _ = _); kernel_rfl) (hK.out _ _ rfl (After.lit rfl rfl ?_))
          first | rfl | kernel_rfl
        · intro w7 hS hF K hK
          obtain ⟨e0, -⟩ := hF
          replace e0 : f 0 = _ := e0
          try simp only [e0]
          rw [if_pos (by rfl)]
          refine wp_of_quiet (v := .pointer (some ⟨g, 14, none⟩)) (by (show _ = _); kernel_rfl) (hK.out _ _ rfl (After.lit rfl rfl ?_))
          first | rfl | kernel_rfl
        · intro w7 hS hF K hK
          obtain ⟨e1, -⟩ := hF
          replace e1 : f 1 = _ := e1
          try simp only [e1]
          rw [if_pos (by rfl)]
          exact wp_of_quiet (exec_load_midB _ _ rfl _ _ rfl _ _ _ (hS.2.2.2.2.1) (#[.int .i64 (112 + J), .int .i64 0, .int .i64 0, .int .u16 m3, .int .u16 0, .int .i64 0, .int .i64 3]).toList (by kernel_rfl) (by kernel_rfl)) (hK.out _ _ rfl (After.lit rfl rfl (by first | rfl | kernel_rfl)))
        · intro w7 hS hF K hK
          rw [if_pos (by rfl)]
          exact wp_load_rowB _ _ rfl _ rfl _ _ _ (hS.2.2.2.2.2.1) (by kernel_rfl) (hK.out _ _ rfl (After.lit rfl rfl (by first | rfl | kernel_rfl)))
        · intro w7 hS hF K hK
          obtain ⟨e2, e3, -⟩ := hF
          replace e2 : f 2 = _ := e2
          replace e3 : f 3 = _ := e3
          try simp only [e2, e3]
          rw [if_pos (by rfl)]
          go_simp
          refine (HX2.out _).mono ?_; rintro e w8 ⟨rfl, hbelow⟩; go_simp
          refine hK.out _ _ rfl (After.litB rfl rfl hbelow ?_)
          first | rfl | kernel_rfl
        · intro w7 hS hF K hK
          obtain ⟨e4, -⟩ := hF
          replace e4 : f 4 = _ := e4
          try simp only [e4]
          rw [if_pos (by rfl)]
          refine wp_of_quiet (v := .tuple #[.agg #[.int .i64 bk, .int .u16 D], .bool true]) (by (show _ = _); kernel_rfl) (hK.out _ _ rfl (After.lit rfl rfl ?_))
          first | rfl | kernel_rfl
        · intro w7 hS hF K hK
          obtain ⟨e5, -⟩ := hF
          replace e5 : f 5 = _ := e5
          try simp only [e5]
          rw [if_pos (by rfl)]
          refine wp_of_quiet (v := .agg #[.int .i64 bk, .int .u16 D]) (by (show _ = _); kernel_rfl) (hK.out _ _ rfl (After.lit rfl rfl ?_))
          first | rfl | kernel_rfl
        · intro w7 hS hF K hK
          obtain ⟨e5, -⟩ := hF
          replace e5 : f 5 = _ := e5
          try simp only [e5]
          rw [if_pos (by rfl)]
          refine wp_of_quiet (v := .bool true) (by (show _ = _); kernel_rfl) (hK.out _ _ rfl (After.lit rfl rfl ?_))
          first | rfl | kernel_rfl
        · intro w7 hS hF K hK
          rw [if_pos (by rfl)]
          go_simp
          refine hK.out _ _ rfl (After.new rfl rfl hS.2.2.1 rfl ?_)
          first | rfl | kernel_rfl
        · intro w7 hS hF K hK
          obtain ⟨e8, e6, e4, e0, e1, e2, e3, e5, -⟩ := hF
          obtain ⟨g8, c8, e8, hB8, hg8, hn8⟩ := e8
          replace e8 : f 8 = _ := e8
          replace e6 : f 6 = _ := e6
          replace e4 : f 4 = _ := e4
          replace e0 : f 0 = _ := e0
          replace e1 : f 1 = _ := e1
          replace e2 : f 2 = _ := e2
          replace e3 : f 3 = _ := e3
          replace e5 : f 5 = _ := e5
          try simp only [e8, e6, e4, e0, e1, e2, e3, e5]
          rw [if_pos (by rfl)]
          refine wp_store_row _ _ _ rfl g8 _ rfl rfl _ _ hg8 (by kernel_rfl) hn8 (by kernel_rfl) ?_
          exact hK.out _ _ rfl (After.set rfl rfl rfl rfl e8 hB8 hB8 hg8 hS (StaysAll.isV (StaysAll.isV (StaysAll.isV (StaysAll.isV (StaysAll.isV (StaysAll.isV (StaysAll.isV (StaysAll.isV (StaysAll.out (by rfl) (StaysAll.out (by rfl) (StaysAll.isV StaysAll.nil))))))))))))
        · intro w7 hS hF K hK
          obtain ⟨e7, e9, e0, e1, e2, e3, e4, e5, e6, -⟩ := hF
          replace e7 : f 7 = _ := e7
          obtain ⟨g8, e9, hB8, hg8⟩ := e9
          replace e9 : f 8 = _ := e9
          replace e0 : f 0 = _ := e0
          replace e1 : f 1 = _ := e1
          replace e2 : f 2 = _ := e2
          replace e3 : f 3 = _ := e3
          replace e4 : f 4 = _ := e4
          replace e5 : f 5 = _ := e5
          replace e6 : f 6 = _ := e6
          try simp only [e7, e9, e0, e1, e2, e3, e4, e5, e6]
          rw [if_pos (by rfl)]
          refine wp_of_quiet (v := .bool true) (by (show _ = _); kernel_rfl) (hK.out _ _ rfl (After.lit rfl rfl ?_))
          first | rfl | kernel_rfl
        intro w7 hS hF
        obtain ⟨e9, e10, -⟩ := hF
        obtain ⟨g8, e9, hB8, hg8⟩ := e9
        replace e9 : f 8 = _ := e9
        replace e10 : f 10 = _ := e10
        try simp only [e9, e10]
        refine Fin.done (by kernel_rfl) ?_
        have hcA : ∀ o : Nat, w7.cell? ⟨g8, o, none⟩ = (#[.int .i64 bk, .int .u16 D] : Array Value)[o]? := fun o => cell_of_row _ g8 o _ _ _ hg8
        have hcB : ∀ o : Nat, w7.cell? ⟨w.heap.size, o, none⟩ = (#[.int .i64 bk, .int .u16 A] : Array Value)[o]? := fun o => cell_of_row _ w.heap.size o _ _ _ hS.2.2.2.2.2.1
        have HS2 := Lib.hid hS
        clear hS hg8
        go_wp2_with fail
        go_roundw
        case rel => exact ⟨3, by omega, rfl, Lib.hid HS2.out.1, Lib.hid HS2.out.2.2.2.2.1, Lib.hid HS2.out.2.2.2.2.2.1⟩
        case measure => simp [intOf]
      · go_upto_region 11 with fail
        refine wp_region_relyF 13 (factOf [isV (.int .i64 3), isV (.int .u16 D), isV (.pointer (some ⟨w.heap.size, 1, none⟩)), isV (.int .u16 A), isV (.int .u16 (IntKind.u16.wrap (D - A))), isV (.int .i64 3), isV (.pointer (some ⟨g, 21, none⟩)), isV (.pointer (some ⟨g, 27, none⟩)), isV (.int .i64 7), isV (.int .u16 7), isV (.int .u16 m7), isV (.pointer (some ⟨g, 21, none⟩)), isV (.pointer (some ⟨g, 24, none⟩))]) (nth [[0], [1], [2], [3], [4], [5], [6], [7], [8], [9], [10], [11], [12]]) (nth [[], [], [], [], [], [], [], [], [], [], [], [], []]) (nth [[], [], [], [2], [1, 3], [], [5], [6], [7], [8], [4, 9], [0, 1, 2, 3, 4, 5, 6, 7, 8, 9, 10], [11, 0, 1, 2, 3, 4, 5, 6, 7, 8, 9, 10]]) [10, 12] (Kept w.heap.size w wr.heap.size [(g, .cells #[.int .i64 129, .int .i64 0, .int .i64 0, .int .u16 m3, .int .u16 0, .int .i64 0, .int .i64 3, .int .i64 130, .int .i64 0, .int .i64 0, .int .u16 m3, .int .u16 0, .int .i64 0, .int .i64 3, .int .i64 (112 + J), .int .i64 0, .int .i64 0, .int .u16 m3, .int .u16 0, .int .i64 0, .int .i64 3, .int .i64 133, .int .i64 0, .int .i64 0, .int .u16 0, .int .u16 0, .int .i64 1, .int .i64 7] 48 (0, 0)), (w.heap.size, .cells #[.int .i64 bk, .int .u16 A] 47 (0, 0))]) (by kernel_rfl) (by kernel_rfl) (⟨HB.out.drew, HB.out.size, Nat.le_refl _, by intro x hx; simp at hx; rcases hx with rfl | rfl <;> first | exact (Array.getElem?_eq_some_iff.1 HG.out).1 | exact (Array.getElem?_eq_some_iff.1 H0.out).1, HG.out, H0.out, trivial⟩) (Kept.grow) (GrowsAll.of ((GrowsAll.cons (Grows.isV _)  (GrowsAll.cons (Grows.isV _)  (GrowsAll.cons (Grows.isV _)  (GrowsAll.cons (Grows.isV _)  (GrowsAll.cons (Grows.isV _)  (GrowsAll.cons (Grows.isV _)  (GrowsAll.cons (Grows.isV _)  (GrowsAll.cons (Grows.isV _)  (GrowsAll.cons (Grows.isV _)  (GrowsAll.cons (Grows.isV _)  (GrowsAll.cons (Grows.isV _)  (GrowsAll.cons (Grows.isV _)  (GrowsAll.cons (Grows.isV _) GrowsAll.nil))))))))))))))) (fun f F hF => ?_)
        simp only [List.take_succ_cons, List.take_zero, fullGo, Act.put, List.setIfInBounds_toArray, List.set_cons_zero, List.set_cons_succ, Nat.reduceAdd] at hF
        subst hF
        refine ⟨StepObs.cons ?_ (StepObs.cons ?_ (StepObs.cons ?_ (StepObs.cons ?_ (StepObs.cons ?_ (StepObs.cons ?_ (StepObs.cons ?_ (StepObs.cons ?_ (StepObs.cons ?_ (StepObs.cons ?_ (StepObs.cons ?_ (StepObs.cons ?_ (StepObs.cons ?_ (StepObs.nil))))))))))))), ?_⟩
        · intro w5 hS hF K hK
          rw [if_pos (by rfl)]
          refine wp_of_quiet (v := .int .i64 3) (by (show _ = _); kernel_rfl) (hK.out _ _ rfl (After.lit rfl rfl ?_))
          first | rfl | kernel_rfl
        · intro w5 hS hF K hK
          rw [if_pos (by rfl)]
          refine wp_of_quiet (v := .int .u16 D) (by (show _ = _); kernel_rfl) (hK.out _ _ rfl (After.lit rfl rfl ?_))
          first | rfl | kernel_rfl
        · intro w5 hS hF K hK
          rw [if_pos (by rfl)]
          refine wp_of_quiet (v := .pointer (some ⟨w.heap.size, 1, none⟩)) (by (show _ = _); kernel_rfl) (hK.out _ _ rfl (After.lit rfl rfl ?_))
          first | rfl | kernel_rfl
        · intro w5 hS hF K hK
          obtain ⟨e2, -⟩ := hF
          replace e2 : f 2 = _ := e2
          try simp only [e2]
          rw [if_pos (by rfl)]
          exact wp_of_quiet (exec_load_at _ _ rfl _ _ rfl _ _ _ (hS.2.2.2.2.2.1) (.int .u16 A) (by kernel_rfl) (fun _ => by kernel_rfl)) (hK.out _ _ rfl (After.lit rfl rfl (by first | rfl | kernel_rfl)))
        · intro w5 hS hF K hK
          obtain ⟨e1, e3, -⟩ := hF
          replace e1 : f 1 = _ := e1
          replace e3 : f 3 = _ := e3
          try simp only [e1, e3]
          rw [if_pos (by rfl)]
          refine wp_of_quiet (v := .int .u16 (IntKind.u16.wrap (D - A))) (by (show _ = _); kernel_rfl) (hK.out _ _ rfl (After.lit rfl rfl ?_))
          first | rfl | kernel_rfl
        · intro w5 hS hF K hK
          rw [if_pos (by rfl)]
          refine wp_of_quiet (v := .int .i64 3) (by (show _ = _); kernel_rfl) (hK.out _ _ rfl (After.lit rfl rfl ?_))
          first | rfl | kernel_rfl
        · intro w5 hS hF K hK
          obtain ⟨e5, -⟩ := hF
          replace e5 : f 5 = _ := e5
          try simp only [e5]
          rw [if_pos (by rfl)]
          refine wp_of_quiet (v := .pointer (some ⟨g, 21, none⟩)) (by (show _ = _); kernel_rfl) (hK.out _ _ rfl (After.lit rfl rfl ?_))
          first | rfl | kernel_rfl
        · intro w5 hS hF K hK
          obtain ⟨e6, -⟩ := hF
          replace e6 : f 6 = _ := e6
          try simp only [e6]
          rw [if_pos (by rfl)]
          refine wp_of_quiet (v := .pointer (some ⟨g, 27, none⟩)) (by (show _ = _); kernel_rfl) (hK.out _ _ rfl (After.lit rfl rfl ?_))
          first | rfl | kernel_rfl
        · intro w5 hS hF K hK
          obtain ⟨e7, -⟩ := hF
          replace e7 : f 7 = _ := e7
          try simp only [e7]
          rw [if_pos (by rfl)]
          exact wp_of_quiet (exec_load_at _ _ rfl _ _ rfl _ _ _ (hS.2.2.2.2.1) (.int .i64 7) (by kernel_rfl) (fun _ => by kernel_rfl)) (hK.out _ _ rfl (After.lit rfl rfl (by first | rfl | kernel_rfl)))
        · intro w5 hS hF K hK
          obtain ⟨e8, -⟩ := hF
          replace e8 : f 8 = _ := e8
          try simp only [e8]
          rw [if_pos (by rfl)]
          refine wp_of_quiet (v := .int .u16 7) (by (show _ = _); kernel_rfl) (hK.out _ _ rfl (After.lit rfl rfl ?_))
          first | rfl | kernel_rfl
        · intro w5 hS hF K hK
          obtain ⟨e4, e9, -⟩ := hF
          replace e4 : f 4 = _ := e4
          replace e9 : f 9 = _ := e9
          try simp only [e4, e9]
          rw [if_pos (by rfl)]
          exact wp_of_quiet (v := .int .u16 (IntKind.u16.wrap (IntKind.u16.wrap (D - A) - 7))) (by (show _ = _); kernel_rfl) (hK.out _ _ rfl (After.lit rfl rfl (congrArg (Value.int .u16) HM7.out)))
        · intro w5 hS hF K hK
          obtain ⟨e0, e1, e2, e3, e4, e5, e6, e7, e8, e9, e10, -⟩ := hF
          replace e0 : f 0 = _ := e0
          replace e1 : f 1 = _ := e1
          replace e2 : f 2 = _ := e2
          replace e3 : f 3 = _ := e3
          replace e4 : f 4 = _ := e4
          replace e5 : f 5 = _ := e5
          replace e6 : f 6 = _ := e6
          replace e7 : f 7 = _ := e7
          replace e8 : f 8 = _ := e8
          replace e9 : f 9 = _ := e9
          replace e10 : f 10 = _ := e10
          try simp only [e0, e1, e2, e3, e4, e5, e6, e7, e8, e9, e10]
          rw [if_pos (by rfl)]
          refine wp_of_quiet (v := .pointer (some ⟨g, 21, none⟩)) (by (show _ = _); kernel_rfl) (hK.out _ _ rfl (After.lit rfl rfl ?_))
          first | rfl | kernel_rfl
        · intro w5 hS hF K hK
          obtain ⟨e11, e0, e1, e2, e3, e4, e5, e6, e7, e8, e9, e10, -⟩ := hF
          replace e11 : f 11 = _ := e11
          replace e0 : f 0 = _ := e0
          replace e1 : f 1 = _ := e1
          replace e2 : f 2 = _ := e2
          replace e3 : f 3 = _ := e3
          replace e4 : f 4 = _ := e4
          replace e5 : f 5 = _ := e5
          replace e6 : f 6 = _ := e6
          replace e7 : f 7 = _ := e7
          replace e8 : f 8 = _ := e8
          replace e9 : f 9 = _ := e9
          replace e10 : f 10 = _ := e10
          try simp only [e11, e0, e1, e2, e3, e4, e5, e6, e7, e8, e9, e10]
          rw [if_pos (by rfl)]
          refine wp_of_quiet (v := .pointer (some ⟨g, 24, none⟩)) (by (show _ = _); kernel_rfl) (hK.out _ _ rfl (After.lit rfl rfl ?_))
          first | rfl | kernel_rfl
        intro w5 hS hF
        obtain ⟨e10, e12, -⟩ := hF
        replace e10 : f 10 = _ := e10
        replace e12 : f 12 = _ := e12
        try simp only [e10, e12]
        refine Fin.last rfl (fun K hK => ?_)
        rw [if_pos (by rfl)]
        refine wp_store_at _ _ _ rfl g 24 (by rfl) _ (by rfl) _ _ hS.2.2.2.2.1 _ (by rfl) (Nat.le_of_ble_eq_true rfl) (by kernel_rfl) (by rfl) #[.int .i64 129, .int .i64 0, .int .i64 0, .int .u16 m3, .int .u16 0, .int .i64 0, .int .i64 3, .int .i64 130, .int .i64 0, .int .i64 0, .int .u16 m3, .int .u16 0, .int .i64 0, .int .i64 3, .int .i64 (112 + J), .int .i64 0, .int .i64 0, .int .u16 m3, .int .u16 0, .int .i64 0, .int .i64 3, .int .i64 133, .int .i64 0, .int .i64 0, .int .u16 m7, .int .u16 0, .int .i64 1, .int .i64 7] (by rfl) (hK.out _ _ ?_)
        try simp only [Act.put, List.setIfInBounds_toArray, List.set_cons_zero, List.set_cons_succ]
        replace HG := Lib.hid (setRow_heap w5 g _ #[.int .i64 129, .int .i64 0, .int .i64 0, .int .u16 m3, .int .u16 0, .int .i64 0, .int .i64 3, .int .i64 130, .int .i64 0, .int .i64 0, .int .u16 m3, .int .u16 0, .int .i64 0, .int .i64 3, .int .i64 (112 + J), .int .i64 0, .int .i64 0, .int .u16 m3, .int .u16 0, .int .i64 0, .int .i64 3, .int .i64 133, .int .i64 0, .int .i64 0, .int .u16 m7, .int .u16 0, .int .i64 1, .int .i64 7] _ _ hS.2.2.2.2.1)
        replace H0 := Lib.hid ((setRow_other w5 g w.heap.size #[.int .i64 129, .int .i64 0, .int .i64 0, .int .u16 m3, .int .u16 0, .int .i64 0, .int .i64 3, .int .i64 130, .int .i64 0, .int .i64 0, .int .u16 m3, .int .u16 0, .int .i64 0, .int .i64 3, .int .i64 (112 + J), .int .i64 0, .int .i64 0, .int .u16 m3, .int .u16 0, .int .i64 0, .int .i64 3, .int .i64 133, .int .i64 0, .int .i64 0, .int .u16 m7, .int .u16 0, .int .i64 1, .int .i64 7] (by have := HWG.out; omega)).trans hS.2.2.2.2.2.1)
        replace HB := Lib.hid (below_setRow hS.1 (Nat.le_of_lt HWG.out) #[.int .i64 129, .int .i64 0, .int .i64 0, .int .u16 m3, .int .u16 0, .int .i64 0, .int .i64 3, .int .i64 130, .int .i64 0, .int .i64 0, .int .u16 m3, .int .u16 0, .int .i64 0, .int .i64 3, .int .i64 (112 + J), .int .i64 0, .int .i64 0, .int .u16 m3, .int .u16 0, .int .i64 0, .int .i64 3, .int .i64 133, .int .i64 0, .int .i64 0, .int .u16 m7, .int .u16 0, .int .i64 1, .int .i64 7])
        obtain ⟨w6, hw6⟩ : ∃ w6 : World, w5.setRow g #[.int .i64 129, .int .i64 0, .int .i64 0, .int .u16 m3, .int .u16 0, .int .i64 0, .int .i64 3, .int .i64 130, .int .i64 0, .int .i64 0, .int .u16 m3, .int .u16 0, .int .i64 0, .int .i64 3, .int .i64 (112 + J), .int .i64 0, .int .i64 0, .int .u16 m3, .int .u16 0, .int .i64 0, .int .i64 3, .int .i64 133, .int .i64 0, .int .i64 0, .int .u16 m7, .int .u16 0, .int .i64 1, .int .i64 7] = w6 := ⟨_, rfl⟩
        rw [hw6] at HG H0 HB ⊢
        clear hw6 hS
        go_upto_region 12 with fail
        refine wp_region_relyF 11 (factOf [isV (.int .i64 3), isV (.pointer (some ⟨g, 21, none⟩)), isV (.agg (#[.int .i64 133, .int .i64 0, .int .i64 0, .int .u16 m7, .int .u16 0, .int .i64 1, .int .i64 7])), isV (.agg #[.int .i64 bk, .int .u16 A]), isV (.tuple #[.agg #[.int .i64 bk, .int .u16 D], .bool true]), isV (.tuple #[.agg #[.int .i64 bk, .int .u16 D], .bool true]), isV (.agg #[.int .i64 bk, .int .u16 D]), isV (.bool true), newR w6.heap.size 47 2, newV w6.heap.size (.cells #[.int .i64 bk, .int .u16 D] 47 (0, 0)), isV (.bool true)]) (nth [[0], [1], [2], [3], [4], [5], [6], [7], [8], [8], [10]]) (nth [[], [], [], [], [], [], [], [], [], [8], []]) (nth [[], [0], [1], [], [2, 3], [4], [5], [5], [], [8, 6, 4, 0, 1, 2, 3, 5], [7, 9, 0, 1, 2, 3, 4, 5, 6]]) [9, 10] (Kept w.heap.size w w6.heap.size [(g, .cells #[.int .i64 129, .int .i64 0, .int .i64 0, .int .u16 m3, .int .u16 0, .int .i64 0, .int .i64 3, .int .i64 130, .int .i64 0, .int .i64 0, .int .u16 m3, .int .u16 0, .int .i64 0, .int .i64 3, .int .i64 (112 + J), .int .i64 0, .int .i64 0, .int .u16 m3, .int .u16 0, .int .i64 0, .int .i64 3, .int .i64 133, .int .i64 0, .int .i64 0, .int .u16 m7, .int .u16 0, .int .i64 1, .int .i64 7] 48 (0, 0)), (w.heap.size, .cells #[.int .i64 bk, .int .u16 A] 47 (0, 0))]) (by kernel_rfl) (by kernel_rfl) (⟨HB.out.drew, HB.out.size, Nat.le_refl _, by intro x hx; simp at hx; rcases hx with rfl | rfl <;> first | exact (Array.getElem?_eq_some_iff.1 HG.out).1 | exact (Array.getElem?_eq_some_iff.1 H0.out).1, HG.out, H0.out, trivial⟩) (Kept.grow) (GrowsAll.of ((GrowsAll.cons (Grows.isV _)  (GrowsAll.cons (Grows.isV _)  (GrowsAll.cons (Grows.isV _)  (GrowsAll.cons (Grows.isV _)  (GrowsAll.cons (Grows.isV _)  (GrowsAll.cons (Grows.isV _)  (GrowsAll.cons (Grows.isV _)  (GrowsAll.cons (Grows.isV _)  (GrowsAll.cons (Grows.newR _ _ _)  (GrowsAll.cons (Grows.newV _ _)  (GrowsAll.cons (Grows.isV _) GrowsAll.nil))))))))))))) (fun f F hF => ?_)
        simp only [List.take_succ_cons, List.take_zero, fullGo, Act.put, List.setIfInBounds_toArray, List.set_cons_zero, List.set_cons_succ, Nat.reduceAdd] at hF
        subst hF
        refine ⟨StepObs.cons ?_ (StepObs.cons ?_ (StepObs.cons ?_ (StepObs.cons ?_ (StepObs.cons ?_ (StepObs.cons ?_ (StepObs.cons ?_ (StepObs.cons ?_ (StepObs.cons ?_ (StepObs.cons ?_ (StepObs.cons ?_ (StepObs.nil))))))))))), ?_⟩
        · intro w7 hS hF K hK
          rw [if_pos (by rfl)]
          refine wp_of_quiet (v := .int .i64 3) (by (show _ = _); kernel_rfl) (hK.out _ _ rfl (After.lit rfl rfl ?_))
          first | rfl | kernel_rfl
        · intro w7 hS hF K hK
          obtain ⟨e0, -⟩ := hF
          replace e0 : f 0 = _ := e0
          try simp only [e0]
          rw [if_pos (by rfl)]
          refine wp_of_quiet (v := .pointer (some ⟨g, 21, none⟩)) (by (show _ = _); kernel_rfl) (hK.out _ _ rfl (After.lit rfl rfl ?_))
          first | rfl | kernel_rfl
        · intro w7 hS hF K hK
          obtain ⟨e1, -⟩ := hF
          replace e1 : f 1 = _ := e1
          try simp only [e1]
          rw [if_pos (by rfl)]
          exact wp_of_quiet (exec_load_midB _ _ rfl _ _ rfl _ _ _ (hS.2.2.2.2.1) (#[.int .i64 133, .int .i64 0, .int .i64 0, .int .u16 m7, .int .u16 0, .int .i64 1, .int .i64 7]).toList (by kernel_rfl) (by kernel_rfl)) (hK.out _ _ rfl (After.lit rfl rfl (by first | rfl | kernel_rfl)))
        · intro w7 hS hF K hK
          rw [if_pos (by rfl)]
          exact wp_load_rowB _ _ rfl _ rfl _ _ _ (hS.2.2.2.2.2.1) (by kernel_rfl) (hK.out _ _ rfl (After.lit rfl rfl (by first | rfl | kernel_rfl)))
        · intro w7 hS hF K hK
          obtain ⟨e2, e3, -⟩ := hF
          replace e2 : f 2 = _ := e2
          replace e3 : f 3 = _ := e3
          try simp only [e2, e3]
          rw [if_pos (by rfl)]
          go_simp
          refine (HX3.out _).mono ?_; rintro e w8 ⟨rfl, hbelow⟩; go_simp
          refine hK.out _ _ rfl (After.litB rfl rfl hbelow ?_)
          first | rfl | kernel_rfl
        · intro w7 hS hF K hK
          obtain ⟨e4, -⟩ := hF
          replace e4 : f 4 = _ := e4
          try simp only [e4]
          rw [if_pos (by rfl)]
          refine wp_of_quiet (v := .tuple #[.agg #[.int .i64 bk, .int .u16 D], .bool true]) (by (show _ = _); kernel_rfl) (hK.out _ _ rfl (After.lit rfl rfl ?_))
          first | rfl | kernel_rfl
        · intro w7 hS hF K hK
          obtain ⟨e5, -⟩ := hF
          replace e5 : f 5 = _ := e5
          try simp only [e5]
          rw [if_pos (by rfl)]
          refine wp_of_quiet (v := .agg #[.int .i64 bk, .int .u16 D]) (by (show _ = _); kernel_rfl) (hK.out _ _ rfl (After.lit rfl rfl ?_))
          first | rfl | kernel_rfl
        · intro w7 hS hF K hK
          obtain ⟨e5, -⟩ := hF
          replace e5 : f 5 = _ := e5
          try simp only [e5]
          rw [if_pos (by rfl)]
          refine wp_of_quiet (v := .bool true) (by (show _ = _); kernel_rfl) (hK.out _ _ rfl (After.lit rfl rfl ?_))
          first | rfl | kernel_rfl
        · intro w7 hS hF K hK
          rw [if_pos (by rfl)]
          go_simp
          refine hK.out _ _ rfl (After.new rfl rfl hS.2.2.1 rfl ?_)
          first | rfl | kernel_rfl
        · intro w7 hS hF K hK
          obtain ⟨e8, e6, e4, e0, e1, e2, e3, e5, -⟩ := hF
          obtain ⟨g8, c8, e8, hB8, hg8, hn8⟩ := e8
          replace e8 : f 8 = _ := e8
          replace e6 : f 6 = _ := e6
          replace e4 : f 4 = _ := e4
          replace e0 : f 0 = _ := e0
          replace e1 : f 1 = _ := e1
          replace e2 : f 2 = _ := e2
          replace e3 : f 3 = _ := e3
          replace e5 : f 5 = _ := e5
          try simp only [e8, e6, e4, e0, e1, e2, e3, e5]
          rw [if_pos (by rfl)]
          refine wp_store_row _ _ _ rfl g8 _ rfl rfl _ _ hg8 (by kernel_rfl) hn8 (by kernel_rfl) ?_
          exact hK.out _ _ rfl (After.set rfl rfl rfl rfl e8 hB8 hB8 hg8 hS (StaysAll.isV (StaysAll.isV (StaysAll.isV (StaysAll.isV (StaysAll.isV (StaysAll.isV (StaysAll.isV (StaysAll.isV (StaysAll.out (by rfl) (StaysAll.out (by rfl) (StaysAll.isV StaysAll.nil))))))))))))
        · intro w7 hS hF K hK
          obtain ⟨e7, e9, e0, e1, e2, e3, e4, e5, e6, -⟩ := hF
          replace e7 : f 7 = _ := e7
          obtain ⟨g8, e9, hB8, hg8⟩ := e9
          replace e9 : f 8 = _ := e9
          replace e0 : f 0 = _ := e0
          replace e1 : f 1 = _ := e1
          replace e2 : f 2 = _ := e2
          replace e3 : f 3 = _ := e3
          replace e4 : f 4 = _ := e4
          replace e5 : f 5 = _ := e5
          replace e6 : f 6 = _ := e6
          try simp only [e7, e9, e0, e1, e2, e3, e4, e5, e6]
          rw [if_pos (by rfl)]
          refine wp_of_quiet (v := .bool true) (by (show _ = _); kernel_rfl) (hK.out _ _ rfl (After.lit rfl rfl ?_))
          first | rfl | kernel_rfl
        intro w7 hS hF
        obtain ⟨e9, e10, -⟩ := hF
        obtain ⟨g8, e9, hB8, hg8⟩ := e9
        replace e9 : f 8 = _ := e9
        replace e10 : f 10 = _ := e10
        try simp only [e9, e10]
        refine Fin.done (by kernel_rfl) ?_
        have hcA : ∀ o : Nat, w7.cell? ⟨g8, o, none⟩ = (#[.int .i64 bk, .int .u16 D] : Array Value)[o]? := fun o => cell_of_row _ g8 o _ _ _ hg8
        have hcB : ∀ o : Nat, w7.cell? ⟨w.heap.size, o, none⟩ = (#[.int .i64 bk, .int .u16 A] : Array Value)[o]? := fun o => cell_of_row _ w.heap.size o _ _ _ hS.2.2.2.2.2.1
        have HS2 := Lib.hid hS
        clear hS hg8
        go_wp2_with fail
        go_roundw
        case rel => exact ⟨4, by omega, rfl, Lib.hid HS2.out.1, Lib.hid HS2.out.2.2.2.2.1, Lib.hid HS2.out.2.2.2.2.2.1⟩
        case measure => simp [intOf]
      · have HCH := HS.out
        clear HX0 HX1 HX2 HX3 HM3 HM7 HG
        obtain ⟨N1, eN1⟩ : ∃ N, IntKind.u16.wrap (D - A) = N := ⟨_, rfl⟩
        obtain ⟨N, eN⟩ : ∃ N, IntKind.u16.wrap (N1 - 2) = N := ⟨_, rfl⟩
        have hN : 0 ≤ N ∧ N < 65536 := by rw [← eN, u16_wrap]; omega
        obtain ⟨hN0, hN1⟩ := hN
        have fK := fj J ⟨hK0, hK1⟩
        have v1 := rc_valid10 128 N (by omega) (by decide +kernel) ⟨hN0, hN1⟩
        have v2 := rc_valid10 (96 + J) N (by omega) fK.1 ⟨hN0, hN1⟩
        have o1 : (⟨128, 0, 0, N, 0, 0, 2⟩ : Ins).Ok := okSmall _ _ _ _ _ _ (by omega) (by omega) (by omega) (by omega) (by omega) (by omega)
        have o2 : (⟨96 + J, 0, 0, N, 0, 0, 2⟩ : Ins).Ok := okSmall _ _ _ _ _ _ (by omega) (by omega) (by omega) (by omega) (by omega) (by omega)
        have hsp : (N < 128 ∧ fitsB N = true) ∨ (¬ N < 128 ∧ 65408 ≤ N ∧ fitsB N = true) ∨ (¬ N < 128 ∧ ¬ 65408 ≤ N ∧ fitsB N = false) := by
          unfold fitsB
          by_cases h1 : N < 128
          · exact .inl ⟨h1, by simp [h1]⟩
          · by_cases h2 : 65408 ≤ N
            · exact .inr (.inl ⟨h1, h2, by simp [h2]⟩)
            · exact .inr (.inr ⟨h1, h2, by simp [h1, h2]⟩)
        have hcB : ∀ o : Nat, wr.cell? ⟨w.heap.size, o, none⟩ = (#[.int .i64 bk, .int .u16 A] : Array Value)[o]? := fun o => cell_of_row _ w.heap.size o _ _ _ H0.out
        have hsz := (Array.getElem?_eq_some_iff.1 H0.out).1
        rcases hsp with ⟨hn1, hv⟩ | ⟨hn1, hn2, hv⟩ | ⟨hn1, hn2, hv⟩ <;> (
          rw [hv] at v1 v2
          have V1 := Lib.hid v1
          have V2 := Lib.hid v2
          have O1 := Lib.hid o1
          have O2 := Lib.hid o2
          clear v1 v2 o1 o2 hv fK
          go_upto_region 17 with fail
          go_upto_region 18 with (first
            | (go_at_call 20; (with_reducible refine (valid_any ⟨128, 0, 0, N, 0, 0, 2⟩ O1.out _).mono ?_); rintro e w7 ⟨rfl, hb7⟩; rw [V1.out]; replace H0 := Lib.hid (below_keep hb7 H0.out); replace HB := Lib.hid (HB.out.trans (hb7.mono HB.out.size)); clear hb7)
            | (go_at_call 20; (with_reducible refine (valid_any ⟨96 + J, 0, 0, N, 0, 0, 2⟩ O2.out _).mono ?_); rintro e w8 ⟨rfl, hb8⟩; rw [V2.out]; replace H0 := Lib.hid (below_keep hb8 H0.out); replace HB := Lib.hid (HB.out.trans (hb8.mono HB.out.size)); clear hb8))
          go_upto_region 19 with (first
            | (refine wpList_load_row rfl _ (.tmp 3) rfl _ rfl _ _ _ _ H0.out Tryd.underlying47 rfl ?_ ?_; kernel_rfl)
            | (go_at_call 26; refine (HX4.out _).mono ?_; rintro e w9 ⟨rfl, hb9⟩; replace HB := Lib.hid (HB.out.trans (hb9.mono HB.out.size)); clear hb9)
            | (refine wpList_store_row rfl _ _ _ rfl _ _ rfl rfl _ _ (heap_alloc_new _ _) ?_ ?_ ?_ ?_; kernel_rfl; rfl; kernel_rfl; rw [World.setRow_alloc_new]))
          have hcC := fun o : Nat => cell_of_row _ w9.heap.size o _ _ _ (heap_alloc_new w9 (.cells #[.int .i64 (if D < 4096 then 0 else 5), .int .u16 D] 47))
          replace HB := Lib.hid (HB.out.alloc HB.out.size (.cells #[.int .i64 (if D < 4096 then 0 else 5), .int .u16 D] 47))
          by_cases hD : D < 4096
          · simp only [if_pos hD] at hcC HB ⊢
            go_wp2_with fail
            go_ret
            exact ⟨rfl, HB.out⟩
          · simp only [if_neg hD] at hcC HB ⊢
            go_wp2_with fail
            go_ret
            exact ⟨rfl, HB.out⟩)

end Go.Proofs.YtakahmhbopakmaaDoor
