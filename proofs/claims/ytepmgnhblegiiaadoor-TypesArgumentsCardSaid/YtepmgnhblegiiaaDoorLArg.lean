/- TypesArguments walked. Condition: the table of powers of ten reads as the text lays it. -/
import Derived.Test.YtepmgnhblegiiaaDoorLFst
set_option linter.all false
namespace Go.Proofs.YtepmgnhblegiiaaDoor
open Go Go.RowKit Go.Maps

/-- The constraints ahead of the one in question. -/
def sgnC (m : Nat) (k : Nat) : List Con := (List.range k).map fun i => ⟨3, ((i % m : Nat) : Int), 0, 0⟩
theorem sgnC_len (m k : Nat) : (sgnC m k).length = k := by simp [sgnC]
theorem sgnC_succ (m k : Nat) : sgnC m (k + 1) = sgnC m k ++ [⟨3, ((k % m : Nat) : Int), 0, 0⟩] := by simp [sgnC, List.range_succ]
theorem sgnC_right {m k : Nat} (hm : 0 < m) : ∀ c ∈ sgnC m k, rightS m c = true := fun c hc => by
  simp only [sgnC, List.mem_map, List.mem_range] at hc
  obtain ⟨i, -, rfl⟩ := hc
  have := Nat.mod_lt i hm
  simp [rightS]; omega
theorem args_law {m k : Nat} {bad : Con} {rows : List Row} {i err : Int} (hm2 : m ≤ 2000) (hk : k ≤ 10) (hkm : 0 < k → 0 < m) (hs : SolveR m (sgnC m k ++ [bad]) rows i err) (hb : rightS m bad = false) : err = 1 ∧ i = k := by
  have hlen : (sgnC m k).length = k := sgnC_len m k
  have hw : SolveR m (sgnC m k ++ [bad]) [] (k : Nat) 1 := .wrong k bad (by omega) (by omega) (by rw [List.length_append, hlen]; simp; omega) (by rw [List.getElem?_append_right (by omega), hlen]; simp) hb (fun j d hj hd => by
    rw [List.getElem?_append_left (by omega)] at hd
    exact sgnC_right (hkm (by omega)) d (List.mem_of_getElem? hd))
  have := hs.unique hw
  exact ⟨this.2.2, this.2.1⟩

set_option maxRecDepth 100000 in
set_option maxHeartbeats 4000000 in
theorem typesArguments_any (z a : Int) (hz : i64ok z) (ha : i64ok a) (q0 q1 q2 q3 : Int) (w : World) (hT : TabP w) :
    Calls Tryd.prog 5 #[.int .i64 z, .agg #[.int .i64 q0, .int .i64 q1, .int .i64 q2, .int .i64 q3], .int .i64 a] w fun e w' => e = .returned (.bool true) ∧ Below w.heap.size w w' := by
  have HT := Lib.hid hT
  have hz0 := Int.emod_nonneg z (show (9 : Int) ≠ 0 by omega)
  have hz1 := Int.emod_lt_of_pos z (show (0 : Int) < 9 by omega)
  have ha0 := Int.emod_nonneg a (show (4 : Int) ≠ 0 by omega)
  have ha1 := Int.emod_lt_of_pos a (show (0 : Int) < 4 by omega)
  have HM := Lib.hid (fun W => mod_any z 9 hz (by omega) W)
  have HA := Lib.hid (fun W => mod_any a 4 ha (by omega) W)
  obtain ⟨m, hm⟩ := Int.eq_ofNat_of_zero_le hz0
  obtain ⟨j, hj⟩ := Int.eq_ofNat_of_zero_le ha0
  rw [hm] at HM hz1
  rw [hj] at HA ha1
  have hm9 : m < 9 := by omega
  have hj4 : j < 4 := by omega
  obtain ⟨j0, hj0, hy0, hy1, hy2⟩ := info_parts infoCon
  clear hz0 hz1 ha0 ha1 hm hj hT
  have HSN := Lib.hid (fun W (hb : Below w.heap.size w W) => sanity_any W (HT.out.stay hb))
  go_enter Tryd.func5, Tryd.ntmps5
  go_upto_region 2 with (go_at_call 14; refine (HSN.out _ ((Below.refl _ _).alloc (Nat.le_refl _) _)).mono ?_; rintro e w1 ⟨rfl, hb1⟩)
  have hcb := (hb1.block w.heap.size (by simp)).trans (heap_alloc_new w (.cells #[.int .i64 q0, .int .i64 q1, .int .i64 q2, .int .i64 q3] 34))
  have k0 : w1.cell? ⟨w.heap.size, 0, none⟩ = some (.int .i64 q0) := by rw [cell_of_row _ _ _ _ _ _ hcb]; rfl
  have k1 : w1.cell? ⟨w.heap.size, 1, none⟩ = some (.int .i64 q1) := by rw [cell_of_row _ _ _ _ _ _ hcb]; rfl
  have k2 : w1.cell? ⟨w.heap.size, 2, none⟩ = some (.int .i64 q2) := by rw [cell_of_row _ _ _ _ _ _ hcb]; rfl
  have k3 : w1.cell? ⟨w.heap.size, 3, none⟩ = some (.int .i64 q3) := by rw [cell_of_row _ _ _ _ _ _ hcb]; rfl
  have HB1 := Lib.hid (((Below.refl w.heap.size w).alloc (Nat.le_refl _) (.cells #[.int .i64 q0, .int .i64 q1, .int .i64 q2, .int .i64 q3] 34)).trans (hb1.mono (by simp)))
  clear hb1 hcb HSN
  go_upto_region 4 with (first | (go_at_call 20; refine (HM.out _).mono ?_; rintro e w2 ⟨rfl, rfl⟩) | (refine wpList_store_row rfl _ _ _ rfl _ _ rfl rfl _ _ (heap_alloc_new _ _) ?_ ?_ ?_ ?_; kernel_rfl; rfl; kernel_rfl; rw [World.setRow_alloc_new]))
  have HBD := Lib.hid (heap_alloc_new w1 (.cells #[.int .i64 q0, .int .i64 q1, .int .i64 q2, .int .i64 q3] 37))
  obtain ⟨W, hW⟩ : ∃ W, W = w1.alloc (.cells #[.int .i64 q0, .int .i64 q1, .int .i64 q2, .int .i64 q3] 37) := ⟨_, rfl⟩
  change Code.wp _ _ _ _ (w1.alloc (.cells #[.int .i64 q0, .int .i64 q1, .int .i64 q2, .int .i64 q3] 37))
  rw [← hW] at HBD ⊢
  have HBW := Lib.hid (show Below w.heap.size w W by rw [hW]; exact HB1.out.alloc HB1.out.size _)
  have hs1 : w.heap.size ≤ w1.heap.size := HB1.out.size
  have hwW : w1.heap.size < W.heap.size := (Array.getElem?_eq_some_iff.1 HBD.out).1
  clear hW HB1 k0 k1 k2 k3
  go_upto_block 0 with fail
  go_cut [10] (fun s10 wx => ∃ (v10 : Value) (K : Nat), s10 = v10 ∧ K ≤ 4 ∧ (0 < K → 0 < m) ∧ Hid (wx.ownsRow W.heap.size 37 4 v10 K (consV (sgnC m K))) ∧ Hid (Turn (fun _ => False) W wx))
  case first =>
    go_wp2_with fail
    go_loopw [10, 11] (fun s10 s11 wr => ∃ (k : Nat) (v10 : Value), s10 = v10 ∧ k ≤ 4 ∧ (0 < k → 0 < m) ∧ s11 = .int .i64 k ∧ Hid (wr.ownsRow W.heap.size 37 4 v10 k (consV (sgnC m k))) ∧ Hid (Turn (fun _ => False) W wr)) (fun _ s11 _ => 4 - (intOf s11).toNat)
    case atStart => exact ⟨0, _, rfl, by omega, by omega, rfl, Lib.hid (own_empty W _ _ _ (Nat.le_refl _)), Lib.hid ((Turn.refl _ _).alloc _)⟩
    case round =>
      obtain ⟨k, v10, h10, hk, hkm, rfl, HOW, HT9⟩ := hrel
      have h10' := h10.symm
      subst h10'
      have hszw : W.heap.size ≤ wr.heap.size := HT9.out.size
      by_cases hlt : k < j
      · by_cases hm0 : 0 < m
        · have HCL := Lib.hid (consV_len (sgnC m k))
          go_wp2_with (first | (go_at_call 20; refine (HA.out _).mono ?_; rintro e w2 ⟨rfl, rfl⟩) | (at_builtin; refine wpList_append_own _ rfl _ _ 24 rfl W.heap.size 37 j0 (.agg #[.int .i64 0, .int .i64 0, .int .i64 0, .int .i64 0]) 4 32 Tryd.underlying24 hj0 hy0 hy1 hy2 rfl (by decide) _ k (consV (sgnC m k)) rfl (own_turn HOW.out ((Turn.refl (fun _ => False) _).alloc _) (fun _ _ h => h)) ⟨_, 0, none⟩ 1 1 [.int .i64 3, .int .i64 ((k % m : Nat) : Int), .int .i64 0, .int .i64 0] rfl rfl (cells_new _ _ _ _ rfl) (by intro u hu; simp at hu; rcases hu with rfl | rfl | rfl <;> rfl) (by unfold maxLen; omega) (by omega) (Nat.le_trans hszw (by simp)) ?_; intro v9 w9 hown9 hgrow9 _))
          refine ⟨⟨k + 1, _, rfl, by omega, fun _ => hm0, by go_num, Lib.hid (by rw [sgnC_succ, consV_snoc]; exact hown9), Lib.hid (HT9.out.trans (((Turn.refl (fun q => W.heap.size ≤ q) wr).alloc _).grown hgrow9 (fun q e _ => (own_cells HOW.out q e).1)) (fun q h1 h => by omega))⟩, by simp [intOf]; omega⟩
        · have hm0' : m ≤ 0 := by omega
          go_wp2_with (go_at_call 20; refine (HA.out _).mono ?_; rintro e w2 ⟨rfl, rfl⟩)
          go_meet
          case rel => exact ⟨_, k, rfl, hk, hkm, HOW, HT9⟩
      · go_wp2_with (go_at_call 20; refine (HA.out _).mono ?_; rintro e w2 ⟨rfl, rfl⟩)
        go_meet
        case rel => exact ⟨_, k, rfl, hk, hkm, HOW, HT9⟩
  case rest =>
    obtain ⟨v10, K, h10, hK, hKm, HOW, HT9⟩ := hcut
    have h10' := h10.symm
    subst h10'
    clear h10
    have hszw : W.heap.size ≤ wc.heap.size := HT9.out.size
    have HBD2 := Lib.hid (HT9.out.heap HBD.out (fun h => h))
    have HBC := Lib.hid (HBW.out.trans (HT9.out.toBelow HBW.out.size (fun _ h => h.elim)))
    have hszc : w.heap.size ≤ wc.heap.size := HBC.out.size
    have HCL := Lib.hid (consV_len (sgnC m K))
    go_upto_region 10 with (first | (refine wpList_load_row rfl _ _ rfl _ rfl _ _ _ _ (HBD2.out) rfl rfl ?_ ?_; kernel_rfl) | (at_builtin; refine wpList_append_own _ rfl _ _ 24 rfl W.heap.size 37 j0 (.agg #[.int .i64 0, .int .i64 0, .int .i64 0, .int .i64 0]) 4 32 Tryd.underlying24 hj0 hy0 hy1 hy2 rfl (by decide) _ K (consV (sgnC m K)) rfl (own_turn HOW.out ((Turn.refl (fun _ => False) _).alloc _) (fun _ _ h => h)) ⟨_, 0, none⟩ 1 1 [.int .i64 q0, .int .i64 q1, .int .i64 q2, .int .i64 q3] rfl rfl (cells_new _ _ _ _ rfl) (by intro u hu; simp at hu; rcases hu with rfl | rfl | rfl | rfl <;> rfl) (by unfold maxLen; omega) (by omega) (Nat.le_trans hszw (by simp)) ?_; intro v9 w9 hown9 hgrow9 _))
    have hT9 : Turn (fun q => W.heap.size ≤ q) wc w9 := ((Turn.refl (fun q => W.heap.size ≤ q) wc).alloc _).grown hgrow9 (fun q e _ => (own_cells HOW.out q e).1)
    have hcs : (sgnC m K ++ ([⟨q0, q1, q2, q3⟩] : List Con)).length = K + 1 := by rw [List.length_append, sgnC_len]; rfl
    obtain ⟨co, cp, rfl⟩ := own_slice hown9
    have hcap := (own_cap hown9).1
    have hcw : ConsW co (sgnC m K ++ [⟨q0, q1, q2, q3⟩]) w9 := (own_cons (by rw [consV_snoc]; exact hown9)).2
    have HB9 := Lib.hid (HBC.out.trans (hT9.toBelow hszc (fun q h => by omega)))
    have HBD3 := Lib.hid (hT9.heap HBD2.out (fun h => by omega))
    have HSV := Lib.hid (by
      have h9 := solve_any m (sgnC m K ++ [⟨q0, q1, q2, q3⟩]) (fun _ => by simp) w9 co cp (by omega) hcw
      rw [hcs] at h9; exact h9)
    have HAG := Lib.hid (fun W (hb : Below w9.heap.size w9 W) => by
      have h9 := agrees_any m (sgnC m K ++ [⟨q0, q1, q2, q3⟩]) (fun _ => by simp) W co cp (by omega) (hcw.below hb)
      rw [hcs] at h9; exact h9)
    have HRR := Lib.hid (fun W => rright_any (m : Int) ⟨q0, q1, q2, q3⟩ W)
    have HN1 := Lib.hid (fun W => solve_any (-1 - (m : Int)) [] (by omega) W none 0 (Nat.le_refl _) (fun h => absurd h (by simp)))
    have HN2 := Lib.hid (fun W => solve_any (2001 + (m : Int)) [] (by omega) W none 0 (Nat.le_refl _) (fun h => absurd h (by simp)))
    clear hown9 hgrow9 hT9 hcw
    go_upto_region 11 with (go_at_call 19; refine (HSV.out).mono ?_; rintro e w3 ⟨val, rows, i, err, rfl, hsr, hb3, hr3⟩)
    have HSR := Lib.hid hsr
    have HB3 := Lib.hid hb3
    have HBD4 := Lib.hid (below_keep hb3 HBD3.out)
    clear hsr hb3 hr3 HSV
    go_upto_region 12 with (first | (refine wpList_load_row rfl _ _ rfl _ rfl _ _ _ _ (HBD4.out) rfl rfl ?_ ?_; kernel_rfl) | (go_at_call 21; refine (HRR.out _).mono ?_; rintro e w4 ⟨rfl, hb4⟩))
    have HB4 := Lib.hid (HB3.out.trans (hb4.mono HB3.out.size))
    clear hb4
    go_upto_region 13 with (go_at_call 19; refine (HN1.out _).mono ?_; rintro e w5 ⟨val5, rows5, i5, err5, rfl, hs5, hb5, hr5⟩)
    have he5 : err5 = 1 := by cases hs5 <;> first | rfl | omega
    subst he5
    have HB5 := Lib.hid (HB4.out.trans (hb5.mono HB4.out.size))
    clear hs5 hb5 hr5
    go_upto_region 14 with (go_at_call 19; refine (HN2.out _).mono ?_; rintro e w6 ⟨val6, rows6, i6, err6, rfl, hs6, hb6, hr6⟩)
    have he6 : err6 = 2 := by cases hs6 <;> first | rfl | omega
    subst he6
    have HB6 := Lib.hid (HB5.out.trans (hb6.mono HB5.out.size))
    clear hs6 hb6 hr6
    have hs9 : w.heap.size ≤ w9.heap.size := HB9.out.size
    cases hr : rightS m ⟨q0, q1, q2, q3⟩
    · have hlaw := args_law (by omega) (by omega) hKm HSR.out hr
      obtain ⟨rfl, rfl⟩ := hlaw
      have HR := Lib.hid hr
      clear hr
      go_wp2_with fail
      go_ret
      exact ⟨rfl, HB9.out.trans (HB6.out.mono hs9)⟩
    · have HR := Lib.hid hr
      clear hr
      go_wp2_with (go_at_call 17; refine (HAG.out _ HB6.out).mono ?_; rintro e w7 ⟨rfl, hb7⟩)
      go_ret
      exact ⟨rfl, HB9.out.trans ((HB6.out.trans (hb7.mono HB6.out.size)).mono hs9)⟩
end Go.Proofs.YtepmgnhblegiiaaDoor
