/- TypesFirst walked. Condition: the table of powers of ten reads as the text lays it. -/
import Derived.Test.YtepmgnhblegiiaaDoorAgr
set_option linter.all false
namespace Go.Proofs.YtepmgnhblegiiaaDoor
open Go Go.RowKit Go.Maps

theorem SolveR.fine {n : Nat} {cs : List Con} {rows : List Row} {k err : Int} (h : SolveR n cs rows k err) (hn : n ≤ 2000) (hl : cs.length ≤ 5000) (hR : ∀ c ∈ cs, rightS n c = true) (hC : ¬ Clash cs) : err = 0 ∧ k = 0 ∧ rows.length = n ∧ ∀ (v : Nat) (r : Row), rows[v]? = some r → Desc cs v r := by
  cases h with
  | arg h => omega
  | many h1 h2 => omega
  | wrong i c h1 h2 h3 h4 h5 h6 => rw [hR c (List.mem_of_getElem? h4)] at h5; cases h5
  | clash i h1 h2 h3 h4 h5 h6 h7 => exact absurd (h7.mono (Sub.take_all _ _)) hC
  | ok rows h1 h2 h3 h4 h5 h6 h7 => exact ⟨rfl, rfl, by omega, h7⟩
theorem SolveR.first {n : Nat} {cs : List Con} {rows : List Row} {k err : Int} {i : Nat} (h : SolveR n (cs.take (i + 1)) rows k err) (hn : n ≤ 2000) (hl : cs.length ≤ 5000) (hR : ∀ c ∈ cs, rightS n c = true) (hi : i < cs.length) (h6 : ¬ Clash (cs.take i)) (h7 : Clash (cs.take (i + 1))) : err = 60 ∧ k = i := by
  have hR' : ∀ c ∈ cs.take (i + 1), rightS n c = true := fun c hc => hR c (List.mem_of_mem_take hc)
  have hl' : (cs.take (i + 1)).length = i + 1 := by rw [List.length_take]; omega
  have hw : SolveR n (cs.take (i + 1)) [] i 60 := .clash i (by omega) (by omega) (by omega) hR' (by omega) (by rw [List.take_take, Nat.min_eq_left (by omega)]; exact h6) (by rw [List.take_take, Nat.min_self]; exact h7)
  have := h.unique hw
  exact ⟨this.2.2, this.2.1⟩
/-- An answer of which the number and the error are known. -/
def TupQ (k err : Int) (v : Value) (_w : World) : Prop := ∃ val, v = .tuple #[val, .int .i64 k, .int .i64 err]

set_option maxRecDepth 100000 in
set_option maxHeartbeats 2000000 in
theorem typesFirst_any (z : Int) (hz : i64ok z) (ao : Option Addr) (len cap : Nat) (hlen : len ≤ 9223372036854775807) (w : World) (h : ArrW ao len w) (hT : TabP w) :
    Calls Tryd.prog 4 #[.int .i64 z, .slice ao len cap] w fun e w' => e = .returned (.bool true) ∧ Below w.heap.size w w' := by
  have HSN := Lib.hid (sanity_any w hT)
  have H := Lib.hid h
  have HSZ := Lib.hid (fun W => size_any z hz W)
  obtain ⟨n, hn⟩ := Int.eq_ofNat_of_zero_le (show 0 ≤ 1 + z % 14 by have := Int.emod_nonneg z (show (14 : Int) ≠ 0 by omega); omega)
  have hn1 : 0 < n := by have := Int.emod_nonneg z (show (14 : Int) ≠ 0 by omega); omega
  have hn2 : n ≤ 2000 := by have := Int.emod_lt_of_pos z (show (0 : Int) < 14 by omega); omega
  rw [hn] at HSZ
  clear hn h hT
  go_enter Tryd.func4, Tryd.ntmps4
  go_upto_region 2 with (go_at_call 14; refine (HSN.out).mono ?_; rintro e w1 ⟨rfl, hb1⟩)
  have HB1 := Lib.hid hb1
  have HMD := Lib.hid (made_any n hn1 hn2 w1 ao len cap hlen (H.out.below hb1))
  clear hb1
  go_upto_region 3 with (first | (go_at_call 16; refine (HSZ.out _).mono ?_; rintro e wz ⟨rfl, rfl⟩) | (go_at_call 15; refine (HMD.out).mono ?_; rintro e w2 ⟨v, cs, rfl, hown, hR, hl, hb2⟩))
  obtain ⟨co, cp, rfl, hcp, hcw⟩ := made_own (n := n) hown
  have HB2 := Lib.hid (HB1.out.trans (hb2.mono HB1.out.size))
  have HCW := Lib.hid hcw
  have HR := Lib.hid hR
  have HSV := Lib.hid (fun W (hb : Below w2.heap.size w2 W) m (hm : m ≤ cs.length) => by
    have h9 := solve_any n (cs.take m) (by omega) W co cp (by rw [List.length_take]; omega) ((HCW.out.below hb).take m)
    rw [List.length_take, Nat.min_eq_left hm] at h9
    exact h9)
  have HS0 := Lib.hid (solve_any n cs (by omega) w2 co cp hcp hcw)
  clear hown hR hb2 hcw
  go_upto_if 30 with (first | (go_at_call 16; refine (HSZ.out _).mono ?_; rintro e wz ⟨rfl, rfl⟩) | (go_at_call 19; refine (HS0.out).mono ?_; rintro e w3 ⟨val, rows, k, err, rfl, hsr, hb3, hr3⟩))
  have HB3 := Lib.hid hb3
  clear hb3 hr3
  cases hsr with
  | arg h => omega
  | many h1 h2 => omega
  | wrong i c h1 h2 h3 h4 h5 h6 => rw [HR.out c (List.mem_of_getElem? h4)] at h5; cases h5
  | ok rows h1 h2 h3 h4 h5 h6 h7 =>
    clear h4 h5 h6 h7
    go_wp2_with fail
    go_ret
    exact ⟨rfl, HB2.out.trans (HB3.out.mono HB2.out.size)⟩
  | clash i h1 h2 h3 h4 h5 h6 h7 =>
    have HC := Lib.hid (And.intro h6 h7)
    have hicp : i ≤ cp := by omega
    have hicp2 : i + 1 ≤ cp := by omega
    clear h1 h2 h4 h6 h7
    go_upto_region 8 with fail
    refine wp_region_relyT [] 13 (factOf [isV ((.int .i64 z)), isV ((.int .i64 (n : Int))), isV ((.slice co cs.length cp)), isV ((.int .i64 (i : Int))), isV ((.slice co i cp)), isVT ((fun _ => False)) (TupQ 0 0), isVT ((fun _ => False)) (TupQ 0 0), anyV, anyV, isV ((.int .i64 0)), anyV, anyV, isV ((.int .i64 0))]) (nth [[0], [1], [2], [3], [4], [5], [6], [7], [8], [9], [10], [11], [12]]) (nth [[], [], [], [], [], [], [], [], [], [], [], [], []]) (nth [[], [0], [], [], [2, 3], [1, 4], [5], [6], [6], [6], [5, 0, 1, 2, 3, 4, 6], [0, 1, 2, 3, 4, 5, 6], [9, 0, 1, 2, 3, 4, 5, 6]]) [12] (fun w5 => Below w2.heap.size w2 w5) (by kernel_rfl) (by kernel_rfl) (HB3.out.drew) (fun w w' h hb => h.trans (hb.mono h.size)) (GrowsAll.of ((GrowsAll.cons (Grows.isV _)  (GrowsAll.cons (Grows.isV _)  (GrowsAll.cons (Grows.isV _)  (GrowsAll.cons (Grows.isV _)  (GrowsAll.cons (Grows.isV _)  (GrowsAll.cons (Grows.isVT _ _)  (GrowsAll.cons (Grows.isVT _ _)  (GrowsAll.cons (Grows.anyV)  (GrowsAll.cons (Grows.anyV)  (GrowsAll.cons (Grows.isV _)  (GrowsAll.cons (Grows.anyV)  (GrowsAll.cons (Grows.anyV)  (GrowsAll.cons (Grows.isV _) GrowsAll.nil))))))))))))))) (fun f F hF => ?_)
    simp only [List.take_succ_cons, List.take_zero, fullGo, Act.put, List.setIfInBounds_toArray, List.set_cons_zero, List.set_cons_succ, Nat.reduceAdd] at hF
    subst hF
    refine ⟨StepObsF.cons ?_ (StepObsF.cons ?_ (StepObsF.cons ?_ (StepObsF.cons ?_ (StepObsF.cons ?_ (StepObsF.cons ?_ (StepObsF.cons ?_ (StepObsF.cons ?_ (StepObsF.cons ?_ (StepObsF.cons ?_ (StepObsF.cons ?_ (StepObsF.cons ?_ (StepObsF.cons ?_ (StepObsF.nil))))))))))))), ?_⟩
    · intro w5 hS hF hD K hK
      rw [if_pos (by rfl)]
      refine wp_of_quiet (v := (.int .i64 z)) (by (show _ = _); kernel_rfl) (hK.out _ _ rfl (After.lit rfl rfl rfl ?_))
      first | rfl | kernel_rfl
    · intro w5 hS hF hD K hK
      obtain ⟨e0, -⟩ := hF
      replace e0 : f 0 = _ := e0
      try simp only [e0]
      rw [if_pos (by rfl)]
      go_simp
      refine (HSZ.out _).mono ?_; rintro e w9 ⟨rfl, rfl⟩; have hbelow := Below.refl w5.heap.size w5; go_simp
      refine hK.out _ _ rfl (After.litB rfl rfl rfl hbelow ?_)
      first | rfl | kernel_rfl
    · intro w5 hS hF hD K hK
      rw [if_pos (by rfl)]
      refine wp_of_quiet (v := (.slice co cs.length cp)) (by (show _ = _); kernel_rfl) (hK.out _ _ rfl (After.lit rfl rfl rfl ?_))
      first | rfl | kernel_rfl
    · intro w5 hS hF hD K hK
      rw [if_pos (by rfl)]
      refine wp_of_quiet (v := (.int .i64 (i : Int))) (by (show _ = _); kernel_rfl) (hK.out _ _ rfl (After.lit rfl rfl rfl ?_))
      first | rfl | kernel_rfl
    · intro w5 hS hF hD K hK
      obtain ⟨e2, e3, -⟩ := hF
      replace e2 : f 2 = _ := e2
      replace e3 : f 3 = _ := e3
      try simp only [e2, e3]
      rw [if_pos (by rfl)]
      go_simp
      refine hK.out _ _ rfl (After.lit rfl rfl rfl ?_)
      first | rfl | kernel_rfl
    · intro w5 hS hF hD K hK
      obtain ⟨e1, e4, -⟩ := hF
      replace e1 : f 1 = _ := e1
      replace e4 : f 4 = _ := e4
      try simp only [e1, e4]
      rw [if_pos (by rfl)]
      go_simp
      refine (HSV.out _ hS i (by omega)).mono ?_; rintro e w9 ⟨val, rows, k9, err, rfl, hsr9, hb9, hr9⟩; obtain ⟨rfl, rfl, -⟩ := hsr9.fine (by omega) (by rw [List.length_take]; omega) (fun c hc => HR.out c (List.mem_of_mem_take hc)) HC.out.1; go_simp
      exact hK.out _ _ rfl (After.litT rfl rfl rfl (hb9.size) (hS.trans (hb9.mono hS.size)) (StaysW.isV (StaysW.isV (StaysW.isV (StaysW.isV (StaysW.isV (StaysW.isVT (Turn.ofBelow hb9) (StaysW.isVT (Turn.ofBelow hb9) (StaysW.anyV (StaysW.anyV (StaysW.isV (StaysW.anyV (StaysW.anyV (StaysW.isV StaysW.nil))))))))))))) (⟨_, rfl⟩))
    · intro w5 hS hF hD K hK
      obtain ⟨e5, -⟩ := hF
      obtain ⟨y5, p5, t5⟩ := e5
      rw [if_pos (by rfl)]
      go_simp
      skip
      exact hK.out _ _ rfl (After.litT rfl rfl rfl (Nat.le_refl _) (hS) (StaysW.isV (StaysW.isV (StaysW.isV (StaysW.isV (StaysW.isV (StaysW.isVT (Turn.refl _ _) (StaysW.isVT (Turn.refl _ _) (StaysW.anyV (StaysW.anyV (StaysW.isV (StaysW.anyV (StaysW.anyV (StaysW.isV StaysW.nil))))))))))))) (p5))
    · intro w5 hS hF hD K hK
      obtain ⟨e6, -⟩ := hF
      obtain ⟨y6, p6, t6⟩ := e6
      rw [if_pos (by rfl)]
      obtain ⟨v1, hv1⟩ := p6; simp only [hv1]; go_simp; exact hK.out _ _ rfl (After.any rfl rfl)
    · intro w5 hS hF hD K hK
      obtain ⟨e6, -⟩ := hF
      obtain ⟨y6, p6, t6⟩ := e6
      rw [if_pos (by rfl)]
      obtain ⟨v1, hv1⟩ := p6; simp only [hv1]; go_simp; exact hK.out _ _ rfl (After.any rfl rfl)
    · intro w5 hS hF hD K hK
      obtain ⟨e6, -⟩ := hF
      obtain ⟨y6, p6, t6⟩ := e6
      rw [if_pos (by rfl)]
      obtain ⟨v1, hv1⟩ := p6; simp only [hv1]; go_simp; refine hK.out _ _ rfl (After.lit rfl rfl rfl ?_); first | rfl | kernel_rfl
    · intro w5 hS hF hD K hK
      obtain ⟨e5, e0, e1, e2, e3, e4, e6, -⟩ := hF
      obtain ⟨y5, p5, t5⟩ := e5
      replace e0 : f 0 = _ := e0
      replace e1 : f 1 = _ := e1
      replace e2 : f 2 = _ := e2
      replace e3 : f 3 = _ := e3
      replace e4 : f 4 = _ := e4
      obtain ⟨y6, p6, t6⟩ := e6
      try simp only [e0, e1, e2, e3, e4]
      rw [if_pos (by rfl)]
      go_simp
      exact hK.out _ _ rfl (After.any rfl rfl)
    · intro w5 hS hF hD K hK
      obtain ⟨e0, e1, e2, e3, e4, e5, e6, -⟩ := hF
      replace e0 : f 0 = _ := e0
      replace e1 : f 1 = _ := e1
      replace e2 : f 2 = _ := e2
      replace e3 : f 3 = _ := e3
      replace e4 : f 4 = _ := e4
      obtain ⟨y5, p5, t5⟩ := e5
      obtain ⟨y6, p6, t6⟩ := e6
      try simp only [e0, e1, e2, e3, e4]
      rw [if_pos (by rfl)]
      go_simp
      exact hK.out _ _ rfl (After.any rfl rfl)
    · intro w5 hS hF hD K hK
      obtain ⟨e9, e0, e1, e2, e3, e4, e5, e6, -⟩ := hF
      replace e9 : f 9 = _ := e9
      replace e0 : f 0 = _ := e0
      replace e1 : f 1 = _ := e1
      replace e2 : f 2 = _ := e2
      replace e3 : f 3 = _ := e3
      replace e4 : f 4 = _ := e4
      obtain ⟨y5, p5, t5⟩ := e5
      obtain ⟨y6, p6, t6⟩ := e6
      try simp only [e9, e0, e1, e2, e3, e4]
      rw [if_pos (by rfl)]
      go_simp
      refine hK.out _ _ rfl (After.lit rfl rfl rfl ?_)
      first | rfl | kernel_rfl
    intro w5 hS hF
    obtain ⟨e12, -⟩ := hF
    replace e12 : f 12 = _ := e12
    try simp only [e12]
    simp only [List.drop_succ_cons, List.drop_zero]
    have HB4 := Lib.hid hS
    clear hS
    have hwr : IntKind.i64.wrap ((i : Int) + 1) = (i : Int) + 1 := IntWalk.i64_in _ (by omega)
    go_upto_region 9 with fail
    refine wp_region_relyT [] 14 (factOf [isV ((.int .i64 z)), isV ((.int .i64 (n : Int))), isV ((.slice co cs.length cp)), isV ((.int .i64 (i : Int))), isV ((.int .i64 ((i : Int) + 1))), isV ((.slice co (i + 1) cp)), isVT ((fun _ => False)) (TupQ i 60), isVT ((fun _ => False)) (TupQ i 60), anyV, isV ((.int .i64 (i : Int))), isV ((.int .i64 60)), anyV, isV ((.int .i64 (i : Int))), isV ((.int .i64 60))]) (nth [[0], [1], [2], [3], [4], [5], [6], [7], [8], [9], [10], [11], [12], [13]]) (nth [[], [], [], [], [], [], [], [], [], [], [], [], [], []]) (nth [[], [0], [], [], [3], [2, 4], [1, 5], [6], [7], [7], [7], [6, 0, 1, 2, 3, 4, 5, 7], [9, 0, 1, 2, 3, 4, 5, 6, 7], [10, 12, 0, 1, 2, 3, 4, 5, 6, 7, 9]]) [12, 13] (fun w5 => Below w2.heap.size w2 w5) (by kernel_rfl) (by kernel_rfl) (HB4.out.drew) (fun w w' h hb => h.trans (hb.mono h.size)) (GrowsAll.of ((GrowsAll.cons (Grows.isV _)  (GrowsAll.cons (Grows.isV _)  (GrowsAll.cons (Grows.isV _)  (GrowsAll.cons (Grows.isV _)  (GrowsAll.cons (Grows.isV _)  (GrowsAll.cons (Grows.isV _)  (GrowsAll.cons (Grows.isVT _ _)  (GrowsAll.cons (Grows.isVT _ _)  (GrowsAll.cons (Grows.anyV)  (GrowsAll.cons (Grows.isV _)  (GrowsAll.cons (Grows.isV _)  (GrowsAll.cons (Grows.anyV)  (GrowsAll.cons (Grows.isV _)  (GrowsAll.cons (Grows.isV _) GrowsAll.nil)))))))))))))))) (fun f F hF => ?_)
    simp only [List.take_succ_cons, List.take_zero, fullGo, Act.put, List.setIfInBounds_toArray, List.set_cons_zero, List.set_cons_succ, Nat.reduceAdd] at hF
    subst hF
    refine ⟨StepObsF.cons ?_ (StepObsF.cons ?_ (StepObsF.cons ?_ (StepObsF.cons ?_ (StepObsF.cons ?_ (StepObsF.cons ?_ (StepObsF.cons ?_ (StepObsF.cons ?_ (StepObsF.cons ?_ (StepObsF.cons ?_ (StepObsF.cons ?_ (StepObsF.cons ?_ (StepObsF.cons ?_ (StepObsF.cons ?_ (StepObsF.nil)))))))))))))), ?_⟩
    · intro w6 hS hF hD K hK
      rw [if_pos (by rfl)]
      refine wp_of_quiet (v := (.int .i64 z)) (by (show _ = _); kernel_rfl) (hK.out _ _ rfl (After.lit rfl rfl rfl ?_))
      first | rfl | kernel_rfl
    · intro w6 hS hF hD K hK
      obtain ⟨e0, -⟩ := hF
      replace e0 : f 0 = _ := e0
      try simp only [e0]
      rw [if_pos (by rfl)]
      go_simp
      refine (HSZ.out _).mono ?_; rintro e w9 ⟨rfl, rfl⟩; have hbelow := Below.refl w6.heap.size w6; go_simp
      refine hK.out _ _ rfl (After.litB rfl rfl rfl hbelow ?_)
      first | rfl | kernel_rfl
    · intro w6 hS hF hD K hK
      rw [if_pos (by rfl)]
      refine wp_of_quiet (v := (.slice co cs.length cp)) (by (show _ = _); kernel_rfl) (hK.out _ _ rfl (After.lit rfl rfl rfl ?_))
      first | rfl | kernel_rfl
    · intro w6 hS hF hD K hK
      rw [if_pos (by rfl)]
      refine wp_of_quiet (v := (.int .i64 (i : Int))) (by (show _ = _); kernel_rfl) (hK.out _ _ rfl (After.lit rfl rfl rfl ?_))
      first | rfl | kernel_rfl
    · intro w6 hS hF hD K hK
      obtain ⟨e3, -⟩ := hF
      replace e3 : f 3 = _ := e3
      try simp only [e3]
      rw [if_pos (by rfl)]
      go_simp
      refine hK.out _ _ rfl (After.lit rfl rfl rfl ?_)
      first | rfl | kernel_rfl
    · intro w6 hS hF hD K hK
      obtain ⟨e2, e4, -⟩ := hF
      replace e2 : f 2 = _ := e2
      replace e4 : f 4 = _ := e4
      try simp only [e2, e4]
      rw [if_pos (by rfl)]
      go_simp; rw [if_pos (by omega)]; go_simp; refine hK.out _ _ rfl (After.lit rfl rfl rfl ?_); first | rfl | kernel_rfl
    · intro w6 hS hF hD K hK
      obtain ⟨e1, e5, -⟩ := hF
      replace e1 : f 1 = _ := e1
      replace e5 : f 5 = _ := e5
      try simp only [e1, e5]
      rw [if_pos (by rfl)]
      go_simp
      refine (HSV.out _ hS (i + 1) (by omega)).mono ?_; rintro e w9 ⟨val, rows, k9, err, rfl, hsr9, hb9, hr9⟩; obtain ⟨rfl, rfl⟩ := hsr9.first (by omega) (by omega) HR.out h5 HC.out.1 HC.out.2; go_simp
      exact hK.out _ _ rfl (After.litT rfl rfl rfl (hb9.size) (hS.trans (hb9.mono hS.size)) (StaysW.isV (StaysW.isV (StaysW.isV (StaysW.isV (StaysW.isV (StaysW.isV (StaysW.isVT (Turn.ofBelow hb9) (StaysW.isVT (Turn.ofBelow hb9) (StaysW.anyV (StaysW.isV (StaysW.isV (StaysW.anyV (StaysW.isV (StaysW.isV StaysW.nil)))))))))))))) (⟨_, rfl⟩))
    · intro w6 hS hF hD K hK
      obtain ⟨e6, -⟩ := hF
      obtain ⟨y6, p6, t6⟩ := e6
      rw [if_pos (by rfl)]
      go_simp
      skip
      exact hK.out _ _ rfl (After.litT rfl rfl rfl (Nat.le_refl _) (hS) (StaysW.isV (StaysW.isV (StaysW.isV (StaysW.isV (StaysW.isV (StaysW.isV (StaysW.isVT (Turn.refl _ _) (StaysW.isVT (Turn.refl _ _) (StaysW.anyV (StaysW.isV (StaysW.isV (StaysW.anyV (StaysW.isV (StaysW.isV StaysW.nil)))))))))))))) (p6))
    · intro w6 hS hF hD K hK
      obtain ⟨e7, -⟩ := hF
      obtain ⟨y7, p7, t7⟩ := e7
      rw [if_pos (by rfl)]
      obtain ⟨v1, hv1⟩ := p7; simp only [hv1]; go_simp; exact hK.out _ _ rfl (After.any rfl rfl)
    · intro w6 hS hF hD K hK
      obtain ⟨e7, -⟩ := hF
      obtain ⟨y7, p7, t7⟩ := e7
      rw [if_pos (by rfl)]
      obtain ⟨v1, hv1⟩ := p7; simp only [hv1]; go_simp; refine hK.out _ _ rfl (After.lit rfl rfl rfl ?_); first | rfl | kernel_rfl
    · intro w6 hS hF hD K hK
      obtain ⟨e7, -⟩ := hF
      obtain ⟨y7, p7, t7⟩ := e7
      rw [if_pos (by rfl)]
      obtain ⟨v1, hv1⟩ := p7; simp only [hv1]; go_simp; refine hK.out _ _ rfl (After.lit rfl rfl rfl ?_); first | rfl | kernel_rfl
    · intro w6 hS hF hD K hK
      obtain ⟨e6, e0, e1, e2, e3, e4, e5, e7, -⟩ := hF
      obtain ⟨y6, p6, t6⟩ := e6
      replace e0 : f 0 = _ := e0
      replace e1 : f 1 = _ := e1
      replace e2 : f 2 = _ := e2
      replace e3 : f 3 = _ := e3
      replace e4 : f 4 = _ := e4
      replace e5 : f 5 = _ := e5
      obtain ⟨y7, p7, t7⟩ := e7
      try simp only [e0, e1, e2, e3, e4, e5]
      rw [if_pos (by rfl)]
      go_simp
      exact hK.out _ _ rfl (After.any rfl rfl)
    · intro w6 hS hF hD K hK
      obtain ⟨e9, e0, e1, e2, e3, e4, e5, e6, e7, -⟩ := hF
      replace e9 : f 9 = _ := e9
      replace e0 : f 0 = _ := e0
      replace e1 : f 1 = _ := e1
      replace e2 : f 2 = _ := e2
      replace e3 : f 3 = _ := e3
      replace e4 : f 4 = _ := e4
      replace e5 : f 5 = _ := e5
      obtain ⟨y6, p6, t6⟩ := e6
      obtain ⟨y7, p7, t7⟩ := e7
      try simp only [e9, e0, e1, e2, e3, e4, e5]
      rw [if_pos (by rfl)]
      go_simp
      refine hK.out _ _ rfl (After.lit rfl rfl rfl ?_)
      first | rfl | kernel_rfl
    · intro w6 hS hF hD K hK
      obtain ⟨e10, e12, e0, e1, e2, e3, e4, e5, e6, e7, e9, -⟩ := hF
      replace e10 : f 10 = _ := e10
      replace e12 : f 12 = _ := e12
      replace e0 : f 0 = _ := e0
      replace e1 : f 1 = _ := e1
      replace e2 : f 2 = _ := e2
      replace e3 : f 3 = _ := e3
      replace e4 : f 4 = _ := e4
      replace e5 : f 5 = _ := e5
      obtain ⟨y6, p6, t6⟩ := e6
      obtain ⟨y7, p7, t7⟩ := e7
      replace e9 : f 9 = _ := e9
      try simp only [e10, e12, e0, e1, e2, e3, e4, e5, e9]
      rw [if_pos (by rfl)]
      go_simp
      refine hK.out _ _ rfl (After.lit rfl rfl rfl ?_)
      first | rfl | kernel_rfl
    intro w6 hS hF
    obtain ⟨e12, e13, -⟩ := hF
    replace e12 : f 12 = _ := e12
    replace e13 : f 13 = _ := e13
    try simp only [e12, e13]
    simp only [List.drop_succ_cons, List.drop_zero]
    have HB5 := Lib.hid hS
    clear hS
    go_wp2_with fail
    go_ret
    exact ⟨rfl, HB2.out.trans (HB5.out.mono HB2.out.size)⟩
end Go.Proofs.YtepmgnhblegiiaaDoor
