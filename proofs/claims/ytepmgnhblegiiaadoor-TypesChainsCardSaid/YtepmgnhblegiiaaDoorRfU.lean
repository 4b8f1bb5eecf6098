/- The reference: unite. No condition beyond what each states. -/
import Derived.Test.YtepmgnhblegiiaaDoorSlvA
set_option linter.all false
namespace Go.Proofs.YtepmgnhblegiiaaDoor
open Go Go.RowKit Go.Maps

/-- A row of classes. -/
def ClaW (g n : Nat) (cl : Nat → Int) (w : World) : Prop := ∃ c : Array Value, w.heap[g]? = some (.cells c 3 (0, 0)) ∧ ∀ v, v < n → c[v]? = some (.int .i64 (cl v))
theorem ClaW.turn {g n : Nat} {cl : Nat → Int} {w w' : World} {bs : Nat → Prop} (h : ClaW g n cl w) (t : Turn bs w w') (hb : ¬ bs g) : ClaW g n cl w' := by
  obtain ⟨c, hg, hc⟩ := h
  exact ⟨c, t.heap hg hb, hc⟩
theorem ClaW.cell {g n : Nat} {cl : Nat → Int} {w : World} (h : ClaW g n cl w) {v : Nat} (hv : v < n) : w.cell? ⟨g, v, none⟩ = some (.int .i64 (cl v)) := by
  obtain ⟨c, hg, hc⟩ := h
  rw [cell_of_row _ _ _ _ _ _ hg]; exact hc v hv
def mergeK (cl : Nat → Int) (y x : Int) (v : Nat) : Int := if cl v = y then x else cl v
def partK (cl : Nat → Int) (y x : Int) (k v : Nat) : Int := if v < k then mergeK cl y x v else cl v
theorem partK_zero (cl : Nat → Int) (y x : Int) : partK cl y x 0 = cl := by funext v; simp [partK]
theorem ClaW.step {g n : Nat} {cl : Nat → Int} {y x z : Int} {k : Nat} {w : World} (h : ClaW g n (partK cl y x k) w) (hz : mergeK cl y x k = z) : ClaW g n (partK cl y x (k + 1)) (w.setCell ⟨g, k, none⟩ (.int .i64 z)) := by
  obtain ⟨c, hg, hc⟩ := h
  refine ⟨c.setIfInBounds k (.int .i64 z), heap_setCell_same hg _, fun v hv => ?_⟩
  by_cases e : v = k
  · subst e
    have hlt : v < c.size := (Array.getElem?_eq_some_iff.1 (hc v hv)).1
    rw [Array.getElem?_setIfInBounds_self_of_lt hlt]
    simp [partK, hz]
  · rw [Array.getElem?_setIfInBounds_ne (by omega), hc v hv]
    unfold partK
    by_cases h1 : v < k
    · rw [if_pos h1, if_pos (by omega)]
    · rw [if_neg h1, if_neg (by omega)]
theorem ClaW.keep {g n : Nat} {cl : Nat → Int} {y x : Int} {k : Nat} {w : World} (h : ClaW g n (partK cl y x k) w) (hz : mergeK cl y x k = cl k) : ClaW g n (partK cl y x (k + 1)) w := by
  obtain ⟨c, hg, hc⟩ := h
  refine ⟨c, hg, fun v hv => ?_⟩
  rw [hc v hv]
  unfold partK
  by_cases e : v = k
  · subst e; rw [if_neg (by omega), if_pos (by omega), hz]
  · by_cases h1 : v < k
    · rw [if_pos h1, if_pos (by omega)]
    · rw [if_neg h1, if_neg (by omega)]
def UniPost (g n : Nat) (cl : Nat → Int) (a b : Nat) (w : World) (e : Ending) (w' : World) : Prop :=
  Turn (fun k => k = g) w w' ∧ ((e = .returned (.bool false) ∧ cl a = cl b ∧ ClaW g n cl w') ∨ (e = .returned (.bool true) ∧ cl a ≠ cl b ∧ ClaW g n (mergeK cl (max (cl a) (cl b)) (min (cl a) (cl b))) w'))

set_option maxRecDepth 100000 in
set_option maxHeartbeats 1000000 in
theorem runite_any (g n cap : Nat) (hn : n ≤ 2000) (cl : Nat → Int) (a b : Nat) (ha : a < n) (hb : b < n) (w : World) (h : ClaW g n cl w) :
    Calls Tryd.prog 53 #[.slice (some ⟨g, 0, none⟩) n cap, .int .i64 a, .int .i64 b] w (UniPost g n cl a b w) := by
  obtain ⟨c, hg, hc⟩ := h
  have HG := Lib.hid hg
  have HC := Lib.hid hc
  have HA := Lib.hid (hc a ha)
  have HB := Lib.hid (hc b hb)
  clear hg hc
  obtain ⟨x, hx⟩ : ∃ x, x = min (cl a) (cl b) := ⟨_, rfl⟩
  obtain ⟨y, hy⟩ : ∃ y, y = max (cl a) (cl b) := ⟨_, rfl⟩
  have HX := Lib.hid (And.intro hx hy)
  clear hx hy
  go_enter Tryd.func53, Tryd.ntmps53
  go_upto_region 1 with fail
  refine wp_region_relyT [] 8 (factOf [isV ((.slice (some ⟨g, 0, none⟩) n cap)), isV ((.int .i64 (a : Int))), isV ((.pointer (some ⟨g, a, none⟩))), isV ((.int .i64 (cl a))), isV ((.slice (some ⟨g, 0, none⟩) n cap)), isV ((.int .i64 (b : Int))), isV ((.pointer (some ⟨g, b, none⟩))), isV ((.int .i64 (cl b)))]) (nth [[0], [1], [2], [3], [4], [5], [6], [7]]) (nth [[], [], [], [], [], [], [], []]) (nth [[], [], [0, 1], [2], [], [], [4, 5], [6]]) [3, 7] (fun w5 => Turn (fun _ => False) w w5) (by kernel_rfl) (by kernel_rfl) ((Turn.refl _ _).drew) (fun w w' h hb => h.trans (Turn.ofBelow (bs := fun _ => False) hb) (fun _ _ h => h.elim)) (GrowsAll.of ((GrowsAll.cons (Grows.isV _)  (GrowsAll.cons (Grows.isV _)  (GrowsAll.cons (Grows.isV _)  (GrowsAll.cons (Grows.isV _)  (GrowsAll.cons (Grows.isV _)  (GrowsAll.cons (Grows.isV _)  (GrowsAll.cons (Grows.isV _)  (GrowsAll.cons (Grows.isV _) GrowsAll.nil)))))))))) (fun f F hF => ?_)
  simp only [List.take_succ_cons, List.take_zero, fullGo, Act.put, List.setIfInBounds_toArray, List.set_cons_zero, List.set_cons_succ, Nat.reduceAdd] at hF
  subst hF
  refine ⟨StepObsF.cons ?_ (StepObsF.cons ?_ (StepObsF.cons ?_ (StepObsF.cons ?_ (StepObsF.cons ?_ (StepObsF.cons ?_ (StepObsF.cons ?_ (StepObsF.cons ?_ (StepObsF.nil)))))))), ?_⟩
  · intro w5 hS hF hD K hK
    rw [if_pos (by rfl)]
    refine wp_of_quiet (v := (.slice (some ⟨g, 0, none⟩) n cap)) (by (show _ = _); kernel_rfl) (hK.out _ _ rfl (After.lit rfl rfl rfl ?_))
    first | rfl | kernel_rfl
  · intro w5 hS hF hD K hK
    rw [if_pos (by rfl)]
    refine wp_of_quiet (v := (.int .i64 (a : Int))) (by (show _ = _); kernel_rfl) (hK.out _ _ rfl (After.lit rfl rfl rfl ?_))
    first | rfl | kernel_rfl
  · intro w5 hS hF hD K hK
    obtain ⟨e0, e1, -⟩ := hF
    replace e0 : f 0 = _ := e0
    replace e1 : f 1 = _ := e1
    try simp only [e0, e1]
    rw [if_pos (by rfl)]
    go_simp
    refine hK.out _ _ rfl (After.lit rfl rfl rfl ?_)
    first | rfl | kernel_rfl
  · intro w5 hS hF hD K hK
    obtain ⟨e2, -⟩ := hF
    replace e2 : f 2 = _ := e2
    try simp only [e2]
    rw [if_pos (by rfl)]
    exact wp_of_quiet (exec_load_at _ _ rfl _ _ rfl _ _ _ (hS.heap HG.out (fun h => h)) ((.int .i64 (cl a))) (HA.out) (fun _ => by kernel_rfl)) (hK.out _ _ rfl (After.lit rfl rfl rfl (by first | rfl | kernel_rfl)))
  · intro w5 hS hF hD K hK
    rw [if_pos (by rfl)]
    refine wp_of_quiet (v := (.slice (some ⟨g, 0, none⟩) n cap)) (by (show _ = _); kernel_rfl) (hK.out _ _ rfl (After.lit rfl rfl rfl ?_))
    first | rfl | kernel_rfl
  · intro w5 hS hF hD K hK
    rw [if_pos (by rfl)]
    refine wp_of_quiet (v := (.int .i64 (b : Int))) (by (show _ = _); kernel_rfl) (hK.out _ _ rfl (After.lit rfl rfl rfl ?_))
    first | rfl | kernel_rfl
  · intro w5 hS hF hD K hK
    obtain ⟨e4, e5, -⟩ := hF
    replace e4 : f 4 = _ := e4
    replace e5 : f 5 = _ := e5
    try simp only [e4, e5]
    rw [if_pos (by rfl)]
    go_simp
    refine hK.out _ _ rfl (After.lit rfl rfl rfl ?_)
    first | rfl | kernel_rfl
  · intro w5 hS hF hD K hK
    obtain ⟨e6, -⟩ := hF
    replace e6 : f 6 = _ := e6
    try simp only [e6]
    rw [if_pos (by rfl)]
    exact wp_of_quiet (exec_load_at _ _ rfl _ _ rfl _ _ _ (hS.heap HG.out (fun h => h)) ((.int .i64 (cl b))) (HB.out) (fun _ => by kernel_rfl)) (hK.out _ _ rfl (After.lit rfl rfl rfl (by first | rfl | kernel_rfl)))
  intro w5 hS hF
  obtain ⟨e3, e7, -⟩ := hF
  replace e3 : f 3 = _ := e3
  replace e7 : f 7 = _ := e7
  try simp only [e3, e7]
  simp only [List.drop_succ_cons, List.drop_zero]
  have HS := Lib.hid hS
  clear hS
  go_upto_region 2 with fail
  refine wp_region_relyT [] 8 (factOf [isV ((.slice (some ⟨g, 0, none⟩) n cap)), isV ((.int .i64 (a : Int))), isV ((.pointer (some ⟨g, a, none⟩))), isV ((.int .i64 (cl a))), isV ((.slice (some ⟨g, 0, none⟩) n cap)), isV ((.int .i64 (b : Int))), isV ((.pointer (some ⟨g, b, none⟩))), isV ((.int .i64 (cl b)))]) (nth [[0], [1], [2], [3], [4], [5], [6], [7]]) (nth [[], [], [], [], [], [], [], []]) (nth [[], [], [0, 1], [2], [], [], [4, 5], [6]]) [3, 7] (fun w6 => Turn (fun _ => False) w w6) (by kernel_rfl) (by kernel_rfl) (HS.out.drew) (fun w w' h hb => h.trans (Turn.ofBelow (bs := fun _ => False) hb) (fun _ _ h => h.elim)) (GrowsAll.of ((GrowsAll.cons (Grows.isV _)  (GrowsAll.cons (Grows.isV _)  (GrowsAll.cons (Grows.isV _)  (GrowsAll.cons (Grows.isV _)  (GrowsAll.cons (Grows.isV _)  (GrowsAll.cons (Grows.isV _)  (GrowsAll.cons (Grows.isV _)  (GrowsAll.cons (Grows.isV _) GrowsAll.nil)))))))))) (fun f F hF => ?_)
  simp only [List.take_succ_cons, List.take_zero, fullGo, Act.put, List.setIfInBounds_toArray, List.set_cons_zero, List.set_cons_succ, Nat.reduceAdd] at hF
  subst hF
  refine ⟨StepObsF.cons ?_ (StepObsF.cons ?_ (StepObsF.cons ?_ (StepObsF.cons ?_ (StepObsF.cons ?_ (StepObsF.cons ?_ (StepObsF.cons ?_ (StepObsF.cons ?_ (StepObsF.nil)))))))), ?_⟩
  · intro w6 hS hF hD K hK
    rw [if_pos (by rfl)]
    refine wp_of_quiet (v := (.slice (some ⟨g, 0, none⟩) n cap)) (by (show _ = _); kernel_rfl) (hK.out _ _ rfl (After.lit rfl rfl rfl ?_))
    first | rfl | kernel_rfl
  · intro w6 hS hF hD K hK
    rw [if_pos (by rfl)]
    refine wp_of_quiet (v := (.int .i64 (a : Int))) (by (show _ = _); kernel_rfl) (hK.out _ _ rfl (After.lit rfl rfl rfl ?_))
    first | rfl | kernel_rfl
  · intro w6 hS hF hD K hK
    obtain ⟨e0, e1, -⟩ := hF
    replace e0 : f 0 = _ := e0
    replace e1 : f 1 = _ := e1
    try simp only [e0, e1]
    rw [if_pos (by rfl)]
    go_simp
    refine hK.out _ _ rfl (After.lit rfl rfl rfl ?_)
    first | rfl | kernel_rfl
  · intro w6 hS hF hD K hK
    obtain ⟨e2, -⟩ := hF
    replace e2 : f 2 = _ := e2
    try simp only [e2]
    rw [if_pos (by rfl)]
    exact wp_of_quiet (exec_load_at _ _ rfl _ _ rfl _ _ _ (hS.heap HG.out (fun h => h)) ((.int .i64 (cl a))) (HA.out) (fun _ => by kernel_rfl)) (hK.out _ _ rfl (After.lit rfl rfl rfl (by first | rfl | kernel_rfl)))
  · intro w6 hS hF hD K hK
    rw [if_pos (by rfl)]
    refine wp_of_quiet (v := (.slice (some ⟨g, 0, none⟩) n cap)) (by (show _ = _); kernel_rfl) (hK.out _ _ rfl (After.lit rfl rfl rfl ?_))
    first | rfl | kernel_rfl
  · intro w6 hS hF hD K hK
    rw [if_pos (by rfl)]
    refine wp_of_quiet (v := (.int .i64 (b : Int))) (by (show _ = _); kernel_rfl) (hK.out _ _ rfl (After.lit rfl rfl rfl ?_))
    first | rfl | kernel_rfl
  · intro w6 hS hF hD K hK
    obtain ⟨e4, e5, -⟩ := hF
    replace e4 : f 4 = _ := e4
    replace e5 : f 5 = _ := e5
    try simp only [e4, e5]
    rw [if_pos (by rfl)]
    go_simp
    refine hK.out _ _ rfl (After.lit rfl rfl rfl ?_)
    first | rfl | kernel_rfl
  · intro w6 hS hF hD K hK
    obtain ⟨e6, -⟩ := hF
    replace e6 : f 6 = _ := e6
    try simp only [e6]
    rw [if_pos (by rfl)]
    exact wp_of_quiet (exec_load_at _ _ rfl _ _ rfl _ _ _ (hS.heap HG.out (fun h => h)) ((.int .i64 (cl b))) (HB.out) (fun _ => by kernel_rfl)) (hK.out _ _ rfl (After.lit rfl rfl rfl (by first | rfl | kernel_rfl)))
  intro w6 hS hF
  obtain ⟨e3, e7, -⟩ := hF
  replace e3 : f 3 = _ := e3
  replace e7 : f 7 = _ := e7
  try simp only [e3, e7]
  simp only [List.drop_succ_cons, List.drop_zero]
  have HT := Lib.hid hS
  clear hS
  have HC0 := Lib.hid (show ClaW g n cl w6 from ⟨c, HT.out.heap HG.out (fun h => h), HC.out⟩)
  rw [← HX.out.1] 
  by_cases hab : cl a = cl b
  · have e1 : (x == y) = true := by simp [HX.out.1, HX.out.2, hab]
    have HAB := Lib.hid hab
    clear hab
    go_upto_region 3 with fail
    rw [← HX.out.2]
    go_wp2_with fail
    go_ret
    exact ⟨HT.out.mono (fun _ _ h => h.elim), .inl ⟨rfl, HAB.out, HC0.out⟩⟩
  · have e1 : (x == y) = false := by
      have := HX.out.1; have := HX.out.2
      simp; omega
    have HAB := Lib.hid hab
    clear hab
    go_upto_region 3 with fail
    rw [← HX.out.2]
    clear HA HB HG HC
    go_wp2_with fail
    go_loopw [9] (fun s9 wr => ∃ k : Nat, k ≤ n ∧ s9 = .int .i64 k ∧ Hid (Turn (fun k => k = g) w wr) ∧ Hid (ClaW g n (partK cl y x k) wr)) (fun s9 _ => n - (intOf s9).toNat)
    case atStart => exact ⟨0, Nat.zero_le _, rfl, Lib.hid (HT.out.mono (fun _ _ h => h.elim)), Lib.hid (by rw [partK_zero]; exact HC0.out)⟩
    case round =>
      obtain ⟨k, hk, rfl, HTR, HCR⟩ := hrel
      by_cases hlt : k < n
      · have cg : wr.cell? ⟨g, k, none⟩ = some (.int .i64 (cl k)) := by rw [HCR.out.cell hlt]; simp [partK]
        have fg : wr.frozen? ⟨g, k, none⟩ = false := by
          obtain ⟨c2, h2, -⟩ := HCR.out
          exact frozen_of_row _ _ _ _ _ h2
        by_cases hy : cl k = y
        · have e2 : (cl k == y) = true := by simpa using hy
          have HY := Lib.hid hy
          clear hy
          go_wp2_with fail
          exact ⟨⟨k + 1, by omega, by go_num, Lib.hid (HTR.out.setCell _ (fun _ => rfl)), Lib.hid (HCR.out.step (by simp [mergeK, HY.out]))⟩, by simp [intOf]; omega⟩
        · have e2 : (cl k == y) = false := by simpa using hy
          have HY := Lib.hid hy
          clear hy
          go_wp2_with fail
          exact ⟨⟨k + 1, by omega, by go_num, HTR, Lib.hid (HCR.out.keep (by simp [mergeK, HY.out]))⟩, by simp [intOf]; omega⟩
      · have : k = n := by omega
        subst this
        go_wp2_with fail
        go_ret
        refine ⟨HTR.out, .inr ⟨rfl, HAB.out, ?_⟩⟩
        obtain ⟨c2, h2, h3⟩ := HCR.out
        refine ⟨c2, h2, fun v hv => ?_⟩
        rw [h3 v hv, ← HX.out.1, ← HX.out.2]
        simp [partK, hv]
end Go.Proofs.YtepmgnhblegiiaaDoor
