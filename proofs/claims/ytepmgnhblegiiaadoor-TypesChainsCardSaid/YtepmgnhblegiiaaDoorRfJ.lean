/- The reference: joined. No condition beyond what each states. -/
import Derived.Test.YtepmgnhblegiiaaDoorRfU
set_option linter.all false
namespace Go.Proofs.YtepmgnhblegiiaaDoor
open Go Go.RowKit Go.Maps

def joinedP (cl : Nat → Int) (a b : Con) (an bn : Nat) : Prop := a.kind = b.kind ∧ cl an = cl bn ∧ (a.kind = 5 ∨ a.kind = 7 ∨ (a.kind = 6 ∧ a.n = b.n))
def JoiPost (cl : Nat → Int) (a b : Con) (an bn : Nat) (w : World) (e : Ending) (w' : World) : Prop := Below w.heap.size w w' ∧ ∃ r : Bool, e = .returned (.bool r) ∧ (r = true ↔ joinedP cl a b an bn)
set_option maxRecDepth 100000 in
set_option maxHeartbeats 1000000 in
theorem rjoined_any (g n cap : Nat) (hn : n ≤ 2000) (cl : Nat → Int) (a b : Con) (an bn : Nat) (ha : an < n) (hb : bn < n) (hea : a.a = an) (heb : b.a = bn) (w : World) (h : ClaW g n cl w) :
    Calls Tryd.prog 54 #[.slice (some ⟨g, 0, none⟩) n cap, .agg (conCells a), .agg (conCells b)] w (JoiPost cl a b an bn w) := by
  obtain ⟨k, a, ab, m⟩ := a
  obtain ⟨k', b, bb, m'⟩ := b
  simp only at hea heb
  subst hea heb
  obtain ⟨W, hW⟩ : ∃ W, W = (w.alloc (.cells #[.int .i64 k, .int .i64 (an : Int), .int .i64 ab, .int .i64 m] 37)).alloc (.cells #[.int .i64 k', .int .i64 (bn : Int), .int .i64 bb, .int .i64 m'] 37) := ⟨_, rfl⟩
  have b1 : W.heap[w.heap.size]? = some (.cells #[.int .i64 k, .int .i64 (an : Int), .int .i64 ab, .int .i64 m] 37 (0, 0)) := by
    rw [hW, alloc_other _ _ (by simp)]; exact heap_alloc_new _ _
  have b2 : W.heap[w.heap.size + 1]? = some (.cells #[.int .i64 k', .int .i64 (bn : Int), .int .i64 bb, .int .i64 m'] 37 (0, 0)) := by
    have := heap_alloc_new (w.alloc (.cells #[.int .i64 k, .int .i64 (an : Int), .int .i64 ab, .int .i64 m] 37)) (.cells #[.int .i64 k', .int .i64 (bn : Int), .int .i64 bb, .int .i64 m'] 37)
    rw [hW]; simpa using this
  have hbl : Below w.heap.size w W := by rw [hW]; exact ((Below.refl _ _).alloc (Nat.le_refl _) _).alloc (by simp) _
  obtain ⟨c, hg, hc⟩ : ClaW g n cl W := h.turn (Turn.ofBelow (bs := fun _ => False) hbl) (fun h => h)
  have HW := Lib.hid (And.intro b1 (And.intro b2 (And.intro hbl hg)))
  have HA := Lib.hid (hc an ha)
  have HB := Lib.hid (hc bn hb)
  clear b1 b2 hbl hg hc h
  change Calls _ _ #[.slice (some ⟨g, 0, none⟩) n cap, .agg #[.int .i64 k, .int .i64 (an : Int), .int .i64 ab, .int .i64 m], .agg #[.int .i64 k', .int .i64 (bn : Int), .int .i64 bb, .int .i64 m']] w _
  go_enter Tryd.func54, Tryd.ntmps54
  go_upto_region 1 with fail
  change Code.wp _ _ _ _ ((w.alloc (.cells #[.int .i64 k, .int .i64 (an : Int), .int .i64 ab, .int .i64 m] 37)).alloc (.cells #[.int .i64 k', .int .i64 (bn : Int), .int .i64 bb, .int .i64 m'] 37))
  rw [← hW]
  clear hW
  by_cases hk : k = k'
  · subst hk
    refine wp_region_relyT [] 16 (factOf [isV ((.pointer (some ⟨w.heap.size, 0, none⟩))), isV ((.int .i64 k)), isV ((.pointer (some ⟨w.heap.size + 1, 0, none⟩))), isV ((.int .i64 k)), isV ((.bool false)), isV ((.bool false)), isV ((.slice (some ⟨g, 0, none⟩) n cap)), isV ((.pointer (some ⟨w.heap.size, 1, none⟩))), isV ((.int .i64 (an : Int))), isV ((.pointer (some ⟨g, an, none⟩))), isV ((.int .i64 (cl an))), isV ((.slice (some ⟨g, 0, none⟩) n cap)), isV ((.pointer (some ⟨w.heap.size + 1, 1, none⟩))), isV ((.int .i64 (bn : Int))), isV ((.pointer (some ⟨g, bn, none⟩))), isV ((.int .i64 (cl bn)))]) (nth [[0], [1], [2], [3], [4], [5], [6], [7], [8], [9], [10], [11], [12], [13], [14], [15]]) (nth [[], [], [], [], [], [], [], [], [], [], [], [], [], [], [], []]) (nth [[], [0], [], [2], [1, 3], [4], [5], [5], [7, 5], [6, 8, 5], [9, 5], [5], [5], [12, 5], [11, 13, 5], [14, 5]]) [5, 10, 15] (fun w5 => Turn (fun _ => False) W w5) (by kernel_rfl) (by kernel_rfl) ((Turn.refl _ _).drew) (fun w w' h hb => h.trans (Turn.ofBelow (bs := fun _ => False) hb) (fun _ _ h => h.elim)) (GrowsAll.of ((GrowsAll.cons (Grows.isV _)  (GrowsAll.cons (Grows.isV _)  (GrowsAll.cons (Grows.isV _)  (GrowsAll.cons (Grows.isV _)  (GrowsAll.cons (Grows.isV _)  (GrowsAll.cons (Grows.isV _)  (GrowsAll.cons (Grows.isV _)  (GrowsAll.cons (Grows.isV _)  (GrowsAll.cons (Grows.isV _)  (GrowsAll.cons (Grows.isV _)  (GrowsAll.cons (Grows.isV _)  (GrowsAll.cons (Grows.isV _)  (GrowsAll.cons (Grows.isV _)  (GrowsAll.cons (Grows.isV _)  (GrowsAll.cons (Grows.isV _)  (GrowsAll.cons (Grows.isV _) GrowsAll.nil)))))))))))))))))) (fun f F hF => ?_)
    simp only [List.take_succ_cons, List.take_zero, fullGo, Act.put, List.setIfInBounds_toArray, List.set_cons_zero, List.set_cons_succ, Nat.reduceAdd] at hF
    subst hF
    refine ⟨StepObsF.cons ?_ (StepObsF.cons ?_ (StepObsF.cons ?_ (StepObsF.cons ?_ (StepObsF.cons ?_ (StepObsF.cons ?_ (StepObsF.cons ?_ (StepObsF.cons ?_ (StepObsF.cons ?_ (StepObsF.cons ?_ (StepObsF.cons ?_ (StepObsF.cons ?_ (StepObsF.cons ?_ (StepObsF.cons ?_ (StepObsF.cons ?_ (StepObsF.cons ?_ (StepObsF.nil)))))))))))))))), ?_⟩
    · intro w5 hS hF hD K hK
      rw [if_pos (by rfl)]
      refine wp_of_quiet (v := (.pointer (some ⟨w.heap.size, 0, none⟩))) (by (show _ = _); kernel_rfl) (hK.out _ _ rfl (After.lit rfl rfl rfl ?_))
      first | rfl | kernel_rfl
    · intro w5 hS hF hD K hK
      obtain ⟨e0, -⟩ := hF
      replace e0 : f 0 = _ := e0
      try simp only [e0]
      rw [if_pos (by rfl)]
      exact wp_of_quiet (exec_load_at _ _ rfl _ _ rfl _ _ _ (hS.heap HW.out.1 (fun h => h)) ((.int .i64 k)) (by kernel_rfl) (fun _ => by kernel_rfl)) (hK.out _ _ rfl (After.lit rfl rfl rfl (by first | rfl | kernel_rfl)))
    · intro w5 hS hF hD K hK
      rw [if_pos (by rfl)]
      refine wp_of_quiet (v := (.pointer (some ⟨w.heap.size + 1, 0, none⟩))) (by (show _ = _); kernel_rfl) (hK.out _ _ rfl (After.lit rfl rfl rfl ?_))
      first | rfl | kernel_rfl
    · intro w5 hS hF hD K hK
      obtain ⟨e2, -⟩ := hF
      replace e2 : f 2 = _ := e2
      try simp only [e2]
      rw [if_pos (by rfl)]
      exact wp_of_quiet (exec_load_at _ _ rfl _ _ rfl _ _ _ (hS.heap HW.out.2.1 (fun h => h)) ((.int .i64 k)) (by kernel_rfl) (fun _ => by kernel_rfl)) (hK.out _ _ rfl (After.lit rfl rfl rfl (by first | rfl | kernel_rfl)))
    · intro w5 hS hF hD K hK
      obtain ⟨e1, e3, -⟩ := hF
      replace e1 : f 1 = _ := e1
      replace e3 : f 3 = _ := e3
      try simp only [e1, e3]
      rw [if_pos (by rfl)]
      go_simp
      refine hK.out _ _ rfl (After.lit rfl rfl rfl ?_)
      first | rfl | kernel_rfl
    · intro w5 hS hF hD K hK
      obtain ⟨e4, -⟩ := hF
      replace e4 : f 4 = _ := e4
      try simp only [e4]
      rw [if_pos (by rfl)]
      refine wp_of_quiet (v := (.bool false)) (by (show _ = _); kernel_rfl) (hK.out _ _ rfl (After.lit rfl rfl rfl ?_))
      first | rfl | kernel_rfl
    · intro w5 hS hF hD K hK
      obtain ⟨e5, -⟩ := hF
      replace e5 : f 5 = _ := e5
      try simp only [e5]
      rw [if_pos (by rfl)]
      refine wp_of_quiet (v := (.slice (some ⟨g, 0, none⟩) n cap)) (by (show _ = _); kernel_rfl) (hK.out _ _ rfl (After.lit rfl rfl rfl ?_))
      first | rfl | kernel_rfl
    · intro w5 hS hF hD K hK
      obtain ⟨e5, -⟩ := hF
      replace e5 : f 5 = _ := e5
      try simp only [e5]
      rw [if_pos (by rfl)]
      refine wp_of_quiet (v := (.pointer (some ⟨w.heap.size, 1, none⟩))) (by (show _ = _); kernel_rfl) (hK.out _ _ rfl (After.lit rfl rfl rfl ?_))
      first | rfl | kernel_rfl
    · intro w5 hS hF hD K hK
      obtain ⟨e7, e5, -⟩ := hF
      replace e7 : f 7 = _ := e7
      replace e5 : f 5 = _ := e5
      try simp only [e7, e5]
      rw [if_pos (by rfl)]
      exact wp_of_quiet (exec_load_at _ _ rfl _ _ rfl _ _ _ (hS.heap HW.out.1 (fun h => h)) ((.int .i64 (an : Int))) (by kernel_rfl) (fun _ => by kernel_rfl)) (hK.out _ _ rfl (After.lit rfl rfl rfl (by first | rfl | kernel_rfl)))
    · intro w5 hS hF hD K hK
      obtain ⟨e6, e8, e5, -⟩ := hF
      replace e6 : f 6 = _ := e6
      replace e8 : f 8 = _ := e8
      replace e5 : f 5 = _ := e5
      try simp only [e6, e8, e5]
      rw [if_pos (by rfl)]
      go_simp
      refine hK.out _ _ rfl (After.lit rfl rfl rfl ?_)
      first | rfl | kernel_rfl
    · intro w5 hS hF hD K hK
      obtain ⟨e9, e5, -⟩ := hF
      replace e9 : f 9 = _ := e9
      replace e5 : f 5 = _ := e5
      try simp only [e9, e5]
      rw [if_pos (by rfl)]
      exact wp_of_quiet (exec_load_at _ _ rfl _ _ rfl _ _ _ (hS.heap HW.out.2.2.2 (fun h => h)) ((.int .i64 (cl an))) (HA.out) (fun _ => by kernel_rfl)) (hK.out _ _ rfl (After.lit rfl rfl rfl (by first | rfl | kernel_rfl)))
    · intro w5 hS hF hD K hK
      obtain ⟨e5, -⟩ := hF
      replace e5 : f 5 = _ := e5
      try simp only [e5]
      rw [if_pos (by rfl)]
      refine wp_of_quiet (v := (.slice (some ⟨g, 0, none⟩) n cap)) (by (show _ = _); kernel_rfl) (hK.out _ _ rfl (After.lit rfl rfl rfl ?_))
      first | rfl | kernel_rfl
    · intro w5 hS hF hD K hK
      obtain ⟨e5, -⟩ := hF
      replace e5 : f 5 = _ := e5
      try simp only [e5]
      rw [if_pos (by rfl)]
      refine wp_of_quiet (v := (.pointer (some ⟨w.heap.size + 1, 1, none⟩))) (by (show _ = _); kernel_rfl) (hK.out _ _ rfl (After.lit rfl rfl rfl ?_))
      first | rfl | kernel_rfl
    · intro w5 hS hF hD K hK
      obtain ⟨e12, e5, -⟩ := hF
      replace e12 : f 12 = _ := e12
      replace e5 : f 5 = _ := e5
      try simp only [e12, e5]
      rw [if_pos (by rfl)]
      exact wp_of_quiet (exec_load_at _ _ rfl _ _ rfl _ _ _ (hS.heap HW.out.2.1 (fun h => h)) ((.int .i64 (bn : Int))) (by kernel_rfl) (fun _ => by kernel_rfl)) (hK.out _ _ rfl (After.lit rfl rfl rfl (by first | rfl | kernel_rfl)))
    · intro w5 hS hF hD K hK
      obtain ⟨e11, e13, e5, -⟩ := hF
      replace e11 : f 11 = _ := e11
      replace e13 : f 13 = _ := e13
      replace e5 : f 5 = _ := e5
      try simp only [e11, e13, e5]
      rw [if_pos (by rfl)]
      go_simp
      refine hK.out _ _ rfl (After.lit rfl rfl rfl ?_)
      first | rfl | kernel_rfl
    · intro w5 hS hF hD K hK
      obtain ⟨e14, e5, -⟩ := hF
      replace e14 : f 14 = _ := e14
      replace e5 : f 5 = _ := e5
      try simp only [e14, e5]
      rw [if_pos (by rfl)]
      exact wp_of_quiet (exec_load_at _ _ rfl _ _ rfl _ _ _ (hS.heap HW.out.2.2.2 (fun h => h)) ((.int .i64 (cl bn))) (HB.out) (fun _ => by kernel_rfl)) (hK.out _ _ rfl (After.lit rfl rfl rfl (by first | rfl | kernel_rfl)))
    intro w5 hS hF
    obtain ⟨e5, e10, e15, -⟩ := hF
    replace e5 : f 5 = _ := e5
    replace e10 : f 10 = _ := e10
    replace e15 : f 15 = _ := e15
    try simp only [e5, e10, e15]
    simp only [List.drop_succ_cons, List.drop_zero]
    have HS := Lib.hid hS
    clear hS
    have HBL := Lib.hid (HW.out.2.2.1.trans (HS.out.toBelow HW.out.2.2.1.size (fun _ h => h.elim)))
    have k0 : w5.cell? ⟨w.heap.size, 0, none⟩ = some (.int .i64 k) := by rw [cell_of_row _ _ _ _ _ _ (HS.out.heap HW.out.1 (fun h => h))]; rfl
    have k3 : w5.cell? ⟨w.heap.size, 3, none⟩ = some (.int .i64 m) := by rw [cell_of_row _ _ _ _ _ _ (HS.out.heap HW.out.1 (fun h => h))]; rfl
    have j3 : w5.cell? ⟨w.heap.size + 1, 3, none⟩ = some (.int .i64 m') := by rw [cell_of_row _ _ _ _ _ _ (HS.out.heap HW.out.2.1 (fun h => h))]; rfl
    by_cases hc : cl an = cl bn
    · have e1 : (cl an != cl bn) = false := by simp [hc]
      have HQ := Lib.hid hc
      clear hc
      by_cases h5 : k = 5
      · subst h5
        go_wp2_with fail
        go_ret
        exact ⟨HBL.out, true, rfl, by simp [joinedP, HQ.out]⟩
      by_cases h7 : k = 7
      · subst h7
        go_wp2_with fail
        go_ret
        exact ⟨HBL.out, true, rfl, by simp [joinedP, HQ.out]⟩
      have e5 : (k == 5) = false := by simpa using h5
      have e7 : (k == 7) = false := by simpa using h7
      by_cases h6 : k = 6
      · subst h6
        clear h5 h7
        by_cases hm : m = m'
        · subst hm
          go_wp2_with fail
          go_ret
          exact ⟨HBL.out, true, rfl, by simp [joinedP, HQ.out]⟩
        · have em : (m == m') = false := by simpa using hm
          have HM := Lib.hid hm
          clear hm
          go_wp2_with fail
          go_ret
          exact ⟨HBL.out, false, rfl, by simp [joinedP, HM.out]⟩
      · have e6 : (k == 6) = false := by simpa using h6
        have HK := Lib.hid (And.intro h5 (And.intro h7 h6))
        clear h5 h7 h6
        go_wp2_with fail
        go_ret
        exact ⟨HBL.out, false, rfl, by simp [joinedP, HK.out.1, HK.out.2.1, HK.out.2.2]⟩
    · have e1 : (cl an != cl bn) = true := by simpa using hc
      have HQ := Lib.hid hc
      clear hc
      go_wp2_with fail
      go_ret
      exact ⟨HBL.out, false, rfl, by simp [joinedP, HQ.out]⟩
  · have e0 : (k != k') = true := by simpa using hk
    have HK := Lib.hid hk
    clear hk
    refine wp_region_relyT [] 17 (factOf [isV ((.pointer (some ⟨w.heap.size, 0, none⟩))), isV ((.int .i64 k)), isV ((.pointer (some ⟨w.heap.size + 1, 0, none⟩))), isV ((.int .i64 k')), isV ((.bool true)), isV ((.bool true)), isV undef, isV undef, isV undef, isV undef, isV undef, isV undef, isV undef, isV undef, isV undef, isV undef, isV undef]) (nth [[0], [1], [2], [3], [4], [5], [6], [7], [8], [9], [10], [11], [12], [13], [14], [15], [16]]) (nth [[], [], [], [], [], [], [], [], [], [], [], [], [], [], [], [], []]) (nth [[], [0], [], [2], [1, 3], [4], [5], [5], [5], [5], [5], [5], [5], [5], [5], [5], [5]]) [5] (fun w5 => Turn (fun _ => False) W w5) (by kernel_rfl) (by kernel_rfl) ((Turn.refl _ _).drew) (fun w w' h hb => h.trans (Turn.ofBelow (bs := fun _ => False) hb) (fun _ _ h => h.elim)) (GrowsAll.of ((GrowsAll.cons (Grows.isV _)  (GrowsAll.cons (Grows.isV _)  (GrowsAll.cons (Grows.isV _)  (GrowsAll.cons (Grows.isV _)  (GrowsAll.cons (Grows.isV _)  (GrowsAll.cons (Grows.isV _)  (GrowsAll.cons (Grows.isV _)  (GrowsAll.cons (Grows.isV _)  (GrowsAll.cons (Grows.isV _)  (GrowsAll.cons (Grows.isV _)  (GrowsAll.cons (Grows.isV _)  (GrowsAll.cons (Grows.isV _)  (GrowsAll.cons (Grows.isV _)  (GrowsAll.cons (Grows.isV _)  (GrowsAll.cons (Grows.isV _)  (GrowsAll.cons (Grows.isV _)  (GrowsAll.cons (Grows.isV _) GrowsAll.nil))))))))))))))))))) (fun f F hF => ?_)
    simp only [List.take_succ_cons, List.take_zero, fullGo, Act.put, List.setIfInBounds_toArray, List.set_cons_zero, List.set_cons_succ, Nat.reduceAdd] at hF
    subst hF
    refine ⟨StepObsF.cons ?_ (StepObsF.cons ?_ (StepObsF.cons ?_ (StepObsF.cons ?_ (StepObsF.cons ?_ (StepObsF.cons ?_ (StepObsF.cons ?_ (StepObsF.cons ?_ (StepObsF.cons ?_ (StepObsF.cons ?_ (StepObsF.cons ?_ (StepObsF.cons ?_ (StepObsF.cons ?_ (StepObsF.cons ?_ (StepObsF.cons ?_ (StepObsF.cons ?_ (StepObsF.cons ?_ (StepObsF.nil))))))))))))))))), ?_⟩
    · intro w5 hS hF hD K hK
      rw [if_pos (by rfl)]
      refine wp_of_quiet (v := (.pointer (some ⟨w.heap.size, 0, none⟩))) (by (show _ = _); kernel_rfl) (hK.out _ _ rfl (After.lit rfl rfl rfl ?_))
      first | rfl | kernel_rfl
    · intro w5 hS hF hD K hK
      obtain ⟨e0, -⟩ := hF
      replace e0 : f 0 = _ := e0
      try simp only [e0]
      rw [if_pos (by rfl)]
      exact wp_of_quiet (exec_load_at _ _ rfl _ _ rfl _ _ _ (hS.heap HW.out.1 (fun h => h)) ((.int .i64 k)) (by kernel_rfl) (fun _ => by kernel_rfl)) (hK.out _ _ rfl (After.lit rfl rfl rfl (by first | rfl | kernel_rfl)))
    · intro w5 hS hF hD K hK
      rw [if_pos (by rfl)]
      refine wp_of_quiet (v := (.pointer (some ⟨w.heap.size + 1, 0, none⟩))) (by (show _ = _); kernel_rfl) (hK.out _ _ rfl (After.lit rfl rfl rfl ?_))
      first | rfl | kernel_rfl
    · intro w5 hS hF hD K hK
      obtain ⟨e2, -⟩ := hF
      replace e2 : f 2 = _ := e2
      try simp only [e2]
      rw [if_pos (by rfl)]
      exact wp_of_quiet (exec_load_at _ _ rfl _ _ rfl _ _ _ (hS.heap HW.out.2.1 (fun h => h)) ((.int .i64 k')) (by kernel_rfl) (fun _ => by kernel_rfl)) (hK.out _ _ rfl (After.lit rfl rfl rfl (by first | rfl | kernel_rfl)))
    · intro w5 hS hF hD K hK
      obtain ⟨e1, e3, -⟩ := hF
      replace e1 : f 1 = _ := e1
      replace e3 : f 3 = _ := e3
      try simp only [e1, e3]
      rw [if_pos (by rfl)]
      go_simp
      refine hK.out _ _ rfl (After.lit rfl rfl rfl ?_)
      first | rfl | kernel_rfl
    · intro w5 hS hF hD K hK
      obtain ⟨e4, -⟩ := hF
      replace e4 : f 4 = _ := e4
      try simp only [e4]
      rw [if_pos (by rfl)]
      refine wp_of_quiet (v := (.bool true)) (by (show _ = _); kernel_rfl) (hK.out _ _ rfl (After.lit rfl rfl rfl ?_))
      first | rfl | kernel_rfl
    · intro w5 hS hF hD K hK
      obtain ⟨e5, -⟩ := hF
      replace e5 : f 5 = _ := e5
      try simp only [e5]
      rw [if_neg (by (show ¬ (false = true)); exact Bool.false_ne_true)]
      exact hK.out _ _ rfl (After.lit rfl rfl rfl (by first | rfl | kernel_rfl))
    · intro w5 hS hF hD K hK
      obtain ⟨e5, -⟩ := hF
      replace e5 : f 5 = _ := e5
      try simp only [e5]
      rw [if_neg (by (show ¬ (false = true)); exact Bool.false_ne_true)]
      exact hK.out _ _ rfl (After.lit rfl rfl rfl (by first | rfl | kernel_rfl))
    · intro w5 hS hF hD K hK
      obtain ⟨e5, -⟩ := hF
      replace e5 : f 5 = _ := e5
      try simp only [e5]
      rw [if_neg (by (show ¬ (false = true)); exact Bool.false_ne_true)]
      exact hK.out _ _ rfl (After.lit rfl rfl rfl (by first | rfl | kernel_rfl))
    · intro w5 hS hF hD K hK
      obtain ⟨e5, -⟩ := hF
      replace e5 : f 5 = _ := e5
      try simp only [e5]
      rw [if_neg (by (show ¬ (false = true)); exact Bool.false_ne_true)]
      exact hK.out _ _ rfl (After.lit rfl rfl rfl (by first | rfl | kernel_rfl))
    · intro w5 hS hF hD K hK
      obtain ⟨e5, -⟩ := hF
      replace e5 : f 5 = _ := e5
      try simp only [e5]
      rw [if_neg (by (show ¬ (false = true)); exact Bool.false_ne_true)]
      exact hK.out _ _ rfl (After.lit rfl rfl rfl (by first | rfl | kernel_rfl))
    · intro w5 hS hF hD K hK
      obtain ⟨e5, -⟩ := hF
      replace e5 : f 5 = _ := e5
      try simp only [e5]
      rw [if_neg (by (show ¬ (false = true)); exact Bool.false_ne_true)]
      exact hK.out _ _ rfl (After.lit rfl rfl rfl (by first | rfl | kernel_rfl))
    · intro w5 hS hF hD K hK
      obtain ⟨e5, -⟩ := hF
      replace e5 : f 5 = _ := e5
      try simp only [e5]
      rw [if_neg (by (show ¬ (false = true)); exact Bool.false_ne_true)]
      exact hK.out _ _ rfl (After.lit rfl rfl rfl (by first | rfl | kernel_rfl))
    · intro w5 hS hF hD K hK
      obtain ⟨e5, -⟩ := hF
      replace e5 : f 5 = _ := e5
      try simp only [e5]
      rw [if_neg (by (show ¬ (false = true)); exact Bool.false_ne_true)]
      exact hK.out _ _ rfl (After.lit rfl rfl rfl (by first | rfl | kernel_rfl))
    · intro w5 hS hF hD K hK
      obtain ⟨e5, -⟩ := hF
      replace e5 : f 5 = _ := e5
      try simp only [e5]
      rw [if_neg (by (show ¬ (false = true)); exact Bool.false_ne_true)]
      exact hK.out _ _ rfl (After.lit rfl rfl rfl (by first | rfl | kernel_rfl))
    · intro w5 hS hF hD K hK
      obtain ⟨e5, -⟩ := hF
      replace e5 : f 5 = _ := e5
      try simp only [e5]
      rw [if_neg (by (show ¬ (false = true)); exact Bool.false_ne_true)]
      exact hK.out _ _ rfl (After.lit rfl rfl rfl (by first | rfl | kernel_rfl))
    · intro w5 hS hF hD K hK
      obtain ⟨e5, -⟩ := hF
      replace e5 : f 5 = _ := e5
      try simp only [e5]
      rw [if_neg (by (show ¬ (false = true)); exact Bool.false_ne_true)]
      exact hK.out _ _ rfl (After.lit rfl rfl rfl (by first | rfl | kernel_rfl))
    intro w5 hS hF
    obtain ⟨e5, -⟩ := hF
    replace e5 : f 5 = _ := e5
    try simp only [e5]
    simp only [List.drop_succ_cons, List.drop_zero]
    have HS := Lib.hid hS
    clear hS
    have HBL := Lib.hid (HW.out.2.2.1.trans (HS.out.toBelow HW.out.2.2.1.size (fun _ h => h.elim)))
    go_wp2_with fail
    go_ret
    exact ⟨HBL.out, false, rfl, by simp [joinedP, HK.out]⟩
end Go.Proofs.YtepmgnhblegiiaaDoor
