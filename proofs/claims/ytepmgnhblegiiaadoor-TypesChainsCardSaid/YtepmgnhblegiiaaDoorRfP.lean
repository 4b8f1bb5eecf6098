/- The reference: put. No condition beyond what each states. -/
import Derived.Test.YtepmgnhblegiiaaDoorOwnX
import Derived.Test.YtepmgnhblegiiaaDoorPlJ
set_option linter.all false
namespace Go.Proofs.YtepmgnhblegiiaaDoor
open Go Go.RowKit Go.Maps

theorem placeS_eq {l : List (Int × Int)} {o : Int} {k : Nat} (hk : k ≤ l.length) (h2 : ∀ j p, j < k → l[j]? = some p → p.1 < o) (h3 : ∀ p, l[k]? = some p → ¬ p.1 < o) : placeS l o = k := (placeS_found hk h2 h3).symm
def PutPost (B : Nat) (lv : Value) (ms : List (Int × Int)) (m : Int × Int) (w : World) (e : Ending) (w' : World) : Prop :=
  ∃ v', e = .returned v' ∧ w'.ownsRow B 46 2 v' (putS ms m).length (mv (putS ms m)) ∧ Turn (fun k => lv.ownBlock = some k) w w' ∧ ∀ g, v'.ownBlock = some g → lv.ownBlock = some g ∨ w.heap.size ≤ g
/-- A slice of one member, just made. -/
def OneM (B : Nat) (m : Int × Int) (v : Value) (w : World) : Prop := ∃ g, v = .slice (some ⟨g, 0, none⟩) 1 1 ∧ B ≤ g ∧ w.heap[g]? = some (.cells #[.int .i64 m.1, .int .i64 m.2] 46 (0, 0))
theorem OneM.src {B : Nat} {m : Int × Int} {v : Value} {w w1 : World} {bs : Nat → Prop} (h : OneM B m v w) (t : Turn bs w w1) (hb : ∀ g, B ≤ g → ¬ bs g) : ∃ ad, v = .slice (some ad) 1 1 ∧ SrcW w1 2 (some ad) 1 [.int .i64 m.1, .int .i64 m.2] := by
  obtain ⟨g, rfl, hB, hg⟩ := h
  refine ⟨_, rfl, rfl, fun _ => ⟨_, rfl, fun j u hu => ?_⟩⟩
  have hg1 := t.heap hg (hb g hB)
  have e : (⟨g, 0, none⟩ : Addr).add j = ⟨g, j, none⟩ := by unfold Addr.add; split <;> simp_all
  rw [e, cell_of_row _ _ _ _ _ _ hg1]
  simpa using hu
def AppM (B W0 : Nat) (lv : Value) (xs : List (Int × Int)) (v : Value) (w : World) : Prop := w.ownsRow B 46 2 v xs.length (mv xs) ∧ ∀ g, v.ownBlock = some g → lv.ownBlock = some g ∨ W0 ≤ g

set_option maxRecDepth 100000 in
set_option maxHeartbeats 2000000 in
theorem rput_any (B : Nat) (A : Option Addr) (cap : Nat) (ms : List (Int × Int)) (m : Int × Int) (w : World) (hB : B ≤ w.heap.size) (hl : ms.length ≤ 65536) (h : w.ownsRow B 46 2 (.slice A ms.length cap) ms.length (mv ms)) :
    Calls Tryd.prog 52 #[.slice A ms.length cap, .agg #[.int .i64 m.1, .int .i64 m.2]] w (PutPost B (.slice A ms.length cap) ms m w) := by
  obtain ⟨m1, m2⟩ := m
  show Calls _ _ #[.slice A ms.length cap, .agg #[.int .i64 m1, .int .i64 m2]] w _
  obtain ⟨W, hW⟩ : ∃ W, W = w.alloc (.cells #[.int .i64 m1, .int .i64 m2] 46) := ⟨_, rfl⟩
  have hbx : W.heap[w.heap.size]? = some (.cells #[.int .i64 m1, .int .i64 m2] 46 (0, 0)) := by rw [hW]; exact heap_alloc_new _ _
  have htw : Turn (fun _ => False) w W := by rw [hW]; exact (Turn.refl _ _).alloc _
  have hws : W.heap.size = w.heap.size + 1 := by rw [hW]; simp
  have hcm := own_cap h
  have hmx := hcm.2
  unfold maxLen at hmx
  have hown : W.ownsRow B 46 2 (.slice A ms.length cap) ms.length (mv ms) := own_turn h htw (fun _ _ h => h)
  have hlb : ∀ k, (Value.slice A ms.length cap).ownBlock = some k → k < w.heap.size := fun k hk => (h.lt k hk).2
  have HB := Lib.hid hbx
  have HTW := Lib.hid htw
  have HOW := Lib.hid hown
  have HLB := Lib.hid hlb
  have HWS := Lib.hid hws
  have hcn := hcm.1
  obtain ⟨j0, hj, hy0, hy1, hy2⟩ := info_parts infoMem
  clear h hbx htw hown hlb hcm hws
  go_enter Tryd.func52, Tryd.ntmps52
  go_upto_block 0 with fail
  rw [← hW]
  clear hW
  go_cut [5] (fun s5 wx => ∃ k : Nat, s5 = .int .i64 k ∧ k ≤ ms.length ∧ placeS ms m1 = k ∧ Hid (Turn (fun _ => False) W wx))
  case first =>
    go_wp2_with fail
    go_loopw [5] (fun s5 wr => ∃ k : Nat, s5 = .int .i64 k ∧ k ≤ ms.length ∧ Hid (∀ j p, j < k → ms[j]? = some p → p.1 < m1) ∧ Hid (Turn (fun _ => False) W wr)) (fun s5 _ => ms.length - (intOf s5).toNat)
    case atStart => exact ⟨0, rfl, Nat.zero_le _, Lib.hid (fun j p hj => absurd hj (by omega)), Lib.hid (Turn.refl _ _)⟩
    case round =>
      obtain ⟨k, rfl, hk, HLT, HT⟩ := hrel
      by_cases hlt : k < ms.length
      · obtain ⟨p, hp⟩ : ∃ p, ms[k]? = some p := ⟨ms[k], by simp [hlt]⟩
        obtain ⟨g, cur, rfl, hBg, hg, hcur⟩ := own_ptr HOW.out (by omega)
        have HG := Lib.hid hg
        have HC := Lib.hid (show cur[k * 2]? = some (.int .i64 p.1) by rw [hcur _ (by omega)]; exact (mv_at hp).1)
        have HP := Lib.hid hp
        clear hg hcur hp
        go_upto_region 2 with fail
        by_cases hm : p.1 < m1
        · have HM := Lib.hid hm
          clear hm
          refine wp_region_relyT [] 14 (factOf [isV ((.int .i64 (k : Int))), isV ((.slice (some ⟨g, 0, none⟩) ms.length cap)), isV ((.int .i64 (ms.length : Int))), isV ((.bool true)), isV ((.bool true)), isV ((.slice (some ⟨g, 0, none⟩) ms.length cap)), isV ((.int .i64 (k : Int))), isV ((.pointer (some ⟨g, k * 2, none⟩))), isV ((.pointer (some ⟨g, k * 2, none⟩))), isV ((.int .i64 p.1)), isV ((.pointer (some ⟨w.heap.size, 0, none⟩))), isV ((.int .i64 m1)), isV ((.bool true)), isV ((.bool true))]) (nth [[0], [1], [2], [3], [4], [5], [6], [7], [8], [9], [10], [11], [12], [13]]) (nth [[], [], [], [], [], [], [], [], [], [], [], [], [], []]) (nth [[], [], [1], [0, 2], [3], [4], [4], [5, 6, 4], [7, 4], [8, 4], [4], [10, 4], [9, 11, 4], [4, 12]]) [13] (fun w5 => Turn (fun _ => False) W w5) (by kernel_rfl) (by kernel_rfl) (HT.out.drew) (fun w w' h hb => h.trans (Turn.ofBelow (bs := fun _ => False) hb) (fun _ _ h => h.elim)) (GrowsAll.of ((GrowsAll.cons (Grows.isV _)  (GrowsAll.cons (Grows.isV _)  (GrowsAll.cons (Grows.isV _)  (GrowsAll.cons (Grows.isV _)  (GrowsAll.cons (Grows.isV _)  (GrowsAll.cons (Grows.isV _)  (GrowsAll.cons (Grows.isV _)  (GrowsAll.cons (Grows.isV _)  (GrowsAll.cons (Grows.isV _)  (GrowsAll.cons (Grows.isV _)  (GrowsAll.cons (Grows.isV _)  (GrowsAll.cons (Grows.isV _)  (GrowsAll.cons (Grows.isV _)  (GrowsAll.cons (Grows.isV _) GrowsAll.nil)))))))))))))))) (fun f F hF => ?_)
          simp only [List.take_succ_cons, List.take_zero, fullGo, Act.put, List.setIfInBounds_toArray, List.set_cons_zero, List.set_cons_succ, Nat.reduceAdd] at hF
          subst hF
          refine ⟨StepObsF.cons ?_ (StepObsF.cons ?_ (StepObsF.cons ?_ (StepObsF.cons ?_ (StepObsF.cons ?_ (StepObsF.cons ?_ (StepObsF.cons ?_ (StepObsF.cons ?_ (StepObsF.cons ?_ (StepObsF.cons ?_ (StepObsF.cons ?_ (StepObsF.cons ?_ (StepObsF.cons ?_ (StepObsF.cons ?_ (StepObsF.nil)))))))))))))), ?_⟩
          · intro w5 hS hF hD K hK
            rw [if_pos (by rfl)]
            refine wp_of_quiet (v := (.int .i64 (k : Int))) (by (show _ = _); kernel_rfl) (hK.out _ _ rfl (After.lit rfl rfl rfl ?_))
            first | rfl | kernel_rfl
          · intro w5 hS hF hD K hK
            rw [if_pos (by rfl)]
            refine wp_of_quiet (v := (.slice (some ⟨g, 0, none⟩) ms.length cap)) (by (show _ = _); kernel_rfl) (hK.out _ _ rfl (After.lit rfl rfl rfl ?_))
            first | rfl | kernel_rfl
          · intro w5 hS hF hD K hK
            obtain ⟨e1, -⟩ := hF
            replace e1 : f 1 = _ := e1
            try simp only [e1]
            rw [if_pos (by rfl)]
            go_simp
            refine hK.out _ _ rfl (After.lit rfl rfl rfl ?_)
            first | rfl | kernel_rfl
          · intro w5 hS hF hD K hK
            obtain ⟨e0, e2, -⟩ := hF
            replace e0 : f 0 = _ := e0
            replace e2 : f 2 = _ := e2
            try simp only [e0, e2]
            rw [if_pos (by rfl)]
            go_simp
            refine hK.out _ _ rfl (After.lit rfl rfl rfl ?_)
            first | rfl | kernel_rfl
          · intro w5 hS hF hD K hK
            obtain ⟨e3, -⟩ := hF
            replace e3 : f 3 = _ := e3
            try simp only [e3]
            rw [if_pos (by rfl)]
            refine wp_of_quiet (v := (.bool true)) (by (show _ = _); kernel_rfl) (hK.out _ _ rfl (After.lit rfl rfl rfl ?_))
            first | rfl | kernel_rfl
          · intro w5 hS hF hD K hK
            obtain ⟨e4, -⟩ := hF
            replace e4 : f 4 = _ := e4
            try simp only [e4]
            rw [if_pos (by rfl)]
            refine wp_of_quiet (v := (.slice (some ⟨g, 0, none⟩) ms.length cap)) (by (show _ = _); kernel_rfl) (hK.out _ _ rfl (After.lit rfl rfl rfl ?_))
            first | rfl | kernel_rfl
          · intro w5 hS hF hD K hK
            obtain ⟨e4, -⟩ := hF
            replace e4 : f 4 = _ := e4
            try simp only [e4]
            rw [if_pos (by rfl)]
            refine wp_of_quiet (v := (.int .i64 (k : Int))) (by (show _ = _); kernel_rfl) (hK.out _ _ rfl (After.lit rfl rfl rfl ?_))
            first | rfl | kernel_rfl
          · intro w5 hS hF hD K hK
            obtain ⟨e5, e6, e4, -⟩ := hF
            replace e5 : f 5 = _ := e5
            replace e6 : f 6 = _ := e6
            replace e4 : f 4 = _ := e4
            try simp only [e5, e6, e4]
            rw [if_pos (by rfl)]
            go_simp
            refine hK.out _ _ rfl (After.lit rfl rfl rfl ?_)
            first | rfl | kernel_rfl
          · intro w5 hS hF hD K hK
            obtain ⟨e7, e4, -⟩ := hF
            replace e7 : f 7 = _ := e7
            replace e4 : f 4 = _ := e4
            try simp only [e7, e4]
            rw [if_pos (by rfl)]
            refine wp_of_quiet (v := (.pointer (some ⟨g, k * 2, none⟩))) (by (show _ = _); kernel_rfl) (hK.out _ _ rfl (After.lit rfl rfl rfl ?_))
            first | rfl | kernel_rfl
          · intro w5 hS hF hD K hK
            obtain ⟨e8, e4, -⟩ := hF
            replace e8 : f 8 = _ := e8
            replace e4 : f 4 = _ := e4
            try simp only [e8, e4]
            rw [if_pos (by rfl)]
            exact wp_of_quiet (exec_load_at _ _ rfl _ _ rfl _ _ _ (hS.heap HG.out (fun h => h)) ((.int .i64 p.1)) (HC.out) (fun _ => by kernel_rfl)) (hK.out _ _ rfl (After.lit rfl rfl rfl (by first | rfl | kernel_rfl)))
          · intro w5 hS hF hD K hK
            obtain ⟨e4, -⟩ := hF
            replace e4 : f 4 = _ := e4
            try simp only [e4]
            rw [if_pos (by rfl)]
            refine wp_of_quiet (v := (.pointer (some ⟨w.heap.size, 0, none⟩))) (by (show _ = _); kernel_rfl) (hK.out _ _ rfl (After.lit rfl rfl rfl ?_))
            first | rfl | kernel_rfl
          · intro w5 hS hF hD K hK
            obtain ⟨e10, e4, -⟩ := hF
            replace e10 : f 10 = _ := e10
            replace e4 : f 4 = _ := e4
            try simp only [e10, e4]
            rw [if_pos (by rfl)]
            exact wp_of_quiet (exec_load_at _ _ rfl _ _ rfl _ _ _ (hS.heap HB.out (fun h => h)) ((.int .i64 m1)) (by kernel_rfl) (fun _ => by kernel_rfl)) (hK.out _ _ rfl (After.lit rfl rfl rfl (by first | rfl | kernel_rfl)))
          · intro w5 hS hF hD K hK
            obtain ⟨e9, e11, e4, -⟩ := hF
            replace e9 : f 9 = _ := e9
            replace e11 : f 11 = _ := e11
            replace e4 : f 4 = _ := e4
            try simp only [e9, e11, e4]
            rw [if_pos (by rfl)]
            (have hm := HM.out); go_simp; refine hK.out _ _ rfl (After.lit rfl rfl rfl ?_); first | rfl | kernel_rfl
          · intro w5 hS hF hD K hK
            obtain ⟨e4, e12, -⟩ := hF
            replace e4 : f 4 = _ := e4
            replace e12 : f 12 = _ := e12
            try simp only [e4, e12]
            rw [if_pos (by rfl)]
            go_simp
            refine hK.out _ _ rfl (After.lit rfl rfl rfl ?_)
            first | rfl | kernel_rfl
          intro w5 hS hF
          obtain ⟨e13, -⟩ := hF
          replace e13 : f 13 = _ := e13
          try simp only [e13]
          simp only [List.drop_succ_cons, List.drop_zero]
          have HS := Lib.hid hS
          clear hS
          go_wp2_with fail
          exact ⟨⟨k + 1, by go_num, by omega, Lib.hid (fun j q hj hq => by
            by_cases e : j = k
            · subst e; rw [HP.out] at hq; cases hq; exact HM.out
            · exact HLT.out j q (by omega) hq), HS⟩, by simp [intOf]; omega⟩
        · have HM := Lib.hid hm
          clear hm
          refine wp_region_relyT [] 14 (factOf [isV ((.int .i64 (k : Int))), isV ((.slice (some ⟨g, 0, none⟩) ms.length cap)), isV ((.int .i64 (ms.length : Int))), isV ((.bool true)), isV ((.bool true)), isV ((.slice (some ⟨g, 0, none⟩) ms.length cap)), isV ((.int .i64 (k : Int))), isV ((.pointer (some ⟨g, k * 2, none⟩))), isV ((.pointer (some ⟨g, k * 2, none⟩))), isV ((.int .i64 p.1)), isV ((.pointer (some ⟨w.heap.size, 0, none⟩))), isV ((.int .i64 m1)), isV ((.bool false)), isV ((.bool false))]) (nth [[0], [1], [2], [3], [4], [5], [6], [7], [8], [9], [10], [11], [12], [13]]) (nth [[], [], [], [], [], [], [], [], [], [], [], [], [], []]) (nth [[], [], [1], [0, 2], [3], [4], [4], [5, 6, 4], [7, 4], [8, 4], [4], [10, 4], [9, 11, 4], [4, 12]]) [13] (fun w5 => Turn (fun _ => False) W w5) (by kernel_rfl) (by kernel_rfl) (HT.out.drew) (fun w w' h hb => h.trans (Turn.ofBelow (bs := fun _ => False) hb) (fun _ _ h => h.elim)) (GrowsAll.of ((GrowsAll.cons (Grows.isV _)  (GrowsAll.cons (Grows.isV _)  (GrowsAll.cons (Grows.isV _)  (GrowsAll.cons (Grows.isV _)  (GrowsAll.cons (Grows.isV _)  (GrowsAll.cons (Grows.isV _)  (GrowsAll.cons (Grows.isV _)  (GrowsAll.cons (Grows.isV _)  (GrowsAll.cons (Grows.isV _)  (GrowsAll.cons (Grows.isV _)  (GrowsAll.cons (Grows.isV _)  (GrowsAll.cons (Grows.isV _)  (GrowsAll.cons (Grows.isV _)  (GrowsAll.cons (Grows.isV _) GrowsAll.nil)))))))))))))))) (fun f F hF => ?_)
          simp only [List.take_succ_cons, List.take_zero, fullGo, Act.put, List.setIfInBounds_toArray, List.set_cons_zero, List.set_cons_succ, Nat.reduceAdd] at hF
          subst hF
          refine ⟨StepObsF.cons ?_ (StepObsF.cons ?_ (StepObsF.cons ?_ (StepObsF.cons ?_ (StepObsF.cons ?_ (StepObsF.cons ?_ (StepObsF.cons ?_ (StepObsF.cons ?_ (StepObsF.cons ?_ (StepObsF.cons ?_ (StepObsF.cons ?_ (StepObsF.cons ?_ (StepObsF.cons ?_ (StepObsF.cons ?_ (StepObsF.nil)))))))))))))), ?_⟩
          · intro w5 hS hF hD K hK
            rw [if_pos (by rfl)]
            refine wp_of_quiet (v := (.int .i64 (k : Int))) (by (show _ = _); kernel_rfl) (hK.out _ _ rfl (After.lit rfl rfl rfl ?_))
            first | rfl | kernel_rfl
          · intro w5 hS hF hD K hK
            rw [if_pos (by rfl)]
            refine wp_of_quiet (v := (.slice (some ⟨g, 0, none⟩) ms.length cap)) (by (show _ = _); kernel_rfl) (hK.out _ _ rfl (After.lit rfl rfl rfl ?_))
            first | rfl | kernel_rfl
          · intro w5 hS hF hD K hK
            obtain ⟨e1, -⟩ := hF
            replace e1 : f 1 = _ := e1
            try simp only [e1]
            rw [if_pos (by rfl)]
            go_simp
            refine hK.out _ _ rfl (After.lit rfl rfl rfl ?_)
            first | rfl | kernel_rfl
          · intro w5 hS hF hD K hK
            obtain ⟨e0, e2, -⟩ := hF
            replace e0 : f 0 = _ := e0
            replace e2 : f 2 = _ := e2
            try simp only [e0, e2]
            rw [if_pos (by rfl)]
            go_simp
            refine hK.out _ _ rfl (After.lit rfl rfl rfl ?_)
            first | rfl | kernel_rfl
          · intro w5 hS hF hD K hK
            obtain ⟨e3, -⟩ := hF
            replace e3 : f 3 = _ := e3
            try simp only [e3]
            rw [if_pos (by rfl)]
            refine wp_of_quiet (v := (.bool true)) (by (show _ = _); kernel_rfl) (hK.out _ _ rfl (After.lit rfl rfl rfl ?_))
            first | rfl | kernel_rfl
          · intro w5 hS hF hD K hK
            obtain ⟨e4, -⟩ := hF
            replace e4 : f 4 = _ := e4
            try simp only [e4]
            rw [if_pos (by rfl)]
            refine wp_of_quiet (v := (.slice (some ⟨g, 0, none⟩) ms.length cap)) (by (show _ = _); kernel_rfl) (hK.out _ _ rfl (After.lit rfl rfl rfl ?_))
            first | rfl | kernel_rfl
          · intro w5 hS hF hD K hK
            obtain ⟨e4, -⟩ := hF
            replace e4 : f 4 = _ := e4
            try simp only [e4]
            rw [if_pos (by rfl)]
            refine wp_of_quiet (v := (.int .i64 (k : Int))) (by (show _ = _); kernel_rfl) (hK.out _ _ rfl (After.lit rfl rfl rfl ?_))
            first | rfl | kernel_rfl
          · intro w5 hS hF hD K hK
            obtain ⟨e5, e6, e4, -⟩ := hF
            replace e5 : f 5 = _ := e5
            replace e6 : f 6 = _ := e6
            replace e4 : f 4 = _ := e4
            try simp only [e5, e6, e4]
            rw [if_pos (by rfl)]
            go_simp
            refine hK.out _ _ rfl (After.lit rfl rfl rfl ?_)
            first | rfl | kernel_rfl
          · intro w5 hS hF hD K hK
            obtain ⟨e7, e4, -⟩ := hF
            replace e7 : f 7 = _ := e7
            replace e4 : f 4 = _ := e4
            try simp only [e7, e4]
            rw [if_pos (by rfl)]
            refine wp_of_quiet (v := (.pointer (some ⟨g, k * 2, none⟩))) (by (show _ = _); kernel_rfl) (hK.out _ _ rfl (After.lit rfl rfl rfl ?_))
            first | rfl | kernel_rfl
          · intro w5 hS hF hD K hK
            obtain ⟨e8, e4, -⟩ := hF
            replace e8 : f 8 = _ := e8
            replace e4 : f 4 = _ := e4
            try simp only [e8, e4]
            rw [if_pos (by rfl)]
            exact wp_of_quiet (exec_load_at _ _ rfl _ _ rfl _ _ _ (hS.heap HG.out (fun h => h)) ((.int .i64 p.1)) (HC.out) (fun _ => by kernel_rfl)) (hK.out _ _ rfl (After.lit rfl rfl rfl (by first | rfl | kernel_rfl)))
          · intro w5 hS hF hD K hK
            obtain ⟨e4, -⟩ := hF
            replace e4 : f 4 = _ := e4
            try simp only [e4]
            rw [if_pos (by rfl)]
            refine wp_of_quiet (v := (.pointer (some ⟨w.heap.size, 0, none⟩))) (by (show _ = _); kernel_rfl) (hK.out _ _ rfl (After.lit rfl rfl rfl ?_))
            first | rfl | kernel_rfl
          · intro w5 hS hF hD K hK
            obtain ⟨e10, e4, -⟩ := hF
            replace e10 : f 10 = _ := e10
            replace e4 : f 4 = _ := e4
            try simp only [e10, e4]
            rw [if_pos (by rfl)]
            exact wp_of_quiet (exec_load_at _ _ rfl _ _ rfl _ _ _ (hS.heap HB.out (fun h => h)) ((.int .i64 m1)) (by kernel_rfl) (fun _ => by kernel_rfl)) (hK.out _ _ rfl (After.lit rfl rfl rfl (by first | rfl | kernel_rfl)))
          · intro w5 hS hF hD K hK
            obtain ⟨e9, e11, e4, -⟩ := hF
            replace e9 : f 9 = _ := e9
            replace e11 : f 11 = _ := e11
            replace e4 : f 4 = _ := e4
            try simp only [e9, e11, e4]
            rw [if_pos (by rfl)]
            (have hm := HM.out); go_simp; refine hK.out _ _ rfl (After.lit rfl rfl rfl ?_); first | rfl | kernel_rfl
          · intro w5 hS hF hD K hK
            obtain ⟨e4, e12, -⟩ := hF
            replace e4 : f 4 = _ := e4
            replace e12 : f 12 = _ := e12
            try simp only [e4, e12]
            rw [if_pos (by rfl)]
            go_simp
            refine hK.out _ _ rfl (After.lit rfl rfl rfl ?_)
            first | rfl | kernel_rfl
          intro w5 hS hF
          obtain ⟨e13, -⟩ := hF
          replace e13 : f 13 = _ := e13
          try simp only [e13]
          simp only [List.drop_succ_cons, List.drop_zero]
          have HS := Lib.hid hS
          clear hS
          go_wp2_with fail
          go_meet
          case rel => exact ⟨k, rfl, hk, placeS_eq hk HLT.out (fun q hq => by rw [HP.out] at hq; cases hq; have := HM.out; omega), HS⟩
      · have hkn : k = ms.length := by omega
        subst hkn
        go_upto_region 2 with fail
        refine wp_region_relyT [] 14 (factOf [isV ((.int .i64 (ms.length : Int))), isV ((.slice A ms.length cap)), isV ((.int .i64 (ms.length : Int))), isV ((.bool false)), isV ((.bool false)), isV undef, isV undef, isV undef, isV undef, isV undef, isV undef, isV undef, isV undef, isV ((.bool false))]) (nth [[0], [1], [2], [3], [4], [5], [6], [7], [8], [9], [10], [11], [12], [13]]) (nth [[], [], [], [], [], [], [], [], [], [], [], [], [], []]) (nth [[], [], [1], [0, 2], [3], [4], [4], [4], [4], [4], [4], [4], [4], [4]]) [13] (fun w5 => Turn (fun _ => False) W w5) (by kernel_rfl) (by kernel_rfl) (HT.out.drew) (fun w w' h hb => h.trans (Turn.ofBelow (bs := fun _ => False) hb) (fun _ _ h => h.elim)) (GrowsAll.of ((GrowsAll.cons (Grows.isV _)  (GrowsAll.cons (Grows.isV _)  (GrowsAll.cons (Grows.isV _)  (GrowsAll.cons (Grows.isV _)  (GrowsAll.cons (Grows.isV _)  (GrowsAll.cons (Grows.isV _)  (GrowsAll.cons (Grows.isV _)  (GrowsAll.cons (Grows.isV _)  (GrowsAll.cons (Grows.isV _)  (GrowsAll.cons (Grows.isV _)  (GrowsAll.cons (Grows.isV _)  (GrowsAll.cons (Grows.isV _)  (GrowsAll.cons (Grows.isV _)  (GrowsAll.cons (Grows.isV _) GrowsAll.nil)))))))))))))))) (fun f F hF => ?_)
        simp only [List.take_succ_cons, List.take_zero, fullGo, Act.put, List.setIfInBounds_toArray, List.set_cons_zero, List.set_cons_succ, Nat.reduceAdd] at hF
        subst hF
        refine ⟨StepObsF.cons ?_ (StepObsF.cons ?_ (StepObsF.cons ?_ (StepObsF.cons ?_ (StepObsF.cons ?_ (StepObsF.cons ?_ (StepObsF.cons ?_ (StepObsF.cons ?_ (StepObsF.cons ?_ (StepObsF.cons ?_ (StepObsF.cons ?_ (StepObsF.cons ?_ (StepObsF.cons ?_ (StepObsF.cons ?_ (StepObsF.nil)))))))))))))), ?_⟩
        · intro w5 hS hF hD K hK
          rw [if_pos (by rfl)]
          refine wp_of_quiet (v := (.int .i64 (ms.length : Int))) (by (show _ = _); kernel_rfl) (hK.out _ _ rfl (After.lit rfl rfl rfl ?_))
          first | rfl | kernel_rfl
        · intro w5 hS hF hD K hK
          rw [if_pos (by rfl)]
          refine wp_of_quiet (v := (.slice A ms.length cap)) (by (show _ = _); kernel_rfl) (hK.out _ _ rfl (After.lit rfl rfl rfl ?_))
          first | rfl | kernel_rfl
        · intro w5 hS hF hD K hK
          obtain ⟨e1, -⟩ := hF
          replace e1 : f 1 = _ := e1
          try simp only [e1]
          rw [if_pos (by rfl)]
          go_simp
          refine hK.out _ _ rfl (After.lit rfl rfl rfl ?_)
          first | rfl | kernel_rfl
        · intro w5 hS hF hD K hK
          obtain ⟨e0, e2, -⟩ := hF
          replace e0 : f 0 = _ := e0
          replace e2 : f 2 = _ := e2
          try simp only [e0, e2]
          rw [if_pos (by rfl)]
          go_simp
          refine hK.out _ _ rfl (After.lit rfl rfl rfl ?_)
          first | rfl | kernel_rfl
        · intro w5 hS hF hD K hK
          obtain ⟨e3, -⟩ := hF
          replace e3 : f 3 = _ := e3
          try simp only [e3]
          rw [if_pos (by rfl)]
          refine wp_of_quiet (v := (.bool false)) (by (show _ = _); kernel_rfl) (hK.out _ _ rfl (After.lit rfl rfl rfl ?_))
          first | rfl | kernel_rfl
        · intro w5 hS hF hD K hK
          obtain ⟨e4, -⟩ := hF
          replace e4 : f 4 = _ := e4
          try simp only [e4]
          rw [if_neg (by (show ¬ (false = true)); exact Bool.false_ne_true)]
          exact hK.out _ _ rfl (After.lit rfl rfl rfl (by first | rfl | kernel_rfl))
        · intro w5 hS hF hD K hK
          obtain ⟨e4, -⟩ := hF
          replace e4 : f 4 = _ := e4
          try simp only [e4]
          rw [if_neg (by (show ¬ (false = true)); exact Bool.false_ne_true)]
          exact hK.out _ _ rfl (After.lit rfl rfl rfl (by first | rfl | kernel_rfl))
        · intro w5 hS hF hD K hK
          obtain ⟨e4, -⟩ := hF
          replace e4 : f 4 = _ := e4
          try simp only [e4]
          rw [if_neg (by (show ¬ (false = true)); exact Bool.false_ne_true)]
          exact hK.out _ _ rfl (After.lit rfl rfl rfl (by first | rfl | kernel_rfl))
        · intro w5 hS hF hD K hK
          obtain ⟨e4, -⟩ := hF
          replace e4 : f 4 = _ := e4
          try simp only [e4]
          rw [if_neg (by (show ¬ (false = true)); exact Bool.false_ne_true)]
          exact hK.out _ _ rfl (After.lit rfl rfl rfl (by first | rfl | kernel_rfl))
        · intro w5 hS hF hD K hK
          obtain ⟨e4, -⟩ := hF
          replace e4 : f 4 = _ := e4
          try simp only [e4]
          rw [if_neg (by (show ¬ (false = true)); exact Bool.false_ne_true)]
          exact hK.out _ _ rfl (After.lit rfl rfl rfl (by first | rfl | kernel_rfl))
        · intro w5 hS hF hD K hK
          obtain ⟨e4, -⟩ := hF
          replace e4 : f 4 = _ := e4
          try simp only [e4]
          rw [if_neg (by (show ¬ (false = true)); exact Bool.false_ne_true)]
          exact hK.out _ _ rfl (After.lit rfl rfl rfl (by first | rfl | kernel_rfl))
        · intro w5 hS hF hD K hK
          obtain ⟨e4, -⟩ := hF
          replace e4 : f 4 = _ := e4
          try simp only [e4]
          rw [if_neg (by (show ¬ (false = true)); exact Bool.false_ne_true)]
          exact hK.out _ _ rfl (After.lit rfl rfl rfl (by first | rfl | kernel_rfl))
        · intro w5 hS hF hD K hK
          obtain ⟨e4, -⟩ := hF
          replace e4 : f 4 = _ := e4
          try simp only [e4]
          rw [if_neg (by (show ¬ (false = true)); exact Bool.false_ne_true)]
          exact hK.out _ _ rfl (After.lit rfl rfl rfl (by first | rfl | kernel_rfl))
        · intro w5 hS hF hD K hK
          obtain ⟨e4, -⟩ := hF
          replace e4 : f 4 = _ := e4
          try simp only [e4]
          rw [if_pos (by rfl)]
          go_simp
          refine hK.out _ _ rfl (After.lit rfl rfl rfl ?_)
          first | rfl | kernel_rfl
        intro w5 hS hF
        obtain ⟨e13, -⟩ := hF
        replace e13 : f 13 = _ := e13
        try simp only [e13]
        simp only [List.drop_succ_cons, List.drop_zero]
        have HS := Lib.hid hS
        clear hS
        go_wp2_with fail
        go_meet
        case rel => exact ⟨ms.length, rfl, Nat.le_refl _, placeS_eq (Nat.le_refl _) HLT.out (fun q hq => by simp at hq), HS⟩
  case rest =>
    obtain ⟨k, rfl, hk, hpl, HT⟩ := hcut
    have HPL := Lib.hid hpl
    clear hpl
    go_upto_region 4 with fail
    go_cut [36] (fun s36 wx => ∃ b : Bool, s36 = .bool b ∧ Hid (b = true ↔ (ms[k]?).map (·.1) = some m1) ∧ Hid (Turn (fun _ => False) W wx))
    case first =>
      by_cases hlt : k < ms.length
      · obtain ⟨p, hp⟩ : ∃ p, ms[k]? = some p := ⟨ms[k], by simp [hlt]⟩
        obtain ⟨g, cur, rfl, hBg, hg, hcur⟩ := own_ptr HOW.out (by omega)
        have HG := Lib.hid hg
        have HC := Lib.hid (show cur[k * 2]? = some (.int .i64 p.1) by rw [hcur _ (by omega)]; exact (mv_at hp).1)
        have HP := Lib.hid hp
        clear hg hcur hp
        by_cases hm : p.1 = m1
        · have HM := Lib.hid hm
          clear hm
          refine wp_region_relyT [] 14 (factOf [isV ((.int .i64 (k : Int))), isV ((.slice (some ⟨g, 0, none⟩) ms.length cap)), isV ((.int .i64 (ms.length : Int))), isV ((.bool true)), isV ((.bool true)), isV ((.slice (some ⟨g, 0, none⟩) ms.length cap)), isV ((.int .i64 (k : Int))), isV ((.pointer (some ⟨g, k * 2, none⟩))), isV ((.pointer (some ⟨g, k * 2, none⟩))), isV ((.int .i64 m1)), isV ((.pointer (some ⟨w.heap.size, 0, none⟩))), isV ((.int .i64 m1)), isV ((.bool true)), isV ((.bool true))]) (nth [[0], [1], [2], [3], [4], [5], [6], [7], [8], [9], [10], [11], [12], [13]]) (nth [[], [], [], [], [], [], [], [], [], [], [], [], [], []]) (nth [[], [], [1], [0, 2], [3], [4], [4], [5, 6, 4], [7, 4], [8, 4], [4], [10, 4], [9, 11, 4], [4, 12]]) [13] (fun w5 => Turn (fun _ => False) W w5) (by kernel_rfl) (by kernel_rfl) (HT.out.drew) (fun w w' h hb => h.trans (Turn.ofBelow (bs := fun _ => False) hb) (fun _ _ h => h.elim)) (GrowsAll.of ((GrowsAll.cons (Grows.isV _)  (GrowsAll.cons (Grows.isV _)  (GrowsAll.cons (Grows.isV _)  (GrowsAll.cons (Grows.isV _)  (GrowsAll.cons (Grows.isV _)  (GrowsAll.cons (Grows.isV _)  (GrowsAll.cons (Grows.isV _)  (GrowsAll.cons (Grows.isV _)  (GrowsAll.cons (Grows.isV _)  (GrowsAll.cons (Grows.isV _)  (GrowsAll.cons (Grows.isV _)  (GrowsAll.cons (Grows.isV _)  (GrowsAll.cons (Grows.isV _)  (GrowsAll.cons (Grows.isV _) GrowsAll.nil)))))))))))))))) (fun f F hF => ?_)
          simp only [List.take_succ_cons, List.take_zero, fullGo, Act.put, List.setIfInBounds_toArray, List.set_cons_zero, List.set_cons_succ, Nat.reduceAdd] at hF
          subst hF
          refine ⟨StepObsF.cons ?_ (StepObsF.cons ?_ (StepObsF.cons ?_ (StepObsF.cons ?_ (StepObsF.cons ?_ (StepObsF.cons ?_ (StepObsF.cons ?_ (StepObsF.cons ?_ (StepObsF.cons ?_ (StepObsF.cons ?_ (StepObsF.cons ?_ (StepObsF.cons ?_ (StepObsF.cons ?_ (StepObsF.cons ?_ (StepObsF.nil)))))))))))))), ?_⟩
          · intro w5 hS hF hD K hK
            rw [if_pos (by rfl)]
            refine wp_of_quiet (v := (.int .i64 (k : Int))) (by (show _ = _); kernel_rfl) (hK.out _ _ rfl (After.lit rfl rfl rfl ?_))
            first | rfl | kernel_rfl
          · intro w5 hS hF hD K hK
            rw [if_pos (by rfl)]
            refine wp_of_quiet (v := (.slice (some ⟨g, 0, none⟩) ms.length cap)) (by (show _ = _); kernel_rfl) (hK.out _ _ rfl (After.lit rfl rfl rfl ?_))
            first | rfl | kernel_rfl
          · intro w5 hS hF hD K hK
            obtain ⟨e1, -⟩ := hF
            replace e1 : f 1 = _ := e1
            try simp only [e1]
            rw [if_pos (by rfl)]
            go_simp
            refine hK.out _ _ rfl (After.lit rfl rfl rfl ?_)
            first | rfl | kernel_rfl
          · intro w5 hS hF hD K hK
            obtain ⟨e0, e2, -⟩ := hF
            replace e0 : f 0 = _ := e0
            replace e2 : f 2 = _ := e2
            try simp only [e0, e2]
            rw [if_pos (by rfl)]
            go_simp
            refine hK.out _ _ rfl (After.lit rfl rfl rfl ?_)
            first | rfl | kernel_rfl
          · intro w5 hS hF hD K hK
            obtain ⟨e3, -⟩ := hF
            replace e3 : f 3 = _ := e3
            try simp only [e3]
            rw [if_pos (by rfl)]
            refine wp_of_quiet (v := (.bool true)) (by (show _ = _); kernel_rfl) (hK.out _ _ rfl (After.lit rfl rfl rfl ?_))
            first | rfl | kernel_rfl
          · intro w5 hS hF hD K hK
            obtain ⟨e4, -⟩ := hF
            replace e4 : f 4 = _ := e4
            try simp only [e4]
            rw [if_pos (by rfl)]
            refine wp_of_quiet (v := (.slice (some ⟨g, 0, none⟩) ms.length cap)) (by (show _ = _); kernel_rfl) (hK.out _ _ rfl (After.lit rfl rfl rfl ?_))
            first | rfl | kernel_rfl
          · intro w5 hS hF hD K hK
            obtain ⟨e4, -⟩ := hF
            replace e4 : f 4 = _ := e4
            try simp only [e4]
            rw [if_pos (by rfl)]
            refine wp_of_quiet (v := (.int .i64 (k : Int))) (by (show _ = _); kernel_rfl) (hK.out _ _ rfl (After.lit rfl rfl rfl ?_))
            first | rfl | kernel_rfl
          · intro w5 hS hF hD K hK
            obtain ⟨e5, e6, e4, -⟩ := hF
            replace e5 : f 5 = _ := e5
            replace e6 : f 6 = _ := e6
            replace e4 : f 4 = _ := e4
            try simp only [e5, e6, e4]
            rw [if_pos (by rfl)]
            go_simp
            refine hK.out _ _ rfl (After.lit rfl rfl rfl ?_)
            first | rfl | kernel_rfl
          · intro w5 hS hF hD K hK
            obtain ⟨e7, e4, -⟩ := hF
            replace e7 : f 7 = _ := e7
            replace e4 : f 4 = _ := e4
            try simp only [e7, e4]
            rw [if_pos (by rfl)]
            refine wp_of_quiet (v := (.pointer (some ⟨g, k * 2, none⟩))) (by (show _ = _); kernel_rfl) (hK.out _ _ rfl (After.lit rfl rfl rfl ?_))
            first | rfl | kernel_rfl
          · intro w5 hS hF hD K hK
            obtain ⟨e8, e4, -⟩ := hF
            replace e8 : f 8 = _ := e8
            replace e4 : f 4 = _ := e4
            try simp only [e8, e4]
            rw [if_pos (by rfl)]
            exact wp_of_quiet (exec_load_at _ _ rfl _ _ rfl _ _ _ (hS.heap HG.out (fun h => h)) ((.int .i64 m1)) ((by rw [HC.out, HM.out])) (fun _ => by kernel_rfl)) (hK.out _ _ rfl (After.lit rfl rfl rfl (by first | rfl | kernel_rfl)))
          · intro w5 hS hF hD K hK
            obtain ⟨e4, -⟩ := hF
            replace e4 : f 4 = _ := e4
            try simp only [e4]
            rw [if_pos (by rfl)]
            refine wp_of_quiet (v := (.pointer (some ⟨w.heap.size, 0, none⟩))) (by (show _ = _); kernel_rfl) (hK.out _ _ rfl (After.lit rfl rfl rfl ?_))
            first | rfl | kernel_rfl
          · intro w5 hS hF hD K hK
            obtain ⟨e10, e4, -⟩ := hF
            replace e10 : f 10 = _ := e10
            replace e4 : f 4 = _ := e4
            try simp only [e10, e4]
            rw [if_pos (by rfl)]
            exact wp_of_quiet (exec_load_at _ _ rfl _ _ rfl _ _ _ (hS.heap HB.out (fun h => h)) ((.int .i64 m1)) (by kernel_rfl) (fun _ => by kernel_rfl)) (hK.out _ _ rfl (After.lit rfl rfl rfl (by first | rfl | kernel_rfl)))
          · intro w5 hS hF hD K hK
            obtain ⟨e9, e11, e4, -⟩ := hF
            replace e9 : f 9 = _ := e9
            replace e11 : f 11 = _ := e11
            replace e4 : f 4 = _ := e4
            try simp only [e9, e11, e4]
            rw [if_pos (by rfl)]
            go_simp
            refine hK.out _ _ rfl (After.lit rfl rfl rfl ?_)
            first | rfl | kernel_rfl
          · intro w5 hS hF hD K hK
            obtain ⟨e4, e12, -⟩ := hF
            replace e4 : f 4 = _ := e4
            replace e12 : f 12 = _ := e12
            try simp only [e4, e12]
            rw [if_pos (by rfl)]
            go_simp
            refine hK.out _ _ rfl (After.lit rfl rfl rfl ?_)
            first | rfl | kernel_rfl
          intro w5 hS hF
          obtain ⟨e13, -⟩ := hF
          replace e13 : f 13 = _ := e13
          try simp only [e13]
          simp only [List.drop_succ_cons, List.drop_zero]
          have HS := Lib.hid hS
          clear hS
          go_wp2_with fail
          go_meet
          case rel => exact ⟨true, rfl, Lib.hid (by rw [HP.out, ← HM.out]; simp), HS⟩
        · have hme : (p.1 == m1) = false := by simpa using hm
          have HME := Lib.hid hme
          have HM := Lib.hid hm
          clear hm hme
          refine wp_region_relyT [] 14 (factOf [isV ((.int .i64 (k : Int))), isV ((.slice (some ⟨g, 0, none⟩) ms.length cap)), isV ((.int .i64 (ms.length : Int))), isV ((.bool true)), isV ((.bool true)), isV ((.slice (some ⟨g, 0, none⟩) ms.length cap)), isV ((.int .i64 (k : Int))), isV ((.pointer (some ⟨g, k * 2, none⟩))), isV ((.pointer (some ⟨g, k * 2, none⟩))), isV ((.int .i64 p.1)), isV ((.pointer (some ⟨w.heap.size, 0, none⟩))), isV ((.int .i64 m1)), isV ((.bool false)), isV ((.bool false))]) (nth [[0], [1], [2], [3], [4], [5], [6], [7], [8], [9], [10], [11], [12], [13]]) (nth [[], [], [], [], [], [], [], [], [], [], [], [], [], []]) (nth [[], [], [1], [0, 2], [3], [4], [4], [5, 6, 4], [7, 4], [8, 4], [4], [10, 4], [9, 11, 4], [4, 12]]) [13] (fun w5 => Turn (fun _ => False) W w5) (by kernel_rfl) (by kernel_rfl) (HT.out.drew) (fun w w' h hb => h.trans (Turn.ofBelow (bs := fun _ => False) hb) (fun _ _ h => h.elim)) (GrowsAll.of ((GrowsAll.cons (Grows.isV _)  (GrowsAll.cons (Grows.isV _)  (GrowsAll.cons (Grows.isV _)  (GrowsAll.cons (Grows.isV _)  (GrowsAll.cons (Grows.isV _)  (GrowsAll.cons (Grows.isV _)  (GrowsAll.cons (Grows.isV _)  (GrowsAll.cons (Grows.isV _)  (GrowsAll.cons (Grows.isV _)  (GrowsAll.cons (Grows.isV _)  (GrowsAll.cons (Grows.isV _)  (GrowsAll.cons (Grows.isV _)  (GrowsAll.cons (Grows.isV _)  (GrowsAll.cons (Grows.isV _) GrowsAll.nil)))))))))))))))) (fun f F hF => ?_)
          simp only [List.take_succ_cons, List.take_zero, fullGo, Act.put, List.setIfInBounds_toArray, List.set_cons_zero, List.set_cons_succ, Nat.reduceAdd] at hF
          subst hF
          refine ⟨StepObsF.cons ?_ (StepObsF.cons ?_ (StepObsF.cons ?_ (StepObsF.cons ?_ (StepObsF.cons ?_ (StepObsF.cons ?_ (StepObsF.cons ?_ (StepObsF.cons ?_ (StepObsF.cons ?_ (StepObsF.cons ?_ (StepObsF.cons ?_ (StepObsF.cons ?_ (StepObsF.cons ?_ (StepObsF.cons ?_ (StepObsF.nil)))))))))))))), ?_⟩
          · intro w5 hS hF hD K hK
            rw [if_pos (by rfl)]
            refine wp_of_quiet (v := (.int .i64 (k : Int))) (by (show _ = _); kernel_rfl) (hK.out _ _ rfl (After.lit rfl rfl rfl ?_))
            first | rfl | kernel_rfl
          · intro w5 hS hF hD K hK
            rw [if_pos (by rfl)]
            refine wp_of_quiet (v := (.slice (some ⟨g, 0, none⟩) ms.length cap)) (by (show _ = _); kernel_rfl) (hK.out _ _ rfl (After.lit rfl rfl rfl ?_))
            first | rfl | kernel_rfl
          · intro w5 hS hF hD K hK
            obtain ⟨e1, -⟩ := hF
            replace e1 : f 1 = _ := e1
            try simp only [e1]
            rw [if_pos (by rfl)]
            go_simp
            refine hK.out _ _ rfl (After.lit rfl rfl rfl ?_)
            first | rfl | kernel_rfl
          · intro w5 hS hF hD K hK
            obtain ⟨e0, e2, -⟩ := hF
            replace e0 : f 0 = _ := e0
            replace e2 : f 2 = _ := e2
            try simp only [e0, e2]
            rw [if_pos (by rfl)]
            go_simp
            refine hK.out _ _ rfl (After.lit rfl rfl rfl ?_)
            first | rfl | kernel_rfl
          · intro w5 hS hF hD K hK
            obtain ⟨e3, -⟩ := hF
            replace e3 : f 3 = _ := e3
            try simp only [e3]
            rw [if_pos (by rfl)]
            refine wp_of_quiet (v := (.bool true)) (by (show _ = _); kernel_rfl) (hK.out _ _ rfl (After.lit rfl rfl rfl ?_))
            first | rfl | kernel_rfl
          · intro w5 hS hF hD K hK
            obtain ⟨e4, -⟩ := hF
            replace e4 : f 4 = _ := e4
            try simp only [e4]
            rw [if_pos (by rfl)]
            refine wp_of_quiet (v := (.slice (some ⟨g, 0, none⟩) ms.length cap)) (by (show _ = _); kernel_rfl) (hK.out _ _ rfl (After.lit rfl rfl rfl ?_))
            first | rfl | kernel_rfl
          · intro w5 hS hF hD K hK
            obtain ⟨e4, -⟩ := hF
            replace e4 : f 4 = _ := e4
            try simp only [e4]
            rw [if_pos (by rfl)]
            refine wp_of_quiet (v := (.int .i64 (k : Int))) (by (show _ = _); kernel_rfl) (hK.out _ _ rfl (After.lit rfl rfl rfl ?_))
            first | rfl | kernel_rfl
          · intro w5 hS hF hD K hK
            obtain ⟨e5, e6, e4, -⟩ := hF
            replace e5 : f 5 = _ := e5
            replace e6 : f 6 = _ := e6
            replace e4 : f 4 = _ := e4
            try simp only [e5, e6, e4]
            rw [if_pos (by rfl)]
            go_simp
            refine hK.out _ _ rfl (After.lit rfl rfl rfl ?_)
            first | rfl | kernel_rfl
          · intro w5 hS hF hD K hK
            obtain ⟨e7, e4, -⟩ := hF
            replace e7 : f 7 = _ := e7
            replace e4 : f 4 = _ := e4
            try simp only [e7, e4]
            rw [if_pos (by rfl)]
            refine wp_of_quiet (v := (.pointer (some ⟨g, k * 2, none⟩))) (by (show _ = _); kernel_rfl) (hK.out _ _ rfl (After.lit rfl rfl rfl ?_))
            first | rfl | kernel_rfl
          · intro w5 hS hF hD K hK
            obtain ⟨e8, e4, -⟩ := hF
            replace e8 : f 8 = _ := e8
            replace e4 : f 4 = _ := e4
            try simp only [e8, e4]
            rw [if_pos (by rfl)]
            exact wp_of_quiet (exec_load_at _ _ rfl _ _ rfl _ _ _ (hS.heap HG.out (fun h => h)) ((.int .i64 p.1)) (HC.out) (fun _ => by kernel_rfl)) (hK.out _ _ rfl (After.lit rfl rfl rfl (by first | rfl | kernel_rfl)))
          · intro w5 hS hF hD K hK
            obtain ⟨e4, -⟩ := hF
            replace e4 : f 4 = _ := e4
            try simp only [e4]
            rw [if_pos (by rfl)]
            refine wp_of_quiet (v := (.pointer (some ⟨w.heap.size, 0, none⟩))) (by (show _ = _); kernel_rfl) (hK.out _ _ rfl (After.lit rfl rfl rfl ?_))
            first | rfl | kernel_rfl
          · intro w5 hS hF hD K hK
            obtain ⟨e10, e4, -⟩ := hF
            replace e10 : f 10 = _ := e10
            replace e4 : f 4 = _ := e4
            try simp only [e10, e4]
            rw [if_pos (by rfl)]
            exact wp_of_quiet (exec_load_at _ _ rfl _ _ rfl _ _ _ (hS.heap HB.out (fun h => h)) ((.int .i64 m1)) (by kernel_rfl) (fun _ => by kernel_rfl)) (hK.out _ _ rfl (After.lit rfl rfl rfl (by first | rfl | kernel_rfl)))
          · intro w5 hS hF hD K hK
            obtain ⟨e9, e11, e4, -⟩ := hF
            replace e9 : f 9 = _ := e9
            replace e11 : f 11 = _ := e11
            replace e4 : f 4 = _ := e4
            try simp only [e9, e11, e4]
            rw [if_pos (by rfl)]
            (have hme := HME.out); go_simp; refine hK.out _ _ rfl (After.lit rfl rfl rfl ?_); first | rfl | kernel_rfl
          · intro w5 hS hF hD K hK
            obtain ⟨e4, e12, -⟩ := hF
            replace e4 : f 4 = _ := e4
            replace e12 : f 12 = _ := e12
            try simp only [e4, e12]
            rw [if_pos (by rfl)]
            go_simp
            refine hK.out _ _ rfl (After.lit rfl rfl rfl ?_)
            first | rfl | kernel_rfl
          intro w5 hS hF
          obtain ⟨e13, -⟩ := hF
          replace e13 : f 13 = _ := e13
          try simp only [e13]
          simp only [List.drop_succ_cons, List.drop_zero]
          have HS := Lib.hid hS
          clear hS
          go_wp2_with fail
          go_meet
          case rel => exact ⟨false, rfl, Lib.hid (by rw [HP.out]; simp [HM.out]), HS⟩
      · have hkn : k = ms.length := by omega
        subst hkn
        refine wp_region_relyT [] 14 (factOf [isV ((.int .i64 (ms.length : Int))), isV ((.slice A ms.length cap)), isV ((.int .i64 (ms.length : Int))), isV ((.bool false)), isV ((.bool false)), isV undef, isV undef, isV undef, isV undef, isV undef, isV undef, isV undef, isV undef, isV ((.bool false))]) (nth [[0], [1], [2], [3], [4], [5], [6], [7], [8], [9], [10], [11], [12], [13]]) (nth [[], [], [], [], [], [], [], [], [], [], [], [], [], []]) (nth [[], [], [1], [0, 2], [3], [4], [4], [4], [4], [4], [4], [4], [4], [4]]) [13] (fun w5 => Turn (fun _ => False) W w5) (by kernel_rfl) (by kernel_rfl) (HT.out.drew) (fun w w' h hb => h.trans (Turn.ofBelow (bs := fun _ => False) hb) (fun _ _ h => h.elim)) (GrowsAll.of ((GrowsAll.cons (Grows.isV _)  (GrowsAll.cons (Grows.isV _)  (GrowsAll.cons (Grows.isV _)  (GrowsAll.cons (Grows.isV _)  (GrowsAll.cons (Grows.isV _)  (GrowsAll.cons (Grows.isV _)  (GrowsAll.cons (Grows.isV _)  (GrowsAll.cons (Grows.isV _)  (GrowsAll.cons (Grows.isV _)  (GrowsAll.cons (Grows.isV _)  (GrowsAll.cons (Grows.isV _)  (GrowsAll.cons (Grows.isV _)  (GrowsAll.cons (Grows.isV _)  (GrowsAll.cons (Grows.isV _) GrowsAll.nil)))))))))))))))) (fun f F hF => ?_)
        simp only [List.take_succ_cons, List.take_zero, fullGo, Act.put, List.setIfInBounds_toArray, List.set_cons_zero, List.set_cons_succ, Nat.reduceAdd] at hF
        subst hF
        refine ⟨StepObsF.cons ?_ (StepObsF.cons ?_ (StepObsF.cons ?_ (StepObsF.cons ?_ (StepObsF.cons ?_ (StepObsF.cons ?_ (StepObsF.cons ?_ (StepObsF.cons ?_ (StepObsF.cons ?_ (StepObsF.cons ?_ (StepObsF.cons ?_ (StepObsF.cons ?_ (StepObsF.cons ?_ (StepObsF.cons ?_ (StepObsF.nil)))))))))))))), ?_⟩
        · intro w5 hS hF hD K hK
          rw [if_pos (by rfl)]
          refine wp_of_quiet (v := (.int .i64 (ms.length : Int))) (by (show _ = _); kernel_rfl) (hK.out _ _ rfl (After.lit rfl rfl rfl ?_))
          first | rfl | kernel_rfl
        · intro w5 hS hF hD K hK
          rw [if_pos (by rfl)]
          refine wp_of_quiet (v := (.slice A ms.length cap)) (by (show _ = _); kernel_rfl) (hK.out _ _ rfl (After.lit rfl rfl rfl ?_))
          first | rfl | kernel_rfl
        · intro w5 hS hF hD K hK
          obtain ⟨e1, -⟩ := hF
          replace e1 : f 1 = _ := e1
          try simp only [e1]
          rw [if_pos (by rfl)]
          go_simp
          refine hK.out _ _ rfl (After.lit rfl rfl rfl ?_)
          first | rfl | kernel_rfl
        · intro w5 hS hF hD K hK
          obtain ⟨e0, e2, -⟩ := hF
          replace e0 : f 0 = _ := e0
          replace e2 : f 2 = _ := e2
          try simp only [e0, e2]
          rw [if_pos (by rfl)]
          go_simp
          refine hK.out _ _ rfl (After.lit rfl rfl rfl ?_)
          first | rfl | kernel_rfl
        · intro w5 hS hF hD K hK
          obtain ⟨e3, -⟩ := hF
          replace e3 : f 3 = _ := e3
          try simp only [e3]
          rw [if_pos (by rfl)]
          refine wp_of_quiet (v := (.bool false)) (by (show _ = _); kernel_rfl) (hK.out _ _ rfl (After.lit rfl rfl rfl ?_))
          first | rfl | kernel_rfl
        · intro w5 hS hF hD K hK
          obtain ⟨e4, -⟩ := hF
          replace e4 : f 4 = _ := e4
          try simp only [e4]
          rw [if_neg (by (show ¬ (false = true)); exact Bool.false_ne_true)]
          exact hK.out _ _ rfl (After.lit rfl rfl rfl (by first | rfl | kernel_rfl))
        · intro w5 hS hF hD K hK
          obtain ⟨e4, -⟩ := hF
          replace e4 : f 4 = _ := e4
          try simp only [e4]
          rw [if_neg (by (show ¬ (false = true)); exact Bool.false_ne_true)]
          exact hK.out _ _ rfl (After.lit rfl rfl rfl (by first | rfl | kernel_rfl))
        · intro w5 hS hF hD K hK
          obtain ⟨e4, -⟩ := hF
          replace e4 : f 4 = _ := e4
          try simp only [e4]
          rw [if_neg (by (show ¬ (false = true)); exact Bool.false_ne_true)]
          exact hK.out _ _ rfl (After.lit rfl rfl rfl (by first | rfl | kernel_rfl))
        · intro w5 hS hF hD K hK
          obtain ⟨e4, -⟩ := hF
          replace e4 : f 4 = _ := e4
          try simp only [e4]
          rw [if_neg (by (show ¬ (false = true)); exact Bool.false_ne_true)]
          exact hK.out _ _ rfl (After.lit rfl rfl rfl (by first | rfl | kernel_rfl))
        · intro w5 hS hF hD K hK
          obtain ⟨e4, -⟩ := hF
          replace e4 : f 4 = _ := e4
          try simp only [e4]
          rw [if_neg (by (show ¬ (false = true)); exact Bool.false_ne_true)]
          exact hK.out _ _ rfl (After.lit rfl rfl rfl (by first | rfl | kernel_rfl))
        · intro w5 hS hF hD K hK
          obtain ⟨e4, -⟩ := hF
          replace e4 : f 4 = _ := e4
          try simp only [e4]
          rw [if_neg (by (show ¬ (false = true)); exact Bool.false_ne_true)]
          exact hK.out _ _ rfl (After.lit rfl rfl rfl (by first | rfl | kernel_rfl))
        · intro w5 hS hF hD K hK
          obtain ⟨e4, -⟩ := hF
          replace e4 : f 4 = _ := e4
          try simp only [e4]
          rw [if_neg (by (show ¬ (false = true)); exact Bool.false_ne_true)]
          exact hK.out _ _ rfl (After.lit rfl rfl rfl (by first | rfl | kernel_rfl))
        · intro w5 hS hF hD K hK
          obtain ⟨e4, -⟩ := hF
          replace e4 : f 4 = _ := e4
          try simp only [e4]
          rw [if_neg (by (show ¬ (false = true)); exact Bool.false_ne_true)]
          exact hK.out _ _ rfl (After.lit rfl rfl rfl (by first | rfl | kernel_rfl))
        · intro w5 hS hF hD K hK
          obtain ⟨e4, -⟩ := hF
          replace e4 : f 4 = _ := e4
          try simp only [e4]
          rw [if_pos (by rfl)]
          go_simp
          refine hK.out _ _ rfl (After.lit rfl rfl rfl ?_)
          first | rfl | kernel_rfl
        intro w5 hS hF
        obtain ⟨e13, -⟩ := hF
        replace e13 : f 13 = _ := e13
        try simp only [e13]
        simp only [List.drop_succ_cons, List.drop_zero]
        have HS := Lib.hid hS
        clear hS
        go_wp2_with fail
        go_meet
        case rel => exact ⟨false, rfl, Lib.hid (by simp), HS⟩
    case rest =>
      obtain ⟨b, rfl, HBB, HT2⟩ := hcut
      clear HT
      cases b
      · have hnot : ¬ (ms[k]?).map (·.1) = some m1 := fun h => by have h9 := HBB.out.2 h; cases h9
        have HNOT := Lib.hid hnot
        have hsrc := own_tail (own_turn HOW.out HT2.out (fun _ _ h => h)) hk hcn
        rw [mv_drop] at hsrc
        have HSRC := Lib.hid hsrc
        clear hnot hsrc
        go_upto_region 6 with fail
        go_cut [6] (fun s6 wx => ∃ v6, s6 = v6 ∧ Hid (wx.ownsRow W.heap.size 46 2 v6 (ms.length - k) (mv (ms.drop k))) ∧ Hid (Turn (fun _ => False) W wx))
        case first =>
          rcases own_form HOW.out with ⟨rfl, rfl, h2⟩ | ⟨g, rfl, hgB⟩
          · have hk0 : k ≤ 0 := by omega
            have hm0 : ms.length ≤ 0 := by omega
            have HH2 := Lib.hid h2
            clear h2
            go_wp2_with (at_builtin; refine wpList_append_src _ rfl (.tmp 38) (.tmp 41) 42 rfl W.heap.size 46 j0 (.agg #[.int .i64 0, .int .i64 0]) 2 16 Tryd.underlying42 hj hy0 hy1 hy2 rfl (by decide) (.slice (some ⟨wc.heap.size, 0, none⟩) 0 0) 0 [] rfl (own_empty wc _ _ _ HT2.out.size) none (ms.length - k) 0 (fun _ => rfl) (mv (ms.drop k)) rfl (by have e9 : ms = [] := List.eq_nil_of_length_eq_zero HH2.out; rw [e9]; exact ⟨by simp [mv], fun h => absurd h (by simp)⟩) (mv_one _) (by unfold maxLen; omega) (by omega) (Nat.le_trans HT2.out.size (by simp)) ?_; intro v6 w6 hown6 hgrow6 hat6)
            have hsl := own_slice hown6
            go_meet
            case rel =>
              refine ⟨v6, rfl, Lib.hid (by rw [Nat.zero_add, List.nil_append] at hown6; exact hown6), Lib.hid (HT2.out.trans (((Turn.refl (fun k => W.heap.size ≤ k) wc).alloc _).grown hgrow6 (fun k e h => by simp only [Value.ownBlock, Option.some.injEq] at e; subst e; exact HT2.out.size)) (fun k hk h => by omega))⟩
          · by_cases hck : cap = k
            · have hck' := hck.symm
              subst hck'
              go_wp2_with (at_builtin; refine wpList_append_src _ rfl (.tmp 38) (.tmp 41) 42 rfl W.heap.size 46 j0 (.agg #[.int .i64 0, .int .i64 0]) 2 16 Tryd.underlying42 hj hy0 hy1 hy2 rfl (by decide) (.slice (some ⟨wc.heap.size, 0, none⟩) 0 0) 0 [] rfl (own_empty wc _ _ _ HT2.out.size) (some ⟨g, 0, none⟩) 0 0 (fun h => by cases h) (mv (ms.drop k)) rfl (by rw [List.drop_of_length_le (by omega)]; exact ⟨rfl, fun h => absurd h (by omega)⟩) (mv_one _) (by unfold maxLen; omega) (by omega) (Nat.le_trans HT2.out.size (by simp)) ?_; intro v6 w6 hown6 hgrow6 hat6)
              have hsl := own_slice hown6
              go_meet
              case rel =>
                refine ⟨v6, rfl, Lib.hid (by have e9 : ms.length - k = 0 := (by omega); rw [e9]; rw [Nat.zero_add, List.nil_append] at hown6; exact hown6), Lib.hid (HT2.out.trans (((Turn.refl (fun k => W.heap.size ≤ k) wc).alloc _).grown hgrow6 (fun k e h => by simp only [Value.ownBlock, Option.some.injEq] at e; subst e; exact HT2.out.size)) (fun k hk h => by omega))⟩
            · go_wp2_with (at_builtin; refine wpList_append_src _ rfl (.tmp 38) (.tmp 41) 42 rfl W.heap.size 46 j0 (.agg #[.int .i64 0, .int .i64 0]) 2 16 Tryd.underlying42 hj hy0 hy1 hy2 rfl (by decide) (.slice (some ⟨wc.heap.size, 0, none⟩) 0 0) 0 [] rfl (own_empty wc _ _ _ HT2.out.size) (some ⟨g, k * 2, none⟩) (ms.length - k) (cap - k) (fun h => by cases h) (mv (ms.drop k)) rfl (by have h9 := HSRC.out; rw [if_neg hck] at h9; have h8 := h9.turn ((Turn.refl (fun _ => False) wc).alloc (.cells #[] 46)) (fun _ _ h => h); simpa [Addr.add_lit] using h8) (mv_one _) (by unfold maxLen; omega) (by omega) (Nat.le_trans HT2.out.size (by simp)) ?_; intro v6 w6 hown6 hgrow6 hat6)
              have hsl := own_slice hown6
              go_meet
              case rel =>
                refine ⟨v6, rfl, Lib.hid (by rw [Nat.zero_add, List.nil_append] at hown6; exact hown6), Lib.hid (HT2.out.trans (((Turn.refl (fun k => W.heap.size ≤ k) wc).alloc _).grown hgrow6 (fun k e h => by simp only [Value.ownBlock, Option.some.injEq] at e; subst e; exact HT2.out.size)) (fun k hk h => by omega))⟩
        case rest =>
          clear HSRC HT2
          obtain ⟨v6, rfl, HO6, HT6⟩ := hcut
          obtain ⟨A6, c6, rfl⟩ := own_slice HO6.out
          have hc6 : A6 = none → c6 = 0 := fun e => by
            rcases own_form HO6.out with ⟨-, h, -⟩ | ⟨g, h, -⟩
            · exact h
            · rw [e] at h; cases h
          have HC6 := Lib.hid hc6
          have hown : wc.ownsRow B 46 2 (.slice A ms.length cap) ms.length (mv ms) := own_turn HOW.out HT6.out (fun _ _ h => h)
          have HOC := Lib.hid (fun (w5 : World) (t : Turn (fun _ => False) wc w5) => by have h9 := own_cut (own_turn hown t (fun _ _ h => h)) hk; rw [mv_take] at h9; exact h9)
          have hlbw : ∀ g, (Value.slice A ms.length cap).ownBlock = some g → g < W.heap.size := fun g hg => by have := HLB.out g hg; have := HWS.out; omega
          have HLW := Lib.hid hlbw
          have hsw : W.heap.size ≤ wc.heap.size := HT6.out.size
          clear hc6 hown hlbw
          have hbxc := Lib.hid (HT6.out.heap HB.out (fun h => h))
          have hkc : k ≤ cap := by omega
          go_upto_region 7 with fail
          refine wp_region_relyU 0 _ (.slice A ms.length cap) [] 8 (factOf [isVs [(.slice A ms.length cap)] ((fun w5 => Turn (fun _ => False) wc w5)), isV ((.int .i64 (k : Int))), isV ((.slice A k cap)), isV ((.agg #[.int .i64 m1, .int .i64 m2])), isVT ((fun g => (Value.slice A ms.length cap).ownBlock = some g)) (OneM W.heap.size (m1, m2)), isVT ((fun _ => False)) (AppM B wc.heap.size (.slice A ms.length cap) (ms.take k ++ [(m1, m2)])), isV ((.slice A6 (ms.length - k) c6)), isVT ((fun _ => False)) (AppM B wc.heap.size (.slice A ms.length cap) (ms.take k ++ [(m1, m2)] ++ ms.drop k))]) (nth [[0], [1], [2], [3], [4], [5], [6], [7]]) (nth [[], [], [], [], [], [0, 7], [], [0, 4, 5]]) (nth [[], [], [0, 1], [], [3], [0, 2, 4], [], [5, 6]]) [7] (fun w5 => Turn (fun g => (Value.slice A ms.length cap).ownBlock = some g) wc w5) (by kernel_rfl) (by kernel_rfl) rfl (by kernel_rfl) (by kernel_rfl) (by kernel_rfl) (fun _ _ _ h => h) ⟨by rfl, fun w => by rfl⟩ (⟨by rfl, (Turn.refl _ _).drew⟩) ((Turn.refl _ _).drew) (fun w w' h hb => h.trans (Turn.ofBelow (bs := fun _ => False) hb) (fun _ _ h => h.elim)) (GrowsAll.of ((GrowsAll.cons (Grows.isVs _ (fun w w' h hb => h.trans (Turn.ofBelow (bs := fun _ => False) hb) (fun _ _ h => h.elim)))  (GrowsAll.cons (Grows.isV _)  (GrowsAll.cons (Grows.isV _)  (GrowsAll.cons (Grows.isV _)  (GrowsAll.cons (Grows.isVT _ _)  (GrowsAll.cons (Grows.isVT _ _)  (GrowsAll.cons (Grows.isV _)  (GrowsAll.cons (Grows.isVT _ _) GrowsAll.nil)))))))))) (fun f F hF => ?_)
          simp only [List.take_succ_cons, List.take_zero, fullGo, Act.put, List.setIfInBounds_toArray, List.set_cons_zero, List.set_cons_succ, Nat.reduceAdd] at hF
          subst hF
          refine ⟨StepObsF.skip (by rfl) (StepObsF.cons ?_ (StepObsF.cons ?_ (StepObsF.cons ?_ (StepObsF.cons ?_ (StepObsF.cons ?_ (StepObsF.cons ?_ (StepObsF.cons ?_ (StepObsF.nil)))))))), ?_⟩
          · intro w5 hS hF hD K hK
            rw [if_pos (by rfl)]
            refine wp_of_quiet (v := (.int .i64 (k : Int))) (by (show _ = _); kernel_rfl) (hK.out _ _ rfl (After.lit rfl rfl rfl ?_))
            first | rfl | kernel_rfl
          · intro w5 hS hF hD K hK
            obtain ⟨e0, e1, -⟩ := hF
            obtain ⟨e0, p0⟩ := e0
            replace e0 : [f 0] = _ := e0
            simp only [List.cons.injEq, and_true] at e0
            have q0_0 := e0
            replace e1 : f 1 = _ := e1
            try simp only [q0_0, e1]
            rw [if_pos (by rfl)]
            go_simp
            refine hK.out _ _ rfl (After.lit rfl rfl rfl ?_)
            first | rfl | kernel_rfl
          · intro w5 hS hF hD K hK
            rw [if_pos (by rfl)]
            exact wp_load_rowB _ _ rfl _ rfl _ _ _ (hS.heap hbxc.out (fun e => by have := HLB.out _ e; omega)) (by kernel_rfl) (hK.out _ _ rfl (After.lit rfl rfl rfl (by first | rfl | kernel_rfl)))
          · intro w5 hS hF hD K hK
            obtain ⟨e3, -⟩ := hF
            replace e3 : f 3 = _ := e3
            try simp only [e3]
            rw [if_pos (by rfl)]
            go_simp
            exact hK.out _ _ rfl (After.litD rfl rfl rfl rfl ((by simp)) (hS.alloc _) (StaysE.isVs ((fun h => h.alloc _)) (StaysE.isV (StaysE.isV (StaysE.isV (StaysE.out (by rfl) (StaysE.isVT ((Turn.refl _ _).alloc _) (StaysE.isV (StaysE.isVT ((Turn.refl _ _).alloc _) StaysE.nil)))))))) (⟨_, rfl, Nat.le_trans hsw hS.size, heap_alloc_new _ _⟩))
          · intro w5 hS hF hD K hK
            obtain ⟨e0, e2, e4, -⟩ := hF
            obtain ⟨e0, p0⟩ := e0
            replace e0 : [f 0] = _ := e0
            simp only [List.cons.injEq, and_true] at e0
            have q0_0 := e0
            replace e2 : f 2 = _ := e2
            obtain ⟨y4, p4, t4⟩ := e4
            try simp only [q0_0, e2]
            rw [if_pos (by rfl)]
            obtain ⟨ad, e4', hs4⟩ := p4.src t4 (fun g hg e => by have := HLW.out g e; omega); refine wp_append_src _ (.tmp 45) (.tmp 47) 42 rfl B 46 j0 (.agg #[.int .i64 0, .int .i64 0]) 2 16 Tryd.underlying42 hj hy0 hy1 hy2 rfl (by decide) (.slice A k cap) k (mv (ms.take k)) rfl (HOC.out _ p0) (some ad) 1 1 (fun h => by cases h) [.int .i64 m1, .int .i64 m2] e4' hs4 (by intro u hu; simp at hu; rcases hu with rfl | rfl <;> rfl) (by unfold maxLen; omega) (by omega) (Nat.le_trans hB (by have := HWS.out; have := hS.size; omega)) ?_; intro v5 w6 hown5 hgr hat
            exact hK.out _ _ rfl (After.litD rfl rfl rfl rfl (hgr.size) (hS.grown hgr (fun g e _ => own_blk.trans e)) (StaysE.out (by rfl) (StaysE.isV (StaysE.isV (StaysE.isV (StaysE.isVT ((Turn.refl _ _).grown hgr (fun g e _ => own_blk.trans e)) (StaysE.out (by rfl) (StaysE.isV (StaysE.out (by rfl) StaysE.nil)))))))) (⟨by rw [List.length_append, List.length_take, Nat.min_eq_left hk, mv_snoc]; exact hown5, fun g (hg : v5.ownBlock = some g) => by rcases hat with e | e; exact .inl (own_blk.trans (e.symm.trans hg)); rw [e] at hg; simp at hg; right; have := hS.size; omega⟩))
          · intro w5 hS hF hD K hK
            rw [if_pos (by rfl)]
            refine wp_of_quiet (v := (.slice A6 (ms.length - k) c6)) (by (show _ = _); kernel_rfl) (hK.out _ _ rfl (After.lit rfl rfl rfl ?_))
            first | rfl | kernel_rfl
          · intro w5 hS hF hD K hK
            obtain ⟨e5, e6, -⟩ := hF
            obtain ⟨y5, p5, t5⟩ := e5
            replace e6 : f 6 = _ := e6
            try simp only [e6]
            rw [if_pos (by rfl)]
            refine wp_append_src _ (.tmp 48) (.tmp 49) 42 rfl B 46 j0 (.agg #[.int .i64 0, .int .i64 0]) 2 16 Tryd.underlying42 hj hy0 hy1 hy2 rfl (by decide) (f 5) _ _ rfl (own_turn p5.1 t5 (fun _ _ h => h)) A6 (ms.length - k) c6 HC6.out (mv (ms.drop k)) rfl ((own_src HO6.out).turn hS (fun ad e h => by have h8 := (own_cells HO6.out ad.block (by rw [e]; rfl)).1; have := HLW.out _ h; omega)) (mv_one _) (by unfold maxLen; simp; omega) (by simp; omega) (Nat.le_trans hB (by have := HWS.out; have := hS.size; omega)) ?_; intro v5 w6 hown5 hgr hat
            exact hK.out _ _ rfl (After.litD rfl rfl rfl rfl (hgr.size) (hS.grown hgr (fun g e hlt => by rcases p5.2 g e with h | h; exact h; omega)) (StaysE.out (by rfl) (StaysE.isV (StaysE.isV (StaysE.isV (StaysE.out (by rfl) (StaysE.out (by rfl) (StaysE.isV (StaysE.out (by rfl) StaysE.nil)))))))) (⟨by have e9 : (ms.take k ++ [(m1, m2)] ++ ms.drop k).length = (ms.take k ++ [(m1, m2)]).length + (ms.length - k) := (by rw [List.length_append, List.length_drop]); rw [e9, mv_append]; exact hown5, fun g (hg : v5.ownBlock = some g) => by rcases hat with e | e; exact p5.2 g (e.symm.trans hg); rw [e] at hg; simp at hg; right; have := hS.size; omega⟩))
          intro w5 hS hF
          obtain ⟨e7, -⟩ := hF
          obtain ⟨y7, p7, t7⟩ := e7
          simp only [List.drop_succ_cons, List.drop_zero]
          have HS7 := Lib.hid hS
          have HP7 := Lib.hid p7
          have HT7 := Lib.hid t7
          generalize f 7 = v7 at *
          clear hS p7 t7
          go_wp2_with fail
          go_ret
          have e2 : putS ms (m1, m2) = ms.take k ++ [(m1, m2)] ++ ms.drop k := by rw [putS_eq, HPL.out, if_neg HNOT.out]; simp
          refine ⟨_, rfl, ?_, ((HTW.out.trans HT6.out (fun _ _ h => h)).mono (fun _ _ h => h.elim)).trans HS7.out (fun _ _ h => h), fun g hg => ?_⟩
          · rw [e2]; exact own_turn HP7.out.1 HT7.out (fun _ _ h => h)
          · rcases HP7.out.2 g hg with h | h
            · exact .inl h
            · right; have := HWS.out; omega
      · go_wp2_with fail
        go_ret
        have he := HBB.out.1 (by first | rfl | trivial)
        have e2 : putS ms (m1, m2) = ms := by rw [putS_eq, HPL.out, if_pos he]
        refine ⟨_, rfl, ?_, ((HTW.out.trans HT2.out (fun _ _ h => h)).mono (fun _ _ h => h.elim)), fun g hg => .inl hg⟩
        rw [e2]
        exact own_turn HOW.out HT2.out (fun _ _ h => h)
end Go.Proofs.YtepmgnhblegiiaaDoor
