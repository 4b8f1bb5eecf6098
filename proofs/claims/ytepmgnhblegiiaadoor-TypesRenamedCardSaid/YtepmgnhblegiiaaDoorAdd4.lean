/- add of the solver, constraints of kind (what it leaves). No condition beyond what each states. -/
import Derived.Test.YtepmgnhblegiiaaDoorSolF
import Derived.Deep.DeepCutAuto
import Derived.Deep.QuietTactic
import Derived.BigQuiet
set_option linter.all false
namespace Go.Proofs.YtepmgnhblegiiaaDoor
open Go Go.RowKit Go.Maps

def AddPost (cs ps : List Con) (L : Lay) (c : Con) (w : World) (e : Ending) (w' : World) : Prop :=
  e = .returned (.tuple #[]) ∧ Turn L.own w w' ∧ ∃ rt' of' clash', Inv L.n cs (ps ++ [c]) rt' of' clash' [] ∧ SolW L rt' of' clash' w'
end Go.Proofs.YtepmgnhblegiiaaDoor

/- add of the solver, constraints of kind 1. No condition beyond what each states. -/
namespace Go.Proofs.YtepmgnhblegiiaaDoor
open Go Go.RowKit Go.Maps

set_option maxRecDepth 100000 in
set_option maxHeartbeats 2000000 in
theorem add_1 (cs ps : List Con) (L : Lay) (hR : ∀ c ∈ cs, rightS L.n c = true) (rt : Int → Int) (of : Int → Cls) (clash : Bool) (w : World) (c : Con) (hc : c ∈ cs) (hk : c.kind = 1) (hinv : Inv L.n cs ps rt of clash []) (h : SolW L rt of clash w) :
    Calls Tryd.prog 40 #[.pointer (some ⟨L.gs, 0, none⟩), .agg (conCells c)] w (AddPost cs ps L c w) := by
  have hrp := rightS_parts (hR c hc)
  have hroot := hinv.at_root hc hrp.1
  obtain ⟨kind, ca, cb, cn⟩ := c
  simp only at hk hrp hroot
  subst hk
  obtain ⟨a, rfl⟩ := Int.eq_ofNat_of_zero_le hrp.1.1
  obtain ⟨r, hr⟩ := Int.eq_ofNat_of_zero_le hroot.1.1
  have ha : a < L.n := by omega
  have hrn : r < L.n := by omega
  have hlim := L.lim
  change Calls _ _ #[.pointer (some ⟨L.gs, 0, none⟩), .agg #[.int .i64 1, .int .i64 (a : Int), .int .i64 cb, .int .i64 cn]] w _
  have H := Lib.hid h
  have HI := Lib.hid hinv
  have HR := Lib.hid hR
  have HC := Lib.hid hc
  have HRP := Lib.hid hrp
  have HRT := Lib.hid hr
  have HROOT := Lib.hid hroot
  clear h hinv hR hc hrp hr hroot
  obtain ⟨W, hW⟩ : ∃ W, W = (w.alloc (.cells #[.pointer (some ⟨L.gs, 0, none⟩)] 56)).alloc (.cells #[.int .i64 1, .int .i64 (a : Int), .int .i64 cb, .int .i64 cn] 37) := ⟨_, rfl⟩
  have hT : Turn L.own w W := by rw [hW]; exact ((Turn.refl _ _).alloc _).alloc _
  have hS : SolW L rt of clash W := by rw [hW]; exact (H.out.alloc _).alloc _
  have b1 : W.heap[w.heap.size]? = some (.cells #[.pointer (some ⟨L.gs, 0, none⟩)] 56 (0, 0)) := by
    rw [hW, alloc_other _ _ (by simp)]; exact heap_alloc_new _ _
  have b2 : W.heap[w.heap.size + 1]? = some (.cells #[.int .i64 1, .int .i64 (a : Int), .int .i64 cb, .int .i64 cn] 37 (0, 0)) := by
    have := heap_alloc_new (w.alloc (.cells #[.pointer (some ⟨L.gs, 0, none⟩)] 56)) (.cells #[.int .i64 1, .int .i64 (a : Int), .int .i64 cb, .int .i64 cn] 37)
    rw [hW]; simpa using this
  have HW := Lib.hid (And.intro hT (And.intro hS (And.intro b1 b2)))
  rw [hW] at HW
  clear hT hS b1 b2 hW W
  have hgo0 : ¬ L.gu = L.gs := L.su.symm
  have hol := H.out.lt (.inl rfl)
  have hou := H.out.lt (.inr (.inl rfl))
  have hoo := H.out.lt (.inr (.inr (.inl rfl)))
  have hn2 : ¬ w.heap.size = L.gu := by omega
  have hn3 : ¬ w.heap.size + 1 = L.gu := by omega
  have hn4 : ¬ L.gs = L.gu := L.su
  go_enter Tryd.func40, Tryd.ntmps40
  go_upto_region 1 with (fail)
  go_cut [4] (fun s4 wx => s4 = .pointer (some ⟨L.go, r * 6, none⟩) ∧ Hid (SolW L rt of clash wx) ∧ Hid (Turn L.own w wx) ∧ Hid (wx.heap[w.heap.size]? = some (.cells #[.pointer (some ⟨L.gs, 0, none⟩)] 56 (0, 0))) ∧ Hid (wx.heap[w.heap.size + 1]? = some (.cells #[.int .i64 1, .int .i64 (a : Int), .int .i64 cb, .int .i64 cn] 37 (0, 0))))
  case first =>
    refine wp_region_relyT [] 9 (factOf [isV ((.pointer (some ⟨L.gs, 0, none⟩))), isV ((.pointer (some ⟨L.gs, 0, none⟩))), isV ((.pointer (some ⟨L.gs, 1, none⟩))), isV ((.slice (some ⟨L.go, 0, none⟩) L.n L.co)), isV ((.pointer (some ⟨L.gs, 0, none⟩))), isV ((.pointer (some ⟨w.heap.size + 1, 1, none⟩))), isV ((.int .i64 (a : Int))), isV ((.int .i64 (r : Int))), isV ((.pointer (some ⟨L.go, r * 6, none⟩)))]) (nth [[0], [1], [2], [3], [4], [5], [6], [7], [8]]) (nth [[], [], [], [], [], [], [], [], []]) (nth [[], [0], [1], [2], [], [], [5], [4, 6], [3, 7]]) [8] (fun w5 => SolW L rt of clash w5 ∧ Turn (fun k => k = L.gu) ((w.alloc (.cells #[.pointer (some ⟨L.gs, 0, none⟩)] 56)).alloc (.cells #[.int .i64 1, .int .i64 (a : Int), .int .i64 cb, .int .i64 cn] 37)) w5) (by kernel_rfl) (by kernel_rfl) (⟨HW.out.2.1.drew, (Turn.refl _ _).drew⟩) (fun w w' h hb => ⟨h.1.turn (Turn.ofBelow (bs := fun _ => False) hb) (fun _ h => h.elim), h.2.trans (Turn.ofBelow (bs := fun _ => False) hb) (fun _ _ h => h.elim)⟩) (GrowsAll.of ((GrowsAll.cons (Grows.isV _)  (GrowsAll.cons (Grows.isV _)  (GrowsAll.cons (Grows.isV _)  (GrowsAll.cons (Grows.isV _)  (GrowsAll.cons (Grows.isV _)  (GrowsAll.cons (Grows.isV _)  (GrowsAll.cons (Grows.isV _)  (GrowsAll.cons (Grows.isV _)  (GrowsAll.cons (Grows.isV _) GrowsAll.nil))))))))))) (fun f F hF => ?_)
    simp only [List.take_succ_cons, List.take_zero, fullGo, Act.put, List.setIfInBounds_toArray, List.set_cons_zero, List.set_cons_succ, Nat.reduceAdd] at hF
    subst hF
    refine ⟨StepObsF.cons ?_ (StepObsF.cons ?_ (StepObsF.cons ?_ (StepObsF.cons ?_ (StepObsF.cons ?_ (StepObsF.cons ?_ (StepObsF.cons ?_ (StepObsF.cons ?_ (StepObsF.cons ?_ (StepObsF.nil))))))))), ?_⟩
    · intro w5 hS hF hD K hK
      rw [if_pos (by rfl)]
      exact wp_of_quiet (exec_load_at _ _ rfl _ _ rfl _ _ _ (hS.2.heap HW.out.2.2.1 hn2) ((.pointer (some ⟨L.gs, 0, none⟩))) (by kernel_rfl) (fun _ => by kernel_rfl)) (hK.out _ _ rfl (After.lit rfl rfl rfl (by first | rfl | kernel_rfl)))
    · intro w5 hS hF hD K hK
      obtain ⟨e0, -⟩ := hF
      replace e0 : f 0 = _ := e0
      try simp only [e0]
      rw [if_pos (by rfl)]
      refine wp_of_quiet (v := (.pointer (some ⟨L.gs, 0, none⟩))) (by (show _ = _); kernel_rfl) (hK.out _ _ rfl (After.lit rfl rfl rfl ?_))
      first | rfl | kernel_rfl
    · intro w5 hS hF hD K hK
      obtain ⟨e1, -⟩ := hF
      replace e1 : f 1 = _ := e1
      try simp only [e1]
      rw [if_pos (by rfl)]
      refine wp_of_quiet (v := (.pointer (some ⟨L.gs, 1, none⟩))) (by (show _ = _); kernel_rfl) (hK.out _ _ rfl (After.lit rfl rfl rfl ?_))
      first | rfl | kernel_rfl
    · intro w5 hS hF hD K hK
      obtain ⟨e2, -⟩ := hF
      replace e2 : f 2 = _ := e2
      try simp only [e2]
      rw [if_pos (by rfl)]
      exact wp_of_quiet (exec_load_at _ _ rfl _ _ rfl _ _ _ (hS.1.s) ((.slice (some ⟨L.go, 0, none⟩) L.n L.co)) (by kernel_rfl) (fun _ => by kernel_rfl)) (hK.out _ _ rfl (After.lit rfl rfl rfl (by first | rfl | kernel_rfl)))
    · intro w5 hS hF hD K hK
      rw [if_pos (by rfl)]
      exact wp_of_quiet (exec_load_at _ _ rfl _ _ rfl _ _ _ (hS.2.heap HW.out.2.2.1 hn2) ((.pointer (some ⟨L.gs, 0, none⟩))) (by kernel_rfl) (fun _ => by kernel_rfl)) (hK.out _ _ rfl (After.lit rfl rfl rfl (by first | rfl | kernel_rfl)))
    · intro w5 hS hF hD K hK
      rw [if_pos (by rfl)]
      refine wp_of_quiet (v := (.pointer (some ⟨w.heap.size + 1, 1, none⟩))) (by (show _ = _); kernel_rfl) (hK.out _ _ rfl (After.lit rfl rfl rfl ?_))
      first | rfl | kernel_rfl
    · intro w5 hS hF hD K hK
      obtain ⟨e5, -⟩ := hF
      replace e5 : f 5 = _ := e5
      try simp only [e5]
      rw [if_pos (by rfl)]
      exact wp_of_quiet (exec_load_at _ _ rfl _ _ rfl _ _ _ (hS.2.heap HW.out.2.2.2 hn3) ((.int .i64 (a : Int))) (by kernel_rfl) (fun _ => by kernel_rfl)) (hK.out _ _ rfl (After.lit rfl rfl rfl (by first | rfl | kernel_rfl)))
    · intro w5 hS hF hD K hK
      obtain ⟨e4, e6, -⟩ := hF
      replace e4 : f 4 = _ := e4
      replace e6 : f 6 = _ := e6
      try simp only [e4, e6]
      rw [if_pos (by rfl)]
      go_simp
      refine (find_nat L _ hS.1 a r ha HRT.out).mono ?_; rintro e w3 ⟨rfl, hs3, ht3⟩; go_simp
      refine hK.out _ _ rfl (After.litS rfl rfl rfl (ht3.size) (⟨hs3, hS.2.trans ht3 (fun _ _ e => e)⟩) (StaysW.isV (StaysW.isV (StaysW.isV (StaysW.isV (StaysW.isV (StaysW.isV (StaysW.isV (StaysW.isV (StaysW.isV StaysW.nil))))))))) ?_)
      first | rfl | kernel_rfl
    · intro w5 hS hF hD K hK
      obtain ⟨e3, e7, -⟩ := hF
      replace e3 : f 3 = _ := e3
      replace e7 : f 7 = _ := e7
      try simp only [e3, e7]
      rw [if_pos (by rfl)]
      go_simp
      refine hK.out _ _ rfl (After.lit rfl rfl rfl ?_)
      first | rfl | kernel_rfl
    intro w5 hS hF
    obtain ⟨e8, -⟩ := hF
    replace e8 : f 8 = _ := e8
    try simp only [e8]
    simp only [List.drop_succ_cons, List.drop_zero]
    have HS := Lib.hid hS.1
    have HT := Lib.hid hS.2
    clear hS
    go_wp2
    go_meet
    case rel => exact ⟨rfl, HS, Lib.hid (HW.out.1.trans HT.out (fun x _ e => .inr (.inl e))), Lib.hid (HT.out.heap HW.out.2.2.1 hn2), Lib.hid (HT.out.heap HW.out.2.2.2 hn3)⟩
  case rest =>
    obtain ⟨rfl, HS, HT, HB2, HB3⟩ := hcut
    clear HW hn2 hn3 hn4 hgo0 hol hou hoo
    have c2 := cell_of_one HB2.out
    have k0 : wc.cell? ⟨w.heap.size + 1, 0, none⟩ = some (.int .i64 1) := by rw [cell_of_row _ _ _ _ _ _ HB3.out]; rfl
    have k1 : wc.cell? ⟨w.heap.size + 1, 1, none⟩ = some (.int .i64 (a : Int)) := by rw [cell_of_row _ _ _ _ _ _ HB3.out]; rfl
    have k2 : wc.cell? ⟨w.heap.size + 1, 2, none⟩ = some (.int .i64 cb) := by rw [cell_of_row _ _ _ _ _ _ HB3.out]; rfl
    have k3 : wc.cell? ⟨w.heap.size + 1, 3, none⟩ = some (.int .i64 cn) := by rw [cell_of_row _ _ _ _ _ _ HB3.out]; rfl
    obtain ⟨b, rfl⟩ := Int.eq_ofNat_of_zero_le (HRP.out.2.1 (by omega)).1
    have HU := Lib.hid (unite_any cs (ps ++ [⟨1, a, b, cn⟩]) L HR.out rt of clash a b wc (HI.out.add_same HC.out rfl HRP.out.1 (HRP.out.2.1 (by omega))) HS.out)
    go_wp2_with (go_at_call 56; refine (HU.out).mono ?_; rintro e w9 ⟨rfl, ht9, hd9⟩)
    go_end0
    exact ⟨rfl, HT.out.trans ht9 (fun _ _ e => e), hd9⟩
end Go.Proofs.YtepmgnhblegiiaaDoor

/- add of the solver, constraints of kind 2. No condition beyond what each states. -/
namespace Go.Proofs.YtepmgnhblegiiaaDoor
open Go Go.RowKit Go.Maps

set_option maxRecDepth 100000 in
set_option maxHeartbeats 2000000 in
theorem add_2 (cs ps : List Con) (L : Lay) (hR : ∀ c ∈ cs, rightS L.n c = true) (rt : Int → Int) (of : Int → Cls) (clash : Bool) (w : World) (c : Con) (hc : c ∈ cs) (hk : c.kind = 2) (hinv : Inv L.n cs ps rt of clash []) (h : SolW L rt of clash w) :
    Calls Tryd.prog 40 #[.pointer (some ⟨L.gs, 0, none⟩), .agg (conCells c)] w (AddPost cs ps L c w) := by
  have hrp := rightS_parts (hR c hc)
  have hroot := hinv.at_root hc hrp.1
  obtain ⟨kind, ca, cb, cn⟩ := c
  simp only at hk hrp hroot
  subst hk
  obtain ⟨a, rfl⟩ := Int.eq_ofNat_of_zero_le hrp.1.1
  obtain ⟨r, hr⟩ := Int.eq_ofNat_of_zero_le hroot.1.1
  have ha : a < L.n := by omega
  have hrn : r < L.n := by omega
  have hlim := L.lim
  change Calls _ _ #[.pointer (some ⟨L.gs, 0, none⟩), .agg #[.int .i64 2, .int .i64 (a : Int), .int .i64 cb, .int .i64 cn]] w _
  have H := Lib.hid h
  have HI := Lib.hid hinv
  have HR := Lib.hid hR
  have HC := Lib.hid hc
  have HRP := Lib.hid hrp
  have HRT := Lib.hid hr
  have HROOT := Lib.hid hroot
  clear h hinv hR hc hrp hr hroot
  obtain ⟨W, hW⟩ : ∃ W, W = (w.alloc (.cells #[.pointer (some ⟨L.gs, 0, none⟩)] 56)).alloc (.cells #[.int .i64 2, .int .i64 (a : Int), .int .i64 cb, .int .i64 cn] 37) := ⟨_, rfl⟩
  have hT : Turn L.own w W := by rw [hW]; exact ((Turn.refl _ _).alloc _).alloc _
  have hS : SolW L rt of clash W := by rw [hW]; exact (H.out.alloc _).alloc _
  have b1 : W.heap[w.heap.size]? = some (.cells #[.pointer (some ⟨L.gs, 0, none⟩)] 56 (0, 0)) := by
    rw [hW, alloc_other _ _ (by simp)]; exact heap_alloc_new _ _
  have b2 : W.heap[w.heap.size + 1]? = some (.cells #[.int .i64 2, .int .i64 (a : Int), .int .i64 cb, .int .i64 cn] 37 (0, 0)) := by
    have := heap_alloc_new (w.alloc (.cells #[.pointer (some ⟨L.gs, 0, none⟩)] 56)) (.cells #[.int .i64 2, .int .i64 (a : Int), .int .i64 cb, .int .i64 cn] 37)
    rw [hW]; simpa using this
  have HW := Lib.hid (And.intro hT (And.intro hS (And.intro b1 b2)))
  rw [hW] at HW
  clear hT hS b1 b2 hW W
  have hgo0 : ¬ L.gu = L.gs := L.su.symm
  have hol := H.out.lt (.inl rfl)
  have hou := H.out.lt (.inr (.inl rfl))
  have hoo := H.out.lt (.inr (.inr (.inl rfl)))
  have hn2 : ¬ w.heap.size = L.gu := by omega
  have hn3 : ¬ w.heap.size + 1 = L.gu := by omega
  have hn4 : ¬ L.gs = L.gu := L.su
  go_enter Tryd.func40, Tryd.ntmps40
  go_upto_region 1 with (fail)
  go_cut [4] (fun s4 wx => s4 = .pointer (some ⟨L.go, r * 6, none⟩) ∧ Hid (SolW L rt of clash wx) ∧ Hid (Turn L.own w wx) ∧ Hid (wx.heap[w.heap.size]? = some (.cells #[.pointer (some ⟨L.gs, 0, none⟩)] 56 (0, 0))) ∧ Hid (wx.heap[w.heap.size + 1]? = some (.cells #[.int .i64 2, .int .i64 (a : Int), .int .i64 cb, .int .i64 cn] 37 (0, 0))))
  case first =>
    refine wp_region_relyT [] 9 (factOf [isV ((.pointer (some ⟨L.gs, 0, none⟩))), isV ((.pointer (some ⟨L.gs, 0, none⟩))), isV ((.pointer (some ⟨L.gs, 1, none⟩))), isV ((.slice (some ⟨L.go, 0, none⟩) L.n L.co)), isV ((.pointer (some ⟨L.gs, 0, none⟩))), isV ((.pointer (some ⟨w.heap.size + 1, 1, none⟩))), isV ((.int .i64 (a : Int))), isV ((.int .i64 (r : Int))), isV ((.pointer (some ⟨L.go, r * 6, none⟩)))]) (nth [[0], [1], [2], [3], [4], [5], [6], [7], [8]]) (nth [[], [], [], [], [], [], [], [], []]) (nth [[], [0], [1], [2], [], [], [5], [4, 6], [3, 7]]) [8] (fun w5 => SolW L rt of clash w5 ∧ Turn (fun k => k = L.gu) ((w.alloc (.cells #[.pointer (some ⟨L.gs, 0, none⟩)] 56)).alloc (.cells #[.int .i64 2, .int .i64 (a : Int), .int .i64 cb, .int .i64 cn] 37)) w5) (by kernel_rfl) (by kernel_rfl) (⟨HW.out.2.1.drew, (Turn.refl _ _).drew⟩) (fun w w' h hb => ⟨h.1.turn (Turn.ofBelow (bs := fun _ => False) hb) (fun _ h => h.elim), h.2.trans (Turn.ofBelow (bs := fun _ => False) hb) (fun _ _ h => h.elim)⟩) (GrowsAll.of ((GrowsAll.cons (Grows.isV _)  (GrowsAll.cons (Grows.isV _)  (GrowsAll.cons (Grows.isV _)  (GrowsAll.cons (Grows.isV _)  (GrowsAll.cons (Grows.isV _)  (GrowsAll.cons (Grows.isV _)  (GrowsAll.cons (Grows.isV _)  (GrowsAll.cons (Grows.isV _)  (GrowsAll.cons (Grows.isV _) GrowsAll.nil))))))))))) (fun f F hF => ?_)
    simp only [List.take_succ_cons, List.take_zero, fullGo, Act.put, List.setIfInBounds_toArray, List.set_cons_zero, List.set_cons_succ, Nat.reduceAdd] at hF
    subst hF
    refine ⟨StepObsF.cons ?_ (StepObsF.cons ?_ (StepObsF.cons ?_ (StepObsF.cons ?_ (StepObsF.cons ?_ (StepObsF.cons ?_ (StepObsF.cons ?_ (StepObsF.cons ?_ (StepObsF.cons ?_ (StepObsF.nil))))))))), ?_⟩
    · intro w5 hS hF hD K hK
      rw [if_pos (by rfl)]
      exact wp_of_quiet (exec_load_at _ _ rfl _ _ rfl _ _ _ (hS.2.heap HW.out.2.2.1 hn2) ((.pointer (some ⟨L.gs, 0, none⟩))) (by kernel_rfl) (fun _ => by kernel_rfl)) (hK.out _ _ rfl (After.lit rfl rfl rfl (by first | rfl | kernel_rfl)))
    · intro w5 hS hF hD K hK
      obtain ⟨e0, -⟩ := hF
      replace e0 : f 0 = _ := e0
      try simp only [e0]
      rw [if_pos (by rfl)]
      refine wp_of_quiet (v := (.pointer (some ⟨L.gs, 0, none⟩))) (by (show _ = _); kernel_rfl) (hK.out _ _ rfl (After.lit rfl rfl rfl ?_))
      first | rfl | kernel_rfl
    · intro w5 hS hF hD K hK
      obtain ⟨e1, -⟩ := hF
      replace e1 : f 1 = _ := e1
      try simp only [e1]
      rw [if_pos (by rfl)]
      refine wp_of_quiet (v := (.pointer (some ⟨L.gs, 1, none⟩))) (by (show _ = _); kernel_rfl) (hK.out _ _ rfl (After.lit rfl rfl rfl ?_))
      first | rfl | kernel_rfl
    · intro w5 hS hF hD K hK
      obtain ⟨e2, -⟩ := hF
      replace e2 : f 2 = _ := e2
      try simp only [e2]
      rw [if_pos (by rfl)]
      exact wp_of_quiet (exec_load_at _ _ rfl _ _ rfl _ _ _ (hS.1.s) ((.slice (some ⟨L.go, 0, none⟩) L.n L.co)) (by kernel_rfl) (fun _ => by kernel_rfl)) (hK.out _ _ rfl (After.lit rfl rfl rfl (by first | rfl | kernel_rfl)))
    · intro w5 hS hF hD K hK
      rw [if_pos (by rfl)]
      exact wp_of_quiet (exec_load_at _ _ rfl _ _ rfl _ _ _ (hS.2.heap HW.out.2.2.1 hn2) ((.pointer (some ⟨L.gs, 0, none⟩))) (by kernel_rfl) (fun _ => by kernel_rfl)) (hK.out _ _ rfl (After.lit rfl rfl rfl (by first | rfl | kernel_rfl)))
    · intro w5 hS hF hD K hK
      rw [if_pos (by rfl)]
      refine wp_of_quiet (v := (.pointer (some ⟨w.heap.size + 1, 1, none⟩))) (by (show _ = _); kernel_rfl) (hK.out _ _ rfl (After.lit rfl rfl rfl ?_))
      first | rfl | kernel_rfl
    · intro w5 hS hF hD K hK
      obtain ⟨e5, -⟩ := hF
      replace e5 : f 5 = _ := e5
      try simp only [e5]
      rw [if_pos (by rfl)]
      exact wp_of_quiet (exec_load_at _ _ rfl _ _ rfl _ _ _ (hS.2.heap HW.out.2.2.2 hn3) ((.int .i64 (a : Int))) (by kernel_rfl) (fun _ => by kernel_rfl)) (hK.out _ _ rfl (After.lit rfl rfl rfl (by first | rfl | kernel_rfl)))
    · intro w5 hS hF hD K hK
      obtain ⟨e4, e6, -⟩ := hF
      replace e4 : f 4 = _ := e4
      replace e6 : f 6 = _ := e6
      try simp only [e4, e6]
      rw [if_pos (by rfl)]
      go_simp
      refine (find_nat L _ hS.1 a r ha HRT.out).mono ?_; rintro e w3 ⟨rfl, hs3, ht3⟩; go_simp
      refine hK.out _ _ rfl (After.litS rfl rfl rfl (ht3.size) (⟨hs3, hS.2.trans ht3 (fun _ _ e => e)⟩) (StaysW.isV (StaysW.isV (StaysW.isV (StaysW.isV (StaysW.isV (StaysW.isV (StaysW.isV (StaysW.isV (StaysW.isV StaysW.nil))))))))) ?_)
      first | rfl | kernel_rfl
    · intro w5 hS hF hD K hK
      obtain ⟨e3, e7, -⟩ := hF
      replace e3 : f 3 = _ := e3
      replace e7 : f 7 = _ := e7
      try simp only [e3, e7]
      rw [if_pos (by rfl)]
      go_simp
      refine hK.out _ _ rfl (After.lit rfl rfl rfl ?_)
      first | rfl | kernel_rfl
    intro w5 hS hF
    obtain ⟨e8, -⟩ := hF
    replace e8 : f 8 = _ := e8
    try simp only [e8]
    simp only [List.drop_succ_cons, List.drop_zero]
    have HS := Lib.hid hS.1
    have HT := Lib.hid hS.2
    clear hS
    go_wp2
    go_meet
    case rel => exact ⟨rfl, HS, Lib.hid (HW.out.1.trans HT.out (fun x _ e => .inr (.inl e))), Lib.hid (HT.out.heap HW.out.2.2.1 hn2), Lib.hid (HT.out.heap HW.out.2.2.2 hn3)⟩
  case rest =>
    obtain ⟨rfl, HS, HT, HB2, HB3⟩ := hcut
    clear HW hn2 hn3 hn4 hgo0 hol hou hoo
    have c2 := cell_of_one HB2.out
    have k0 : wc.cell? ⟨w.heap.size + 1, 0, none⟩ = some (.int .i64 2) := by rw [cell_of_row _ _ _ _ _ _ HB3.out]; rfl
    have k1 : wc.cell? ⟨w.heap.size + 1, 1, none⟩ = some (.int .i64 (a : Int)) := by rw [cell_of_row _ _ _ _ _ _ HB3.out]; rfl
    have k2 : wc.cell? ⟨w.heap.size + 1, 2, none⟩ = some (.int .i64 cb) := by rw [cell_of_row _ _ _ _ _ _ HB3.out]; rfl
    have k3 : wc.cell? ⟨w.heap.size + 1, 3, none⟩ = some (.int .i64 cn) := by rw [cell_of_row _ _ _ _ _ _ HB3.out]; rfl
    have hcl := HS.out.cls hrn
    have HCL := Lib.hid hcl
    obtain ⟨co, hgo, hco⟩ := HS.out.o
    have HO := Lib.hid (And.intro hgo (hco r hrn 0 (by omega)))
    clear hcl hgo hco
    have hns : ¬ w.heap.size = L.gs := fun e => by have := HB2.out; rw [e, HS.out.s] at this; simp at this
    have hns1 : ¬ w.heap.size + 1 = L.gs := fun e => by have := HB3.out; rw [e, HS.out.s] at this; simp at this
    have hogs : ¬ L.go = L.gs := L.so.symm
    go_upto_region 7 with (fail)
    refine wp_region_relyU 0 _ (.pointer (some ⟨L.go, r * 6, none⟩)) [] 9 (factOf [isVs [(.pointer (some ⟨L.go, r * 6, none⟩))] (SolW L rt of clash), isV ((.pointer (some ⟨L.gs, 0, none⟩))), isV ((.pointer (some ⟨L.go, r * 6, none⟩))), isV ((.pointer (some ⟨L.go, r * 6, none⟩))), isV ((.pointer (some ⟨L.go, r * 6 + 0, none⟩))), isV ((.int .i64 (of r).size)), isV ((.pointer (some ⟨w.heap.size + 1, 3, none⟩))), isV ((.int .i64 cn)), isVs [(.pointer (some ⟨L.go, r * 6, none⟩)), (.int .i64 (agreeV (of r).size cn))] (SolW L rt of (agreeC clash (of r).size cn))]) (nth [[0], [1], [2], [3], [4], [5], [6], [7], [0, 8]]) (nth [[], [], [], [], [], [], [], [], [0]]) (nth [[], [], [], [2], [3], [4], [], [6], [0, 1, 5, 7]]) [8] (fun w5 => Turn (fun k => k = L.gs) wc w5) (by kernel_rfl) (by kernel_rfl) rfl (by kernel_rfl) (by kernel_rfl) (by kernel_rfl) (fun _ _ _ h => h) ⟨by rfl, fun w => by rfl⟩ (⟨by rfl, HS.out.drew⟩) ((Turn.refl _ _).drew) (fun w w' h hb => h.trans (Turn.ofBelow (bs := fun _ => False) hb) (fun _ _ h => h.elim)) (GrowsAll.of ((GrowsAll.cons (Grows.isVs _ (SolW.grow))  (GrowsAll.cons (Grows.isV _)  (GrowsAll.cons (Grows.isV _)  (GrowsAll.cons (Grows.isV _)  (GrowsAll.cons (Grows.isV _)  (GrowsAll.cons (Grows.isV _)  (GrowsAll.cons (Grows.isV _)  (GrowsAll.cons (Grows.isV _)  (GrowsAll.cons (Grows.isVs _ (SolW.grow)) GrowsAll.nil))))))))))) (fun f F hF => ?_)
    simp only [List.take_succ_cons, List.take_zero, fullGo, Act.put, List.setIfInBounds_toArray, List.set_cons_zero, List.set_cons_succ, Nat.reduceAdd] at hF
    subst hF
    refine ⟨StepObsF.skip (by rfl) (StepObsF.cons ?_ (StepObsF.cons ?_ (StepObsF.cons ?_ (StepObsF.cons ?_ (StepObsF.cons ?_ (StepObsF.cons ?_ (StepObsF.cons ?_ (StepObsF.cons ?_ (StepObsF.nil))))))))), ?_⟩
    · intro w5 hS hF hD K hK
      rw [if_pos (by rfl)]
      exact wp_of_quiet (exec_load_at _ _ rfl _ _ rfl _ _ _ (hS.heap HB2.out hns) ((.pointer (some ⟨L.gs, 0, none⟩))) (by kernel_rfl) (fun _ => by kernel_rfl)) (hK.out _ _ rfl (After.lit rfl rfl rfl (by first | rfl | kernel_rfl)))
    · intro w5 hS hF hD K hK
      rw [if_pos (by rfl)]
      refine wp_of_quiet (v := (.pointer (some ⟨L.go, r * 6, none⟩))) (by (show _ = _); kernel_rfl) (hK.out _ _ rfl (After.lit rfl rfl rfl ?_))
      first | rfl | kernel_rfl
    · intro w5 hS hF hD K hK
      obtain ⟨e2, -⟩ := hF
      replace e2 : f 2 = _ := e2
      try simp only [e2]
      rw [if_pos (by rfl)]
      refine wp_of_quiet (v := (.pointer (some ⟨L.go, r * 6, none⟩))) (by (show _ = _); kernel_rfl) (hK.out _ _ rfl (After.lit rfl rfl rfl ?_))
      first | rfl | kernel_rfl
    · intro w5 hS hF hD K hK
      obtain ⟨e3, -⟩ := hF
      replace e3 : f 3 = _ := e3
      try simp only [e3]
      rw [if_pos (by rfl)]
      refine wp_of_quiet (v := (.pointer (some ⟨L.go, r * 6 + 0, none⟩))) (by (show _ = _); kernel_rfl) (hK.out _ _ rfl (After.lit rfl rfl rfl ?_))
      first | rfl | kernel_rfl
    · intro w5 hS hF hD K hK
      obtain ⟨e4, -⟩ := hF
      replace e4 : f 4 = _ := e4
      try simp only [e4]
      rw [if_pos (by rfl)]
      exact wp_of_quiet (exec_load_at _ _ rfl _ _ rfl _ _ _ (hS.heap HO.out.1 hogs) ((.int .i64 (of r).size)) (HO.out.2) (fun _ => by kernel_rfl)) (hK.out _ _ rfl (After.lit rfl rfl rfl (by first | rfl | kernel_rfl)))
    · intro w5 hS hF hD K hK
      rw [if_pos (by rfl)]
      refine wp_of_quiet (v := (.pointer (some ⟨w.heap.size + 1, 3, none⟩))) (by (show _ = _); kernel_rfl) (hK.out _ _ rfl (After.lit rfl rfl rfl ?_))
      first | rfl | kernel_rfl
    · intro w5 hS hF hD K hK
      obtain ⟨e6, -⟩ := hF
      replace e6 : f 6 = _ := e6
      try simp only [e6]
      rw [if_pos (by rfl)]
      exact wp_of_quiet (exec_load_at _ _ rfl _ _ rfl _ _ _ (hS.heap HB3.out hns1) ((.int .i64 cn)) (by kernel_rfl) (fun _ => by kernel_rfl)) (hK.out _ _ rfl (After.lit rfl rfl rfl (by first | rfl | kernel_rfl)))
    · intro w5 hS hF hD K hK
      obtain ⟨e0, e1, e5, e7, -⟩ := hF
      obtain ⟨e0, p0⟩ := e0
      replace e0 : [f 0] = _ := e0
      simp only [List.cons.injEq, and_true] at e0
      have q0_0 := e0
      replace e1 : f 1 = _ := e1
      replace e5 : f 5 = _ := e5
      replace e7 : f 7 = _ := e7
      try simp only [q0_0, e1, e5, e7]
      rw [if_pos (by rfl)]
      go_simp
      refine (agree_any L _ p0 (of r).size cn).mono ?_; rintro e w3 ⟨rfl, hs3, ht3⟩; go_simp
      refine hK.out _ _ rfl (After.gen rfl rfl rfl rfl (ht3.size) (hS.trans ht3 (fun _ _ e => e)) (StaysE.out (by rfl) (StaysE.isV (StaysE.isV (StaysE.isV (StaysE.isV (StaysE.isV (StaysE.isV (StaysE.isV (StaysE.out (by rfl) StaysE.nil))))))))) (hs3) ?_)
      show [f 0, _] = _
      rw [q0_0]
      first | rfl | kernel_rfl
    intro w5 hS hF
    obtain ⟨e8, -⟩ := hF
    obtain ⟨e8, p8⟩ := e8
    replace e8 : [f 0, f 8] = _ := e8
    simp only [List.cons.injEq, and_true] at e8
    obtain ⟨q8_0, q8_8⟩ := e8
    try simp only [q8_0, q8_8]
    simp only [List.drop_succ_cons, List.drop_zero]
    have HS5 := Lib.hid p8
    have HT5 := Lib.hid hS
    have xx := p8.cls hrn
    have x0 := xx.1
    have f0' := p8.ofree (r * 6)
    clear hS p8 q8_0 q8_8 xx
    go_wp2
    go_end0
    refine ⟨rfl, (HT.out.trans HT5.out (fun _ _ e => .inl e)).setCell (g := L.go) _ (fun _ => .inr (.inr (.inl rfl))), _, _, _, ?_, HS5.out.set0 hrn _⟩
    have := HI.out.add_size HC.out HRP.out.1 rfl (by have h9 := (HRP.out.2.2.1 trivial).1; exact fun e => by simp only at e h9; omega)
    simp only at this
    rw [HRT.out] at this
    exact this
end Go.Proofs.YtepmgnhblegiiaaDoor

/- add of the solver, constraints of kind 3. No condition beyond what each states. -/
namespace Go.Proofs.YtepmgnhblegiiaaDoor
open Go Go.RowKit Go.Maps

set_option maxRecDepth 100000 in
set_option maxHeartbeats 2000000 in
theorem add_3 (cs ps : List Con) (L : Lay) (hR : ∀ c ∈ cs, rightS L.n c = true) (rt : Int → Int) (of : Int → Cls) (clash : Bool) (w : World) (c : Con) (hc : c ∈ cs) (hk : c.kind = 3) (hinv : Inv L.n cs ps rt of clash []) (h : SolW L rt of clash w) :
    Calls Tryd.prog 40 #[.pointer (some ⟨L.gs, 0, none⟩), .agg (conCells c)] w (AddPost cs ps L c w) := by
  have hrp := rightS_parts (hR c hc)
  have hroot := hinv.at_root hc hrp.1
  obtain ⟨kind, ca, cb, cn⟩ := c
  simp only at hk hrp hroot
  subst hk
  obtain ⟨a, rfl⟩ := Int.eq_ofNat_of_zero_le hrp.1.1
  obtain ⟨r, hr⟩ := Int.eq_ofNat_of_zero_le hroot.1.1
  have ha : a < L.n := by omega
  have hrn : r < L.n := by omega
  have hlim := L.lim
  change Calls _ _ #[.pointer (some ⟨L.gs, 0, none⟩), .agg #[.int .i64 3, .int .i64 (a : Int), .int .i64 cb, .int .i64 cn]] w _
  have H := Lib.hid h
  have HI := Lib.hid hinv
  have HR := Lib.hid hR
  have HC := Lib.hid hc
  have HRP := Lib.hid hrp
  have HRT := Lib.hid hr
  have HROOT := Lib.hid hroot
  clear h hinv hR hc hrp hr hroot
  obtain ⟨W, hW⟩ : ∃ W, W = (w.alloc (.cells #[.pointer (some ⟨L.gs, 0, none⟩)] 56)).alloc (.cells #[.int .i64 3, .int .i64 (a : Int), .int .i64 cb, .int .i64 cn] 37) := ⟨_, rfl⟩
  have hT : Turn L.own w W := by rw [hW]; exact ((Turn.refl _ _).alloc _).alloc _
  have hS : SolW L rt of clash W := by rw [hW]; exact (H.out.alloc _).alloc _
  have b1 : W.heap[w.heap.size]? = some (.cells #[.pointer (some ⟨L.gs, 0, none⟩)] 56 (0, 0)) := by
    rw [hW, alloc_other _ _ (by simp)]; exact heap_alloc_new _ _
  have b2 : W.heap[w.heap.size + 1]? = some (.cells #[.int .i64 3, .int .i64 (a : Int), .int .i64 cb, .int .i64 cn] 37 (0, 0)) := by
    have := heap_alloc_new (w.alloc (.cells #[.pointer (some ⟨L.gs, 0, none⟩)] 56)) (.cells #[.int .i64 3, .int .i64 (a : Int), .int .i64 cb, .int .i64 cn] 37)
    rw [hW]; simpa using this
  have HW := Lib.hid (And.intro hT (And.intro hS (And.intro b1 b2)))
  rw [hW] at HW
  clear hT hS b1 b2 hW W
  have hgo0 : ¬ L.gu = L.gs := L.su.symm
  have hol := H.out.lt (.inl rfl)
  have hou := H.out.lt (.inr (.inl rfl))
  have hoo := H.out.lt (.inr (.inr (.inl rfl)))
  have hn2 : ¬ w.heap.size = L.gu := by omega
  have hn3 : ¬ w.heap.size + 1 = L.gu := by omega
  have hn4 : ¬ L.gs = L.gu := L.su
  go_enter Tryd.func40, Tryd.ntmps40
  go_upto_region 1 with (fail)
  go_cut [4] (fun s4 wx => s4 = .pointer (some ⟨L.go, r * 6, none⟩) ∧ Hid (SolW L rt of clash wx) ∧ Hid (Turn L.own w wx) ∧ Hid (wx.heap[w.heap.size]? = some (.cells #[.pointer (some ⟨L.gs, 0, none⟩)] 56 (0, 0))) ∧ Hid (wx.heap[w.heap.size + 1]? = some (.cells #[.int .i64 3, .int .i64 (a : Int), .int .i64 cb, .int .i64 cn] 37 (0, 0))))
  case first =>
    refine wp_region_relyT [] 9 (factOf [isV ((.pointer (some ⟨L.gs, 0, none⟩))), isV ((.pointer (some ⟨L.gs, 0, none⟩))), isV ((.pointer (some ⟨L.gs, 1, none⟩))), isV ((.slice (some ⟨L.go, 0, none⟩) L.n L.co)), isV ((.pointer (some ⟨L.gs, 0, none⟩))), isV ((.pointer (some ⟨w.heap.size + 1, 1, none⟩))), isV ((.int .i64 (a : Int))), isV ((.int .i64 (r : Int))), isV ((.pointer (some ⟨L.go, r * 6, none⟩)))]) (nth [[0], [1], [2], [3], [4], [5], [6], [7], [8]]) (nth [[], [], [], [], [], [], [], [], []]) (nth [[], [0], [1], [2], [], [], [5], [4, 6], [3, 7]]) [8] (fun w5 => SolW L rt of clash w5 ∧ Turn (fun k => k = L.gu) ((w.alloc (.cells #[.pointer (some ⟨L.gs, 0, none⟩)] 56)).alloc (.cells #[.int .i64 3, .int .i64 (a : Int), .int .i64 cb, .int .i64 cn] 37)) w5) (by kernel_rfl) (by kernel_rfl) (⟨HW.out.2.1.drew, (Turn.refl _ _).drew⟩) (fun w w' h hb => ⟨h.1.turn (Turn.ofBelow (bs := fun _ => False) hb) (fun _ h => h.elim), h.2.trans (Turn.ofBelow (bs := fun _ => False) hb) (fun _ _ h => h.elim)⟩) (GrowsAll.of ((GrowsAll.cons (Grows.isV _)  (GrowsAll.cons (Grows.isV _)  (GrowsAll.cons (Grows.isV _)  (GrowsAll.cons (Grows.isV _)  (GrowsAll.cons (Grows.isV _)  (GrowsAll.cons (Grows.isV _)  (GrowsAll.cons (Grows.isV _)  (GrowsAll.cons (Grows.isV _)  (GrowsAll.cons (Grows.isV _) GrowsAll.nil))))))))))) (fun f F hF => ?_)
    simp only [List.take_succ_cons, List.take_zero, fullGo, Act.put, List.setIfInBounds_toArray, List.set_cons_zero, List.set_cons_succ, Nat.reduceAdd] at hF
    subst hF
    refine ⟨StepObsF.cons ?_ (StepObsF.cons ?_ (StepObsF.cons ?_ (StepObsF.cons ?_ (StepObsF.cons ?_ (StepObsF.cons ?_ (StepObsF.cons ?_ (StepObsF.cons ?_ (StepObsF.cons ?_ (StepObsF.nil))))))))), ?_⟩
    · intro w5 hS hF hD K hK
      rw [if_pos (by rfl)]
      exact wp_of_quiet (exec_load_at _ _ rfl _ _ rfl _ _ _ (hS.2.heap HW.out.2.2.1 hn2) ((.pointer (some ⟨L.gs, 0, none⟩))) (by kernel_rfl) (fun _ => by kernel_rfl)) (hK.out _ _ rfl (After.lit rfl rfl rfl (by first | rfl | kernel_rfl)))
    · intro w5 hS hF hD K hK
      obtain ⟨e0, -⟩ := hF
      replace e0 : f 0 = _ := e0
      try simp only [e0]
      rw [if_pos (by rfl)]
      refine wp_of_quiet (v := (.pointer (some ⟨L.gs, 0, none⟩))) (by (show _ = _); kernel_rfl) (hK.out _ _ rfl (After.lit rfl rfl rfl ?_))
      first | rfl | kernel_rfl
    · intro w5 hS hF hD K hK
      obtain ⟨e1, -⟩ := hF
      replace e1 : f 1 = _ := e1
      try simp only [e1]
      rw [if_pos (by rfl)]
      refine wp_of_quiet (v := (.pointer (some ⟨L.gs, 1, none⟩))) (by (show _ = _); kernel_rfl) (hK.out _ _ rfl (After.lit rfl rfl rfl ?_))
      first | rfl | kernel_rfl
    · intro w5 hS hF hD K hK
      obtain ⟨e2, -⟩ := hF
      replace e2 : f 2 = _ := e2
      try simp only [e2]
      rw [if_pos (by rfl)]
      exact wp_of_quiet (exec_load_at _ _ rfl _ _ rfl _ _ _ (hS.1.s) ((.slice (some ⟨L.go, 0, none⟩) L.n L.co)) (by kernel_rfl) (fun _ => by kernel_rfl)) (hK.out _ _ rfl (After.lit rfl rfl rfl (by first | rfl | kernel_rfl)))
    · intro w5 hS hF hD K hK
      rw [if_pos (by rfl)]
      exact wp_of_quiet (exec_load_at _ _ rfl _ _ rfl _ _ _ (hS.2.heap HW.out.2.2.1 hn2) ((.pointer (some ⟨L.gs, 0, none⟩))) (by kernel_rfl) (fun _ => by kernel_rfl)) (hK.out _ _ rfl (After.lit rfl rfl rfl (by first | rfl | kernel_rfl)))
    · intro w5 hS hF hD K hK
      rw [if_pos (by rfl)]
      refine wp_of_quiet (v := (.pointer (some ⟨w.heap.size + 1, 1, none⟩))) (by (show _ = _); kernel_rfl) (hK.out _ _ rfl (After.lit rfl rfl rfl ?_))
      first | rfl | kernel_rfl
    · intro w5 hS hF hD K hK
      obtain ⟨e5, -⟩ := hF
      replace e5 : f 5 = _ := e5
      try simp only [e5]
      rw [if_pos (by rfl)]
      exact wp_of_quiet (exec_load_at _ _ rfl _ _ rfl _ _ _ (hS.2.heap HW.out.2.2.2 hn3) ((.int .i64 (a : Int))) (by kernel_rfl) (fun _ => by kernel_rfl)) (hK.out _ _ rfl (After.lit rfl rfl rfl (by first | rfl | kernel_rfl)))
    · intro w5 hS hF hD K hK
      obtain ⟨e4, e6, -⟩ := hF
      replace e4 : f 4 = _ := e4
      replace e6 : f 6 = _ := e6
      try simp only [e4, e6]
      rw [if_pos (by rfl)]
      go_simp
      refine (find_nat L _ hS.1 a r ha HRT.out).mono ?_; rintro e w3 ⟨rfl, hs3, ht3⟩; go_simp
      refine hK.out _ _ rfl (After.litS rfl rfl rfl (ht3.size) (⟨hs3, hS.2.trans ht3 (fun _ _ e => e)⟩) (StaysW.isV (StaysW.isV (StaysW.isV (StaysW.isV (StaysW.isV (StaysW.isV (StaysW.isV (StaysW.isV (StaysW.isV StaysW.nil))))))))) ?_)
      first | rfl | kernel_rfl
    · intro w5 hS hF hD K hK
      obtain ⟨e3, e7, -⟩ := hF
      replace e3 : f 3 = _ := e3
      replace e7 : f 7 = _ := e7
      try simp only [e3, e7]
      rw [if_pos (by rfl)]
      go_simp
      refine hK.out _ _ rfl (After.lit rfl rfl rfl ?_)
      first | rfl | kernel_rfl
    intro w5 hS hF
    obtain ⟨e8, -⟩ := hF
    replace e8 : f 8 = _ := e8
    try simp only [e8]
    simp only [List.drop_succ_cons, List.drop_zero]
    have HS := Lib.hid hS.1
    have HT := Lib.hid hS.2
    clear hS
    go_wp2
    go_meet
    case rel => exact ⟨rfl, HS, Lib.hid (HW.out.1.trans HT.out (fun x _ e => .inr (.inl e))), Lib.hid (HT.out.heap HW.out.2.2.1 hn2), Lib.hid (HT.out.heap HW.out.2.2.2 hn3)⟩
  case rest =>
    obtain ⟨rfl, HS, HT, HB2, HB3⟩ := hcut
    clear HW hn2 hn3 hn4 hgo0 hol hou hoo
    have c2 := cell_of_one HB2.out
    have k0 : wc.cell? ⟨w.heap.size + 1, 0, none⟩ = some (.int .i64 3) := by rw [cell_of_row _ _ _ _ _ _ HB3.out]; rfl
    have k1 : wc.cell? ⟨w.heap.size + 1, 1, none⟩ = some (.int .i64 (a : Int)) := by rw [cell_of_row _ _ _ _ _ _ HB3.out]; rfl
    have k2 : wc.cell? ⟨w.heap.size + 1, 2, none⟩ = some (.int .i64 cb) := by rw [cell_of_row _ _ _ _ _ _ HB3.out]; rfl
    have k3 : wc.cell? ⟨w.heap.size + 1, 3, none⟩ = some (.int .i64 cn) := by rw [cell_of_row _ _ _ _ _ _ HB3.out]; rfl
    have hcl := HS.out.cls hrn
    have HCL := Lib.hid hcl
    obtain ⟨co, hgo, hco⟩ := HS.out.o
    have HO := Lib.hid (And.intro hgo (hco r hrn 1 (by omega)))
    clear hcl hgo hco
    have hns : ¬ w.heap.size = L.gs := fun e => by have := HB2.out; rw [e, HS.out.s] at this; simp at this
    have hns1 : ¬ w.heap.size + 1 = L.gs := fun e => by have := HB3.out; rw [e, HS.out.s] at this; simp at this
    have hogs : ¬ L.go = L.gs := L.so.symm
    go_upto_region 10 with (fail)
    refine wp_region_relyU 0 _ (.pointer (some ⟨L.go, r * 6, none⟩)) [] 9 (factOf [isVs [(.pointer (some ⟨L.go, r * 6, none⟩))] (SolW L rt of clash), isV ((.pointer (some ⟨L.gs, 0, none⟩))), isV ((.pointer (some ⟨L.go, r * 6, none⟩))), isV ((.pointer (some ⟨L.go, r * 6, none⟩))), isV ((.pointer (some ⟨L.go, r * 6 + 1, none⟩))), isV ((.int .i64 (of r).sign)), isV ((.pointer (some ⟨w.heap.size + 1, 0, none⟩))), isV ((.int .i64 3)), isVs [(.pointer (some ⟨L.go, r * 6, none⟩)), (.int .i64 (agreeV (of r).sign 3))] (SolW L rt of (agreeC clash (of r).sign 3))]) (nth [[0], [1], [2], [3], [4], [5], [6], [7], [0, 8]]) (nth [[], [], [], [], [], [], [], [], [0]]) (nth [[], [], [], [2], [3], [4], [], [6], [0, 1, 5, 7]]) [8] (fun w5 => Turn (fun k => k = L.gs) wc w5) (by kernel_rfl) (by kernel_rfl) rfl (by kernel_rfl) (by kernel_rfl) (by kernel_rfl) (fun _ _ _ h => h) ⟨by rfl, fun w => by rfl⟩ (⟨by rfl, HS.out.drew⟩) ((Turn.refl _ _).drew) (fun w w' h hb => h.trans (Turn.ofBelow (bs := fun _ => False) hb) (fun _ _ h => h.elim)) (GrowsAll.of ((GrowsAll.cons (Grows.isVs _ (SolW.grow))  (GrowsAll.cons (Grows.isV _)  (GrowsAll.cons (Grows.isV _)  (GrowsAll.cons (Grows.isV _)  (GrowsAll.cons (Grows.isV _)  (GrowsAll.cons (Grows.isV _)  (GrowsAll.cons (Grows.isV _)  (GrowsAll.cons (Grows.isV _)  (GrowsAll.cons (Grows.isVs _ (SolW.grow)) GrowsAll.nil))))))))))) (fun f F hF => ?_)
    simp only [List.take_succ_cons, List.take_zero, fullGo, Act.put, List.setIfInBounds_toArray, List.set_cons_zero, List.set_cons_succ, Nat.reduceAdd] at hF
    subst hF
    refine ⟨StepObsF.skip (by rfl) (StepObsF.cons ?_ (StepObsF.cons ?_ (StepObsF.cons ?_ (StepObsF.cons ?_ (StepObsF.cons ?_ (StepObsF.cons ?_ (StepObsF.cons ?_ (StepObsF.cons ?_ (StepObsF.nil))))))))), ?_⟩
    · intro w5 hS hF hD K hK
      rw [if_pos (by rfl)]
      exact wp_of_quiet (exec_load_at _ _ rfl _ _ rfl _ _ _ (hS.heap HB2.out hns) ((.pointer (some ⟨L.gs, 0, none⟩))) (by kernel_rfl) (fun _ => by kernel_rfl)) (hK.out _ _ rfl (After.lit rfl rfl rfl (by first | rfl | kernel_rfl)))
    · intro w5 hS hF hD K hK
      rw [if_pos (by rfl)]
      refine wp_of_quiet (v := (.pointer (some ⟨L.go, r * 6, none⟩))) (by (show _ = _); kernel_rfl) (hK.out _ _ rfl (After.lit rfl rfl rfl ?_))
      first | rfl | kernel_rfl
    · intro w5 hS hF hD K hK
      obtain ⟨e2, -⟩ := hF
      replace e2 : f 2 = _ := e2
      try simp only [e2]
      rw [if_pos (by rfl)]
      refine wp_of_quiet (v := (.pointer (some ⟨L.go, r * 6, none⟩))) (by (show _ = _); kernel_rfl) (hK.out _ _ rfl (After.lit rfl rfl rfl ?_))
      first | rfl | kernel_rfl
    · intro w5 hS hF hD K hK
      obtain ⟨e3, -⟩ := hF
      replace e3 : f 3 = _ := e3
      try simp only [e3]
      rw [if_pos (by rfl)]
      refine wp_of_quiet (v := (.pointer (some ⟨L.go, r * 6 + 1, none⟩))) (by (show _ = _); kernel_rfl) (hK.out _ _ rfl (After.lit rfl rfl rfl ?_))
      first | rfl | kernel_rfl
    · intro w5 hS hF hD K hK
      obtain ⟨e4, -⟩ := hF
      replace e4 : f 4 = _ := e4
      try simp only [e4]
      rw [if_pos (by rfl)]
      exact wp_of_quiet (exec_load_at _ _ rfl _ _ rfl _ _ _ (hS.heap HO.out.1 hogs) ((.int .i64 (of r).sign)) (HO.out.2) (fun _ => by kernel_rfl)) (hK.out _ _ rfl (After.lit rfl rfl rfl (by first | rfl | kernel_rfl)))
    · intro w5 hS hF hD K hK
      rw [if_pos (by rfl)]
      refine wp_of_quiet (v := (.pointer (some ⟨w.heap.size + 1, 0, none⟩))) (by (show _ = _); kernel_rfl) (hK.out _ _ rfl (After.lit rfl rfl rfl ?_))
      first | rfl | kernel_rfl
    · intro w5 hS hF hD K hK
      obtain ⟨e6, -⟩ := hF
      replace e6 : f 6 = _ := e6
      try simp only [e6]
      rw [if_pos (by rfl)]
      exact wp_of_quiet (exec_load_at _ _ rfl _ _ rfl _ _ _ (hS.heap HB3.out hns1) ((.int .i64 3)) (by kernel_rfl) (fun _ => by kernel_rfl)) (hK.out _ _ rfl (After.lit rfl rfl rfl (by first | rfl | kernel_rfl)))
    · intro w5 hS hF hD K hK
      obtain ⟨e0, e1, e5, e7, -⟩ := hF
      obtain ⟨e0, p0⟩ := e0
      replace e0 : [f 0] = _ := e0
      simp only [List.cons.injEq, and_true] at e0
      have q0_0 := e0
      replace e1 : f 1 = _ := e1
      replace e5 : f 5 = _ := e5
      replace e7 : f 7 = _ := e7
      try simp only [q0_0, e1, e5, e7]
      rw [if_pos (by rfl)]
      go_simp
      refine (agree_any L _ p0 (of r).sign 3).mono ?_; rintro e w3 ⟨rfl, hs3, ht3⟩; go_simp
      refine hK.out _ _ rfl (After.gen rfl rfl rfl rfl (ht3.size) (hS.trans ht3 (fun _ _ e => e)) (StaysE.out (by rfl) (StaysE.isV (StaysE.isV (StaysE.isV (StaysE.isV (StaysE.isV (StaysE.isV (StaysE.isV (StaysE.out (by rfl) StaysE.nil))))))))) (hs3) ?_)
      show [f 0, _] = _
      rw [q0_0]
      first | rfl | kernel_rfl
    intro w5 hS hF
    obtain ⟨e8, -⟩ := hF
    obtain ⟨e8, p8⟩ := e8
    replace e8 : [f 0, f 8] = _ := e8
    simp only [List.cons.injEq, and_true] at e8
    obtain ⟨q8_0, q8_8⟩ := e8
    try simp only [q8_0, q8_8]
    simp only [List.drop_succ_cons, List.drop_zero]
    have HS5 := Lib.hid p8
    have HT5 := Lib.hid hS
    have xx := p8.cls hrn
    have x1 := xx.2.1
    have f1' := p8.ofree (r * 6 + 1)
    clear hS p8 q8_0 q8_8 xx
    go_wp2
    go_end0
    refine ⟨rfl, (HT.out.trans HT5.out (fun _ _ e => .inl e)).setCell (g := L.go) _ (fun _ => .inr (.inr (.inl rfl))), _, _, _, ?_, HS5.out.set1 hrn _⟩
    have := HI.out.add_sign HC.out HRP.out.1 (.inl rfl)
    simp only at this
    rw [HRT.out] at this
    exact this
end Go.Proofs.YtepmgnhblegiiaaDoor

/- add of the solver, constraints of kind 4. No condition beyond what each states. -/
namespace Go.Proofs.YtepmgnhblegiiaaDoor
open Go Go.RowKit Go.Maps

set_option maxRecDepth 100000 in
set_option maxHeartbeats 2000000 in
theorem add_4 (cs ps : List Con) (L : Lay) (hR : ∀ c ∈ cs, rightS L.n c = true) (rt : Int → Int) (of : Int → Cls) (clash : Bool) (w : World) (c : Con) (hc : c ∈ cs) (hk : c.kind = 4) (hinv : Inv L.n cs ps rt of clash []) (h : SolW L rt of clash w) :
    Calls Tryd.prog 40 #[.pointer (some ⟨L.gs, 0, none⟩), .agg (conCells c)] w (AddPost cs ps L c w) := by
  have hrp := rightS_parts (hR c hc)
  have hroot := hinv.at_root hc hrp.1
  obtain ⟨kind, ca, cb, cn⟩ := c
  simp only at hk hrp hroot
  subst hk
  obtain ⟨a, rfl⟩ := Int.eq_ofNat_of_zero_le hrp.1.1
  obtain ⟨r, hr⟩ := Int.eq_ofNat_of_zero_le hroot.1.1
  have ha : a < L.n := by omega
  have hrn : r < L.n := by omega
  have hlim := L.lim
  change Calls _ _ #[.pointer (some ⟨L.gs, 0, none⟩), .agg #[.int .i64 4, .int .i64 (a : Int), .int .i64 cb, .int .i64 cn]] w _
  have H := Lib.hid h
  have HI := Lib.hid hinv
  have HR := Lib.hid hR
  have HC := Lib.hid hc
  have HRP := Lib.hid hrp
  have HRT := Lib.hid hr
  have HROOT := Lib.hid hroot
  clear h hinv hR hc hrp hr hroot
  obtain ⟨W, hW⟩ : ∃ W, W = (w.alloc (.cells #[.pointer (some ⟨L.gs, 0, none⟩)] 56)).alloc (.cells #[.int .i64 4, .int .i64 (a : Int), .int .i64 cb, .int .i64 cn] 37) := ⟨_, rfl⟩
  have hT : Turn L.own w W := by rw [hW]; exact ((Turn.refl _ _).alloc _).alloc _
  have hS : SolW L rt of clash W := by rw [hW]; exact (H.out.alloc _).alloc _
  have b1 : W.heap[w.heap.size]? = some (.cells #[.pointer (some ⟨L.gs, 0, none⟩)] 56 (0, 0)) := by
    rw [hW, alloc_other _ _ (by simp)]; exact heap_alloc_new _ _
  have b2 : W.heap[w.heap.size + 1]? = some (.cells #[.int .i64 4, .int .i64 (a : Int), .int .i64 cb, .int .i64 cn] 37 (0, 0)) := by
    have := heap_alloc_new (w.alloc (.cells #[.pointer (some ⟨L.gs, 0, none⟩)] 56)) (.cells #[.int .i64 4, .int .i64 (a : Int), .int .i64 cb, .int .i64 cn] 37)
    rw [hW]; simpa using this
  have HW := Lib.hid (And.intro hT (And.intro hS (And.intro b1 b2)))
  rw [hW] at HW
  clear hT hS b1 b2 hW W
  have hgo0 : ¬ L.gu = L.gs := L.su.symm
  have hol := H.out.lt (.inl rfl)
  have hou := H.out.lt (.inr (.inl rfl))
  have hoo := H.out.lt (.inr (.inr (.inl rfl)))
  have hn2 : ¬ w.heap.size = L.gu := by omega
  have hn3 : ¬ w.heap.size + 1 = L.gu := by omega
  have hn4 : ¬ L.gs = L.gu := L.su
  go_enter Tryd.func40, Tryd.ntmps40
  go_upto_region 1 with (fail)
  go_cut [4] (fun s4 wx => s4 = .pointer (some ⟨L.go, r * 6, none⟩) ∧ Hid (SolW L rt of clash wx) ∧ Hid (Turn L.own w wx) ∧ Hid (wx.heap[w.heap.size]? = some (.cells #[.pointer (some ⟨L.gs, 0, none⟩)] 56 (0, 0))) ∧ Hid (wx.heap[w.heap.size + 1]? = some (.cells #[.int .i64 4, .int .i64 (a : Int), .int .i64 cb, .int .i64 cn] 37 (0, 0))))
  case first =>
    refine wp_region_relyT [] 9 (factOf [isV ((.pointer (some ⟨L.gs, 0, none⟩))), isV ((.pointer (some ⟨L.gs, 0, none⟩))), isV ((.pointer (some ⟨L.gs, 1, none⟩))), isV ((.slice (some ⟨L.go, 0, none⟩) L.n L.co)), isV ((.pointer (some ⟨L.gs, 0, none⟩))), isV ((.pointer (some ⟨w.heap.size + 1, 1, none⟩))), isV ((.int .i64 (a : Int))), isV ((.int .i64 (r : Int))), isV ((.pointer (some ⟨L.go, r * 6, none⟩)))]) (nth [[0], [1], [2], [3], [4], [5], [6], [7], [8]]) (nth [[], [], [], [], [], [], [], [], []]) (nth [[], [0], [1], [2], [], [], [5], [4, 6], [3, 7]]) [8] (fun w5 => SolW L rt of clash w5 ∧ Turn (fun k => k = L.gu) ((w.alloc (.cells #[.pointer (some ⟨L.gs, 0, none⟩)] 56)).alloc (.cells #[.int .i64 4, .int .i64 (a : Int), .int .i64 cb, .int .i64 cn] 37)) w5) (by kernel_rfl) (by kernel_rfl) (⟨HW.out.2.1.drew, (Turn.refl _ _).drew⟩) (fun w w' h hb => ⟨h.1.turn (Turn.ofBelow (bs := fun _ => False) hb) (fun _ h => h.elim), h.2.trans (Turn.ofBelow (bs := fun _ => False) hb) (fun _ _ h => h.elim)⟩) (GrowsAll.of ((GrowsAll.cons (Grows.isV _)  (GrowsAll.cons (Grows.isV _)  (GrowsAll.cons (Grows.isV _)  (GrowsAll.cons (Grows.isV _)  (GrowsAll.cons (Grows.isV _)  (GrowsAll.cons (Grows.isV _)  (GrowsAll.cons (Grows.isV _)  (GrowsAll.cons (Grows.isV _)  (GrowsAll.cons (Grows.isV _) GrowsAll.nil))))))))))) (fun f F hF => ?_)
    simp only [List.take_succ_cons, List.take_zero, fullGo, Act.put, List.setIfInBounds_toArray, List.set_cons_zero, List.set_cons_succ, Nat.reduceAdd] at hF
    subst hF
    refine ⟨StepObsF.cons ?_ (StepObsF.cons ?_ (StepObsF.cons ?_ (StepObsF.cons ?_ (StepObsF.cons ?_ (StepObsF.cons ?_ (StepObsF.cons ?_ (StepObsF.cons ?_ (StepObsF.cons ?_ (StepObsF.nil))))))))), ?_⟩
    · intro w5 hS hF hD K hK
      rw [if_pos (by rfl)]
      exact wp_of_quiet (exec_load_at _ _ rfl _ _ rfl _ _ _ (hS.2.heap HW.out.2.2.1 hn2) ((.pointer (some ⟨L.gs, 0, none⟩))) (by kernel_rfl) (fun _ => by kernel_rfl)) (hK.out _ _ rfl (After.lit rfl rfl rfl (by first | rfl | kernel_rfl)))
    · intro w5 hS hF hD K hK
      obtain ⟨e0, -⟩ := hF
      replace e0 : f 0 = _ := e0
      try simp only [e0]
      rw [if_pos (by rfl)]
      refine wp_of_quiet (v := (.pointer (some ⟨L.gs, 0, none⟩))) (by (show _ = _); kernel_rfl) (hK.out _ _ rfl (After.lit rfl rfl rfl ?_))
      first | rfl | kernel_rfl
    · intro w5 hS hF hD K hK
      obtain ⟨e1, -⟩ := hF
      replace e1 : f 1 = _ := e1
      try simp only [e1]
      rw [if_pos (by rfl)]
      refine wp_of_quiet (v := (.pointer (some ⟨L.gs, 1, none⟩))) (by (show _ = _); kernel_rfl) (hK.out _ _ rfl (After.lit rfl rfl rfl ?_))
      first | rfl | kernel_rfl
    · intro w5 hS hF hD K hK
      obtain ⟨e2, -⟩ := hF
      replace e2 : f 2 = _ := e2
      try simp only [e2]
      rw [if_pos (by rfl)]
      exact wp_of_quiet (exec_load_at _ _ rfl _ _ rfl _ _ _ (hS.1.s) ((.slice (some ⟨L.go, 0, none⟩) L.n L.co)) (by kernel_rfl) (fun _ => by kernel_rfl)) (hK.out _ _ rfl (After.lit rfl rfl rfl (by first | rfl | kernel_rfl)))
    · intro w5 hS hF hD K hK
      rw [if_pos (by rfl)]
      exact wp_of_quiet (exec_load_at _ _ rfl _ _ rfl _ _ _ (hS.2.heap HW.out.2.2.1 hn2) ((.pointer (some ⟨L.gs, 0, none⟩))) (by kernel_rfl) (fun _ => by kernel_rfl)) (hK.out _ _ rfl (After.lit rfl rfl rfl (by first | rfl | kernel_rfl)))
    · intro w5 hS hF hD K hK
      rw [if_pos (by rfl)]
      refine wp_of_quiet (v := (.pointer (some ⟨w.heap.size + 1, 1, none⟩))) (by (show _ = _); kernel_rfl) (hK.out _ _ rfl (After.lit rfl rfl rfl ?_))
      first | rfl | kernel_rfl
    · intro w5 hS hF hD K hK
      obtain ⟨e5, -⟩ := hF
      replace e5 : f 5 = _ := e5
      try simp only [e5]
      rw [if_pos (by rfl)]
      exact wp_of_quiet (exec_load_at _ _ rfl _ _ rfl _ _ _ (hS.2.heap HW.out.2.2.2 hn3) ((.int .i64 (a : Int))) (by kernel_rfl) (fun _ => by kernel_rfl)) (hK.out _ _ rfl (After.lit rfl rfl rfl (by first | rfl | kernel_rfl)))
    · intro w5 hS hF hD K hK
      obtain ⟨e4, e6, -⟩ := hF
      replace e4 : f 4 = _ := e4
      replace e6 : f 6 = _ := e6
      try simp only [e4, e6]
      rw [if_pos (by rfl)]
      go_simp
      refine (find_nat L _ hS.1 a r ha HRT.out).mono ?_; rintro e w3 ⟨rfl, hs3, ht3⟩; go_simp
      refine hK.out _ _ rfl (After.litS rfl rfl rfl (ht3.size) (⟨hs3, hS.2.trans ht3 (fun _ _ e => e)⟩) (StaysW.isV (StaysW.isV (StaysW.isV (StaysW.isV (StaysW.isV (StaysW.isV (StaysW.isV (StaysW.isV (StaysW.isV StaysW.nil))))))))) ?_)
      first | rfl | kernel_rfl
    · intro w5 hS hF hD K hK
      obtain ⟨e3, e7, -⟩ := hF
      replace e3 : f 3 = _ := e3
      replace e7 : f 7 = _ := e7
      try simp only [e3, e7]
      rw [if_pos (by rfl)]
      go_simp
      refine hK.out _ _ rfl (After.lit rfl rfl rfl ?_)
      first | rfl | kernel_rfl
    intro w5 hS hF
    obtain ⟨e8, -⟩ := hF
    replace e8 : f 8 = _ := e8
    try simp only [e8]
    simp only [List.drop_succ_cons, List.drop_zero]
    have HS := Lib.hid hS.1
    have HT := Lib.hid hS.2
    clear hS
    go_wp2
    go_meet
    case rel => exact ⟨rfl, HS, Lib.hid (HW.out.1.trans HT.out (fun x _ e => .inr (.inl e))), Lib.hid (HT.out.heap HW.out.2.2.1 hn2), Lib.hid (HT.out.heap HW.out.2.2.2 hn3)⟩
  case rest =>
    obtain ⟨rfl, HS, HT, HB2, HB3⟩ := hcut
    clear HW hn2 hn3 hn4 hgo0 hol hou hoo
    have c2 := cell_of_one HB2.out
    have k0 : wc.cell? ⟨w.heap.size + 1, 0, none⟩ = some (.int .i64 4) := by rw [cell_of_row _ _ _ _ _ _ HB3.out]; rfl
    have k1 : wc.cell? ⟨w.heap.size + 1, 1, none⟩ = some (.int .i64 (a : Int)) := by rw [cell_of_row _ _ _ _ _ _ HB3.out]; rfl
    have k2 : wc.cell? ⟨w.heap.size + 1, 2, none⟩ = some (.int .i64 cb) := by rw [cell_of_row _ _ _ _ _ _ HB3.out]; rfl
    have k3 : wc.cell? ⟨w.heap.size + 1, 3, none⟩ = some (.int .i64 cn) := by rw [cell_of_row _ _ _ _ _ _ HB3.out]; rfl
    have hcl := HS.out.cls hrn
    have HCL := Lib.hid hcl
    obtain ⟨co, hgo, hco⟩ := HS.out.o
    have HO := Lib.hid (And.intro hgo (hco r hrn 1 (by omega)))
    clear hcl hgo hco
    have hns : ¬ w.heap.size = L.gs := fun e => by have := HB2.out; rw [e, HS.out.s] at this; simp at this
    have hns1 : ¬ w.heap.size + 1 = L.gs := fun e => by have := HB3.out; rw [e, HS.out.s] at this; simp at this
    have hogs : ¬ L.go = L.gs := L.so.symm
    go_upto_region 10 with (fail)
    refine wp_region_relyU 0 _ (.pointer (some ⟨L.go, r * 6, none⟩)) [] 9 (factOf [isVs [(.pointer (some ⟨L.go, r * 6, none⟩))] (SolW L rt of clash), isV ((.pointer (some ⟨L.gs, 0, none⟩))), isV ((.pointer (some ⟨L.go, r * 6, none⟩))), isV ((.pointer (some ⟨L.go, r * 6, none⟩))), isV ((.pointer (some ⟨L.go, r * 6 + 1, none⟩))), isV ((.int .i64 (of r).sign)), isV ((.pointer (some ⟨w.heap.size + 1, 0, none⟩))), isV ((.int .i64 4)), isVs [(.pointer (some ⟨L.go, r * 6, none⟩)), (.int .i64 (agreeV (of r).sign 4))] (SolW L rt of (agreeC clash (of r).sign 4))]) (nth [[0], [1], [2], [3], [4], [5], [6], [7], [0, 8]]) (nth [[], [], [], [], [], [], [], [], [0]]) (nth [[], [], [], [2], [3], [4], [], [6], [0, 1, 5, 7]]) [8] (fun w5 => Turn (fun k => k = L.gs) wc w5) (by kernel_rfl) (by kernel_rfl) rfl (by kernel_rfl) (by kernel_rfl) (by kernel_rfl) (fun _ _ _ h => h) ⟨by rfl, fun w => by rfl⟩ (⟨by rfl, HS.out.drew⟩) ((Turn.refl _ _).drew) (fun w w' h hb => h.trans (Turn.ofBelow (bs := fun _ => False) hb) (fun _ _ h => h.elim)) (GrowsAll.of ((GrowsAll.cons (Grows.isVs _ (SolW.grow))  (GrowsAll.cons (Grows.isV _)  (GrowsAll.cons (Grows.isV _)  (GrowsAll.cons (Grows.isV _)  (GrowsAll.cons (Grows.isV _)  (GrowsAll.cons (Grows.isV _)  (GrowsAll.cons (Grows.isV _)  (GrowsAll.cons (Grows.isV _)  (GrowsAll.cons (Grows.isVs _ (SolW.grow)) GrowsAll.nil))))))))))) (fun f F hF => ?_)
    simp only [List.take_succ_cons, List.take_zero, fullGo, Act.put, List.setIfInBounds_toArray, List.set_cons_zero, List.set_cons_succ, Nat.reduceAdd] at hF
    subst hF
    refine ⟨StepObsF.skip (by rfl) (StepObsF.cons ?_ (StepObsF.cons ?_ (StepObsF.cons ?_ (StepObsF.cons ?_ (StepObsF.cons ?_ (StepObsF.cons ?_ (StepObsF.cons ?_ (StepObsF.cons ?_ (StepObsF.nil))))))))), ?_⟩
    · intro w5 hS hF hD K hK
      rw [if_pos (by rfl)]
      exact wp_of_quiet (exec_load_at _ _ rfl _ _ rfl _ _ _ (hS.heap HB2.out hns) ((.pointer (some ⟨L.gs, 0, none⟩))) (by kernel_rfl) (fun _ => by kernel_rfl)) (hK.out _ _ rfl (After.lit rfl rfl rfl (by first | rfl | kernel_rfl)))
    · intro w5 hS hF hD K hK
      rw [if_pos (by rfl)]
      refine wp_of_quiet (v := (.pointer (some ⟨L.go, r * 6, none⟩))) (by (show _ = _); kernel_rfl) (hK.out _ _ rfl (After.lit rfl rfl rfl ?_))
      first | rfl | kernel_rfl
    · intro w5 hS hF hD K hK
      obtain ⟨e2, -⟩ := hF
      replace e2 : f 2 = _ := e2
      try simp only [e2]
      rw [if_pos (by rfl)]
      refine wp_of_quiet (v := (.pointer (some ⟨L.go, r * 6, none⟩))) (by (show _ = _); kernel_rfl) (hK.out _ _ rfl (After.lit rfl rfl rfl ?_))
      first | rfl | kernel_rfl
    · intro w5 hS hF hD K hK
      obtain ⟨e3, -⟩ := hF
      replace e3 : f 3 = _ := e3
      try simp only [e3]
      rw [if_pos (by rfl)]
      refine wp_of_quiet (v := (.pointer (some ⟨L.go, r * 6 + 1, none⟩))) (by (show _ = _); kernel_rfl) (hK.out _ _ rfl (After.lit rfl rfl rfl ?_))
      first | rfl | kernel_rfl
    · intro w5 hS hF hD K hK
      obtain ⟨e4, -⟩ := hF
      replace e4 : f 4 = _ := e4
      try simp only [e4]
      rw [if_pos (by rfl)]
      exact wp_of_quiet (exec_load_at _ _ rfl _ _ rfl _ _ _ (hS.heap HO.out.1 hogs) ((.int .i64 (of r).sign)) (HO.out.2) (fun _ => by kernel_rfl)) (hK.out _ _ rfl (After.lit rfl rfl rfl (by first | rfl | kernel_rfl)))
    · intro w5 hS hF hD K hK
      rw [if_pos (by rfl)]
      refine wp_of_quiet (v := (.pointer (some ⟨w.heap.size + 1, 0, none⟩))) (by (show _ = _); kernel_rfl) (hK.out _ _ rfl (After.lit rfl rfl rfl ?_))
      first | rfl | kernel_rfl
    · intro w5 hS hF hD K hK
      obtain ⟨e6, -⟩ := hF
      replace e6 : f 6 = _ := e6
      try simp only [e6]
      rw [if_pos (by rfl)]
      exact wp_of_quiet (exec_load_at _ _ rfl _ _ rfl _ _ _ (hS.heap HB3.out hns1) ((.int .i64 4)) (by kernel_rfl) (fun _ => by kernel_rfl)) (hK.out _ _ rfl (After.lit rfl rfl rfl (by first | rfl | kernel_rfl)))
    · intro w5 hS hF hD K hK
      obtain ⟨e0, e1, e5, e7, -⟩ := hF
      obtain ⟨e0, p0⟩ := e0
      replace e0 : [f 0] = _ := e0
      simp only [List.cons.injEq, and_true] at e0
      have q0_0 := e0
      replace e1 : f 1 = _ := e1
      replace e5 : f 5 = _ := e5
      replace e7 : f 7 = _ := e7
      try simp only [q0_0, e1, e5, e7]
      rw [if_pos (by rfl)]
      go_simp
      refine (agree_any L _ p0 (of r).sign 4).mono ?_; rintro e w3 ⟨rfl, hs3, ht3⟩; go_simp
      refine hK.out _ _ rfl (After.gen rfl rfl rfl rfl (ht3.size) (hS.trans ht3 (fun _ _ e => e)) (StaysE.out (by rfl) (StaysE.isV (StaysE.isV (StaysE.isV (StaysE.isV (StaysE.isV (StaysE.isV (StaysE.isV (StaysE.out (by rfl) StaysE.nil))))))))) (hs3) ?_)
      show [f 0, _] = _
      rw [q0_0]
      first | rfl | kernel_rfl
    intro w5 hS hF
    obtain ⟨e8, -⟩ := hF
    obtain ⟨e8, p8⟩ := e8
    replace e8 : [f 0, f 8] = _ := e8
    simp only [List.cons.injEq, and_true] at e8
    obtain ⟨q8_0, q8_8⟩ := e8
    try simp only [q8_0, q8_8]
    simp only [List.drop_succ_cons, List.drop_zero]
    have HS5 := Lib.hid p8
    have HT5 := Lib.hid hS
    have xx := p8.cls hrn
    have x1 := xx.2.1
    have f1' := p8.ofree (r * 6 + 1)
    clear hS p8 q8_0 q8_8 xx
    go_wp2
    go_end0
    refine ⟨rfl, (HT.out.trans HT5.out (fun _ _ e => .inl e)).setCell (g := L.go) _ (fun _ => .inr (.inr (.inl rfl))), _, _, _, ?_, HS5.out.set1 hrn _⟩
    have := HI.out.add_sign HC.out HRP.out.1 (.inr rfl)
    simp only at this
    rw [HRT.out] at this
    exact this
end Go.Proofs.YtepmgnhblegiiaaDoor
