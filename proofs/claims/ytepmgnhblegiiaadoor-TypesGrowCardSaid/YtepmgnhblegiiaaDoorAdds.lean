/- add of the solver, constraints of kind 5. No condition beyond what each states. -/
import Derived.Test.YtepmgnhblegiiaaDoorAdd4
set_option linter.all false
namespace Go.Proofs.YtepmgnhblegiiaaDoor
open Go Go.RowKit Go.Maps

set_option maxRecDepth 100000 in
set_option maxHeartbeats 2000000 in
theorem add_5 (cs ps : List Con) (L : Lay) (hR : ∀ c ∈ cs, rightS L.n c = true) (rt : Int → Int) (of : Int → Cls) (clash : Bool) (w : World) (c : Con) (hc : c ∈ cs) (hk : c.kind = 5) (hinv : Inv L.n cs ps rt of clash []) (h : SolW L rt of clash w) :
    Calls Tryd.prog 40 #[.pointer (some ⟨L.gs, 0, none⟩), .agg (conCells c)] w (AddPost cs ps L c w) := by
  have hrp := rightS_parts (hR c hc)
  have hroot := hinv.at_root hc hrp.1
  obtain ⟨kind, ca, cb, cn⟩ := c
  simp only at hk hrp hroot
  subst hk
  obtain ⟨a, rfl⟩ := Int.eq_ofNat_of_zero_le hrp.1.1
  obtain ⟨r, hr⟩ := Int.eq_ofNat_of_zero_le hroot.1.1
  have ha : a < L.n := by omega
  have hrn : r < L.n := by omega
  have hlim := L.lim
  change Calls _ _ #[.pointer (some ⟨L.gs, 0, none⟩), .agg #[.int .i64 5, .int .i64 (a : Int), .int .i64 cb, .int .i64 cn]] w _
  have H := Lib.hid h
  have HI := Lib.hid hinv
  have HR := Lib.hid hR
  have HC := Lib.hid hc
  have HRP := Lib.hid hrp
  have HRT := Lib.hid hr
  have HROOT := Lib.hid hroot
  clear h hinv hR hc hrp hr hroot
  obtain ⟨W, hW⟩ : ∃ W, W = (w.alloc (.cells #[.pointer (some ⟨L.gs, 0, none⟩)] 56)).alloc (.cells #[.int .i64 5, .int .i64 (a : Int), .int .i64 cb, .int .i64 cn] 37) := ⟨_, rfl⟩
  have hT : Turn L.own w W := by rw [hW]; exact ((Turn.refl _ _).alloc _).alloc _
  have hS : SolW L rt of clash W := by rw [hW]; exact (H.out.alloc _).alloc _
  have b1 : W.heap[w.heap.size]? = some (.cells #[.pointer (some ⟨L.gs, 0, none⟩)] 56 (0, 0)) := by
    rw [hW, alloc_other _ _ (by simp)]; exact heap_alloc_new _ _
  have b2 : W.heap[w.heap.size + 1]? = some (.cells #[.int .i64 5, .int .i64 (a : Int), .int .i64 cb, .int .i64 cn] 37 (0, 0)) := by
    have := heap_alloc_new (w.alloc (.cells #[.pointer (some ⟨L.gs, 0, none⟩)] 56)) (.cells #[.int .i64 5, .int .i64 (a : Int), .int .i64 cb, .int .i64 cn] 37)
    rw [hW]; simpa using this
  have HW := Lib.hid (And.intro hT (And.intro hS (And.intro b1 b2)))
  rw [hW] at HW
  clear hT hS b1 b2 hW W
  have hgo0 : ¬ L.gu = L.gs := L.su.symm
  have hol := H.out.lt (.inl rfl)
  have hou := H.out.lt (.inr (.inl rfl))
  have hoo := H.out.lt (.inr (.inr (.inl rfl)))
  have hn2 : ¬ w.heap.size = L.gu := by omega
  have hn3 : ¬ w.heap.size + 1 = L.gu := by omega
  have hn4 : ¬ L.gs = L.gu := L.su
  go_enter Tryd.func40, Tryd.ntmps40
  go_upto_region 1 with (fail)
  go_cut [4] (fun s4 wx => s4 = .pointer (some ⟨L.go, r * 6, none⟩) ∧ Hid (SolW L rt of clash wx) ∧ Hid (Turn L.own w wx) ∧ Hid (wx.heap[w.heap.size]? = some (.cells #[.pointer (some ⟨L.gs, 0, none⟩)] 56 (0, 0))) ∧ Hid (wx.heap[w.heap.size + 1]? = some (.cells #[.int .i64 5, .int .i64 (a : Int), .int .i64 cb, .int .i64 cn] 37 (0, 0))))
  case first =>
    refine wp_region_relyT [] 9 (factOf [isV ((.pointer (some ⟨L.gs, 0, none⟩))), isV ((.pointer (some ⟨L.gs, 0, none⟩))), isV ((.pointer (some ⟨L.gs, 1, none⟩))), isV ((.slice (some ⟨L.go, 0, none⟩) L.n L.co)), isV ((.pointer (some ⟨L.gs, 0, none⟩))), isV ((.pointer (some ⟨w.heap.size + 1, 1, none⟩))), isV ((.int .i64 (a : Int))), isV ((.int .i64 (r : Int))), isV ((.pointer (some ⟨L.go, r * 6, none⟩)))]) (nth [[0], [1], [2], [3], [4], [5], [6], [7], [8]]) (nth [[], [], [], [], [], [], [], [], []]) (nth [[], [0], [1], [2], [], [], [5], [4, 6], [3, 7]]) [8] (fun w5 => SolW L rt of clash w5 ∧ Turn (fun k => k = L.gu) ((w.alloc (.cells #[.pointer (some ⟨L.gs, 0, none⟩)] 56)).alloc (.cells #[.int .i64 5, .int .i64 (a : Int), .int .i64 cb, .int .i64 cn] 37)) w5) (by kernel_rfl) (by kernel_rfl) (⟨HW.out.2.1.drew, (Turn.refl _ _).drew⟩) (fun w w' h hb => ⟨h.1.turn (Turn.ofBelow (bs := fun _ => False) hb) (fun _ h => h.elim), h.2.trans (Turn.ofBelow (bs := fun _ => False) hb) (fun _ _ h => h.elim)⟩) (GrowsAll.of ((GrowsAll.cons (Grows.isV _)  (GrowsAll.cons (Grows.isV _)  (GrowsAll.cons (Grows.isV _)  (GrowsAll.cons (Grows.isV _)  (GrowsAll.cons (Grows.isV _)  (GrowsAll.cons (Grows.isV _)  (GrowsAll.cons (Grows.isV _)  (GrowsAll.cons (Grows.isV _)  (GrowsAll.cons (Grows.isV _) GrowsAll.nil))))))))))) (fun f F hF => ?_)
    simp only [List.take_succ_cons, List.take_zero, fullGo, Act.put, List.setIfInBounds_toArray, List.set_cons_zero, List.set_cons_succ, Nat.reduceAdd] at hF
    subst hF
    refine ⟨StepObsF.cons ?_ (StepObsF.cons ?_ (StepObsF.cons ?_ (StepObsF.cons ?_ (StepObsF.cons ?_ (StepObsF.cons ?_ (StepObsF.cons ?_ (StepObsF.cons ?_ (StepObsF.cons ?_ (StepObsF.nil))))))))), ?_⟩
    · intro w5 hS hF hD K hK
      rw [if_pos (by rfl)]
      exact wp_of_quiet (exec_load_at _ _ rfl _ _ rfl _ _ _ (hS.2.heap HW.out.2.2.1 hn2) ((.pointer (some ⟨L.gs, 0, none⟩))) (by kernel_rfl) (fun _ => by kernel_rfl)) (hK.out _ _ rfl (After.lit rfl rfl rfl (by first | rfl | kernel_rfl)))
    · intro w5 hS hF hD K hK
      obtain ⟨e0, -⟩ := hF
      replace e0 : f 0 = _ := e0
      try simp only [e0]
      rw [if_pos (by rfl)]
      refine wp_of_quiet (v := (.pointer (some ⟨L.gs, 0, none⟩))) (by (show _ = _); kernel_rfl) (hK.out _ _ rfl (After.lit rfl rfl rfl ?_))
      first | rfl | kernel_rfl
    · intro w5 hS hF hD K hK
      obtain ⟨e1, -⟩ := hF
      replace e1 : f 1 = _ := e1
      try simp only [e1]
      rw [if_pos (by rfl)]
      refine wp_of_quiet (v := (.pointer (some ⟨L.gs, 1, none⟩))) (by (show _ = _); kernel_rfl) (hK.out _ _ rfl (After.lit rfl rfl rfl ?_))
      first | rfl | kernel_rfl
    · intro w5 hS hF hD K hK
      obtain ⟨e2, -⟩ := hF
      replace e2 : f 2 = _ := e2
      try simp only [e2]
      rw [if_pos (by rfl)]
      exact wp_of_quiet (exec_load_at _ _ rfl _ _ rfl _ _ _ (hS.1.s) ((.slice (some ⟨L.go, 0, none⟩) L.n L.co)) (by kernel_rfl) (fun _ => by kernel_rfl)) (hK.out _ _ rfl (After.lit rfl rfl rfl (by first | rfl | kernel_rfl)))
    · intro w5 hS hF hD K hK
      rw [if_pos (by rfl)]
      exact wp_of_quiet (exec_load_at _ _ rfl _ _ rfl _ _ _ (hS.2.heap HW.out.2.2.1 hn2) ((.pointer (some ⟨L.gs, 0, none⟩))) (by kernel_rfl) (fun _ => by kernel_rfl)) (hK.out _ _ rfl (After.lit rfl rfl rfl (by first | rfl | kernel_rfl)))
    · intro w5 hS hF hD K hK
      rw [if_pos (by rfl)]
      refine wp_of_quiet (v := (.pointer (some ⟨w.heap.size + 1, 1, none⟩))) (by (show _ = _); kernel_rfl) (hK.out _ _ rfl (After.lit rfl rfl rfl ?_))
      first | rfl | kernel_rfl
    · intro w5 hS hF hD K hK
      obtain ⟨e5, -⟩ := hF
      replace e5 : f 5 = _ := e5
      try simp only [e5]
      rw [if_pos (by rfl)]
      exact wp_of_quiet (exec_load_at _ _ rfl _ _ rfl _ _ _ (hS.2.heap HW.out.2.2.2 hn3) ((.int .i64 (a : Int))) (by kernel_rfl) (fun _ => by kernel_rfl)) (hK.out _ _ rfl (After.lit rfl rfl rfl (by first | rfl | kernel_rfl)))
    · intro w5 hS hF hD K hK
      obtain ⟨e4, e6, -⟩ := hF
      replace e4 : f 4 = _ := e4
      replace e6 : f 6 = _ := e6
      try simp only [e4, e6]
      rw [if_pos (by rfl)]
      go_simp
      refine (find_nat L _ hS.1 a r ha HRT.out).mono ?_; rintro e w3 ⟨rfl, hs3, ht3⟩; go_simp
      refine hK.out _ _ rfl (After.litS rfl rfl rfl (ht3.size) (⟨hs3, hS.2.trans ht3 (fun _ _ e => e)⟩) (StaysW.isV (StaysW.isV (StaysW.isV (StaysW.isV (StaysW.isV (StaysW.isV (StaysW.isV (StaysW.isV (StaysW.isV StaysW.nil))))))))) ?_)
      first | rfl | kernel_rfl
    · intro w5 hS hF hD K hK
      obtain ⟨e3, e7, -⟩ := hF
      replace e3 : f 3 = _ := e3
      replace e7 : f 7 = _ := e7
      try simp only [e3, e7]
      rw [if_pos (by rfl)]
      go_simp
      refine hK.out _ _ rfl (After.lit rfl rfl rfl ?_)
      first | rfl | kernel_rfl
    intro w5 hS hF
    obtain ⟨e8, -⟩ := hF
    replace e8 : f 8 = _ := e8
    try simp only [e8]
    simp only [List.drop_succ_cons, List.drop_zero]
    have HS := Lib.hid hS.1
    have HT := Lib.hid hS.2
    clear hS
    go_wp2
    go_meet
    case rel => exact ⟨rfl, HS, Lib.hid (HW.out.1.trans HT.out (fun x _ e => .inr (.inl e))), Lib.hid (HT.out.heap HW.out.2.2.1 hn2), Lib.hid (HT.out.heap HW.out.2.2.2 hn3)⟩
  case rest =>
    obtain ⟨rfl, HS, HT, HB2, HB3⟩ := hcut
    clear HW hn2 hn3 hn4 hgo0 hol hou hoo
    have c2 := cell_of_one HB2.out
    have k0 : wc.cell? ⟨w.heap.size + 1, 0, none⟩ = some (.int .i64 5) := by rw [cell_of_row _ _ _ _ _ _ HB3.out]; rfl
    have k1 : wc.cell? ⟨w.heap.size + 1, 1, none⟩ = some (.int .i64 (a : Int)) := by rw [cell_of_row _ _ _ _ _ _ HB3.out]; rfl
    have k2 : wc.cell? ⟨w.heap.size + 1, 2, none⟩ = some (.int .i64 cb) := by rw [cell_of_row _ _ _ _ _ _ HB3.out]; rfl
    have k3 : wc.cell? ⟨w.heap.size + 1, 3, none⟩ = some (.int .i64 cn) := by rw [cell_of_row _ _ _ _ _ _ HB3.out]; rfl
    have hcl := HS.out.cls hrn
    have HCL := Lib.hid hcl
    obtain ⟨co, hgo, hco⟩ := HS.out.o
    have HO := Lib.hid (And.intro hgo (hco r hrn 0 (by omega)))
    clear hcl hgo hco
    have hns : ¬ w.heap.size = L.gs := fun e => by have := HB2.out; rw [e, HS.out.s] at this; simp at this
    have hns1 : ¬ w.heap.size + 1 = L.gs := fun e => by have := HB3.out; rw [e, HS.out.s] at this; simp at this
    have hogs : ¬ L.go = L.gs := L.so.symm
    go_upto_region 12 with (fail)
    go_cut [] (fun wx => Hid (SolW L rt (setCls of r { of r with size := agreeV (of r).size 2 }) (agreeC clash (of r).size 2) wx) ∧ Hid (Turn L.own w wx) ∧ Hid (wx.heap[w.heap.size]? = some (.cells #[.pointer (some ⟨L.gs, 0, none⟩)] 56 (0, 0))) ∧ Hid (wx.heap[w.heap.size + 1]? = some (.cells #[.int .i64 5, .int .i64 (a : Int), .int .i64 cb, .int .i64 cn] 37 (0, 0))))
    case first =>
      refine wp_region_relyU 0 _ (.pointer (some ⟨L.go, r * 6, none⟩)) [] 7 (factOf [isVs [(.pointer (some ⟨L.go, r * 6, none⟩))] (SolW L rt of clash), isV ((.pointer (some ⟨L.gs, 0, none⟩))), isV ((.pointer (some ⟨L.go, r * 6, none⟩))), isV ((.pointer (some ⟨L.go, r * 6, none⟩))), isV ((.pointer (some ⟨L.go, r * 6 + 0, none⟩))), isV ((.int .i64 (of r).size)), isVs [(.pointer (some ⟨L.go, r * 6, none⟩)), (.int .i64 (agreeV (of r).size 2))] (SolW L rt of (agreeC clash (of r).size 2))]) (nth [[0], [1], [2], [3], [4], [5], [0, 6]]) (nth [[], [], [], [], [], [], [0]]) (nth [[], [], [], [2], [3], [4], [0, 1, 5]]) [6] (fun w5 => Turn (fun k => k = L.gs) wc w5) (by kernel_rfl) (by kernel_rfl) rfl (by kernel_rfl) (by kernel_rfl) (by kernel_rfl) (fun _ _ _ h => h) ⟨by rfl, fun w => by rfl⟩ (⟨by rfl, HS.out.drew⟩) ((Turn.refl _ _).drew) (fun w w' h hb => h.trans (Turn.ofBelow (bs := fun _ => False) hb) (fun _ _ h => h.elim)) (GrowsAll.of ((GrowsAll.cons (Grows.isVs _ (SolW.grow))  (GrowsAll.cons (Grows.isV _)  (GrowsAll.cons (Grows.isV _)  (GrowsAll.cons (Grows.isV _)  (GrowsAll.cons (Grows.isV _)  (GrowsAll.cons (Grows.isV _)  (GrowsAll.cons (Grows.isVs _ (SolW.grow)) GrowsAll.nil))))))))) (fun f F hF => ?_)
      simp only [List.take_succ_cons, List.take_zero, fullGo, Act.put, List.setIfInBounds_toArray, List.set_cons_zero, List.set_cons_succ, Nat.reduceAdd] at hF
      subst hF
      refine ⟨StepObsF.skip (by rfl) (StepObsF.cons ?_ (StepObsF.cons ?_ (StepObsF.cons ?_ (StepObsF.cons ?_ (StepObsF.cons ?_ (StepObsF.cons ?_ (StepObsF.nil))))))), ?_⟩
      · intro w5 hS hF hD K hK
        rw [if_pos (by rfl)]
        exact wp_of_quiet (exec_load_at _ _ rfl _ _ rfl _ _ _ (hS.heap HB2.out hns) ((.pointer (some ⟨L.gs, 0, none⟩))) (by kernel_rfl) (fun _ => by kernel_rfl)) (hK.out _ _ rfl (After.lit rfl rfl rfl (by first | rfl | kernel_rfl)))
      · intro w5 hS hF hD K hK
        rw [if_pos (by rfl)]
        refine wp_of_quiet (v := (.pointer (some ⟨L.go, r * 6, none⟩))) (by (show _ = _); kernel_rfl) (hK.out _ _ rfl (After.lit rfl rfl rfl ?_))
        first | rfl | kernel_rfl
      · intro w5 hS hF hD K hK
        obtain ⟨e2, -⟩ := hF
        replace e2 : f 2 = _ := e2
        try simp only [e2]
        rw [if_pos (by rfl)]
        refine wp_of_quiet (v := (.pointer (some ⟨L.go, r * 6, none⟩))) (by (show _ = _); kernel_rfl) (hK.out _ _ rfl (After.lit rfl rfl rfl ?_))
        first | rfl | kernel_rfl
      · intro w5 hS hF hD K hK
        obtain ⟨e3, -⟩ := hF
        replace e3 : f 3 = _ := e3
        try simp only [e3]
        rw [if_pos (by rfl)]
        refine wp_of_quiet (v := (.pointer (some ⟨L.go, r * 6 + 0, none⟩))) (by (show _ = _); kernel_rfl) (hK.out _ _ rfl (After.lit rfl rfl rfl ?_))
        first | rfl | kernel_rfl
      · intro w5 hS hF hD K hK
        obtain ⟨e4, -⟩ := hF
        replace e4 : f 4 = _ := e4
        try simp only [e4]
        rw [if_pos (by rfl)]
        exact wp_of_quiet (exec_load_at _ _ rfl _ _ rfl _ _ _ (hS.heap HO.out.1 hogs) ((.int .i64 (of r).size)) (HO.out.2) (fun _ => by kernel_rfl)) (hK.out _ _ rfl (After.lit rfl rfl rfl (by first | rfl | kernel_rfl)))
      · intro w5 hS hF hD K hK
        obtain ⟨e0, e1, e5, -⟩ := hF
        obtain ⟨e0, p0⟩ := e0
        replace e0 : [f 0] = _ := e0
        simp only [List.cons.injEq, and_true] at e0
        have q0_0 := e0
        replace e1 : f 1 = _ := e1
        replace e5 : f 5 = _ := e5
        try simp only [q0_0, e1, e5]
        rw [if_pos (by rfl)]
        go_simp
        refine (agree_any L _ p0 (of r).size 2).mono ?_; rintro e w3 ⟨rfl, hs3, ht3⟩; go_simp
        refine hK.out _ _ rfl (After.gen rfl rfl rfl rfl (ht3.size) (hS.trans ht3 (fun _ _ e => e)) (StaysE.out (by rfl) (StaysE.isV (StaysE.isV (StaysE.isV (StaysE.isV (StaysE.isV (StaysE.out (by rfl) StaysE.nil))))))) (hs3) ?_)
        show [f 0, _] = _
        rw [q0_0]
        first | rfl | kernel_rfl
      intro w5 hS hF
      obtain ⟨e6, -⟩ := hF
      obtain ⟨e6, p6⟩ := e6
      replace e6 : [f 0, f 6] = _ := e6
      simp only [List.cons.injEq, and_true] at e6
      obtain ⟨q6_0, q6_6⟩ := e6
      try simp only [q6_0, q6_6]
      simp only [List.drop_succ_cons, List.drop_zero]
      have HS5 := Lib.hid p6
      have HT5 := Lib.hid hS
      have xx := p6.cls hrn
      have x0 := xx.1
      have f0' := p6.ofree (r * 6)
      clear hS p6 q6_0 q6_6 xx
      go_wp2
      go_meet
      case rel =>
        have h1 := (HT.out.trans HT5.out (fun _ _ e => .inl e)).setCell (g := L.go) (i := r * 6) (.int .i64 (agreeV (of r).size 2)) (fun _ => .inr (.inr (.inl rfl)))
        refine ⟨Lib.hid (HS5.out.set0 hrn _), Lib.hid h1, Lib.hid ?_, Lib.hid ?_⟩
        · rw [heap_setCell_other (fun e => by have := HT5.out.heap HB2.out hns; obtain ⟨co5, hg5, _⟩ := HS5.out.o; rw [e, hg5] at this; simp at this)]; exact HT5.out.heap HB2.out hns
        · rw [heap_setCell_other (fun e => by have := HT5.out.heap HB3.out hns1; obtain ⟨co5, hg5, _⟩ := HS5.out.o; rw [e, hg5] at this; simp at this)]; exact HT5.out.heap HB3.out hns1
    case rest =>
      obtain ⟨HS6, HT6, HB6, HB7⟩ := hcut
      clear HS HT HB2 HB3 c2 k0 k1 k2 k3 HO HCL
      have c2 := cell_of_one HB6.out
      have k2 : wc.cell? ⟨w.heap.size + 1, 2, none⟩ = some (.int .i64 cb) := by rw [cell_of_row _ _ _ _ _ _ HB7.out]; rfl
      have xx := HS6.out.cls hrn
      rw [setCls_at] at xx
      have x2 := xx.2.2.1
      have f2 := HS6.out.ofree (r * 6 + 2)
      have hn2 : w.heap.size ≠ L.go := fun e => by have := HB6.out; obtain ⟨co5, hg5, _⟩ := HS6.out.o; rw [e, hg5] at this; simp at this
      have hn3 : w.heap.size + 1 ≠ L.go := fun e => by have := HB7.out; obtain ⟨co5, hg5, _⟩ := HS6.out.o; rw [e, hg5] at this; simp at this
      have hs := HS6.out.set2 hrn cb
      rw [setCls_at, setCls_twice] at hs
      have hold : (of r).ptr = -1 ∨ (0 ≤ (of r).ptr ∧ (of r).ptr < L.n) := by
        have := HROOT.out.2.2.1.ptr
        rw [HRT.out] at this
        exact this.imp id (·.1)
      have hi := HI.out.add_points HC.out HRP.out.1 rfl (HRP.out.2.1 (by simp))
      simp only at hi
      rw [HRT.out] at hi
      have HL := Lib.hid (link_any cs (ps ++ [⟨5, a, cb, cn⟩]) L HR.out rt _ _ _ w.heap.size (w.heap.size + 1) ⟨5, a, cb, cn⟩ (of r).ptr hold (HRP.out.2.1 (by simp)) hi hs ((heap_setCell_other hn2 _).trans HB6.out) ((heap_setCell_other hn3 _).trans HB7.out))
      clear xx hs hold hi
      go_wp2_with (go_at_call 55; refine (HL.out).mono ?_; rintro e w9 ⟨rfl, ht9, hd9⟩)
      go_end0
      exact ⟨rfl, (HT6.out.setCell (g := L.go) _ (fun _ => .inr (.inr (.inl rfl)))).trans ht9 (fun _ _ e => e), hd9⟩
end Go.Proofs.YtepmgnhblegiiaaDoor

/- add of the solver, constraints of kind 6. No condition beyond what each states. -/
namespace Go.Proofs.YtepmgnhblegiiaaDoor
open Go Go.RowKit Go.Maps

set_option maxRecDepth 100000 in
set_option maxHeartbeats 2000000 in
theorem add_6 (cs ps : List Con) (L : Lay) (hR : ∀ c ∈ cs, rightS L.n c = true) (rt : Int → Int) (of : Int → Cls) (clash : Bool) (w : World) (c : Con) (hc : c ∈ cs) (hk : c.kind = 6) (hinv : Inv L.n cs ps rt of clash []) (h : SolW L rt of clash w) :
    Calls Tryd.prog 40 #[.pointer (some ⟨L.gs, 0, none⟩), .agg (conCells c)] w (AddPost cs ps L c w) := by
  have hrp := rightS_parts (hR c hc)
  have hroot := hinv.at_root hc hrp.1
  obtain ⟨kind, ca, cb, cn⟩ := c
  simp only at hk hrp hroot
  subst hk
  obtain ⟨a, rfl⟩ := Int.eq_ofNat_of_zero_le hrp.1.1
  obtain ⟨r, hr⟩ := Int.eq_ofNat_of_zero_le hroot.1.1
  have ha : a < L.n := by omega
  have hrn : r < L.n := by omega
  have hlim := L.lim
  change Calls _ _ #[.pointer (some ⟨L.gs, 0, none⟩), .agg #[.int .i64 6, .int .i64 (a : Int), .int .i64 cb, .int .i64 cn]] w _
  have H := Lib.hid h
  have HI := Lib.hid hinv
  have HR := Lib.hid hR
  have HC := Lib.hid hc
  have HRP := Lib.hid hrp
  have HRT := Lib.hid hr
  have HROOT := Lib.hid hroot
  clear h hinv hR hc hrp hr hroot
  obtain ⟨W, hW⟩ : ∃ W, W = (w.alloc (.cells #[.pointer (some ⟨L.gs, 0, none⟩)] 56)).alloc (.cells #[.int .i64 6, .int .i64 (a : Int), .int .i64 cb, .int .i64 cn] 37) := ⟨_, rfl⟩
  have hT : Turn L.own w W := by rw [hW]; exact ((Turn.refl _ _).alloc _).alloc _
  have hS : SolW L rt of clash W := by rw [hW]; exact (H.out.alloc _).alloc _
  have b1 : W.heap[w.heap.size]? = some (.cells #[.pointer (some ⟨L.gs, 0, none⟩)] 56 (0, 0)) := by
    rw [hW, alloc_other _ _ (by simp)]; exact heap_alloc_new _ _
  have b2 : W.heap[w.heap.size + 1]? = some (.cells #[.int .i64 6, .int .i64 (a : Int), .int .i64 cb, .int .i64 cn] 37 (0, 0)) := by
    have := heap_alloc_new (w.alloc (.cells #[.pointer (some ⟨L.gs, 0, none⟩)] 56)) (.cells #[.int .i64 6, .int .i64 (a : Int), .int .i64 cb, .int .i64 cn] 37)
    rw [hW]; simpa using this
  have HW := Lib.hid (And.intro hT (And.intro hS (And.intro b1 b2)))
  rw [hW] at HW
  clear hT hS b1 b2 hW W
  have hgo0 : ¬ L.gu = L.gs := L.su.symm
  have hol := H.out.lt (.inl rfl)
  have hou := H.out.lt (.inr (.inl rfl))
  have hoo := H.out.lt (.inr (.inr (.inl rfl)))
  have hn2 : ¬ w.heap.size = L.gu := by omega
  have hn3 : ¬ w.heap.size + 1 = L.gu := by omega
  have hn4 : ¬ L.gs = L.gu := L.su
  go_enter Tryd.func40, Tryd.ntmps40
  go_upto_region 1 with (fail)
  go_cut [4] (fun s4 wx => s4 = .pointer (some ⟨L.go, r * 6, none⟩) ∧ Hid (SolW L rt of clash wx) ∧ Hid (Turn L.own w wx) ∧ Hid (wx.heap[w.heap.size]? = some (.cells #[.pointer (some ⟨L.gs, 0, none⟩)] 56 (0, 0))) ∧ Hid (wx.heap[w.heap.size + 1]? = some (.cells #[.int .i64 6, .int .i64 (a : Int), .int .i64 cb, .int .i64 cn] 37 (0, 0))))
  case first =>
    refine wp_region_relyT [] 9 (factOf [isV ((.pointer (some ⟨L.gs, 0, none⟩))), isV ((.pointer (some ⟨L.gs, 0, none⟩))), isV ((.pointer (some ⟨L.gs, 1, none⟩))), isV ((.slice (some ⟨L.go, 0, none⟩) L.n L.co)), isV ((.pointer (some ⟨L.gs, 0, none⟩))), isV ((.pointer (some ⟨w.heap.size + 1, 1, none⟩))), isV ((.int .i64 (a : Int))), isV ((.int .i64 (r : Int))), isV ((.pointer (some ⟨L.go, r * 6, none⟩)))]) (nth [[0], [1], [2], [3], [4], [5], [6], [7], [8]]) (nth [[], [], [], [], [], [], [], [], []]) (nth [[], [0], [1], [2], [], [], [5], [4, 6], [3, 7]]) [8] (fun w5 => SolW L rt of clash w5 ∧ Turn (fun k => k = L.gu) ((w.alloc (.cells #[.pointer (some ⟨L.gs, 0, none⟩)] 56)).alloc (.cells #[.int .i64 6, .int .i64 (a : Int), .int .i64 cb, .int .i64 cn] 37)) w5) (by kernel_rfl) (by kernel_rfl) (⟨HW.out.2.1.drew, (Turn.refl _ _).drew⟩) (fun w w' h hb => ⟨h.1.turn (Turn.ofBelow (bs := fun _ => False) hb) (fun _ h => h.elim), h.2.trans (Turn.ofBelow (bs := fun _ => False) hb) (fun _ _ h => h.elim)⟩) (GrowsAll.of ((GrowsAll.cons (Grows.isV _)  (GrowsAll.cons (Grows.isV _)  (GrowsAll.cons (Grows.isV _)  (GrowsAll.cons (Grows.isV _)  (GrowsAll.cons (Grows.isV _)  (GrowsAll.cons (Grows.isV _)  (GrowsAll.cons (Grows.isV _)  (GrowsAll.cons (Grows.isV _)  (GrowsAll.cons (Grows.isV _) GrowsAll.nil))))))))))) (fun f F hF => ?_)
    simp only [List.take_succ_cons, List.take_zero, fullGo, Act.put, List.setIfInBounds_toArray, List.set_cons_zero, List.set_cons_succ, Nat.reduceAdd] at hF
    subst hF
    refine ⟨StepObsF.cons ?_ (StepObsF.cons ?_ (StepObsF.cons ?_ (StepObsF.cons ?_ (StepObsF.cons ?_ (StepObsF.cons ?_ (StepObsF.cons ?_ (StepObsF.cons ?_ (StepObsF.cons ?_ (StepObsF.nil))))))))), ?_⟩
    · intro w5 hS hF hD K hK
      rw [if_pos (by rfl)]
      exact wp_of_quiet (exec_load_at _ _ rfl _ _ rfl _ _ _ (hS.2.heap HW.out.2.2.1 hn2) ((.pointer (some ⟨L.gs, 0, none⟩))) (by kernel_rfl) (fun _ => by kernel_rfl)) (hK.out _ _ rfl (After.lit rfl rfl rfl (by first | rfl | kernel_rfl)))
    · intro w5 hS hF hD K hK
      obtain ⟨e0, -⟩ := hF
      replace e0 : f 0 = _ := e0
      try simp only [e0]
      rw [if_pos (by rfl)]
      refine wp_of_quiet (v := (.pointer (some ⟨L.gs, 0, none⟩))) (by (show _ = _); kernel_rfl) (hK.out _ _ rfl (After.lit rfl rfl rfl ?_))
      first | rfl | kernel_rfl
    · intro w5 hS hF hD K hK
      obtain ⟨e1, -⟩ := hF
      replace e1 : f 1 = _ := e1
      try simp only [e1]
      rw [if_pos (by rfl)]
      refine wp_of_quiet (v := (.pointer (some ⟨L.gs, 1, none⟩))) (by (show _ = _); kernel_rfl) (hK.out _ _ rfl (After.lit rfl rfl rfl ?_))
      first | rfl | kernel_rfl
    · intro w5 hS hF hD K hK
      obtain ⟨e2, -⟩ := hF
      replace e2 : f 2 = _ := e2
      try simp only [e2]
      rw [if_pos (by rfl)]
      exact wp_of_quiet (exec_load_at _ _ rfl _ _ rfl _ _ _ (hS.1.s) ((.slice (some ⟨L.go, 0, none⟩) L.n L.co)) (by kernel_rfl) (fun _ => by kernel_rfl)) (hK.out _ _ rfl (After.lit rfl rfl rfl (by first | rfl | kernel_rfl)))
    · intro w5 hS hF hD K hK
      rw [if_pos (by rfl)]
      exact wp_of_quiet (exec_load_at _ _ rfl _ _ rfl _ _ _ (hS.2.heap HW.out.2.2.1 hn2) ((.pointer (some ⟨L.gs, 0, none⟩))) (by kernel_rfl) (fun _ => by kernel_rfl)) (hK.out _ _ rfl (After.lit rfl rfl rfl (by first | rfl | kernel_rfl)))
    · intro w5 hS hF hD K hK
      rw [if_pos (by rfl)]
      refine wp_of_quiet (v := (.pointer (some ⟨w.heap.size + 1, 1, none⟩))) (by (show _ = _); kernel_rfl) (hK.out _ _ rfl (After.lit rfl rfl rfl ?_))
      first | rfl | kernel_rfl
    · intro w5 hS hF hD K hK
      obtain ⟨e5, -⟩ := hF
      replace e5 : f 5 = _ := e5
      try simp only [e5]
      rw [if_pos (by rfl)]
      exact wp_of_quiet (exec_load_at _ _ rfl _ _ rfl _ _ _ (hS.2.heap HW.out.2.2.2 hn3) ((.int .i64 (a : Int))) (by kernel_rfl) (fun _ => by kernel_rfl)) (hK.out _ _ rfl (After.lit rfl rfl rfl (by first | rfl | kernel_rfl)))
    · intro w5 hS hF hD K hK
      obtain ⟨e4, e6, -⟩ := hF
      replace e4 : f 4 = _ := e4
      replace e6 : f 6 = _ := e6
      try simp only [e4, e6]
      rw [if_pos (by rfl)]
      go_simp
      refine (find_nat L _ hS.1 a r ha HRT.out).mono ?_; rintro e w3 ⟨rfl, hs3, ht3⟩; go_simp
      refine hK.out _ _ rfl (After.litS rfl rfl rfl (ht3.size) (⟨hs3, hS.2.trans ht3 (fun _ _ e => e)⟩) (StaysW.isV (StaysW.isV (StaysW.isV (StaysW.isV (StaysW.isV (StaysW.isV (StaysW.isV (StaysW.isV (StaysW.isV StaysW.nil))))))))) ?_)
      first | rfl | kernel_rfl
    · intro w5 hS hF hD K hK
      obtain ⟨e3, e7, -⟩ := hF
      replace e3 : f 3 = _ := e3
      replace e7 : f 7 = _ := e7
      try simp only [e3, e7]
      rw [if_pos (by rfl)]
      go_simp
      refine hK.out _ _ rfl (After.lit rfl rfl rfl ?_)
      first | rfl | kernel_rfl
    intro w5 hS hF
    obtain ⟨e8, -⟩ := hF
    replace e8 : f 8 = _ := e8
    try simp only [e8]
    simp only [List.drop_succ_cons, List.drop_zero]
    have HS := Lib.hid hS.1
    have HT := Lib.hid hS.2
    clear hS
    go_wp2
    go_meet
    case rel => exact ⟨rfl, HS, Lib.hid (HW.out.1.trans HT.out (fun x _ e => .inr (.inl e))), Lib.hid (HT.out.heap HW.out.2.2.1 hn2), Lib.hid (HT.out.heap HW.out.2.2.2 hn3)⟩
  case rest =>
    obtain ⟨rfl, HS, HT, HB2, HB3⟩ := hcut
    clear HW hn2 hn3 hn4 hgo0 hol hou hoo
    have c2 := cell_of_one HB2.out
    have k0 : wc.cell? ⟨w.heap.size + 1, 0, none⟩ = some (.int .i64 6) := by rw [cell_of_row _ _ _ _ _ _ HB3.out]; rfl
    have k1 : wc.cell? ⟨w.heap.size + 1, 1, none⟩ = some (.int .i64 (a : Int)) := by rw [cell_of_row _ _ _ _ _ _ HB3.out]; rfl
    have k2 : wc.cell? ⟨w.heap.size + 1, 2, none⟩ = some (.int .i64 cb) := by rw [cell_of_row _ _ _ _ _ _ HB3.out]; rfl
    have k3 : wc.cell? ⟨w.heap.size + 1, 3, none⟩ = some (.int .i64 cn) := by rw [cell_of_row _ _ _ _ _ _ HB3.out]; rfl
    have xx := HS.out.cls hrn
    have hm := HS.out.m r hrn
    have hcn := HRP.out.2.2.2.1 (by first | trivial | rfl)
    have hok : i64ok cn := by unfold i64ok; omega
    have hcb := HRP.out.2.1 (by simp)
    have hokb : i64ok cb := by unfold i64ok; omega
    have HM := Lib.hid hm
    have HCB := Lib.hid hcb
    have hrr : rt (r : Int) = r := by have := HROOT.out.2.1; rw [HRT.out] at this; exact this
    have hFr : ∀ k, (of r).fields k ≠ none → 0 ≤ k ∧ k < 65536 := fun k hk => by
      cases hf : (of r).fields k with
      | none => exact absurd hf hk
      | some f =>
        obtain ⟨h1, c', hc', hkd, hn', _⟩ := (HI.out.good r (by omega) (by omega) hrr).fields k f hf
        have := (rightS_parts (HR.out c' hc')).2.2.2.1 hkd
        omega
    have HFR := Lib.hid hFr
    have HFV := Lib.hid (show ∀ f, (of r).fields cn = some f → 0 ≤ f ∧ f < L.n from fun f hf => ((HI.out.good r (by omega) (by omega) hrr).fields cn f hf).1)
    have hi := HI.out.add_field HC.out HRP.out.1 rfl hcb
    simp only at hi
    rw [HRT.out] at hi
    have HADD := Lib.hid hi
    obtain ⟨co, hgo, hco⟩ := HS.out.o
    have HO := Lib.hid (And.intro hgo (hco r hrn 5 (by omega)))
    clear xx hm hcb hFr hi hgo hco hrr
    cases hfx : (of r).fields cn with
    | none =>
      have HFX := Lib.hid hfx
      clear hfx
      go_upto_region 22 with (fail)
      go_cut [8, 9] (fun s8 s9 wx => s8 = .int .i64 0 ∧ s9 = .bool false ∧ Hid (Turn (fun _ => False) wc wx))
      case first =>
        refine wp_region_relyT [] 12 (factOf [isV ((.pointer (some ⟨L.go, r * 6, none⟩))), isV ((.pointer (some ⟨L.go, r * 6, none⟩))), isV ((.pointer (some ⟨L.go, r * 6 + 5, none⟩))), isV ((.map (some (L.gm r)))), isV ((.pointer (some ⟨w.heap.size + 1, 3, none⟩))), isV ((.int .i64 cn)), isV ((.tuple #[.int .i64 0, .bool false])), isV ((.tuple #[.int .i64 0, .bool false])), isV ((.int .i64 0)), isV ((.bool false)), isV ((.int .i64 0)), isV ((.bool false))]) (nth [[0], [1], [2], [3], [4], [5], [6], [7], [8], [9], [10], [11]]) (nth [[], [], [], [], [], [], [], [], [], [], [], []]) (nth [[], [0], [1], [2], [], [4], [3, 5], [6], [7], [7], [8], [9]]) [10, 11] (fun w5 => Turn (fun _ => False) wc w5) (by kernel_rfl) (by kernel_rfl) ((Turn.refl _ _).drew) (fun w w' h hb => h.trans (Turn.ofBelow (bs := fun _ => False) hb) (fun _ _ h => h.elim)) (GrowsAll.of ((GrowsAll.cons (Grows.isV _)  (GrowsAll.cons (Grows.isV _)  (GrowsAll.cons (Grows.isV _)  (GrowsAll.cons (Grows.isV _)  (GrowsAll.cons (Grows.isV _)  (GrowsAll.cons (Grows.isV _)  (GrowsAll.cons (Grows.isV _)  (GrowsAll.cons (Grows.isV _)  (GrowsAll.cons (Grows.isV _)  (GrowsAll.cons (Grows.isV _)  (GrowsAll.cons (Grows.isV _)  (GrowsAll.cons (Grows.isV _) GrowsAll.nil)))))))))))))) (fun f F hF => ?_)
        simp only [List.take_succ_cons, List.take_zero, fullGo, Act.put, List.setIfInBounds_toArray, List.set_cons_zero, List.set_cons_succ, Nat.reduceAdd] at hF
        subst hF
        refine ⟨StepObsF.cons ?_ (StepObsF.cons ?_ (StepObsF.cons ?_ (StepObsF.cons ?_ (StepObsF.cons ?_ (StepObsF.cons ?_ (StepObsF.cons ?_ (StepObsF.cons ?_ (StepObsF.cons ?_ (StepObsF.cons ?_ (StepObsF.cons ?_ (StepObsF.cons ?_ (StepObsF.nil)))))))))))), ?_⟩
        · intro w5 hS hF hD K hK
          rw [if_pos (by rfl)]
          refine wp_of_quiet (v := (.pointer (some ⟨L.go, r * 6, none⟩))) (by (show _ = _); kernel_rfl) (hK.out _ _ rfl (After.lit rfl rfl rfl ?_))
          first | rfl | kernel_rfl
        · intro w5 hS hF hD K hK
          obtain ⟨e0, -⟩ := hF
          replace e0 : f 0 = _ := e0
          try simp only [e0]
          rw [if_pos (by rfl)]
          refine wp_of_quiet (v := (.pointer (some ⟨L.go, r * 6, none⟩))) (by (show _ = _); kernel_rfl) (hK.out _ _ rfl (After.lit rfl rfl rfl ?_))
          first | rfl | kernel_rfl
        · intro w5 hS hF hD K hK
          obtain ⟨e1, -⟩ := hF
          replace e1 : f 1 = _ := e1
          try simp only [e1]
          rw [if_pos (by rfl)]
          refine wp_of_quiet (v := (.pointer (some ⟨L.go, r * 6 + 5, none⟩))) (by (show _ = _); kernel_rfl) (hK.out _ _ rfl (After.lit rfl rfl rfl ?_))
          first | rfl | kernel_rfl
        · intro w5 hS hF hD K hK
          obtain ⟨e2, -⟩ := hF
          replace e2 : f 2 = _ := e2
          try simp only [e2]
          rw [if_pos (by rfl)]
          exact wp_of_quiet (exec_load_at _ _ rfl _ _ rfl _ _ _ (hS.heap HO.out.1 (fun h => h)) ((.map (some (L.gm r)))) (HO.out.2) (fun _ => by kernel_rfl)) (hK.out _ _ rfl (After.lit rfl rfl rfl (by first | rfl | kernel_rfl)))
        · intro w5 hS hF hD K hK
          rw [if_pos (by rfl)]
          refine wp_of_quiet (v := (.pointer (some ⟨w.heap.size + 1, 3, none⟩))) (by (show _ = _); kernel_rfl) (hK.out _ _ rfl (After.lit rfl rfl rfl ?_))
          first | rfl | kernel_rfl
        · intro w5 hS hF hD K hK
          obtain ⟨e4, -⟩ := hF
          replace e4 : f 4 = _ := e4
          try simp only [e4]
          rw [if_pos (by rfl)]
          exact wp_of_quiet (exec_load_at _ _ rfl _ _ rfl _ _ _ (hS.heap HB3.out (fun h => h)) ((.int .i64 cn)) (by kernel_rfl) (fun _ => by kernel_rfl)) (hK.out _ _ rfl (After.lit rfl rfl rfl (by first | rfl | kernel_rfl)))
        · intro w5 hS hF hD K hK
          obtain ⟨e3, e5, -⟩ := hF
          replace e3 : f 3 = _ := e3
          replace e5 : f 5 = _ := e5
          try simp only [e3, e5]
          rw [if_pos (by rfl)]
          exact wp_of_quiet (exec_lookup_none hI3 rfl hM (zeroInt _) rfl (MapW.same HM.out (hS.block _ (MapW.lt HM.out) (fun h => h))) rfl hok HFX.out) (hK.out _ _ rfl (After.lit rfl rfl rfl (by first | rfl | kernel_rfl)))
        · intro w5 hS hF hD K hK
          obtain ⟨e6, -⟩ := hF
          replace e6 : f 6 = _ := e6
          try simp only [e6]
          rw [if_pos (by rfl)]
          refine wp_of_quiet (v := (.tuple #[.int .i64 0, .bool false])) (by (show _ = _); kernel_rfl) (hK.out _ _ rfl (After.lit rfl rfl rfl ?_))
          first | rfl | kernel_rfl
        · intro w5 hS hF hD K hK
          obtain ⟨e7, -⟩ := hF
          replace e7 : f 7 = _ := e7
          try simp only [e7]
          rw [if_pos (by rfl)]
          refine wp_of_quiet (v := (.int .i64 0)) (by (show _ = _); kernel_rfl) (hK.out _ _ rfl (After.lit rfl rfl rfl ?_))
          first | rfl | kernel_rfl
        · intro w5 hS hF hD K hK
          obtain ⟨e7, -⟩ := hF
          replace e7 : f 7 = _ := e7
          try simp only [e7]
          rw [if_pos (by rfl)]
          refine wp_of_quiet (v := (.bool false)) (by (show _ = _); kernel_rfl) (hK.out _ _ rfl (After.lit rfl rfl rfl ?_))
          first | rfl | kernel_rfl
        · intro w5 hS hF hD K hK
          obtain ⟨e8, -⟩ := hF
          replace e8 : f 8 = _ := e8
          try simp only [e8]
          rw [if_pos (by rfl)]
          refine wp_of_quiet (v := (.int .i64 0)) (by (show _ = _); kernel_rfl) (hK.out _ _ rfl (After.lit rfl rfl rfl ?_))
          first | rfl | kernel_rfl
        · intro w5 hS hF hD K hK
          obtain ⟨e9, -⟩ := hF
          replace e9 : f 9 = _ := e9
          try simp only [e9]
          rw [if_pos (by rfl)]
          refine wp_of_quiet (v := (.bool false)) (by (show _ = _); kernel_rfl) (hK.out _ _ rfl (After.lit rfl rfl rfl ?_))
          first | rfl | kernel_rfl
        intro w5 hS hF
        obtain ⟨e10, e11, -⟩ := hF
        replace e10 : f 10 = _ := e10
        replace e11 : f 11 = _ := e11
        try simp only [e10, e11]
        simp only [List.drop_succ_cons, List.drop_zero]
        have HT5 := Lib.hid hS
        clear hS
        go_wp2
        go_meet
        case rel => exact ⟨rfl, rfl, HT5⟩
      case rest =>
        obtain ⟨rfl, rfl, HT5⟩ := hcut
        have HS6 := Lib.hid (HS.out.turn HT5.out (fun _ h => h.elim))
        have HT6 := Lib.hid (HT.out.trans HT5.out (fun _ _ h => h.elim))
        have HB6 := Lib.hid (HT5.out.heap HB2.out (fun h => h))
        have HB7 := Lib.hid (HT5.out.heap HB3.out (fun h => h))
        have k2' : wc.cell? ⟨w.heap.size + 1, 2, none⟩ = some (.int .i64 cb) := by rw [cell_of_row _ _ _ _ _ _ HB7.out]; rfl
        have k3' : wc.cell? ⟨w.heap.size + 1, 3, none⟩ = some (.int .i64 cn) := by rw [cell_of_row _ _ _ _ _ _ HB7.out]; rfl
        have x5 := (HS6.out.cls hrn).2.2.2.2.2
        have hm6 := HS6.out.m r hrn
        have HM6 := Lib.hid hm6
        clear k0 k1 k2 k3 c2 hm6
        go_upto_region 23 with (fail)
        go_still_tail 8, (by kernel_rfl)
        change wpList _ _ _ _ _ wc.drew
        go_wp2_with (at_mapUpdate; refine wpList_update_ii hI3 rfl _ _ _ _ rfl hM (zeroInt _) rfl (MapW.same HM6.out rfl) HFR.out cn cb rfl hok rfl hokb ?_; intro w7 hm7 hg7)
        go_end0
        refine ⟨rfl, HT6.out.drew.grown hg7 (fun k e _ => by cases e; exact .inr (.inr (.inr ⟨r, hrn, rfl⟩))), _, _, _, ?_, HS6.out.drew.setM hrn hg7 hm7⟩
        have := HADD.out
        rw [HFX.out] at this
        exact this
    | some fo =>
      have HFX := Lib.hid hfx
      clear hfx
      go_upto_region 22 with (fail)
      go_cut [8, 9] (fun s8 s9 wx => s8 = .int .i64 fo ∧ s9 = .bool true ∧ Hid (Turn (fun _ => False) wc wx))
      case first =>
        refine wp_region_relyT [] 12 (factOf [isV ((.pointer (some ⟨L.go, r * 6, none⟩))), isV ((.pointer (some ⟨L.go, r * 6, none⟩))), isV ((.pointer (some ⟨L.go, r * 6 + 5, none⟩))), isV ((.map (some (L.gm r)))), isV ((.pointer (some ⟨w.heap.size + 1, 3, none⟩))), isV ((.int .i64 cn)), isV ((.tuple #[.int .i64 fo, .bool true])), isV ((.tuple #[.int .i64 fo, .bool true])), isV ((.int .i64 fo)), isV ((.bool true)), isV ((.int .i64 fo)), isV ((.bool true))]) (nth [[0], [1], [2], [3], [4], [5], [6], [7], [8], [9], [10], [11]]) (nth [[], [], [], [], [], [], [], [], [], [], [], []]) (nth [[], [0], [1], [2], [], [4], [3, 5], [6], [7], [7], [8], [9]]) [10, 11] (fun w5 => Turn (fun _ => False) wc w5) (by kernel_rfl) (by kernel_rfl) ((Turn.refl _ _).drew) (fun w w' h hb => h.trans (Turn.ofBelow (bs := fun _ => False) hb) (fun _ _ h => h.elim)) (GrowsAll.of ((GrowsAll.cons (Grows.isV _)  (GrowsAll.cons (Grows.isV _)  (GrowsAll.cons (Grows.isV _)  (GrowsAll.cons (Grows.isV _)  (GrowsAll.cons (Grows.isV _)  (GrowsAll.cons (Grows.isV _)  (GrowsAll.cons (Grows.isV _)  (GrowsAll.cons (Grows.isV _)  (GrowsAll.cons (Grows.isV _)  (GrowsAll.cons (Grows.isV _)  (GrowsAll.cons (Grows.isV _)  (GrowsAll.cons (Grows.isV _) GrowsAll.nil)))))))))))))) (fun f F hF => ?_)
        simp only [List.take_succ_cons, List.take_zero, fullGo, Act.put, List.setIfInBounds_toArray, List.set_cons_zero, List.set_cons_succ, Nat.reduceAdd] at hF
        subst hF
        refine ⟨StepObsF.cons ?_ (StepObsF.cons ?_ (StepObsF.cons ?_ (StepObsF.cons ?_ (StepObsF.cons ?_ (StepObsF.cons ?_ (StepObsF.cons ?_ (StepObsF.cons ?_ (StepObsF.cons ?_ (StepObsF.cons ?_ (StepObsF.cons ?_ (StepObsF.cons ?_ (StepObsF.nil)))))))))))), ?_⟩
        · intro w5 hS hF hD K hK
          rw [if_pos (by rfl)]
          refine wp_of_quiet (v := (.pointer (some ⟨L.go, r * 6, none⟩))) (by (show _ = _); kernel_rfl) (hK.out _ _ rfl (After.lit rfl rfl rfl ?_))
          first | rfl | kernel_rfl
        · intro w5 hS hF hD K hK
          obtain ⟨e0, -⟩ := hF
          replace e0 : f 0 = _ := e0
          try simp only [e0]
          rw [if_pos (by rfl)]
          refine wp_of_quiet (v := (.pointer (some ⟨L.go, r * 6, none⟩))) (by (show _ = _); kernel_rfl) (hK.out _ _ rfl (After.lit rfl rfl rfl ?_))
          first | rfl | kernel_rfl
        · intro w5 hS hF hD K hK
          obtain ⟨e1, -⟩ := hF
          replace e1 : f 1 = _ := e1
          try simp only [e1]
          rw [if_pos (by rfl)]
          refine wp_of_quiet (v := (.pointer (some ⟨L.go, r * 6 + 5, none⟩))) (by (show _ = _); kernel_rfl) (hK.out _ _ rfl (After.lit rfl rfl rfl ?_))
          first | rfl | kernel_rfl
        · intro w5 hS hF hD K hK
          obtain ⟨e2, -⟩ := hF
          replace e2 : f 2 = _ := e2
          try simp only [e2]
          rw [if_pos (by rfl)]
          exact wp_of_quiet (exec_load_at _ _ rfl _ _ rfl _ _ _ (hS.heap HO.out.1 (fun h => h)) ((.map (some (L.gm r)))) (HO.out.2) (fun _ => by kernel_rfl)) (hK.out _ _ rfl (After.lit rfl rfl rfl (by first | rfl | kernel_rfl)))
        · intro w5 hS hF hD K hK
          rw [if_pos (by rfl)]
          refine wp_of_quiet (v := (.pointer (some ⟨w.heap.size + 1, 3, none⟩))) (by (show _ = _); kernel_rfl) (hK.out _ _ rfl (After.lit rfl rfl rfl ?_))
          first | rfl | kernel_rfl
        · intro w5 hS hF hD K hK
          obtain ⟨e4, -⟩ := hF
          replace e4 : f 4 = _ := e4
          try simp only [e4]
          rw [if_pos (by rfl)]
          exact wp_of_quiet (exec_load_at _ _ rfl _ _ rfl _ _ _ (hS.heap HB3.out (fun h => h)) ((.int .i64 cn)) (by kernel_rfl) (fun _ => by kernel_rfl)) (hK.out _ _ rfl (After.lit rfl rfl rfl (by first | rfl | kernel_rfl)))
        · intro w5 hS hF hD K hK
          obtain ⟨e3, e5, -⟩ := hF
          replace e3 : f 3 = _ := e3
          replace e5 : f 5 = _ := e5
          try simp only [e3, e5]
          rw [if_pos (by rfl)]
          exact wp_of_quiet (exec_lookup_some hI3 rfl hM (zeroInt _) rfl (MapW.same HM.out (hS.block _ (MapW.lt HM.out) (fun h => h))) rfl hok HFX.out) (hK.out _ _ rfl (After.lit rfl rfl rfl (by first | rfl | kernel_rfl)))
        · intro w5 hS hF hD K hK
          obtain ⟨e6, -⟩ := hF
          replace e6 : f 6 = _ := e6
          try simp only [e6]
          rw [if_pos (by rfl)]
          refine wp_of_quiet (v := (.tuple #[.int .i64 fo, .bool true])) (by (show _ = _); kernel_rfl) (hK.out _ _ rfl (After.lit rfl rfl rfl ?_))
          first | rfl | kernel_rfl
        · intro w5 hS hF hD K hK
          obtain ⟨e7, -⟩ := hF
          replace e7 : f 7 = _ := e7
          try simp only [e7]
          rw [if_pos (by rfl)]
          refine wp_of_quiet (v := (.int .i64 fo)) (by (show _ = _); kernel_rfl) (hK.out _ _ rfl (After.lit rfl rfl rfl ?_))
          first | rfl | kernel_rfl
        · intro w5 hS hF hD K hK
          obtain ⟨e7, -⟩ := hF
          replace e7 : f 7 = _ := e7
          try simp only [e7]
          rw [if_pos (by rfl)]
          refine wp_of_quiet (v := (.bool true)) (by (show _ = _); kernel_rfl) (hK.out _ _ rfl (After.lit rfl rfl rfl ?_))
          first | rfl | kernel_rfl
        · intro w5 hS hF hD K hK
          obtain ⟨e8, -⟩ := hF
          replace e8 : f 8 = _ := e8
          try simp only [e8]
          rw [if_pos (by rfl)]
          refine wp_of_quiet (v := (.int .i64 fo)) (by (show _ = _); kernel_rfl) (hK.out _ _ rfl (After.lit rfl rfl rfl ?_))
          first | rfl | kernel_rfl
        · intro w5 hS hF hD K hK
          obtain ⟨e9, -⟩ := hF
          replace e9 : f 9 = _ := e9
          try simp only [e9]
          rw [if_pos (by rfl)]
          refine wp_of_quiet (v := (.bool true)) (by (show _ = _); kernel_rfl) (hK.out _ _ rfl (After.lit rfl rfl rfl ?_))
          first | rfl | kernel_rfl
        intro w5 hS hF
        obtain ⟨e10, e11, -⟩ := hF
        replace e10 : f 10 = _ := e10
        replace e11 : f 11 = _ := e11
        try simp only [e10, e11]
        simp only [List.drop_succ_cons, List.drop_zero]
        have HT5 := Lib.hid hS
        clear hS
        go_wp2
        go_meet
        case rel => exact ⟨rfl, rfl, HT5⟩
      case rest =>
        obtain ⟨rfl, rfl, HT5⟩ := hcut
        have HS6 := Lib.hid (HS.out.turn HT5.out (fun _ h => h.elim))
        have HT6 := Lib.hid (HT.out.trans HT5.out (fun _ _ h => h.elim))
        have HB6 := Lib.hid (HT5.out.heap HB2.out (fun h => h))
        have HB7 := Lib.hid (HT5.out.heap HB3.out (fun h => h))
        have k2' : wc.cell? ⟨w.heap.size + 1, 2, none⟩ = some (.int .i64 cb) := by rw [cell_of_row _ _ _ _ _ _ HB7.out]; rfl
        have k3' : wc.cell? ⟨w.heap.size + 1, 3, none⟩ = some (.int .i64 cn) := by rw [cell_of_row _ _ _ _ _ _ HB7.out]; rfl
        have x5 := (HS6.out.cls hrn).2.2.2.2.2
        have hm6 := HS6.out.m r hrn
        have HM6 := Lib.hid hm6
        clear k0 k1 k2 k3 c2 hm6
        go_upto_region 23 with (fail)
        go_still_tail 8, (by kernel_rfl)
        change wpList _ _ _ _ _ wc.drew
        go_wp2_with (first | (at_mapUpdate; refine wpList_update_ii hI3 rfl _ _ _ _ rfl hM (zeroInt _) rfl (MapW.same HM6.out rfl) HFR.out cn cb rfl hok rfl hokb ?_; intro w7 hm7 hg7; have hS7 := HS6.out.drew.setM hrn hg7 hm7; have hB8 : w7.heap[w.heap.size]? = some (.cells #[.pointer (some ⟨L.gs, 0, none⟩)] 56 (0, 0)) := (hg7.block _ (Array.getElem?_eq_some_iff.1 HB6.out).1 (fun e => by obtain ⟨es, ck, ho⟩ := MapW.obj HM6.out; have h9 := HB6.out; rw [show w.heap.size = L.gm r from Option.some.inj e, ho] at h9; cases h9)).trans HB6.out; have hB9 : w7.heap[w.heap.size + 1]? = some (.cells #[.int .i64 6, .int .i64 (a : Int), .int .i64 cb, .int .i64 cn] 37 (0, 0)) := (hg7.block _ (Array.getElem?_eq_some_iff.1 HB7.out).1 (fun e => by obtain ⟨es, ck, ho⟩ := MapW.obj HM6.out; have h9 := HB7.out; rw [show w.heap.size + 1 = L.gm r from Option.some.inj e, ho] at h9; cases h9)).trans HB7.out; have HT7 := Lib.hid (HT6.out.drew.grown hg7 (fun k e _ => by cases e; exact .inr (.inr (.inr ⟨r, hrn, rfl⟩)))); have hi7 := HADD.out; rw [HFX.out] at hi7; have HL := Lib.hid (link_any cs (ps ++ [⟨6, a, cb, cn⟩]) L HR.out rt _ _ _ w.heap.size (w.heap.size + 1) ⟨6, a, cb, cn⟩ fo (.inr (HFV.out fo HFX.out)) HCB.out hi7 hS7 hB8 hB9); clear hS7 hB8 hB9 hi7 hm7 hg7) | (go_at_call 55; refine (HL.out).mono ?_; rintro e w9 ⟨rfl, ht9, hd9⟩))
        go_end0
        exact ⟨rfl, HT7.out.trans ht9 (fun _ _ e => e), hd9⟩
end Go.Proofs.YtepmgnhblegiiaaDoor

/- add of the solver, constraints of kind 7. No condition beyond what each states. -/
namespace Go.Proofs.YtepmgnhblegiiaaDoor
open Go Go.RowKit Go.Maps

set_option maxRecDepth 100000 in
set_option maxHeartbeats 2000000 in
theorem add_7 (cs ps : List Con) (L : Lay) (hR : ∀ c ∈ cs, rightS L.n c = true) (rt : Int → Int) (of : Int → Cls) (clash : Bool) (w : World) (c : Con) (hc : c ∈ cs) (hk : c.kind = 7) (hinv : Inv L.n cs ps rt of clash []) (h : SolW L rt of clash w) :
    Calls Tryd.prog 40 #[.pointer (some ⟨L.gs, 0, none⟩), .agg (conCells c)] w (AddPost cs ps L c w) := by
  have hrp := rightS_parts (hR c hc)
  have hroot := hinv.at_root hc hrp.1
  obtain ⟨kind, ca, cb, cn⟩ := c
  simp only at hk hrp hroot
  subst hk
  obtain ⟨a, rfl⟩ := Int.eq_ofNat_of_zero_le hrp.1.1
  obtain ⟨r, hr⟩ := Int.eq_ofNat_of_zero_le hroot.1.1
  have ha : a < L.n := by omega
  have hrn : r < L.n := by omega
  have hlim := L.lim
  change Calls _ _ #[.pointer (some ⟨L.gs, 0, none⟩), .agg #[.int .i64 7, .int .i64 (a : Int), .int .i64 cb, .int .i64 cn]] w _
  have H := Lib.hid h
  have HI := Lib.hid hinv
  have HR := Lib.hid hR
  have HC := Lib.hid hc
  have HRP := Lib.hid hrp
  have HRT := Lib.hid hr
  have HROOT := Lib.hid hroot
  clear h hinv hR hc hrp hr hroot
  obtain ⟨W, hW⟩ : ∃ W, W = (w.alloc (.cells #[.pointer (some ⟨L.gs, 0, none⟩)] 56)).alloc (.cells #[.int .i64 7, .int .i64 (a : Int), .int .i64 cb, .int .i64 cn] 37) := ⟨_, rfl⟩
  have hT : Turn L.own w W := by rw [hW]; exact ((Turn.refl _ _).alloc _).alloc _
  have hS : SolW L rt of clash W := by rw [hW]; exact (H.out.alloc _).alloc _
  have b1 : W.heap[w.heap.size]? = some (.cells #[.pointer (some ⟨L.gs, 0, none⟩)] 56 (0, 0)) := by
    rw [hW, alloc_other _ _ (by simp)]; exact heap_alloc_new _ _
  have b2 : W.heap[w.heap.size + 1]? = some (.cells #[.int .i64 7, .int .i64 (a : Int), .int .i64 cb, .int .i64 cn] 37 (0, 0)) := by
    have := heap_alloc_new (w.alloc (.cells #[.pointer (some ⟨L.gs, 0, none⟩)] 56)) (.cells #[.int .i64 7, .int .i64 (a : Int), .int .i64 cb, .int .i64 cn] 37)
    rw [hW]; simpa using this
  have HW := Lib.hid (And.intro hT (And.intro hS (And.intro b1 b2)))
  rw [hW] at HW
  clear hT hS b1 b2 hW W
  have hgo0 : ¬ L.gu = L.gs := L.su.symm
  have hol := H.out.lt (.inl rfl)
  have hou := H.out.lt (.inr (.inl rfl))
  have hoo := H.out.lt (.inr (.inr (.inl rfl)))
  have hn2 : ¬ w.heap.size = L.gu := by omega
  have hn3 : ¬ w.heap.size + 1 = L.gu := by omega
  have hn4 : ¬ L.gs = L.gu := L.su
  go_enter Tryd.func40, Tryd.ntmps40
  go_upto_region 1 with (fail)
  go_cut [4] (fun s4 wx => s4 = .pointer (some ⟨L.go, r * 6, none⟩) ∧ Hid (SolW L rt of clash wx) ∧ Hid (Turn L.own w wx) ∧ Hid (wx.heap[w.heap.size]? = some (.cells #[.pointer (some ⟨L.gs, 0, none⟩)] 56 (0, 0))) ∧ Hid (wx.heap[w.heap.size + 1]? = some (.cells #[.int .i64 7, .int .i64 (a : Int), .int .i64 cb, .int .i64 cn] 37 (0, 0))))
  case first =>
    refine wp_region_relyT [] 9 (factOf [isV ((.pointer (some ⟨L.gs, 0, none⟩))), isV ((.pointer (some ⟨L.gs, 0, none⟩))), isV ((.pointer (some ⟨L.gs, 1, none⟩))), isV ((.slice (some ⟨L.go, 0, none⟩) L.n L.co)), isV ((.pointer (some ⟨L.gs, 0, none⟩))), isV ((.pointer (some ⟨w.heap.size + 1, 1, none⟩))), isV ((.int .i64 (a : Int))), isV ((.int .i64 (r : Int))), isV ((.pointer (some ⟨L.go, r * 6, none⟩)))]) (nth [[0], [1], [2], [3], [4], [5], [6], [7], [8]]) (nth [[], [], [], [], [], [], [], [], []]) (nth [[], [0], [1], [2], [], [], [5], [4, 6], [3, 7]]) [8] (fun w5 => SolW L rt of clash w5 ∧ Turn (fun k => k = L.gu) ((w.alloc (.cells #[.pointer (some ⟨L.gs, 0, none⟩)] 56)).alloc (.cells #[.int .i64 7, .int .i64 (a : Int), .int .i64 cb, .int .i64 cn] 37)) w5) (by kernel_rfl) (by kernel_rfl) (⟨HW.out.2.1.drew, (Turn.refl _ _).drew⟩) (fun w w' h hb => ⟨h.1.turn (Turn.ofBelow (bs := fun _ => False) hb) (fun _ h => h.elim), h.2.trans (Turn.ofBelow (bs := fun _ => False) hb) (fun _ _ h => h.elim)⟩) (GrowsAll.of ((GrowsAll.cons (Grows.isV _)  (GrowsAll.cons (Grows.isV _)  (GrowsAll.cons (Grows.isV _)  (GrowsAll.cons (Grows.isV _)  (GrowsAll.cons (Grows.isV _)  (GrowsAll.cons (Grows.isV _)  (GrowsAll.cons (Grows.isV _)  (GrowsAll.cons (Grows.isV _)  (GrowsAll.cons (Grows.isV _) GrowsAll.nil))))))))))) (fun f F hF => ?_)
    simp only [List.take_succ_cons, List.take_zero, fullGo, Act.put, List.setIfInBounds_toArray, List.set_cons_zero, List.set_cons_succ, Nat.reduceAdd] at hF
    subst hF
    refine ⟨StepObsF.cons ?_ (StepObsF.cons ?_ (StepObsF.cons ?_ (StepObsF.cons ?_ (StepObsF.cons ?_ (StepObsF.cons ?_ (StepObsF.cons ?_ (StepObsF.cons ?_ (StepObsF.cons ?_ (StepObsF.nil))))))))), ?_⟩
    · intro w5 hS hF hD K hK
      rw [if_pos (by rfl)]
      exact wp_of_quiet (exec_load_at _ _ rfl _ _ rfl _ _ _ (hS.2.heap HW.out.2.2.1 hn2) ((.pointer (some ⟨L.gs, 0, none⟩))) (by kernel_rfl) (fun _ => by kernel_rfl)) (hK.out _ _ rfl (After.lit rfl rfl rfl (by first | rfl | kernel_rfl)))
    · intro w5 hS hF hD K hK
      obtain ⟨e0, -⟩ := hF
      replace e0 : f 0 = _ := e0
      try simp only [e0]
      rw [if_pos (by rfl)]
      refine wp_of_quiet (v := (.pointer (some ⟨L.gs, 0, none⟩))) (by (show _ = _); kernel_rfl) (hK.out _ _ rfl (After.lit rfl rfl rfl ?_))
      first | rfl | kernel_rfl
    · intro w5 hS hF hD K hK
      obtain ⟨e1, -⟩ := hF
      replace e1 : f 1 = _ := e1
      try simp only [e1]
      rw [if_pos (by rfl)]
      refine wp_of_quiet (v := (.pointer (some ⟨L.gs, 1, none⟩))) (by (show _ = _); kernel_rfl) (hK.out _ _ rfl (After.lit rfl rfl rfl ?_))
      first | rfl | kernel_rfl
    · intro w5 hS hF hD K hK
      obtain ⟨e2, -⟩ := hF
      replace e2 : f 2 = _ := e2
      try simp only [e2]
      rw [if_pos (by rfl)]
      exact wp_of_quiet (exec_load_at _ _ rfl _ _ rfl _ _ _ (hS.1.s) ((.slice (some ⟨L.go, 0, none⟩) L.n L.co)) (by kernel_rfl) (fun _ => by kernel_rfl)) (hK.out _ _ rfl (After.lit rfl rfl rfl (by first | rfl | kernel_rfl)))
    · intro w5 hS hF hD K hK
      rw [if_pos (by rfl)]
      exact wp_of_quiet (exec_load_at _ _ rfl _ _ rfl _ _ _ (hS.2.heap HW.out.2.2.1 hn2) ((.pointer (some ⟨L.gs, 0, none⟩))) (by kernel_rfl) (fun _ => by kernel_rfl)) (hK.out _ _ rfl (After.lit rfl rfl rfl (by first | rfl | kernel_rfl)))
    · intro w5 hS hF hD K hK
      rw [if_pos (by rfl)]
      refine wp_of_quiet (v := (.pointer (some ⟨w.heap.size + 1, 1, none⟩))) (by (show _ = _); kernel_rfl) (hK.out _ _ rfl (After.lit rfl rfl rfl ?_))
      first | rfl | kernel_rfl
    · intro w5 hS hF hD K hK
      obtain ⟨e5, -⟩ := hF
      replace e5 : f 5 = _ := e5
      try simp only [e5]
      rw [if_pos (by rfl)]
      exact wp_of_quiet (exec_load_at _ _ rfl _ _ rfl _ _ _ (hS.2.heap HW.out.2.2.2 hn3) ((.int .i64 (a : Int))) (by kernel_rfl) (fun _ => by kernel_rfl)) (hK.out _ _ rfl (After.lit rfl rfl rfl (by first | rfl | kernel_rfl)))
    · intro w5 hS hF hD K hK
      obtain ⟨e4, e6, -⟩ := hF
      replace e4 : f 4 = _ := e4
      replace e6 : f 6 = _ := e6
      try simp only [e4, e6]
      rw [if_pos (by rfl)]
      go_simp
      refine (find_nat L _ hS.1 a r ha HRT.out).mono ?_; rintro e w3 ⟨rfl, hs3, ht3⟩; go_simp
      refine hK.out _ _ rfl (After.litS rfl rfl rfl (ht3.size) (⟨hs3, hS.2.trans ht3 (fun _ _ e => e)⟩) (StaysW.isV (StaysW.isV (StaysW.isV (StaysW.isV (StaysW.isV (StaysW.isV (StaysW.isV (StaysW.isV (StaysW.isV StaysW.nil))))))))) ?_)
      first | rfl | kernel_rfl
    · intro w5 hS hF hD K hK
      obtain ⟨e3, e7, -⟩ := hF
      replace e3 : f 3 = _ := e3
      replace e7 : f 7 = _ := e7
      try simp only [e3, e7]
      rw [if_pos (by rfl)]
      go_simp
      refine hK.out _ _ rfl (After.lit rfl rfl rfl ?_)
      first | rfl | kernel_rfl
    intro w5 hS hF
    obtain ⟨e8, -⟩ := hF
    replace e8 : f 8 = _ := e8
    try simp only [e8]
    simp only [List.drop_succ_cons, List.drop_zero]
    have HS := Lib.hid hS.1
    have HT := Lib.hid hS.2
    clear hS
    go_wp2
    go_meet
    case rel => exact ⟨rfl, HS, Lib.hid (HW.out.1.trans HT.out (fun x _ e => .inr (.inl e))), Lib.hid (HT.out.heap HW.out.2.2.1 hn2), Lib.hid (HT.out.heap HW.out.2.2.2 hn3)⟩
  case rest =>
    obtain ⟨rfl, HS, HT, HB2, HB3⟩ := hcut
    clear HW hn2 hn3 hn4 hgo0 hol hou hoo
    have c2 := cell_of_one HB2.out
    have k0 : wc.cell? ⟨w.heap.size + 1, 0, none⟩ = some (.int .i64 7) := by rw [cell_of_row _ _ _ _ _ _ HB3.out]; rfl
    have k1 : wc.cell? ⟨w.heap.size + 1, 1, none⟩ = some (.int .i64 (a : Int)) := by rw [cell_of_row _ _ _ _ _ _ HB3.out]; rfl
    have k2 : wc.cell? ⟨w.heap.size + 1, 2, none⟩ = some (.int .i64 cb) := by rw [cell_of_row _ _ _ _ _ _ HB3.out]; rfl
    have k3 : wc.cell? ⟨w.heap.size + 1, 3, none⟩ = some (.int .i64 cn) := by rw [cell_of_row _ _ _ _ _ _ HB3.out]; rfl
    have xx := HS.out.cls hrn
    have x3 := xx.2.2.2.1
    have x4 := xx.2.2.2.2.1
    have f3 := HS.out.ofree (r * 6 + 3)
    have f4 := HS.out.ofree (r * 6 + 4)
    have hn2 : w.heap.size ≠ L.go := fun e => by have := HB2.out; obtain ⟨co5, hg5, _⟩ := HS.out.o; rw [e, hg5] at this; simp at this
    have hn3 : w.heap.size + 1 ≠ L.go := fun e => by have := HB3.out; obtain ⟨co5, hg5, _⟩ := HS.out.o; rw [e, hg5] at this; simp at this
    clear xx
    go_upto_region 17 with (fail)
    go_cut [] (fun wx => Hid (SolW L rt (setCls of r { of r with count := max (of r).count cn }) clash wx) ∧ Hid (Turn L.own w wx) ∧ Hid (wx.heap[w.heap.size]? = some (.cells #[.pointer (some ⟨L.gs, 0, none⟩)] 56 (0, 0))) ∧ Hid (wx.heap[w.heap.size + 1]? = some (.cells #[.int .i64 7, .int .i64 (a : Int), .int .i64 cb, .int .i64 cn] 37 (0, 0))))
    case first =>
      have key : ∀ x : Int, x = max (of r).count cn → SolW L rt (setCls of r { of r with count := max (of r).count cn }) clash (wc.drew.setCell ⟨L.go, r * 6 + 4, none⟩ (.int .i64 x)) ∧ Turn L.own w (wc.drew.setCell ⟨L.go, r * 6 + 4, none⟩ (.int .i64 x)) ∧ (wc.drew.setCell ⟨L.go, r * 6 + 4, none⟩ (.int .i64 x)).heap[w.heap.size]? = some (.cells #[.pointer (some ⟨L.gs, 0, none⟩)] 56 (0, 0)) ∧ (wc.drew.setCell ⟨L.go, r * 6 + 4, none⟩ (.int .i64 x)).heap[w.heap.size + 1]? = some (.cells #[.int .i64 7, .int .i64 (a : Int), .int .i64 cb, .int .i64 cn] 37 (0, 0)) := fun x hx => by
        subst hx
        exact ⟨HS.out.drew.set4 hrn _, HT.out.drew.setCell (g := L.go) _ (fun _ => .inr (.inr (.inl rfl))), (heap_setCell_other hn2 _).trans HB2.out, (heap_setCell_other hn3 _).trans HB3.out⟩
      have KEY := Lib.hid key
      clear key
      go_still_tail 8, (by kernel_rfl)
      change wpList _ _ _ _ _ wc.drew
      go_wp2
      all_goals
        go_meet
        case rel => exact ⟨Lib.hid (KEY.out _ (by omega)).1, Lib.hid (KEY.out _ (by omega)).2.1, Lib.hid (KEY.out _ (by omega)).2.2.1, Lib.hid (KEY.out _ (by omega)).2.2.2⟩
    case rest =>
      clear c2 k0 k1 k2 k3 x3 x4 f3 f4 hn2 hn3
      obtain ⟨HS6, HT6, HB6, HB7⟩ := hcut
      clear HS HT HB2 HB3
      have c2 := cell_of_one HB6.out
      have k2 : wc.cell? ⟨w.heap.size + 1, 2, none⟩ = some (.int .i64 cb) := by rw [cell_of_row _ _ _ _ _ _ HB7.out]; rfl
      have xx := HS6.out.cls hrn
      rw [setCls_at] at xx
      have x3 := xx.2.2.2.1
      have f3 := HS6.out.ofree (r * 6 + 3)
      have hn2 : w.heap.size ≠ L.go := fun e => by have := HB6.out; obtain ⟨co5, hg5, _⟩ := HS6.out.o; rw [e, hg5] at this; simp at this
      have hn3 : w.heap.size + 1 ≠ L.go := fun e => by have := HB7.out; obtain ⟨co5, hg5, _⟩ := HS6.out.o; rw [e, hg5] at this; simp at this
      have hs := HS6.out.set3 hrn cb
      rw [setCls_at, setCls_twice] at hs
      have hold : (of r).elem = -1 ∨ (0 ≤ (of r).elem ∧ (of r).elem < L.n) := by
        have := HROOT.out.2.2.1.elem
        rw [HRT.out] at this
        exact this.imp id (·.1)
      have hi := HI.out.add_elem HC.out HRP.out.1 rfl (HRP.out.2.1 (by simp)) (HRP.out.2.2.2.2 rfl).1
      simp only at hi
      rw [HRT.out] at hi
      have HL := Lib.hid (link_any cs (ps ++ [⟨7, a, cb, cn⟩]) L HR.out rt _ _ _ w.heap.size (w.heap.size + 1) ⟨7, a, cb, cn⟩ (of r).elem hold (HRP.out.2.1 (by simp)) hi hs ((heap_setCell_other hn2 _).trans HB6.out) ((heap_setCell_other hn3 _).trans HB7.out))
      clear xx hs hold hi
      go_wp2_with (go_at_call 55; refine (HL.out).mono ?_; rintro e w9 ⟨rfl, ht9, hd9⟩)
      go_end0
      exact ⟨rfl, (HT6.out.setCell (g := L.go) _ (fun _ => .inr (.inr (.inl rfl)))).trans ht9 (fun _ _ e => e), hd9⟩
end Go.Proofs.YtepmgnhblegiiaaDoor

/- add of the solver at every well-formed constraint. No condition beyond what each states. -/
namespace Go.Proofs.YtepmgnhblegiiaaDoor
open Go Go.RowKit Go.Maps
theorem add_any (cs ps : List Con) (L : Lay) (hR : ∀ c ∈ cs, rightS L.n c = true) (rt : Int → Int) (of : Int → Cls) (clash : Bool) (w : World) (c : Con) (hc : c ∈ cs) (hinv : Inv L.n cs ps rt of clash []) (h : SolW L rt of clash w) :
    Calls Tryd.prog 40 #[.pointer (some ⟨L.gs, 0, none⟩), .agg (conCells c)] w (AddPost cs ps L c w) := by
  have hr := hR c hc
  simp only [rightS, Bool.and_eq_true, Bool.or_eq_true, decide_eq_true_eq] at hr
  rcases (show c.kind = 1 ∨ c.kind = 2 ∨ c.kind = 3 ∨ c.kind = 4 ∨ c.kind = 5 ∨ c.kind = 6 ∨ c.kind = 7 by omega) with k | k | k | k | k | k | k
  · exact add_1 cs ps L hR rt of clash w c hc k hinv h
  · exact add_2 cs ps L hR rt of clash w c hc k hinv h
  · exact add_3 cs ps L hR rt of clash w c hc k hinv h
  · exact add_4 cs ps L hR rt of clash w c hc k hinv h
  · exact add_5 cs ps L hR rt of clash w c hc k hinv h
  · exact add_6 cs ps L hR rt of clash w c hc k hinv h
  · exact add_7 cs ps L hR rt of clash w c hc k hinv h
end Go.Proofs.YtepmgnhblegiiaaDoor
