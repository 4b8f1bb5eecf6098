/- endless: does a class contain itself. No condition beyond what each states. -/
import Derived.Test.YtepmgnhblegiiaaDoorVis
set_option linter.all false
namespace Go.Proofs.YtepmgnhblegiiaaDoor
open Go Go.RowKit Go.Maps

set_option maxRecDepth 100000 in
set_option maxHeartbeats 2000000 in
theorem endless_any (L : Lay) (rt : Int → Int) (of : Int → Cls) (clash : Bool) (w : World) (h : SolW L rt of clash w) (hG : RefsOk L rt of) :
    Calls Tryd.prog 41 #[.pointer (some ⟨L.gs, 0, none⟩)] w fun e w' => ∃ b : Bool, e = .returned (.bool b) ∧ SolW L rt of clash w' ∧ Turn (fun k => k = L.gu) w w' ∧ (b = true ↔ Cyc L rt of) := by
  have hlim := L.lim
  have s0 := h.s0
  have hol : ∀ k, L.own k → k < w.heap.size := fun k hk => h.lt hk
  have hgs := hol _ (.inl rfl)
  have H := Lib.hid h
  have HG := Lib.hid hG
  have HOL := Lib.hid hol
  clear h hG hol
  obtain ⟨i0, hi, hz0, hz1, hz2⟩ := info_parts infoInt
  go_enter Tryd.func41, Tryd.ntmps41
  go_upto_region 2 with (refine wpList_make_full _ rfl _ _ 47 rfl w.heap.size 3 i0 (.int .i64 0) 1 Tryd.underlying47 hi hz0 hz1 .i64 .i64 (L.n : Int) (L.n : Int) L.n rfl rfl rfl rfl (by rw [hz2]; omega) (by unfold maxLen; omega) (by simp) ?_; intro w1 hown1 hgrow1)
  have hsz1 := hgrow1.size
  have hb1 : w1.heap[w.heap.size]? = some (.cells #[.pointer (some ⟨L.gs, 0, none⟩)] 56 (0, 0)) := (hgrow1.block w.heap.size (by simp) (by simp)).trans (heap_alloc_new _ _)
  have c1 := cell_of_one hb1
  have HT1 := Lib.hid (((Turn.refl (fun k => k = L.gu) w).alloc (.cells #[.pointer (some ⟨L.gs, 0, none⟩)] 56)).grown hgrow1 (fun k e => by cases e))
  have HS1 := Lib.hid ((H.out.alloc (.cells #[.pointer (some ⟨L.gs, 0, none⟩)] 56)).turn (bs := fun _ => False) ((Turn.refl _ _).grown hgrow1 (fun k e => by cases e)) (fun _ h => h.elim))
  have s01 := HS1.out.s0
  have HW1 := Lib.hid (And.intro hown1 (And.intro hb1 hgrow1))
  have hlt1 : w.heap.size + 1 ≤ w1.heap.size := by simpa using hsz1
  have hl1 : w.heap.size < w1.heap.size := by omega
  have hgs1 : L.gs < w1.heap.size := by omega
  clear hown1 hb1 hgrow1 hsz1
  go_upto_block 0 with (fail)
  obtain ⟨W, hW⟩ : ∃ W, W = (w1.alloc (Obj.cells #[Value.slice (some ⟨w.heap.size + 1, 0, none⟩) L.n L.n] 47)).alloc (Obj.cells #[.func (.func 58) #[] #[.pointer (some ⟨w1.heap.size, 0, none⟩), .pointer (some ⟨w.heap.size, 0, none⟩), .pointer (some ⟨w1.heap.size + 1, 0, none⟩)]] 65) := ⟨_, rfl⟩
  have HTW := Lib.hid (show Turn (fun k => k = L.gu) w W by rw [hW]; exact ((HT1.out).alloc _).alloc _)
  have HSW := Lib.hid (show SolW L rt of clash W by rw [hW]; exact (HS1.out.alloc _).alloc _)
  have HVW := Lib.hid (show VisW L (w.heap.size + 1) w1.heap.size w.heap.size (w1.heap.size + 1) (fun _ => 0) W from by
    obtain ⟨hown, hb, hg⟩ := HW1.out
    rcases hown.2 with ⟨e, -⟩ | ⟨g, cap, cur, e, hB, hgc, h1, h2, h3, h4⟩
    · cases e
    · simp only [Value.slice.injEq, Option.some.injEq, Addr.mk.injEq, and_true, true_and] at e
      obtain ⟨rfl, rfl⟩ := e
      have hgl : w.heap.size + 1 < w1.heap.size := by
        have := (Array.getElem?_eq_some_iff.1 hgc).1
        simpa using this
      have hsz0 : (w.alloc (.cells #[.pointer (some ⟨L.gs, 0, none⟩)] 56)).heap.size = w.heap.size + 1 := by simp
      try rw [hsz0] at hgc
      refine ⟨⟨cur, ?_, fun u hu => ?_⟩, ⟨L.n, ?_⟩, ?_, ?_, ?_⟩
      · rw [hW, alloc_other _ _ (by simp; omega), alloc_other _ _ hgl]; exact hgc
      · have hc : (madeCells #[Value.int .i64 0] (L.n * 1)).toList[u]? = some (.int .i64 0) := by simp [madeCells, hu, Nat.mod_one]
        have h5 : (cur.toList.take (L.n * 1))[u]? = cur.toList[u]? := by rw [List.getElem?_take, if_pos (by omega)]
        rw [h4] at h5
        rw [← Array.getElem?_toList, ← h5]
        exact hc
      · rw [hW, alloc_other _ _ (by simp)]; exact heap_alloc_new _ _
      · rw [hW, alloc_other _ _ (by simp; omega), alloc_other _ _ hl1]; exact hb
      · have := heap_alloc_new (w1.alloc (Obj.cells #[Value.slice (some ⟨w.heap.size + 1, 0, none⟩) L.n L.n] 47)) (Obj.cells #[.func (.func 58) #[] #[.pointer (some ⟨w1.heap.size, 0, none⟩), .pointer (some ⟨w.heap.size, 0, none⟩), .pointer (some ⟨w1.heap.size + 1, 0, none⟩)]] 65)
        rw [hW]; simpa using this
      · have := HOL.out _ (.inr (.inl rfl)); omega)
  have hgq := HOL.out _ (.inr (.inl rfl))
  rw [← hW]
  obtain ⟨g1, hg1⟩ : ∃ g1, g1 = w1.heap.size := ⟨_, rfl⟩
  rw [← hg1] at HVW
  rw [← hg1]
  clear hW c1 s01 HT1 HS1 HW1 hlt1 hl1 hgs1 s0 hg1
  go_wp2_with fail
  go_loopw [18] (fun s18 wr => ∃ (k : Nat) (σ : Int → Int), k ≤ L.n ∧ s18 = .int .i64 k ∧ Hid (SolW L rt of clash wr) ∧ Hid (Turn (fun k => k = L.gu) w wr) ∧ Hid (VisW L (w.heap.size + 1) g1 w.heap.size (g1 + 1) σ wr) ∧ Hid (Closed rt of σ) ∧ Hid (∀ u, σ u = 0 ∨ σ u = 2) ∧ Hid (∀ u : Nat, u < k → rt u = u → σ u = 2)) (fun s18 _ => L.n - (intOf s18).toNat)
  case atStart => exact ⟨0, fun _ => 0, by omega, rfl, HSW, HTW, HVW, Lib.hid (fun u hu => by simp at hu), Lib.hid (fun u => .inl rfl), Lib.hid (fun u hu => by omega)⟩
  case round =>
    obtain ⟨k, σ, hk, rfl, HSR, HTR, HVR, HCR, HOR, HAR⟩ := hrel
    by_cases hlt : k < L.n
    · have c2 := cell_of_one HVR.out.h2
      have HFD := Lib.hid (find_any L wr HSR.out k hlt)
      by_cases hr : rt k = k
      · have e1 : (rt (k : Int) == (k : Int)) = true := by simp [hr]
        have HRK := Lib.hid hr
        clear hr
        have HVI := Lib.hid (fun W hs hv => visit_any L (w.heap.size + 1) g1 w.heap.size (g1 + 1) rt of clash HG.out (fresh L.n σ) σ k W ⟨hs, hv, hlt, HRK.out, HCR.out, fun u hu => by have := HOR.out u; omega, fun u => by have := HOR.out u; omega⟩ (Nat.le_refl _))
        go_upto_region 9 with (first | (go_at_call 42; refine (HFD.out).mono ?_; rintro e w4 ⟨rfl, hs4, ht4⟩; have hv4 := HVR.out.own HSR.out ht4 (fun k e => .inr (.inl e)); have c3 := cell_of_one hv4.h3; have HH4 := Lib.hid (And.intro hs4 (And.intro ht4 hv4)); clear hs4 ht4 hv4) | (go_at_call 58; refine (HVI.out _ HH4.out.1 HH4.out.2.2).mono ?_; rintro e w5 ⟨b, rfl, hs5, ht5, τ, hv5, hb1, hb2⟩; have HH5 := Lib.hid (And.intro hs5 (And.intro ht5 (And.intro hv5 (And.intro hb1 hb2)))); clear hs5 ht5 hv5 hb1 hb2; cases b))
        · go_wp2_with fail
          go_roundw
          case rel =>
            obtain ⟨q1, q2, q3⟩ := HH5.out.2.2.2.2 (by first | rfl | trivial)
            refine ⟨k + 1, τ, by omega, by go_num, Lib.hid HH5.out.1, Lib.hid ?_, Lib.hid HH5.out.2.2.1, Lib.hid q1, Lib.hid (fun u => by have := HOR.out u; have := q2 u; omega), Lib.hid (fun u hu hru => ?_)⟩
            · exact (HTR.out.trans HH4.out.2.1 (fun _ _ e => e)).trans HH5.out.2.1 (fun x hx e => by
                rcases e with e | e
                · exact e
                · omega)
            · by_cases h : u < k
              · have := HAR.out u h hru
                have := q2 u
                omega
              · have : u = k := by omega
                subst this; exact q3
          case measure => simp [intOf]; omega
        · go_ret
          have hcy : Cyc L rt of := HH5.out.2.2.2.1 (by first | rfl | trivial)
          refine ⟨true, rfl, HH5.out.1, ?_, ?_⟩
          · exact (HTR.out.trans HH4.out.2.1 (fun _ _ e => e)).trans HH5.out.2.1 (fun x hx e => by
              rcases e with e | e
              · exact e
              · omega)
          · exact ⟨fun _ => hcy, fun _ => rfl⟩
      · have e1 : (rt (k : Int) == (k : Int)) = false := by simp [hr]
        have HRK := Lib.hid hr
        clear hr
        go_wp2_with (go_at_call 42; refine (HFD.out).mono ?_; rintro e w4 ⟨rfl, hs4, ht4⟩; have HH4 := Lib.hid (And.intro hs4 ht4); clear hs4 ht4)
        go_roundw
        case rel => exact ⟨k + 1, σ, by omega, by go_num, Lib.hid HH4.out.1, Lib.hid (HTR.out.trans HH4.out.2 (fun _ _ e => e)), Lib.hid (HVR.out.own HSR.out HH4.out.2 (fun k e => .inr (.inl e))), HCR, HOR, Lib.hid (fun u hu hru => by
          by_cases h : u < k
          · exact HAR.out u h hru
          · have : u = k := by omega
            subst this; exact absurd hru HRK.out)⟩
        case measure => simp [intOf]; omega
    · go_wp2_with fail
      go_ret
      refine ⟨false, rfl, HSR.out, HTR.out, (fun h => by cases h), ?_⟩
      rintro ⟨x, hx, hrx, hp⟩
      obtain ⟨xn, rfl⟩ := Int.eq_ofNat_of_zero_le hx.1
      exact absurd hp (HCR.out _ (HAR.out xn (by omega) hrx)).2
end Go.Proofs.YtepmgnhblegiiaaDoor
