/- Solve. No condition beyond what each states. -/
import Derived.Test.YtepmgnhblegiiaaDoorSlvA
import Derived.OwnWalk
set_option linter.all false
namespace Go.Proofs.YtepmgnhblegiiaaDoor
open Go Go.RowKit Go.Maps

theorem below_box {w w' : World} {v : Value} {T : TypeId} (h : Below (w.alloc (.cells #[v] T)).heap.size (w.alloc (.cells #[v] T)) w') : w'.heap[w.heap.size]? = some (.cells #[v] T (0, 0)) := by
  rw [h.block _ (by simp)]; exact heap_alloc_new _ _
def VerPost (L : Lay) (cs : List Con) (rt : Int → Int) (of : Int → Cls) (clash : Bool) (w : World) (e : Ending) (w' : World) : Prop :=
  ∃ b : Bool, e = .returned (.bool b) ∧ SolW L rt of clash w' ∧ Turn (fun k => k = L.gu) w w' ∧ (b = true ↔ Clash cs)
theorem verdict_any (L : Lay) (cs : List Con) (rt : Int → Int) (of : Int → Cls) (clash : Bool) (w : World) (h : SolW L rt of clash w) (hinv : Inv L.n cs cs rt of clash []) (hR : ∀ c ∈ cs, rightS L.n c = true) :
    Calls Tryd.prog 30 #[.pointer (some ⟨L.gs, 0, none⟩)] w (VerPost L cs rt of clash w) := by
  refine (contradictory_any L rt of clash w h (hinv.refs hR) (hinv.small hR)).mono ?_
  rintro e w' ⟨b, h1, h2, h3, h4⟩
  exact ⟨b, h1, h2, h3, h4.trans (hinv.contradictory hR).symm⟩
theorem clash_nil : ¬ Clash [] := by
  intro h
  cases h with
  | size v s t h1 => obtain ⟨c, hc, -⟩ := h1; cases hc
  | sign v s t h1 => obtain ⟨c, hc, -⟩ := h1; cases hc
  | sp v h1 => obtain ⟨s, c, hc, -⟩ := h1; cases hc
  | sf v h1 => obtain ⟨s, c, hc, -⟩ := h1; cases hc
  | se v h1 => obtain ⟨s, c, hc, -⟩ := h1; cases hc
  | pf v h1 => obtain ⟨c, hc, -⟩ := h1; cases hc
  | pe v h1 => obtain ⟨c, hc, -⟩ := h1; cases hc
  | fe v h1 => obtain ⟨c, hc, -⟩ := h1; cases hc
  | field s k c hc => cases hc
  | elem s k c hc => cases hc
  | loop v h1 =>
    cases h1 with
    | one h => obtain ⟨c, hc, -⟩ := h; cases hc
    | more h _ => obtain ⟨c, hc, -⟩ := h; cases hc
set_option maxRecDepth 100000 in
set_option maxHeartbeats 2000000 in
theorem solve_any (n : Int) (cs : List Con) (hn0 : n = 0 → cs ≠ []) (w : World) (ao : Option Addr) (cap : Nat) (hcap : cs.length ≤ cap) (h : ConsW ao cs w) :
    Calls Tryd.prog 19 #[.int .i64 n, .slice ao cs.length cap] w (SolvePost n cs w) := by
  have hb1 : Below w.heap.size w (w.alloc (.cells #[.int .i64 n] 3)) := (Below.refl _ _).alloc (Nat.le_refl _) _
  by_cases hneg : n < 0
  · clear h hn0 hcap
    have HB := Lib.hid hb1
    clear hb1
    go_enter Tryd.func19, Tryd.ntmps19
    go_wp2_with fail
    go_ret3
    exact ⟨_, [], 0, 1, rfl, .arg hneg, HB.out, RowsW.nil _ _⟩
  obtain ⟨N, rfl⟩ := Int.eq_ofNat_of_zero_le (show 0 ≤ n by omega)
  by_cases hbig : 2000 < N
  · clear h hn0 hcap
    have HB := Lib.hid hb1
    clear hb1
    go_enter Tryd.func19, Tryd.ntmps19
    go_wp2_with fail
    go_ret3
    exact ⟨_, [], 0, 2, rfl, .many (by omega) (.inl (by omega)), HB.out, RowsW.nil _ _⟩
  by_cases hmany : 5000 < cs.length
  · clear h hn0 hcap
    have HB := Lib.hid hb1
    clear hb1
    go_enter Tryd.func19, Tryd.ntmps19
    go_wp2_with fail
    go_ret3
    exact ⟨_, [], 0, 2, rfl, .many (by omega) (.inr hmany), HB.out, RowsW.nil _ _⟩
  have hn1 := hn0
  have H := Lib.hid h
  have HB := Lib.hid hb1
  have HN0 := Lib.hid hn0
  have HI := Lib.hid (index_any N cs (by omega) _ ao cap (h.below hb1) w.heap.size 3 (heap_alloc_new w (.cells #[.int .i64 (N : Int)] 3)))
  clear h hb1 hn0 hn1
  go_enter Tryd.func19, Tryd.ntmps19
  go_upto_region 6 with (go_at_call 26; refine (HI.out).mono ?_; rintro e w1 ⟨hb2, ⟨rfl, hall⟩ | ⟨i, c, rfl, hx, hq, ha⟩⟩)
  rotate_left
  · have HX := Lib.hid (And.intro hx (And.intro hq ha))
    have HB2 := Lib.hid hb2
    have hi0 : ((i : Int) ≥ 0) := by omega
    clear hx hq ha hb2
    go_wp2_with fail
    go_ret3
    exact ⟨_, [], i, 1, rfl, .wrong i c (by omega) (by omega) (by omega) HX.out.1 HX.out.2.1 HX.out.2.2, HB.out.trans (HB2.out.mono (by simp)), RowsW.nil _ _⟩
  have hN : 0 < N := by
    rcases Nat.eq_zero_or_pos N with e | e
    · subst e
      obtain ⟨c, l, rfl⟩ := List.exists_cons_of_ne_nil (HN0.out rfl)
      have := hall c (List.mem_cons_self)
      simp only [rightS, Bool.and_eq_true, decide_eq_true_eq] at this
      omega
    · exact e
  have hbw : Below w.heap.size w w1 := HB.out.trans (hb2.mono (by simp))
  have HBW := Lib.hid hbw
  have HALL := Lib.hid hall
  have HBX := Lib.hid (below_box hb2)
  have HSO := Lib.hid (solverOf_any N hN (by omega) cs hall (by omega) w1 ao cap (H.out.below hbw))
  have c2 := cell_of_one HBX.out
  clear HI hall hbw hb2
  go_upto_region 9 with (go_at_call 29; refine (HSO.out).mono ?_; rintro e w2 ⟨L, rt, of, clash, hLn, rfl, hinv, hsol, hb3, hlo⟩)
  rw [← hLn] at hinv
  have hallL : ∀ c ∈ cs, rightS L.n c = true := by rw [hLn]; exact HALL.out
  have HCC := Lib.hid (verdict_any L cs rt of clash w2 hsol hinv hallL)
  have HINV := Lib.hid hinv
  have HAL := Lib.hid hallL
  have HB3 := Lib.hid hb3
  have HLO := Lib.hid hlo
  clear hsol hb3 hlo hinv hallL HSO
  go_upto_if 35 with (go_at_call 30; refine (HCC.out).mono ?_; rintro e w3 ⟨b, rfl, hs3, ht3, hb⟩; cases b)
  · have hC : ¬ Clash cs := fun hc => by have := hb.2 hc; cases this
    have HC := Lib.hid hC
    have HS3 := Lib.hid hs3
    have hol : ∀ k, L.own k → k < w3.heap.size := fun k hk => hs3.lt hk
    have HOL := Lib.hid hol
    have hB3 : w.heap.size ≤ w3.heap.size := Nat.le_trans HBW.out.size (Nat.le_trans HB3.out.size ht3.size)
    have hb4 : Below w.heap.size w w3 := HBW.out.trans ((HB3.out.mono HBW.out.size).trans (ht3.toBelow (Nat.le_trans HBW.out.size HB3.out.size) (fun k hk => by have := HLO.out k (.inr (.inl hk)); have := HBW.out.size; omega)))
    have HBX3 := Lib.hid (show w3.heap[w.heap.size]? = some (.cells #[.int .i64 (N : Int)] 3 (0, 0)) from by
      have hx := HBX.out
      have hxl := (Array.getElem?_eq_some_iff.1 hx).1
      exact ht3.heap (below_cells hx HB3.out) (fun e => by have := HLO.out _ (.inr (.inl e)); omega))
    have HB4 := Lib.hid hb4
    obtain ⟨j0, hj, hy0, hy1, hy2⟩ := info_parts infoSld
    clear hC hs3 hol hb4 ht3 hb c2
    have c2 := cell_of_one HBX3.out
    go_wp2_with fail
    go_loopw [12, 57] (fun s12 s57 wr => ∃ l : List (Row × Value), l.length ≤ N ∧ s57 = .int .i64 l.length ∧ Hid (SolW L rt of clash wr) ∧ Hid (Below w.heap.size w wr) ∧ w3.heap.size ≤ wr.heap.size ∧ Hid (wr.ownsRow w3.heap.size 44 7 s12 l.length (rowsCells l)) ∧ Hid (∀ p ∈ l, wr.ownsRow w3.heap.size 46 2 p.2 p.1.fields.length (mv p.1.fields) ∧ p.1.fields.length ≤ 65536) ∧ Hid (∀ (v : Nat) p, l[v]? = some p → Desc cs v p.1)) (fun _ s57 _ => N - (intOf s57).toNat)
    case atStart => exact ⟨[], Nat.zero_le _, rfl, HS3, HB4, Nat.le_refl _, Lib.hid ⟨rfl, .inl ⟨rfl, rfl⟩⟩, Lib.hid (fun p hp => by simp at hp), Lib.hid (fun v p hp => by simp at hp)⟩
    case round =>
      obtain ⟨l, hk, rfl, HSR, HBR, hsz, HOR, HMR, HDR⟩ := hrel
      by_cases hlt : l.length < N
      · obtain ⟨r, hr⟩ := Int.eq_ofNat_of_zero_le (HINV.out.roots.nn (l.length : Int) (by omega))
        have hrn : r < L.n := by have := HINV.out.roots.lt (v := (l.length : Int)) (n := L.n) (by omega); omega
        have hrr : rt (r : Int) = r := by rw [← hr]; exact HINV.out.roots.idem _
        have hpp := HINV.out.ptrs r hrn hrr
        have HSD := Lib.hid (solved_any L rt of clash wr l.length (by omega) r hr hrn HSR.out _ _ hpp.1 hpp.2 ((HINV.out.refs HAL.out).fields r hrn hrr))
        have HRC := Lib.hid (rowsCells_len l)
        have HR := Lib.hid hr
        have hlu : L.gu < w3.heap.size := HOL.out _ (.inr (.inl rfl))
        have HLU := Lib.hid hlu
        clear hr hrr hpp hlu
        go_upto_region 22 with (first | (go_at_call 31; refine (HSD.out).mono ?_; rintro e w5 ⟨fv, ms, rfl, hs5, ht5, hm1, hm2, hm3, hm4⟩; obtain ⟨sp, sc, rfl⟩ := own_slice hm1; have HS5 := Lib.hid hs5; have HT5 := Lib.hid ht5; have hz5 := ht5.size; have HM := Lib.hid (And.intro hm1 (And.intro hm2 (And.intro hm3 hm4))); have HO5 := Lib.hid (own_turn HOR.out ht5 (fun k hk e => by have h8 := (own_cells HOR.out k hk).1; have h9 := HLU.out; omega)); clear hs5 ht5 hm1 hm2 hm3 hm4) | (at_builtin; refine wpList_append_own _ rfl _ _ 30 rfl w3.heap.size 44 j0 (.agg #[.int .i64 0, .int .i64 0, .int .i64 0, .int .i64 0, .int .i64 0, .int .i64 0, .slice none 0 0]) 7 72 Tryd.underlying30 hj hy0 hy1 hy2 rfl (by decide) _ l.length (rowsCells l) rfl (own_turn HO5.out ((Turn.refl (fun _ => False) _).alloc _) (fun _ _ h => h)) ⟨w5.heap.size, 0, none⟩ 1 1 (rowCells (rowOf rt of r ms) (.slice sp ms.length sc)) rfl rfl (cells_new _ _ _ _ rfl) (by intro u hu; simp [rowCells] at hu; rcases hu with rfl | rfl | rfl | rfl | rfl | rfl | rfl <;> rfl) (by unfold maxLen; omega) (by omega) (Nat.le_trans hsz (Nat.le_trans hz5 (by simp))) ?_; intro v6 w6 hown6 hgrow6 _))
        have hgB : Turn (fun k => w3.heap.size ≤ k) w5 w6 := ((Turn.refl _ _).alloc _).grown hgrow6 (fun k e _ => (own_cells HO5.out k e).1)
        have hmk : ∀ {p : Value} {n : Nat} {xs : List Value}, w5.ownsRow w3.heap.size 46 2 p n xs → w6.ownsRow w3.heap.size 46 2 p n xs := fun h => own_turn h (((Turn.refl _ _).alloc _).grown hgrow6 (fun x e _ => e)) (fun x hx e => by
          obtain ⟨_, c1, hc1⟩ := own_cells h x hx
          obtain ⟨_, c2, hc2⟩ := own_cells HO5.out x e
          rw [hc1] at hc2; simp at hc2)
        have hsol6 : SolW L rt of clash w6 := HS5.out.turn hgB (fun k hk ho => by have := HOL.out k ho; omega)
        have hbl6 : Below w.heap.size w w6 := HBR.out.trans ((HT5.out.toBelow HBR.out.size (fun k hk => by have := HLO.out k (.inr (.inl hk)); have := HBW.out.size; omega)).trans (hgB.toBelow (Nat.le_trans HBR.out.size hz5) (fun k hk => by omega)))
        have HD6 := Lib.hid (HINV.out.row HAL.out HC.out (v := (l.length : Int)) (by omega) HR.out HM.out.2.2.1 HM.out.2.2.2)
        have hz6 := hgB.size
        go_wp2_with fail
        go_roundw
        case rel =>
          refine ⟨l ++ [(rowOf rt of r ms, .slice sp ms.length sc)], by simp; omega, by simp, Lib.hid hsol6, Lib.hid hbl6, by omega, Lib.hid ?_, Lib.hid fun p hp => ?_, Lib.hid fun v p hvp => ?_⟩
          · rw [rowsCells_snoc, List.length_append]; exact hown6
          · rcases List.mem_append.1 hp with hp | hp
            · have h9 := HMR.out p hp
              exact ⟨hmk (own_turn h9.1 HT5.out (fun k hk e => by have h8 := (own_cells h9.1 k hk).1; have := HLU.out; omega)), h9.2⟩
            · simp only [List.mem_singleton] at hp
              subst hp
              exact ⟨hmk (own_mono HM.out.1 hsz), HM.out.2.1⟩
          · rcases Nat.lt_or_ge v l.length with hv | hv
            · rw [List.getElem?_append_left hv] at hvp
              exact HDR.out v p hvp
            · rw [List.getElem?_append_right hv] at hvp
              have hv0 : v - l.length = 0 := by
                cases hq : v - l.length with
                | zero => rfl
                | succ q => rw [hq] at hvp; simp at hvp
              rw [hv0] at hvp
              simp only [List.getElem?_cons_zero, Option.some.injEq] at hvp
              subst hvp
              have hve : v = l.length := by omega
              subst hve
              exact HD6.out
        case measure => simp [intOf]; omega
      · have : N = l.length := by omega
        subst this
        go_wp2_with fail
        go_ret3
        refine ⟨_, l.map (·.1), 0, 0, rfl, .ok _ (by omega) (by omega) (by omega) (by rw [← hLn]; exact HAL.out) HC.out (by simp) (fun v r hvr => ?_), HBR.out, l, rfl, own_mono HOR.out hB3, fun p hp => ⟨own_mono (HMR.out p hp).1 hB3, (HMR.out p hp).2⟩⟩
        rw [List.getElem?_map] at hvr
        cases hq : l[v]? with
        | none => rw [hq] at hvr; cases hvr
        | some p => rw [hq] at hvr; cases hvr; exact HDR.out v p hq
  · have hC : Clash cs := hb.1 (by first | rfl | trivial)
    have hcl : 0 < cs.length := by
      rcases Nat.eq_zero_or_pos cs.length with e | e
      · rw [List.eq_nil_of_length_eq_zero e] at hC; exact absurd hC clash_nil
      · exact e
    obtain ⟨ga, ca, hao, hga, hca⟩ := H.out hcl
    subst hao
    have HC := Lib.hid hC
    have hb4 : Below w.heap.size w w3 := HBW.out.trans ((HB3.out.mono HBW.out.size).trans (ht3.toBelow (Nat.le_trans HBW.out.size HB3.out.size) (fun k hk => by have := HLO.out k (.inr (.inl hk)); have := HBW.out.size; omega)))
    have hx3 : w3.heap[w.heap.size]? = some (.cells #[.int .i64 (N : Int)] 3 (0, 0)) := by
      have hx := HBX.out
      have hxl := (Array.getElem?_eq_some_iff.1 hx).1
      exact ht3.heap (below_cells hx HB3.out) (fun e => by have := HLO.out _ (.inr (.inl e)); omega)
    have HB4 := Lib.hid hb4
    have HX3 := Lib.hid hx3
    have HCN := Lib.hid clash_nil
    clear hC hb hs3 ht3 hga hca hb4 hx3 c2
    go_wp2_with fail
    go_loopw [9, 10] (fun s9 s10 wr => ∃ lo hi : Nat, lo < hi ∧ hi ≤ cs.length ∧ s9 = .int .i64 lo ∧ s10 = .int .i64 hi ∧ Hid (¬ Clash (cs.take lo)) ∧ Hid (Clash (cs.take hi)) ∧ Hid (Below w.heap.size w wr) ∧ Hid (wr.heap[w.heap.size]? = some (.cells #[.int .i64 (N : Int)] 3 (0, 0)))) (fun s9 s10 _ => (intOf s10).toNat - (intOf s9).toNat)
    case atStart => exact ⟨0, cs.length, hcl, Nat.le_refl _, rfl, rfl, Lib.hid (by rw [List.take_zero]; exact HCN.out), Lib.hid (by rw [List.take_length]; exact HC.out), HB4, HX3⟩
    case round =>
      obtain ⟨lo, hi, hlh, hhl, rfl, rfl, HLC, HHC, HBR, HXR⟩ := hrel
      have c2 := cell_of_one HXR.out
      by_cases hgo : 1 < hi - lo
      · have e1 : ((hi : Int) - lo > 1) := by omega
        go_upto_region 13 with fail
        obtain ⟨half, hhf⟩ : ∃ half : Nat, half = (lo + hi) / 2 := ⟨_, rfl⟩
        have hint : ((lo : Int) + hi) / 2 = (half : Int) := by omega
        rw [hint]
        have hh1 : lo < half := by omega
        have hh2 : half < hi := by omega
        have hh3 : half ≤ cap := by omega
        have hall2 : ∀ c ∈ cs.take half, rightS N c = true := fun c hc => HALL.out c (List.mem_of_mem_take hc)
        have HA2 := Lib.hid hall2
        have HSO := Lib.hid (fun W (hb : Below w.heap.size w W) => by
          have h9 := solverOf_any N hN (by omega) (cs.take half) hall2 (by rw [List.length_take]; omega) W (some ⟨ga, 0, none⟩) cap ((H.out.below hb).take half)
          rw [List.length_take, Nat.min_eq_left (by omega)] at h9
          exact h9)
        clear hhf hint c2 hall2
        refine wp_region_relyT [] 4 (factOf [isV ((.int .i64 (N : Int))), isV ((.slice (some ⟨ga, 0, none⟩) cs.length cap)), isV ((.int .i64 (half : Int))), isV ((.slice (some ⟨ga, 0, none⟩) half cap))]) (nth [[0], [1], [2], [3]]) (nth [[], [], [], []]) (nth [[], [], [], [1, 2]]) [0, 3] (fun w5 => Turn (fun _ => False) wr w5) (by kernel_rfl) (by kernel_rfl) ((Turn.refl _ _).drew) (fun w w' h hb => h.trans (Turn.ofBelow (bs := fun _ => False) hb) (fun _ _ h => h.elim)) (GrowsAll.of ((GrowsAll.cons (Grows.isV _)  (GrowsAll.cons (Grows.isV _)  (GrowsAll.cons (Grows.isV _)  (GrowsAll.cons (Grows.isV _) GrowsAll.nil)))))) (fun f F hF => ?_)
        simp only [List.take_succ_cons, List.take_zero, fullGo, Act.put, List.setIfInBounds_toArray, List.set_cons_zero, List.set_cons_succ, Nat.reduceAdd] at hF
        subst hF
        refine ⟨StepObsF.cons ?_ (StepObsF.cons ?_ (StepObsF.cons ?_ (StepObsF.cons ?_ (StepObsF.nil)))), ?_⟩
        · intro w5 hS hF hD K hK
          rw [if_pos (by rfl)]
          exact wp_of_quiet (exec_load_at _ _ rfl _ _ rfl _ _ _ (hS.heap HXR.out (fun h => h)) ((.int .i64 (N : Int))) (by kernel_rfl) (fun _ => by kernel_rfl)) (hK.out _ _ rfl (After.lit rfl rfl rfl (by first | rfl | kernel_rfl)))
        · intro w5 hS hF hD K hK
          rw [if_pos (by rfl)]
          refine wp_of_quiet (v := (.slice (some ⟨ga, 0, none⟩) cs.length cap)) (by (show _ = _); kernel_rfl) (hK.out _ _ rfl (After.lit rfl rfl rfl ?_))
          first | rfl | kernel_rfl
        · intro w5 hS hF hD K hK
          rw [if_pos (by rfl)]
          refine wp_of_quiet (v := (.int .i64 (half : Int))) (by (show _ = _); kernel_rfl) (hK.out _ _ rfl (After.lit rfl rfl rfl ?_))
          first | rfl | kernel_rfl
        · intro w5 hS hF hD K hK
          obtain ⟨e1, e2, -⟩ := hF
          replace e1 : f 1 = _ := e1
          replace e2 : f 2 = _ := e2
          try simp only [e1, e2]
          rw [if_pos (by rfl)]
          go_simp
          refine hK.out _ _ rfl (After.lit rfl rfl rfl ?_)
          first | rfl | kernel_rfl
        intro w5 hS hF
        obtain ⟨e0, e3, -⟩ := hF
        replace e0 : f 0 = _ := e0
        replace e3 : f 3 = _ := e3
        try simp only [e0, e3]
        simp only [List.drop_succ_cons, List.drop_zero]
        have hbs : Below w.heap.size w w5 := HBR.out.trans (hS.toBelow HBR.out.size (fun k h => h.elim))
        have HBS := Lib.hid hbs
        have HXS := Lib.hid (hS.heap HXR.out (fun h => h))
        clear hS hbs
        go_wp2_with (first | (go_at_call 29; refine (HSO.out _ HBS.out).mono ?_; rintro e w6 ⟨L2, rt2, of2, clash2, hLn2, rfl, hinv2, hsol2, hb6, hlo2⟩; rw [← hLn2] at hinv2; have hal2 : ∀ c ∈ cs.take half, rightS L2.n c = true := (by rw [hLn2]; exact HA2.out); have HV2 := Lib.hid (verdict_any L2 (cs.take half) rt2 of2 clash2 w6 hsol2 hinv2 hal2); have HB6 := Lib.hid hb6; have HL2 := Lib.hid hlo2; clear hinv2 hsol2 hal2 hb6 hlo2) | (go_at_call 30; refine (HV2.out).mono ?_; rintro e w7 ⟨b2, rfl, hs7, ht7, hbb⟩; have HB7 := Lib.hid (And.intro ht7 hbb); clear hs7 ht7 hbb; cases b2))
        all_goals
          have hx := HXS.out
          have hxl := (Array.getElem?_eq_some_iff.1 hx).1
          have HB8 := Lib.hid (HBS.out.trans ((HB6.out.mono HBS.out.size).trans (HB7.out.1.toBelow (Nat.le_trans HBS.out.size HB6.out.size) (fun k hk => by have := HL2.out k (.inr (.inl hk)); have := HBS.out.size; omega))))
          have HX8 := Lib.hid (HB7.out.1.heap (below_cells hx HB6.out) (fun e => by have := HL2.out _ (.inr (.inl e)); omega))
        · exact ⟨⟨half, hi, hh2, hhl, rfl, rfl, Lib.hid (fun hc => by have h9 := HB7.out.2.2 hc; first | cases h9 | exact h9), HHC, HB8, HX8⟩, by simp [intOf]; omega⟩
        · exact ⟨⟨lo, half, hh1, by omega, rfl, rfl, HLC, Lib.hid (HB7.out.2.1 (by first | rfl | trivial)), HB8, HX8⟩, by simp [intOf]; omega⟩
      · have : hi = lo + 1 := by omega
        subst this
        go_wp2_with fail
        go_ret3
        refine ⟨_, [], lo, 60, rfl, .clash lo (by omega) (by omega) (by omega) HALL.out (by omega) HLC.out HHC.out, HBR.out, RowsW.nil _ _⟩
end Go.Proofs.YtepmgnhblegiiaaDoor
