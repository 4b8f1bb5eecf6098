/- fits: the kinds and sizes of a class. No condition beyond what each states. -/
import Derived.Test.YtepmgnhblegiiaaDoorVis
import Derived.Deep.QuietTactic
import Derived.BigQuiet
import Derived.IntWalk
set_option linter.all false
namespace Go.Proofs.YtepmgnhblegiiaaDoor
open Go Go.RowKit Go.Maps

set_option maxRecDepth 100000 in
set_option maxHeartbeats 1000000 in
theorem need_any (L : Lay) (rt : Int → Int) (of : Int → Cls) (clash : Bool) (w : World) (g2 : Nat) (v r : Nat) (hv : v < L.n) (hr : rt v = (r : Int)) (hrn : r < L.n) (h : SolW L rt of clash w) (h2 : w.heap[g2]? = some (.cells #[.pointer (some ⟨L.gs, 0, none⟩)] 56 (0, 0))) (hg2 : g2 ≠ L.gu) :
    Calls Tryd.prog 61 #[.int .i64 v, .pointer (some ⟨g2, 0, none⟩)] w fun e w' => e = .returned (.int .i64 (need of r)) ∧ SolW L rt of clash w' ∧ Turn (fun k => k = L.gu) w w' := by
  have H := Lib.hid h
  have H2 := Lib.hid h2
  have HR := Lib.hid hr
  clear h h2 hr
  go_enter Tryd.func61, Tryd.ntmps61
  go_upto_region 1 with (fail)
  refine wp_region_relyT [] 7 (factOf [isV ((.pointer (some ⟨L.gs, 0, none⟩))), isV ((.pointer (some ⟨L.gs, 0, none⟩))), isV ((.pointer (some ⟨L.gs, 1, none⟩))), isV ((.slice (some ⟨L.go, 0, none⟩) L.n L.co)), isV ((.pointer (some ⟨L.gs, 0, none⟩))), isV ((.int .i64 v)), isV ((.int .i64 (r : Int)))]) (nth [[0], [1], [2], [3], [4], [5], [6]]) (nth [[], [], [], [], [], [], []]) (nth [[], [0], [1], [2], [], [], [4, 5]]) [3, 6] (fun w2 => SolW L rt of clash w2 ∧ Turn (fun k => k = L.gu) w w2) (by kernel_rfl) (by kernel_rfl) (⟨H.out.drew, (Turn.refl _ _).drew⟩) (fun w w' h hb => ⟨h.1.turn (Turn.ofBelow (bs := fun _ => False) hb) (fun _ h => h.elim), h.2.trans (Turn.ofBelow (bs := fun _ => False) hb) (fun _ _ h => h.elim)⟩) (GrowsAll.of ((GrowsAll.cons (Grows.isV _)  (GrowsAll.cons (Grows.isV _)  (GrowsAll.cons (Grows.isV _)  (GrowsAll.cons (Grows.isV _)  (GrowsAll.cons (Grows.isV _)  (GrowsAll.cons (Grows.isV _)  (GrowsAll.cons (Grows.isV _) GrowsAll.nil))))))))) (fun f F hF => ?_)
  simp only [List.take_succ_cons, List.take_zero, fullGo, Act.put, List.setIfInBounds_toArray, List.set_cons_zero, List.set_cons_succ, Nat.reduceAdd] at hF
  subst hF
  refine ⟨StepObsF.cons ?_ (StepObsF.cons ?_ (StepObsF.cons ?_ (StepObsF.cons ?_ (StepObsF.cons ?_ (StepObsF.cons ?_ (StepObsF.cons ?_ (StepObsF.nil))))))), ?_⟩
  · intro w2 hS hF hD K hK
    rw [if_pos (by rfl)]
    exact wp_of_quiet (exec_load_at _ _ rfl _ _ rfl _ _ _ (hS.2.heap H2.out hg2) ((.pointer (some ⟨L.gs, 0, none⟩))) (by kernel_rfl) (fun _ => by kernel_rfl)) (hK.out _ _ rfl (After.lit rfl rfl rfl (by first | rfl | kernel_rfl)))
  · intro w2 hS hF hD K hK
    obtain ⟨e0, -⟩ := hF
    replace e0 : f 0 = _ := e0
    try simp only [e0]
    rw [if_pos (by rfl)]
    refine wp_of_quiet (v := (.pointer (some ⟨L.gs, 0, none⟩))) (by (show _ = _); kernel_rfl) (hK.out _ _ rfl (After.lit rfl rfl rfl ?_))
    first | rfl | kernel_rfl
  · intro w2 hS hF hD K hK
    obtain ⟨e1, -⟩ := hF
    replace e1 : f 1 = _ := e1
    try simp only [e1]
    rw [if_pos (by rfl)]
    refine wp_of_quiet (v := (.pointer (some ⟨L.gs, 1, none⟩))) (by (show _ = _); kernel_rfl) (hK.out _ _ rfl (After.lit rfl rfl rfl ?_))
    first | rfl | kernel_rfl
  · intro w2 hS hF hD K hK
    obtain ⟨e2, -⟩ := hF
    replace e2 : f 2 = _ := e2
    try simp only [e2]
    rw [if_pos (by rfl)]
    exact wp_of_quiet (exec_load_at _ _ rfl _ _ rfl _ _ _ (hS.1.s) ((.slice (some ⟨L.go, 0, none⟩) L.n L.co)) (by kernel_rfl) (fun _ => by kernel_rfl)) (hK.out _ _ rfl (After.lit rfl rfl rfl (by first | rfl | kernel_rfl)))
  · intro w2 hS hF hD K hK
    rw [if_pos (by rfl)]
    exact wp_of_quiet (exec_load_at _ _ rfl _ _ rfl _ _ _ (hS.2.heap H2.out hg2) ((.pointer (some ⟨L.gs, 0, none⟩))) (by kernel_rfl) (fun _ => by kernel_rfl)) (hK.out _ _ rfl (After.lit rfl rfl rfl (by first | rfl | kernel_rfl)))
  · intro w2 hS hF hD K hK
    rw [if_pos (by rfl)]
    refine wp_of_quiet (v := (.int .i64 v)) (by (show _ = _); kernel_rfl) (hK.out _ _ rfl (After.lit rfl rfl rfl ?_))
    first | rfl | kernel_rfl
  · intro w2 hS hF hD K hK
    obtain ⟨e4, e5, -⟩ := hF
    replace e4 : f 4 = _ := e4
    replace e5 : f 5 = _ := e5
    try simp only [e4, e5]
    rw [if_pos (by rfl)]
    go_simp
    refine (find_nat L _ hS.1 v r hv HR.out).mono ?_; rintro e w3 ⟨rfl, hs3, ht3⟩; go_simp
    refine hK.out _ _ rfl (After.litS rfl rfl rfl (ht3.size) (⟨hs3, hS.2.trans ht3 (fun _ _ e => e)⟩) (StaysW.isV (StaysW.isV (StaysW.isV (StaysW.isV (StaysW.isV (StaysW.isV (StaysW.isV StaysW.nil))))))) ?_)
    first | rfl | kernel_rfl
  intro w2 hS hF
  obtain ⟨e3, e6, -⟩ := hF
  replace e3 : f 3 = _ := e3
  replace e6 : f 6 = _ := e6
  try simp only [e3, e6]
  simp only [List.drop_succ_cons, List.drop_zero]
  have HS := Lib.hid hS
  have c0 := (hS.1.cls hrn).1
  clear hS e3 e6
  go_wp2
  all_goals
    go_ret
    exact ⟨ret_int (by unfold need; omega), HS.out⟩

def nTrue (l : List Bool) : Nat := (l.filter id).length
theorem nTrue_le (l : List Bool) : nTrue l ≤ l.length := List.length_filter_le _ _
theorem nTrue_snoc (l : List Bool) (k : Nat) (b : Bool) (h : l[k]? = some b) : nTrue (l.take (k + 1)) = nTrue (l.take k) + (if b = true then 1 else 0) := by
  unfold nTrue
  rw [List.take_succ, h]
  cases b <;> simp
/-- At most one kind. -/
def Kinds (of : Int → Cls) (v : Int) : Prop :=
  ¬ ((of v).sign ≠ 0 ∧ (of v).ptr ≠ -1) ∧ ¬ ((of v).sign ≠ 0 ∧ (of v).elem ≠ -1) ∧ ¬ ((of v).sign ≠ 0 ∧ ∃ o f, (of v).fields o = some f) ∧ ¬ ((of v).ptr ≠ -1 ∧ (of v).elem ≠ -1) ∧ ¬ ((of v).ptr ≠ -1 ∧ ∃ o f, (of v).fields o = some f) ∧ ¬ ((of v).elem ≠ -1 ∧ ∃ o f, (of v).fields o = some f)
theorem kinds_iff {of : Int → Cls} {v : Int} {c1 c2 c3 c4 : Bool} (h1 : ((of v).sign != 0) = c1) (h2 : ((of v).ptr != -1) = c2) (h3 : ((of v).elem != -1) = c3) (h4 : c4 = true ↔ ∃ o f, (of v).fields o = some f) {n : Nat}
    (hn : n = (if c1 = true then 1 else 0) + (if c2 = true then 1 else 0) + (if c3 = true then 1 else 0) + (if c4 = true then 1 else 0)) : n ≤ 1 ↔ Kinds of v := by
  have e1 : (of v).sign ≠ 0 ↔ c1 = true := by rw [← h1]; simp
  have e2 : (of v).ptr ≠ -1 ↔ c2 = true := by rw [← h2]; simp
  have e3 : (of v).elem ≠ -1 ↔ c3 = true := by rw [← h3]; simp
  unfold Kinds
  rw [e1, e2, e3, ← h4, hn]
  cases c1 <;> cases c2 <;> cases c3 <;> cases c4 <;> simp
theorem fits_iff {rt : Int → Int} {of : Int → Cls} {v : Int} : Fits rt of v ↔ Kinds of v ∧ ((of v).size ≠ 0 → ∀ o f, (of v).fields o = some f → o + need of (rt f) ≤ (of v).size) ∧ ((of v).size ≠ 0 → (of v).elem ≠ -1 → (of v).count * need of (rt (of v).elem) ≤ (of v).size) :=
  ⟨fun h => ⟨⟨h.sp, h.se, h.sf, h.pe, h.pf, h.ef⟩, h.field, h.elem⟩, fun ⟨⟨a, b, c, d, e, f⟩, g, i⟩ => ⟨a, b, c, d, e, f, g, i⟩⟩
/-- The bounds that the sums of fits want. -/
structure Small (L : Lay) (rt : Int → Int) (of : Int → Cls) : Prop where
  size : ∀ v : Nat, v < L.n → rt v = v → 0 ≤ (of v).size ∧ (of v).size ≤ 65535
  count : ∀ v : Nat, v < L.n → rt v = v → 0 ≤ (of v).count ∧ (of v).count ≤ 65535

def FitPost (L : Lay) (rt : Int → Int) (of : Int → Cls) (clash : Bool) (v : Int) (w : World) (e : Ending) (w' : World) : Prop := ∃ b : Bool, e = .returned (.bool b) ∧ SolW L rt of clash w' ∧ Turn (fun k => k = L.gu) w w' ∧ (b = true ↔ Fits rt of v)
set_option maxRecDepth 100000 in
set_option maxHeartbeats 2000000 in
theorem fits_any (L : Lay) (rt : Int → Int) (of : Int → Cls) (clash : Bool) (w : World) (v : Nat) (hv : v < L.n) (hr : rt v = v) (h : SolW L rt of clash w) (hG : RefsOk L rt of) (hB : Small L rt of) :
    Calls Tryd.prog 43 #[.pointer (some ⟨L.gs, 0, none⟩), .int .i64 v] w (FitPost L rt of clash v w) := by
  have hlim := L.lim
  have s1 := h.s1
  obtain ⟨co, hgo, hco⟩ := h.o
  have hex : (co.extract (v * 6) (v * 6 + 6)).toList = [.int .i64 (of v).size, .int .i64 (of v).sign, .int .i64 (of v).ptr, .int .i64 (of v).elem, .int .i64 (of v).count, .map (some (L.gm v))] := by
    have h5 : v * 6 + 5 < co.size := by
      have := hco v hv 5 (by omega)
      exact (Array.getElem?_eq_some_iff.1 (show co[v * 6 + 5]? = some (.map (some (L.gm v))) from this)).1
    apply List.ext_getElem?
    intro j
    rw [Array.getElem?_toList, Array.getElem?_extract]
    match j with
    | 0 => rw [if_pos (by omega)]; exact hco v hv 0 (by omega)
    | 1 => rw [if_pos (by omega)]; exact hco v hv 1 (by omega)
    | 2 => rw [if_pos (by omega)]; exact hco v hv 2 (by omega)
    | 3 => rw [if_pos (by omega)]; exact hco v hv 3 (by omega)
    | 4 => rw [if_pos (by omega)]; exact hco v hv 4 (by omega)
    | 5 => rw [if_pos (by omega)]; exact hco v hv 5 (by omega)
    | j + 6 => rw [if_neg (by omega)]; rfl
  have HGO := Lib.hid hgo
  have HEX := Lib.hid hex
  have hol : ∀ k, L.own k → k < w.heap.size := fun k hk => h.lt hk
  have hgs := hol _ (.inl rfl)
  have hgol := hol _ (.inr (.inr (.inl rfl)))
  have H := Lib.hid h
  have HG := Lib.hid hG
  have HB := Lib.hid hB
  have HOL := Lib.hid hol
  have HR := Lib.hid hr
  clear h hG hB hol hr hgo hco hex
  go_enter Tryd.func43, Tryd.ntmps43
  have hga : (w.alloc (.cells #[.pointer (some ⟨L.gs, 0, none⟩)] 56)).heap[L.go]? = some (.cells co 71 (0, 0)) := (alloc_other _ _ hgol).trans HGO.out
  have HGA := Lib.hid hga
  clear hga
  go_upto_region 2 with (first | (refine wpList_val (by rfl) (exec_load_midB 71 _ rfl L.go (v * 6) rfl co 71 (0, 0) HGA.out [.int .i64 (of v).size, .int .i64 (of v).sign, .int .i64 (of v).ptr, .int .i64 (of v).elem, .int .i64 (of v).count, .map (some (L.gm v))] HEX.out (by kernel_rfl)) ?_) | (refine wpList_store_row rfl _ _ _ rfl _ _ rfl rfl _ _ (heap_alloc_new _ _) ?_ ?_ ?_ ?_; kernel_rfl; rfl; kernel_rfl; rw [World.setRow_alloc_new]))
  obtain ⟨W, hW⟩ : ∃ W, W = (w.alloc (.cells #[.pointer (some ⟨L.gs, 0, none⟩)] 56)).alloc (.cells #[.int .i64 (of v).size, .int .i64 (of v).sign, .int .i64 (of v).ptr, .int .i64 (of v).elem, .int .i64 (of v).count, .map (some (L.gm v))] 71) := ⟨_, rfl⟩
  have HSW := Lib.hid (show SolW L rt of clash W by rw [hW]; exact (H.out.alloc _).alloc _)
  have HTW := Lib.hid (show Turn (fun k => k = L.gu) w W by rw [hW]; exact ((Turn.refl _ _).alloc _).alloc _)
  have b1 : W.heap[w.heap.size]? = some (.cells #[.pointer (some ⟨L.gs, 0, none⟩)] 56 (0, 0)) := by
    rw [hW, alloc_other _ _ (by simp)]; exact heap_alloc_new _ _
  have b2 : W.heap[w.heap.size + 1]? = some (.cells #[.int .i64 (of v).size, .int .i64 (of v).sign, .int .i64 (of v).ptr, .int .i64 (of v).elem, .int .i64 (of v).count, .map (some (L.gm v))] 71 (0, 0)) := by
    have := heap_alloc_new (w.alloc (.cells #[.pointer (some ⟨L.gs, 0, none⟩)] 56)) (.cells #[.int .i64 (of v).size, .int .i64 (of v).sign, .int .i64 (of v).ptr, .int .i64 (of v).elem, .int .i64 (of v).count, .map (some (L.gm v))] 71)
    rw [hW]; simpa using this
  have HW1 := Lib.hid (And.intro b1 b2)
  rw [← hW]
  clear hW b1 b2 HGA HGO HEX s1 hgs hgol
  have hgu := HOL.out _ (.inr (.inl rfl))
  have k0 : W.cell? ⟨w.heap.size + 1, 0, none⟩ = some (.int .i64 (of v).size) := by rw [cell_of_row _ _ _ _ _ _ HW1.out.2]; rfl
  have k1 : W.cell? ⟨w.heap.size + 1, 1, none⟩ = some (.int .i64 (of v).sign) := by rw [cell_of_row _ _ _ _ _ _ HW1.out.2]; rfl
  have k2 : W.cell? ⟨w.heap.size + 1, 2, none⟩ = some (.int .i64 (of v).ptr) := by rw [cell_of_row _ _ _ _ _ _ HW1.out.2]; rfl
  have k3 : W.cell? ⟨w.heap.size + 1, 3, none⟩ = some (.int .i64 (of v).elem) := by rw [cell_of_row _ _ _ _ _ _ HW1.out.2]; rfl
  have k5 : W.cell? ⟨w.heap.size + 1, 5, none⟩ = some (.map (some (L.gm v))) := by rw [cell_of_row _ _ _ _ _ _ HW1.out.2]; rfl
  have hFk : ∀ o, (of v).fields o ≠ none → 0 ≤ o ∧ o < 65536 := fun o ho => by
    cases hf : (of v).fields o with
    | none => exact absurd hf ho
    | some f => exact (HG.out.fields v hv HR.out o f hf).1
  have HFK := Lib.hid hFk
  have hFi : ∀ o, (of v).fields o ≠ none → i64ok o := fun o ho => by have := hFk o ho; unfold i64ok; omega
  have HFI := Lib.hid hFi
  have HMW := Lib.hid (HSW.out.m v hv)
  obtain ⟨c1, hc1⟩ : ∃ c1, ((of v).sign != 0) = c1 := ⟨_, rfl⟩
  obtain ⟨c2, hc2⟩ : ∃ c2, ((of v).ptr != -1) = c2 := ⟨_, rfl⟩
  obtain ⟨c3, hc3⟩ : ∃ c3, ((of v).elem != -1) = c3 := ⟨_, rfl⟩
  clear hFk hFi
  go_upto_region 3 with (fail)
  go_cut [32, 33, 34] (fun s32 s33 s34 wx => ∃ (G : Nat) (c4 : Bool), s32 = .slice (some ⟨G, 0, none⟩) 4 4 ∧ s33 = .int .i64 4 ∧ s34 = .int .i64 0 ∧ Hid (wx.heap[G]? = some (.cells #[.bool c1, .bool c2, .bool c3, .bool c4] 4 (0, 0))) ∧ Hid (c4 = true ↔ ∃ o f, (of v).fields o = some f) ∧ Hid (Turn (fun _ => False) W wx))
  case first =>
    have fin : ∀ c4 : Bool, (c4 = true ↔ ∃ o f, (of v).fields o = some f) → ∃ (G : Nat) (c4' : Bool), Value.slice (some ⟨W.heap.size, 0, none⟩) 4 4 = .slice (some ⟨G, 0, none⟩) 4 4 ∧ Value.int .i64 4 = .int .i64 4 ∧ Value.int .i64 0 = .int .i64 0 ∧ Hid ((W.alloc (.cells #[.bool c1, .bool c2, .bool c3, .bool c4] 4)).heap[G]? = some (.cells #[.bool c1, .bool c2, .bool c3, .bool c4'] 4 (0, 0))) ∧ Hid (c4' = true ↔ ∃ o f, (of v).fields o = some f) ∧ Hid (Turn (fun _ => False) W (W.alloc (.cells #[.bool c1, .bool c2, .bool c3, .bool c4] 4))) := fun c4 h4 =>
      ⟨W.heap.size, c4, rfl, rfl, rfl, Lib.hid (heap_alloc_new _ _), Lib.hid h4, Lib.hid ((Turn.refl _ _).alloc _)⟩
    have FIN := Lib.hid fin
    clear fin
    by_cases hem : ∀ k, (of v).fields k = none
    · have HEM := Lib.hid hem
      clear hem
      go_wp2_with (at_len; refine wpList_len_ii hI3 rfl _ _ rfl hM (zeroInt _) rfl HMW.out HFI.out ?_; intro n hn; obtain rfl : n = 0 := hn.2 HEM.out; clear hn)
      go_meet
      case rel =>
        obtain ⟨G, c4', e1, -, -, e2, e3, e4⟩ := FIN.out false ⟨fun h => (by cases h), fun ⟨o, f, h⟩ => by rw [HEM.out o] at h; cases h⟩
        exact ⟨G, c4', e1, rfl, rfl, e2, e3, e4⟩
    · have HEM := Lib.hid hem
      clear hem
      go_wp2_with (at_len; refine wpList_len_ii hI3 rfl _ _ rfl hM (zeroInt _) rfl HMW.out HFI.out ?_; intro n hn; have hnp : 0 < n := Nat.pos_of_ne_zero (fun e => HEM.out (hn.1 e)); clear hn)
      go_meet
      case rel =>
        obtain ⟨G, c4', e1, -, -, e2, e3, e4⟩ := FIN.out true ⟨fun _ => Classical.byContradiction fun h => HEM.out (fun k => by
        cases hf : (of v).fields k with
        | none => rfl
        | some f => exact absurd ⟨k, f, hf⟩ h), fun _ => rfl⟩
        exact ⟨G, c4', e1, rfl, rfl, e2, e3, e4⟩
  case rest =>
    obtain ⟨G, c4, rfl, rfl, rfl, HG4, HC4, HT4⟩ := hcut
    have h10 : ∀ k : Nat, k < 4 → ([c1, c2, c3, c4] : List Bool)[k]? = some (([c1, c2, c3, c4] : List Bool).getD k false) := fun k hk => by
      match k, hk with
      | 0, _ => rfl
      | 1, _ => rfl
      | 2, _ => rfl
      | 3, _ => rfl
    have H10 := Lib.hid h10
    have HE := Lib.hid (And.intro hc1 (And.intro hc2 hc3))
    obtain ⟨ls, hls⟩ : ∃ ls, ls = ([c1, c2, c3, c4] : List Bool) := ⟨_, rfl⟩
    have HLS := Lib.hid hls
    rw [← hls] at H10
    clear k1 k2 k5 HMW h10 hc1 hc2 hc3 hls
    go_upto_block 0 with (fail)
    go_cut [6] (fun s6 wx => s6 = .int .i64 (nTrue ls) ∧ wc = wx)
    case first =>
      go_wp2_with fail
      go_loop [6, 34] (fun s6 s34 => ∃ k : Nat, k ≤ 4 ∧ s34 = .int .i64 k ∧ s6 = .int .i64 (nTrue (ls.take k))) (fun _ s34 => 4 - (intOf s34).toNat)
      case atStart => exact ⟨0, by omega, rfl, rfl⟩
      case round =>
        obtain ⟨k, hk, rfl, rfl⟩ := hrel
        by_cases hlt : k < 4
        · have hb := H10.out k hlt
          obtain ⟨b, hbk⟩ : ∃ b, b = ls.getD k false := ⟨_, rfl⟩
          rw [← hbk] at hb
          have hsn := nTrue_snoc ls k b hb
          have hle := nTrue_le (ls.take k)
          have hle2 : (ls.take k).length ≤ k := List.length_take_le _ _
          have ck : wc.cell? ⟨G, k, none⟩ = some (.bool b) := by
            rw [cell_of_row _ _ _ _ _ _ HG4.out]
            rw [HLS.out] at hb
            match k, hlt with
            | 0, _ => simpa using hb
            | 1, _ => simpa using hb
            | 2, _ => simpa using hb
            | 3, _ => simpa using hb
          have HSN := Lib.hid hsn
          clear hb hbk hsn
          cases b
          · go_wp2_with fail
            go_round
            case rel => exact ⟨k + 1, by omega, by go_num, by rw [HSN.out]; simp⟩
            case measure => simp [intOf]; omega
          · go_wp2_with fail
            go_round
            case rel => exact ⟨k + 1, by omega, by go_num, by rw [HSN.out]; simp⟩
            case measure => simp [intOf]; omega
        · have hk4 : k = 4 := by omega
          subst hk4
          go_wp2_with fail
          go_meet
          case rel =>
            have : ls.take 4 = ls := by rw [HLS.out]; rfl
            rw [this]
            exact ⟨rfl, rfl⟩
    case rest =>
      obtain ⟨rfl, rfl⟩ := hcut
      have hkinds : nTrue ls = (if c1 = true then 1 else 0) + (if c2 = true then 1 else 0) + (if c3 = true then 1 else 0) + (if c4 = true then 1 else 0) := by
        rw [HLS.out]; cases c1 <;> cases c2 <;> cases c3 <;> cases c4 <;> rfl
      have HKI := Lib.hid hkinds
      have hle := nTrue_le ls
      have hl4 : ls.length = 4 := by rw [HLS.out]; rfl
      rw [hl4] at hle
      clear hkinds hl4
      have hki := kinds_iff HE.out.1 HE.out.2.1 HE.out.2.2 HC4.out HKI.out
      have HT5 := Lib.hid (HTW.out.trans HT4.out (fun _ _ h => h.elim))
      have HS5 := Lib.hid (HSW.out.turn HT4.out (fun _ h => h.elim))
      have HB5 := Lib.hid (HT4.out.heap HW1.out.1 (fun h => h))
      have HB6 := Lib.hid (HT4.out.heap HW1.out.2 (fun h => h))
      have HKD := Lib.hid hki
      clear hki HE HC4 HKI HG4 HLS H10 HT4 HSW HTW HW1 k0 k3
      by_cases hkk : 1 < nTrue ls
      · go_wp2_with fail
        go_ret
        refine ⟨false, rfl, HS5.out, HT5.out, ⟨(fun h => by cases h), fun hf => ?_⟩⟩
        have := HKD.out.2 (fits_iff.1 hf).1
        omega
      · have HKS := Lib.hid (HKD.out.1 (by omega))
        have k0 : wc.cell? ⟨w.heap.size + 1, 0, none⟩ = some (.int .i64 (of v).size) := by rw [cell_of_row _ _ _ _ _ _ HB6.out]; rfl
        have k5 : wc.cell? ⟨w.heap.size + 1, 5, none⟩ = some (.map (some (L.gm v))) := by rw [cell_of_row _ _ _ _ _ _ HB6.out]; rfl
        by_cases hsz : (of v).size = 0
        · have e1 : ((of v).size == 0) = true := by simp [hsz]
          have HSZ := Lib.hid hsz
          clear hsz
          go_wp2_with fail
          go_ret
          exact ⟨true, rfl, HS5.out, HT5.out, ⟨fun _ => fits_iff.2 ⟨HKS.out, fun h => absurd HSZ.out h, fun h => absurd HSZ.out h⟩, fun _ => rfl⟩⟩
        · have e1 : ((of v).size == 0) = false := by simp [hsz]
          have HSZ := Lib.hid hsz
          have hsb := HB.out.size v hv HR.out
          have hnd : ∀ r : Nat, r < L.n → rt r = r → 1 ≤ need of r ∧ need of r ≤ 65535 := fun r hr hrr => by have := HB.out.size r hr hrr; unfold need; omega
          have HND := Lib.hid hnd
          have HM5 := Lib.hid (HS5.out.m v hv)
          clear hsz hnd
          go_upto_block 2 with (at_range; refine wpList_range_ii hI3 rfl _ _ rfl hM (zeroInt _) rfl HM5.out HFK.out ?_; intro w0 cnt hrg0 hcnt hg0 hs0)
          go_frame
          obtain ⟨R, hRR⟩ : ∃ R, R = wc.heap.size := ⟨_, rfl⟩
          rw [← hRR] at hrg0
          rw [← hRR]
          have hRw : w.heap.size ≤ R := by rw [hRR]; exact HT5.out.size
          have hgF : Turn (fun _ => False) wc w0 := (Turn.refl _ _).grown hg0 (fun k e => by cases e)
          have HS6 := Lib.hid (HS5.out.turn hgF (fun _ h => h.elim))
          have HT6 := Lib.hid (HT5.out.trans hgF (fun _ _ h => h.elim))
          have HB7 := Lib.hid (hgF.heap HB5.out (fun h => h))
          have HB8 := Lib.hid (hgF.heap HB6.out (fun h => h))
          have HRG := Lib.hid hrg0
          clear hrg0 hg0 hs0 hRR hgF HS5 HT5 HB5 HB6 HM5 k0 k5
          go_cut [] (fun wx => Hid (SolW L rt of clash wx) ∧ Hid (Turn (fun k => k = L.gu) w wx) ∧ Hid (∀ o f, (of v).fields o = some f → o + need of (rt f) ≤ (of v).size) ∧ Hid (wx.heap[w.heap.size]? = some (.cells #[.pointer (some ⟨L.gs, 0, none⟩)] 56 (0, 0))) ∧ Hid (wx.heap[w.heap.size + 1]? = some (.cells #[.int .i64 (of v).size, .int .i64 (of v).sign, .int .i64 (of v).ptr, .int .i64 (of v).elem, .int .i64 (of v).count, .map (some (L.gm v))] 71 (0, 0))))
          case first =>
            go_wp2_with fail
            go_loopg [] cnt (fun k wr => ∃ left : Int → Bool, Hid (Rw (L.gm v) R (of v).fields left k wr) ∧ Hid (SolW L rt of clash wr) ∧ Hid (Turn (fun k => k = L.gu) w wr) ∧ Hid (∀ o f, left o = false → (of v).fields o = some f → o + need of (rt f) ≤ (of v).size) ∧ Hid (wr.heap[w.heap.size]? = some (.cells #[.pointer (some ⟨L.gs, 0, none⟩)] 56 (0, 0))) ∧ Hid (wr.heap[w.heap.size + 1]? = some (.cells #[.int .i64 (of v).size, .int .i64 (of v).sign, .int .i64 (of v).ptr, .int .i64 (of v).elem, .int .i64 (of v).count, .map (some (L.gm v))] 71 (0, 0))))
            case atStart => exact ⟨_, HRG, HS6, HT6, Lib.hid (fun o f h1 h2 => by rw [h2] at h1; simp at h1), HB7, HB8⟩
            case round =>
              obtain ⟨left, HRW, HSW, HTW, HAW, HBW, HBX⟩ := hrel
              go_upto_region 17 with (at_next; refine wpList_next_ii hI3 rfl _ rfl hM (zeroInt _) rfl HRW.out (fun hl0 => ?_) (fun x c w1 cnt1 hx hc hlx hFx hrg1 hlt1 hg1 hs1 hen => ?_))
              · go_meet
                case rel => exact ⟨HSW, HTW, Lib.hid (fun o f h2 => HAW.out o f (hl0 o) h2), HBW, HBX⟩
              · obtain ⟨oa, ob, oc, od, hobj⟩ := RangeW.obj HRW.out
                have hno := own_iter HSW.out hobj
                have hgR : Turn (fun k => k = R) wr w1 := (Turn.refl _ _).grown hg1 (fun k e _ => by cases e; rfl)
                have hRu : ¬ (fun k => k = L.gu) R := fun e => by simp at e; omega
                have hb1 := HBW.out
                have hb2 := HBX.out
                have HS3 := Lib.hid (HSW.out.turn hgR (fun k e h => hno (e ▸ h)))
                have HT3 := Lib.hid (HTW.out.trans hgR (cs := fun k => k = R) (fun k hk e => absurd hk (by omega)))
                have HBY := Lib.hid (hgR.heap hb1 (fun e => by rw [e, hobj] at hb1; simp at hb1))
                have HBZ := Lib.hid (hgR.heap hb2 (fun e => by rw [e, hobj] at hb2; simp at hb2))
                have hcf := HG.out.fields v hv HR.out x c hFx
                obtain ⟨fn, hfn⟩ := Int.eq_ofNat_of_zero_le hcf.2.1
                subst hfn
                have hfl : fn < L.n := by omega
                have hrf := HG.out.nn fn (by omega)
                obtain ⟨rf, hrfe⟩ := Int.eq_ofNat_of_zero_le hrf.1
                have hrfl : rf < L.n := by omega
                have hrr : rt (rf : Int) = rf := by rw [← hrfe]; exact HG.out.idem _
                have hndb := HND.out rf hrfl hrr
                have hxb := hcf.1
                obtain ⟨nd, hnd⟩ : ∃ nd, nd = need of rf := ⟨_, rfl⟩
                have HNC := Lib.hid (fun W hS hb => need_any L rt of clash W w.heap.size fn rf hfl hrfe hrfl hS hb (by omega))
                rw [← hnd] at HNC hndb
                have hwr : IntKind.i64.wrap (x + nd) = x + nd := IntWalk.i64_in _ (by omega)
                have HNE := Lib.hid hnd
                have HRF := Lib.hid hrfe
                have HFx := Lib.hid hFx
                have HLX := Lib.hid hlx
                have HRG1 := Lib.hid hrg1
                have hn1 : ¬ w.heap.size = L.gu := by omega
                have hn2 : ¬ w.heap.size + 1 = L.gu := by omega
                clear hobj hno hgR hFx hlx hrg1 hg1 hs1 hcf hrf hrfe hrr hb1 hb2 hc hnd
                refine wp_region_relyT [] 8 (factOf [isV ((.int .i64 x)), isV ((.func (.func 61) #[] #[.pointer (some ⟨w.heap.size, 0, none⟩)])), isV ((.int .i64 fn)), isV ((.int .i64 nd)), isV ((.int .i64 (x + nd))), isV ((.pointer (some ⟨w.heap.size + 1, 0, none⟩))), isV ((.int .i64 (of v).size)), isV ((.bool (decide ((of v).size < x + nd))))]) (nth [[0], [1], [2], [3], [4], [5], [6], [7]]) (nth [[], [], [], [], [], [], [], []]) (nth [[], [], [], [1, 2], [0, 3], [], [5], [4, 6]]) [7] (fun w5 => SolW L rt of clash w5 ∧ Turn (fun k => k = L.gu) w1 w5) (by kernel_rfl) (by kernel_rfl) (⟨HS3.out.drew, (Turn.refl _ _).drew⟩) (fun w w' h hb => ⟨h.1.turn (Turn.ofBelow (bs := fun _ => False) hb) (fun _ h => h.elim), h.2.trans (Turn.ofBelow (bs := fun _ => False) hb) (fun _ _ h => h.elim)⟩) (GrowsAll.of ((GrowsAll.cons (Grows.isV _)  (GrowsAll.cons (Grows.isV _)  (GrowsAll.cons (Grows.isV _)  (GrowsAll.cons (Grows.isV _)  (GrowsAll.cons (Grows.isV _)  (GrowsAll.cons (Grows.isV _)  (GrowsAll.cons (Grows.isV _)  (GrowsAll.cons (Grows.isV _) GrowsAll.nil)))))))))) (fun f F hF => ?_)
                simp only [List.take_succ_cons, List.take_zero, fullGo, Act.put, List.setIfInBounds_toArray, List.set_cons_zero, List.set_cons_succ, Nat.reduceAdd] at hF
                subst hF
                refine ⟨StepObsF.cons ?_ (StepObsF.cons ?_ (StepObsF.cons ?_ (StepObsF.cons ?_ (StepObsF.cons ?_ (StepObsF.cons ?_ (StepObsF.cons ?_ (StepObsF.cons ?_ (StepObsF.nil)))))))), ?_⟩
                · intro w5 hS hF hD K hK
                  rw [if_pos (by rfl)]
                  refine wp_of_quiet (v := (.int .i64 x)) (by (show _ = _); kernel_rfl) (hK.out _ _ rfl (After.lit rfl rfl rfl ?_))
                  first | rfl | kernel_rfl
                · intro w5 hS hF hD K hK
                  rw [if_pos (by rfl)]
                  refine wp_of_quiet (v := (.func (.func 61) #[] #[.pointer (some ⟨w.heap.size, 0, none⟩)])) (by (show _ = _); kernel_rfl) (hK.out _ _ rfl (After.lit rfl rfl rfl ?_))
                  first | rfl | kernel_rfl
                · intro w5 hS hF hD K hK
                  rw [if_pos (by rfl)]
                  refine wp_of_quiet (v := (.int .i64 fn)) (by (show _ = _); kernel_rfl) (hK.out _ _ rfl (After.lit rfl rfl rfl ?_))
                  first | rfl | kernel_rfl
                · intro w5 hS hF hD K hK
                  obtain ⟨e1, e2, -⟩ := hF
                  replace e1 : f 1 = _ := e1
                  replace e2 : f 2 = _ := e2
                  try simp only [e1, e2]
                  rw [if_pos (by rfl)]
                  go_simp
                  refine (HNC.out _ hS.1 (hS.2.heap HBY.out hn1)).mono ?_; rintro e w4 ⟨rfl, hs4, ht4⟩; go_simp
                  refine hK.out _ _ rfl (After.litS rfl rfl rfl (ht4.size) (⟨hs4, hS.2.trans ht4 (fun _ _ e => e)⟩) (StaysW.isV (StaysW.isV (StaysW.isV (StaysW.isV (StaysW.isV (StaysW.isV (StaysW.isV (StaysW.isV StaysW.nil)))))))) ?_)
                  first | rfl | kernel_rfl
                · intro w5 hS hF hD K hK
                  obtain ⟨e0, e3, -⟩ := hF
                  replace e0 : f 0 = _ := e0
                  replace e3 : f 3 = _ := e3
                  try simp only [e0, e3]
                  rw [if_pos (by rfl)]
                  go_simp
                  refine hK.out _ _ rfl (After.lit rfl rfl rfl ?_)
                  first | rfl | kernel_rfl
                · intro w5 hS hF hD K hK
                  rw [if_pos (by rfl)]
                  refine wp_of_quiet (v := (.pointer (some ⟨w.heap.size + 1, 0, none⟩))) (by (show _ = _); kernel_rfl) (hK.out _ _ rfl (After.lit rfl rfl rfl ?_))
                  first | rfl | kernel_rfl
                · intro w5 hS hF hD K hK
                  obtain ⟨e5, -⟩ := hF
                  replace e5 : f 5 = _ := e5
                  try simp only [e5]
                  rw [if_pos (by rfl)]
                  exact wp_of_quiet (exec_load_at _ _ rfl _ _ rfl _ _ _ (hS.2.heap HBZ.out hn2) ((.int .i64 (of v).size)) (by kernel_rfl) (fun _ => by kernel_rfl)) (hK.out _ _ rfl (After.lit rfl rfl rfl (by first | rfl | kernel_rfl)))
                · intro w5 hS hF hD K hK
                  obtain ⟨e4, e6, -⟩ := hF
                  replace e4 : f 4 = _ := e4
                  replace e6 : f 6 = _ := e6
                  try simp only [e4, e6]
                  rw [if_pos (by rfl)]
                  go_simp
                  refine hK.out _ _ rfl (After.lit rfl rfl rfl ?_)
                  first | rfl | kernel_rfl
                intro w5 hS hF
                obtain ⟨e7, -⟩ := hF
                replace e7 : f 7 = _ := e7
                try simp only [e7]
                simp only [List.drop_succ_cons, List.drop_zero]
                have HS4 := Lib.hid hS.1
                have HT4 := Lib.hid hS.2
                clear hS hwr
                by_cases hbig : (of v).size < x + nd
                · have eb : decide ((of v).size < x + nd) = true := by simp [hbig]
                  have HBIG := Lib.hid hbig
                  go_wp2
                  go_ret
                  refine ⟨false, rfl, HS4.out, HT3.out.trans HT4.out (fun _ _ e => e), ⟨(fun h => by cases h), fun hf => ?_⟩⟩
                  have h1 := hf.field HSZ.out x fn HFx.out
                  rw [HRF.out, ← HNE.out] at h1
                  have := HBIG.out
                  omega
                · have eb : decide ((of v).size < x + nd) = false := by simp; omega
                  have HBIG := Lib.hid hbig
                  go_wp2
                  go_roundg cnt1
                  case measure => exact hlt1
                  case rel =>
                    have hn3 := L.gm_ne HS3.out hv
                    refine ⟨fun z => left z && z != x, Lib.hid (RangeW.same HRG1.out (HT4.out.block _ (HS3.out.lt (.inr (.inr (.inr ⟨v, hv, rfl⟩)))) hn3.2.1) (HT4.out.block _ (RangeW.lt HRG1.out) hRu)), HS4, Lib.hid (HT3.out.trans HT4.out (fun _ _ e => e)), Lib.hid (fun o f h1 h2 => ?_), Lib.hid (HT4.out.heap HBY.out hn1), Lib.hid (HT4.out.heap HBZ.out hn2)⟩
                    by_cases ho : o = x
                    · subst ho
                      rw [HFx.out] at h2
                      cases h2
                      rw [HRF.out, ← HNE.out]
                      have := HBIG.out
                      omega
                    · have hb : (o != x) = true := by simpa using ho
                      simp only [hb, Bool.and_true] at h1
                      exact HAW.out o f h1 h2
          case rest =>
            clear HRG HS6 HT6 HB7 HB8
            obtain ⟨HS6, HT6, HAL, HB7, HB8⟩ := hcut
            have hn1 : ¬ w.heap.size = L.gu := by omega
            have hn2 : ¬ w.heap.size + 1 = L.gu := by omega
            by_cases hel : (of v).elem = -1
            · have ee : ((of v).elem == -1) = true := by simp [hel]
              have HEL := Lib.hid hel
              clear hel
              go_upto_region 19 with (fail)
              refine wp_region_relyT [] 15 (factOf [isV ((.pointer (some ⟨w.heap.size + 1, 3, none⟩))), isV ((.int .i64 (of v).elem)), isV ((.bool true)), isV ((.bool true)), isV undef, isV undef, isV undef, isV undef, isV undef, isV undef, isV undef, isV undef, isV undef, isV undef, isV ((.bool true))]) (nth [[0], [1], [2], [3], [4], [5], [6], [7], [8], [9], [10], [11], [12], [13], [14]]) (nth [[], [], [], [], [], [], [], [], [], [], [], [], [], [], []]) (nth [[], [0], [1], [2], [3], [4, 3], [3], [3], [7, 3], [6, 8, 3], [5, 9, 3], [3], [11, 3], [10, 12, 3], [3, 13]]) [14] (fun w5 => SolW L rt of clash w5 ∧ Turn (fun k => k = L.gu) wc w5) (by kernel_rfl) (by kernel_rfl) (⟨HS6.out.drew, (Turn.refl _ _).drew⟩) (fun w w' h hb => ⟨h.1.turn (Turn.ofBelow (bs := fun _ => False) hb) (fun _ h => h.elim), h.2.trans (Turn.ofBelow (bs := fun _ => False) hb) (fun _ _ h => h.elim)⟩) (GrowsAll.of ((GrowsAll.cons (Grows.isV _)  (GrowsAll.cons (Grows.isV _)  (GrowsAll.cons (Grows.isV _)  (GrowsAll.cons (Grows.isV _)  (GrowsAll.cons (Grows.isV _)  (GrowsAll.cons (Grows.isV _)  (GrowsAll.cons (Grows.isV _)  (GrowsAll.cons (Grows.isV _)  (GrowsAll.cons (Grows.isV _)  (GrowsAll.cons (Grows.isV _)  (GrowsAll.cons (Grows.isV _)  (GrowsAll.cons (Grows.isV _)  (GrowsAll.cons (Grows.isV _)  (GrowsAll.cons (Grows.isV _)  (GrowsAll.cons (Grows.isV _) GrowsAll.nil))))))))))))))))) (fun f F hF => ?_)
              simp only [List.take_succ_cons, List.take_zero, fullGo, Act.put, List.setIfInBounds_toArray, List.set_cons_zero, List.set_cons_succ, Nat.reduceAdd] at hF
              subst hF
              refine ⟨StepObsF.cons ?_ (StepObsF.cons ?_ (StepObsF.cons ?_ (StepObsF.cons ?_ (StepObsF.cons ?_ (StepObsF.cons ?_ (StepObsF.cons ?_ (StepObsF.cons ?_ (StepObsF.cons ?_ (StepObsF.cons ?_ (StepObsF.cons ?_ (StepObsF.cons ?_ (StepObsF.cons ?_ (StepObsF.cons ?_ (StepObsF.cons ?_ (StepObsF.nil))))))))))))))), ?_⟩
              · intro w5 hS hF hD K hK
                rw [if_pos (by rfl)]
                refine wp_of_quiet (v := (.pointer (some ⟨w.heap.size + 1, 3, none⟩))) (by (show _ = _); kernel_rfl) (hK.out _ _ rfl (After.lit rfl rfl rfl ?_))
                first | rfl | kernel_rfl
              · intro w5 hS hF hD K hK
                obtain ⟨e0, -⟩ := hF
                replace e0 : f 0 = _ := e0
                try simp only [e0]
                rw [if_pos (by rfl)]
                exact wp_of_quiet (exec_load_at _ _ rfl _ _ rfl _ _ _ (hS.2.heap HB8.out hn2) ((.int .i64 (of v).elem)) (by kernel_rfl) (fun _ => by kernel_rfl)) (hK.out _ _ rfl (After.lit rfl rfl rfl (by first | rfl | kernel_rfl)))
              · intro w5 hS hF hD K hK
                obtain ⟨e1, -⟩ := hF
                replace e1 : f 1 = _ := e1
                try simp only [e1]
                rw [if_pos (by rfl)]
                go_simp
                refine hK.out _ _ rfl (After.lit rfl rfl rfl ?_)
                first | rfl | kernel_rfl
              · intro w5 hS hF hD K hK
                obtain ⟨e2, -⟩ := hF
                replace e2 : f 2 = _ := e2
                try simp only [e2]
                rw [if_pos (by rfl)]
                refine wp_of_quiet (v := (.bool true)) (by (show _ = _); kernel_rfl) (hK.out _ _ rfl (After.lit rfl rfl rfl ?_))
                first | rfl | kernel_rfl
              · intro w5 hS hF hD K hK
                obtain ⟨e3, -⟩ := hF
                replace e3 : f 3 = _ := e3
                try simp only [e3]
                rw [if_neg (by (show ¬ (false = true)); exact Bool.false_ne_true)]
                exact hK.out _ _ rfl (After.lit rfl rfl rfl (by first | rfl | kernel_rfl))
              · intro w5 hS hF hD K hK
                obtain ⟨e4, e3, -⟩ := hF
                replace e4 : f 4 = _ := e4
                replace e3 : f 3 = _ := e3
                try simp only [e4, e3]
                rw [if_neg (by (show ¬ (false = true)); exact Bool.false_ne_true)]
                exact hK.out _ _ rfl (After.lit rfl rfl rfl (by first | rfl | kernel_rfl))
              · intro w5 hS hF hD K hK
                obtain ⟨e3, -⟩ := hF
                replace e3 : f 3 = _ := e3
                try simp only [e3]
                rw [if_neg (by (show ¬ (false = true)); exact Bool.false_ne_true)]
                exact hK.out _ _ rfl (After.lit rfl rfl rfl (by first | rfl | kernel_rfl))
              · intro w5 hS hF hD K hK
                obtain ⟨e3, -⟩ := hF
                replace e3 : f 3 = _ := e3
                try simp only [e3]
                rw [if_neg (by (show ¬ (false = true)); exact Bool.false_ne_true)]
                exact hK.out _ _ rfl (After.lit rfl rfl rfl (by first | rfl | kernel_rfl))
              · intro w5 hS hF hD K hK
                obtain ⟨e7, e3, -⟩ := hF
                replace e7 : f 7 = _ := e7
                replace e3 : f 3 = _ := e3
                try simp only [e7, e3]
                rw [if_neg (by (show ¬ (false = true)); exact Bool.false_ne_true)]
                exact hK.out _ _ rfl (After.lit rfl rfl rfl (by first | rfl | kernel_rfl))
              · intro w5 hS hF hD K hK
                obtain ⟨e6, e8, e3, -⟩ := hF
                replace e6 : f 6 = _ := e6
                replace e8 : f 8 = _ := e8
                replace e3 : f 3 = _ := e3
                try simp only [e6, e8, e3]
                rw [if_neg (by (show ¬ (false = true)); exact Bool.false_ne_true)]
                exact hK.out _ _ rfl (After.lit rfl rfl rfl (by first | rfl | kernel_rfl))
              · intro w5 hS hF hD K hK
                obtain ⟨e5, e9, e3, -⟩ := hF
                replace e5 : f 5 = _ := e5
                replace e9 : f 9 = _ := e9
                replace e3 : f 3 = _ := e3
                try simp only [e5, e9, e3]
                rw [if_neg (by (show ¬ (false = true)); exact Bool.false_ne_true)]
                exact hK.out _ _ rfl (After.lit rfl rfl rfl (by first | rfl | kernel_rfl))
              · intro w5 hS hF hD K hK
                obtain ⟨e3, -⟩ := hF
                replace e3 : f 3 = _ := e3
                try simp only [e3]
                rw [if_neg (by (show ¬ (false = true)); exact Bool.false_ne_true)]
                exact hK.out _ _ rfl (After.lit rfl rfl rfl (by first | rfl | kernel_rfl))
              · intro w5 hS hF hD K hK
                obtain ⟨e11, e3, -⟩ := hF
                replace e11 : f 11 = _ := e11
                replace e3 : f 3 = _ := e3
                try simp only [e11, e3]
                rw [if_neg (by (show ¬ (false = true)); exact Bool.false_ne_true)]
                exact hK.out _ _ rfl (After.lit rfl rfl rfl (by first | rfl | kernel_rfl))
              · intro w5 hS hF hD K hK
                obtain ⟨e10, e12, e3, -⟩ := hF
                replace e10 : f 10 = _ := e10
                replace e12 : f 12 = _ := e12
                replace e3 : f 3 = _ := e3
                try simp only [e10, e12, e3]
                rw [if_neg (by (show ¬ (false = true)); exact Bool.false_ne_true)]
                exact hK.out _ _ rfl (After.lit rfl rfl rfl (by first | rfl | kernel_rfl))
              · intro w5 hS hF hD K hK
                obtain ⟨e3, e13, -⟩ := hF
                replace e3 : f 3 = _ := e3
                replace e13 : f 13 = _ := e13
                try simp only [e3, e13]
                rw [if_pos (by rfl)]
                refine wp_of_quiet (v := (.bool true)) (by (show _ = _); kernel_rfl) (hK.out _ _ rfl (After.lit rfl rfl rfl ?_))
                first | rfl | kernel_rfl
              intro w5 hS hF
              obtain ⟨e14, -⟩ := hF
              replace e14 : f 14 = _ := e14
              try simp only [e14]
              simp only [List.drop_succ_cons, List.drop_zero]
              have HS7 := Lib.hid hS.1
              have HT7 := Lib.hid hS.2
              clear hS
              go_wp2
              go_ret
              exact ⟨true, rfl, HS7.out, HT6.out.trans HT7.out (fun _ _ e => e), ⟨fun _ => fits_iff.2 ⟨HKS.out, fun _ => HAL.out, fun _ h => absurd HEL.out h⟩, fun _ => rfl⟩⟩
            · have ee : ((of v).elem == -1) = false := by simp [hel]
              have hcf := (HG.out.elem v hv HR.out).resolve_left hel
              obtain ⟨fn, hfn⟩ := Int.eq_ofNat_of_zero_le hcf.1
              have hfl : fn < L.n := by omega
              have hrf := HG.out.nn fn (by omega)
              obtain ⟨rf, hrfe⟩ := Int.eq_ofNat_of_zero_le hrf.1
              have hrfl : rf < L.n := by omega
              have hrr : rt (rf : Int) = rf := by rw [← hrfe]; exact HG.out.idem _
              have hndb := HND.out rf hrfl hrr
              have hcb := HB.out.count v hv HR.out
              obtain ⟨nd, hnd⟩ : ∃ nd, nd = need of rf := ⟨_, rfl⟩
              have HNC := Lib.hid (fun W hS hb => need_any L rt of clash W w.heap.size fn rf hfl hrfe hrfl hS hb (by omega))
              rw [← hnd] at HNC hndb
              have hm0 : 0 ≤ (of v).count * nd := Int.mul_nonneg hcb.1 (by omega)
              have hm1 : (of v).count * nd ≤ 65535 * 65535 := Int.mul_le_mul hcb.2 hndb.2 (by omega) (by omega)
              have hwr : IntKind.i64.wrap ((of v).count * nd) = (of v).count * nd := IntWalk.i64_in _ (by omega)
              have HNE := Lib.hid hnd
              have HRF := Lib.hid hrfe
              have HEL := Lib.hid (And.intro hel hfn)
              clear hrf hrfe hrr hnd hel hcf
              go_upto_region 19 with (fail)
              refine wp_region_relyT [] 15 (factOf [isV ((.pointer (some ⟨w.heap.size + 1, 3, none⟩))), isV ((.int .i64 (of v).elem)), isV ((.bool false)), isV ((.bool false)), isV ((.pointer (some ⟨w.heap.size + 1, 4, none⟩))), isV ((.int .i64 (of v).count)), isV ((.func (.func 61) #[] #[.pointer (some ⟨w.heap.size, 0, none⟩)])), isV ((.pointer (some ⟨w.heap.size + 1, 3, none⟩))), isV ((.int .i64 (of v).elem)), isV ((.int .i64 nd)), isV ((.int .i64 ((of v).count * nd))), isV ((.pointer (some ⟨w.heap.size + 1, 0, none⟩))), isV ((.int .i64 (of v).size)), isV ((.bool (decide ((of v).count * nd ≤ (of v).size)))), isV ((.bool (decide ((of v).count * nd ≤ (of v).size))))]) (nth [[0], [1], [2], [3], [4], [5], [6], [7], [8], [9], [10], [11], [12], [13], [14]]) (nth [[], [], [], [], [], [], [], [], [], [], [], [], [], [], []]) (nth [[], [0], [1], [2], [3], [4, 3], [3], [3], [7, 3], [6, 8, 3], [5, 9, 3], [3], [11, 3], [10, 12, 3], [3, 13]]) [14] (fun w5 => SolW L rt of clash w5 ∧ Turn (fun k => k = L.gu) wc w5) (by kernel_rfl) (by kernel_rfl) (⟨HS6.out.drew, (Turn.refl _ _).drew⟩) (fun w w' h hb => ⟨h.1.turn (Turn.ofBelow (bs := fun _ => False) hb) (fun _ h => h.elim), h.2.trans (Turn.ofBelow (bs := fun _ => False) hb) (fun _ _ h => h.elim)⟩) (GrowsAll.of ((GrowsAll.cons (Grows.isV _)  (GrowsAll.cons (Grows.isV _)  (GrowsAll.cons (Grows.isV _)  (GrowsAll.cons (Grows.isV _)  (GrowsAll.cons (Grows.isV _)  (GrowsAll.cons (Grows.isV _)  (GrowsAll.cons (Grows.isV _)  (GrowsAll.cons (Grows.isV _)  (GrowsAll.cons (Grows.isV _)  (GrowsAll.cons (Grows.isV _)  (GrowsAll.cons (Grows.isV _)  (GrowsAll.cons (Grows.isV _)  (GrowsAll.cons (Grows.isV _)  (GrowsAll.cons (Grows.isV _)  (GrowsAll.cons (Grows.isV _) GrowsAll.nil))))))))))))))))) (fun f F hF => ?_)
              simp only [List.take_succ_cons, List.take_zero, fullGo, Act.put, List.setIfInBounds_toArray, List.set_cons_zero, List.set_cons_succ, Nat.reduceAdd] at hF
              subst hF
              refine ⟨StepObsF.cons ?_ (StepObsF.cons ?_ (StepObsF.cons ?_ (StepObsF.cons ?_ (StepObsF.cons ?_ (StepObsF.cons ?_ (StepObsF.cons ?_ (StepObsF.cons ?_ (StepObsF.cons ?_ (StepObsF.cons ?_ (StepObsF.cons ?_ (StepObsF.cons ?_ (StepObsF.cons ?_ (StepObsF.cons ?_ (StepObsF.cons ?_ (StepObsF.nil))))))))))))))), ?_⟩
              · intro w5 hS hF hD K hK
                rw [if_pos (by rfl)]
                refine wp_of_quiet (v := (.pointer (some ⟨w.heap.size + 1, 3, none⟩))) (by (show _ = _); kernel_rfl) (hK.out _ _ rfl (After.lit rfl rfl rfl ?_))
                first | rfl | kernel_rfl
              · intro w5 hS hF hD K hK
                obtain ⟨e0, -⟩ := hF
                replace e0 : f 0 = _ := e0
                try simp only [e0]
                rw [if_pos (by rfl)]
                exact wp_of_quiet (exec_load_at _ _ rfl _ _ rfl _ _ _ (hS.2.heap HB8.out hn2) ((.int .i64 (of v).elem)) (by kernel_rfl) (fun _ => by kernel_rfl)) (hK.out _ _ rfl (After.lit rfl rfl rfl (by first | rfl | kernel_rfl)))
              · intro w5 hS hF hD K hK
                obtain ⟨e1, -⟩ := hF
                replace e1 : f 1 = _ := e1
                try simp only [e1]
                rw [if_pos (by rfl)]
                go_simp
                refine hK.out _ _ rfl (After.lit rfl rfl rfl ?_)
                first | rfl | kernel_rfl
              · intro w5 hS hF hD K hK
                obtain ⟨e2, -⟩ := hF
                replace e2 : f 2 = _ := e2
                try simp only [e2]
                rw [if_pos (by rfl)]
                refine wp_of_quiet (v := (.bool false)) (by (show _ = _); kernel_rfl) (hK.out _ _ rfl (After.lit rfl rfl rfl ?_))
                first | rfl | kernel_rfl
              · intro w5 hS hF hD K hK
                obtain ⟨e3, -⟩ := hF
                replace e3 : f 3 = _ := e3
                try simp only [e3]
                rw [if_pos (by rfl)]
                refine wp_of_quiet (v := (.pointer (some ⟨w.heap.size + 1, 4, none⟩))) (by (show _ = _); kernel_rfl) (hK.out _ _ rfl (After.lit rfl rfl rfl ?_))
                first | rfl | kernel_rfl
              · intro w5 hS hF hD K hK
                obtain ⟨e4, e3, -⟩ := hF
                replace e4 : f 4 = _ := e4
                replace e3 : f 3 = _ := e3
                try simp only [e4, e3]
                rw [if_pos (by rfl)]
                exact wp_of_quiet (exec_load_at _ _ rfl _ _ rfl _ _ _ (hS.2.heap HB8.out hn2) ((.int .i64 (of v).count)) (by kernel_rfl) (fun _ => by kernel_rfl)) (hK.out _ _ rfl (After.lit rfl rfl rfl (by first | rfl | kernel_rfl)))
              · intro w5 hS hF hD K hK
                obtain ⟨e3, -⟩ := hF
                replace e3 : f 3 = _ := e3
                try simp only [e3]
                rw [if_pos (by rfl)]
                refine wp_of_quiet (v := (.func (.func 61) #[] #[.pointer (some ⟨w.heap.size, 0, none⟩)])) (by (show _ = _); kernel_rfl) (hK.out _ _ rfl (After.lit rfl rfl rfl ?_))
                first | rfl | kernel_rfl
              · intro w5 hS hF hD K hK
                obtain ⟨e3, -⟩ := hF
                replace e3 : f 3 = _ := e3
                try simp only [e3]
                rw [if_pos (by rfl)]
                refine wp_of_quiet (v := (.pointer (some ⟨w.heap.size + 1, 3, none⟩))) (by (show _ = _); kernel_rfl) (hK.out _ _ rfl (After.lit rfl rfl rfl ?_))
                first | rfl | kernel_rfl
              · intro w5 hS hF hD K hK
                obtain ⟨e7, e3, -⟩ := hF
                replace e7 : f 7 = _ := e7
                replace e3 : f 3 = _ := e3
                try simp only [e7, e3]
                rw [if_pos (by rfl)]
                exact wp_of_quiet (exec_load_at _ _ rfl _ _ rfl _ _ _ (hS.2.heap HB8.out hn2) ((.int .i64 (of v).elem)) (by kernel_rfl) (fun _ => by kernel_rfl)) (hK.out _ _ rfl (After.lit rfl rfl rfl (by first | rfl | kernel_rfl)))
              · intro w5 hS hF hD K hK
                obtain ⟨e6, e8, e3, -⟩ := hF
                replace e6 : f 6 = _ := e6
                replace e8 : f 8 = _ := e8
                replace e3 : f 3 = _ := e3
                try simp only [e6, e8, e3]
                rw [if_pos (by rfl)]
                go_simp
                refine (HNC.out _ hS.1 (hS.2.heap HB7.out hn1)).mono ?_; rintro e w4 ⟨rfl, hs4, ht4⟩; go_simp
                refine hK.out _ _ rfl (After.litS rfl rfl rfl (ht4.size) (⟨hs4, hS.2.trans ht4 (fun _ _ e => e)⟩) (StaysW.isV (StaysW.isV (StaysW.isV (StaysW.isV (StaysW.isV (StaysW.isV (StaysW.isV (StaysW.isV (StaysW.isV (StaysW.isV (StaysW.isV (StaysW.isV (StaysW.isV (StaysW.isV (StaysW.isV StaysW.nil))))))))))))))) ?_)
                first | rfl | kernel_rfl
              · intro w5 hS hF hD K hK
                obtain ⟨e5, e9, e3, -⟩ := hF
                replace e5 : f 5 = _ := e5
                replace e9 : f 9 = _ := e9
                replace e3 : f 3 = _ := e3
                try simp only [e5, e9, e3]
                rw [if_pos (by rfl)]
                go_simp
                refine hK.out _ _ rfl (After.lit rfl rfl rfl ?_)
                first | rfl | kernel_rfl
              · intro w5 hS hF hD K hK
                obtain ⟨e3, -⟩ := hF
                replace e3 : f 3 = _ := e3
                try simp only [e3]
                rw [if_pos (by rfl)]
                refine wp_of_quiet (v := (.pointer (some ⟨w.heap.size + 1, 0, none⟩))) (by (show _ = _); kernel_rfl) (hK.out _ _ rfl (After.lit rfl rfl rfl ?_))
                first | rfl | kernel_rfl
              · intro w5 hS hF hD K hK
                obtain ⟨e11, e3, -⟩ := hF
                replace e11 : f 11 = _ := e11
                replace e3 : f 3 = _ := e3
                try simp only [e11, e3]
                rw [if_pos (by rfl)]
                exact wp_of_quiet (exec_load_at _ _ rfl _ _ rfl _ _ _ (hS.2.heap HB8.out hn2) ((.int .i64 (of v).size)) (by kernel_rfl) (fun _ => by kernel_rfl)) (hK.out _ _ rfl (After.lit rfl rfl rfl (by first | rfl | kernel_rfl)))
              · intro w5 hS hF hD K hK
                obtain ⟨e10, e12, e3, -⟩ := hF
                replace e10 : f 10 = _ := e10
                replace e12 : f 12 = _ := e12
                replace e3 : f 3 = _ := e3
                try simp only [e10, e12, e3]
                rw [if_pos (by rfl)]
                go_simp
                refine hK.out _ _ rfl (After.lit rfl rfl rfl ?_)
                first | rfl | kernel_rfl
              · intro w5 hS hF hD K hK
                obtain ⟨e3, e13, -⟩ := hF
                replace e3 : f 3 = _ := e3
                replace e13 : f 13 = _ := e13
                try simp only [e3, e13]
                rw [if_pos (by rfl)]
                go_simp
                refine hK.out _ _ rfl (After.lit rfl rfl rfl ?_)
                first | rfl | kernel_rfl
              intro w5 hS hF
              obtain ⟨e14, -⟩ := hF
              replace e14 : f 14 = _ := e14
              try simp only [e14]
              simp only [List.drop_succ_cons, List.drop_zero]
              have HS7 := Lib.hid hS.1
              have HT7 := Lib.hid hS.2
              clear hS hwr hm0 hm1
              go_wp2
              go_ret
              refine ⟨decide ((of v).count * nd ≤ (of v).size), rfl, HS7.out, HT6.out.trans HT7.out (fun _ _ e => e), ?_⟩
              rw [fits_iff, decide_eq_true_eq]
              constructor
              · intro h
                refine ⟨HKS.out, fun _ => HAL.out, fun _ _ => ?_⟩
                rw [HEL.out.2, HRF.out, ← HNE.out]; exact h
              · rintro ⟨-, -, h⟩
                have := h HSZ.out HEL.out.1
                rw [HEL.out.2, HRF.out, ← HNE.out] at this; exact this
end Go.Proofs.YtepmgnhblegiiaaDoor
