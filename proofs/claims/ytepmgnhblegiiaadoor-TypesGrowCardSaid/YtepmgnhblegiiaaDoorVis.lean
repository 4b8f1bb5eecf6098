/- The search for a class that contains itself, walked. No condition beyond what each states. -/
import Derived.Test.YtepmgnhblegiiaaDoorInn
import Derived.Laws.EntriesVeiled
import Derived.Deep.RegionWith
import Derived.Deep.DeepCutAuto
set_option linter.all false
namespace Go.Proofs.YtepmgnhblegiiaaDoor
open Go Go.RowKit Go.Maps

/-- What the search captures: the states, the solver, itself. -/
structure VisW (L : Lay) (gq g1 g2 g3 : Nat) (σ : Int → Int) (w : World) : Prop where
  q : ∃ (c : Array Value), w.heap[gq]? = some (.cells c 3 (0, 0)) ∧ ∀ v, v < L.n → c[v]? = some (.int .i64 (σ v))
  h1 : ∃ cap, w.heap[g1]? = some (.cells #[.slice (some ⟨gq, 0, none⟩) L.n cap] 47 (0, 0))
  h2 : w.heap[g2]? = some (.cells #[.pointer (some ⟨L.gs, 0, none⟩)] 56 (0, 0))
  h3 : w.heap[g3]? = some (.cells #[.func (.func 58) #[] #[.pointer (some ⟨g1, 0, none⟩), .pointer (some ⟨g2, 0, none⟩), .pointer (some ⟨g3, 0, none⟩)]] 65 (0, 0))
  ne : gq ≠ L.gu
def visB (L : Lay) (gq k : Nat) : Prop := k = L.gu ∨ k = gq
section
variable {L : Lay} {gq g1 g2 g3 : Nat} {σ : Int → Int} {w w' : World} {rt : Int → Int} {of : Int → Cls} {clash : Bool}
theorem VisW.off (h : VisW L gq g1 g2 g3 σ w) (hs : SolW L rt of clash w) : ¬ L.own gq ∧ ¬ L.own g1 ∧ ¬ L.own g2 ∧ ¬ L.own g3 ∧ g1 ≠ gq ∧ g2 ≠ gq ∧ g3 ≠ gq := by
  obtain ⟨c, hq, -⟩ := h.q
  obtain ⟨cap, h1⟩ := h.h1
  have h2 := h.h2
  have h3 := h.h3
  have n1 : ¬ L.own g1 := fun ho => by rcases own_obj hs ho with ⟨_, h'⟩ | ⟨_, h'⟩ | ⟨_, h'⟩ | ⟨_, _, h'⟩ <;> rw [h1] at h' <;> simp at h'
  have n2 : ¬ L.own g2 := fun ho => by rcases own_obj hs ho with ⟨_, h'⟩ | ⟨_, h'⟩ | ⟨_, h'⟩ | ⟨_, _, h'⟩ <;> rw [h2] at h' <;> simp at h'
  have n3 : ¬ L.own g3 := fun ho => by rcases own_obj hs ho with ⟨_, h'⟩ | ⟨_, h'⟩ | ⟨_, h'⟩ | ⟨_, _, h'⟩ <;> rw [h3] at h' <;> simp at h'
  refine ⟨?_, n1, n2, n3, fun e => ?_, fun e => ?_, fun e => ?_⟩
  · rintro (e | e | e | ⟨v, hv, e⟩)
    · rw [e, hs.s] at hq; simp at hq
    · exact h.ne e
    · obtain ⟨co, ho, -⟩ := hs.o; rw [e, ho] at hq; simp at hq
    · obtain ⟨es, ck, ho⟩ := (hs.m v hv).obj; rw [e, ho] at hq; simp at hq
  · rw [e, hq] at h1; simp at h1
  · rw [e, hq] at h2; simp at h2
  · rw [e, hq] at h3; simp at h3
theorem VisW.own (h : VisW L gq g1 g2 g3 σ w) (hs : SolW L rt of clash w) {bs : Nat → Prop} (t : Turn bs w w') (hb : ∀ k, bs k → L.own k) : VisW L gq g1 g2 g3 σ w' := by
  obtain ⟨n0, n1, n2, n3, -⟩ := h.off hs
  obtain ⟨c, hq, hc⟩ := h.q
  obtain ⟨cap, h1⟩ := h.h1
  exact ⟨⟨c, t.heap hq (fun e => n0 (hb _ e)), hc⟩, ⟨cap, t.heap h1 (fun e => n1 (hb _ e))⟩, t.heap h.h2 (fun e => n2 (hb _ e)), t.heap h.h3 (fun e => n3 (hb _ e)), h.ne⟩
theorem VisW.set (h : VisW L gq g1 g2 g3 σ w) (hs : SolW L rt of clash w) (v : Nat) (hv : v < L.n) (x : Int) : VisW L gq g1 g2 g3 (setS σ v x) (w.setCell ⟨gq, v, none⟩ (.int .i64 x)) ∧ SolW L rt of clash (w.setCell ⟨gq, v, none⟩ (.int .i64 x)) := by
  obtain ⟨n0, n1, n2, n3, m1, m2, m3⟩ := h.off hs
  obtain ⟨c, hq, hc⟩ := h.q
  obtain ⟨cap, h1⟩ := h.h1
  refine ⟨⟨⟨_, heap_setCell_same hq _, fun u hu => ?_⟩, ⟨cap, (heap_setCell_other m1 _).trans h1⟩, (heap_setCell_other m2 _).trans h.h2, (heap_setCell_other m3 _).trans h.h3, h.ne⟩, ?_⟩
  · have hsz : v < c.size := (Array.getElem?_eq_some_iff.1 (hc v hv)).1
    by_cases e : u = v
    · subst e; simp [setS, hsz]
    · rw [Array.getElem?_setIfInBounds_ne (Ne.symm e), hc u hu]; simp [setS]; omega
  · exact hs.turn (bs := fun k => k = gq) ((Turn.refl (fun k => k = gq) w).setCell _ (fun _ => rfl)) (fun k e ho => n0 (e ▸ ho))
end
def Cyc (L : Lay) (rt : Int → Int) (of : Int → Cls) : Prop := ∃ x : Int, (0 ≤ x ∧ x < L.n) ∧ rt x = x ∧ Path rt of x x
def IdxPost (L : Lay) (gq g1 g2 g3 : Nat) (rt : Int → Int) (of : Int → Cls) (clash : Bool) (σ : Int → Int) (xs : List Int) (w : World) (e : Ending) (w' : World) : Prop :=
  ∃ j : Int, e = .returned (.int .i64 j) ∧ SolW L rt of clash w' ∧ Turn (visB L gq) w w' ∧ ∃ σ', VisW L gq g1 g2 g3 σ' w' ∧ (0 ≤ j → Cyc L rt of) ∧ (j < 0 → Closed rt of σ' ∧ More σ σ' ∧ ∀ y ∈ xs, σ' y = 2)
def VisPost (L : Lay) (gq g1 g2 g3 : Nat) (rt : Int → Int) (of : Int → Cls) (clash : Bool) (σ : Int → Int) (v : Int) (w : World) (e : Ending) (w' : World) : Prop :=
  ∃ b : Bool, e = .returned (.bool b) ∧ SolW L rt of clash w' ∧ Turn (visB L gq) w w' ∧ ∃ σ', VisW L gq g1 g2 g3 σ' w' ∧ (b = true → Cyc L rt of) ∧ (b = false → Closed rt of σ' ∧ More σ σ' ∧ σ' v = 2)
structure VisHyp (L : Lay) (gq g1 g2 g3 : Nat) (rt : Int → Int) (of : Int → Cls) (clash : Bool) (σ : Int → Int) (v : Nat) (w : World) : Prop where
  sol : SolW L rt of clash w
  vis : VisW L gq g1 g2 g3 σ w
  lt : v < L.n
  root : rt v = v
  shut : Closed rt of σ
  opn : Open rt of σ v
  three : ∀ u, σ u = 0 ∨ σ u = 1 ∨ σ u = 2

theorem visTrans {L : Lay} {gq : Nat} {a b c : World} (h : Turn (visB L gq) a b) (k : Turn (visB L gq) b c) : Turn (visB L gq) a c := h.trans k fun _ _ e => e
theorem More.three {σ τ : Int → Int} (h : More σ τ) (h3 : ∀ u, σ u = 0 ∨ σ u = 1 ∨ σ u = 2) : ∀ u, τ u = 0 ∨ τ u = 1 ∨ τ u = 2 := fun u => by have := h u; have := h3 u; omega

set_option maxRecDepth 100000 in
set_option maxHeartbeats 1000000 in
theorem idx_any (L : Lay) (gq g1 g2 g3 N : Nat) (rt : Int → Int) (of : Int → Cls) (clash : Bool)
    (hf : ∀ (σ : Int → Int) (v : Nat) (w : World), VisHyp L gq g1 g2 g3 rt of clash σ v w → fresh L.n σ ≤ N → Calls Tryd.prog 58 #[.int .i64 v, .pointer (some ⟨g1, 0, none⟩), .pointer (some ⟨g2, 0, none⟩), .pointer (some ⟨g3, 0, none⟩)] w (VisPost L gq g1 g2 g3 rt of clash σ v w))
    (σ : Int → Int) (xs : List Int) (w : World) (ao : Option Addr) (cap : Nat) (hs : SolW L rt of clash w) (hv : VisW L gq g1 g2 g3 σ w) (hsh : Closed rt of σ) (h3 : ∀ u, σ u = 0 ∨ σ u = 1 ∨ σ u = 2) (hN : fresh L.n σ ≤ N) (hlen : xs.length ≤ 65537)
    (hx : ∀ y ∈ xs, (0 ≤ y ∧ y < L.n) ∧ rt y = y ∧ ∀ τ, More σ τ → Open rt of τ y) (hrow : 0 < xs.length → ∃ g, ao = some ⟨g, 0, none⟩ ∧ ¬ visB L gq g ∧ ∃ c, w.heap[g]? = some (.cells c 3 (0, 0)) ∧ ∀ (i : Nat) y, xs[i]? = some y → c[i]? = some (.int .i64 y)) :
    Calls Tryd.prog 70 #[.slice ao xs.length cap, .func (.func 58) #[] #[.pointer (some ⟨g1, 0, none⟩), .pointer (some ⟨g2, 0, none⟩), .pointer (some ⟨g3, 0, none⟩)]] w (IdxPost L gq g1 g2 g3 rt of clash σ xs w) := by
  rcases Nat.eq_zero_or_pos xs.length with h0 | h0
  · have hnil : xs = [] := List.eq_nil_of_length_eq_zero h0
    subst hnil
    have H := Lib.hid (And.intro hs (And.intro hv hsh))
    clear hs hv hsh hx hrow hf h3 hN
    change Calls _ _ #[.slice ao 0 cap, _] w _
    go_enter Tryd.func70, Tryd.ntmps70
    go_wp2_with fail
    refine wp_loop_rounds 1 ?_
    rw [rounds_succ]
    go_wp2_with fail
    go_ret
    exact ⟨-1, rfl, H.out.1, Turn.refl _ _, σ, H.out.2.1, by omega, fun _ => ⟨H.out.2.2, More.refl _, fun y hy => by simp at hy⟩⟩
  · obtain ⟨g, rfl, hg, c, hgc, hcx⟩ := hrow h0
    have HF := Lib.hid hf
    have HS := Lib.hid hs
    have HV := Lib.hid hv
    have HSH := Lib.hid hsh
    have H3 := Lib.hid h3
    have HX := Lib.hid hx
    have HG := Lib.hid (And.intro hg (And.intro hgc hcx))
    have HN := Lib.hid hN
    clear hf hs hv hsh h3 hx hg hgc hcx hrow hN
    go_enter Tryd.func70, Tryd.ntmps70
    go_wp2_with fail
    go_loopw [8] (fun s8 wr => ∃ (k : Nat) (τ : Int → Int), k ≤ xs.length ∧ s8 = .int .i64 k ∧ Hid (SolW L rt of clash wr) ∧ Hid (Turn (visB L gq) w wr) ∧ Hid (VisW L gq g1 g2 g3 τ wr) ∧ Hid (Closed rt of τ) ∧ Hid (More σ τ) ∧ Hid (∀ i y, i < k → xs[i]? = some y → τ y = 2)) (fun s8 _ => xs.length - (intOf s8).toNat)
    case atStart => exact ⟨0, σ, by omega, rfl, HS, Lib.hid (Turn.refl _ _), HV, HSH, Lib.hid (More.refl _), Lib.hid (by omega)⟩
    case round =>
      obtain ⟨k, τ, hk, rfl, HSR, HTR, HVR, HCR, HMR, HAR⟩ := hrel
      by_cases hlt : k < xs.length
      · obtain ⟨y, hy⟩ : ∃ y, xs[k]? = some y := ⟨_, List.getElem?_eq_getElem hlt⟩
        have hym := List.mem_of_getElem? hy
        have hyx := HX.out y hym
        obtain ⟨yn, hyn⟩ := Int.eq_ofNat_of_zero_le hyx.1.1
        subst hyn
        have cy : wr.cell? ⟨g, k, none⟩ = some (.int .i64 (yn : Int)) := by rw [cell_of_row _ _ _ _ _ _ (HTR.out.heap HG.out.2.1 HG.out.1)]; exact HG.out.2.2 k _ hy
        have hfr : fresh L.n τ ≤ N := Nat.le_trans (fresh_le fun u hu => by have := HMR.out u; omega) HN.out
        have HC := Lib.hid (HF.out τ yn wr ⟨HSR.out, HVR.out, by omega, hyx.2.1, HCR.out, hyx.2.2 τ HMR.out, HMR.out.three H3.out⟩ hfr)
        have HY := Lib.hid hy
        clear hy hym hyx hfr
        go_upto_region 6 with (go_at_call 58; refine (HC.out).mono ?_; rintro e w1 ⟨b, rfl, hs1, ht1, τ1, hv1, hb1, hb2⟩; have HS1 := Lib.hid hs1; have HT1 := Lib.hid ht1; have HV1 := Lib.hid hv1; have HB1 := Lib.hid hb1; have HB2 := Lib.hid hb2; clear hs1 ht1 hv1 hb1 hb2; cases b)
        · go_wp2_with fail
          go_roundw
          case rel =>
            obtain ⟨q1, q2, q3⟩ := HB2.out trivial
            refine ⟨k + 1, τ1, by omega, by go_num, HS1, Lib.hid (visTrans HTR.out HT1.out), HV1, Lib.hid q1, Lib.hid (HMR.out.trans q2), Lib.hid fun i y hi hy => ?_⟩
            rcases Nat.lt_or_ge i k with h | h
            · have h2 := HAR.out i y h hy
              have := q2 y
              omega
            · have : i = k := by omega
              subst this
              have h2 := HY.out
              rw [hy] at h2
              cases h2
              exact q3
          case measure => simp [intOf]; omega
        · go_ret
          exact ⟨k, rfl, HS1.out, visTrans HTR.out HT1.out, τ1, HV1.out, fun _ => HB1.out trivial, fun h => by omega⟩
      · go_wp2_with fail
        go_ret
        refine ⟨-1, rfl, HSR.out, HTR.out, τ, HVR.out, by omega, fun _ => ⟨HCR.out, HMR.out, fun y hy => ?_⟩⟩
        obtain ⟨i, hi⟩ := List.getElem?_of_mem hy
        have hil := (List.getElem?_eq_some_iff.1 hi).1
        exact HAR.out i y (by omega) hi

set_option maxRecDepth 100000 in
set_option maxHeartbeats 1000000 in
theorem cont_any (L : Lay) (gq g1 g2 g3 : Nat) (rt : Int → Int) (of : Int → Cls) (clash : Bool) (σ : Int → Int) (xs : List Int) (w : World) (ao : Option Addr) (n cap : Nat)
    (h : Calls Tryd.prog 70 #[.slice ao n cap, .func (.func 58) #[] #[.pointer (some ⟨g1, 0, none⟩), .pointer (some ⟨g2, 0, none⟩), .pointer (some ⟨g3, 0, none⟩)]] w (IdxPost L gq g1 g2 g3 rt of clash σ xs w)) :
    Calls Tryd.prog 59 #[.slice ao n cap, .func (.func 58) #[] #[.pointer (some ⟨g1, 0, none⟩), .pointer (some ⟨g2, 0, none⟩), .pointer (some ⟨g3, 0, none⟩)]] w fun e w' => ∃ j : Int, e = .returned (.bool (decide (0 ≤ j))) ∧ IdxPost L gq g1 g2 g3 rt of clash σ xs w (.returned (.int .i64 j)) w' := by
  have H := Lib.hid h
  clear h
  go_enter Tryd.func59, Tryd.ntmps59
  go_wp2_with (go_at_call 70; refine (H.out).mono ?_; rintro e w1 ⟨j, rfl, hr⟩; have HR := Lib.hid hr; clear hr)
  go_ret
  exact ⟨j, rfl, j, rfl, HR.out⟩

theorem slice_shape {w : World} {B : Nat} {val : Value} {xs : List Int} (h : w.ownsRow B 3 1 val xs.length (iv xs)) : ∃ ao cap, val = .slice ao xs.length cap ∧ (0 < xs.length → ∃ g, ao = some ⟨g, 0, none⟩ ∧ B ≤ g ∧ ∃ c, w.heap[g]? = some (.cells c 3 (0, 0)) ∧ ∀ (i : Nat) y, xs[i]? = some y → c[i]? = some (.int .i64 y)) := by
  rcases h.2 with ⟨rfl, h0⟩ | ⟨g, cap, cur, rfl, hb, hg, h1, h2, h3, h4⟩
  · exact ⟨none, 0, by rw [h0], fun h => by omega⟩
  · refine ⟨_, cap, rfl, fun _ => ⟨g, rfl, hb, cur, hg, fun i y hy => ?_⟩⟩
    have hi := (List.getElem?_eq_some_iff.1 hy).1
    have h5 : (cur.toList.take (xs.length * 1))[i]? = cur.toList[i]? := by rw [List.getElem?_take, if_pos (by omega)]
    rw [h4] at h5
    rw [← Array.getElem?_toList, ← h5]
    simp [iv, hy]
/-- The solver's references lie in range. -/
structure RefsOk (L : Lay) (rt : Int → Int) (of : Int → Cls) : Prop where
  nn : ∀ u, 0 ≤ u → 0 ≤ rt u ∧ rt u ≤ u
  idem : ∀ u, rt (rt u) = rt u
  elem : ∀ v : Nat, v < L.n → rt v = v → (of v).elem = -1 ∨ (0 ≤ (of v).elem ∧ (of v).elem < L.n)
  fields : ∀ v : Nat, v < L.n → rt v = v → ∀ o f, (of v).fields o = some f → (0 ≤ o ∧ o < 65536) ∧ (0 ≤ f ∧ f < L.n)
theorem RefsOk.edge {L : Lay} {rt : Int → Int} {of : Int → Cls} (h : RefsOk L rt of) {v : Nat} (hv : v < L.n) (hr : rt v = v) {y : Int} (e : Edge rt of v y) : (0 ≤ y ∧ y < L.n) ∧ rt y = y := by
  rcases e with ⟨e1, rfl⟩ | ⟨o, f, e1, rfl⟩
  · have h1 := (h.elem v hv hr).resolve_left e1
    have := h.nn _ h1.1
    exact ⟨by omega, h.idem _⟩
  · have h1 := (h.fields v hv hr o f e1).2
    have := h.nn _ h1.1
    exact ⟨by omega, h.idem _⟩

set_option maxRecDepth 100000 in
set_option maxHeartbeats 2000000 in
theorem visit_step (L : Lay) (gq g1 g2 g3 N : Nat) (rt : Int → Int) (of : Int → Cls) (clash : Bool) (hG : RefsOk L rt of)
    (ih : ∀ (σ : Int → Int) (v : Nat) (w : World), VisHyp L gq g1 g2 g3 rt of clash σ v w → fresh L.n σ < N → Calls Tryd.prog 58 #[.int .i64 v, .pointer (some ⟨g1, 0, none⟩), .pointer (some ⟨g2, 0, none⟩), .pointer (some ⟨g3, 0, none⟩)] w (VisPost L gq g1 g2 g3 rt of clash σ v w))
    (σ : Int → Int) (v : Nat) (w : World) (h : VisHyp L gq g1 g2 g3 rt of clash σ v w) (hN : fresh L.n σ ≤ N) : Calls Tryd.prog 58 #[.int .i64 v, .pointer (some ⟨g1, 0, none⟩), .pointer (some ⟨g2, 0, none⟩), .pointer (some ⟨g3, 0, none⟩)] w (VisPost L gq g1 g2 g3 rt of clash σ v w) := by
  have hlim := L.lim
  have hv := h.lt
  obtain ⟨cq, hcq, hcc⟩ := h.vis.q
  obtain ⟨cap, hc1⟩ := h.vis.h1
  have c1 := cell_of_one hc1
  have cv : w.cell? ⟨gq, v, none⟩ = some (.int .i64 (σ v)) := by rw [cell_of_row _ _ _ _ _ _ hcq]; exact hcc v hv
  have H := Lib.hid h
  have HIH := Lib.hid ih
  have HG := Lib.hid hG
  have HN := Lib.hid hN
  by_cases h0 : σ v = 0
  · have e1 : (σ v != 0) = false := by simp [h0]
    have f1 : w.frozen? ⟨gq, v, none⟩ = false := frozen_of_row _ _ _ _ _ hcq
    have hoff := h.vis.off h.sol
    obtain ⟨hv1, hs1⟩ := h.vis.set h.sol v hv 1
    have ht1 : Turn (visB L gq) w (w.setCell ⟨gq, v, none⟩ (.int .i64 1)) := (Turn.refl _ _).setCell _ (fun _ => .inr rfl)
    have H0 := Lib.hid h0
    have HV1 := Lib.hid (And.intro hv1 (And.intro hs1 ht1))
    have HOFF := Lib.hid hoff
    clear h ih hG hN hcq hcc hc1 h0 hv1 hs1 ht1 hoff
    go_enter Tryd.func58, Tryd.ntmps58
    go_upto_region 4 with (fail)
    obtain ⟨w1, hw1⟩ : ∃ w1, w1 = w.setCell ⟨gq, v, none⟩ (.int .i64 1) := ⟨_, rfl⟩
    rw [← hw1] at HV1
    rw [← hw1]
    have HW1 := Lib.hid hw1
    clear hw1 cv f1 c1
    have c2 := cell_of_one HV1.out.1.h2
    have c3 := cell_of_one HV1.out.1.h3
    have hown : ∀ k, L.own k → k < w1.heap.size := fun k hk => HV1.out.2.1.lt hk
    have HIN := Lib.hid (fun W (hW : Turn (fun _ => False) w1 W) => inner_any L rt of clash W v hv (HV1.out.2.1.turn hW (fun _ h => h.elim)) HG.out.nn (HG.out.elem v hv H.out.root) (HG.out.fields v hv H.out.root))
    clear hown
    go_cut [6] (fun s6 wx => ∃ (b : Bool) (τ : Int → Int), s6 = .bool b ∧ Hid (SolW L rt of clash wx) ∧ Hid (Turn (visB L gq) w1 wx) ∧ Hid (VisW L gq g1 g2 g3 τ wx) ∧ Hid (b = true → Cyc L rt of) ∧ Hid (b = false → Closed rt of τ ∧ More (setS σ v 1) τ ∧ ∀ y, Edge rt of v y → τ y = 2))
    case first =>
      go_region_with (first | (go_at_call 60; refine (HIN.out _ (Turn.refl _ _).drew).mono ?_; rintro e w2 ⟨val, xs, rfl, hs2, ht2, ho2, hl2, hx2⟩; obtain ⟨ao, cap2, rfl, hrow⟩ := slice_shape ho2; have hT2 : Turn (fun k => k = L.gu) w1 w2 := ht2.ofDrew; have hv2 := HV1.out.1.own HV1.out.2.1 hT2 (fun k e => .inr (.inl e)); have c32 := cell_of_one hv2.h3; have HH2 := Lib.hid (And.intro hs2 (And.intro hT2 (And.intro hv2 (And.intro hrow (And.intro hl2 hx2))))); clear hs2 ht2 ho2 hl2 hx2 hrow hT2 hv2) | (go_at_call 59; refine (cont_any L gq g1 g2 g3 rt of clash (setS σ v 1) xs w2 ao xs.length cap2 (idx_any L gq g1 g2 g3 (fresh L.n (setS σ v 1)) rt of clash (fun σ' v' w' h' hle => HIH.out σ' v' w' h' (Nat.lt_of_le_of_lt hle (Nat.lt_of_lt_of_le (fresh_lt hv H0.out 1 (by omega)) HN.out))) (setS σ v 1) xs w2 ao cap2 HH2.out.1 HH2.out.2.2.1 (dfs_enter H0.out H.out.shut) (fun u => by unfold setS; split; exact .inr (.inl rfl); exact H.out.three u) (Nat.le_refl _) HH2.out.2.2.2.2.1 (fun y hy => ⟨(HG.out.edge hv H.out.root ((HH2.out.2.2.2.2.2 y).1 hy)).1, (HG.out.edge hv H.out.root ((HH2.out.2.2.2.2.2 y).1 hy)).2, fun τ hm => dfs_next H.out.opn hm ((HH2.out.2.2.2.2.2 y).1 hy)⟩) (fun hp => by obtain ⟨g, e1, e2, e3⟩ := HH2.out.2.2.2.1 hp; refine ⟨g, e1, ?_, e3⟩; rintro (e | e); (have := HV1.out.2.1.lt (.inr (.inl rfl)); simp at e2; omega); (obtain ⟨c, hq, _⟩ := HV1.out.1.q; have := (Array.getElem?_eq_some_iff.1 hq).1; simp at e2; omega)))).mono ?_; rintro e w3 ⟨j, rfl, j', hj', hs3, ht3, τ, hv3, h31, h32⟩; have HH3 := Lib.hid (And.intro hj' (And.intro hs3 (And.intro ht3 (And.intro hv3 (And.intro h31 h32))))); clear hj' hs3 ht3 hv3 h31 h32))
      all_goals
        go_wp2
        go_meet
        case rel =>
          obtain ⟨k1, k2, k3, k4, k5, k6⟩ := HH3.out
          have hjj : j = j' := by injection k1 with k1; injection k1
          subst hjj
          refine ⟨decide (0 ≤ j), τ, rfl, Lib.hid k2, Lib.hid ((HH2.out.2.1.mono (cs := visB L gq) (fun x _ e => .inl e)).trans k3 (fun _ _ e => e)), Lib.hid k4, Lib.hid (fun hb => k5 (by simpa using hb)), Lib.hid (fun hb => ?_)⟩
          obtain ⟨m1, m2, m3⟩ := k6 (by simp at hb; omega)
          exact ⟨m1, m2, fun y hy => m3 y ((HH2.out.2.2.2.2.2 y).2 hy)⟩
    case rest =>
      obtain ⟨b, τ, rfl, HS4, HT4, HV4, HB1, HB2⟩ := hcut
      obtain ⟨cq4, hcq4, hcc4⟩ := HV4.out.q
      obtain ⟨cap4, hc14⟩ := HV4.out.h1
      have c14 := cell_of_one hc14
      have cv4 : wc.cell? ⟨gq, v, none⟩ = some (.int .i64 (τ v)) := by rw [cell_of_row _ _ _ _ _ _ hcq4]; exact hcc4 v hv
      have f4 : wc.frozen? ⟨gq, v, none⟩ = false := frozen_of_row _ _ _ _ _ hcq4
      clear hcq4 hcc4 hc14 c2 c3 HIN
      go_wp2
      go_ret
      obtain ⟨k1, k2⟩ := HV4.out.set HS4.out v hv 2
      refine ⟨b, rfl, k2, ?_, setS τ v 2, k1, HB1.out, fun hb => ?_⟩
      · exact ((HV1.out.2.2.trans HT4.out (fun _ _ e => e))).setCell (g := gq) _ (fun _ => .inr rfl)
      · obtain ⟨m1, m2, m3⟩ := HB2.out hb
        exact dfs_leave H0.out m2 m1 m3
  · have e1 : (σ v != 0) = true := by simp [h0]
    by_cases h1 : σ v = 1
    · have e2 : (σ v == 1) = true := by simp [h1]
      have H1 := Lib.hid h1
      clear h ih hG hN hcq hcc hc1 h0 h1
      go_enter Tryd.func58, Tryd.ntmps58
      go_wp2
      go_ret
      exact ⟨true, rfl, H.out.sol, Turn.refl _ _, σ, H.out.vis, fun _ => ⟨v, ⟨by omega, by omega⟩, H.out.root, H.out.opn v H1.out⟩, fun h => by cases h⟩
    · have e2 : (σ v == 1) = false := by simp [h1]
      have h2 : σ v = 2 := by have := h.three v; omega
      have H2 := Lib.hid h2
      clear h ih hG hN hcq hcc hc1 h0 h1 h2
      go_enter Tryd.func58, Tryd.ntmps58
      go_wp2
      go_ret
      exact ⟨false, rfl, H.out.sol, Turn.refl _ _, σ, H.out.vis, (fun h => by cases h), (fun _ => ⟨H.out.shut, More.refl _, H2.out⟩)⟩

theorem visit_any (L : Lay) (gq g1 g2 g3 : Nat) (rt : Int → Int) (of : Int → Cls) (clash : Bool) (hG : RefsOk L rt of) : ∀ (N : Nat) (σ : Int → Int) (v : Nat) (w : World), VisHyp L gq g1 g2 g3 rt of clash σ v w → fresh L.n σ ≤ N →
    Calls Tryd.prog 58 #[.int .i64 v, .pointer (some ⟨g1, 0, none⟩), .pointer (some ⟨g2, 0, none⟩), .pointer (some ⟨g3, 0, none⟩)] w (VisPost L gq g1 g2 g3 rt of clash σ v w)
  | 0, σ, v, w, h, hN => visit_step L gq g1 g2 g3 0 rt of clash hG (fun _ _ _ _ h0 => absurd h0 (by omega)) σ v w h hN
  | N + 1, σ, v, w, h, hN => visit_step L gq g1 g2 g3 (N + 1) rt of clash hG (fun σ v w h h0 => visit_any L gq g1 g2 g3 rt of clash hG N σ v w h (by omega)) σ v w h hN
end Go.Proofs.YtepmgnhblegiiaaDoor
