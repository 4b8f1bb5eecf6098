/- solverOf: the solver of some constraints. No condition beyond what each states. -/
import Derived.Test.YtepmgnhblegiiaaDoorAdds
import Derived.Test.YtepmgnhblegiiaaDoorCon
set_option linter.all false
namespace Go.Proofs.YtepmgnhblegiiaaDoor
open Go Go.RowKit Go.Maps

theorem infoCls : (Tryd.prog.info? 71).map (fun i => (i.zero, i.size, i.bytes)) = some (some (.agg #[.int .i64 0, .int .i64 0, .int .i64 0, .int .i64 0, .int .i64 0, .map none]), 6, 48) := by kernel_rfl
/-- A slice of constraints. -/
def ConsW (ao : Option Addr) (cs : List Con) (w : World) : Prop :=
  0 < cs.length → ∃ g c, ao = some ⟨g, 0, none⟩ ∧ w.heap[g]? = some (.cells c 37 (0, 0)) ∧ ∀ (i : Nat) k, cs[i]? = some k → ∀ j, j < 4 → c[i * 4 + j]? = (conCells k)[j]?
theorem ConsW.below {ao : Option Addr} {cs : List Con} {w w' : World} (h : ConsW ao cs w) (hb : Below w.heap.size w w') : ConsW ao cs w' := fun h0 => by
  obtain ⟨g, c, e, hg, hc⟩ := h h0
  exact ⟨g, c, e, below_keep hb hg, hc⟩
theorem ConsW.take {ao : Option Addr} {cs : List Con} {w : World} (h : ConsW ao cs w) (k : Nat) : ConsW ao (cs.take k) w := fun h0 => by
  obtain ⟨g, c, e, hg, hc⟩ := h (by simp at h0; omega)
  refine ⟨g, c, e, hg, fun i x hi => hc i x ?_⟩
  rw [List.getElem?_take] at hi
  split at hi
  · exact hi
  · cases hi

def cls0 : Cls := ⟨0, 0, -1, -1, 0, fun _ => none⟩
def clsList (k : Nat) (gm : Nat → Nat) : List Value := (List.range k).flatMap fun v => (clsCells cls0 (gm v)).toList
def upList (k : Nat) : List Value := (List.range k).map fun v : Nat => .int .i64 (v : Int)
theorem upList_len (k : Nat) : (upList k).length = k * 1 := by simp [upList]
theorem upList_succ (k : Nat) : upList (k + 1) = upList k ++ [.int .i64 (k : Int)] := by simp [upList, List.range_succ]
theorem upList_at {k v : Nat} (h : v < k) : (upList k)[v]? = some (.int .i64 (v : Int)) := by simp [upList, h]
theorem clsList_succ (k : Nat) (gm : Nat → Nat) : clsList (k + 1) gm = clsList k gm ++ (clsCells cls0 (gm k)).toList := by simp [clsList, List.range_succ]
theorem clsList_len (k : Nat) (gm : Nat → Nat) : (clsList k gm).length = k * 6 := by
  induction k with
  | zero => rfl
  | succ k ih => rw [clsList_succ, List.length_append, ih]; simp [clsCells]; omega
theorem clsList_at {k v j : Nat} (gm : Nat → Nat) (h : v < k) (hj : j < 6) : (clsList k gm)[v * 6 + j]? = (clsCells cls0 (gm v))[j]? := by
  induction k with
  | zero => omega
  | succ k ih =>
    rw [clsList_succ]
    rcases Nat.lt_or_ge v k with hv | hv
    · rw [List.getElem?_append_left (by rw [clsList_len]; omega)]; exact ih hv
    · have : v = k := by omega
      subst this
      rw [List.getElem?_append_right (by rw [clsList_len]; omega), clsList_len]
      have e : v * 6 + j - v * 6 = j := by omega
      rw [e, Array.getElem?_toList]
theorem clsList_congr {k : Nat} {gm gm' : Nat → Nat} (h : ∀ v, v < k → gm v = gm' v) : clsList k gm = clsList k gm' := by
  induction k with
  | zero => rfl
  | succ k ih => rw [clsList_succ, clsList_succ, ih (fun v hv => h v (by omega)), h k (by omega)]

/-- The solver while its variables are made. -/
structure MakeW (B gs ku ko : Nat) (gm : Nat → Nat) (vu vo : Value) (w : World) : Prop where
  s : w.heap[gs]? = some (.cells #[vu, vo, .bool false] 68 (0, 0))
  u : w.ownsRow B 3 1 vu ku (upList ku)
  o : w.ownsRow B 71 6 vo ko (clsList ko gm)
  m : ∀ v, v < ko → Mw (gm v) (fun _ => none) w
  lo : ∀ v, v < ko → B ≤ gm v
  inj : ∀ u v, u < ko → v < ko → gm u = gm v → u = v
  hs : B ≤ gs
section
variable {B gs ku ko : Nat} {gm : Nat → Nat} {vu vo : Value} {w w' : World}
theorem MakeW.turn (h : MakeW B gs ku ko gm vu vo w) {bs : Nat → Prop} (t : Turn bs w w') (h1 : ¬ bs gs) (h2 : ∀ x, vu.ownBlock = some x → ¬ bs x) (h3 : ∀ x, vo.ownBlock = some x → ¬ bs x) (h4 : ∀ v, v < ko → ¬ bs (gm v)) : MakeW B gs ku ko gm vu vo w' where
  s := t.heap h.s h1
  u := own_turn h.u t h2
  o := own_turn h.o t h3
  m v hv := (h.m v hv).same (t.block _ (h.m v hv).lt (h4 v hv))
  lo := h.lo
  inj := h.inj
  hs := h.hs
theorem MakeW.alloc (h : MakeW B gs ku ko gm vu vo w) (o : Obj) : MakeW B gs ku ko gm vu vo (w.alloc o) := h.turn (bs := fun _ => False) ((Turn.refl _ _).alloc o) (fun h => h) (fun _ _ h => h) (fun _ _ h => h) (fun _ _ h => h)
/-- The kinds of its blocks. -/
theorem MakeW.kinds (h : MakeW B gs ku ko gm vu vo w) : (∀ x, vu.ownBlock = some x → B ≤ x ∧ x ≠ gs ∧ (∀ y, vo.ownBlock = some y → x ≠ y) ∧ ∀ v, v < ko → x ≠ gm v) ∧ (∀ x, vo.ownBlock = some x → B ≤ x ∧ x ≠ gs ∧ ∀ v, v < ko → x ≠ gm v) ∧ ∀ v, v < ko → gm v ≠ gs := by
  have hu := own_cells h.u
  have ho := own_cells h.o
  have hm := fun v hv => (h.m v hv).obj
  refine ⟨fun x hx => ?_, fun x hx => ?_, fun v hv e => ?_⟩
  · obtain ⟨hB, c, hc⟩ := hu x hx
    refine ⟨hB, fun e => ?_, fun y hy e => ?_, fun v hv e => ?_⟩
    · rw [e, h.s] at hc; simp at hc
    · obtain ⟨_, c', hc'⟩ := ho y hy
      rw [← e, hc] at hc'; simp at hc'
    · obtain ⟨es, ck, hh⟩ := hm v hv
      rw [← e, hc] at hh; cases hh
  · obtain ⟨hB, c, hc⟩ := ho x hx
    refine ⟨hB, fun e => ?_, fun v hv e => ?_⟩
    · rw [e, h.s] at hc; simp at hc
    · obtain ⟨es, ck, hh⟩ := hm v hv
      rw [← e, hc] at hh; cases hh
  · obtain ⟨es, ck, hh⟩ := hm v hv
    rw [e, h.s] at hh; cases hh
theorem cells3_set (a b c x : Value) : ((#[a, b, c] : Array Value).setIfInBounds 0 x = #[x, b, c]) ∧ ((#[a, b, c] : Array Value).setIfInBounds 1 x = #[a, x, c]) := ⟨rfl, rfl⟩
/-- One more variable. -/
theorem MakeW.stepU (h : MakeW B gs ku ko gm vu vo w) {vu' : Value} (hu : w'.ownsRow B 3 1 vu' (ku + 1) (upList ku ++ [.int .i64 (ku : Int)])) (hg : w.grownBy w' vu.ownBlock) : MakeW B gs (ku + 1) ko gm vu' vo (w'.setCell ⟨gs, 0, none⟩ vu') := by
  obtain ⟨k1, k2, k3⟩ := h.kinds
  have t : Turn (fun x => vu.ownBlock = some x) w w' := (Turn.refl _ _).grown hg (fun x e _ => e)
  have hs' : w'.heap[gs]? = some (.cells #[vu, vo, .bool false] 68 (0, 0)) := t.heap h.s (fun e => (k1 gs e).2.1 rfl)
  have ho' : w'.ownsRow B 71 6 vo ko (clsList ko gm) := own_turn h.o t (fun y hy e => (k1 y e).2.2.1 y hy rfl)
  have hm' : ∀ v, v < ko → Mw (gm v) (fun _ => none) w' := fun v hv => (h.m v hv).same (t.block _ (h.m v hv).lt (fun e => (k1 _ e).2.2.2 v hv rfl))
  have t2 : Turn (fun x => x = gs) w' (w'.setCell ⟨gs, 0, none⟩ vu') := (Turn.refl (fun x => x = gs) w').setCell (g := gs) _ (fun _ => rfl)
  refine ⟨?_, own_turn (by rw [upList_succ]; exact hu) t2 (fun x hx e => ?_), own_turn ho' t2 (fun x hx e => (k2 x hx).2.1 e), fun v hv => (hm' v hv).same (t2.block _ (hm' v hv).lt (k3 v hv)), h.lo, h.inj, h.hs⟩
  · rw [heap_setCell_same hs']; rfl
  · obtain ⟨_, c, hc⟩ := own_cells hu x hx
    rw [e, hs'] at hc; simp at hc
theorem MakeW.stepO (h : MakeW B gs ku ko gm vu vo w) {vo' : Value} {M : Nat} (hM : B ≤ M) (hMn : ∀ v, v < ko → gm v ≠ M) (hmm : Mw M (fun _ => none) w) (ho : w'.ownsRow B 71 6 vo' (ko + 1) (clsList ko gm ++ (clsCells cls0 M).toList)) (hg : w.grownBy w' vo.ownBlock) :
    MakeW B gs ku (ko + 1) (setN gm ko M) vu vo' (w'.setCell ⟨gs, 1, none⟩ vo') := by
  obtain ⟨k1, k2, k3⟩ := h.kinds
  have t : Turn (fun x => vo.ownBlock = some x) w w' := (Turn.refl _ _).grown hg (fun x e _ => e)
  have hs' : w'.heap[gs]? = some (.cells #[vu, vo, .bool false] 68 (0, 0)) := t.heap h.s (fun e => (k2 gs e).2.1 rfl)
  have hu' : w'.ownsRow B 3 1 vu ku (upList ku) := own_turn h.u t (fun y hy e => (k1 y hy).2.2.1 y e rfl)
  have t2 : Turn (fun x => x = gs) w' (w'.setCell ⟨gs, 1, none⟩ vo') := (Turn.refl (fun x => x = gs) w').setCell (g := gs) _ (fun _ => rfl)
  have hMc : ∃ es ck, w.heap[M]? = some (.map es ck) := MapW.obj hmm
  have hMo : ¬ vo.ownBlock = some M := fun e => by
    obtain ⟨_, c, hc⟩ := own_cells h.o M e
    obtain ⟨es, ck, hh⟩ := hMc
    rw [hc] at hh; cases hh
  have hMs : M ≠ gs := fun e => by
    obtain ⟨es, ck, hh⟩ := hMc
    rw [e, h.s] at hh; cases hh
  have same : ∀ v, v < ko → setN gm ko M v = gm v := fun v hv => by unfold setN; rw [if_neg (by omega)]
  have self : setN gm ko M ko = M := by simp [setN]
  refine ⟨?_, own_turn hu' t2 (fun x hx e => (k1 x hx).2.1 e), own_turn (by rw [clsList_succ, self, clsList_congr same]; exact ho) t2 (fun x hx e => ?_), fun v hv => ?_, fun v hv => ?_, fun u v hu hv e => ?_, h.hs⟩
  · rw [heap_setCell_same hs']; rfl
  · obtain ⟨_, c, hc⟩ := own_cells ho x hx
    rw [e, hs'] at hc; simp at hc
  · rcases Nat.lt_or_ge v ko with hv' | hv'
    · rw [same v hv']
      have h1 : Mw (gm v) (fun _ => none) w' := (h.m v hv').same (t.block _ (h.m v hv').lt (fun e => (k2 _ e).2.2 v hv' rfl))
      exact MapW.same h1 (t2.block _ (MapW.lt h1) (k3 v hv'))
    · have : v = ko := by omega
      subst this
      rw [self]
      have h1 : Mw M (fun _ => none) w' := MapW.same hmm (t.block _ (MapW.lt hmm) hMo)
      exact MapW.same h1 (t2.block _ (MapW.lt h1) hMs)
  · rcases Nat.lt_or_ge v ko with hv' | hv'
    · rw [same v hv']; exact h.lo v hv'
    · have : v = ko := by omega
      subst this; rw [self]; exact hM
  · rcases Nat.lt_or_ge u ko with hu' | hu' <;> rcases Nat.lt_or_ge v ko with hv' | hv'
    · rw [same u hu', same v hv'] at e; exact h.inj u v hu' hv' e
    · have : v = ko := by omega
      subst this
      rw [same u hu', self] at e; exact absurd e (hMn u hu')
    · have : u = ko := by omega
      subst this
      rw [same v hv', self] at e; exact absurd e.symm (hMn v hv')
    · omega
end

theorem cells_new' {w : World} {c : Array Value} {t : TypeId} {l : List Value} {b : Nat} (hb : b = w.heap.size) (hl : c.toList = l) : ∀ j u, l[j]? = some u → (w.alloc (.cells c t)).cell? ((⟨b, 0, none⟩ : Addr).add j) = some u := by subst hb; exact cells_new w c t l hl
theorem MakeW.below {w0 : World} {B gs i : Nat} {v : Value} {w w' : World} (hb : Below B w0 w) (hB : B ≤ w.heap.size) {row : Option Nat} (hr : ∀ x, row = some x → B ≤ x) (hs : B ≤ gs) (hg : w.grownBy w' row) : Below B w0 (w'.setCell ⟨gs, i, none⟩ v) :=
  hb.trans ((((Turn.refl (fun x => row = some x ∨ x = gs) w).grown hg (fun k e _ => .inl e)).setCell (g := gs) v (fun _ => .inr rfl)).toBelow hB (fun k hk => by rcases hk with h | rfl; exact hr k h; exact hs))
/-- A map just made and the class that bears it. -/
theorem made_Mw (w : World) (o : Obj) : Mw w.heap.size (fun _ => none) ((w.alloc (.map #[] 0)).alloc o) := MapW.same (MapW.made w) (alloc_other _ _ (by simp))
theorem flat_at {c : Array Value} {xs : List Value} {m k : Nat} (h : c.toList.take m = xs) (hk : k < m) : c[k]? = xs[k]? := by
  rw [← h, List.getElem?_take, if_pos hk, Array.getElem?_toList]
theorem MakeW.sol {B gs N : Nat} {gm : Nat → Nat} {vu vo : Value} {w : World} (h : MakeW B gs N N gm vu vo w) (hN : 0 < N) (hN2 : N ≤ 2000) : ∃ L : Lay, L.n = N ∧ L.gs = gs ∧ SolW L (fun v => v) (fun _ => cls0) false w ∧ ∀ k, L.own k → B ≤ k := by
  obtain ⟨k1, k2, k3⟩ := h.kinds
  obtain ⟨m, rfl⟩ : ∃ m, N = m + 1 := ⟨N - 1, by omega⟩
  have hu := h.u
  have ho := h.o
  obtain ⟨-, ⟨-, h0⟩ | ⟨gu, cu, cru, rfl, hbu, hgu, -, -, -, htu⟩⟩ := h.u
  · omega
  obtain ⟨-, ⟨-, h0⟩ | ⟨go, co, cro, rfl, hbo, hgo, -, -, -, hto⟩⟩ := h.o
  · omega
  obtain ⟨a1, a2, a3, a4⟩ := k1 gu rfl
  obtain ⟨b1, b2, b3⟩ := k2 go rfl
  refine ⟨⟨m + 1, gs, gu, go, cu, co, gm, hN2, fun e => a2 e.symm, fun e => b2 e.symm, a3 go rfl, h.inj⟩, rfl, rfl, ⟨h.s, ⟨cru, fun v => v, hgu, ⟨fun v _ => Nat.le_refl v, fun v _ => rfl, fun v _ _ => rfl⟩, fun v hv => ?_⟩, ⟨cro, hgo, fun v hv j hj => ?_⟩, h.m⟩, fun k hk => ?_⟩
  · rw [flat_at htu (by simpa using hv)]; exact upList_at hv
  · rw [flat_at hto (by have hv' : v < m + 1 := hv
                        omega)]; exact clsList_at gm hv hj
  · rcases hk with rfl | rfl | rfl | ⟨v, hv, rfl⟩
    · exact h.hs
    · exact a1
    · exact b1
    · exact h.lo v hv

theorem con_extract {c : Array Value} {i : Nat} {k : Con} (h : ∀ j, j < 4 → c[i * 4 + j]? = (conCells k)[j]?) : (c.extract (i * 4) (i * 4 + (conCells k).toList.length)).toList = (conCells k).toList := by
  have h0 := h 0 (by omega)
  have h1 := h 1 (by omega)
  have h2 := h 2 (by omega)
  have h3 := h 3 (by omega)
  have hs : i * 4 + 3 < c.size := by
    have h3' : c[i * 4 + 3]? = some (.int .i64 k.n) := h3
    exact (Array.getElem?_eq_some_iff.1 h3').1
  have hl : (conCells k).toList.length = 4 := rfl
  apply List.ext_getElem?
  intro j
  rw [Array.getElem?_toList, Array.getElem?_extract, hl, Array.getElem?_toList]
  match j with
  | 0 => rw [if_pos (by omega)]; exact h0
  | 1 => rw [if_pos (by omega)]; exact h1
  | 2 => rw [if_pos (by omega)]; exact h2
  | 3 => rw [if_pos (by omega)]; exact h3
  | j + 4 => rw [if_neg (by omega)]; rfl
def SofPost (N : Nat) (cs : List Con) (w : World) (e : Ending) (w' : World) : Prop :=
  ∃ (L : Lay) (rt : Int → Int) (of : Int → Cls) (clash : Bool), L.n = N ∧ e = .returned (.pointer (some ⟨L.gs, 0, none⟩)) ∧ Inv N cs cs rt of clash [] ∧ SolW L rt of clash w' ∧ Below w.heap.size w w' ∧ ∀ k, L.own k → w.heap.size ≤ k

set_option maxRecDepth 100000 in
set_option maxHeartbeats 2000000 in
theorem solverOf_any (N : Nat) (hN : 0 < N) (hN2 : N ≤ 2000) (cs : List Con) (hR : ∀ c ∈ cs, rightS N c = true) (hl : cs.length ≤ 5000) (w : World) (ao : Option Addr) (cap : Nat) (h : ConsW ao cs w) :
    Calls Tryd.prog 29 #[.int .i64 N, .slice ao cs.length cap] w (SofPost N cs w) := by
  have H := Lib.hid h
  have HR := Lib.hid hR
  clear h hR
  obtain ⟨i0, hi, hz0, hz1, hz2⟩ := info_parts infoInt
  obtain ⟨j0, hj, hy0, hy1, hy2⟩ := info_parts infoCls
  have hmm := @run_makeMap Tryd.prog
  go_enter Tryd.func29, Tryd.ntmps29
  go_wp2_with fail
  go_loopw [12] (fun s12 wr => ∃ (k : Nat) (gm : Nat → Nat) (vu vo : Value), k ≤ N ∧ s12 = .int .i64 k ∧ Hid (MakeW w.heap.size w.heap.size k k gm vu vo wr) ∧ Hid (Below w.heap.size w wr)) (fun s12 _ => N - (intOf s12).toNat)
  case atStart =>
    exact ⟨0, fun _ => 0, .slice none 0 0, .slice none 0 0, by omega, rfl, Lib.hid ⟨heap_alloc_new _ _, ⟨rfl, .inl ⟨rfl, rfl⟩⟩, ⟨rfl, .inl ⟨rfl, rfl⟩⟩, (fun v hv => absurd hv (by omega)), (fun v hv => absurd hv (by omega)), (fun u v hu _ _ => absurd hu (by omega)), Nat.le_refl _⟩, Lib.hid ((Below.refl _ _).alloc (Nat.le_refl _) _)⟩
  case round =>
    obtain ⟨k, gm, vu, vo, hk, rfl, HMW, HBW⟩ := hrel
    by_cases hlt : k < N
    · have c0 : wr.cell? ⟨w.heap.size, 0, none⟩ = some vu := by rw [cell_of_row _ _ _ _ _ _ HMW.out.s]; rfl
      have hsz : w.heap.size ≤ wr.heap.size := HBW.out.size
      have hgl : w.heap.size < wr.heap.size := (Array.getElem?_eq_some_iff.1 HMW.out.s).1
      have hul := Lib.hid (upList_len k)
      go_upto_region 6 with (at_builtin; refine wpList_append_own _ rfl _ _ 47 rfl w.heap.size 3 i0 (.int .i64 0) 1 8 Tryd.underlying47 hi hz0 hz1 hz2 rfl (by decide) vu k (upList k) rfl (HMW.out.u.alloc _) ⟨wr.heap.size, 0, none⟩ 1 1 [.int .i64 (k : Int)] rfl rfl (cells_new _ _ _ _ rfl) (by intro u hu; simp at hu; rcases hu with rfl; rfl) (by unfold maxLen; omega) (by omega) (Nat.le_trans hsz (by simp)) ?_; intro vu' w1 hown1 hgrow1 _; obtain ⟨g', cap', rfl⟩ := own_shape hown1; have t0 : Turn (fun x => vu.ownBlock = some x) (wr.alloc _) w1 := (Turn.refl (fun x => vu.ownBlock = some x) _).grown hgrow1 (fun x e _ => e); have hk0 := (HMW.out.alloc (.cells #[.int .i64 (k : Int)] 3 (0, 0))).kinds; have hsc : w1.heap[w.heap.size]? = some (.cells #[vu, vo, .bool false] 68 (0, 0)) := t0.heap (HMW.out.alloc _).s (fun e => (hk0.1 _ e).2.1 rfl); have f0 : w1.frozen? ⟨w.heap.size, 0, none⟩ = false := frozen_of_row _ _ _ _ _ hsc; have c01 : w1.cell? ⟨w.heap.size, 0, none⟩ = some vu := by (rw [cell_of_row _ _ _ _ _ _ hsc]; rfl))
      have HM1 := Lib.hid ((HMW.out.alloc _).stepU hown1 hgrow1)
      have HB1 := Lib.hid (MakeW.below (i := 0) (v := .slice (some ⟨g', 0, none⟩) (k + 1) cap') (HBW.out.alloc hsz (.cells #[.int .i64 (k : Int)] 3 (0, 0))) (by simp; omega) (fun x hx => (hk0.1 x hx).1) (Nat.le_refl _) hgrow1)
      generalize w1.setCell ⟨w.heap.size, 0, none⟩ (.slice (some ⟨g', 0, none⟩) (k + 1) cap') = wu at HM1 HB1 ⊢
      generalize (Value.slice (some ⟨g', 0, none⟩) (k + 1) cap') = vu1 at HM1 ⊢
      clear hsc f0 c01 hk0 t0 hown1 hgrow1 c0 hsz hgl
      clear HMW HBW

      have c0 : wu.cell? ⟨w.heap.size, 1, none⟩ = some vo := by rw [cell_of_row _ _ _ _ _ _ HM1.out.s]; rfl
      have hsz : w.heap.size ≤ wu.heap.size := HB1.out.size
      have hgl : w.heap.size < wu.heap.size := (Array.getElem?_eq_some_iff.1 HM1.out.s).1
      have hkk := Lib.hid ((HM1.out.alloc (.map #[] 0)).alloc (.cells (clsCells cls0 wu.heap.size) 71 (0, 0)))
      have hll := Lib.hid (clsList_len k gm)
      go_upto_region 7 with (at_builtin; refine wpList_append_own _ rfl _ _ 66 rfl w.heap.size 71 j0 (.agg #[.int .i64 0, .int .i64 0, .int .i64 0, .int .i64 0, .int .i64 0, .map none]) 6 48 Tryd.underlying66 hj hy0 hy1 hy2 rfl (by decide) vo k (clsList k gm) rfl hkk.out.o ⟨wu.heap.size + 1, 0, none⟩ 1 1 (clsCells cls0 wu.heap.size).toList rfl rfl (cells_new' (by simp) rfl) (by intro u hu; simp [clsCells] at hu; rcases hu with rfl | rfl | rfl | rfl | rfl | rfl <;> rfl) (by unfold maxLen; omega) (by omega) (Nat.le_trans hsz (by simp; omega)) ?_; intro vo' w1 hown1 hgrow1 _; obtain ⟨g', cap', rfl⟩ := own_shape hown1; have t0 : Turn (fun x => vo.ownBlock = some x) _ w1 := (Turn.refl (fun x => vo.ownBlock = some x) _).grown hgrow1 (fun x e _ => e); have hsc : w1.heap[w.heap.size]? = some (.cells #[vu1, vo, .bool false] 68 (0, 0)) := t0.heap hkk.out.s (fun e => (hkk.out.kinds.2.1 _ e).2.1 rfl); have f0 : w1.frozen? ⟨w.heap.size, 1, none⟩ = false := frozen_of_row _ _ _ _ _ hsc; have c01 : w1.cell? ⟨w.heap.size, 1, none⟩ = some vo := by (rw [cell_of_row _ _ _ _ _ _ hsc]; rfl))
      have HM2 := Lib.hid (hkk.out.stepO (M := wu.heap.size) hsz (fun v hv e => absurd (MapW.lt (HM1.out.m v hv)) (by omega)) (made_Mw wu _) hown1 hgrow1)
      have HB2 := Lib.hid (MakeW.below (i := 1) (v := .slice (some ⟨g', 0, none⟩) (k + 1) cap') ((HB1.out.alloc hsz (.map #[] 0)).alloc (by simp; omega) (.cells (clsCells cls0 wu.heap.size) 71 (0, 0))) (by simp; omega) (fun x hx => (hkk.out.kinds.2.1 x hx).1) (Nat.le_refl _) hgrow1)
      go_wp2_with fail
      go_roundw
      case rel => exact ⟨k + 1, _, _, _, by omega, by go_num, HM2, HB2⟩
      case measure => simp [intOf]; omega
    · have : N = k := by omega
      subst this
      obtain ⟨L, hLn, hLg, hLW, hLo⟩ := HMW.out.sol hN hN2
      have HLW := Lib.hid hLW
      have HLO := Lib.hid hLo
      clear hLW hLo HMW
      go_wp2_with fail
      go_loopw [39] (fun s39 wr => ∃ (k : Nat) (rt : Int → Int) (of : Int → Cls) (clash : Bool), k ≤ cs.length ∧ s39 = .int .i64 k ∧ Hid (Inv N cs (cs.take k) rt of clash []) ∧ Hid (SolW L rt of clash wr) ∧ Hid (Below w.heap.size w wr)) (fun s39 _ => cs.length - (intOf s39).toNat)
      case atStart => exact ⟨0, _, _, _, Nat.zero_le _, rfl, Lib.hid (by rw [List.take_zero]; exact Inv.start N cs), HLW, HBW⟩
      case round =>
        obtain ⟨k, rt, of, clash, hk, rfl, HINV, HSR, HBR⟩ := hrel
        by_cases hlt : k < cs.length
        · obtain ⟨g, c, rfl, hg, hc⟩ := H.out (by omega)
          obtain ⟨x, hx⟩ : ∃ x, cs[k]? = some x := ⟨cs[k], by simp [hlt]⟩
          have hxm : x ∈ cs := List.mem_of_getElem? hx
          have HGC := Lib.hid (below_keep HBR.out hg)
          have HEX := Lib.hid (con_extract (hc k x hx))
          have HX := Lib.hid (And.intro hx hxm)
          have HADD := Lib.hid (fun W hs => by have h9 := add_any cs (cs.take k) L (by rw [hLn]; exact HR.out) rt of clash W x HX.out.2 (by rw [hLn]; exact HINV.out) hs; rw [hLg] at h9; exact h9)
          clear hg hc hx hxm
          go_upto_region 11 with (first | (refine wpList_val (by rfl) (exec_load_midB 37 _ rfl g (k * 4) rfl c 37 (0, 0) HGC.out (conCells x).toList HEX.out (by kernel_rfl)) ?_) | (refine wpList_store_row rfl _ _ _ rfl _ _ rfl rfl _ _ (heap_alloc_new _ _) ?_ ?_ ?_ ?_; kernel_rfl; rfl; kernel_rfl; rw [World.setRow_alloc_new]))
          have hgl : w.heap.size < wr.heap.size := by rw [← hLg]; exact HSR.out.lt (.inl rfl)
          go_wp2_with (first | (refine wpList_load_row rfl _ _ rfl _ rfl _ _ _ _ (heap_alloc_new _ _) rfl rfl ?_ ?_; kernel_rfl) | (go_at_call 40; refine (HADD.out _ (HSR.out.alloc _)).mono ?_; rintro e w9 ⟨rfl, ht9, rt9, of9, c9, hi9, hs9⟩))
          go_roundw
          case rel =>
            refine ⟨k + 1, rt9, of9, c9, by omega, by go_num, Lib.hid ?_, Lib.hid hs9, Lib.hid (HBR.out.trans (((Turn.refl L.own wr).alloc _ |>.trans ht9 (fun _ _ e => e)).toBelow (by omega) HLO.out))⟩
            rw [List.take_add_one, HX.out.1, ← hLn]; exact hi9
          case measure => simp [intOf]; omega
        · have : k = cs.length := by omega
          subst this
          go_wp2_with fail
          go_ret
          exact ⟨L, rt, of, clash, hLn, (by rw [hLg]; rfl), (by have h9 := HINV.out; simpa using h9), HSR.out, HBR.out, HLO.out⟩
end Go.Proofs.YtepmgnhblegiiaaDoor
