/- Circles of fields and elements; two chains of links. Plain law. No condition. -/
import Derived.Test.YtepmgnhblegiiaaDoorLSizA
import Derived.Test.YtepmgnhblegiiaaDoorPlL
set_option linter.all false
namespace Go.Proofs.YtepmgnhblegiiaaDoor
open Go Go.RowKit Go.Maps

theorem no_loop {cs : List Con} (f : Int → Int) (h : ∀ x y, Inner cs x y → f x < f y) {x y : Int} (e : Inside cs x y) : f x < f y := by
  induction e with
  | one i => exact h _ _ i
  | more i _ ih => have := h _ _ i; omega

/-! ### A circle -/
/-- The first k constraints of a circle of n, with the pointer at p (none, if p ≥ n). -/
def circC (n p : Nat) (kd nn : Nat → Int) (k : Nat) : List Con := (List.range k).map fun i => ⟨if i = p then 5 else kd i, (i : Nat), ((i + 1) % n : Nat), nn i⟩
theorem circ_len (n p : Nat) (kd nn : Nat → Int) (k : Nat) : (circC n p kd nn k).length = k := by simp [circC]
theorem circ_succ (n p : Nat) (kd nn : Nat → Int) (k : Nat) : circC n p kd nn (k + 1) = circC n p kd nn k ++ [⟨if k = p then 5 else kd k, (k : Nat), ((k + 1) % n : Nat), nn k⟩] := by simp [circC, List.range_succ]
theorem circ_take (n p : Nat) (kd nn : Nat → Int) {j k : Nat} (h : j ≤ k) : (circC n p kd nn k).take j = circC n p kd nn j := by
  unfold circC; rw [← List.map_take, List.take_range, Nat.min_eq_left h]
theorem circ_congr {n p : Nat} {kd nn kd' nn' : Nat → Int} {k : Nat} (h : ∀ i, i < k → kd i = kd' i ∧ nn i = nn' i) : circC n p kd nn k = circC n p kd' nn' k := by
  unfold circC
  apply List.map_congr_left
  intro i hi
  have := h i (by simpa using hi)
  rw [this.1, this.2]
section
variable {n p k : Nat} {kd nn : Nat → Int}
theorem circ_mem {c : Con} : c ∈ circC n p kd nn k ↔ ∃ i, i < k ∧ c = ⟨if i = p then 5 else kd i, (i : Nat), ((i + 1) % n : Nat), nn i⟩ := by
  unfold circC
  rw [List.mem_map]
  constructor
  · rintro ⟨i, hi, rfl⟩; exact ⟨i, by simpa using hi, rfl⟩
  · rintro ⟨i, hi, rfl⟩; exact ⟨i, by simpa using hi, rfl⟩
variable (hkd : ∀ i, kd i = 6 ∨ kd i = 7) (hkn : k ≤ n)
include hkd
theorem circ_cong {u v : Int} (h : Cong (circC n p kd nn k) u v) : u = v := by
  refine cong_eq (fun c hc => ?_) (fun c hc d hd t e => ?_) h
  · obtain ⟨i, hi, rfl⟩ := circ_mem.1 hc
    have := hkd i
    show (if i = p then (5 : Int) else kd i) ≠ 1
    split <;> omega
  · obtain ⟨i, hi, rfl⟩ := circ_mem.1 hc
    obtain ⟨j, hj, rfl⟩ := circ_mem.1 hd
    have : i = j := by simp only at e; omega
    rw [this]
theorem circ_size {v s : Int} (h : SizeOf (circC n p kd nn k) v s) : v = p ∧ s = 2 := by
  obtain ⟨c, hc, hv, hs⟩ := h
  have hv := circ_cong hkd hv
  obtain ⟨i, hi, rfl⟩ := circ_mem.1 hc
  have := hkd i
  simp only at hs hv
  split at hs
  · rename_i e; subst e; omega
  · omega
theorem circ_has {v j : Int} (h : Has (circC n p kd nn k) j v) : ∃ i, i < k ∧ v = (i : Nat) ∧ j = if i = p then 5 else kd i := by
  obtain ⟨c, hc, hv, hs⟩ := h
  have hv := circ_cong hkd hv
  obtain ⟨i, hi, rfl⟩ := circ_mem.1 hc
  exact ⟨i, hi, hv.symm, hs.symm⟩
theorem circ_signed {v : Int} (h : Signed (circC n p kd nn k) v) : False := by
  obtain ⟨s, c, hc, hv, hs, -⟩ := h
  obtain ⟨i, hi, rfl⟩ := circ_mem.1 hc
  have := hkd i
  simp only at hs
  split at hs <;> omega
theorem circ_inner {x y : Int} (h : Inner (circC n p kd nn k) x y) : ∃ i, i < k ∧ i ≠ p ∧ x = (i : Nat) ∧ y = ((i + 1) % n : Nat) := by
  obtain ⟨c, hc, hv, hs, hb⟩ := h
  have hv := circ_cong hkd hv
  have hb := circ_cong hkd hb
  obtain ⟨i, hi, rfl⟩ := circ_mem.1 hc
  simp only at hs hv hb
  refine ⟨i, hi, fun e => ?_, hv.symm, hb.symm⟩
  rw [if_pos e] at hs; omega
/-- No clash, if the circle is not closed by fields and elements. -/
theorem circ_fine (f : Int → Int) (hf : ∀ i : Nat, i < k → i ≠ p → f (i : Nat) < f ((i + 1) % n : Nat)) : ¬ Clash (circC n p kd nn k) := by
  have one : ∀ {v a b : Int}, Has (circC n p kd nn k) a v → Has (circC n p kd nn k) b v → a = b := fun h1 h2 => by
    obtain ⟨i, -, e1, f1⟩ := circ_has hkd h1
    obtain ⟨j, -, e2, f2⟩ := circ_has hkd h2
    have : i = j := by omega
    subst this; rw [f1, f2]
  have field : ∀ {c : Con} {s : Int}, c ∈ circC n p kd nn k → (c.kind = 6 ∨ c.kind = 7) → SizeOf (circC n p kd nn k) c.a s → False := fun hc hk hs => by
    have h1 := circ_size hkd hs
    obtain ⟨i, hi, rfl⟩ := circ_mem.1 hc
    simp only at hk h1
    split at hk <;> omega
  intro h
  cases h with
  | size v s t a b e => have := circ_size hkd a; have := circ_size hkd b; omega
  | sign v s t a b e => exact circ_signed hkd ⟨_, a⟩
  | sp v a b => exact circ_signed hkd a
  | sf v a b => exact circ_signed hkd a
  | se v a b => exact circ_signed hkd a
  | pf v a b => have := one a b; omega
  | pe v a b => have := one a b; omega
  | fe v a b => have := one a b; omega
  | field s k c a b e g lt => exact field a (.inl b) e
  | elem s k c a b e g lt => exact field a (.inr b) e
  | loop v a =>
    have := no_loop f (fun x y hi => by
      obtain ⟨i, hi2, hp2, rfl, rfl⟩ := circ_inner hkd hi
      exact hf i hi2 hp2) a
    omega
end
section
variable {n p : Nat} {kd nn : Nat → Int} (hkd : ∀ i, kd i = 6 ∨ kd i = 7) (hn : 0 < n)
include hkd hn
theorem circ_open : ¬ Clash (circC n p kd nn (n - 1)) :=
  circ_fine hkd (fun x => x) (fun i hi _ => by rw [Nat.mod_eq_of_lt (by omega)]; omega)
theorem circ_ptr (hp : p < n) : ¬ Clash (circC n p kd nn n) := by
  refine circ_fine hkd (fun x => if x ≤ p then x + n else x) (fun i hi hip => ?_)
  by_cases hl : i + 1 = n
  · have : (i + 1) % n = 0 := by rw [hl, Nat.mod_self]
    rw [this]
    split <;> split <;> omega
  · have : (i + 1) % n = i + 1 := Nat.mod_eq_of_lt (by omega)
    rw [this]
    split <;> split <;> omega
theorem circ_closed (hp : n ≤ p) : Clash (circC n p kd nn n) := by
  have step : ∀ i, i < n → Inner (circC n p kd nn n) (i : Nat) ((i + 1) % n : Nat) := fun i hi =>
    ⟨_, circ_mem.2 ⟨i, hi, rfl⟩, .refl _, by show (if i = p then (5 : Int) else kd i) = 6 ∨ _ = 7; rw [if_neg (by omega)]; exact hkd i, .refl _⟩
  have run : ∀ j, j < n → Inside (circC n p kd nn n) ((n - 1 - j : Nat) : Int) 0 := by
    intro j
    induction j with
    | zero =>
      intro _
      have := step (n - 1) (by omega)
      rw [show (n - 1 + 1) % n = 0 by rw [show n - 1 + 1 = n by omega, Nat.mod_self]] at this
      exact .one this
    | succ j ih =>
      intro hj
      have := step (n - 1 - (j + 1)) (by omega)
      rw [Nat.mod_eq_of_lt (by omega), show n - 1 - (j + 1) + 1 = n - 1 - j by omega] at this
      exact .more this (ih (by omega))
  have := run (n - 1) (by omega)
  rw [show n - 1 - (n - 1) = 0 by omega] at this
  exact .loop 0 this
omit hn in
theorem circ_right (hn2 : ∀ i, 1 ≤ nn i ∧ nn i ≤ 65535) : ∀ c ∈ circC n p kd nn n, rightS n c = true := fun c hc => by
  obtain ⟨i, hi, rfl⟩ := circ_mem.1 hc
  have h1 := hkd i
  have h2 := hn2 i
  have h3 := Nat.mod_lt (i + 1) (show 0 < n by omega)
  simp only [rightS, Bool.and_eq_true, Bool.or_eq_true, decide_eq_true_eq]
  split <;> omega
theorem contains_law (hnb : n ≤ 100) (hn2 : ∀ i, 1 ≤ nn i ∧ nn i ≤ 65535) {rows : List Row} {i err : Int} (hs : SolveR n (circC n p kd nn n) rows i err) :
    (n ≤ p → err = 60 ∧ i = ((n - 1 : Nat) : Int) ∧ rows = []) ∧ (p < n → err = 0 ∧ rows.length = n ∧ ∀ r, rows[p]? = some r → r.ptr = ((p + 1) % n : Nat)) := by
  have hR := circ_right (n := n) (p := p) hkd hn2
  constructor
  · intro hp
    have hl := circ_len n p kd nn n
    have hw : SolveR n (circC n p kd nn n) [] ((n - 1 : Nat) : Int) 60 := .clash (n - 1) (by omega) (by omega) (by omega) hR (by omega) (by rw [circ_take _ _ _ _ (by omega)]; exact circ_open hkd hn) (by rw [circ_take _ _ _ _ (by omega), show n - 1 + 1 = n by omega]; exact circ_closed hkd hn hp)
    have := hs.unique hw
    exact ⟨this.2.2, this.2.1, this.1⟩
  · intro hp
    have hf := SolveR.fine hs (by omega) (by rw [circ_len]; omega) hR (circ_ptr hkd hn hp)
    refine ⟨hf.1, hf.2.2.1, fun r hr => ?_⟩
    have hd := hf.2.2.2 p r hr
    rcases hd.ptr with ⟨-, b⟩ | ⟨c, hc, hk, hv, hrep⟩
    · exact absurd ⟨_, circ_mem.2 ⟨p, hp, rfl⟩, .refl _, by simp⟩ b
    · have hv2 := circ_cong hkd hv
      have hrep2 := circ_cong hkd hrep.1
      obtain ⟨j, hj, rfl⟩ := circ_mem.1 hc
      simp only at hv2 hrep2
      have : j = p := by omega
      subst this
      exact hrep2
end

/-! ### Two chains -/
/-- The links of two chains. -/
def chnC (n : Nat) (kd nn : Nat → Int) (k : Nat) : List Con := (List.range k).flatMap fun i => [⟨kd i, (i : Nat), (i + 1 : Nat), nn i⟩, ⟨kd i, if 0 < i then ((n + i : Nat) : Int) else (i : Nat), (n + i + 1 : Nat), nn i⟩]
def chnE (n : Nat) (sg : Int) : List Con := [⟨sg, (n : Nat), 0, 0⟩, ⟨2, (2 * n : Nat), 0, 2⟩]
theorem chn_len (n : Nat) (kd nn : Nat → Int) (k : Nat) : (chnC n kd nn k).length = 2 * k := by
  induction k with
  | zero => rfl
  | succ k ih => unfold chnC at ih ⊢; rw [List.range_succ, List.flatMap_append, List.length_append, ih]; simp; omega
theorem chn_succ (n : Nat) (kd nn : Nat → Int) (k : Nat) : chnC n kd nn (k + 1) = chnC n kd nn k ++ [⟨kd k, (k : Nat), (k + 1 : Nat), nn k⟩, ⟨kd k, if 0 < k then ((n + k : Nat) : Int) else (k : Nat), (n + k + 1 : Nat), nn k⟩] := by
  unfold chnC; rw [List.range_succ, List.flatMap_append]; simp
section
variable {n : Nat} {kd nn : Nat → Int} {sg : Int}
theorem chn_mem {c : Con} : c ∈ chnC n kd nn n ↔ ∃ i, i < n ∧ (c = ⟨kd i, (i : Nat), (i + 1 : Nat), nn i⟩ ∨ c = ⟨kd i, if 0 < i then ((n + i : Nat) : Int) else (i : Nat), (n + i + 1 : Nat), nn i⟩) := by
  unfold chnC
  rw [List.mem_flatMap]
  constructor
  · rintro ⟨i, hi, h⟩
    exact ⟨i, by simpa using hi, by simpa using h⟩
  · rintro ⟨i, hi, h⟩
    exact ⟨i, by simpa using hi, by simpa using h⟩
def clsC (n : Nat) (v : Int) : Int := if v ≤ n then v else v - n
structure Chn (n : Nat) (kd nn : Nat → Int) (sg : Int) (es : List Con) : Prop where
  pos : 0 < n
  hkd : ∀ i, kd i = 5 ∨ kd i = 6 ∨ kd i = 7
  hsg : sg = 3 ∨ sg = 4
  hes : ∀ c ∈ es, c = ⟨sg, (n : Nat), 0, 0⟩ ∨ c = ⟨2, (2 * n : Nat), 0, 2⟩
variable {es : List Con} (h : Chn n kd nn sg es)
include h
theorem Chn.link {c : Con} (hc : c ∈ chnC n kd nn n ++ es) : (∃ i, i < n ∧ c.kind = kd i ∧ clsC n c.a = i ∧ clsC n c.b = (i + 1 : Nat) ∧ c.n = nn i) ∨ ((c.kind = sg ∨ (c.kind = 2 ∧ c.n = 2)) ∧ clsC n c.a = n) := by
  have hp := h.pos
  rcases List.mem_append.1 hc with hc | hc
  · obtain ⟨i, hi, rfl | rfl⟩ := chn_mem.1 hc
    · refine .inl ⟨i, hi, rfl, ?_, ?_, rfl⟩ <;> unfold clsC <;> simp only <;> rw [if_pos (by omega)]
    · refine .inl ⟨i, hi, rfl, ?_, ?_, rfl⟩
      · unfold clsC; simp only
        by_cases h0 : 0 < i
        · rw [if_pos h0, if_neg (by omega)]; omega
        · rw [if_neg h0, if_pos (by omega)]
      · unfold clsC; simp only
        rw [if_neg (by omega)]; omega
  · rcases h.hes c hc with rfl | rfl
    · exact .inr ⟨.inl rfl, by unfold clsC; simp only; rw [if_pos (by omega)]⟩
    · exact .inr ⟨.inr ⟨rfl, rfl⟩, by unfold clsC; simp only; rw [if_neg (by omega)]; omega⟩
theorem Chn.cong {u v : Int} (e : Cong (chnC n kd nn n ++ es) u v) : clsC n u = clsC n v := by
  have hsg := h.hsg
  refine Cong.least (fun u v => clsC n u = clsC n v) (fun _ => rfl) (fun e => e.symm) (fun e f => e.trans f) (fun c hc hk => ?_) (fun c hc d hd t e => ?_) e
  · rcases h.link hc with ⟨i, hi, h1, -⟩ | ⟨h1, -⟩
    · have := h.hkd i; omega
    · omega
  · have ht := t.two
    rcases h.link hc with ⟨i, hi, h1, h2, h3, -⟩ | ⟨h1, -⟩
    · rcases h.link hd with ⟨j, hj, k1, k2, k3, -⟩ | ⟨k1, -⟩
      · have : i = j := by omega
        subst this
        show clsC n c.b = clsC n d.b
        rw [h3, k3]
      · omega
    · omega
theorem Chn.pair {i : Nat} (h1 : 1 ≤ i) (hi : i ≤ n) : Cong (chnC n kd nn n ++ es) (i : Nat) ((n + i : Nat) : Int) := by
  induction i with
  | zero => omega
  | succ i ih =>
    have m1 : (⟨kd i, (i : Nat), (i + 1 : Nat), nn i⟩ : Con) ∈ chnC n kd nn n ++ es := List.mem_append_left _ (chn_mem.2 ⟨i, by omega, .inl rfl⟩)
    have m2 : (⟨kd i, if 0 < i then ((n + i : Nat) : Int) else (i : Nat), (n + i + 1 : Nat), nn i⟩ : Con) ∈ chnC n kd nn n ++ es := List.mem_append_left _ (chn_mem.2 ⟨i, by omega, .inr rfl⟩)
    refine Cong.step m1 m2 ⟨rfl, ?_⟩ ?_
    · have := h.hkd i
      rcases this with e | e | e
      · exact .inl e
      · exact .inr (.inr ⟨e, rfl⟩)
      · exact .inr (.inl e)
    · show Cong _ ((i : Nat) : Int) (if 0 < i then ((n + i : Nat) : Int) else (i : Nat))
      by_cases h0 : 0 < i
      · rw [if_pos h0]; exact ih (by omega) (by omega)
      · rw [if_neg h0]; exact .refl _
theorem Chn.size {v s : Int} (e : SizeOf (chnC n kd nn n ++ es) v s) : s = 2 ∧ (clsC n v = n ∨ ∃ i, i < n ∧ kd i = 5 ∧ clsC n v = (i : Nat)) := by
  have hsg := h.hsg
  obtain ⟨c, hc, hv, hs⟩ := e
  have hv := h.cong hv
  rcases h.link hc with ⟨i, hi, h1, h2, -⟩ | ⟨h1, h2⟩
  · have := h.hkd i
    exact ⟨by omega, .inr ⟨i, hi, by omega, by omega⟩⟩
  · exact ⟨by omega, .inl (by omega)⟩
theorem Chn.sign {v s : Int} (e : SignOf (chnC n kd nn n ++ es) v s) : s = sg ∧ clsC n v = n := by
  have hsg := h.hsg
  obtain ⟨c, hc, hv, hs, ht⟩ := e
  have hv := h.cong hv
  rcases h.link hc with ⟨i, hi, h1, h2, -⟩ | ⟨h1, h2⟩
  · have := h.hkd i; omega
  · exact ⟨by omega, by omega⟩
theorem Chn.has {v j : Int} (hj : 5 ≤ j) (e : Has (chnC n kd nn n ++ es) j v) : ∃ i, i < n ∧ kd i = j ∧ clsC n v = (i : Nat) := by
  have hsg := h.hsg
  obtain ⟨c, hc, hv, hs⟩ := e
  have hv := h.cong hv
  rcases h.link hc with ⟨i, hi, h1, h2, -⟩ | ⟨h1, h2⟩
  · exact ⟨i, hi, by omega, by omega⟩
  · omega
theorem Chn.fine : ¬ Clash (chnC n kd nn n ++ es) := by
  have hsg := h.hsg
  have hpos := h.pos
  have sx : ∀ {v j : Int}, 5 ≤ j → Signed (chnC n kd nn n ++ es) v → Has (chnC n kd nn n ++ es) j v → False := fun hj hs hh => by
    obtain ⟨s, hs⟩ := hs
    have h1 := (h.sign hs).2
    obtain ⟨i, hi, -, h2⟩ := h.has hj hh
    omega
  have one : ∀ {v a b : Int}, 5 ≤ a → 5 ≤ b → Has (chnC n kd nn n ++ es) a v → Has (chnC n kd nn n ++ es) b v → a = b := fun ha hb h1 h2 => by
    obtain ⟨i, -, e1, f1⟩ := h.has ha h1
    obtain ⟨j, -, e2, f2⟩ := h.has hb h2
    have : i = j := by omega
    subst this; omega
  have field : ∀ {c : Con} {s : Int}, c ∈ chnC n kd nn n ++ es → (c.kind = 6 ∨ c.kind = 7) → SizeOf (chnC n kd nn n ++ es) c.a s → False := fun {c s} hc hk hs => by
    have h1 := (h.size hs).2
    rcases h.link hc with ⟨i, hi, g1, g2, -⟩ | ⟨g1, -⟩
    · rcases h1 with h1 | ⟨j, hj, h1, h2⟩
      · exact absurd (h1.symm.trans g2) (by omega)
      · have hij : j = i := Int.ofNat_inj.1 (h2.symm.trans g2)
        rw [hij] at h1; rw [g1, h1] at hk; omega
    · rcases hk with hk | hk <;> rw [hk] at g1 <;> omega
  intro e
  cases e with
  | size v s t a b e => have := (h.size a).1; have := (h.size b).1; omega
  | sign v s t a b e => have := (h.sign a).1; have := (h.sign b).1; omega
  | sp v a b => exact sx (by omega) a b
  | sf v a b => exact sx (by omega) a b
  | se v a b => exact sx (by omega) a b
  | pf v a b => have := one (by omega) (by omega) a b; omega
  | pe v a b => have := one (by omega) (by omega) a b; omega
  | fe v a b => have := one (by omega) (by omega) a b; omega
  | field s k c a b e g lt => exact field a (.inl b) e
  | elem s k c a b e g lt => exact field a (.inr b) e
  | loop v a =>
    have := no_loop (clsC n) (fun x y hi => by
      obtain ⟨c, hc, hx, hk, hy⟩ := hi
      have hx := h.cong hx
      have hy := h.cong hy
      rcases h.link hc with ⟨i, hi, g1, g2, g3, -⟩ | ⟨g1, -⟩
      · omega
      · omega) a
    omega
omit h in
theorem chn_right {n : Nat} {kd nn : Nat → Int} {sg : Int} {es : List Con} (h : Chn n kd nn sg es) (hn2 : ∀ i, 1 ≤ nn i ∧ nn i ≤ 65535) : ∀ c ∈ chnC n kd nn n ++ es, rightS ((2 * n + 1 : Nat) : Int) c = true := fun c hc => by
  have hsg := h.hsg
  have hpos := h.pos
  rcases List.mem_append.1 hc with hc | hc
  · obtain ⟨i, hi, rfl | rfl⟩ := chn_mem.1 hc
    · have h1 := h.hkd i
      have h2 := hn2 i
      simp only [rightS, Bool.and_eq_true, Bool.or_eq_true, decide_eq_true_eq]
      omega
    · have h1 := h.hkd i
      have h2 := hn2 i
      simp only [rightS, Bool.and_eq_true, Bool.or_eq_true, decide_eq_true_eq]
      split <;> omega
  · rcases h.hes c hc with rfl | rfl
    · simp [rightS]; omega
    · simp [rightS]; omega
end
theorem chn_end {n : Nat} {kd nn : Nat → Int} {sg : Int} (hp : 0 < n) (hk : ∀ i, kd i = 5 ∨ kd i = 6 ∨ kd i = 7) (hs : sg = 3 ∨ sg = 4) : Chn n kd nn sg (chnE n sg) :=
  ⟨hp, hk, hs, fun c hc => by simpa [chnE] using hc⟩
theorem chains_law {n : Nat} {kd nn : Nat → Int} {sg : Int} (hp : 0 < n) (hnb : n ≤ 30) (hk : ∀ i, kd i = 5 ∨ kd i = 6 ∨ kd i = 7) (hn2 : ∀ i, 1 ≤ nn i ∧ nn i ≤ 65535) (hs : sg = 3 ∨ sg = 4) {rows : List Row} {i err : Int} (hv : SolveR ((2 * n + 1 : Nat) : Int) (chnC n kd nn n ++ chnE n sg) rows i err) :
    err = 0 ∧ rows.length = 2 * n + 1 ∧ (∀ (j : Nat) (r : Row), 1 ≤ j → j ≤ n → rows[j]? = some r → r.cls = j) ∧ (∀ (j : Nat) (r : Row), 1 ≤ j → j ≤ n → rows[n + j]? = some r → r.cls = j) ∧ (∀ r, rows[n]? = some r → r.size = 2) ∧ (∀ r, rows[2 * n]? = some r → r.sign = sg) := by
  have hc := chn_end (nn := nn) hp hk hs
  have hR := chn_right hc hn2
  have hf := SolveR.fine hv (by omega) (by rw [List.length_append, chn_len]; simp [chnE]; omega) hR hc.fine
  have rep : ∀ (j : Nat) (v q : Int), 1 ≤ j → j ≤ n → Cong (chnC n kd nn n ++ chnE n sg) (j : Nat) v → IsRep (chnC n kd nn n ++ chnE n sg) v q → q = j := fun j v q h1 h2 h3 h4 => by
    have h5 := h4.2.2 j (by omega) h3
    have h6 := hc.cong (h4.1.trans h3.symm)
    have h7 := h4.2.1
    unfold clsC at h6
    rw [if_pos (by omega), if_pos (by omega)] at h6
    exact h6
  have hm1 : (⟨2, (2 * n : Nat), 0, 2⟩ : Con) ∈ chnC n kd nn n ++ chnE n sg := List.mem_append_right _ (by simp [chnE])
  have hm2 : (⟨sg, (n : Nat), 0, 0⟩ : Con) ∈ chnC n kd nn n ++ chnE n sg := List.mem_append_right _ (by simp [chnE])
  have hpn := hc.pair (i := n) hp (Nat.le_refl _)
  refine ⟨hf.1, hf.2.2.1, fun j r h1 h2 hr => ?_, fun j r h1 h2 hr => ?_, fun r hr => ?_, fun r hr => ?_⟩
  · exact rep j _ _ h1 h2 (.refl _) (hf.2.2.2 _ _ hr).cls
  · exact rep j _ _ h1 h2 (hc.pair h1 h2) (hf.2.2.2 _ _ hr).cls
  · have hd := hf.2.2.2 _ _ hr
    rcases hd.size with ⟨-, b⟩ | a
    · exact absurd ⟨_, hm1, by rw [show ((2 * n : Nat) : Int) = ((n + n : Nat) : Int) by omega]; exact hpn.symm, .inl ⟨rfl, rfl⟩⟩ (b 2)
    · exact (hc.size a).1
  · have hd := hf.2.2.2 _ _ hr
    rcases hd.sign with ⟨-, b⟩ | a
    · exact absurd ⟨_, hm2, by rw [show 2 * n = n + n by omega]; exact hpn, by simpa using hs, rfl⟩ (b sg)
    · exact (hc.sign a).1
/-- One sign more, the other one. -/
theorem chains_more {n : Nat} {kd nn : Nat → Int} {sg : Int} (hp : 0 < n) (hnb : n ≤ 30) (hk : ∀ i, kd i = 5 ∨ kd i = 6 ∨ kd i = 7) (hn2 : ∀ i, 1 ≤ nn i ∧ nn i ≤ 65535) (hs : sg = 3 ∨ sg = 4) {rows : List Row} {i err : Int} (hv : SolveR ((2 * n + 1 : Nat) : Int) (chnC n kd nn n ++ chnE n sg ++ [⟨7 - sg, (2 * n : Nat), 0, 0⟩]) rows i err) :
    err = 60 ∧ i = (2 * n + 2 : Nat) := by
  have hc := chn_end (nn := nn) hp hk hs
  have hR := chn_right hc hn2
  have hlen : (chnC n kd nn n ++ chnE n sg).length = 2 * n + 2 := by rw [List.length_append, chn_len]; simp [chnE]
  have hpn := hc.pair (i := n) hp (Nat.le_refl _)
  have hR2 : ∀ c ∈ chnC n kd nn n ++ chnE n sg ++ [⟨7 - sg, (2 * n : Nat), 0, 0⟩], rightS ((2 * n + 1 : Nat) : Int) c = true := fun c hc => by
    rcases List.mem_append.1 hc with hc | hc
    · exact hR c hc
    · simp only [List.mem_singleton] at hc
      subst hc
      simp only [rightS, Bool.and_eq_true, Bool.or_eq_true, decide_eq_true_eq]
      omega
  have hsub : Sub (chnC n kd nn n ++ chnE n sg) (chnC n kd nn n ++ chnE n sg ++ [⟨7 - sg, (2 * n : Nat), 0, 0⟩]) := fun c hc => List.mem_append_left _ hc
  have hw : SolveR ((2 * n + 1 : Nat) : Int) (chnC n kd nn n ++ chnE n sg ++ [⟨7 - sg, (2 * n : Nat), 0, 0⟩]) [] ((2 * n + 2 : Nat) : Int) 60 := by
    refine .clash (2 * n + 2) (by omega) (by omega) (by rw [List.length_append, hlen]; simp; omega) hR2 (by rw [List.length_append, hlen]; simp) ?_ ?_
    · rw [List.take_append_of_le_length (by omega), List.take_of_length_le (by omega)]; exact hc.fine
    · rw [List.take_of_length_le (by rw [List.length_append, hlen]; simp)]
      refine .sign (n : Nat) sg (7 - sg) ⟨⟨sg, (n : Nat), 0, 0⟩, hsub _ (List.mem_append_right _ (by simp [chnE])), .refl _, by simpa using hs, rfl⟩ ⟨⟨7 - sg, (2 * n : Nat), 0, 0⟩, List.mem_append_right _ (by simp), ?_, by show 7 - sg = 3 ∨ 7 - sg = 4; omega, rfl⟩ (by omega)
      have := (hpn.mono hsub).symm
      rw [show n + n = 2 * n by omega] at this
      exact this
  have := hv.unique hw
  exact ⟨this.2.2, this.2.1⟩
end Go.Proofs.YtepmgnhblegiiaaDoor
