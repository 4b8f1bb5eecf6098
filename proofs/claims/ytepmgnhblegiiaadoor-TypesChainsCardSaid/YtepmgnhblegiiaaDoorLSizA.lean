/- A size, a field or an element, and its size: when they clash. Plain law. No condition. -/
import Derived.Test.YtepmgnhblegiiaaDoorLFst
set_option linter.all false
namespace Go.Proofs.YtepmgnhblegiiaaDoor
open Go Go.RowKit Go.Maps

theorem cong_eq {cs : List Con} (h1 : ∀ c ∈ cs, c.kind ≠ 1) (h2 : ∀ c ∈ cs, ∀ d ∈ cs, Twin c d → c.a = d.a → c.b = d.b) {u v : Int} (h : Cong cs u v) : u = v :=
  Cong.least (fun u v => u = v) (fun _ => rfl) (fun e => e.symm) (fun e f => e.trans f) (fun c hc hk => absurd hk (h1 c hc)) (fun c hc d hd t e => h2 c hc d hd t e) h
/-- The constraints of the law, in whatever order. -/
structure Siz (cs : List Con) (s : Int) (kd f k : Int) : Prop where
  kinds : kd = 6 ∨ kd = 7
  all : ∀ c ∈ cs, c = ⟨2, 0, 0, s⟩ ∨ c = ⟨kd, 0, 1, f⟩ ∨ (0 < k ∧ c = ⟨2, 1, 0, k⟩)
  s0 : (⟨2, 0, 0, s⟩ : Con) ∈ cs
  l0 : (⟨kd, 0, 1, f⟩ : Con) ∈ cs
  k0 : 0 < k → (⟨2, 1, 0, k⟩ : Con) ∈ cs
def endS (kd f k : Int) : Int := if kd = 6 then f + max k 1 else f * max k 1
section
variable {cs : List Con} {s kd f k : Int}
theorem Siz.cong (h : Siz cs s kd f k) {u v : Int} (e : Cong cs u v) : u = v := by
  have hk := h.kinds
  refine cong_eq (fun c hc => ?_) (fun c hc d hd t e => ?_) e
  · rcases h.all c hc with rfl | rfl | ⟨-, rfl⟩ <;> simp <;> omega
  · have h2 := t.2
    have h1 := t.1
    rcases h.all c hc with rfl | rfl | ⟨-, rfl⟩
    · simp at h2
    · rcases h.all d hd with rfl | rfl | ⟨-, rfl⟩
      · simp at h1; omega
      · rfl
      · simp at h1; omega
    · simp at h2
theorem Siz.size (h : Siz cs s kd f k) {v t : Int} (e : SizeOf cs v t) : (v = 0 ∧ t = s) ∨ (v = 1 ∧ 0 < k ∧ t = k) := by
  have hk := h.kinds
  obtain ⟨c, hc, hv, ht⟩ := e
  have hv := h.cong hv
  rcases h.all c hc with rfl | rfl | ⟨h0, rfl⟩
  · simp at ht hv; exact .inl ⟨hv.symm, ht⟩
  · simp at ht; omega
  · simp at ht hv; exact .inr ⟨hv.symm, h0, ht⟩
theorem Siz.has (h : Siz cs s kd f k) {j v : Int} (hj : j ≠ 2) (e : Has cs j v) : j = kd ∧ v = 0 := by
  obtain ⟨c, hc, hv, ht⟩ := e
  have hv := h.cong hv
  rcases h.all c hc with rfl | rfl | ⟨h0, rfl⟩
  · simp at ht; omega
  · simp at ht hv; exact ⟨ht.symm, hv.symm⟩
  · simp at ht; omega
theorem Siz.signed (h : Siz cs s kd f k) {v : Int} (e : Signed cs v) : False := by
  have hk := h.kinds
  obtain ⟨t, c, hc, hv, ht, -⟩ := e
  rcases h.all c hc with rfl | rfl | ⟨h0, rfl⟩ <;> simp at ht <;> omega
theorem Siz.inner (h : Siz cs s kd f k) {x y : Int} (e : Inner cs x y) : x = 0 ∧ y = 1 := by
  have hk := h.kinds
  obtain ⟨c, hc, hv, ht, hb⟩ := e
  have hv := h.cong hv
  have hb := h.cong hb
  rcases h.all c hc with rfl | rfl | ⟨h0, rfl⟩
  · simp at ht
  · simp at hv hb; exact ⟨hv.symm, hb.symm⟩
  · simp at ht
theorem Siz.inside (h : Siz cs s kd f k) {x y : Int} (e : Inside cs x y) : x = 0 ∧ y = 1 := by
  induction e with
  | one i => exact h.inner i
  | more i _ ih => exact ⟨(h.inner i).1, ih.2⟩
theorem Siz.clash (h : Siz cs s kd f k) (hk4 : k ≤ 4) (hf : 0 ≤ f) : Clash cs ↔ s < endS kd f k := by
  have hkd := h.kinds
  constructor
  · intro e
    cases e with
    | size v t u a b e => rcases h.size a with ⟨h1, h2⟩ | ⟨h1, -, h2⟩ <;> rcases h.size b with ⟨h3, h4⟩ | ⟨h3, -, h4⟩ <;> omega
    | sign v t u a b e => exact (h.signed ⟨_, a⟩).elim
    | sp v a b => exact (h.signed a).elim
    | sf v a b => exact (h.signed a).elim
    | se v a b => exact (h.signed a).elim
    | pf v a b => have := (h.has (by omega) a).1; omega
    | pe v a b => have := (h.has (by omega) a).1; omega
    | fe v a b => have := (h.has (by omega) a).1; have := (h.has (by omega) b).1; omega
    | field t u c a b e g lt =>
      unfold endS
      rcases h.all c a with rfl | rfl | ⟨h0, rfl⟩
      · simp at b
      · simp at b e g lt
        rw [if_pos b]
        have hs := h.size e
        rcases g with g | g
        · omega
        · have := h.size g; omega
      · simp at b
    | elem t u c a b e g lt =>
      unfold endS
      rcases h.all c a with rfl | rfl | ⟨h0, rfl⟩
      · simp at b
      · simp at b e g lt
        rw [if_neg (by omega)]
        have hs := h.size e
        have hu : u ≤ max k 1 := by
          rcases g with g | g
          · omega
          · have := h.size g; omega
        have := Int.mul_le_mul_of_nonneg_left hu hf
        omega
      · simp at b
    | loop v a => have := h.inside a; omega
  · intro e
    unfold endS at e
    have hs : SizeOf cs 0 s := ⟨_, h.s0, .refl _, .inl ⟨rfl, rfl⟩⟩
    have hu : max k 1 = 1 ∨ SizeOf cs 1 (max k 1) := by
      by_cases h0 : 0 < k
      · right; rw [show max k 1 = k by omega]; exact ⟨_, h.k0 h0, .refl _, .inl ⟨rfl, rfl⟩⟩
      · left; omega
    split at e
    · rename_i e6; exact .field s (max k 1) _ h.l0 e6 hs hu e
    · exact .elem s (max k 1) _ h.l0 (by show kd = 7; omega) hs hu e
theorem one_fine {c : Con} (h : c.kind = 2 ∨ ((c.kind = 6 ∨ c.kind = 7) ∧ c.a ≠ c.b)) : ¬ Clash [c] := by
  have hm : ∀ d ∈ [c], d = c := fun d hd => by simpa using hd
  have hcg : ∀ {u v : Int}, Cong [c] u v → u = v := fun e => cong_eq (fun d hd => by rw [hm d hd]; omega) (fun d hd e he _ _ => by rw [hm d hd, hm e he]) e
  have hin : ∀ {x y : Int}, Inner [c] x y → (c.kind = 6 ∨ c.kind = 7) ∧ x = c.a ∧ y = c.b := fun ⟨d, hd, h1, h2, h3⟩ => by
    rw [hm d hd] at h1 h2 h3
    exact ⟨h2, (hcg h1).symm, (hcg h3).symm⟩
  have hins : ∀ {x y : Int}, Inside [c] x y → (c.kind = 6 ∨ c.kind = 7) ∧ x = c.a ∧ y = c.b := fun e => by
    induction e with
    | one i => exact hin i
    | more i _ ih => exact ⟨ih.1, (hin i).2.1, ih.2.2⟩
  intro e
  cases e with
  | size v t u a b e =>
    obtain ⟨d, hd, -, h1⟩ := a
    obtain ⟨d2, hd2, -, h2⟩ := b
    rw [hm d hd] at h1; rw [hm d2 hd2] at h2
    omega
  | sign v t u a b e => obtain ⟨d, hd, -, h1, -⟩ := a; rw [hm d hd] at h1; omega
  | sp v a b => obtain ⟨t, d, hd, -, h1, -⟩ := a; rw [hm d hd] at h1; omega
  | sf v a b => obtain ⟨t, d, hd, -, h1, -⟩ := a; rw [hm d hd] at h1; omega
  | se v a b => obtain ⟨t, d, hd, -, h1, -⟩ := a; rw [hm d hd] at h1; omega
  | pf v a b => obtain ⟨d, hd, -, h1⟩ := a; rw [hm d hd] at h1; omega
  | pe v a b => obtain ⟨d, hd, -, h1⟩ := a; rw [hm d hd] at h1; omega
  | fe v a b => obtain ⟨d, hd, -, h1⟩ := a; obtain ⟨d2, hd2, -, h2⟩ := b; rw [hm d hd] at h1; rw [hm d2 hd2] at h2; omega
  | field t u d a b e g lt => rw [hm d a] at b; obtain ⟨d2, hd2, -, h2⟩ := e; rw [hm d2 hd2] at h2; omega
  | elem t u d a b e g lt => rw [hm d a] at b; obtain ⟨d2, hd2, -, h2⟩ := e; rw [hm d2 hd2] at h2; omega
  | loop v a => have := hins a; omega
theorem sizes_law {rows : List Row} {i err : Int} (h : Siz cs s kd f k) (hs : 1 ≤ s ∧ s ≤ 40) (hf : 0 ≤ f ∧ f ≤ 45) (hf7 : kd = 7 → 1 ≤ f) (hk : 0 ≤ k ∧ k ≤ 4) (hl : cs.length ≤ 3) (hv : SolveR 2 cs rows i err) :
    (endS kd f k ≤ s → err = 0) ∧ (s < endS kd f k → err = 60 ∧ 1 ≤ i ∧ i < cs.length) := by
  have hkd := h.kinds
  have hR : ∀ c ∈ cs, rightS ((2 : Nat) : Int) c = true := fun c hc => by
    rcases h.all c hc with rfl | rfl | ⟨h0, rfl⟩
    · simp [rightS]; omega
    · rcases hkd with rfl | rfl
      · simp [rightS]; omega
      · have := hf7 rfl; simp [rightS]; omega
    · simp [rightS]; omega
  have hc := h.clash hk.2 hf.1
  constructor
  · intro e
    exact (SolveR.fine (n := 2) hv (by omega) (by omega) hR (fun q => by have := hc.1 q; omega)).1
  · intro e
    have hcl := hc.2 e
    cases hv with
    | arg h => omega
    | many h1 h2 => omega
    | wrong i c h1 h2 h3 h4 h5 h6 => have := hR c (List.mem_of_getElem? h4); rw [show ((2 : Nat) : Int) = 2 from rfl] at this; rw [this] at h5; cases h5
    | clash i h1 h2 h3 h4 h5 h6 h7 =>
      refine ⟨rfl, ?_, by omega⟩
      rcases Nat.eq_zero_or_pos i with e0 | e0
      · subst e0
        exfalso
        cases cs with
        | nil => simp at h5
        | cons c l =>
          have hcm := h.all c (List.mem_cons_self)
          simp only [Nat.zero_add, List.take_succ_cons, List.take_zero] at h7
          refine one_fine ?_ h7
          rcases hcm with rfl | rfl | ⟨h0, rfl⟩
          · exact .inl rfl
          · exact .inr ⟨hkd, by simp⟩
          · exact .inl rfl
      · omega
    | ok rows h1 h2 h3 h4 h5 h6 h7 => exact absurd hcl h5
/-- The order is turned. -/
theorem Siz.turn {c : Con} {l : List Con} (h : Siz (c :: l) s kd f k) : Siz (l ++ [c]) s kd f k := by
  have hm : ∀ d, d ∈ l ++ [c] ↔ d ∈ c :: l := fun d => by simp [or_comm]
  exact ⟨h.kinds, fun d hd => h.all d ((hm d).1 hd), (hm _).2 h.s0, (hm _).2 h.l0, fun h0 => (hm _).2 (h.k0 h0)⟩
end
end Go.Proofs.YtepmgnhblegiiaaDoor
