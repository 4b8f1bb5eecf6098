/- A solution under another numbering of the variables. Plain law. No condition. -/
import Derived.Test.YtepmgnhblegiiaaDoorPlK
set_option linter.all false
namespace Go.Proofs.YtepmgnhblegiiaaDoor
open Go Go.RowKit Go.Maps

/-- A constraint with its variables renamed. -/
def renC (f : Int → Int) (c : Con) : Con := ⟨c.kind, f c.a, if c.kind = 1 ∨ c.kind = 5 ∨ c.kind = 6 ∨ c.kind = 7 then f c.b else c.b, c.n⟩
section
variable {cs : List Con} (f : Int → Int)
theorem mem_ren {c : Con} (h : c ∈ cs) : renC f c ∈ cs.map (renC f) := List.mem_map.2 ⟨c, h, rfl⟩
theorem Twin.two {c d : Con} (t : Twin c d) : (c.kind = 5 ∨ c.kind = 6 ∨ c.kind = 7) ∧ (d.kind = 5 ∨ d.kind = 6 ∨ d.kind = 7) := by
  have := t.1; have := t.2; omega
theorem ren_b {c : Con} (h : c.kind = 1 ∨ c.kind = 5 ∨ c.kind = 6 ∨ c.kind = 7) : (renC f c).b = f c.b := by unfold renC; rw [if_pos h]
theorem Cong.ren {u v : Int} (h : Cong cs u v) : Cong (cs.map (renC f)) (f u) (f v) := by
  induction h with
  | refl v => exact .refl _
  | symm _ ih => exact ih.symm
  | trans _ _ a b => exact a.trans b
  | same hc hk =>
    rename_i c
    have h1 := Cong.same (mem_ren f hc) (show (renC f c).kind = 1 from hk)
    rw [ren_b f (.inl hk)] at h1
    exact h1
  | step hc hd t _ ih =>
    rename_i c d _
    have h1 := Cong.step (mem_ren f hc) (mem_ren f hd) (show Twin (renC f c) (renC f d) from t) ih
    have h2 := t.two
    rw [ren_b f (by omega), ren_b f (by omega)] at h1
    exact h1
theorem SizeOf.ren {v s : Int} (h : SizeOf cs v s) : SizeOf (cs.map (renC f)) (f v) s := by
  obtain ⟨c, hc, hv, hs⟩ := h
  exact ⟨_, mem_ren f hc, hv.ren f, hs⟩
theorem SignOf.ren {v s : Int} (h : SignOf cs v s) : SignOf (cs.map (renC f)) (f v) s := by
  obtain ⟨c, hc, hv, hs⟩ := h
  exact ⟨_, mem_ren f hc, hv.ren f, hs⟩
theorem Has.ren {k v : Int} (h : Has cs k v) : Has (cs.map (renC f)) k (f v) := by
  obtain ⟨c, hc, hv, hs⟩ := h
  exact ⟨_, mem_ren f hc, hv.ren f, hs⟩
theorem Signed.ren {v : Int} (h : Signed cs v) : Signed (cs.map (renC f)) (f v) := h.imp fun _ h => h.ren f
theorem Inner.ren {x y : Int} (h : Inner cs x y) : Inner (cs.map (renC f)) (f x) (f y) := by
  obtain ⟨c, hc, hv, hs, hb⟩ := h
  refine ⟨_, mem_ren f hc, hv.ren f, hs, ?_⟩
  rw [ren_b f (by omega)]
  exact hb.ren f
theorem Inside.ren {x y : Int} (h : Inside cs x y) : Inside (cs.map (renC f)) (f x) (f y) := by
  induction h with
  | one i => exact .one (i.ren f)
  | more i _ ih => exact .more (i.ren f) ih
theorem Clash.ren (h : Clash cs) : Clash (cs.map (renC f)) := by
  cases h with
  | size v s t a b e => exact .size _ s t (a.ren f) (b.ren f) e
  | sign v s t a b e => exact .sign _ s t (a.ren f) (b.ren f) e
  | sp v a b => exact .sp _ (a.ren f) (b.ren f)
  | sf v a b => exact .sf _ (a.ren f) (b.ren f)
  | se v a b => exact .se _ (a.ren f) (b.ren f)
  | pf v a b => exact .pf _ (a.ren f) (b.ren f)
  | pe v a b => exact .pe _ (a.ren f) (b.ren f)
  | fe v a b => exact .fe _ (a.ren f) (b.ren f)
  | field s k c a b e g lt => exact .field s k _ (mem_ren f a) b (e.ren f) (g.imp id (fun g => by rw [ren_b f (by omega)]; exact g.ren f)) lt
  | elem s k c a b e g lt => exact .elem s k _ (mem_ren f a) b (e.ren f) (g.imp id (fun g => by rw [ren_b f (by omega)]; exact g.ren f)) lt
  | loop v a => exact .loop _ (a.ren f)
end
/-- There and back. -/
theorem ren_back {n : Int} {cs : List Con} {f g : Int → Int} (hR : ∀ c ∈ cs, rightS n c = true) (hg : ∀ v, 0 ≤ v → v < n → g (f v) = v) : (cs.map (renC f)).map (renC g) = cs := by
  rw [List.map_map]
  have : ∀ c ∈ cs, (renC g ∘ renC f) c = id c := fun c hc => by
    have h := hR c hc
    simp only [rightS, Bool.and_eq_true, Bool.or_eq_true, decide_eq_true_eq] at h
    show renC g (renC f c) = c
    unfold renC
    obtain ⟨k, a, b, m⟩ := c
    simp only at h ⊢
    rw [hg a h.1.1 h.1.2]
    by_cases hk : k = 1 ∨ k = 5 ∨ k = 6 ∨ k = 7
    · rw [if_pos hk, if_pos hk, hg b (by omega) (by omega)]
    · rw [if_neg hk, if_neg hk]
  rw [List.map_congr_left this, List.map_id]
/-- A class has a least variable. -/
theorem rep_exists (cs : List Con) {b : Int} (hb : 0 ≤ b) : ∃ r, IsRep cs b r := by
  have key : ∀ k : Nat, ∀ u : Nat, u ≤ k → Cong cs u b → ∃ r, IsRep cs b r := by
    intro k
    induction k with
    | zero =>
      intro u hu hc
      exact ⟨(u : Int), hc, by omega, fun x hx _ => by omega⟩
    | succ k ih =>
      intro u hu hc
      by_cases hl : ∃ x : Int, 0 ≤ x ∧ Cong cs x b ∧ x < u
      · obtain ⟨x, h0, h1, h2⟩ := hl
        exact ih x.toNat (by omega) (by rw [Int.toNat_of_nonneg h0]; exact h1)
      · exact ⟨(u : Int), hc, by omega, fun x hx hxc => Classical.byContradiction fun e => hl ⟨x, hx, hxc, by omega⟩⟩
  exact key b.toNat b.toNat (Nat.le_refl _) (by rw [Int.toNat_of_nonneg hb]; exact .refl _)
theorem Desc.offs {n : Int} {cs : List Con} (hR : ∀ c ∈ cs, rightS n c = true) {v : Int} {r : Row} (h : Desc cs v r) (o : Int) : (∃ f, (o, f) ∈ r.fields) ↔ ∃ c ∈ cs, c.kind = 6 ∧ Cong cs c.a v ∧ c.n = o := by
  constructor
  · rintro ⟨f, hf⟩
    obtain ⟨c, hc, hk, hv, ho, -⟩ := (h.fields o f).1 hf
    exact ⟨c, hc, hk, hv, ho⟩
  · rintro ⟨c, hc, hk, hv, ho⟩
    have hr := hR c hc
    simp only [rightS, Bool.and_eq_true, Bool.or_eq_true, decide_eq_true_eq] at hr
    obtain ⟨f, hf⟩ := rep_exists cs (b := c.b) (by omega)
    exact ⟨f, (h.fields o f).2 ⟨c, hc, hk, hv, ho, hf⟩⟩
/-- Offsets of rising members. -/
theorem offs_eq : ∀ {l m : List (Int × Int)}, l.Pairwise (fun x y => x.1 < y.1) → m.Pairwise (fun x y => x.1 < y.1) → (∀ o, (∃ f, (o, f) ∈ l) ↔ ∃ f, (o, f) ∈ m) → l.map (·.1) = m.map (·.1)
  | [], [], _, _, _ => rfl
  | [], y :: m, _, _, h => by obtain ⟨f, hf⟩ := (h y.1).2 ⟨y.2, by simp⟩; simp at hf
  | x :: l, [], _, _, h => by obtain ⟨f, hf⟩ := (h x.1).1 ⟨x.2, by simp⟩; simp at hf
  | x :: l, y :: m, hl, hm, h => by
    rw [List.pairwise_cons] at hl hm
    have hxy : x.1 = y.1 := by
      obtain ⟨f, hf⟩ := (h x.1).1 ⟨x.2, by simp⟩
      obtain ⟨g, hg⟩ := (h y.1).2 ⟨y.2, by simp⟩
      rcases List.mem_cons.1 hf with e | e
      · have h9 := congrArg Prod.fst e; exact h9
      · rcases List.mem_cons.1 hg with e2 | e2
        · have h9 := congrArg Prod.fst e2; exact h9.symm
        · have := hl.1 _ e2; have := hm.1 _ e; simp at *; omega
    simp only [List.map_cons, List.cons.injEq]
    refine ⟨hxy, offs_eq hl.2 hm.2 fun o => ?_⟩
    constructor
    · rintro ⟨f, hf⟩
      obtain ⟨g, hg⟩ := (h o).1 ⟨f, by simp [hf]⟩
      rcases List.mem_cons.1 hg with e | e
      · have h1 := hl.1 _ hf; have h2 := congrArg Prod.fst e; simp at h1 h2; omega
      · exact ⟨g, e⟩
    · rintro ⟨f, hf⟩
      obtain ⟨g, hg⟩ := (h o).2 ⟨f, by simp [hf]⟩
      rcases List.mem_cons.1 hg with e | e
      · have h1 := hm.1 _ hf; have h2 := congrArg Prod.fst e; simp at h1 h2; omega
      · exact ⟨g, e⟩
/-- Two lists of constraints, one of which is the other renamed. -/
structure Ren (n : Int) (f g : Int → Int) (cs ds : List Con) : Prop where
  right : ∀ c ∈ cs, rightS n c = true
  fr : ∀ v, 0 ≤ v → v < n → 0 ≤ f v ∧ f v < n
  gr : ∀ v, 0 ≤ v → v < n → 0 ≤ g v ∧ g v < n
  gf : ∀ v, 0 ≤ v → v < n → g (f v) = v
  fg : ∀ v, 0 ≤ v → v < n → f (g v) = v
  eq : ds = cs.map (renC f)
section
variable {n : Int} {f g : Int → Int} {cs ds : List Con} (h : Ren n f g cs ds)
include h
theorem Ren.back : cs = ds.map (renC g) := by rw [h.eq, ren_back h.right h.gf]
theorem Ren.right' : ∀ c ∈ ds, rightS n c = true := fun c hc => by
  rw [h.eq] at hc
  obtain ⟨d, hd, rfl⟩ := List.mem_map.1 hc
  have hr := h.right d hd
  obtain ⟨k, a, b, m⟩ := d
  simp only [rightS, renC, Bool.and_eq_true, Bool.or_eq_true, decide_eq_true_eq] at hr ⊢
  have ha := h.fr a hr.1.1 hr.1.2
  by_cases hk : k = 1 ∨ k = 5 ∨ k = 6 ∨ k = 7
  · have hb := h.fr b (by omega) (by omega)
    rw [if_pos hk]; omega
  · rw [if_neg hk]; omega
theorem Ren.clash : Clash ds ↔ Clash cs := ⟨fun e => by rw [h.back]; exact e.ren g, fun e => by rw [h.eq]; exact e.ren f⟩
theorem Ren.cong {u v : Int} (hu : 0 ≤ u ∧ u < n) (hv : 0 ≤ v ∧ v < n) : Cong ds (f u) (f v) ↔ Cong cs u v :=
  ⟨fun e => by have := e.ren g; rw [h.gf u hu.1 hu.2, h.gf v hv.1 hv.2, ← h.back] at this; exact this, fun e => by rw [h.eq]; exact e.ren f⟩
theorem Ren.size {v s : Int} (hv : 0 ≤ v ∧ v < n) : SizeOf ds (f v) s ↔ SizeOf cs v s :=
  ⟨fun e => by have := e.ren g; rw [h.gf v hv.1 hv.2, ← h.back] at this; exact this, fun e => by rw [h.eq]; exact e.ren f⟩
theorem Ren.sign {v s : Int} (hv : 0 ≤ v ∧ v < n) : SignOf ds (f v) s ↔ SignOf cs v s :=
  ⟨fun e => by have := e.ren g; rw [h.gf v hv.1 hv.2, ← h.back] at this; exact this, fun e => by rw [h.eq]; exact e.ren f⟩
theorem Ren.has {k v : Int} (hv : 0 ≤ v ∧ v < n) : Has ds k (f v) ↔ Has cs k v :=
  ⟨fun e => by have := e.ren g; rw [h.gf v hv.1 hv.2, ← h.back] at this; exact this, fun e => by rw [h.eq]; exact e.ren f⟩
theorem Ren.desc (hn : ¬ Clash cs) {v : Int} {r y : Row} (hv : 0 ≤ v ∧ v < n) (hr : Desc cs v r) (hy : Desc ds (f v) y) :
    r.size = y.size ∧ r.sign = y.sign ∧ r.count = y.count ∧ (r.ptr < 0 ↔ y.ptr < 0) ∧ (r.elem < 0 ↔ y.elem < 0) ∧ r.fields.map (·.1) = y.fields.map (·.1) := by
  have hcong : ∀ c ∈ cs, Cong ds (renC f c).a (f v) ↔ Cong cs c.a v := fun c hc => by
    have hr := h.right c hc
    simp only [rightS, Bool.and_eq_true, Bool.or_eq_true, decide_eq_true_eq] at hr
    exact h.cong hr.1 hv
  refine ⟨?_, ?_, ?_, ?_, ?_, ?_⟩
  · rcases hr.size with ⟨a, b⟩ | a <;> rcases hy.size with ⟨c, d⟩ | c
    · omega
    · exact absurd ((h.size hv).1 c) (b _)
    · exact absurd ((h.size hv).2 a) (d _)
    · exact Classical.byContradiction fun e => hn (.size v _ _ a ((h.size hv).1 c) e)
  · rcases hr.sign with ⟨a, b⟩ | a <;> rcases hy.sign with ⟨c, d⟩ | c
    · omega
    · exact absurd ((h.sign hv).1 c) (b _)
    · exact absurd ((h.sign hv).2 a) (d _)
    · exact Classical.byContradiction fun e => hn (.sign v _ _ a ((h.sign hv).1 c) e)
  · rcases hr.count with ⟨a, b⟩ | ⟨⟨c, hc, hk, hcv, hcn⟩, hm⟩ <;> rcases hy.count with ⟨a', b'⟩ | ⟨⟨c', hc', hk', hcv', hcn'⟩, hm'⟩
    · omega
    · exact absurd ((h.has hv).1 ⟨c', hc', hcv', hk'⟩) b
    · exact absurd ((h.has hv).2 ⟨c, hc, hcv, hk⟩) b'
    · have h1 := hm' (renC f c) (by rw [h.eq]; exact mem_ren f hc) hk ((hcong c hc).2 hcv)
      rw [h.eq] at hc'
      obtain ⟨d, hd, rfl⟩ := List.mem_map.1 hc'
      have h2 := hm d hd hk' ((hcong d hd).1 hcv')
      have h3 : (renC f d).n = d.n := rfl
      have h4 : (renC f c).n = c.n := rfl
      omega
  · have h1 : r.ptr < 0 ↔ ¬ Has cs 5 v := by
      rcases hr.ptr with ⟨a, b⟩ | ⟨c, hc, hk, hcv, hrep⟩
      · exact ⟨fun _ => b, fun _ => by omega⟩
      · exact ⟨fun e => by have := hrep.2.1; omega, fun e => absurd ⟨c, hc, hcv, hk⟩ e⟩
    have h2 : y.ptr < 0 ↔ ¬ Has ds 5 (f v) := by
      rcases hy.ptr with ⟨a, b⟩ | ⟨c, hc, hk, hcv, hrep⟩
      · exact ⟨fun _ => b, fun _ => by omega⟩
      · exact ⟨fun e => by have := hrep.2.1; omega, fun e => absurd ⟨c, hc, hcv, hk⟩ e⟩
    rw [h1, h2, h.has hv]
  · have h1 : r.elem < 0 ↔ ¬ Has cs 7 v := by
      rcases hr.elem with ⟨a, b⟩ | ⟨c, hc, hk, hcv, hrep⟩
      · exact ⟨fun _ => b, fun _ => by omega⟩
      · exact ⟨fun e => by have := hrep.2.1; omega, fun e => absurd ⟨c, hc, hcv, hk⟩ e⟩
    have h2 : y.elem < 0 ↔ ¬ Has ds 7 (f v) := by
      rcases hy.elem with ⟨a, b⟩ | ⟨c, hc, hk, hcv, hrep⟩
      · exact ⟨fun _ => b, fun _ => by omega⟩
      · exact ⟨fun e => by have := hrep.2.1; omega, fun e => absurd ⟨c, hc, hcv, hk⟩ e⟩
    rw [h1, h2, h.has hv]
  · refine offs_eq hr.rising hy.rising fun o => ?_
    rw [hr.offs h.right, hy.offs h.right']
    constructor
    · rintro ⟨c, hc, hk, hcv, ho⟩
      exact ⟨renC f c, by rw [h.eq]; exact mem_ren f hc, hk, (hcong c hc).2 hcv, ho⟩
    · rintro ⟨c, hc, hk, hcv, ho⟩
      rw [h.eq] at hc
      obtain ⟨d, hd, rfl⟩ := List.mem_map.1 hc
      exact ⟨d, hd, hk, (hcong d hd).1 hcv, ho⟩
theorem Ren.cls {u v : Int} {r q y z : Row} (hu : 0 ≤ u ∧ u < n) (hv : 0 ≤ v ∧ v < n) (hr : Desc cs u r) (hq : Desc cs v q) (hy : Desc ds (f u) y) (hz : Desc ds (f v) z) : (r.cls = q.cls ↔ y.cls = z.cls) := by
  have h1 : r.cls = q.cls ↔ Cong cs u v := ⟨fun e => hr.cls.1.symm.trans (e ▸ hq.cls.1), fun e => hr.cls.unique' hq.cls e⟩
  have h2 : y.cls = z.cls ↔ Cong ds (f u) (f v) := ⟨fun e => hy.cls.1.symm.trans (e ▸ hz.cls.1), fun e => hy.cls.unique' hz.cls e⟩
  rw [h1, h2, h.cong hu hv]
end
end Go.Proofs.YtepmgnhblegiiaaDoor
