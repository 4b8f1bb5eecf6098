/- Constraints on types as plain mathematics: the classes, contradictions, solutions; what they depend on. No condition. -/
import Derived.Test.YtepmgnhblegiiaaDoorRows
set_option linter.all false
namespace Go.Proofs.YtepmgnhblegiiaaDoor

def setF (F : Int → Option Int) (o f x : Int) : Option Int := if x = o then some f else F x
/-- A constraint. -/
structure Con where
  kind : Int
  a : Int
  b : Int
  n : Int
deriving DecidableEq

/-- Two constraints that put their variables b into one class when their variables a are in one. -/
def Twin (c d : Con) : Prop := c.kind = d.kind ∧ (c.kind = 5 ∨ c.kind = 7 ∨ (c.kind = 6 ∧ c.n = d.n))

/-- Two variables are in one class. -/
inductive Cong (cs : List Con) : Int → Int → Prop where
  | refl (v : Int) : Cong cs v v
  | symm {u v : Int} : Cong cs u v → Cong cs v u
  | trans {u v x : Int} : Cong cs u v → Cong cs v x → Cong cs u x
  | same {c : Con} : c ∈ cs → c.kind = 1 → Cong cs c.a c.b
  | step {c d : Con} : c ∈ cs → d ∈ cs → Twin c d → Cong cs c.a d.a → Cong cs c.b d.b

def Sub (cs ds : List Con) : Prop := ∀ c, c ∈ cs → c ∈ ds
theorem Cong.mono {cs ds : List Con} (h : Sub cs ds) {u v : Int} (hc : Cong cs u v) : Cong ds u v := by
  induction hc with
  | refl v => exact .refl v
  | symm _ ih => exact .symm ih
  | trans _ _ ih1 ih2 => exact .trans ih1 ih2
  | same hc hk => exact .same (h _ hc) hk
  | step hc hd ht _ ih => exact .step (h _ hc) (h _ hd) ht ih

/-- The classes are the finest: any equivalence that is closed contains them. -/
theorem Cong.least {cs : List Con} (E : Int → Int → Prop) (hr : ∀ v, E v v) (hs : ∀ {u v}, E u v → E v u) (ht : ∀ {u v x}, E u v → E v x → E u x)
    (h1 : ∀ c ∈ cs, c.kind = 1 → E c.a c.b) (h2 : ∀ c ∈ cs, ∀ d ∈ cs, Twin c d → E c.a d.a → E c.b d.b) {u v : Int} (h : Cong cs u v) : E u v := by
  induction h with
  | refl v => exact hr v
  | symm _ ih => exact hs ih
  | trans _ _ i j => exact ht i j
  | same hc hk => exact h1 _ hc hk
  | step hc hd t _ ih => exact h2 _ hc _ hd t ih

/-- s is a size of the class of v. -/
def SizeOf (cs : List Con) (v s : Int) : Prop := ∃ c ∈ cs, Cong cs c.a v ∧ ((c.kind = 2 ∧ s = c.n) ∨ (c.kind = 5 ∧ s = 2))
def SignOf (cs : List Con) (v s : Int) : Prop := ∃ c ∈ cs, Cong cs c.a v ∧ (c.kind = 3 ∨ c.kind = 4) ∧ s = c.kind
/-- The class of v has a constraint of a kind. -/
def Has (cs : List Con) (k v : Int) : Prop := ∃ c ∈ cs, Cong cs c.a v ∧ c.kind = k
def Signed (cs : List Con) (v : Int) : Prop := ∃ s, SignOf cs v s
/-- The class of y is the element or a field of the class of x. -/
def Inner (cs : List Con) (x y : Int) : Prop := ∃ c ∈ cs, Cong cs c.a x ∧ (c.kind = 6 ∨ c.kind = 7) ∧ Cong cs c.b y
inductive Inside (cs : List Con) : Int → Int → Prop where
  | one {x y : Int} : Inner cs x y → Inside cs x y
  | more {x y z : Int} : Inner cs x y → Inside cs y z → Inside cs x z

/-- What is contradictory. -/
inductive Clash (cs : List Con) : Prop where
  | size (v s t : Int) : SizeOf cs v s → SizeOf cs v t → s ≠ t → Clash cs
  | sign (v s t : Int) : SignOf cs v s → SignOf cs v t → s ≠ t → Clash cs
  | sp (v : Int) : Signed cs v → Has cs 5 v → Clash cs
  | sf (v : Int) : Signed cs v → Has cs 6 v → Clash cs
  | se (v : Int) : Signed cs v → Has cs 7 v → Clash cs
  | pf (v : Int) : Has cs 5 v → Has cs 6 v → Clash cs
  | pe (v : Int) : Has cs 5 v → Has cs 7 v → Clash cs
  | fe (v : Int) : Has cs 6 v → Has cs 7 v → Clash cs
  | field (s k : Int) (c : Con) : c ∈ cs → c.kind = 6 → SizeOf cs c.a s → (k = 1 ∨ SizeOf cs c.b k) → s < c.n + k → Clash cs
  | elem (s k : Int) (c : Con) : c ∈ cs → c.kind = 7 → SizeOf cs c.a s → (k = 1 ∨ SizeOf cs c.b k) → s < c.n * k → Clash cs
  | loop (v : Int) : Inside cs v v → Clash cs

section
variable {cs ds : List Con}
theorem SizeOf.mono (h : Sub cs ds) {v s : Int} : SizeOf cs v s → SizeOf ds v s := fun ⟨c, hc, hk, e⟩ => ⟨c, h _ hc, hk.mono h, e⟩
theorem SignOf.mono (h : Sub cs ds) {v s : Int} : SignOf cs v s → SignOf ds v s := fun ⟨c, hc, hk, e⟩ => ⟨c, h _ hc, hk.mono h, e⟩
theorem Has.mono (h : Sub cs ds) {k v : Int} : Has cs k v → Has ds k v := fun ⟨c, hc, hk, e⟩ => ⟨c, h _ hc, hk.mono h, e⟩
theorem Signed.mono (h : Sub cs ds) {v : Int} : Signed cs v → Signed ds v := fun ⟨s, hs⟩ => ⟨s, hs.mono h⟩
theorem Inner.mono (h : Sub cs ds) {x y : Int} : Inner cs x y → Inner ds x y := fun ⟨c, hc, hk, e, l⟩ => ⟨c, h _ hc, hk.mono h, e, l.mono h⟩
theorem Inside.mono (h : Sub cs ds) {x y : Int} (hi : Inside cs x y) : Inside ds x y := by
  induction hi with
  | one i => exact .one (i.mono h)
  | more i _ ih => exact .more (i.mono h) ih
theorem Clash.mono (h : Sub cs ds) (hc : Clash cs) : Clash ds := by
  cases hc with
  | size v s t a b e => exact .size v s t (a.mono h) (b.mono h) e
  | sign v s t a b e => exact .sign v s t (a.mono h) (b.mono h) e
  | sp v a b => exact .sp v (a.mono h) (b.mono h)
  | sf v a b => exact .sf v (a.mono h) (b.mono h)
  | se v a b => exact .se v (a.mono h) (b.mono h)
  | pf v a b => exact .pf v (a.mono h) (b.mono h)
  | pe v a b => exact .pe v (a.mono h) (b.mono h)
  | fe v a b => exact .fe v (a.mono h) (b.mono h)
  | field s k c a b e f g => exact .field s k c (h _ a) b (e.mono h) (f.imp id (·.mono h)) g
  | elem s k c a b e f g => exact .elem s k c (h _ a) b (e.mono h) (f.imp id (·.mono h)) g
  | loop v a => exact .loop v (a.mono h)
theorem SizeOf.cong {u v s : Int} (h : Cong cs u v) : SizeOf cs u s → SizeOf cs v s := fun ⟨c, hc, hk, e⟩ => ⟨c, hc, hk.trans h, e⟩
theorem SignOf.cong {u v s : Int} (h : Cong cs u v) : SignOf cs u s → SignOf cs v s := fun ⟨c, hc, hk, e⟩ => ⟨c, hc, hk.trans h, e⟩
theorem Has.cong {u v k : Int} (h : Cong cs u v) : Has cs k u → Has cs k v := fun ⟨c, hc, hk, e⟩ => ⟨c, hc, hk.trans h, e⟩
end

/-- What an element of a solution says of a variable. -/
structure Row where
  cls : Int
  size : Int
  sign : Int
  ptr : Int
  elem : Int
  count : Int
  fields : List (Int × Int)

/-- r is the least variable of the class of v. -/
def IsRep (cs : List Con) (v r : Int) : Prop := Cong cs r v ∧ 0 ≤ r ∧ ∀ u, 0 ≤ u → Cong cs u v → r ≤ u
/-- r describes the class of v. -/
structure Desc (cs : List Con) (v : Int) (r : Row) : Prop where
  cls : IsRep cs v r.cls
  size : (r.size = 0 ∧ ∀ s, ¬ SizeOf cs v s) ∨ SizeOf cs v r.size
  sign : (r.sign = 0 ∧ ∀ s, ¬ SignOf cs v s) ∨ SignOf cs v r.sign
  ptr : (r.ptr = -1 ∧ ¬ Has cs 5 v) ∨ ∃ c ∈ cs, c.kind = 5 ∧ Cong cs c.a v ∧ IsRep cs c.b r.ptr
  elem : (r.elem = -1 ∧ ¬ Has cs 7 v) ∨ ∃ c ∈ cs, c.kind = 7 ∧ Cong cs c.a v ∧ IsRep cs c.b r.elem
  count : (r.count = 0 ∧ ¬ Has cs 7 v) ∨ ((∃ c ∈ cs, c.kind = 7 ∧ Cong cs c.a v ∧ c.n = r.count) ∧ ∀ c ∈ cs, c.kind = 7 → Cong cs c.a v → c.n ≤ r.count)
  rising : r.fields.Pairwise fun x y => x.1 < y.1
  fields : ∀ o f, (o, f) ∈ r.fields ↔ ∃ c ∈ cs, c.kind = 6 ∧ Cong cs c.a v ∧ c.n = o ∧ IsRep cs c.b f

theorem IsRep.unique {cs : List Con} {v r q : Int} (h : IsRep cs v r) (h' : IsRep cs v q) : r = q := by
  have a := h.2.2 q h'.2.1 h'.1
  have b := h'.2.2 r h.2.1 h.1
  omega
theorem IsRep.cong {cs : List Con} {u v r : Int} (h : IsRep cs u r) (e : Cong cs u v) : IsRep cs v r :=
  ⟨h.1.trans e, h.2.1, fun w h0 hw => h.2.2 w h0 (hw.trans e.symm)⟩
theorem IsRep.unique' {cs : List Con} {u v r q : Int} (h : IsRep cs u r) (h' : IsRep cs v q) (e : Cong cs u v) : r = q := (h.cong e).unique h'

/-- Two rising lists of the same members are one. -/
theorem rising_unique : ∀ {l m : List (Int × Int)}, l.Pairwise (fun x y => x.1 < y.1) → m.Pairwise (fun x y => x.1 < y.1) → (∀ p, p ∈ l ↔ p ∈ m) → l = m
  | [], [], _, _, _ => rfl
  | [], y :: m, _, _, h => by have := (h y).2 (by simp); simp at this
  | x :: l, [], _, _, h => by have := (h x).1 (by simp); simp at this
  | x :: l, y :: m, hl, hm, h => by
    rw [List.pairwise_cons] at hl hm
    have hxy : x = y := by
      rcases List.mem_cons.1 ((h x).1 (by simp)) with e | e
      · exact e
      · rcases List.mem_cons.1 ((h y).2 (by simp)) with f | f
        · exact f.symm
        · have := hl.1 y f; have := hm.1 x e; omega
    subst hxy
    congr 1
    refine rising_unique hl.2 hm.2 fun p => ?_
    constructor
    · intro hp
      rcases List.mem_cons.1 ((h p).1 (by simp [hp])) with e | e
      · subst e; have := hl.1 p hp; omega
      · exact e
    · intro hp
      rcases List.mem_cons.1 ((h p).2 (by simp [hp])) with e | e
      · subst e; have := hm.1 p hp; omega
      · exact e

theorem Desc.unique {cs : List Con} (hn : ¬ Clash cs) {v : Int} {r q : Row} (h : Desc cs v r) (k : Desc cs v q) : r = q := by
  have h1 := h.cls.unique k.cls
  have h2 : r.size = q.size := by
    rcases h.size with ⟨a, b⟩ | a <;> rcases k.size with ⟨c, d⟩ | c
    · omega
    · exact absurd c (b _)
    · exact absurd a (d _)
    · exact Classical.byContradiction fun e => hn (.size v _ _ a c e)
  have h3 : r.sign = q.sign := by
    rcases h.sign with ⟨a, b⟩ | a <;> rcases k.sign with ⟨c, d⟩ | c
    · omega
    · exact absurd c (b _)
    · exact absurd a (d _)
    · exact Classical.byContradiction fun e => hn (.sign v _ _ a c e)
  have h4 : r.ptr = q.ptr := by
    rcases h.ptr with ⟨a, b⟩ | ⟨c, hc, hk, hv, hr⟩ <;> rcases k.ptr with ⟨a', b'⟩ | ⟨c', hc', hk', hv', hr'⟩
    · omega
    · exact absurd ⟨c', hc', hv', hk'⟩ b
    · exact absurd ⟨c, hc, hv, hk⟩ b'
    · exact hr.unique' hr' (.step hc hc' ⟨by omega, .inl hk⟩ (hv.trans hv'.symm))
  have h5 : r.elem = q.elem := by
    rcases h.elem with ⟨a, b⟩ | ⟨c, hc, hk, hv, hr⟩ <;> rcases k.elem with ⟨a', b'⟩ | ⟨c', hc', hk', hv', hr'⟩
    · omega
    · exact absurd ⟨c', hc', hv', hk'⟩ b
    · exact absurd ⟨c, hc, hv, hk⟩ b'
    · exact hr.unique' hr' (.step hc hc' ⟨by omega, .inr (.inl hk)⟩ (hv.trans hv'.symm))
  have h6 : r.count = q.count := by
    rcases h.count with ⟨a, b⟩ | ⟨⟨c, hc, hk, hv, hr⟩, hm⟩ <;> rcases k.count with ⟨a', b'⟩ | ⟨⟨c', hc', hk', hv', hr'⟩, hm'⟩
    · omega
    · exact absurd ⟨c', hc', hv', hk'⟩ b
    · exact absurd ⟨c, hc, hv, hk⟩ b'
    · have := hm c' hc' hk' hv'; have := hm' c hc hk hv; omega
  have h7 : r.fields = q.fields := rising_unique h.rising k.rising fun p => (h.fields p.1 p.2).trans (k.fields p.1 p.2).symm
  cases r; cases q; simp_all

/-- A constraint is well-formed. -/
def rightS (n : Int) (c : Con) : Bool :=
  decide (0 ≤ c.a ∧ c.a < n) && (((decide (c.kind = 1 ∨ c.kind = 5)) && decide (0 ≤ c.b ∧ c.b < n)) || (decide (c.kind = 2) && decide (1 ≤ c.n ∧ c.n ≤ 65535)) || decide (c.kind = 3 ∨ c.kind = 4)
    || (decide (c.kind = 6) && decide (0 ≤ c.b ∧ c.b < n) && decide (0 ≤ c.n ∧ c.n ≤ 65535)) || (decide (c.kind = 7) && decide (0 ≤ c.b ∧ c.b < n) && decide (1 ≤ c.n ∧ c.n ≤ 65535)))

/-- What Solve answers: rows, a number, an error. -/
inductive SolveR (n : Int) (cs : List Con) : List Row → Int → Int → Prop where
  | arg : n < 0 → SolveR n cs [] 0 1
  | many : 0 ≤ n → (2000 < n ∨ 5000 < cs.length) → SolveR n cs [] 0 2
  | wrong (i : Nat) (c : Con) : 0 ≤ n → n ≤ 2000 → cs.length ≤ 5000 → cs[i]? = some c → rightS n c = false → (∀ j d, j < i → cs[j]? = some d → rightS n d = true) → SolveR n cs [] i 1
  | clash (i : Nat) : 0 ≤ n → n ≤ 2000 → cs.length ≤ 5000 → (∀ c ∈ cs, rightS n c = true) → i < cs.length → ¬ Clash (cs.take i) → Clash (cs.take (i + 1)) → SolveR n cs [] i 60
  | ok (rows : List Row) : 0 ≤ n → n ≤ 2000 → cs.length ≤ 5000 → (∀ c ∈ cs, rightS n c = true) → ¬ Clash cs → rows.length = n.toNat → (∀ (v : Nat) (r : Row), rows[v]? = some r → Desc cs v r) → SolveR n cs rows 0 0

theorem Sub.take (cs : List Con) {i j : Nat} (h : i ≤ j) : Sub (cs.take i) (cs.take j) := fun c hc => by
  rw [List.mem_take_iff_getElem] at hc ⊢
  obtain ⟨k, hk, e⟩ := hc
  exact ⟨k, by omega, e⟩
theorem Sub.take_all (cs : List Con) (i : Nat) : Sub (cs.take i) cs := fun c hc => List.mem_of_mem_take hc

theorem SolveR.unique {n : Int} {cs : List Con} {l m : List Row} {i j e f : Int} (h : SolveR n cs l i e) (k : SolveR n cs m j f) : l = m ∧ i = j ∧ e = f := by
  cases h with
  | arg h1 => cases k <;> first | exact ⟨rfl, rfl, rfl⟩ | omega
  | many h1 h2 => cases k <;> first | exact ⟨rfl, rfl, rfl⟩ | omega
  | wrong i c h1 h2 h3 h4 h5 h6 =>
    cases k with
    | arg => omega
    | many => omega
    | wrong j d _ _ _ g4 g5 g6 =>
      refine ⟨rfl, ?_, rfl⟩
      rcases Nat.lt_trichotomy i j with hl | hl | hl
      · have := g6 i c hl h4; rw [h5] at this; cases this
      · rw [hl]
      · have := h6 j d hl g4; rw [g5] at this; cases this
    | clash j _ _ _ g => have := g c (List.mem_of_getElem? h4); rw [h5] at this; cases this
    | ok _ _ _ _ g => have := g c (List.mem_of_getElem? h4); rw [h5] at this; cases this
  | clash i h1 h2 h3 h4 h5 h6 h7 =>
    cases k with
    | arg => omega
    | many => omega
    | wrong j d _ _ _ g4 g5 g6 => have := h4 d (List.mem_of_getElem? g4); rw [g5] at this; cases this
    | clash j _ _ _ g g5 g6 g7 =>
      refine ⟨rfl, ?_, rfl⟩
      rcases Nat.lt_trichotomy i j with hl | hl | hl
      · exact absurd (h7.mono (Sub.take cs hl)) g6
      · rw [hl]
      · exact absurd (g7.mono (Sub.take cs hl)) h6
    | ok _ _ _ _ g g5 => exact absurd (h7.mono (Sub.take_all cs _)) g5
  | ok rows h1 h2 h3 h4 h5 h6 h7 =>
    cases k with
    | arg => omega
    | many => omega
    | wrong j d _ _ _ g4 g5 g6 => have := h4 d (List.mem_of_getElem? g4); rw [g5] at this; cases this
    | clash j _ _ _ g g5 g6 g7 => exact absurd (g7.mono (Sub.take_all cs _)) h5
    | ok rows' _ _ _ _ _ k6 k7 =>
      refine ⟨?_, rfl, rfl⟩
      apply List.ext_getElem?
      intro v
      rcases Nat.lt_or_ge v l.length with hv | hv
      · have e1 : l[v]? = some l[v] := List.getElem?_eq_getElem hv
        have hv' : v < m.length := by omega
        have e2 : m[v]? = some m[v] := List.getElem?_eq_getElem hv'
        rw [e1, e2]
        exact congrArg some ((h7 v _ e1).unique h5 (k7 v _ e2))
      · rw [List.getElem?_eq_none hv, List.getElem?_eq_none (by omega)]

end Go.Proofs.YtepmgnhblegiiaaDoor

/- The solver of type constraints as plain mathematics: what its classes are while constraints are added. No condition. -/
namespace Go.Proofs.YtepmgnhblegiiaaDoor

/-- What is known of a class. -/
structure Cls where
  size : Int
  sign : Int
  ptr : Int
  elem : Int
  count : Int
  fields : Int → Option Int

def agreeV (a b : Int) : Int := if a = 0 then b else a
def agreeC (c : Bool) (a b : Int) : Bool := c || (decide (a ≠ 0) && decide (b ≠ 0) && decide (a ≠ b))

/-- x and y are in one class once the pairs are united. -/
def Gen (rt : Int → Int) (todo : List (Int × Int)) (x y : Int) : Prop :=
  ∀ E : Int → Int → Prop, (∀ v, E v v) → (∀ u v, E u v → E v u) → (∀ u v x, E u v → E v x → E u x) → (∀ v, E v (rt v)) → (∀ p ∈ todo, E p.1 p.2) → E x y
section
variable {rt : Int → Int} {todo : List (Int × Int)}
theorem Gen.refl (x : Int) : Gen rt todo x x := fun E r _ _ _ _ => r x
theorem Gen.symm {x y : Int} (h : Gen rt todo x y) : Gen rt todo y x := fun E r s t a b => s _ _ (h E r s t a b)
theorem Gen.trans {x y z : Int} (h : Gen rt todo x y) (k : Gen rt todo y z) : Gen rt todo x z := fun E r s t a b => t _ _ _ (h E r s t a b) (k E r s t a b)
theorem Gen.root (x : Int) : Gen rt todo x (rt x) := fun E r s t a b => a x
theorem Gen.pair {p : Int × Int} (h : p ∈ todo) : Gen rt todo p.1 p.2 := fun E r s t a b => b p h
theorem Gen.into {rt' : Int → Int} {todo' : List (Int × Int)} (h1 : ∀ v, Gen rt' todo' v (rt v)) (h2 : ∀ p ∈ todo, Gen rt' todo' p.1 p.2) {x y : Int} (h : Gen rt todo x y) : Gen rt' todo' x y :=
  fun E r s t a b => h E r s t (fun v => h1 v E r s t a b) (fun p hp => h2 p hp E r s t a b)
theorem Gen.shut {x y : Int} (hi : ∀ v, rt (rt v) = rt v) (h : Gen rt [] x y) : rt x = rt y :=
  h (fun u v => rt u = rt v) (fun _ => rfl) (fun _ _ e => e.symm) (fun _ _ _ e f => e.trans f) (fun v => (hi v).symm) (fun _ hp => by simp at hp)
end

structure Roots (n : Int) (rt : Int → Int) : Prop where
  idem : ∀ v, rt (rt v) = rt v
  le : ∀ v, rt v ≤ v
  nn : ∀ v, 0 ≤ v → 0 ≤ rt v
  out : ∀ v, (v < 0 ∨ n ≤ v) → rt v = v
theorem Roots.lt {n : Int} {rt : Int → Int} (h : Roots n rt) {v : Int} (hv : v < n) : rt v < n := by have := h.le v; omega

/-- What is known of a class is so. -/
structure Good (n : Int) (cs : List Con) (r : Int) (k : Cls) : Prop where
  size : k.size = 0 ∨ SizeOf cs r k.size
  sign : k.sign = 0 ∨ SignOf cs r k.sign
  ptr : k.ptr = -1 ∨ ((0 ≤ k.ptr ∧ k.ptr < n) ∧ ∃ c ∈ cs, c.kind = 5 ∧ Cong cs c.a r ∧ Cong cs c.b k.ptr)
  elem : k.elem = -1 ∨ ((0 ≤ k.elem ∧ k.elem < n) ∧ ∃ c ∈ cs, c.kind = 7 ∧ Cong cs c.a r ∧ Cong cs c.b k.elem)
  count : (k.count = 0 ∧ k.elem = -1) ∨ ((k.elem ≠ -1 ∧ 0 ≤ k.count) ∧ ∃ c ∈ cs, c.kind = 7 ∧ Cong cs c.a r ∧ c.n = k.count)
  fields : ∀ o f, k.fields o = some f → (0 ≤ f ∧ f < n) ∧ ∃ c ∈ cs, c.kind = 6 ∧ c.n = o ∧ Cong cs c.a r ∧ Cong cs c.b f
theorem Good.cong {n : Int} {cs : List Con} {r q : Int} {k : Cls} (h : Good n cs r k) (e : Cong cs r q) : Good n cs q k where
  size := h.size.imp id (·.cong e)
  sign := h.sign.imp id (·.cong e)
  ptr := h.ptr.imp id fun ⟨a, c, hc, hk, x, y⟩ => ⟨a, c, hc, hk, x.trans e, y⟩
  elem := h.elem.imp id fun ⟨a, c, hc, hk, x, y⟩ => ⟨a, c, hc, hk, x.trans e, y⟩
  count := h.count.imp id fun ⟨a, c, hc, hk, x, y⟩ => ⟨a, c, hc, hk, x.trans e, y⟩
  fields := fun o f hf => by
    obtain ⟨a, c, hc, hk, ho, x, y⟩ := h.fields o f hf
    exact ⟨a, c, hc, hk, ho, x.trans e, y⟩

/-- A constraint is part of what is known. -/
structure Done (rt : Int → Int) (todo : List (Int × Int)) (clash : Bool) (k : Cls) (c : Con) : Prop where
  same : c.kind = 1 → Gen rt todo c.a c.b
  size : c.kind = 2 → k.size ≠ 0 ∧ (clash = false → k.size = c.n)
  sign : (c.kind = 3 ∨ c.kind = 4) → k.sign ≠ 0 ∧ (clash = false → k.sign = c.kind)
  ptr : c.kind = 5 → (k.size ≠ 0 ∧ (clash = false → k.size = 2)) ∧ k.ptr ≠ -1 ∧ Gen rt todo c.b k.ptr
  elem : c.kind = 7 → k.elem ≠ -1 ∧ Gen rt todo c.b k.elem ∧ c.n ≤ k.count
  field : c.kind = 6 → ∃ f, k.fields c.n = some f ∧ Gen rt todo c.b f

/-- The state of the solver of the constraints cs, of which ps are added; the pairs of todo are still to be united. -/
structure Inv (n : Int) (cs ps : List Con) (rt : Int → Int) (of : Int → Cls) (clash : Bool) (todo : List (Int × Int)) : Prop where
  roots : Roots n rt
  sound : ∀ v, Cong cs v (rt v)
  pend : ∀ p ∈ todo, ((0 ≤ p.1 ∧ p.1 < n) ∧ (0 ≤ p.2 ∧ p.2 < n)) ∧ Cong cs p.1 p.2
  good : ∀ r, 0 ≤ r → r < n → rt r = r → Good n cs r (of r)
  done : ∀ c ∈ ps, Done rt todo clash (of (rt c.a)) c
  clash : clash = true → Clash cs

theorem Done.into {rt rt' : Int → Int} {todo todo' : List (Int × Int)} {clash : Bool} {k : Cls} {c : Con} (h : Done rt todo clash k c) (g : ∀ {x y}, Gen rt todo x y → Gen rt' todo' x y) : Done rt' todo' clash k c where
  same hk := g (h.same hk)
  size := h.size
  sign := h.sign
  ptr hk := ⟨(h.ptr hk).1, (h.ptr hk).2.1, g (h.ptr hk).2.2⟩
  elem hk := ⟨(h.elem hk).1, g (h.elem hk).2.1, (h.elem hk).2.2⟩
  field hk := by obtain ⟨f, a, b⟩ := h.field hk; exact ⟨f, a, g b⟩

section
variable {n : Int} {cs ps : List Con} {rt : Int → Int} {of : Int → Cls} {clash : Bool} {todo : List (Int × Int)}

/-- Which pairs are to be united. -/
theorem Inv.same_todo {todo' : List (Int × Int)} (h : Inv n cs ps rt of clash todo) (hs : ∀ p, p ∈ todo' → p ∈ todo) (hm : ∀ p ∈ todo, p ∉ todo' → rt p.1 = rt p.2) : Inv n cs ps rt of clash todo' where
  roots := h.roots
  sound := h.sound
  pend p hp := h.pend p (hs p hp)
  good := h.good
  done c hc := (h.done c hc).into fun hg => hg.into (fun v => Gen.root v) fun p hp => by
    by_cases hp' : p ∈ todo'
    · exact Gen.pair hp'
    · exact (Gen.root _).trans (by rw [hm p hp hp']; exact (Gen.root _).symm)
  clash := h.clash

/-- What two classes become. -/
structure Merged (x y : Cls) (z : Cls) (ps : List (Int × Int)) : Prop where
  size : z.size = agreeV x.size y.size
  sign : z.sign = agreeV x.sign y.sign
  ptr : z.ptr = max x.ptr y.ptr
  elem : z.elem = max x.elem y.elem
  count : z.count = max x.count y.count
  fields : ∀ o, z.fields o = match x.fields o, y.fields o with | none, g => g | some f, none => some f | some f, some g => some (max g f)
  pairs : ∀ p, p ∈ ps ↔ (x.ptr ≠ -1 ∧ y.ptr ≠ -1 ∧ p = (x.ptr, y.ptr)) ∨ (x.elem ≠ -1 ∧ y.elem ≠ -1 ∧ p = (x.elem, y.elem)) ∨ ∃ o f g, x.fields o = some f ∧ y.fields o = some g ∧ p = (g, f)

def joinRt (rt : Int → Int) (lo hi v : Int) : Int := if rt v = hi then lo else rt v
def setCls (of : Int → Cls) (r : Int) (k : Cls) (v : Int) : Cls := if v = r then k else of v

theorem Roots.join (h : Roots n rt) {lo hi : Int} (hlo : rt lo = lo) (hhi : rt hi = hi) (h0 : 0 ≤ lo) (hlt : lo < hi) (hn : hi < n) : Roots n (joinRt rt lo hi) where
  idem v := by unfold joinRt; split <;> rename_i h1; (rw [hlo, if_neg (by omega)]); rw [h.idem, if_neg h1]
  le v := by unfold joinRt; have := h.le v; split <;> omega
  nn v hv := by unfold joinRt; have := h.nn v hv; split <;> omega
  out v hv := by
    unfold joinRt
    rw [h.out v hv, if_neg]
    omega

theorem max_of_none {a b : Int} (ha : a = -1 ∨ 0 ≤ a) (hb : b = -1 ∨ 0 ≤ b) : (max a b = -1 ↔ a = -1 ∧ b = -1) ∧ (max a b = a ∨ max a b = b) := by omega

theorem clash_size (h1 : clash = true → Clash cs) {r : Int} {a b : Int} (ha : a = 0 ∨ SizeOf cs r a) (hb : b = 0 ∨ SizeOf cs r b) (h : agreeC clash a b = true) : Clash cs := by
  unfold agreeC at h
  simp only [Bool.or_eq_true, Bool.and_eq_true, decide_eq_true_eq] at h
  rcases h with h | ⟨⟨h2, h3⟩, h4⟩
  · exact h1 h
  · exact .size r a b (ha.resolve_left h2) (hb.resolve_left h3) h4
theorem clash_sign (h1 : clash = true → Clash cs) {r : Int} {a b : Int} (ha : a = 0 ∨ SignOf cs r a) (hb : b = 0 ∨ SignOf cs r b) (h : agreeC clash a b = true) : Clash cs := by
  unfold agreeC at h
  simp only [Bool.or_eq_true, Bool.and_eq_true, decide_eq_true_eq] at h
  rcases h with h | ⟨⟨h2, h3⟩, h4⟩
  · exact h1 h
  · exact .sign r a b (ha.resolve_left h2) (hb.resolve_left h3) h4

/-- Two classes become one. -/
theorem Inv.join {a b : Int} (h : Inv n cs ps rt of clash ((a, b) :: todo)) {lo hi : Int} (hab : (rt a = lo ∧ rt b = hi) ∨ (rt a = hi ∧ rt b = lo)) (hlt : lo < hi) {z : Cls} {qs : List (Int × Int)} (hz : Merged (of lo) (of hi) z qs) :
    Inv n cs ps (joinRt rt lo hi) (setCls of lo z) (agreeC (agreeC clash (of lo).size (of hi).size) (of lo).sign (of hi).sign) (todo ++ qs) := by
  obtain ⟨⟨⟨ha0, han⟩, hb0, hbn⟩, hcab⟩ := h.pend (a, b) (by simp)
  have hra := h.roots.nn a ha0
  have hrb := h.roots.nn b hb0
  have hla : rt a < n := h.roots.lt han
  have hlb : rt b < n := h.roots.lt hbn
  have hra : 0 ≤ rt a := hra
  have hrb : 0 ≤ rt b := hrb
  have hlo : rt lo = lo := by
    rcases hab with ⟨e, f⟩ | ⟨e, f⟩
    · rw [← e]; exact h.roots.idem _
    · rw [← f]; exact h.roots.idem _
  have hhi : rt hi = hi := by
    rcases hab with ⟨e, f⟩ | ⟨e, f⟩
    · rw [← f]; exact h.roots.idem _
    · rw [← e]; exact h.roots.idem _
  have h0 : 0 ≤ lo := by omega
  have hn : hi < n := by omega
  have hc : Cong cs lo hi := by
    rcases hab with ⟨e, f⟩ | ⟨e, f⟩
    · rw [← e, ← f]; exact (h.sound a).symm.trans (hcab.trans (h.sound b))
    · rw [← e, ← f]; exact (h.sound b).symm.trans (hcab.symm.trans (h.sound a))
  have glo := h.good lo h0 (by omega) hlo
  have ghi := (h.good hi (by omega) hn hhi).cong hc.symm
  have hto : ∀ {x y : Cls}, Good n cs lo x → Good n cs lo y → (x.ptr = -1 ∨ 0 ≤ x.ptr) ∧ (x.elem = -1 ∨ 0 ≤ x.elem) := fun {x y} hx hy => ⟨hx.ptr.imp id (·.1.1), hx.elem.imp id (·.1.1)⟩
  obtain ⟨t1, e1⟩ := hto glo glo
  obtain ⟨t2, e2⟩ := hto ghi ghi
  have mt := max_of_none t1 t2
  have me := max_of_none e1 e2
  have c1 : agreeC clash (of lo).size (of hi).size = true → Clash cs := clash_size h.clash glo.size ghi.size
  -- the equivalence grows
  have hgen : ∀ {x y}, Gen rt ((a, b) :: todo) x y → Gen (joinRt rt lo hi) (todo ++ qs) x y := fun hg => by
    have hhl : Gen (joinRt rt lo hi) (todo ++ qs) hi lo := by
      have := Gen.root (rt := joinRt rt lo hi) (todo := todo ++ qs) hi
      unfold joinRt at this
      rwa [if_pos hhi] at this
    have hv : ∀ v, Gen (joinRt rt lo hi) (todo ++ qs) v (rt v) := fun v => by
      have := Gen.root (rt := joinRt rt lo hi) (todo := todo ++ qs) v
      by_cases e : rt v = hi
      · rw [e]
        have e' : joinRt rt lo hi v = lo := by unfold joinRt; rw [if_pos e]
        rw [e'] at this
        exact this.trans hhl.symm
      · have e' : joinRt rt lo hi v = rt v := by unfold joinRt; rw [if_neg e]
        rwa [e'] at this
    refine hg.into hv fun p hp => ?_
    rcases List.mem_cons.1 hp with rfl | hp
    · rcases hab with ⟨e, f⟩ | ⟨e, f⟩
      · have x := hv a; have y := hv b; rw [e] at x; rw [f] at y
        exact x.trans (hhl.symm.trans y.symm)
      · have x := hv a; have y := hv b; rw [e] at x; rw [f] at y
        exact x.trans (hhl.trans y.symm)
    · exact Gen.pair (by simp [hp])
  have hq : ∀ p ∈ qs, Gen (joinRt rt lo hi) (todo ++ qs) p.1 p.2 := fun p hp => Gen.pair (by simp [hp])
  have twin : ∀ {c d : Con}, c ∈ cs → d ∈ cs → Twin c d → Cong cs c.a lo → Cong cs d.a lo → Cong cs c.b d.b := fun hc hd t x y => .step hc hd t (x.trans y.symm)
  refine ⟨h.roots.join hlo hhi h0 hlt hn, fun v => ?_, fun p hp => ?_, fun r hr0 hrn hr => ?_, fun c hcp => ?_, fun hcl => ?_⟩
  · unfold joinRt
    split
    · rename_i e; have := h.sound v; rw [e] at this; exact this.trans hc.symm
    · exact h.sound v
  · rcases List.mem_append.1 hp with hp | hp
    · exact h.pend p (by simp [hp])
    · rcases (hz.pairs p).1 hp with ⟨a1, a2, rfl⟩ | ⟨a1, a2, rfl⟩ | ⟨o, f, g, f1, g1, rfl⟩
      · obtain ⟨b1, c, m1, k1, x1, y1⟩ := glo.ptr.resolve_left a1
        obtain ⟨b2, d, m2, k2, x2, y2⟩ := ghi.ptr.resolve_left a2
        exact ⟨⟨b1, b2⟩, y1.symm.trans ((twin m1 m2 ⟨by omega, .inl k1⟩ x1 x2).trans y2)⟩
      · obtain ⟨b1, c, m1, k1, x1, y1⟩ := glo.elem.resolve_left a1
        obtain ⟨b2, d, m2, k2, x2, y2⟩ := ghi.elem.resolve_left a2
        exact ⟨⟨b1, b2⟩, y1.symm.trans ((twin m1 m2 ⟨by omega, .inr (.inl k1)⟩ x1 x2).trans y2)⟩
      · obtain ⟨b1, c, m1, k1, o1, x1, y1⟩ := glo.fields o f f1
        obtain ⟨b2, d, m2, k2, o2, x2, y2⟩ := ghi.fields o g g1
        exact ⟨⟨b2, b1⟩, y2.symm.trans ((twin m2 m1 ⟨by omega, .inr (.inr ⟨k2, by omega⟩)⟩ x2 x1).trans y1)⟩
  · have hrne : r ≠ hi := by
      rintro rfl
      unfold joinRt at hr
      rw [if_pos hhi] at hr
      omega
    have hrr : rt r = r := by
      unfold joinRt at hr
      split at hr
      · rename_i e
        subst hr
        omega
      · exact hr
    by_cases e : r = lo
    · subst e
      have : setCls of r z r = z := by simp [setCls]
      rw [this]
      refine ⟨?_, ?_, ?_, ?_, ?_, ?_⟩
      · rw [hz.size]; unfold agreeV; split
        · exact ghi.size
        · exact glo.size
      · rw [hz.sign]; unfold agreeV; split
        · exact ghi.sign
        · exact glo.sign
      · rw [hz.ptr]; rcases mt.2 with e | e <;> rw [e]
        · exact glo.ptr
        · exact ghi.ptr
      · rw [hz.elem]; rcases me.2 with e | e <;> rw [e]
        · exact glo.elem
        · exact ghi.elem
      · rw [hz.count, hz.elem]
        rcases glo.count with ⟨q1, q2⟩ | ⟨⟨q1, q5⟩, q2⟩ <;> rcases ghi.count with ⟨q3, q4⟩ | ⟨⟨q3, q6⟩, q4⟩
        · left; exact ⟨by rw [q1, q3]; rfl, by rw [q2, q4]; rfl⟩
        · right
          refine ⟨⟨by rw [q2]; have := e2.resolve_left q3; omega, by omega⟩, ?_⟩
          rw [Int.max_eq_right (by omega)]; exact q4
        · right
          refine ⟨⟨by rw [q4]; have := e1.resolve_left q1; omega, by omega⟩, ?_⟩
          rw [Int.max_eq_left (by omega)]; exact q2
        · right
          refine ⟨⟨by have := e1.resolve_left q1; have := e2.resolve_left q3; omega, by omega⟩, ?_⟩
          by_cases hle : (of r).count ≤ (of hi).count
          · rw [Int.max_eq_right hle]; exact q4
          · rw [Int.max_eq_left (by omega)]; exact q2
      · intro o f hf
        rw [hz.fields o] at hf
        cases hx : (of r).fields o with
        | none =>
          rw [hx] at hf
          exact ghi.fields o f hf
        | some u =>
          rw [hx] at hf
          cases hy : (of hi).fields o with
          | none => rw [hy] at hf; simp at hf; subst hf; exact glo.fields o _ hx
          | some w =>
            rw [hy] at hf
            simp at hf
            rcases (show f = w ∨ f = u by omega) with e | e
            · subst e; exact ghi.fields o _ hy
            · subst e; exact glo.fields o _ hx
    · have : setCls of lo z r = of r := by simp [setCls, e]
      rw [this]
      exact h.good r hr0 hrn hrr
  · have hd := h.done c hcp
    have hclf : ∀ {a b : Int}, agreeC (agreeC clash (of lo).size (of hi).size) (of lo).sign (of hi).sign = false → clash = false ∧ ((of lo).size = 0 ∨ (of hi).size = 0 ∨ (of lo).size = (of hi).size) ∧ ((of lo).sign = 0 ∨ (of hi).sign = 0 ∨ (of lo).sign = (of hi).sign) := fun {_ _} hf => by
      unfold agreeC at hf
      simp only [Bool.or_eq_false_iff, Bool.and_eq_false_iff, decide_eq_false_iff_not, Decidable.not_not] at hf
      obtain ⟨⟨h1, h2⟩, h3⟩ := hf
      refine ⟨h1, ?_, ?_⟩
      · rcases h2 with (h2 | h2) | h2 <;> simp_all
      · rcases h3 with (h2 | h2) | h2 <;> simp_all
    by_cases hca : rt c.a = lo ∨ rt c.a = hi
    · have e1' : joinRt rt lo hi c.a = lo := by unfold joinRt; rcases hca with e | e <;> rw [e]; (rw [if_neg (by omega)]); rw [if_pos rfl]
      rw [e1']
      have e2' : setCls of lo z lo = z := by simp [setCls]
      rw [e2']
      refine ⟨fun hk => hgen (hd.same hk), fun hk => ?_, fun hk => ?_, fun hk => ?_, fun hk => ?_, fun hk => ?_⟩
      · obtain ⟨p1, p2⟩ := hd.size hk
        rw [hz.size]
        refine ⟨?_, fun hf => ?_⟩
        · unfold agreeV; rcases hca with e | e <;> rw [e] at p1 <;> split <;> first | assumption | (intro q; omega)
        · obtain ⟨f1, f2, -⟩ := hclf (a := 0) (b := 0) hf
          have := p2 f1
          unfold agreeV
          rcases hca with e | e <;> rw [e] at p1 this <;> split <;> omega
      · obtain ⟨p1, p2⟩ := hd.sign hk
        rw [hz.sign]
        refine ⟨?_, fun hf => ?_⟩
        · unfold agreeV; rcases hca with e | e <;> rw [e] at p1 <;> split <;> first | assumption | (intro q; omega)
        · obtain ⟨f1, -, f2⟩ := hclf (a := 0) (b := 0) hf
          have := p2 f1
          unfold agreeV
          rcases hca with e | e <;> rw [e] at p1 this <;> split <;> omega
      · obtain ⟨⟨p1, p2⟩, p3, p4⟩ := hd.ptr hk
        rw [hz.size, hz.ptr]
        refine ⟨⟨?_, fun hf => ?_⟩, ?_, ?_⟩
        · unfold agreeV; rcases hca with e | e <;> rw [e] at p1 <;> split <;> first | assumption | (intro q; omega)
        · obtain ⟨f1, f2, -⟩ := hclf (a := 0) (b := 0) hf
          have := p2 f1
          unfold agreeV
          rcases hca with e | e <;> rw [e] at p1 this <;> split <;> omega
        · rcases hca with e | e <;> rw [e] at p3 <;> omega
        · have hp4 := hgen p4
          rcases hca with e | e <;> rw [e] at p3 hp4
          · rcases mt.2 with e' | e' <;> rw [e']
            · exact hp4
            · refine hp4.trans (hq _ ((hz.pairs _).2 (.inl ⟨p3, ?_, rfl⟩)))
              intro q; omega
          · rcases mt.2 with e' | e' <;> rw [e']
            · refine hp4.trans (hq _ ((hz.pairs _).2 (.inl ⟨?_, p3, rfl⟩))).symm
              intro q; omega
            · exact hp4
      · obtain ⟨p1, p2, p3⟩ := hd.elem hk
        rw [hz.elem, hz.count]
        refine ⟨?_, ?_, ?_⟩
        · rcases hca with e | e <;> rw [e] at p1 <;> omega
        · have hp4 := hgen p2
          rcases hca with e | e <;> rw [e] at p1 hp4
          · rcases me.2 with e' | e' <;> rw [e']
            · exact hp4
            · refine hp4.trans (hq _ ((hz.pairs _).2 (.inr (.inl ⟨p1, ?_, rfl⟩))))
              intro q; omega
          · rcases me.2 with e' | e' <;> rw [e']
            · refine hp4.trans (hq _ ((hz.pairs _).2 (.inr (.inl ⟨?_, p1, rfl⟩)))).symm
              intro q; omega
            · exact hp4
        · rcases hca with e | e <;> rw [e] at p3 <;> omega
      · obtain ⟨f, p1, p2⟩ := hd.field hk
        have hp := hgen p2
        rw [hz.fields]
        rcases hca with e | e <;> rw [e] at p1
        · rw [p1]
          cases hy : (of hi).fields c.n with
          | none => exact ⟨f, rfl, hp⟩
          | some g =>
            refine ⟨_, rfl, ?_⟩
            rcases (show max g f = f ∨ max g f = g by omega) with e' | e' <;> rw [e']
            · exact hp
            · exact hp.trans (hq _ ((hz.pairs _).2 (.inr (.inr ⟨c.n, f, g, p1, hy, rfl⟩)))).symm
        · rw [p1]
          cases hy : (of lo).fields c.n with
          | none => exact ⟨f, rfl, hp⟩
          | some g =>
            refine ⟨_, rfl, ?_⟩
            rcases (show max f g = f ∨ max f g = g by omega) with e' | e' <;> rw [e']
            · exact hp
            · exact hp.trans (hq _ ((hz.pairs _).2 (.inr (.inr ⟨c.n, g, f, hy, p1, rfl⟩))))
    · have e1' : joinRt rt lo hi c.a = rt c.a := by unfold joinRt; rw [if_neg (by omega)]
      rw [e1']
      have e2' : setCls of lo z (rt c.a) = of (rt c.a) := by unfold setCls; rw [if_neg (by omega)]
      rw [e2']
      have hd' := hd.into hgen
      exact ⟨hd'.same, fun hk => ⟨(hd'.size hk).1, fun hf => (hd'.size hk).2 (hclf (a := 0) (b := 0) hf).1⟩, fun hk => ⟨(hd'.sign hk).1, fun hf => (hd'.sign hk).2 (hclf (a := 0) (b := 0) hf).1⟩,
        fun hk => ⟨⟨(hd'.ptr hk).1.1, fun hf => (hd'.ptr hk).1.2 (hclf (a := 0) (b := 0) hf).1⟩, (hd'.ptr hk).2⟩, hd'.elem, hd'.field⟩
  · exact clash_sign c1 glo.sign ghi.sign hcl
end
end Go.Proofs.YtepmgnhblegiiaaDoor

/- The solver of type constraints as plain mathematics: a constraint is added; what is known when all are added. No condition. -/
namespace Go.Proofs.YtepmgnhblegiiaaDoor

section
variable {n : Int} {cs ps : List Con} {rt : Int → Int} {of : Int → Cls} {clash : Bool}

theorem agreeC_false {c : Bool} {a b : Int} (h : agreeC c a b = false) : c = false ∧ (a = 0 ∨ b = 0 ∨ a = b) := by
  unfold agreeC at h
  simp only [Bool.or_eq_false_iff, Bool.and_eq_false_iff, decide_eq_false_iff_not, Decidable.not_not] at h
  obtain ⟨h1, h2⟩ := h
  refine ⟨h1, ?_⟩
  rcases h2 with (h2 | h2) | h2 <;> simp_all

/-- What is known of one class is written anew. -/
theorem Inv.set (h : Inv n cs ps rt of clash []) {r : Int} (h0 : 0 ≤ r) (hn : r < n) (hr : rt r = r) {z : Cls} {clash' : Bool} {todo' : List (Int × Int)} {c : Con} (hz : Good n cs r z) (hca : rt c.a = r)
    (hd : ∀ d, Done rt [] clash (of r) d → d ∈ ps → rt d.a = r → Done rt todo' clash' z d) (hc : Done rt todo' clash' z c) (hcl : clash' = true → Clash cs) (hclf : clash' = false → clash = false)
    (ht : ∀ p ∈ todo', ((0 ≤ p.1 ∧ p.1 < n) ∧ (0 ≤ p.2 ∧ p.2 < n)) ∧ Cong cs p.1 p.2) : Inv n cs (ps ++ [c]) rt (setCls of r z) clash' todo' where
  roots := h.roots
  sound := h.sound
  pend := ht
  good q q0 qn hq := by
    by_cases e : q = r
    · subst e; have : setCls of q z q = z := by simp [setCls]
      rw [this]; exact hz
    · have : setCls of r z q = of q := by simp [setCls, e]
      rw [this]; exact h.good q q0 qn hq
  done d hdm := by
    rcases List.mem_append.1 hdm with hdm | hdm
    · by_cases e : rt d.a = r
      · have : setCls of r z (rt d.a) = z := by simp [setCls, e]
        rw [this]
        have := h.done d hdm
        rw [e] at this
        exact hd d this hdm e
      · have : setCls of r z (rt d.a) = of (rt d.a) := by simp [setCls, e]
        rw [this]
        have hd' := (h.done d hdm).into (rt' := rt) (todo' := todo') fun hg => hg.into (fun v => Gen.root v) fun p hp => by simp at hp
        exact ⟨hd'.same, fun hk => ⟨(hd'.size hk).1, fun hf => (hd'.size hk).2 (hclf hf)⟩, fun hk => ⟨(hd'.sign hk).1, fun hf => (hd'.sign hk).2 (hclf hf)⟩,
          fun hk => ⟨⟨(hd'.ptr hk).1.1, fun hf => (hd'.ptr hk).1.2 (hclf hf)⟩, (hd'.ptr hk).2⟩, hd'.elem, hd'.field⟩
    · have : d = c := by simpa using hdm
      subst this
      have : setCls of r z (rt d.a) = z := by simp [setCls, hca]
      rw [this]; exact hc
  clash := hcl

theorem Inv.add_same (h : Inv n cs ps rt of clash []) {c : Con} (hc : c ∈ cs) (hk : c.kind = 1) (ha : 0 ≤ c.a ∧ c.a < n) (hb : 0 ≤ c.b ∧ c.b < n) : Inv n cs (ps ++ [c]) rt of clash [(c.a, c.b)] where
  roots := h.roots
  sound := h.sound
  pend p hp := by
    have : p = (c.a, c.b) := by simpa using hp
    subst this
    exact ⟨⟨ha, hb⟩, .same hc hk⟩
  good := h.good
  done d hd := by
    rcases List.mem_append.1 hd with hd | hd
    · exact (h.done d hd).into fun hg => hg.into (fun v => Gen.root v) fun p hp => by simp at hp
    · have : d = c := by simpa using hd
      subst this
      exact ⟨fun _ => Gen.pair (p := (d.a, d.b)) (by simp), by omega, by omega, by omega, by omega, by omega⟩
  clash := h.clash

section
variable {c : Con} (h : Inv n cs ps rt of clash []) (hc : c ∈ cs) (ha : 0 ≤ c.a ∧ c.a < n)
include h hc ha
theorem Inv.at_root : (0 ≤ rt c.a ∧ rt c.a < n) ∧ rt (rt c.a) = rt c.a ∧ Good n cs (rt c.a) (of (rt c.a)) ∧ Cong cs c.a (rt c.a) := by
  have h1 := h.roots.nn c.a ha.1
  have h2 := h.roots.lt ha.2
  have h3 := h.roots.idem c.a
  exact ⟨⟨h1, h2⟩, h3, h.good _ h1 h2 h3, h.sound _⟩

theorem Inv.add_size (hk : c.kind = 2) (hn : c.n ≠ 0) :
    Inv n cs (ps ++ [c]) rt (setCls of (rt c.a) { of (rt c.a) with size := agreeV (of (rt c.a)).size c.n }) (agreeC clash (of (rt c.a)).size c.n) [] := by
  obtain ⟨⟨h1, h2⟩, h3, g, hcg⟩ := h.at_root hc ha
  have hs : SizeOf cs (rt c.a) c.n := ⟨c, hc, hcg, .inl ⟨hk, rfl⟩⟩
  refine h.set h1 h2 h3 ⟨?_, g.sign, g.ptr, g.elem, g.count, g.fields⟩ rfl (fun d hd _ _ => ⟨hd.same, fun hk => ?_, fun hk => ?_, fun hk => ?_, hd.elem, hd.field⟩) ⟨by omega, fun _ => ?_, by omega, by omega, by omega, by omega⟩ (clash_size h.clash g.size (.inr hs)) (fun hf => (agreeC_false hf).1) (fun p hp => by simp at hp)
  · unfold agreeV; show _ = _ ∨ _; split
    · exact .inr hs
    · exact g.size
  · obtain ⟨p1, p2⟩ := hd.size hk
    refine ⟨by simp [agreeV, p1], fun hf => by simp [agreeV, p1]; exact p2 (agreeC_false hf).1⟩
  · exact ⟨(hd.sign hk).1, fun hf => (hd.sign hk).2 (agreeC_false hf).1⟩
  · obtain ⟨⟨p1, p2⟩, p3⟩ := hd.ptr hk
    exact ⟨⟨by simp [agreeV, p1], fun hf => by simp [agreeV, p1]; exact p2 (agreeC_false hf).1⟩, p3⟩
  · refine ⟨?_, fun hf => ?_⟩
    · simp only [agreeV]; split <;> assumption
    · have := (agreeC_false hf).2
      simp only [agreeV]; split <;> omega

theorem Inv.add_sign (hk : c.kind = 3 ∨ c.kind = 4) :
    Inv n cs (ps ++ [c]) rt (setCls of (rt c.a) { of (rt c.a) with sign := agreeV (of (rt c.a)).sign c.kind }) (agreeC clash (of (rt c.a)).sign c.kind) [] := by
  obtain ⟨⟨h1, h2⟩, h3, g, hcg⟩ := h.at_root hc ha
  have hs : SignOf cs (rt c.a) c.kind := ⟨c, hc, hcg, hk, rfl⟩
  refine h.set h1 h2 h3 ⟨g.size, ?_, g.ptr, g.elem, g.count, g.fields⟩ rfl (fun d hd _ _ => ⟨hd.same, fun hk => ?_, fun hk => ?_, fun hk => ?_, hd.elem, hd.field⟩) ⟨by omega, by omega, fun _ => ?_, by omega, by omega, by omega⟩ (clash_sign h.clash g.sign (.inr hs)) (fun hf => (agreeC_false hf).1) (fun p hp => by simp at hp)
  · unfold agreeV; show _ = _ ∨ _; split
    · exact .inr hs
    · exact g.sign
  · exact ⟨(hd.size hk).1, fun hf => (hd.size hk).2 (agreeC_false hf).1⟩
  · obtain ⟨p1, p2⟩ := hd.sign hk
    refine ⟨by simp [agreeV, p1], fun hf => by simp [agreeV, p1]; exact p2 (agreeC_false hf).1⟩
  · obtain ⟨⟨p1, p2⟩, p3⟩ := hd.ptr hk
    exact ⟨⟨p1, fun hf => p2 (agreeC_false hf).1⟩, p3⟩
  · refine ⟨?_, fun hf => ?_⟩
    · simp only [agreeV]; split <;> omega
    · have := (agreeC_false hf).2
      simp only [agreeV]; split <;> omega

/-- The pair of an elder reference and a new one. -/
def refer (old new : Int) : List (Int × Int) := if old = -1 then [] else [(old, new)]
omit h hc ha in
theorem gen_refer {old new x : Int} (ho : old ≠ -1) (hg : Gen rt [] x old) : Gen rt (refer old new) x new := by
  have h1 : Gen rt (refer old new) x old := hg.into (fun v => Gen.root v) fun p hp => by simp at hp
  exact h1.trans (Gen.pair (p := (old, new)) (by simp [refer, ho]))
omit h hc ha in
theorem gen_weak {todo' : List (Int × Int)} {x y : Int} (hg : Gen rt [] x y) : Gen rt todo' x y := hg.into (fun v => Gen.root v) fun p hp => by simp at hp

theorem Inv.add_points (hk : c.kind = 5) (hb : 0 ≤ c.b ∧ c.b < n) :
    Inv n cs (ps ++ [c]) rt (setCls of (rt c.a) { of (rt c.a) with size := agreeV (of (rt c.a)).size 2, ptr := c.b }) (agreeC clash (of (rt c.a)).size 2) (refer (of (rt c.a)).ptr c.b) := by
  obtain ⟨⟨h1, h2⟩, h3, g, hcg⟩ := h.at_root hc ha
  have hs : SizeOf cs (rt c.a) 2 := ⟨c, hc, hcg, .inr ⟨hk, rfl⟩⟩
  refine h.set h1 h2 h3 ⟨?_, g.sign, .inr ⟨hb, c, hc, hk, hcg, .refl _⟩, g.elem, g.count, g.fields⟩ rfl (fun d hd _ _ => ⟨fun hk => gen_weak (hd.same hk), fun hk => ?_, fun hk => ?_, fun hk => ?_, fun hk => ⟨(hd.elem hk).1, gen_weak (hd.elem hk).2.1, (hd.elem hk).2.2⟩, fun hk => ?_⟩) ⟨by omega, by omega, by omega, fun _ => ?_, by omega, by omega⟩ (clash_size h.clash g.size (.inr hs)) (fun hf => (agreeC_false hf).1) (fun p hp => ?_)
  · unfold agreeV; show _ = _ ∨ _; split
    · exact .inr hs
    · exact g.size
  · obtain ⟨p1, p2⟩ := hd.size hk
    refine ⟨by simp [agreeV, p1], fun hf => by simp [agreeV, p1]; exact p2 (agreeC_false hf).1⟩
  · exact ⟨(hd.sign hk).1, fun hf => (hd.sign hk).2 (agreeC_false hf).1⟩
  · obtain ⟨⟨p1, p2⟩, p3, p4⟩ := hd.ptr hk
    exact ⟨⟨by simp [agreeV, p1], fun hf => by simp [agreeV, p1]; exact p2 (agreeC_false hf).1⟩, by show c.b ≠ -1; omega, gen_refer p3 p4⟩
  · obtain ⟨f, p1, p2⟩ := hd.field hk
    exact ⟨f, p1, gen_weak p2⟩
  · refine ⟨⟨?_, fun hf => ?_⟩, by show c.b ≠ -1; omega, Gen.refl _⟩
    · simp only [agreeV]; split <;> omega
    · have := (agreeC_false hf).2
      simp only [agreeV]; split <;> omega
  · unfold refer at hp
    split at hp
    · simp at hp
    · rename_i ho
      have : p = ((of (rt c.a)).ptr, c.b) := by simpa using hp
      subst this
      obtain ⟨q1, d, hd, hdk, hda, hdb⟩ := g.ptr.resolve_left ho
      exact ⟨⟨q1, hb⟩, hdb.symm.trans (.step hd hc ⟨by omega, .inl hdk⟩ (hda.trans hcg.symm))⟩

theorem Inv.add_elem (hk : c.kind = 7) (hb : 0 ≤ c.b ∧ c.b < n) (hn : 1 ≤ c.n) :
    Inv n cs (ps ++ [c]) rt (setCls of (rt c.a) { of (rt c.a) with count := max (of (rt c.a)).count c.n, elem := c.b }) clash (refer (of (rt c.a)).elem c.b) := by
  obtain ⟨⟨h1, h2⟩, h3, g, hcg⟩ := h.at_root hc ha
  refine h.set h1 h2 h3 ⟨g.size, g.sign, g.ptr, .inr ⟨hb, c, hc, hk, hcg, .refl _⟩, .inr ⟨⟨by show c.b ≠ -1; omega, by show 0 ≤ max _ _; omega⟩, ?_⟩, g.fields⟩ rfl (fun d hd _ _ => ⟨fun hk => gen_weak (hd.same hk), hd.size, hd.sign, fun hk => ⟨(hd.ptr hk).1, (hd.ptr hk).2.1, gen_weak (hd.ptr hk).2.2⟩, fun hk => ?_, fun hk => ?_⟩) ⟨by omega, by omega, by omega, by omega, fun _ => ?_, by omega⟩ h.clash id (fun p hp => ?_)
  · show ∃ d ∈ cs, d.kind = 7 ∧ Cong cs d.a (rt c.a) ∧ d.n = max (of (rt c.a)).count c.n
    by_cases hle : (of (rt c.a)).count ≤ c.n
    · rw [Int.max_eq_right hle]; exact ⟨c, hc, hk, hcg, rfl⟩
    · rw [Int.max_eq_left (by omega)]
      rcases g.count with ⟨q, _⟩ | ⟨_, q⟩
      · omega
      · exact q
  · obtain ⟨p1, p2, p3⟩ := hd.elem hk
    exact ⟨by show c.b ≠ -1; omega, gen_refer p1 p2, by show d.n ≤ max _ _; omega⟩
  · obtain ⟨f, p1, p2⟩ := hd.field hk
    exact ⟨f, p1, gen_weak p2⟩
  · exact ⟨by show c.b ≠ -1; omega, Gen.refl _, by show c.n ≤ max _ _; omega⟩
  · unfold refer at hp
    split at hp
    · simp at hp
    · rename_i ho
      have : p = ((of (rt c.a)).elem, c.b) := by simpa using hp
      subst this
      obtain ⟨q1, d, hd, hdk, hda, hdb⟩ := g.elem.resolve_left ho
      exact ⟨⟨q1, hb⟩, hdb.symm.trans (.step hd hc ⟨by omega, .inr (.inl hdk)⟩ (hda.trans hcg.symm))⟩

theorem Inv.add_field (hk : c.kind = 6) (hb : 0 ≤ c.b ∧ c.b < n) :
    Inv n cs (ps ++ [c]) rt (setCls of (rt c.a) { of (rt c.a) with fields := setF (of (rt c.a)).fields c.n c.b }) clash (refer (((of (rt c.a)).fields c.n).getD (-1)) c.b) := by
  obtain ⟨⟨h1, h2⟩, h3, g, hcg⟩ := h.at_root hc ha
  refine h.set h1 h2 h3 ⟨g.size, g.sign, g.ptr, g.elem, g.count, fun o f hf => ?_⟩ rfl (fun d hd _ _ => ⟨fun hk => gen_weak (hd.same hk), hd.size, hd.sign, fun hk => ⟨(hd.ptr hk).1, (hd.ptr hk).2.1, gen_weak (hd.ptr hk).2.2⟩, fun hk => ⟨(hd.elem hk).1, gen_weak (hd.elem hk).2.1, (hd.elem hk).2.2⟩, fun hk => ?_⟩) ⟨by omega, by omega, by omega, by omega, by omega, fun _ => ?_⟩ h.clash id (fun p hp => ?_)
  · simp only [setF] at hf
    split at hf
    · simp at hf; subst hf; rename_i e; subst e
      exact ⟨hb, c, hc, hk, rfl, hcg, .refl _⟩
    · exact g.fields o f hf
  · obtain ⟨f, p1, p2⟩ := hd.field hk
    by_cases e : d.n = c.n
    · refine ⟨c.b, by simp [setF, e], ?_⟩
      rw [e] at p1
      have : ((of (rt c.a)).fields c.n).getD (-1) = f := by rw [p1]; rfl
      rw [this]
      have := (g.fields _ _ p1).1
      exact gen_refer (by omega) p2
    · exact ⟨f, by simp [setF, e, p1], gen_weak p2⟩
  · exact ⟨c.b, by simp [setF], Gen.refl _⟩
  · unfold refer at hp
    split at hp
    · simp at hp
    · rename_i ho
      cases hf : (of (rt c.a)).fields c.n with
      | none => rw [hf] at ho; simp at ho
      | some f =>
        rw [hf] at hp
        have : p = (f, c.b) := by simpa using hp
        subst this
        obtain ⟨q1, d, hd, hdk, hdn, hda, hdb⟩ := g.fields _ _ hf
        exact ⟨⟨q1, hb⟩, hdb.symm.trans (.step hd hc ⟨by omega, .inr (.inr ⟨hdk, by omega⟩)⟩ (hda.trans hcg.symm))⟩
end

/-- When all constraints are added, the classes are those of the constraints. -/
theorem Inv.cong (h : Inv n cs cs rt of clash []) {u v : Int} : Cong cs u v ↔ rt u = rt v := by
  constructor
  · intro hc
    have idem := h.roots.idem
    refine Cong.least (fun u v => rt u = rt v) (fun _ => rfl) (fun e => e.symm) (fun e f => e.trans f) (fun c hc hk => ((h.done c hc).same hk).shut idem) (fun c hc d hd ht e => ?_) hc
    have p := h.done c hc
    have q := h.done d hd
    rw [← e] at q
    obtain ⟨t1, t2⟩ := ht
    rcases t2 with t2 | t2 | ⟨t2, t3⟩
    · exact ((p.ptr t2).2.2.shut idem).trans ((q.ptr (by omega)).2.2.shut idem).symm
    · exact ((p.elem t2).2.1.shut idem).trans ((q.elem (by omega)).2.1.shut idem).symm
    · obtain ⟨f, f1, f2⟩ := p.field t2
      obtain ⟨g, g1, g2⟩ := q.field (by omega)
      rw [t3, g1] at f1
      cases f1
      exact (f2.shut idem).trans (g2.shut idem).symm
  · intro e
    exact (h.sound u).trans (by rw [e]; exact (h.sound v).symm)
theorem Inv.rep (h : Inv n cs cs rt of clash []) {v : Int} (hv : 0 ≤ v) : IsRep cs v (rt v) :=
  ⟨(h.sound v).symm, h.roots.nn v hv, fun u _ hu => by rw [← h.cong.1 hu]; exact h.roots.le u⟩

/-- The class y is the element or a field of the class x. -/
def Edge (rt : Int → Int) (of : Int → Cls) (x y : Int) : Prop := ((of x).elem ≠ -1 ∧ y = rt (of x).elem) ∨ ∃ o f, (of x).fields o = some f ∧ y = rt f
inductive Path (rt : Int → Int) (of : Int → Cls) : Int → Int → Prop where
  | one {x y : Int} : Edge rt of x y → Path rt of x y
  | more {x y z : Int} : Edge rt of x y → Path rt of y z → Path rt of x z
theorem Path.trans {x y z : Int} (h : Path rt of x y) (k : Path rt of y z) : Path rt of x z := by
  induction h with
  | one e => exact .more e k
  | more e _ ih => exact .more e (ih k)

def need (of : Int → Cls) (v : Int) : Int := max (of v).size 1
/-- The kinds and sizes of a class fit. -/
structure Fits (rt : Int → Int) (of : Int → Cls) (v : Int) : Prop where
  sp : ¬ ((of v).sign ≠ 0 ∧ (of v).ptr ≠ -1)
  se : ¬ ((of v).sign ≠ 0 ∧ (of v).elem ≠ -1)
  sf : ¬ ((of v).sign ≠ 0 ∧ ∃ o f, (of v).fields o = some f)
  pe : ¬ ((of v).ptr ≠ -1 ∧ (of v).elem ≠ -1)
  pf : ¬ ((of v).ptr ≠ -1 ∧ ∃ o f, (of v).fields o = some f)
  ef : ¬ ((of v).elem ≠ -1 ∧ ∃ o f, (of v).fields o = some f)
  field : (of v).size ≠ 0 → ∀ o f, (of v).fields o = some f → o + need of (rt f) ≤ (of v).size
  elem : (of v).size ≠ 0 → (of v).elem ≠ -1 → (of v).count * need of (rt (of v).elem) ≤ (of v).size

section
variable (h : Inv n cs cs rt of clash []) (hR : ∀ c ∈ cs, rightS n c = true)
include h hR
theorem right_parts {c : Con} (hc : c ∈ cs) : (0 ≤ c.a ∧ c.a < n) ∧ ((c.kind = 1 ∨ c.kind = 5 ∨ c.kind = 6 ∨ c.kind = 7) → 0 ≤ c.b ∧ c.b < n) ∧ (c.kind = 2 → 1 ≤ c.n ∧ c.n ≤ 65535) ∧ (c.kind = 6 → 0 ≤ c.n ∧ c.n ≤ 65535) ∧ (c.kind = 7 → 1 ≤ c.n ∧ c.n ≤ 65535) := by
  have := hR c hc
  simp only [rightS, Bool.and_eq_true, Bool.or_eq_true, decide_eq_true_eq] at this
  omega

theorem Inv.inner {x y : Int} (hx : 0 ≤ x ∧ x < n) : Inner cs x y ↔ Edge rt of (rt x) (rt y) := by
  constructor
  · rintro ⟨c, hc, e, hk, l⟩
    have d := h.done c hc
    rw [h.cong.1 e] at d
    rcases hk with hk | hk
    · obtain ⟨f, f1, f2⟩ := d.field hk
      exact .inr ⟨c.n, f, f1, by rw [← f2.shut h.roots.idem]; exact (h.cong.1 l).symm⟩
    · obtain ⟨f1, f2, _⟩ := d.elem hk
      exact .inl ⟨f1, by rw [← f2.shut h.roots.idem]; exact (h.cong.1 l).symm⟩
  · have g := h.good (rt x) (h.roots.nn x hx.1) (h.roots.lt hx.2) (h.roots.idem x)
    rintro (⟨e1, e2⟩ | ⟨o, f, e1, e2⟩)
    · obtain ⟨_, c, hc, hk, ha, hb⟩ := g.elem.resolve_left e1
      exact ⟨c, hc, ha.trans (h.sound x).symm, .inr hk, hb.trans (h.cong.2 e2.symm)⟩
    · obtain ⟨_, c, hc, hk, _, ha, hb⟩ := g.fields o f e1
      exact ⟨c, hc, ha.trans (h.sound x).symm, .inl hk, hb.trans (h.cong.2 e2.symm)⟩
theorem Inv.edge_range {x y : Int} (hx : 0 ≤ x ∧ x < n) (hr : rt x = x) (e : Edge rt of x y) : (0 ≤ y ∧ y < n) ∧ rt y = y := by
  have g := h.good x hx.1 hx.2 hr
  rcases e with ⟨e1, rfl⟩ | ⟨o, f, e1, rfl⟩
  · obtain ⟨⟨a, b⟩, _⟩ := g.elem.resolve_left e1
    exact ⟨⟨h.roots.nn _ a, h.roots.lt b⟩, h.roots.idem _⟩
  · obtain ⟨⟨a, b⟩, _⟩ := g.fields o f e1
    exact ⟨⟨h.roots.nn _ a, h.roots.lt b⟩, h.roots.idem _⟩
theorem Inv.inside {x y : Int} (hx : 0 ≤ x ∧ x < n) : Inside cs x y ↔ Path rt of (rt x) (rt y) := by
  constructor
  · intro hi
    induction hi with
    | one i => exact .one ((h.inner hR hx).1 i)
    | more i _ ih =>
      have e := (h.inner hR hx).1 i
      obtain ⟨c, hc, _, hk, l⟩ := i
      have := right_parts h hR hc
      rename_i a b d _
      have hb := this.2.1 (by omega)
      have : 0 ≤ a ∧ a < n := by
        have hr := h.edge_range hR ⟨h.roots.nn _ hx.1, h.roots.lt hx.2⟩ (h.roots.idem _) e
        by_cases hb0 : a < 0 ∨ n ≤ a
        · rw [h.roots.out a hb0] at hr; omega
        · omega
      exact .more e (ih this)
  · intro hp
    generalize hu : rt x = u at hp
    generalize hw : rt y = w at hp
    induction hp generalizing x with
    | one e => subst hu; subst hw; exact .one ((h.inner hR hx).2 e)
    | more e _ ih =>
      subst hu
      rename_i m z _
      have hr := h.edge_range hR ⟨h.roots.nn _ hx.1, h.roots.lt hx.2⟩ (h.roots.idem _) e
      rw [← hr.2] at e
      exact .more ((h.inner hR hx).2 e) (ih hr.1 hr.2 hw)

theorem Inv.has5 {v : Int} (hv : 0 ≤ v ∧ v < n) : Has cs 5 v ↔ (of (rt v)).ptr ≠ -1 := by
  constructor
  · rintro ⟨c, hc, e, hk⟩
    have d := (h.done c hc).ptr hk
    rw [h.cong.1 e] at d
    exact d.2.1
  · intro e
    obtain ⟨_, c, hc, hk, ha, _⟩ := (h.good (rt v) (h.roots.nn _ hv.1) (h.roots.lt hv.2) (h.roots.idem _)).ptr.resolve_left e
    exact ⟨c, hc, ha.trans (h.sound v).symm, hk⟩
theorem Inv.has7 {v : Int} (hv : 0 ≤ v ∧ v < n) : Has cs 7 v ↔ (of (rt v)).elem ≠ -1 := by
  constructor
  · rintro ⟨c, hc, e, hk⟩
    have d := (h.done c hc).elem hk
    rw [h.cong.1 e] at d
    exact d.1
  · intro e
    obtain ⟨_, c, hc, hk, ha, _⟩ := (h.good (rt v) (h.roots.nn _ hv.1) (h.roots.lt hv.2) (h.roots.idem _)).elem.resolve_left e
    exact ⟨c, hc, ha.trans (h.sound v).symm, hk⟩
theorem Inv.has6 {v : Int} (hv : 0 ≤ v ∧ v < n) : Has cs 6 v ↔ ∃ o f, (of (rt v)).fields o = some f := by
  constructor
  · rintro ⟨c, hc, e, hk⟩
    obtain ⟨f, d, _⟩ := (h.done c hc).field hk
    rw [h.cong.1 e] at d
    exact ⟨_, f, d⟩
  · rintro ⟨o, f, e⟩
    obtain ⟨_, c, hc, hk, _, ha, _⟩ := (h.good (rt v) (h.roots.nn _ hv.1) (h.roots.lt hv.2) (h.roots.idem _)).fields o f e
    exact ⟨c, hc, ha.trans (h.sound v).symm, hk⟩
theorem Inv.signed {v : Int} (hv : 0 ≤ v ∧ v < n) : Signed cs v ↔ (of (rt v)).sign ≠ 0 := by
  constructor
  · rintro ⟨s, c, hc, e, hk, _⟩
    have d := (h.done c hc).sign hk
    rw [h.cong.1 e] at d
    exact d.1
  · intro e
    have g := (h.good (rt v) (h.roots.nn _ hv.1) (h.roots.lt hv.2) (h.roots.idem _)).sign.resolve_left e
    exact ⟨_, g.cong (h.sound v).symm⟩
theorem Inv.sizes (hcl : clash = false) {v s : Int} (hv : 0 ≤ v ∧ v < n) : SizeOf cs v s ↔ ((of (rt v)).size ≠ 0 ∧ s = (of (rt v)).size) := by
  constructor
  · rintro ⟨c, hc, e, (⟨hk, rfl⟩ | ⟨hk, rfl⟩)⟩
    · have d := (h.done c hc).size hk
      rw [h.cong.1 e] at d
      exact ⟨d.1, (d.2 hcl).symm⟩
    · have d := ((h.done c hc).ptr hk).1
      rw [h.cong.1 e] at d
      exact ⟨d.1, (d.2 hcl).symm⟩
  · rintro ⟨e, rfl⟩
    exact ((h.good (rt v) (h.roots.nn _ hv.1) (h.roots.lt hv.2) (h.roots.idem _)).size.resolve_left e).cong (h.sound v).symm
theorem Inv.signs (hcl : clash = false) {v s : Int} (hv : 0 ≤ v ∧ v < n) : SignOf cs v s ↔ ((of (rt v)).sign ≠ 0 ∧ s = (of (rt v)).sign) := by
  constructor
  · rintro ⟨c, hc, e, hk, rfl⟩
    have d := (h.done c hc).sign hk
    rw [h.cong.1 e] at d
    exact ⟨d.1, (d.2 hcl).symm⟩
  · rintro ⟨e, rfl⟩
    exact ((h.good (rt v) (h.roots.nn _ hv.1) (h.roots.lt hv.2) (h.roots.idem _)).sign.resolve_left e).cong (h.sound v).symm
theorem Inv.size_pos {v : Int} (hv : 0 ≤ v ∧ v < n) (hs : (of (rt v)).size ≠ 0) : 1 ≤ (of (rt v)).size := by
  obtain ⟨c, hc, _, (⟨hk, e⟩ | ⟨_, e⟩)⟩ := (h.good (rt v) (h.roots.nn _ hv.1) (h.roots.lt hv.2) (h.roots.idem _)).size.resolve_left hs
  · have := (right_parts h hR hc).2.2.1 hk; omega
  · omega
theorem Inv.var_of {v : Int} (hv : (∃ s, SizeOf cs v s) ∨ Signed cs v ∨ (∃ k, Has cs k v) ∨ ∃ y, Inside cs v y) : 0 ≤ v ∧ v < n := by
  have key : ∀ c ∈ cs, Cong cs c.a v → 0 ≤ v ∧ v < n := fun c hc e => by
    have ha := (right_parts h hR hc).1
    have e' := h.cong.1 e
    have := h.roots.nn _ ha.1
    have := h.roots.lt ha.2
    by_cases hb0 : v < 0 ∨ n ≤ v
    · rw [h.roots.out v hb0] at e'; omega
    · omega
  rcases hv with ⟨s, c, hc, e, _⟩ | ⟨s, c, hc, e, _⟩ | ⟨k, c, hc, e, _⟩ | ⟨y, (⟨c, hc, e, _⟩ | ⟨⟨c, hc, e, _⟩, _⟩)⟩ <;> exact key c hc e

/-- What is contradictory, as the program finds it. -/
theorem Inv.contradictory : Clash cs ↔ (clash = true ∨ (∃ v, (0 ≤ v ∧ v < n) ∧ rt v = v ∧ Path rt of v v) ∨ ∃ v, (0 ≤ v ∧ v < n) ∧ rt v = v ∧ ¬ Fits rt of v) := by
  constructor
  · intro hC
    by_cases hcl : clash = true
    · exact .inl hcl
    · right
      have hcl : clash = false := by simpa using hcl
      have rng : ∀ {v : Int}, 0 ≤ v ∧ v < n → (0 ≤ rt v ∧ rt v < n) ∧ rt (rt v) = rt v := fun hv => ⟨⟨h.roots.nn _ hv.1, h.roots.lt hv.2⟩, h.roots.idem _⟩
      have bad : ∀ {v : Int}, 0 ≤ v ∧ v < n → (Fits rt of (rt v) → False) → ∃ v, (0 ≤ v ∧ v < n) ∧ rt v = v ∧ ¬ Fits rt of v := fun {v} hv hf => ⟨rt v, (rng hv).1, (rng hv).2, hf⟩
      cases hC with
      | size v s t a b e =>
        have hv := h.var_of hR (.inl ⟨_, a⟩)
        have a := (h.sizes hR hcl hv).1 a; have b := (h.sizes hR hcl hv).1 b; omega
      | sign v s t a b e =>
        have hv := h.var_of hR (.inr (.inl ⟨_, a⟩))
        have a := (h.signs hR hcl hv).1 a; have b := (h.signs hR hcl hv).1 b; omega
      | sp v a b => have hv := h.var_of hR (.inr (.inl a)); exact .inr (bad hv fun f => f.sp ⟨(h.signed hR hv).1 a, (h.has5 hR hv).1 b⟩)
      | sf v a b => have hv := h.var_of hR (.inr (.inl a)); exact .inr (bad hv fun f => f.sf ⟨(h.signed hR hv).1 a, (h.has6 hR hv).1 b⟩)
      | se v a b => have hv := h.var_of hR (.inr (.inl a)); exact .inr (bad hv fun f => f.se ⟨(h.signed hR hv).1 a, (h.has7 hR hv).1 b⟩)
      | pf v a b => have hv := h.var_of hR (.inr (.inr (.inl ⟨_, a⟩))); exact .inr (bad hv fun f => f.pf ⟨(h.has5 hR hv).1 a, (h.has6 hR hv).1 b⟩)
      | pe v a b => have hv := h.var_of hR (.inr (.inr (.inl ⟨_, a⟩))); exact .inr (bad hv fun f => f.pe ⟨(h.has5 hR hv).1 a, (h.has7 hR hv).1 b⟩)
      | fe v a b => have hv := h.var_of hR (.inr (.inr (.inl ⟨_, a⟩))); exact .inr (bad hv fun f => f.ef ⟨(h.has7 hR hv).1 b, (h.has6 hR hv).1 a⟩)
      | field s k c hc hk a b e =>
        have rp := right_parts h hR hc
        have hb := rp.2.1 (by omega)
        obtain ⟨s1, s2⟩ := (h.sizes hR hcl rp.1).1 a
        refine .inr (bad rp.1 fun f => ?_)
        obtain ⟨u, d, g⟩ := (h.done c hc).field hk
        have := f.field s1 _ _ d
        rw [← g.shut h.roots.idem] at this
        have hneed : k ≤ need of (rt c.b) := by
          unfold need
          rcases b with b | b
          · omega
          · have := (h.sizes hR hcl hb).1 b; omega
        omega
      | elem s k c hc hk a b e =>
        have rp := right_parts h hR hc
        have hb := rp.2.1 (by omega)
        obtain ⟨s1, s2⟩ := (h.sizes hR hcl rp.1).1 a
        refine .inr (bad rp.1 fun f => ?_)
        obtain ⟨d1, d2, d3⟩ := (h.done c hc).elem hk
        have := f.elem s1 d1
        rw [← d2.shut h.roots.idem] at this
        have hneed : k ≤ need of (rt c.b) := by
          unfold need
          rcases b with b | b
          · omega
          · have := (h.sizes hR hcl hb).1 b; omega
        have hn1 := (rp.2.2.2.2 hk).1
        have h1 : c.n * k ≤ c.n * need of (rt c.b) := Int.mul_le_mul_of_nonneg_left hneed (by omega)
        have h2 : c.n * need of (rt c.b) ≤ (of (rt c.a)).count * need of (rt c.b) := Int.mul_le_mul_of_nonneg_right d3 (by unfold need; omega)
        omega
      | loop v a =>
        have hv := h.var_of hR (.inr (.inr (.inr ⟨_, a⟩)))
        exact .inl ⟨rt v, (rng hv).1, (rng hv).2, (h.inside hR hv).1 a⟩
  · rintro (hcl | ⟨v, hv, hr, hp⟩ | ⟨v, hv, hr, hf⟩)
    · exact h.clash hcl
    · rw [← hr] at hp; exact .loop v ((h.inside hR hv).2 hp)
    · by_cases hC : Clash cs
      · exact hC
      · exfalso
        have hcl : clash = false := by
          cases e : clash with
          | false => rfl
          | true => exact absurd (h.clash e) hC
        apply hf
        have key : ∀ {f : Int}, 0 ≤ f ∧ f < n → need of (rt f) = 1 ∨ SizeOf cs f (need of (rt f)) := fun {f} hf => by
          by_cases e : (of (rt f)).size = 0
          · left; unfold need; omega
          · right
            have := h.size_pos hR hf e
            have e' : need of (rt f) = (of (rt f)).size := by unfold need; omega
            rw [e']; exact (h.sizes hR hcl hf).2 ⟨e, rfl⟩
        have e1 := h.signed hR hv
        have e2 := h.has5 hR hv
        have e3 := h.has6 hR hv
        have e4 := h.has7 hR hv
        have e5 := fun s => h.sizes hR hcl (s := s) hv
        have g := h.good v hv.1 hv.2 hr
        rw [hr] at e1 e2 e3 e4 e5
        refine ⟨fun ⟨a, b⟩ => hC (.sp v (e1.2 a) (e2.2 b)), fun ⟨a, b⟩ => hC (.se v (e1.2 a) (e4.2 b)), fun ⟨a, b⟩ => hC (.sf v (e1.2 a) (e3.2 b)), fun ⟨a, b⟩ => hC (.pe v (e2.2 a) (e4.2 b)),
          fun ⟨a, b⟩ => hC (.pf v (e2.2 a) (e3.2 b)), fun ⟨a, b⟩ => hC (.fe v (e3.2 b) (e4.2 a)), fun hs o f hof => ?_, fun hs he => ?_⟩
        · refine Classical.byContradiction fun hlt => hC ?_
          obtain ⟨hfr, c, hc, hk, ho, ha, hb⟩ := g.fields o f hof
          refine .field (of v).size (need of (rt f)) c hc hk (((e5 _).2 ⟨hs, rfl⟩).cong ha.symm) ?_ (by omega)
          exact (key hfr).imp id (·.cong hb.symm)
        · refine Classical.byContradiction fun hlt => hC ?_
          obtain ⟨hfr, c0, hc0, hk0, ha0, hb0⟩ := g.elem.resolve_left he
          obtain ⟨_, c, hc, hk, ha, hn⟩ := g.count.resolve_left (fun q => he q.2)
          have hb : Cong cs (of v).elem c.b := hb0.symm.trans (.step hc0 hc ⟨by omega, .inr (.inl hk0)⟩ (ha0.trans ha.symm))
          refine .elem (of v).size (need of (rt (of v).elem)) c hc hk (((e5 _).2 ⟨hs, rfl⟩).cong ha.symm) ?_ (by rw [hn]; omega)
          exact (key hfr).imp id (·.cong hb)

/-- What the program says of a variable is so. -/
theorem Inv.desc (hC : ¬ Clash cs) {v : Int} (hv : 0 ≤ v ∧ v < n) {r : Row} (h1 : r.cls = rt v) (h2 : r.size = (of (rt v)).size) (h3 : r.sign = (of (rt v)).sign) (h4 : r.ptr = if (of (rt v)).ptr = -1 then -1 else rt (of (rt v)).ptr)
    (h5 : r.elem = if (of (rt v)).elem = -1 then -1 else rt (of (rt v)).elem) (h6 : r.count = (of (rt v)).count) (h7 : r.fields.Pairwise fun x y => x.1 < y.1) (h8 : ∀ o f, (o, f) ∈ r.fields ↔ ∃ g, (of (rt v)).fields o = some g ∧ f = rt g) : Desc cs v r := by
  have hcl : clash = false := by
    cases e : clash with
    | false => rfl
    | true => exact absurd (h.clash e) hC
  have g := h.good (rt v) (h.roots.nn _ hv.1) (h.roots.lt hv.2) (h.roots.idem _)
  have hsv := h.sound v
  refine ⟨by rw [h1]; exact h.rep hv.1, ?_, ?_, ?_, ?_, ?_, h7, ?_⟩
  · rw [h2]
    by_cases e : (of (rt v)).size = 0
    · exact .inl ⟨e, fun s hs => ((h.sizes hR hcl hv).1 hs).1 e⟩
    · exact .inr ((h.sizes hR hcl hv).2 ⟨e, rfl⟩)
  · rw [h3]
    by_cases e : (of (rt v)).sign = 0
    · exact .inl ⟨e, fun s hs => ((h.signs hR hcl hv).1 hs).1 e⟩
    · exact .inr ((h.signs hR hcl hv).2 ⟨e, rfl⟩)
  · rw [h4]
    by_cases e : (of (rt v)).ptr = -1
    · exact .inl ⟨by rw [if_pos e], fun q => (h.has5 hR hv).1 q e⟩
    · obtain ⟨b, c, hc, hk, ha, hb⟩ := g.ptr.resolve_left e
      rw [if_neg e]
      exact .inr ⟨c, hc, hk, ha.trans hsv.symm, (h.rep b.1).cong hb.symm⟩
  · rw [h5]
    by_cases e : (of (rt v)).elem = -1
    · exact .inl ⟨by rw [if_pos e], fun q => (h.has7 hR hv).1 q e⟩
    · obtain ⟨b, c, hc, hk, ha, hb⟩ := g.elem.resolve_left e
      rw [if_neg e]
      exact .inr ⟨c, hc, hk, ha.trans hsv.symm, (h.rep b.1).cong hb.symm⟩
  · rw [h6]
    rcases g.count with ⟨e1, e2⟩ | ⟨⟨e1, _⟩, c, hc, hk, ha, hn⟩
    · exact .inl ⟨e1, fun q => (h.has7 hR hv).1 q e2⟩
    · refine .inr ⟨⟨c, hc, hk, ha.trans hsv.symm, hn⟩, fun d hd hk e => ?_⟩
      have := ((h.done d hd).elem hk).2.2
      rwa [h.cong.1 e] at this
  · intro o f
    rw [h8]
    constructor
    · rintro ⟨q, e, rfl⟩
      obtain ⟨b, c, hc, hk, ho, ha, hb⟩ := g.fields o q e
      exact ⟨c, hc, hk, ha.trans hsv.symm, ho, (h.rep b.1).cong hb.symm⟩
    · rintro ⟨c, hc, hk, e, rfl, hrep⟩
      obtain ⟨q, d1, d2⟩ := (h.done c hc).field hk
      rw [h.cong.1 e] at d1
      refine ⟨q, d1, ?_⟩
      have hb := (right_parts h hR hc).2.1 (by omega)
      rw [← d2.shut h.roots.idem]
      exact hrep.unique (h.rep hb.1)
end

theorem Inv.start (n : Int) (cs : List Con) : Inv n cs [] (fun v => v) (fun _ => ⟨0, 0, -1, -1, 0, fun _ => none⟩) false [] where
  roots := ⟨fun _ => rfl, fun _ => Int.le_refl _, fun _ h => h, fun _ _ => rfl⟩
  sound v := .refl v
  pend p hp := by simp at hp
  good r _ _ _ := ⟨.inl rfl, .inl rfl, .inl rfl, .inl rfl, .inl ⟨rfl, rfl⟩, fun _ _ e => by simp at e⟩
  done c hc := by simp at hc
  clash e := by simp at e
end
end Go.Proofs.YtepmgnhblegiiaaDoor

/- The search for a class that contains itself, as plain mathematics. No condition. -/
namespace Go.Proofs.YtepmgnhblegiiaaDoor

section
variable {rt : Int → Int} {of : Int → Cls}
/-- What is done leads to what is done alone, and not to itself. -/
def Closed (rt : Int → Int) (of : Int → Cls) (σ : Int → Int) : Prop := ∀ u, σ u = 2 → (∀ y, Edge rt of u y → σ y = 2) ∧ ¬ Path rt of u u
def Open (rt : Int → Int) (of : Int → Cls) (σ : Int → Int) (v : Int) : Prop := ∀ u, σ u = 1 → Path rt of u v
/-- σ' is σ with more done. -/
def More (σ σ' : Int → Int) : Prop := ∀ u, σ' u = σ u ∨ (σ u = 0 ∧ σ' u = 2)
def setS (σ : Int → Int) (v x : Int) (u : Int) : Int := if u = v then x else σ u

theorem More.refl (σ : Int → Int) : More σ σ := fun _ => .inl rfl
theorem More.trans {σ τ υ : Int → Int} (h : More σ τ) (k : More τ υ) : More σ υ := fun u => by
  have := h u; have := k u; omega
theorem Closed.path {σ : Int → Int} (h : Closed rt of σ) {u v : Int} (hu : σ u = 2) (hp : Path rt of u v) : σ v = 2 := by
  induction hp with
  | one e => exact (h _ hu).1 _ e
  | more e _ ih => exact ih ((h _ hu).1 _ e)

theorem dfs_enter {σ : Int → Int} {v : Int} (h0 : σ v = 0) (hc : Closed rt of σ) : Closed rt of (setS σ v 1) := fun u hu => by
  have huv : u ≠ v := by rintro rfl; simp [setS] at hu
  have hu' : σ u = 2 := by simpa [setS, huv] using hu
  refine ⟨fun y hy => ?_, (hc u hu').2⟩
  have := (hc u hu').1 y hy
  have hyv : y ≠ v := by rintro rfl; omega
  simpa [setS, hyv] using this
theorem dfs_next {σ τ : Int → Int} {v y : Int} (ho : Open rt of σ v) (hm : More (setS σ v 1) τ) (hy : Edge rt of v y) : Open rt of τ y := fun u hu => by
  have h1 := hm u
  by_cases huv : u = v
  · subst huv; exact .one hy
  · simp only [setS, if_neg huv] at h1
    have : σ u = 1 := by omega
    exact (ho u this).trans (.one hy)
theorem dfs_leave {σ τ : Int → Int} {v : Int} (h0 : σ v = 0) (hm : More (setS σ v 1) τ) (hc : Closed rt of τ) (hall : ∀ y, Edge rt of v y → τ y = 2) : Closed rt of (setS τ v 2) ∧ More σ (setS τ v 2) ∧ setS τ v 2 v = 2 := by
  have hv1 : τ v = 1 := by
    have := hm v
    simp only [setS, if_pos] at this
    omega
  refine ⟨fun u hu => ?_, fun u => ?_, by simp [setS]⟩
  · by_cases huv : u = v
    · subst huv
      refine ⟨fun y hy => ?_, fun hp => ?_⟩
      · have := hall y hy
        simp only [setS]; split <;> omega
      · have : ∀ x, Path rt of u x → τ x = 2 := fun x hx => by
          cases hx with
          | one e => exact hall _ e
          | more e k => exact hc.path (hall _ e) k
        have := this u hp
        omega
    · have hu' : τ u = 2 := by simpa [setS, huv] using hu
      refine ⟨fun y hy => ?_, (hc u hu').2⟩
      have := (hc u hu').1 y hy
      simp only [setS]; split <;> omega
  · have := hm u
    by_cases huv : u = v
    · subst huv; right; exact ⟨h0, by simp [setS]⟩
    · simp only [setS, if_neg huv] at this ⊢; exact this
end

/-- The number of places that are not yet begun. -/
def fresh (n : Nat) (σ : Int → Int) : Nat := ((List.range n).filter fun k : Nat => decide (σ (k : Int) = 0)).length
theorem fresh_le {n : Nat} {σ τ : Int → Int} (h : ∀ k : Nat, τ k = 0 → σ k = 0) : fresh n τ ≤ fresh n σ := by
  unfold fresh
  generalize List.range n = l
  induction l with
  | nil => simp
  | cons x l ih =>
    simp only [List.filter_cons]
    have := h x
    by_cases h1 : τ (x : Int) = 0
    · simp [h1, this h1]; exact ih
    · have e1 : (decide (τ (x : Int) = 0)) = false := by simpa using h1
      rw [e1]
      by_cases h2 : σ (x : Int) = 0
      · simp [h2]; omega
      · simpa [h2] using ih
theorem fresh_lt {n : Nat} {σ : Int → Int} {v : Nat} (hv : v < n) (h0 : σ v = 0) (x : Int) (hx : x ≠ 0) : fresh n (setS σ v x) < fresh n σ := by
  have key : ∀ l : List Nat, ((l.filter fun k : Nat => decide (setS σ v x (k : Int) = 0)).length ≤ (l.filter fun k : Nat => decide (σ (k : Int) = 0)).length) ∧ (v ∈ l → (l.filter fun k : Nat => decide (setS σ v x (k : Int) = 0)).length < (l.filter fun k : Nat => decide (σ (k : Int) = 0)).length) := by
    intro l
    induction l with
    | nil => simp
    | cons y l ih =>
      simp only [List.filter_cons]
      by_cases hy : y = v
      · subst hy
        have e1 : setS σ y x y = x := by simp [setS]
        simp only [e1, hx, h0, decide_false, decide_true, Bool.false_eq_true, ↓reduceIte, List.length_cons]
        omega
      · have e1 : setS σ v x y = σ y := by
          unfold setS; rw [if_neg]; omega
        rw [e1]
        have hm : v ∈ y :: l → v ∈ l := fun h => by
          rcases List.mem_cons.1 h with h | h
          · exact absurd h.symm hy
          · exact h
        split
        · simp only [List.length_cons]
          exact ⟨by omega, fun h => by have := ih.2 (hm h); omega⟩
        · exact ⟨ih.1, fun h => ih.2 (hm h)⟩
  exact (key (List.range n)).2 (List.mem_range.2 hv)
end Go.Proofs.YtepmgnhblegiiaaDoor

/- The number of classes, as plain mathematics. No condition. -/
namespace Go.Proofs.YtepmgnhblegiiaaDoor

/-- The number of roots. -/
def rootsN (n : Nat) (rt : Int → Int) : Nat := ((List.range n).filter fun k : Nat => decide (rt (k : Int) = (k : Int))).length
theorem count_lt {p q : Nat → Bool} {n x : Nat} (h : ∀ k, q k = true → p k = true) (hx : x < n) (hp : p x = true) (hq : q x = false) : ((List.range n).filter q).length < ((List.range n).filter p).length := by
  have key : ∀ l : List Nat, (l.filter q).length ≤ (l.filter p).length ∧ (x ∈ l → (l.filter q).length < (l.filter p).length) := by
    intro l
    induction l with
    | nil => simp
    | cons y l ih =>
      by_cases h1 : q y = true
      · have h2 := h y h1
        rw [List.filter_cons_of_pos h1, List.filter_cons_of_pos h2]
        refine ⟨by simp; exact ih.1, fun hm => ?_⟩
        rcases List.mem_cons.1 hm with e | e
        · subst e; rw [hq] at h1; cases h1
        · simp; exact ih.2 e
      · by_cases h2 : p y = true
        · rw [List.filter_cons_of_neg h1, List.filter_cons_of_pos h2]
          simp only [List.length_cons]
          exact ⟨by omega, fun _ => by omega⟩
        · rw [List.filter_cons_of_neg h1, List.filter_cons_of_neg h2]
          refine ⟨ih.1, fun hm => ?_⟩
          rcases List.mem_cons.1 hm with e | e
          · subst e; exact absurd hp h2
          · exact ih.2 e
  exact (key (List.range n)).2 (List.mem_range.2 hx)
theorem rootsN_join {n : Nat} {rt : Int → Int} {lo hi : Int} (hlo : rt lo = lo) (hhi : rt hi = hi) (h0 : 0 ≤ hi) (hn : hi < n) (hne : lo ≠ hi) : rootsN n (joinRt rt lo hi) < rootsN n rt := by
  unfold rootsN
  refine count_lt (x := hi.toNat) (fun k hk => ?_) (by omega) ?_ ?_
  · simp only [decide_eq_true_eq] at hk ⊢
    unfold joinRt at hk
    split at hk
    · rename_i e
      rw [← hk, hlo]
    · exact hk
  · simp only [decide_eq_true_eq]
    have : ((hi.toNat : Nat) : Int) = hi := by omega
    rw [this]; exact hhi
  · have : ((hi.toNat : Nat) : Int) = hi := by omega
    simp only [decide_eq_false_iff_not, this]
    unfold joinRt
    rw [if_pos hhi]
    exact hne
theorem rootsN_le (n : Nat) (rt : Int → Int) : rootsN n rt ≤ n := by
  unfold rootsN
  refine Nat.le_trans (List.length_filter_le _ _) (by simp)
end Go.Proofs.YtepmgnhblegiiaaDoor
