/- What a solution depends on: the set of the constraints; more constraints. Plain law. No condition. -/
import Derived.Test.YtepmgnhblegiiaaDoorPlJ
set_option linter.all false
namespace Go.Proofs.YtepmgnhblegiiaaDoor
open Go Go.RowKit Go.Maps

/-- The same constraints, in whatever order and number. -/
def SameC (cs ds : List Con) : Prop := ∀ c, c ∈ cs ↔ c ∈ ds
theorem SameC.symm {cs ds : List Con} (h : SameC cs ds) : SameC ds cs := fun c => (h c).symm
theorem SameC.sub {cs ds : List Con} (h : SameC cs ds) : Sub cs ds := fun c hc => (h c).1 hc
theorem SameC.cong {cs ds : List Con} (h : SameC cs ds) {u v : Int} : Cong cs u v ↔ Cong ds u v := ⟨fun e => e.mono h.sub, fun e => e.mono h.symm.sub⟩
/-- Two lists of constraints that mean the same: one's constraints are among the other's, but for those that are implied. -/
structure Alike (cs ds : List Con) : Prop where
  sub : Sub cs ds
  cong : ∀ u v, Cong ds u v → Cong cs u v
  rest : ∀ c ∈ ds, c ∈ cs ∨ c.kind = 1
theorem SameC.alike {cs ds : List Con} (h : SameC cs ds) : Alike cs ds := ⟨h.sub, fun _ _ e => e.mono h.symm.sub, fun c hc => .inl ((h c).2 hc)⟩
section
variable {cs ds : List Con} (h : Alike cs ds)
include h
theorem Alike.size {v s : Int} (e : SizeOf ds v s) : SizeOf cs v s := by
  obtain ⟨c, hc, hk, hs⟩ := e
  rcases h.rest c hc with hc | hc
  · exact ⟨c, hc, h.cong _ _ hk, hs⟩
  · rcases hs with hs | hs <;> omega
theorem Alike.sign {v s : Int} (e : SignOf ds v s) : SignOf cs v s := by
  obtain ⟨c, hc, hk, hs, he⟩ := e
  rcases h.rest c hc with hc | hc
  · exact ⟨c, hc, h.cong _ _ hk, hs, he⟩
  · omega
theorem Alike.has {k v : Int} (hk1 : k ≠ 1) (e : Has ds k v) : Has cs k v := by
  obtain ⟨c, hc, hk, hs⟩ := e
  rcases h.rest c hc with hc | hc
  · exact ⟨c, hc, h.cong _ _ hk, hs⟩
  · omega
theorem Alike.signed {v : Int} (e : Signed ds v) : Signed cs v := by
  obtain ⟨s, hs⟩ := e
  exact ⟨s, h.sign hs⟩
theorem Alike.inner {x y : Int} (e : Inner ds x y) : Inner cs x y := by
  obtain ⟨c, hc, hk, hs, hb⟩ := e
  rcases h.rest c hc with hc | hc
  · exact ⟨c, hc, h.cong _ _ hk, hs, h.cong _ _ hb⟩
  · omega
theorem Alike.inside {x y : Int} (e : Inside ds x y) : Inside cs x y := by
  induction e with
  | one i => exact .one (h.inner i)
  | more i _ ih => exact .more (h.inner i) ih
theorem Alike.clash (e : Clash ds) : Clash cs := by
  cases e with
  | size v s t a b e => exact .size v s t (h.size a) (h.size b) e
  | sign v s t a b e => exact .sign v s t (h.sign a) (h.sign b) e
  | sp v a b => exact .sp v (h.signed a) (h.has (by omega) b)
  | sf v a b => exact .sf v (h.signed a) (h.has (by omega) b)
  | se v a b => exact .se v (h.signed a) (h.has (by omega) b)
  | pf v a b => exact .pf v (h.has (by omega) a) (h.has (by omega) b)
  | pe v a b => exact .pe v (h.has (by omega) a) (h.has (by omega) b)
  | fe v a b => exact .fe v (h.has (by omega) a) (h.has (by omega) b)
  | field s k c a b e f g =>
    rcases h.rest c a with a | a
    · exact .field s k c a b (h.size e) (f.imp id (fun f => h.size f)) g
    · omega
  | elem s k c a b e f g =>
    rcases h.rest c a with a | a
    · exact .elem s k c a b (h.size e) (f.imp id (fun f => h.size f)) g
    · omega
  | loop v a => exact .loop v (h.inside a)
theorem Alike.rep {v r : Int} : IsRep ds v r ↔ IsRep cs v r :=
  ⟨fun e => ⟨h.cong _ _ e.1, e.2.1, fun u hu hc => e.2.2 u hu (hc.mono h.sub)⟩, fun e => ⟨e.1.mono h.sub, e.2.1, fun u hu hc => e.2.2 u hu (h.cong _ _ hc)⟩⟩
theorem Alike.desc {v : Int} {r : Row} (e : Desc ds v r) : Desc cs v r where
  cls := (h.rep).1 e.cls
  size := by
    rcases e.size with ⟨a, b⟩ | a
    · exact .inl ⟨a, fun s hs => b s (hs.mono h.sub)⟩
    · exact .inr (h.size a)
  sign := by
    rcases e.sign with ⟨a, b⟩ | a
    · exact .inl ⟨a, fun s hs => b s (hs.mono h.sub)⟩
    · exact .inr (h.sign a)
  ptr := by
    rcases e.ptr with ⟨a, b⟩ | ⟨c, hc, hk, hv, hr⟩
    · exact .inl ⟨a, fun q => b (q.mono h.sub)⟩
    · rcases h.rest c hc with hc | hc
      · exact .inr ⟨c, hc, hk, h.cong _ _ hv, (h.rep).1 hr⟩
      · omega
  elem := by
    rcases e.elem with ⟨a, b⟩ | ⟨c, hc, hk, hv, hr⟩
    · exact .inl ⟨a, fun q => b (q.mono h.sub)⟩
    · rcases h.rest c hc with hc | hc
      · exact .inr ⟨c, hc, hk, h.cong _ _ hv, (h.rep).1 hr⟩
      · omega
  count := by
    rcases e.count with ⟨a, b⟩ | ⟨⟨c, hc, hk, hv, hn⟩, hm⟩
    · exact .inl ⟨a, fun q => b (q.mono h.sub)⟩
    · rcases h.rest c hc with hc | hc
      · exact .inr ⟨⟨c, hc, hk, h.cong _ _ hv, hn⟩, fun d hd hk2 hv2 => hm d (h.sub d hd) hk2 (hv2.mono h.sub)⟩
      · omega
  rising := e.rising
  fields o f := by
    rw [e.fields o f]
    constructor
    · rintro ⟨c, hc, hk, hv, hn, hr⟩
      rcases h.rest c hc with hc | hc
      · exact ⟨c, hc, hk, h.cong _ _ hv, hn, (h.rep).1 hr⟩
      · omega
    · rintro ⟨c, hc, hk, hv, hn, hr⟩
      exact ⟨c, h.sub c hc, hk, hv.mono h.sub, hn, (h.rep).2 hr⟩
end
/-- Solutions of what means the same are the same. -/
theorem rows_same {n : Nat} {cs ds : List Con} (h : Alike cs ds) (hn : ¬ Clash cs) {ra rb : List Row} (hla : ra.length = n) (hlb : rb.length = n) (ha : ∀ (v : Nat) (r : Row), ra[v]? = some r → Desc cs v r) (hb : ∀ (v : Nat) (r : Row), rb[v]? = some r → Desc ds v r) : ra = rb := by
  apply List.ext_getElem?
  intro v
  rcases Nat.lt_or_ge v n with hv | hv
  · have e1 : ra[v]? = some (ra[v]'(by omega)) := List.getElem?_eq_getElem (by omega)
    have e2 : rb[v]? = some (rb[v]'(by omega)) := List.getElem?_eq_getElem (by omega)
    rw [e1, e2]
    exact congrArg some ((ha v _ e1).unique hn (h.desc (hb v _ e2)))
  · rw [List.getElem?_eq_none (by omega), List.getElem?_eq_none (by omega)]
/-- Constraints of kind 1 between variables of one class are implied. -/
theorem alike_more {cs es : List Con} (he : ∀ c ∈ es, c.kind = 1 ∧ Cong cs c.a c.b) : Alike cs (cs ++ es) where
  sub c hc := List.mem_append_left _ hc
  cong u v h := by
    refine Cong.least (cs := cs ++ es) (fun u v => Cong cs u v) (fun v => .refl v) (fun h => h.symm) (fun h k => h.trans k) (fun c hc hk => ?_) (fun c hc d hd ht e => ?_) h
    · rcases List.mem_append.1 hc with hc | hc
      · exact .same hc hk
      · exact (he c hc).2
    · have hk : c.kind ≠ 1 := by have := ht.2; omega
      have hk2 : d.kind ≠ 1 := by have := ht.1; omega
      rcases List.mem_append.1 hc with hc | hc
      · rcases List.mem_append.1 hd with hd | hd
        · exact .step hc hd ht e
        · exact absurd (he d hd).1 hk2
      · exact absurd (he c hc).1 hk
  rest c hc := by
    rcases List.mem_append.1 hc with hc | hc
    · exact .inl hc
    · exact .inr (he c hc).1
/-- The class of a class is itself. -/
theorem IsRep.self {cs : List Con} {v r : Int} (h : IsRep cs v r) : IsRep cs r r := ⟨.refl _, h.2.1, fun u hu hc => h.2.2 u hu (hc.trans h.1)⟩
theorem Desc.congv {cs : List Con} {u v : Int} {r : Row} (h : Desc cs u r) (e : Cong cs u v) : Desc cs v r where
  cls := h.cls.cong e
  size := h.size.imp (fun ⟨a, b⟩ => ⟨a, fun s hs => b s (hs.cong e.symm)⟩) (·.cong e)
  sign := h.sign.imp (fun ⟨a, b⟩ => ⟨a, fun s hs => b s (hs.cong e.symm)⟩) (·.cong e)
  ptr := h.ptr.imp (fun ⟨a, b⟩ => ⟨a, fun q => b (q.cong e.symm)⟩) (fun ⟨c, hc, hk, hv, hr⟩ => ⟨c, hc, hk, hv.trans e, hr⟩)
  elem := h.elem.imp (fun ⟨a, b⟩ => ⟨a, fun q => b (q.cong e.symm)⟩) (fun ⟨c, hc, hk, hv, hr⟩ => ⟨c, hc, hk, hv.trans e, hr⟩)
  count := h.count.imp (fun ⟨a, b⟩ => ⟨a, fun q => b (q.cong e.symm)⟩) (fun ⟨⟨c, hc, hk, hv, hn⟩, hm⟩ => ⟨⟨c, hc, hk, hv.trans e, hn⟩, fun d hd hk2 hv2 => hm d hd hk2 (hv2.trans e.symm)⟩)
  rising := h.rising
  fields o f := by
    rw [h.fields o f]
    exact ⟨fun ⟨c, hc, hk, hv, hn, hr⟩ => ⟨c, hc, hk, hv.trans e, hn, hr⟩, fun ⟨c, hc, hk, hv, hn, hr⟩ => ⟨c, hc, hk, hv.trans e.symm, hn, hr⟩⟩

/-! ### More constraints -/
section
variable {cs ds : List Con} (h : Sub cs ds) (hn : ¬ Clash ds)
include h hn
theorem Desc.grow_cls {u v : Int} {r y z : Row} (hr : Desc cs v r) (hy : Desc ds v y) (hz : Desc ds r.cls z) : z.cls = y.cls := hz.cls.unique' hy.cls (hr.cls.1.mono h)
theorem Desc.grow_size {v : Int} {r y : Row} (hr : Desc cs v r) (hy : Desc ds v y) (h0 : r.size ≠ 0) : r.size = y.size := by
  have hs : SizeOf ds v r.size := by
    rcases hr.size with ⟨a, -⟩ | a
    · exact absurd a h0
    · exact a.mono h
  rcases hy.size with ⟨-, b⟩ | b
  · exact absurd hs (b _)
  · exact Classical.byContradiction fun e => hn (.size v _ _ hs b e)
theorem Desc.grow_sign {v : Int} {r y : Row} (hr : Desc cs v r) (hy : Desc ds v y) (h0 : r.sign ≠ 0) : r.sign = y.sign := by
  have hs : SignOf ds v r.sign := by
    rcases hr.sign with ⟨a, -⟩ | a
    · exact absurd a h0
    · exact a.mono h
  rcases hy.sign with ⟨-, b⟩ | b
  · exact absurd hs (b _)
  · exact Classical.byContradiction fun e => hn (.sign v _ _ hs b e)
omit hn in
theorem Desc.grow_count {v : Int} {r y : Row} (hr : Desc cs v r) (hy : Desc ds v y) (h1 : ∀ c ∈ ds, c.kind = 7 → 0 ≤ c.n) : r.count ≤ y.count := by
  have hy0 : 0 ≤ y.count := by
    rcases hy.count with ⟨a, -⟩ | ⟨⟨c, hc, hk, -, hcn⟩, -⟩
    · omega
    · have := h1 c hc hk; omega
  rcases hr.count with ⟨a, -⟩ | ⟨⟨c, hc, hk, hv, hcn⟩, -⟩
  · omega
  · rcases hy.count with ⟨-, b⟩ | ⟨-, b⟩
    · exact absurd ⟨c, h c hc, hv.mono h, hk⟩ b
    · have := b c (h c hc) hk (hv.mono h); omega
omit hn in
theorem Desc.grow_ptr {v : Int} {r y z : Row} (hr : Desc cs v r) (hy : Desc ds v y) (hz : Desc ds r.ptr z) (h0 : r.ptr ≠ -1) : y.ptr = z.cls := by
  rcases hr.ptr with ⟨a, -⟩ | ⟨c, hc, hk, hv, hrep⟩
  · exact absurd a h0
  · rcases hy.ptr with ⟨-, b⟩ | ⟨d, hd, hk2, hv2, hrep2⟩
    · exact absurd ⟨c, h c hc, hv.mono h, hk⟩ b
    · have e : Cong ds d.b c.b := .step hd (h c hc) ⟨by omega, .inl hk2⟩ (hv2.trans (hv.mono h).symm)
      exact hrep2.unique' hz.cls (e.trans (hrep.1.mono h).symm)
omit hn in
theorem Desc.grow_elem {v : Int} {r y z : Row} (hr : Desc cs v r) (hy : Desc ds v y) (hz : Desc ds r.elem z) (h0 : r.elem ≠ -1) : y.elem = z.cls := by
  rcases hr.elem with ⟨a, -⟩ | ⟨c, hc, hk, hv, hrep⟩
  · exact absurd a h0
  · rcases hy.elem with ⟨-, b⟩ | ⟨d, hd, hk2, hv2, hrep2⟩
    · exact absurd ⟨c, h c hc, hv.mono h, hk⟩ b
    · have e : Cong ds d.b c.b := .step hd (h c hc) ⟨by omega, .inr (.inl hk2)⟩ (hv2.trans (hv.mono h).symm)
      exact hrep2.unique' hz.cls (e.trans (hrep.1.mono h).symm)
end
theorem few_offs {l m : List (Int × Int)} (hl : l.Pairwise fun x y => x.1 < y.1) (h : ∀ q ∈ l, ∃ f, (q.1, f) ∈ m) : l.length ≤ m.length := by
  have h1 : (l.map (·.1)).Nodup := List.Pairwise.imp (R := fun a b => a < b) (fun h => by omega) (List.pairwise_map.2 hl)
  have h2 : (l.map (·.1)) ⊆ m.map (·.1) := fun x hx => by
    obtain ⟨q, hq, rfl⟩ := List.mem_map.1 hx
    obtain ⟨f, hf⟩ := h q hq
    exact List.mem_map.2 ⟨_, hf, rfl⟩
  have := h1.length_le_of_subset h2
  simpa using this
theorem Desc.rep_of {cs : List Con} {n : Nat} {v : Int} {r : Row} (hr : Desc cs v r) (hv : 0 ≤ v ∧ v < n) : 0 ≤ r.cls ∧ r.cls ≤ v := ⟨hr.cls.2.1, hr.cls.2.2 v hv.1 (.refl _)⟩
theorem Desc.grow_len {cs ds : List Con} (h : Sub cs ds) {n : Nat} (hR : ∀ c ∈ ds, rightS n c = true) {v : Int} {r y : Row} (hr : Desc cs v r) (hy : Desc ds v y) (hrep : ∀ u : Nat, u < n → ∃ x, IsRep ds u x) : r.fields.length ≤ y.fields.length := by
  refine few_offs hr.rising fun q hq => ?_
  obtain ⟨c, hc, hk, hv, ho, -⟩ := (hr.fields q.1 q.2).1 hq
  have hb := right_b (hR c (h c hc)) (by omega)
  obtain ⟨x, hx⟩ := hrep c.b.toNat (by omega)
  rw [Int.toNat_of_nonneg hb.1] at hx
  exact ⟨x, (hy.fields q.1 x).2 ⟨c, h c hc, hk, hv.mono h, ho, hx⟩⟩
end Go.Proofs.YtepmgnhblegiiaaDoor
