/- The reference's classes: what the loop keeps. Plain law. No condition. -/
import Derived.Test.YtepmgnhblegiiaaDoorRfJ
import Derived.Test.YtepmgnhblegiiaaDoorSlvA
set_option linter.all false
namespace Go.Proofs.YtepmgnhblegiiaaDoor
open Go Go.RowKit Go.Maps

/-- What the rows of classes keep. -/
structure ClaI (n : Nat) (cs : List Con) (cl : Nat → Int) : Prop where
  nn : ∀ v, v < n → 0 ≤ cl v
  le : ∀ v, v < n → cl v ≤ v
  idem : ∀ v, v < n → cl (cl v).toNat = cl v
  sound : ∀ v : Nat, v < n → Cong cs v (cl v)
theorem ClaI.start (n : Nat) (cs : List Con) : ClaI n cs (fun v => (v : Int)) where
  nn v _ := by omega
  le v _ := Int.le_refl _
  idem v _ := by simp
  sound v _ := .refl _
theorem ClaI.merge {n : Nat} {cs : List Con} {cl : Nat → Int} (h : ClaI n cs cl) {x y : Int} (hx : 0 ≤ x ∧ x < y) (hy : y < n) (rx : cl x.toNat = x) (ry : cl y.toNat = y) (hxy : Cong cs y x) : ClaI n cs (mergeK cl y x) where
  nn v hv := by unfold mergeK; split; exact hx.1; exact h.nn v hv
  le v hv := by
    have := h.le v hv
    unfold mergeK; split
    · omega
    · exact this
  idem v hv := by
    have h1 := h.idem v hv
    unfold mergeK
    by_cases e : cl v = y
    · rw [if_pos e, rx, if_neg (by omega)]
    · rw [if_neg e, h1, if_neg e]
  sound v hv := by
    have h1 := h.sound v hv
    unfold mergeK
    split
    · rename_i e; rw [e] at h1; exact h1.trans hxy
    · exact h1
/-- Whatever is united becomes less. -/
def sumN (cl : Nat → Int) : Nat → Nat | 0 => 0 | n + 1 => sumN cl n + (cl n).toNat
theorem sumN_le {cl dl : Nat → Int} : ∀ n, (∀ v, v < n → (dl v).toNat ≤ (cl v).toNat) → sumN dl n ≤ sumN cl n
  | 0, _ => Nat.le_refl _
  | n + 1, h => by
    have := sumN_le n (fun v hv => h v (by omega))
    have := h n (by omega)
    unfold sumN; omega
theorem sumN_lt {cl dl : Nat → Int} : ∀ n, (∀ v, v < n → (dl v).toNat ≤ (cl v).toNat) → ∀ u, u < n → (dl u).toNat < (cl u).toNat → sumN dl n < sumN cl n
  | 0, _, u, hu, _ => absurd hu (by omega)
  | n + 1, h, u, hu, hlt => by
    have h0 := h n (by omega)
    by_cases e : u = n
    · subst e
      have := sumN_le u (fun v hv => h v (by omega))
      unfold sumN; omega
    · have := sumN_lt n (fun v hv => h v (by omega)) u (by omega) hlt
      unfold sumN; omega
theorem ClaI.less {n : Nat} {cs : List Con} {cl : Nat → Int} (_h : ClaI n cs cl) {x y : Int} (hx : 0 ≤ x ∧ x < y) (hy : y < n) (ry : cl y.toNat = y) : sumN (mergeK cl y x) n < sumN cl n := by
  refine sumN_lt n (fun v hv => ?_) y.toNat (by omega) ?_
  · unfold mergeK; split
    · rename_i e; rw [e]; omega
    · exact Nat.le_refl _
  · unfold mergeK; rw [if_pos ry, ry]; omega
end Go.Proofs.YtepmgnhblegiiaaDoor

/- The reference's classes at the end of the loop. Plain law. No condition. -/
namespace Go.Proofs.YtepmgnhblegiiaaDoor
open Go Go.RowKit Go.Maps

/-- Nothing is left to unite. -/
structure Shut (cs : List Con) (cl : Nat → Int) : Prop where
  same : ∀ c ∈ cs, c.kind = 1 → cl c.a.toNat = cl c.b.toNat
  twin : ∀ (i k : Nat) c d, k < i → cs[i]? = some c → cs[k]? = some d → joinedP cl c d c.a.toNat d.a.toNat → cl c.b.toNat = cl d.b.toNat
def rtK (n : Nat) (cl : Nat → Int) (v : Int) : Int := if 0 ≤ v ∧ v < n then cl v.toNat else v
theorem right_a {n : Int} {c : Con} (h : rightS n c = true) : 0 ≤ c.a ∧ c.a < n := by
  simp only [rightS, Bool.and_eq_true, decide_eq_true_eq] at h; exact h.1
theorem right_b {n : Int} {c : Con} (h : rightS n c = true) (hk : c.kind = 1 ∨ c.kind = 5 ∨ c.kind = 6 ∨ c.kind = 7) : 0 ≤ c.b ∧ c.b < n := by
  simp only [rightS, Bool.and_eq_true, Bool.or_eq_true, decide_eq_true_eq] at h
  omega
theorem rtK_in {n : Nat} {cl : Nat → Int} {v : Int} (h : 0 ≤ v ∧ v < n) : rtK n cl v = cl v.toNat := if_pos h
theorem Shut.cong {n : Nat} {cs : List Con} {cl : Nat → Int} (h : Shut cs cl) (hR : ∀ c ∈ cs, rightS n c = true) {u v : Int} (hc : Cong cs u v) : rtK n cl u = rtK n cl v := by
  refine Cong.least (fun u v => rtK n cl u = rtK n cl v) (fun _ => rfl) (fun e => e.symm) (fun e f => e.trans f) (fun c hc hk => ?_) (fun c hc d hd ht e => ?_) hc
  · rw [rtK_in (right_a (hR c hc)), rtK_in (right_b (hR c hc) (.inl hk))]
    exact h.same c hc hk
  · have hka : c.kind = 5 ∨ c.kind = 6 ∨ c.kind = 7 := by have := ht.1; have := ht.2; omega
    have hkb : d.kind = c.kind := ht.1.symm
    rw [rtK_in (right_a (hR c hc)), rtK_in (right_a (hR d hd))] at e
    rw [rtK_in (right_b (hR c hc) (by omega)), rtK_in (right_b (hR d hd) (by omega))]
    obtain ⟨i, hi, rfl⟩ := List.mem_iff_getElem.1 hc
    obtain ⟨k, hk, rfl⟩ := List.mem_iff_getElem.1 hd
    have gi : cs[i]? = some cs[i] := by simp [hi]
    have gk : cs[k]? = some cs[k] := by simp [hk]
    rcases Nat.lt_trichotomy i k with hl | hl | hl
    · exact (h.twin k i _ _ hl gk gi ⟨ht.1.symm, e.symm, by have := ht.2; omega⟩).symm
    · subst hl; rfl
    · exact h.twin i k _ _ hl gi gk ⟨ht.1, e, by have := ht.2; omega⟩
theorem ClaI.rep {n : Nat} {cs : List Con} {cl : Nat → Int} (h : ClaI n cs cl) (hs : Shut cs cl) (hR : ∀ c ∈ cs, rightS n c = true) {v : Nat} (hv : v < n) : IsRep cs v (cl v) := by
  refine ⟨(h.sound v hv).symm, h.nn v hv, fun u hu hc => ?_⟩
  have e := hs.cong hR hc
  rw [rtK_in (v := (v : Int)) (by omega)] at e
  by_cases hun : u < n
  · rw [rtK_in ⟨hu, hun⟩] at e
    have := h.le u.toNat (by omega)
    simp only [Int.toNat_natCast] at e
    omega
  · have := h.le v hv
    omega
end Go.Proofs.YtepmgnhblegiiaaDoor

/- put: a sorted list of members. Plain law. No condition. -/
namespace Go.Proofs.YtepmgnhblegiiaaDoor
open Go Go.RowKit Go.Maps

def putS : List (Int × Int) → Int × Int → List (Int × Int)
  | [], m => [m]
  | p :: l, m => if p.1 < m.1 then p :: putS l m else if p.1 = m.1 then p :: l else m :: p :: l
/-- The place where a member goes. -/
def placeS : List (Int × Int) → Int → Nat
  | [], _ => 0
  | p :: l, o => if p.1 < o then placeS l o + 1 else 0
theorem placeS_le : ∀ (l : List (Int × Int)) (o : Int), placeS l o ≤ l.length
  | [], _ => Nat.le_refl _
  | p :: l, o => by
    have := placeS_le l o
    unfold placeS; split
    · simp; omega
    · exact Nat.zero_le _
theorem placeS_lt : ∀ {l : List (Int × Int)} {o : Int} {j : Nat} {p : Int × Int}, l[j]? = some p → j < placeS l o → p.1 < o
  | [], _, _, _, h, _ => by simp at h
  | q :: l, o, 0, p, h, hj => by
    simp only [List.getElem?_cons_zero, Option.some.injEq] at h
    subst h
    unfold placeS at hj; split at hj
    · assumption
    · omega
  | q :: l, o, j + 1, p, h, hj => by
    simp only [List.getElem?_cons_succ] at h
    unfold placeS at hj; split at hj
    · exact placeS_lt h (by omega)
    · omega
theorem placeS_at : ∀ {l : List (Int × Int)} {o : Int} {p : Int × Int}, l[placeS l o]? = some p → ¬ p.1 < o
  | [], _, _, h => by simp at h
  | q :: l, o, p, h => by
    unfold placeS at h; split at h
    · simp only [List.getElem?_cons_succ] at h
      exact placeS_at h
    · simp only [List.getElem?_cons_zero, Option.some.injEq] at h
      subst h; assumption
theorem placeS_found {l : List (Int × Int)} {o : Int} {k : Nat} (h1 : k ≤ l.length) (h2 : ∀ j p, j < k → l[j]? = some p → p.1 < o) (h3 : ∀ p, l[k]? = some p → ¬ p.1 < o) : k = placeS l o := by
  rcases Nat.lt_trichotomy k (placeS l o) with h | h | h
  · have hl := placeS_le l o
    have hk : k < l.length := by omega
    exact absurd (placeS_lt (o := o) (j := k) (p := l[k]) (by simp [hk]) h) (h3 _ (by simp [hk]))
  · exact h
  · have hk : placeS l o < l.length := by omega
    exact absurd (h2 (placeS l o) l[placeS l o] h (by simp [hk])) (placeS_at (l := l) (o := o) (p := l[placeS l o]) (by simp [hk]))
theorem putS_eq : ∀ (l : List (Int × Int)) (m : Int × Int), putS l m = if (l[placeS l m.1]?).map (·.1) = some m.1 then l else l.take (placeS l m.1) ++ m :: l.drop (placeS l m.1)
  | [], m => by simp [putS, placeS]
  | p :: l, m => by
    have ih := putS_eq l m
    unfold putS placeS
    by_cases h : p.1 < m.1
    · rw [if_pos h, if_pos h, ih]
      simp only [List.getElem?_cons_succ, List.take_succ_cons, List.drop_succ_cons, List.cons_append]
      split <;> rfl
    · rw [if_neg h, if_neg h]
      by_cases e : p.1 = m.1
      · simp [e]
      · simp [e]
theorem putS_rising : ∀ {l : List (Int × Int)} {m : Int × Int}, l.Pairwise (fun x y => x.1 < y.1) → (putS l m).Pairwise (fun x y => x.1 < y.1) ∧ (∀ q ∈ putS l m, q = m ∨ q ∈ l)
  | [], m, _ => ⟨by simp [putS], by simp [putS]⟩
  | p :: l, m, h => by
    obtain ⟨h1, h2⟩ := List.pairwise_cons.1 h
    have ih := putS_rising (m := m) h2
    unfold putS
    by_cases e : p.1 < m.1
    · rw [if_pos e]
      refine ⟨List.pairwise_cons.2 ⟨fun q hq => ?_, ih.1⟩, fun q hq => ?_⟩
      · rcases ih.2 q hq with rfl | hq
        · exact e
        · exact h1 q hq
      · rcases List.mem_cons.1 hq with rfl | hq
        · exact .inr (List.mem_cons_self)
        · exact (ih.2 q hq).imp id (List.mem_cons_of_mem _)
    · rw [if_neg e]
      split
      · exact ⟨h, fun q hq => .inr hq⟩
      · refine ⟨List.pairwise_cons.2 ⟨fun q hq => ?_, h⟩, fun q hq => ?_⟩
        · rcases List.mem_cons.1 hq with rfl | hq
          · omega
          · have := h1 q hq; omega
        · exact List.mem_cons.1 hq
theorem putS_keeps : ∀ {l : List (Int × Int)} {m q : Int × Int}, q ∈ l → q ∈ putS l m
  | p :: l, m, q, h => by
    unfold putS
    split
    · rcases List.mem_cons.1 h with rfl | h
      · exact List.mem_cons_self
      · exact List.mem_cons_of_mem _ (putS_keeps h)
    · split
      · exact h
      · exact List.mem_cons_of_mem _ h
theorem putS_has : ∀ (l : List (Int × Int)) (m : Int × Int), ∃ f, (m.1, f) ∈ putS l m
  | [], m => ⟨m.2, by simp [putS]⟩
  | p :: l, m => by
    obtain ⟨f, hf⟩ := putS_has l m
    unfold putS
    split
    · exact ⟨f, List.mem_cons_of_mem _ hf⟩
    · split
      · rename_i e; exact ⟨p.2, by rw [← e]; exact List.mem_cons_self⟩
      · exact ⟨m.2, List.mem_cons_self⟩
end Go.Proofs.YtepmgnhblegiiaaDoor

/- The reference's description of classes: what its loop keeps. Plain law. No condition. -/
namespace Go.Proofs.YtepmgnhblegiiaaDoor
open Go Go.RowKit Go.Maps

/-- The fields of a list of members. -/
def fldF (l : List (Int × Int)) (o : Int) : Option Int := (l.find? fun p => decide (p.1 = o)).map (·.2)
theorem fldF_iff : ∀ {l : List (Int × Int)}, l.Pairwise (fun x y => x.1 < y.1) → ∀ {o f : Int}, fldF l o = some f ↔ (o, f) ∈ l
  | [], _, o, f => by simp [fldF]
  | p :: l, h, o, f => by
    obtain ⟨h1, h2⟩ := List.pairwise_cons.1 h
    have ih := fldF_iff h2 (o := o) (f := f)
    unfold fldF at ih ⊢
    by_cases e : p.1 = o
    · subst e
      simp only [List.find?_cons, decide_true, Option.map_some, Option.some.injEq, List.mem_cons]
      constructor
      · rintro rfl; exact .inl rfl
      · rintro (e | e)
        · rw [← e]
        · have := h1 _ e; simp at this
    · simp only [List.find?_cons, e, decide_false, List.mem_cons]
      rw [ih]
      constructor
      · exact .inr
      · rintro (e' | e')
        · exact absurd (by rw [← e']) e
        · exact e'
theorem fldF_none {l : List (Int × Int)} {o : Int} : fldF l o = none ↔ ∀ f, (o, f) ∉ l := by
  unfold fldF
  rw [Option.map_eq_none_iff, List.find?_eq_none]
  constructor
  · intro h f hf
    have := h _ hf
    simp at this
  · rintro h ⟨a, b⟩ hp
    simp only [decide_eq_true_eq]
    rintro rfl
    exact h b hp
def clsOf (r : Row) : Cls := ⟨r.size, r.sign, r.ptr, r.elem, r.count, fldF r.fields⟩
def updR (rw : Nat → Row) (x : Nat) (r : Row) (v : Nat) : Row := if v = x then r else rw v
def ofK (n : Nat) (rw : Nat → Row) (v : Int) : Cls := if 0 ≤ v ∧ v < n then clsOf (rw v.toNat) else ⟨0, 0, -1, -1, 0, fun _ => none⟩
theorem ofK_in {n : Nat} {rw : Nat → Row} {v : Nat} (h : v < n) : ofK n rw v = clsOf (rw v) := by
  unfold ofK; rw [if_pos (by omega)]; rfl
theorem ofK_upd {n : Nat} {rw : Nat → Row} {x : Nat} (h : x < n) (r : Row) : ofK n (updR rw x r) = setCls (ofK n rw) x (clsOf r) := by
  funext v
  unfold ofK setCls
  by_cases e : v = x
  · subst e
    rw [if_pos (by omega), if_pos rfl]
    simp [updR]
  · rw [if_neg e]
    by_cases hv : 0 ≤ v ∧ v < n
    · simp only [if_pos hv]
      unfold updR; rw [if_neg (by omega)]
    · simp only [if_neg hv]

theorem ClaI.roots {n : Nat} {cs : List Con} {cl : Nat → Int} (h : ClaI n cs cl) : Roots n (rtK n cl) where
  idem v := by
    unfold rtK
    by_cases hv : 0 ≤ v ∧ v < n
    · have h1 := h.nn v.toNat (by omega)
      have h2 := h.le v.toNat (by omega)
      rw [if_pos hv, if_pos (by omega)]
      exact h.idem _ (by omega)
    · rw [if_neg hv, if_neg hv]
  le v := by
    unfold rtK; split
    · have h2 := h.le v.toNat (by omega); omega
    · omega
  nn v hv := by
    unfold rtK; split
    · exact h.nn v.toNat (by omega)
    · exact hv
  out v hv := by unfold rtK; rw [if_neg (by omega)]
theorem ClaI.snd {n : Nat} {cs : List Con} {cl : Nat → Int} (h : ClaI n cs cl) (v : Int) : Cong cs v (rtK n cl v) := by
  unfold rtK; split
  · have := h.sound v.toNat (by omega)
    rwa [Int.toNat_of_nonneg (by omega)] at this
  · exact .refl _

/-- A variable that is its class's. -/
def RootN (n : Nat) (cl : Nat → Int) (f : Int) : Prop := ∃ p : Nat, p < n ∧ f = p ∧ cl p = p
theorem RootN.rt {n : Nat} {cl : Nat → Int} {f : Int} (h : RootN n cl f) : rtK n cl f = f := by
  obtain ⟨p, hp, rfl, e⟩ := h
  rw [rtK_in (by omega)]; simpa using e
theorem ClaI.rootN {n : Nat} {cs : List Con} {cl : Nat → Int} (h : ClaI n cs cl) {v : Nat} (hv : v < n) : RootN n cl (cl v) := by
  have h1 := h.nn v hv
  have h2 := h.le v hv
  exact ⟨(cl v).toNat, by omega, by omega, by rw [h.idem v hv]; omega⟩
/-- What a row holds. -/
structure RowI (n : Nat) (cl : Nat → Int) (r : Row) : Prop where
  ptr : r.ptr = -1 ∨ RootN n cl r.ptr
  elem : r.elem = -1 ∨ RootN n cl r.elem
  rising : r.fields.Pairwise (fun x y => x.1 < y.1)
  flds : ∀ q ∈ r.fields, (0 ≤ q.1 ∧ q.1 ≤ 65535) ∧ RootN n cl q.2
  size : 0 ≤ r.size ∧ r.size ≤ 65535
  count : 0 ≤ r.count ∧ r.count ≤ 65535
  sign : 0 ≤ r.sign ∧ r.sign ≤ 4
theorem RowI.few {n : Nat} {cl : Nat → Int} {r : Row} (h : RowI n cl r) : r.fields.length ≤ 65536 := by
  have h1 : (r.fields.map (·.1)).Nodup := by
    refine List.Pairwise.imp (R := fun a b => a < b) (fun h => by omega) ?_
    exact List.pairwise_map.2 h.rising
  have := few_keys h1 (fun o ho => by
    obtain ⟨q, hq, rfl⟩ := List.mem_map.1 ho
    have := (h.flds q hq).1; omega)
  simpa using this
/-- What a constraint does to the row of its class; y is the class of its second variable. -/
def stepR (c : Con) (y : Int) (s : Row) : Row :=
  if c.kind = 2 then { s with size := c.n } else if c.kind = 3 ∨ c.kind = 4 then { s with sign := c.kind } else if c.kind = 5 then { s with size := 2, ptr := y }
  else if c.kind = 6 then { s with fields := putS s.fields (c.n, y) } else if c.kind = 7 then { s with elem := y, count := max s.count c.n } else s
def stepB (c : Con) (s : Row) (ok : Bool) : Bool :=
  if c.kind = 2 then ok && decide (s.size = 0 ∨ s.size = c.n) else if c.kind = 3 ∨ c.kind = 4 then ok && decide (s.sign = 0 ∨ s.sign = c.kind) else if c.kind = 5 then ok && decide (s.size = 0 ∨ s.size = 2) else ok
theorem RowI.step {n : Nat} {cs : List Con} {cl : Nat → Int} (hI : ClaI n cs cl) {s : Row} (h : RowI n cl s) {c : Con} (hR : rightS n c = true) : RowI n cl (stepR c (cl c.b.toNat) s) := by
  have hb : (c.kind = 5 ∨ c.kind = 6 ∨ c.kind = 7) → RootN n cl (cl c.b.toNat) := fun hk => by
    have := right_b hR (by omega)
    exact hI.rootN (by omega)
  unfold stepR
  split
  · rename_i hk
    have := right_n hR (.inl hk)
    exact { h with size := ⟨by show 0 ≤ c.n; omega, by show c.n ≤ 65535; omega⟩ }
  split
  · exact { h with sign := ⟨by show 0 ≤ c.kind; omega, by show c.kind ≤ 4; omega⟩ }
  split
  · rename_i hk
    exact { h with size := ⟨by show (0 : Int) ≤ 2; omega, by show (2 : Int) ≤ 65535; omega⟩, ptr := .inr (hb (.inl hk)) }
  split
  · rename_i hk
    have hn := right_f hR hk
    have hp := putS_rising (m := (c.n, cl c.b.toNat)) h.rising
    refine { h with rising := hp.1, flds := fun q hq => ?_ }
    rcases hp.2 q hq with rfl | hq
    · exact ⟨hn, hb (.inr (.inl hk))⟩
    · exact h.flds q hq
  split
  · rename_i hk
    have hn := right_n hR (.inr hk)
    have := h.count
    exact { h with elem := .inr (hb (.inr (.inr hk))), count := ⟨by show 0 ≤ max s.count c.n; omega, by show max s.count c.n ≤ 65535; omega⟩ }
  · exact h

/-- The state of the description: ps are described. -/
structure DesI (n : Nat) (cs ps : List Con) (cl : Nat → Int) (rw : Nat → Row) (ok : Bool) : Prop where
  inv : Inv n cs ps (rtK n cl) (ofK n rw) (!ok) []
  rows : ∀ v, v < n → RowI n cl (rw v)
  cls : ∀ v, v < n → (rw v).cls = cl v
  sub : ∀ d ∈ ps, d ∈ cs
theorem DesI.start {n : Nat} {cs : List Con} {cl : Nat → Int} (h : ClaI n cs cl) : DesI n cs [] cl (fun v => ⟨cl v, 0, 0, -1, -1, 0, []⟩) true where
  inv := ⟨h.roots, h.snd, fun p hp => by simp at hp, fun r h0 hn _ => by
    unfold ofK; rw [if_pos ⟨h0, hn⟩]
    exact ⟨.inl rfl, .inl rfl, .inl rfl, .inl rfl, .inl ⟨rfl, rfl⟩, fun _ _ e => by simp [clsOf, fldF] at e⟩, fun c hc => by simp at hc, fun e => by simp at e⟩
  rows v hv := ⟨.inl rfl, .inl rfl, List.Pairwise.nil, fun q hq => by simp at hq, by simp, by simp, by simp⟩
  cls v hv := rfl
  sub d hd := by simp at hd

theorem Done.weak {rt : Int → Int} {todo : List (Int × Int)} {c0 c1 : Bool} {k : Cls} {c : Con} (h : Done rt todo c0 k c) (hf : c1 = false → c0 = false) : Done rt todo c1 k c where
  same := h.same
  size hk := ⟨(h.size hk).1, fun e => (h.size hk).2 (hf e)⟩
  sign hk := ⟨(h.sign hk).1, fun e => (h.sign hk).2 (hf e)⟩
  ptr hk := ⟨⟨(h.ptr hk).1.1, fun e => (h.ptr hk).1.2 (hf e)⟩, (h.ptr hk).2⟩
  elem := h.elem
  field := h.field

theorem DesI.step {n : Nat} {cs ps : List Con} {cl : Nat → Int} {rw : Nat → Row} {ok : Bool} (hI : ClaI n cs cl) (hS : Shut cs cl) (hR : ∀ c ∈ cs, rightS n c = true) (h : DesI n cs ps cl rw ok) {c : Con} (hc : c ∈ cs) {x : Nat} (hx : cl c.a.toNat = x) :
    DesI n cs (ps ++ [c]) cl (updR rw x (stepR c (cl c.b.toNat) (rw x))) (stepB c (rw x) ok) := by
  have hr := hR c hc
  have ha := right_a hr
  have hxn : x < n := by have := hI.le c.a.toNat (by omega); omega
  have hrx : cl x = x := by have := hI.idem c.a.toNat (by omega); rwa [hx] at this
  have hrt : rtK n cl x = x := by rw [rtK_in (by omega)]; simpa using hrx
  have hca : rtK n cl c.a = x := by rw [rtK_in ha]; exact hx
  have hcg : Cong cs c.a x := by have := hI.snd c.a; rwa [hca] at this
  have hrow := h.rows x hxn
  have hcl := h.cls x hxn
  have hof : ofK n rw x = clsOf (rw x) := ofK_in hxn
  have hg := h.inv.good x (by omega) (by omega) hrt
  rw [hof] at hg
  have hb : (c.kind = 1 ∨ c.kind = 5 ∨ c.kind = 6 ∨ c.kind = 7) → (0 ≤ c.b ∧ c.b < n) ∧ RootN n cl (cl c.b.toNat) ∧ rtK n cl c.b = cl c.b.toNat := fun hk => by
    have := right_b hr hk
    exact ⟨this, hI.rootN (by omega), rtK_in this⟩
  have hgen : (c.kind = 5 ∨ c.kind = 6 ∨ c.kind = 7) → Gen (rtK n cl) [] c.b (cl c.b.toNat) ∧ Cong cs c.b (cl c.b.toNat) ∧ 0 ≤ cl c.b.toNat ∧ cl c.b.toNat < n := fun hk => by
    obtain ⟨h1, ⟨p, hp, he, -⟩, h3⟩ := hb (by omega)
    refine ⟨by rw [← h3]; exact Gen.root _, by rw [← h3]; exact hI.snd _, by omega, by omega⟩
  have hlink : (d : Con) → d.kind = c.kind → (c.kind = 5 ∨ c.kind = 7 ∨ (c.kind = 6 ∧ c.n = d.n)) → d ∈ cs → rtK n cl d.a = x → Gen (rtK n cl) [] d.b (cl c.b.toNat) := fun d hk ht hd hda => by
    have hk2 : c.kind = 5 ∨ c.kind = 6 ∨ c.kind = 7 := by omega
    have h3 := (hb (by omega)).2.2
    have hcd : Cong cs d.b c.b := .step hd hc ⟨hk, by omega⟩ ((hI.snd d.a).trans (by rw [hda]; exact hcg.symm))
    have e := hS.cong hR hcd
    rw [h3] at e
    rw [← e]; exact Gen.root _
  have fin : ∀ {z : Row} {ok' : Bool}, RowI n cl z → z.cls = (rw x).cls → Inv n cs (ps ++ [c]) (rtK n cl) (setCls (ofK n rw) x (clsOf z)) (!ok') [] → DesI n cs (ps ++ [c]) cl (updR rw x z) ok' := fun {z ok'} h1 h2 h3 =>
    ⟨by rw [ofK_upd hxn]; exact h3, fun v hv => by unfold updR; split; exact h1; exact h.rows v hv, fun v hv => by unfold updR; split; (rename_i e; rw [h2, e, hcl]); exact h.cls v hv, fun d hd => by
      rcases List.mem_append.1 hd with hd | hd
      · exact h.sub d hd
      · simp only [List.mem_singleton] at hd; subst hd; exact hc⟩
  have hrow' := hrow.step hI hr
  have okf : ∀ {b : Bool}, (!(ok && b)) = false → (!ok) = false := fun {b} e => by cases ok <;> simp_all
  have oks : ∀ {b : Bool}, (!(ok && b)) = false → b = true := fun {b} e => by cases ok <;> simp_all
  have okt : ∀ {b : Bool}, (!(ok && b)) = true → (!ok) = true ∨ b = false := fun {b} e => by cases ok <;> simp_all
  by_cases k2 : c.kind = 2
  · have hn := right_n hr (.inl k2)
    have e1 : stepR c (cl c.b.toNat) (rw x) = { rw x with size := c.n } := by unfold stepR; rw [if_pos k2]
    have e2 : stepB c (rw x) ok = (ok && decide ((rw x).size = 0 ∨ (rw x).size = c.n)) := by unfold stepB; rw [if_pos k2]
    rw [e1] at hrow'
    rw [e1, e2]
    refine fin hrow' rfl (h.inv.set (by omega) (by omega) hrt ⟨.inr ⟨c, hc, hcg, .inl ⟨k2, rfl⟩⟩, hg.sign, hg.ptr, hg.elem, hg.count, hg.fields⟩ hca (fun d hd hdp hda => ?_) ⟨fun _ => by omega, fun _ => ⟨by show c.n ≠ 0; omega, fun _ => rfl⟩, fun _ => by omega, fun _ => by omega, fun _ => by omega, fun _ => by omega⟩ (fun e => ?_) okf (fun p hp => by simp at hp))
    · rw [hof] at hd
      have hd' := hd.weak (c1 := !(ok && decide ((rw x).size = 0 ∨ (rw x).size = c.n))) okf
      refine ⟨hd'.same, fun hk => ⟨by show c.n ≠ 0; omega, fun e => ?_⟩, hd'.sign, fun hk => ⟨⟨by show c.n ≠ 0; omega, fun e => ?_⟩, (hd'.ptr hk).2⟩, hd'.elem, hd'.field⟩
      · have a1 := hd'.size hk
        have a2 : (rw x).size = d.n := a1.2 e
        have a3 : (rw x).size ≠ 0 := a1.1
        have a4 := oks e
        simp only [decide_eq_true_eq] at a4
        show c.n = d.n; omega
      · have a1 := (hd'.ptr hk).1
        have a2 : (rw x).size = 2 := a1.2 e
        have a4 := oks e
        simp only [decide_eq_true_eq] at a4
        show c.n = 2; omega
    · rcases okt e with e | e
      · exact h.inv.clash e
      · simp only [decide_eq_false_iff_not] at e
        have hs : SizeOf cs x (rw x).size := hg.size.resolve_left (fun q => e (.inl q))
        exact .size x _ c.n hs ⟨c, hc, hcg, .inl ⟨k2, rfl⟩⟩ (fun q => e (.inr q))
  by_cases k3 : c.kind = 3 ∨ c.kind = 4
  · have e1 : stepR c (cl c.b.toNat) (rw x) = { rw x with sign := c.kind } := by unfold stepR; rw [if_neg k2, if_pos k3]
    have e2 : stepB c (rw x) ok = (ok && decide ((rw x).sign = 0 ∨ (rw x).sign = c.kind)) := by unfold stepB; rw [if_neg k2, if_pos k3]
    rw [e1] at hrow'
    rw [e1, e2]
    refine fin hrow' rfl (h.inv.set (by omega) (by omega) hrt ⟨hg.size, .inr ⟨c, hc, hcg, k3, rfl⟩, hg.ptr, hg.elem, hg.count, hg.fields⟩ hca (fun d hd hdp hda => ?_) ⟨fun _ => by omega, fun _ => by omega, fun _ => ⟨by show c.kind ≠ 0; omega, fun _ => rfl⟩, fun _ => by omega, fun _ => by omega, fun _ => by omega⟩ (fun e => ?_) okf (fun p hp => by simp at hp))
    · rw [hof] at hd
      have hd' := hd.weak (c1 := !(ok && decide ((rw x).sign = 0 ∨ (rw x).sign = c.kind))) okf
      refine ⟨hd'.same, hd'.size, fun hk => ⟨by show c.kind ≠ 0; omega, fun e => ?_⟩, hd'.ptr, hd'.elem, hd'.field⟩
      have a1 := hd'.sign hk
      have a2 : (rw x).sign = d.kind := a1.2 e
      have a3 : (rw x).sign ≠ 0 := a1.1
      have a4 := oks e
      simp only [decide_eq_true_eq] at a4
      show c.kind = d.kind; omega
    · rcases okt e with e | e
      · exact h.inv.clash e
      · simp only [decide_eq_false_iff_not] at e
        have hs : SignOf cs x (rw x).sign := hg.sign.resolve_left (fun q => e (.inl q))
        exact .sign x _ c.kind hs ⟨c, hc, hcg, k3, rfl⟩ (fun q => e (.inr q))
  by_cases k5 : c.kind = 5
  · obtain ⟨g1, g2, g3, g4⟩ := hgen (.inl k5)
    have e1 : stepR c (cl c.b.toNat) (rw x) = { rw x with size := 2, ptr := cl c.b.toNat } := by unfold stepR; rw [if_neg k2, if_neg k3, if_pos k5]
    have e2 : stepB c (rw x) ok = (ok && decide ((rw x).size = 0 ∨ (rw x).size = 2)) := by unfold stepB; rw [if_neg k2, if_neg k3, if_pos k5]
    rw [e1] at hrow'
    rw [e1, e2]
    refine fin hrow' rfl (h.inv.set (by omega) (by omega) hrt ⟨.inr ⟨c, hc, hcg, .inr ⟨k5, rfl⟩⟩, hg.sign, .inr ⟨⟨g3, g4⟩, c, hc, k5, hcg, g2⟩, hg.elem, hg.count, hg.fields⟩ hca (fun d hd hdp hda => ?_) ⟨fun _ => by omega, fun _ => by omega, fun _ => by omega, fun _ => ⟨⟨by show (2 : Int) ≠ 0; omega, fun _ => rfl⟩, by show cl c.b.toNat ≠ -1; omega, g1⟩, fun _ => by omega, fun _ => by omega⟩ (fun e => ?_) okf (fun p hp => by simp at hp))
    · rw [hof] at hd
      have hd' := hd.weak (c1 := !(ok && decide ((rw x).size = 0 ∨ (rw x).size = 2))) okf
      refine ⟨hd'.same, fun hk => ⟨by show (2 : Int) ≠ 0; omega, fun e => ?_⟩, hd'.sign, fun hk => ⟨⟨by show (2 : Int) ≠ 0; omega, fun e => rfl⟩, by show cl c.b.toNat ≠ -1; omega, ?_⟩, hd'.elem, hd'.field⟩
      · have a1 := hd'.size hk
        have a2 : (rw x).size = d.n := a1.2 e
        have a3 : (rw x).size ≠ 0 := a1.1
        have a4 := oks e
        simp only [decide_eq_true_eq] at a4
        show 2 = d.n; omega
      · exact hlink d (by omega) (.inl k5) (h.sub d hdp) hda
    · rcases okt e with e | e
      · exact h.inv.clash e
      · simp only [decide_eq_false_iff_not] at e
        have hs : SizeOf cs x (rw x).size := hg.size.resolve_left (fun q => e (.inl q))
        exact .size x _ 2 hs ⟨c, hc, hcg, .inr ⟨k5, rfl⟩⟩ (fun q => e (.inr q))
  have e2 : stepB c (rw x) ok = ok := by unfold stepB; rw [if_neg k2, if_neg k3, if_neg k5]
  rw [e2]
  by_cases k6 : c.kind = 6
  · obtain ⟨g1, g2, g3, g4⟩ := hgen (.inr (.inl k6))
    have e1 : stepR c (cl c.b.toNat) (rw x) = { rw x with fields := putS (rw x).fields (c.n, cl c.b.toNat) } := by unfold stepR; rw [if_neg k2, if_neg k3, if_neg k5, if_pos k6]
    rw [e1] at hrow'
    rw [e1]
    have hold : ∀ o f, fldF (rw x).fields o = some f → fldF (putS (rw x).fields (c.n, cl c.b.toNat)) o = some f := fun o f hf => (fldF_iff hrow'.rising).2 (putS_keeps ((fldF_iff hrow.rising).1 hf))
    refine fin hrow' rfl (h.inv.set (by omega) (by omega) hrt ⟨hg.size, hg.sign, hg.ptr, hg.elem, hg.count, fun o f hf => ?_⟩ hca (fun d hd hdp hda => ?_) ⟨fun _ => by omega, fun _ => by omega, fun _ => by omega, fun _ => by omega, fun _ => by omega, fun _ => ?_⟩ h.inv.clash (fun e => e) (fun p hp => by simp at hp))
    · have hm := (fldF_iff hrow'.rising).1 hf
      rcases (putS_rising (m := (c.n, cl c.b.toNat)) hrow.rising).2 _ hm with e | hm
      · cases e
        exact ⟨⟨g3, g4⟩, c, hc, k6, rfl, hcg, g2⟩
      · exact hg.fields o f ((fldF_iff hrow.rising).2 hm)
    · rw [hof] at hd
      refine ⟨hd.same, hd.size, hd.sign, hd.ptr, hd.elem, fun hk => ?_⟩
      obtain ⟨f, a1, a2⟩ := hd.field hk
      exact ⟨f, hold _ _ a1, a2⟩
    · obtain ⟨f, hf⟩ := putS_has (rw x).fields (c.n, cl c.b.toNat)
      refine ⟨f, (fldF_iff hrow'.rising).2 hf, ?_⟩
      rcases (putS_rising (m := (c.n, cl c.b.toNat)) hrow.rising).2 _ hf with e | hm
      · cases e
        exact g1
      · obtain ⟨-, d, hd, dk, dn, da, db⟩ := hg.fields c.n f ((fldF_iff hrow.rising).2 hm)
        have hcd : Cong cs c.b f := (Cong.step hc hd ⟨by omega, by omega⟩ (hcg.trans da.symm)).trans db
        have e := hS.cong hR hcd
        have hrf : rtK n cl f = f := (hrow.flds _ hm).2.rt
        rw [hrf] at e
        show Gen (rtK n cl) [] c.b f
        rw [← e]; exact Gen.root _
  by_cases k7 : c.kind = 7
  · have hn := right_n hr (.inr k7)
    obtain ⟨g1, g2, g3, g4⟩ := hgen (.inr (.inr k7))
    have e1 : stepR c (cl c.b.toNat) (rw x) = { rw x with elem := cl c.b.toNat, count := max (rw x).count c.n } := by unfold stepR; rw [if_neg k2, if_neg k3, if_neg k5, if_neg k6, if_pos k7]
    rw [e1] at hrow'
    rw [e1]
    refine fin hrow' rfl (h.inv.set (by omega) (by omega) hrt ⟨hg.size, hg.sign, hg.ptr, .inr ⟨⟨g3, g4⟩, c, hc, k7, hcg, g2⟩, .inr ⟨⟨by show cl c.b.toNat ≠ -1; omega, by show 0 ≤ max (rw x).count c.n; omega⟩, ?_⟩, hg.fields⟩ hca (fun d hd hdp hda => ?_) ⟨fun _ => by omega, fun _ => by omega, fun _ => by omega, fun _ => by omega, fun _ => ⟨by show cl c.b.toNat ≠ -1; omega, g1, by show c.n ≤ max (rw x).count c.n; omega⟩, fun _ => by omega⟩ h.inv.clash (fun e => e) (fun p hp => by simp at hp))
    · rcases Int.le_total (rw x).count c.n with hle | hle
      · exact ⟨c, hc, k7, hcg, by show c.n = max (rw x).count c.n; omega⟩
      · rcases hg.count with ⟨e, -⟩ | ⟨-, d, hd, dk, da, dn⟩
        · have e : (rw x).count = 0 := e
          omega
        · have dn : d.n = (rw x).count := dn
          exact ⟨d, hd, dk, da, by show d.n = max (rw x).count c.n; omega⟩
    · rw [hof] at hd
      refine ⟨hd.same, hd.size, hd.sign, hd.ptr, fun hk => ?_, hd.field⟩
      obtain ⟨a1, a2, a3⟩ := hd.elem hk
      have a3 : d.n ≤ (rw x).count := a3
      exact ⟨by show cl c.b.toNat ≠ -1; omega, hlink d (by omega) (.inr (.inl k7)) (h.sub d hdp) hda, by show d.n ≤ max (rw x).count c.n; omega⟩
  have k1 : c.kind = 1 := by
    simp only [rightS, Bool.and_eq_true, Bool.or_eq_true, decide_eq_true_eq] at hr
    omega
  have e1 : stepR c (cl c.b.toNat) (rw x) = rw x := by unfold stepR; rw [if_neg k2, if_neg k3, if_neg k5, if_neg k6, if_neg k7]
  rw [e1]
  have e3 : updR rw x (rw x) = rw := by funext v; unfold updR; split; (rename_i e; rw [e]); rfl
  rw [e3]
  refine ⟨(h.inv.add_same hc k1 ha (hb (.inl k1)).1).same_todo (fun p hp => by simp at hp) (fun p hp _ => ?_), h.rows, h.cls, fun d hd => ?_⟩
  · simp only [List.mem_singleton] at hp
    subst hp
    exact hS.cong hR (.same hc k1)
  · rcases List.mem_append.1 hd with hd | hd
    · exact h.sub d hd
    · simp only [List.mem_singleton] at hd; subst hd; exact hc
end Go.Proofs.YtepmgnhblegiiaaDoor

/- The reference's search for a class in itself: what its work list keeps. Plain law. No condition. -/
namespace Go.Proofs.YtepmgnhblegiiaaDoor
open Go Go.RowKit Go.Maps

/-- The classes in a row. -/
def outs (r : Row) : List Int := (if r.elem = -1 then [] else [r.elem]) ++ r.fields.map (·.2)
section
variable {n : Nat} {cs ps : List Con} {cl : Nat → Int} {rw : Nat → Row} {ok : Bool}
theorem DesI.edge (h : DesI n cs ps cl rw ok) {x : Nat} (hx : x < n) {y : Int} : Edge (rtK n cl) (ofK n rw) x y ↔ y ∈ outs (rw x) := by
  have hr := h.rows x hx
  unfold Edge
  rw [ofK_in hx]
  unfold outs
  rw [List.mem_append, List.mem_map]
  show ((rw x).elem ≠ -1 ∧ y = rtK n cl (rw x).elem) ∨ (∃ o f, fldF (rw x).fields o = some f ∧ y = rtK n cl f) ↔ _
  constructor
  · rintro (⟨h1, h2⟩ | ⟨o, f, h1, h2⟩)
    · left
      rw [if_neg h1, h2, (hr.elem.resolve_left h1).rt]; simp
    · right
      have := (fldF_iff hr.rising).1 h1
      exact ⟨_, this, by rw [h2, (hr.flds _ this).2.rt]⟩
  · rintro (h1 | ⟨q, h1, rfl⟩)
    · left
      split at h1
      · simp at h1
      · rename_i h2
        simp only [List.mem_singleton] at h1
        exact ⟨h2, by rw [h1, (hr.elem.resolve_left h2).rt]⟩
    · right
      exact ⟨q.1, q.2, (fldF_iff hr.rising).2 h1, by rw [(hr.flds _ h1).2.rt]⟩
theorem DesI.outs_root (h : DesI n cs ps cl rw ok) {x : Nat} (hx : x < n) {y : Int} (hy : y ∈ outs (rw x)) : RootN n cl y := by
  have hr := h.rows x hx
  unfold outs at hy
  rw [List.mem_append, List.mem_map] at hy
  rcases hy with h1 | ⟨q, h1, rfl⟩
  · split at h1
    · simp at h1
    · rename_i h2
      simp only [List.mem_singleton] at h1
      rw [h1]; exact hr.elem.resolve_left h2
  · exact (hr.flds _ h1).2
end
/-- A search's state: what is seen, what is to do, what of the last one is left. -/
structure SeaI (n : Nat) (cl : Nat → Int) (rw : Nat → Row) (a z : Nat) (seen : Nat → Bool) (todo : List Nat) (pend : List Int) : Prop where
  tv : ∀ x ∈ todo, x < n ∧ (x = a ∨ Path (rtK n cl) (ofK n rw) a x)
  sv : ∀ v, v < n → seen v = true → Path (rtK n cl) (ofK n rw) a v ∧ v ≠ z
  shut : ∀ x, x < n → (x = a ∨ seen x = true) → x ∈ todo ∨ ∀ y ∈ outs (rw x), seen y.toNat = true ∨ y ∈ pend
  pv : ∀ y ∈ pend, RootN n cl y ∧ Path (rtK n cl) (ofK n rw) a y
def setB (s : Nat → Bool) (v u : Nat) : Bool := if u = v then true else s u
def unN (s : Nat → Bool) : Nat → Nat | 0 => 0 | n + 1 => unN s n + if s n then 0 else 1
theorem unN_le (s : Nat → Bool) : ∀ n, unN s n ≤ n
  | 0 => Nat.le_refl _
  | n + 1 => by have := unN_le s n; unfold unN; split <;> omega
theorem unN_same {s t : Nat → Bool} : ∀ {n}, (∀ v, v < n → s v = t v) → unN s n = unN t n
  | 0, _ => rfl
  | n + 1, h => by
    unfold unN
    rw [unN_same (fun v hv => h v (by omega)), h n (by omega)]
theorem unN_set {s : Nat → Bool} {v : Nat} (h0 : s v = false) : ∀ {n}, v < n → unN (setB s v) n + 1 = unN s n
  | 0, h => absurd h (by omega)
  | n + 1, h => by
    by_cases e : v = n
    · subst e
      have h1 : unN (setB s v) v = unN s v := unN_same (fun u hu => by unfold setB; rw [if_neg (by omega)])
      unfold unN
      rw [h1, h0]
      simp [setB]
    · have := unN_set h0 (n := n) (by omega)
      unfold unN
      have e1 : setB s v n = s n := by unfold setB; rw [if_neg (by omega)]
      rw [e1]; omega
section
variable {n : Nat} {cs ps : List Con} {cl : Nat → Int} {rw : Nat → Row} {ok : Bool} {a z : Nat} {seen : Nat → Bool} {todo : List Nat} {pend : List Int}
theorem SeaI.start (ha : a < n) : SeaI n cl rw a z (fun _ => false) [a] [] where
  tv x hx := by simp only [List.mem_singleton] at hx; subst hx; exact ⟨ha, .inl rfl⟩
  sv v _ h := by cases h
  shut x _ h := by
    rcases h with rfl | h
    · exact .inl (List.mem_singleton.2 rfl)
    · cases h
  pv y hy := by simp at hy
theorem SeaI.pop (hd : DesI n cs ps cl rw ok) {x : Nat} (h : SeaI n cl rw a z seen (todo ++ [x]) []) : SeaI n cl rw a z seen todo (outs (rw x)) where
  tv y hy := h.tv y (List.mem_append_left _ hy)
  sv := h.sv
  shut y hy hs := by
    by_cases e : y = x
    · subst e
      exact .inr fun u hu => .inr hu
    · rcases h.shut y hy hs with h1 | h1
      · rcases List.mem_append.1 h1 with h1 | h1
        · exact .inl h1
        · exact absurd (List.mem_singleton.1 h1) e
      · exact .inr fun u hu => (h1 u hu).imp id (fun q => by simp at q)
  pv y hy := by
    have hx := h.tv x (by simp)
    have he := (hd.edge hx.1).2 hy
    refine ⟨hd.outs_root hx.1 hy, ?_⟩
    rcases hx.2 with rfl | hp
    · exact .one he
    · exact hp.trans (.one he)
theorem SeaI.push {y : Nat} (h : SeaI n cl rw a z seen todo ((y : Int) :: pend)) (hy : y < n) (hz : y ≠ z) : SeaI n cl rw a z (setB seen y) (todo ++ [y]) pend where
  tv x hx := by
    rcases List.mem_append.1 hx with hx | hx
    · exact h.tv x hx
    · simp only [List.mem_singleton] at hx; subst hx
      exact ⟨hy, .inr (h.pv _ (List.mem_cons_self)).2⟩
  sv v hv hs := by
    by_cases e : v = y
    · subst e; exact ⟨(h.pv _ (List.mem_cons_self)).2, hz⟩
    · unfold setB at hs; rw [if_neg e] at hs; exact h.sv v hv hs
  shut x hx hs := by
    by_cases e : x = y
    · subst e; exact .inl (by simp)
    · have hs' : x = a ∨ seen x = true := hs.imp id (fun q => by unfold setB at q; rwa [if_neg e] at q)
      rcases h.shut x hx hs' with h1 | h1
      · exact .inl (List.mem_append_left _ h1)
      · refine .inr fun u hu => ?_
        rcases h1 u hu with h2 | h2
        · left; unfold setB; split
          · rfl
          · exact h2
        · rcases List.mem_cons.1 h2 with h2 | h2
          · left; rw [h2]; simp [setB]
          · exact .inr h2
  pv u hu := h.pv u (List.mem_cons_of_mem _ hu)
theorem SeaI.skip {y : Nat} (h : SeaI n cl rw a z seen todo ((y : Int) :: pend)) (hs : seen y = true) : SeaI n cl rw a z seen todo pend where
  tv := h.tv
  sv := h.sv
  shut x hx hx2 := (h.shut x hx hx2).imp id fun h1 u hu => by
    rcases h1 u hu with h2 | h2
    · exact .inl h2
    · rcases List.mem_cons.1 h2 with h2 | h2
      · left; rw [h2]; exact hs
      · exact .inr h2
  pv u hu := h.pv u (List.mem_cons_of_mem _ hu)
theorem SeaI.none (hd : DesI n cs ps cl rw ok) (ha : a < n) (h : SeaI n cl rw a z seen [] []) : ¬ Path (rtK n cl) (ofK n rw) a z := by
  have key : ∀ {u v : Int}, Path (rtK n cl) (ofK n rw) u v → ∀ x : Nat, u = x → x < n → (x = a ∨ seen x = true) → ∃ y : Nat, v = y ∧ y < n ∧ seen y = true := by
    intro u v hp
    induction hp with
    | one e =>
      rintro x rfl hx hs
      have ho := (hd.edge hx).1 e
      obtain ⟨p, hp, he, -⟩ := hd.outs_root hx ho
      rcases h.shut x hx hs with h1 | h1
      · simp at h1
      · rcases h1 _ ho with h2 | h2
        · exact ⟨p, he, hp, by rw [he] at h2; simpa using h2⟩
        · simp at h2
    | more e _ ih =>
      rintro x rfl hx hs
      have ho := (hd.edge hx).1 e
      obtain ⟨p, hp, he, -⟩ := hd.outs_root hx ho
      rcases h.shut x hx hs with h1 | h1
      · simp at h1
      · rcases h1 _ ho with h2 | h2
        · exact ih p he hp (.inr (by rw [he] at h2; simpa using h2))
        · simp at h2
  intro hp
  obtain ⟨y, hy, hyn, hs⟩ := key hp a rfl ha (.inl rfl)
  have := (h.sv y hyn hs).2
  omega
end
/-- The kinds of a row. -/
def b2n (p : Prop) [Decidable p] : Nat := if p then 1 else 0
def kindsN (r : Row) : Nat := b2n (r.sign ≠ 0) + b2n (0 ≤ r.ptr) + b2n (0 ≤ r.elem) + b2n (r.fields ≠ [])
/-- The sizes of a row. -/
def FitR (rw : Nat → Row) (r : Row) : Prop := (∀ q ∈ r.fields, 0 < r.size → q.1 + max (rw q.2.toNat).size 1 ≤ r.size) ∧ (0 ≤ r.elem → 0 < r.size → r.count * max (rw r.elem.toNat).size 1 ≤ r.size)
theorem b2n_le (p : Prop) [Decidable p] : b2n p ≤ 1 ∧ (b2n p = 1 ↔ p) := by
  unfold b2n; split <;> simp_all
theorem fits_row {n : Nat} {cs ps : List Con} {cl : Nat → Int} {rw : Nat → Row} {ok : Bool} (h : DesI n cs ps cl rw ok) {x : Nat} (hx : x < n) : Fits (rtK n cl) (ofK n rw) x ↔ kindsN (rw x) ≤ 1 ∧ FitR rw (rw x) := by
  have hr := h.rows x hx
  have e0 := ofK_in (rw := rw) hx
  have hneed : ∀ {f : Int}, RootN n cl f → need (ofK n rw) (rtK n cl f) = max (rw f.toNat).size 1 := fun {f} hf => by
    rw [hf.rt]
    obtain ⟨p, hp, rfl, -⟩ := hf
    unfold need
    rw [ofK_in hp]; rfl
  have h1 := b2n_le ((rw x).sign ≠ 0)
  have h2 := b2n_le (0 ≤ (rw x).ptr)
  have h3 := b2n_le (0 ≤ (rw x).elem)
  have h4 := b2n_le ((rw x).fields ≠ [])
  have p1 : (0 ≤ (rw x).ptr ↔ (rw x).ptr ≠ -1) := by
    rcases hr.ptr with e | ⟨p, _, e, _⟩ <;> omega
  have p2 : (0 ≤ (rw x).elem ↔ (rw x).elem ≠ -1) := by
    rcases hr.elem with e | ⟨p, _, e, _⟩ <;> omega
  have p3 : (∃ o f, (ofK n rw x).fields o = some f) ↔ (rw x).fields ≠ [] := by
    rw [e0]
    show (∃ o f, fldF (rw x).fields o = some f) ↔ _
    constructor
    · rintro ⟨o, f, hf⟩ e
      have := (fldF_iff hr.rising).1 hf
      rw [e] at this; simp at this
    · intro e
      obtain ⟨⟨o, f⟩, l, hl⟩ := List.exists_cons_of_ne_nil e
      exact ⟨o, f, (fldF_iff hr.rising).2 (by rw [hl]; simp)⟩
  have hsz := hr.size
  have e1 : (ofK n rw x).sign = (rw x).sign := by rw [e0]; rfl
  have e2 : (ofK n rw x).ptr = (rw x).ptr := by rw [e0]; rfl
  have e3 : (ofK n rw x).elem = (rw x).elem := by rw [e0]; rfl
  have e4 : (ofK n rw x).size = (rw x).size := by rw [e0]; rfl
  have e5 : (ofK n rw x).count = (rw x).count := by rw [e0]; rfl
  have e6 : (ofK n rw x).fields = fldF (rw x).fields := by rw [e0]; rfl
  constructor
  · intro f
    have f1 := f.sp; have f2 := f.se; have f3 := f.sf; have f4 := f.pe; have f5 := f.pf; have f6 := f.ef
    rw [p3] at f3 f5 f6
    rw [e1] at f1 f2 f3
    rw [e2] at f1 f4 f5
    rw [e3] at f2 f4 f6
    refine ⟨?_, fun q hq hs => ?_, fun he hs => ?_⟩
    · unfold kindsN
      by_cases c1 : (rw x).sign ≠ 0 <;> by_cases c2 : (rw x).ptr ≠ -1 <;> by_cases c3 : (rw x).elem ≠ -1 <;> by_cases c4 : (rw x).fields ≠ [] <;> simp_all <;> omega
    · have := f.field (by rw [e4]; omega) q.1 q.2 (by rw [e6]; exact (fldF_iff hr.rising).2 hq)
      rw [hneed (hr.flds q hq).2, e4] at this
      exact this
    · have := f.elem (by rw [e4]; omega) (by rw [e3]; omega)
      rw [e3, e4, e5, hneed (hr.elem.resolve_left (by omega))] at this
      exact this
  · rintro ⟨hk, hf, he⟩
    unfold kindsN at hk
    refine ⟨?_, ?_, ?_, ?_, ?_, ?_, fun hs o f hof => ?_, fun hs hel => ?_⟩
    · rw [e1, e2]; rintro ⟨c1, c2⟩; have := h1.2.2 c1; have := h2.2.2 (p1.2 c2); omega
    · rw [e1, e3]; rintro ⟨c1, c2⟩; have := h1.2.2 c1; have := h3.2.2 (p2.2 c2); omega
    · rw [e1, p3]; rintro ⟨c1, c2⟩; have := h1.2.2 c1; have := h4.2.2 c2; omega
    · rw [e2, e3]; rintro ⟨c1, c2⟩; have := h2.2.2 (p1.2 c1); have := h3.2.2 (p2.2 c2); omega
    · rw [e2, p3]; rintro ⟨c1, c2⟩; have := h2.2.2 (p1.2 c1); have := h4.2.2 c2; omega
    · rw [e3, p3]; rintro ⟨c1, c2⟩; have := h3.2.2 (p2.2 c1); have := h4.2.2 c2; omega
    · rw [e6] at hof
      have hm := (fldF_iff hr.rising).1 hof
      rw [e4] at hs ⊢
      rw [hneed (hr.flds _ hm).2]
      exact hf _ hm (by omega)
    · rw [e3] at hel ⊢
      rw [e4] at hs ⊢
      rw [e5, hneed (hr.elem.resolve_left hel)]
      exact he (by omega) (by omega)
/-- What the reference's Clash answers, from its classes. -/
theorem clash_rows {n : Nat} {cs : List Con} {cl : Nat → Int} {rw : Nat → Row} {ok : Bool} (h : DesI n cs cs cl rw ok) (hR : ∀ c ∈ cs, rightS n c = true) :
    Clash cs ↔ (ok = false ∨ ∃ x, x < n ∧ cl x = x ∧ ¬ (kindsN (rw x) ≤ 1 ∧ FitR rw (rw x) ∧ ¬ Path (rtK n cl) (ofK n rw) x x)) := by
  rw [h.inv.contradictory hR]
  constructor
  · rintro (e | ⟨v, hv, hr, hp⟩ | ⟨v, hv, hr, hf⟩)
    · exact .inl (by simpa using e)
    · refine .inr ⟨v.toNat, by omega, ?_, fun q => q.2.2 ?_⟩
      · rw [rtK_in hv] at hr; omega
      · rwa [Int.toNat_of_nonneg hv.1]
    · refine .inr ⟨v.toNat, by omega, ?_, fun q => hf ?_⟩
      · rw [rtK_in hv] at hr; omega
      · have := (fits_row h (x := v.toNat) (by omega)).2 ⟨q.1, q.2.1⟩
        rwa [Int.toNat_of_nonneg hv.1] at this
  · rintro (e | ⟨x, hx, hc, hq⟩)
    · exact .inl (by simpa using e)
    · have hr : rtK n cl x = x := by rw [rtK_in (by omega)]; simpa using hc
      by_cases hp : Path (rtK n cl) (ofK n rw) x x
      · exact .inr (.inl ⟨x, by omega, hr, hp⟩)
      · refine .inr (.inr ⟨x, by omega, hr, fun hf => hq ?_⟩)
        have := (fits_row h hx).1 hf
        exact ⟨this.1, this.2, hp⟩
/-- What the reference says of a variable is so. -/
theorem desc_rows {n : Nat} {cs : List Con} {cl : Nat → Int} {rw : Nat → Row} {ok : Bool} (hI : ClaI n cs cl) (h : DesI n cs cs cl rw ok) (hR : ∀ c ∈ cs, rightS n c = true) (hC : ¬ Clash cs) {v : Nat} (hv : v < n) : Desc cs v (rw (cl v).toNat) := by
  have h1 := hI.nn v hv
  have h2 := hI.le v hv
  have hx : (cl v).toNat < n := by omega
  have hrt : rtK n cl v = (cl v).toNat := by
    rw [rtK_in (by omega)]; simp; omega
  have hr := h.rows _ hx
  have e0 := ofK_in (rw := rw) hx
  refine h.inv.desc hR hC (by omega) ?_ ?_ ?_ ?_ ?_ ?_ hr.rising fun o f => ?_
  · rw [hrt, h.cls _ hx, hI.idem v hv]; omega
  · rw [hrt, e0]; rfl
  · rw [hrt, e0]; rfl
  · rw [hrt, e0]
    show (rw (cl v).toNat).ptr = if (rw (cl v).toNat).ptr = -1 then -1 else rtK n cl (rw (cl v).toNat).ptr
    split
    · assumption
    · rename_i e; rw [(hr.ptr.resolve_left e).rt]
  · rw [hrt, e0]
    show (rw (cl v).toNat).elem = if (rw (cl v).toNat).elem = -1 then -1 else rtK n cl (rw (cl v).toNat).elem
    split
    · assumption
    · rename_i e; rw [(hr.elem.resolve_left e).rt]
  · rw [hrt, e0]; rfl
  · rw [hrt, e0]
    show _ ↔ ∃ g, fldF (rw (cl v).toNat).fields o = some g ∧ f = rtK n cl g
    constructor
    · intro hm
      exact ⟨f, (fldF_iff hr.rising).2 hm, by rw [(hr.flds _ hm).2.rt]⟩
    · rintro ⟨g, hg, rfl⟩
      have hm := (fldF_iff hr.rising).1 hg
      rw [(hr.flds _ hm).2.rt]; exact hm
end Go.Proofs.YtepmgnhblegiiaaDoor
