/- A region whose order is drawn, by facts: each operation is walked once, in a frame that bears what the operations before it leave. No condition beyond what the law states. -/
import Derived.Test.YthebmoggbgldmaaLaKit
import Derived.Orders
import Derived.Deep.MidRow
import Derived.Laws.CopyRow
set_option linter.all false
namespace Go.Proofs.Ythebmoggbgldmaa
open Go Go.RowKit
section
variable {P : Program} {ops : Array Oper} {Q : Exit → Act → World → Prop}
def todo (ops : Array Oper) (L : Array Bool) : Nat := ((List.range ops.size).filter fun i => !L.getD i true).length
theorem filter_len_le {p q : Nat → Bool} (hle : ∀ x, q x = true → p x = true) : ∀ l : List Nat, (l.filter q).length ≤ (l.filter p).length
 | [] => zn _
 | x :: l => by
  have ih := filter_len_le hle l
  rw [List.filter_cons, List.filter_cons]
  by_cases hq : q x = true
  ·rw [if_pos hq, if_pos (hle x hq)]; simpa using ih
  ·rw [if_neg hq]
   split
   ·simp only [List.length_cons]; omega
   ·exact ih
theorem filter_len_lt {p q : Nat → Bool} {i : Nat} (hle : ∀ x, q x = true → p x = true) (h1 : p i = true) (h2 : q i = false) : ∀ l : List Nat, i ∈ l → (l.filter q).length + 1 ≤ (l.filter p).length
 | x :: l, h => by
  rw [List.filter_cons, List.filter_cons]
  rcases List.mem_cons.1 h with rfl | h
  ·rw [if_pos h1, if_neg (by simp [h2])]
   have := filter_len_le hle l
   simp only [List.length_cons]; omega
  ·have ih := filter_len_lt hle h1 h2 l h
   by_cases hq : q x = true
   ·rw [if_pos hq, if_pos (hle x hq)]; simp only [List.length_cons]; omega
   ·rw [if_neg hq]
    split
    ·simp only [List.length_cons]; omega
    ·exact ih
theorem todo_set {L : Array Bool} {i : Nat} (hi : i < ops.size) (h : L.getD i true = false) : todo ops (L.setIfInBounds i true) + 1 ≤ todo ops L := by
 have hlt : i < L.size := by
  rcases Nat.lt_or_ge i L.size with h' | h'
  ·exact h'
  ·simp [Array.getElem?_eq_none h'] at h
 refine filter_len_lt (i := i) (fun x hx => ?_) (by simp [h]) (by simp [hlt]) _ (List.mem_range.2 hi)
 by_cases hxi : i = x
 ·subst hxi; simp [hlt] at hx
 ·rw [getD_set_ne true hxi] at hx; exact hx
theorem ready_lt {L : Array Bool} {i : Nat} (h : i ∈ Region.ready .any ops L) : i < ops.size := by
 unfold Region.ready at h
 rw [List.mem_filter, List.mem_range] at h
 exact h.1
theorem wpAny_inv {I : Array Bool → Act → World → Prop}
  (hstep : ∀ L a w i, I L a w → i ∈ Region.ready .any ops L → wpOp P ops Q i (I (L.setIfInBounds i true)) a w)
  (hend : ∀ L a w, I L a w → Region.ready .any ops L = [] → Q .normal a w) :
  ∀ (fuel : Nat) (L : Array Bool) (a : Act) (w : World), todo ops L ≤ fuel → I L a w → wpAny P .any ops Q fuel L a w
 | 0, L, a, w, hf, h => by
  have hr : Region.ready .any ops L = [] := by
   rw [List.eq_nil_iff_forall_not_mem]
   intro i hi
   have := todo_set (ready_lt hi) (mem_ready.1 hi).1
   omega
  exact ⟨hr, hend L a w h hr⟩
 | fuel + 1, L, a, w, hf, h => by
  refine ⟨hend L a w h, fun i hi => wpOp_mono (fun a' w' h' => wpAny_inv hstep hend fuel _ a' w' ?_ h') (hstep L a w i h hi)⟩
  have := todo_set (ready_lt hi) (mem_ready.1 hi).1
  omega
def pre (o : Oper) : List Nat := (o.after.toList.filter fun e => Region.binds .any e).map (·.on)
theorem mem_pre {o : Oper} {j : Nat} : j ∈ pre o ↔ ∃ e ∈ o.after, Region.binds .any e = true ∧ e.on = j := by
 unfold pre
 simp only [List.mem_map, List.mem_filter, Array.mem_toList_iff]
 constructor
 ·rintro ⟨e, ⟨h1, h2⟩, h3⟩; exact ⟨e, h1, h2, h3⟩
 ·rintro ⟨e, h1, h2, h3⟩; exact ⟨e, ⟨h1, h2⟩, h3⟩
def yb : List Oper → Nat → (Nat → Value) → Act → Act
 | [], _, _, a => a
 | o :: os, k, f, a => yb os (k + 1) f (a.put o.dst (f k))
def upd (f : Nat → Value) (i : Nat) (v : Value) (k : Nat) : Value := bif Nat.beq k i then v else f k
theorem xq (f : Nat → Value) (i : Nat) (v : Value) : upd f i v i = v := by simp [upd]
theorem jw (f : Nat → Value) {i k : Nat} (v : Value) (h : k ≠ i) : upd f i v k = f k := by
 have : Nat.beq k i = false := by rw [Bool.eq_false_iff]; intro e; exact h (Nat.eq_of_beq_eq_true e)
 simp [upd, this]
def jG (o : Oper) (a : Act) : Value := match o.dst with | some d => a.tmps.getD d undef | none => undef
structure xy (ops : Array Oper) (a0 : Act) (L : Nat → Bool) (f : Nat → Value) (a : Act) : Prop where
 defers : a.defers = a0.defers
 size : a.tmps.size = a0.tmps.size
 on : ∀ i o t, ops[i]? = some o → o.dst = some t → L i = true → a.tmps[t]? = some (f i)
 off : ∀ t, (∀ i o, ops[i]? = some o → L i = true → o.dst ≠ some t) → a.tmps[t]? = a0.tmps[t]?
def dstsOk (ops : Array Oper) (n : Nat) : Bool :=
 ops.toList.zipIdx.all fun (o, i) => match o.dst with
  | none => true
  | some t => decide (t < n) && ops.toList.zipIdx.all fun (p, j) => j == i || p.dst != some t
theorem mem_zip {i : Nat} {o : Oper} (h : ops[i]? = some o) : (o, i) ∈ ops.toList.zipIdx := by
 rw [List.mem_zipIdx_iff_getElem?]
 simpa using h
theorem dstsOk_lt {n : Nat} (h : dstsOk ops n = true) {i : Nat} {o : Oper} {t : Tmp} (hi : ops[i]? = some o) (ht : o.dst = some t) : t < n := by
 have := List.all_eq_true.1 h _ (mem_zip hi)
 simp only [ht, Bool.and_eq_true, decide_eq_true_eq] at this
 exact this.1
theorem dstsOk_ne {n : Nat} (h : dstsOk ops n = true) {i j : Nat} {o p : Oper} {t : Tmp} (hi : ops[i]? = some o) (ht : o.dst = some t) (hj : ops[j]? = some p) (hne : j ≠ i) : p.dst ≠ some t := by
 have := List.all_eq_true.1 h _ (mem_zip hi)
 simp only [ht, Bool.and_eq_true, decide_eq_true_eq] at this
 have := List.all_eq_true.1 this.2 _ (mem_zip hj)
 simp only [Bool.or_eq_true, beq_iff_eq, bne_iff_ne] at this
 exact this.resolve_left hne
theorem put_some {a : Act} {t : Tmp} {v : Value} : a.put (some t) v = { a with tmps := a.tmps.setIfInBounds t v } := rfl
theorem xy.put {a0 a : Act} {L : Nat → Bool} {f : Nat → Value} (h : xy ops a0 L f a) (hd : dstsOk ops a0.tmps.size = true) {i : Nat} {o : Oper} (hi : ops[i]? = some o) (hL : L i = false) (v : Value) :
  xy ops a0 (fun k => L k || Nat.beq k i) (upd f i v) (a.put o.dst v) := by
 cases ho : o.dst with
 | none =>
  refine ⟨h.defers, h.size, fun k p t hk hp hl => ?_, fun t ht => ?_⟩
  ·have hki : k ≠ i := by rintro rfl; rw [hi] at hk; cases hk; rw [ho] at hp; cases hp
   rw [jw _ _ hki]
   refine h.on k p t hk hp ?_
   simpa [hki] using hl
  ·refine h.off t fun k p hk hl => ht k p hk (by simp [hl])
 | some d =>
  have hdl := dstsOk_lt hd hi ho
  rw [put_some]
  refine ⟨h.defers, by simpa using h.size, fun k p t hk hp hl => ?_, fun t ht => ?_⟩
  ·by_cases hki : k = i
   ·subst hki
    rw [hi] at hk; cases hk
    rw [ho] at hp; cases hp
    rw [xq]
    simp only [Array.getElem?_setIfInBounds]
    rw [if_pos trivial, if_pos (by rw [h.size]; exact hdl)]
   ·rw [jw _ _ hki]
    have hne : d ≠ t := by rintro rfl; exact dstsOk_ne hd hi ho hk hki hp
    simp only [Array.getElem?_setIfInBounds, if_neg hne]
    exact h.on k p t hk hp (by simpa [hki] using hl)
  ·have hne : d ≠ t := by rintro rfl; exact ht i o hi (by simp) ho
   simp only [Array.getElem?_setIfInBounds, if_neg hne]
   exact h.off t fun k p hk hl => ht k p hk (by simp [hl])
theorem xy.congr {a0 a : Act} {L L' : Nat → Bool} {f : Nat → Value} (h : xy ops a0 L f a) (hl : ∀ i, L' i = L i) : xy ops a0 L' f a := by
 obtain rfl : L' = L := funext hl
 exact h
theorem xy.init (a0 : Act) (f : Nat → Value) : xy ops a0 (fun _ => false) f a0 :=
 ⟨rfl, rfl, fun _ _ _ _ _ h => (by cases h), fun _ _ => rfl⟩
theorem xy.some {a0 a : Act} {L : Nat → Bool} {f g : Nat → Value} (h : xy ops a0 L f a) (hg : ∀ i, L i = true → g i = f i) : xy ops a0 L g a :=
 ⟨h.defers, h.size, fun i o t hi ht hl => by rw [hg i hl]; exact h.on i o t hi ht hl, h.off⟩
theorem full_agree (a0 : Act) (f : Nat → Value) (hd : dstsOk ops a0.tmps.size = true) (m : Nat) :
  ∀ (os : List Oper) (k : Nat) (a : Act), (∀ j, os[j]? = if k + j < m then ops[k + j]? else none) → k ≤ m → xy ops a0 (fun i => decide (i < k)) f a → xy ops a0 (fun i => decide (i < m)) f (yb os k f a)
 | [], k, a, hos, hk, h => by
  refine ⟨h.defers, h.size, fun i o t hi ht hl => h.on i o t hi ht ?_, fun t ht => h.off t fun i o hi hl => ht i o hi (by simp at hl ⊢; omega)⟩
  simp only [decide_eq_true_eq] at hl ⊢
  rcases Nat.lt_or_ge i k with h' | h'
  ·exact h'
  ·have := hos (i - k)
   rw [show k + (i - k) = i by omega, if_pos hl, hi] at this
   simp at this
 | o :: os, k, a, hos, hkm, h => by
  have h0 := hos 0
  have hklt : k < m := by
   rcases Nat.lt_or_ge k m with h' | h'
   ·exact h'
   ·rw [if_neg (by omega)] at h0; simp at h0
  have hk : ops[k]? = some o := by rw [Nat.add_zero, if_pos hklt] at h0; simpa using h0.symm
  refine full_agree a0 f hd m os (k + 1) _ (fun j => ?_) hklt ?_
  ·have := hos (j + 1)
   rw [show k + (j + 1) = k + 1 + j by omega] at this
   simpa using this
  ·have h1 := h.put hd hk (by simp) (f k)
   refine (h1.congr fun i => ?_).some fun i _ => ?_
   ·rw [Bool.eq_iff_iff]; simp; omega
   ·by_cases hik : i = k
    ·subst hik; rw [xq]
    ·rw [jw _ _ hik]
def anc (b : Array Nat) (i x : Nat) : Bool := (b.getD i 0).testBit x
def ancS (ops : Array Oper) (b : Array Nat) (i x : Nat) : Bool := Nat.blt x ops.size && anc b i x
def ancOk (ops : Array Oper) (b : Array Nat) : Bool :=
 ops.toList.zipIdx.all fun (o, i) => (List.range ops.size).all fun x => !anc b i x || (pre o).contains x || (pre o).any fun y => anc b y x
def orderOk (ops : Array Oper) : Bool := ops.toList.zipIdx.all fun (o, i) => (pre o).all fun j => decide (j < i)
def looksOk (ops : Array Oper) (b : Array Nat) : Bool :=
 ops.toList.zipIdx.all fun (o, i) => (o.looksAt ops).all fun t => ops.toList.zipIdx.all fun (p, j) => p.dst != some t || anc b i j
def rdOk (ops : Array Oper) (b : Array Nat) (rd : Nat → List Nat) : Bool := (List.range ops.size).all fun j => (rd j).all fun k => k == j || (decide (k < ops.size) && anc b j k)
def useOk (ops : Array Oper) (b : Array Nat) (drops use : Nat → List Nat) : Bool :=
 (List.range ops.size).all fun m => (use m).all fun j => decide (j < ops.size) && anc b m j && (List.range ops.size).all fun c => !(drops c).contains j || anc b j c || c == m || anc b c m
def lastOk (ops : Array Oper) (b : Array Nat) (drops : Nat → List Nat) (last : List Nat) : Bool :=
 last.all fun j => decide (j < ops.size) && (List.range ops.size).all fun c => !(drops c).contains j || anc b j c
def relyOk (ops : Array Oper) (b : Array Nat) (n : Nat) (rd drops use : Nat → List Nat) (last : List Nat) : Bool :=
 dstsOk ops n && ancOk ops b && orderOk ops && looksOk ops b && rdOk ops b rd && useOk ops b drops use && lastOk ops b drops last && Region.noSelect ops
def Facts (V : Nat → List Value → World → Prop) (rd : Nat → List Nat) (f : Nat → Value) (w : World) : List Nat → Prop
 | [] => True
 | j :: js => V j ((rd j).map f) w ∧ Facts V rd f w js
theorem Facts.of {V : Nat → List Value → World → Prop} {rd : Nat → List Nat} {f : Nat → Value} {w : World} : ∀ l : List Nat, (∀ j ∈ l, V j ((rd j).map f) w) → Facts V rd f w l
 | [], _ => trivial
 | j :: l, h => ⟨h j (by simp), Facts.of l fun k hk => h k (by simp [hk])⟩
def zr (al : List Nat) (n : Nat) (V : Nat → List Value → World → Prop) (rd drops : Nat → List Nat) (S : World → Prop) (i : Nat) (f : Nat → Value) (w : World) (v : Value) (w' : World) : Prop :=
 V i ((rd i).map (upd f i v)) w' ∧ (Below w.heap.size w w' ∨ (w.heap.size ≤ w'.heap.size ∧ S w' ∧ ∀ j, j < n → j ≠ i → j ∉ drops i → V j ((rd j).map f) w → V j ((rd j).map f) w')) ∧ (al.contains i = true → ∃ g, v = .pointer (some ⟨g, 0, none⟩) ∧ w.heap.size ≤ g ∧ g < w'.heap.size)
def StepOb (al : List Nat) (A : Nat → Nat → Bool) (P : Program) (ops : Array Oper) (V : Nat → List Value → World → Prop) (rd drops use : Nat → List Nat) (S : World → Prop) (f : Nat → Value) (F : Act) (i : Nat) (o : Oper) : Prop :=
 ∀ w, S w → Facts V rd f w (use i) → (∀ k m, A i k = true → A i m = true → al.contains k = true → al.contains m = true → k ≠ m → f k ≠ f m) → ∀ K : Act → World → Prop, Shut (∀ a' w', a'.defers = F.defers → zr al ops.size V rd drops S i f w (jG o a') w' → K a' w') →
  if Region.wanted o (yielded ops F.tmps) = true then o.wp P F w K (fun _ _ _ => False) else K (F.put o.dst undef) w
def zg (al : List Nat) (A : Nat → Nat → Bool) (P : Program) (ops : Array Oper) (V : Nat → List Value → World → Prop) (rd drops use : Nat → List Nat) (S : World → Prop) (f : Nat → Value) (F : Act) : Nat → List Oper → Prop
 | _, [] => True
 | i, o :: os => StepOb al A P ops V rd drops use S f F i o ∧ zg al A P ops V rd drops use S f F (i + 1) os
theorem zg.at {al : List Nat} {A : Nat → Nat → Bool} {V : Nat → List Value → World → Prop} {rd drops use : Nat → List Nat} {S : World → Prop} {f : Nat → Value} {F : Act} : ∀ (os : List Oper) (k : Nat), zg al A P ops V rd drops use S f F k os → ∀ j o, os[j]? = some o → StepOb al A P ops V rd drops use S f F (k + j) o
 | [], _, _, j, o, h => by simp at h
 | p :: os, k, h, 0, o, ho => by simp at ho; subst ho; exact h.1
 | p :: os, k, h, j + 1, o, ho => by
  have := zg.at os (k + 1) h.2 j o (by simpa using ho)
  rw [show k + (j + 1) = k + 1 + j by omega]
  exact this
def Fin (P : Program) (ops : Array Oper) (Q : Exit → Act → World → Prop) (m : Nat) (F : Act) (w : World) : Prop :=
 match ops[m]? with
 | none => Q .normal F w
 | some o => ∀ K : Act → World → Prop, Shut (∀ a' w', Q .normal a' w' → K a' w') → if Region.wanted o (yielded ops F.tmps) = true then o.wp P F w K Q else K (F.put o.dst undef) w
theorem yN {m : Nat} {F : Act} {w : World} (h : ops[m]? = none) (hq : Q .normal F w) : Fin P ops Q m F w := by
 unfold Fin; rw [h]; exact hq
theorem Fin.last {m : Nat} {F : Act} {w : World} {o : Oper} (h : ops.toList.drop m = [o]) (hk : ∀ K : Act → World → Prop, Shut (∀ a' w', Q .normal a' w' → K a' w') → if Region.wanted o (yielded ops F.tmps) = true then o.wp P F w K Q else K (F.put o.dst undef) w) : Fin P ops Q m F w := by
 have h' : ops[m]? = some o := by
  have := congrArg (fun l : List Oper => l[0]?) h
  simpa using this
 unfold Fin; rw [h']; exact hk
def finOk (ops : Array Oper) (b : Array Nat) (m : Nat) : Bool := decide (ops.size ≤ m + 1) && decide (m ≤ ops.size) && (decide (m = ops.size) || (List.range m).all fun i => anc b m i)
def relyOkF (ops : Array Oper) (b : Array Nat) (n m : Nat) (rd drops use : Nat → List Nat) (last : List Nat) : Bool :=
 relyOk ops b n rd drops use last && finOk ops b m && last.all fun j => decide (j < m)
theorem zV {id : Nat} {a : Act} {w : World} (al : List Nat) (m : Nat) (V : Nat → List Value → World → Prop) (rd drops use : Nat → List Nat) (last : List Nat) (S : World → Prop)
  (hm : P.follows .mixedOrders = true) (hok : relyOkF ops (Region.before ops) a.tmps.size m rd drops use last = true)
  (hS : S w.drew) (hSgrow : ∀ w w', S w → Below w.heap.size w w' → S w')
  (hgrow : ∀ j vs w w', V j vs w → Below w.heap.size w w' → V j vs w')
  (h : ∀ (f : Nat → Value) (F : Act), F = yb (ops.toList.take m) 0 f a → zg al (ancS ops (Region.before ops)) P ops V rd drops use S f F 0 (ops.toList.take m) ∧ ∀ w', S w' → Facts V rd f w' last → Fin P ops Q m F w') :
  (Code.region id ops true).wp P Q a w := by
 simp only [relyOkF, relyOk, finOk, Bool.and_eq_true, Bool.or_eq_true, decide_eq_true_eq] at hok
 obtain ⟨⟨⟨⟨⟨⟨⟨⟨⟨hd, hanc⟩, hord⟩, hlooks⟩, hrd⟩, huse⟩, hlast⟩, hsel⟩, ⟨hm1, hm2⟩, hm3⟩, hlm⟩ := hok
 generalize Region.before ops = b at *
 have hancS : ∀ i o x, ops[i]? = some o → x < ops.size → anc b i x = true → x ∈ pre o ∨ ∃ y ∈ pre o, anc b y x = true := fun i o x hi hx ha => by
  have := List.all_eq_true.1 (List.all_eq_true.1 hanc _ (mem_zip hi)) x (List.mem_range.2 hx)
  simp only [ha, Bool.not_true, Bool.false_or, Bool.or_eq_true, List.contains_iff_mem, List.any_eq_true] at this
  exact this
 have hfull : ∀ f, xy ops a (fun i => decide (i < m)) f (yb (ops.toList.take m) 0 f a) := fun f => by
  refine full_agree a f hd m (ops.toList.take m) 0 a (fun j => ?_) (by simp) ((xy.init a f).congr fun i => by simp)
  rw [List.getElem?_take]
  simp
 refine wp_region_any hm (wpAny_inv (I := fun L a' w' => (Region.ready .any ops L = [] ∧ Q .normal a' w') ∨ (L.size = ops.size ∧ (∀ i, m ≤ i → L.getD i false = false) ∧ (∀ i x, x < ops.size → L.getD i false = true → anc b i x = true → L.getD x false = true) ∧
  ∃ f, xy ops a (fun i => L.getD i false) f a' ∧ S w' ∧ ((∀ i, al.contains i = true → i < ops.size → L.getD i false = true → ∃ g, f i = .pointer (some ⟨g, 0, none⟩) ∧ g < w'.heap.size) ∧ ∀ i k, al.contains i = true → al.contains k = true → i < ops.size → k < ops.size → i ≠ k → L.getD i false = true → L.getD k false = true → f i ≠ f k) ∧ ∀ j, j < ops.size → L.getD j false = true → (∀ c, c < ops.size → L.getD c false = true → j ∈ drops c → anc b j c = true) → V j ((rd j).map f) w')) ?_ ?_ ops.size _ a _ ?_ ?_)
 ·rintro L a' w' i (⟨hr0, -⟩ | ⟨hsz, hnm, hcl, f, hag, hSw, ⟨hD1, hD2⟩, hfacts⟩) hr
  ·rw [hr0] at hr; cases hr
  obtain ⟨hun, o, ho, hpre⟩ := mem_ready.1 hr
  have hilt : i < ops.size := ready_lt hr
  have hLi : L.getD i false = false := by
   have : i < L.size := by omega
   simpa [this] using hun
  have hbef : ∀ x, x < ops.size → anc b i x = true → L.getD x false = true := fun x hx ha => by
   rcases hancS i o x ho hx ha with h1 | ⟨y, h1, h2⟩
   ·obtain ⟨e, he, hb, rfl⟩ := mem_pre.1 h1
    exact hpre e he hb
   ·obtain ⟨e, he, hb, rfl⟩ := mem_pre.1 h1
    exact hcl _ x hx (hpre e he hb) h2
  have hF := hfull f
  obtain ⟨hobs, hfin⟩ := h f _ rfl
  generalize yb (ops.toList.take m) 0 f a = F at *
  have hlook : ∀ t, t ∈ o.looksAt ops → a'.tmps[t]? = F.tmps[t]? := fun t ht => by
   by_cases hex : ∃ (j : Nat) (p : Oper), ops[j]? = some p ∧ p.dst = some t
   ·obtain ⟨j, p, hj, hp⟩ := hex
    have hjlt : j < ops.size := (Array.getElem?_eq_some_iff.1 hj).1
    have := List.all_eq_true.1 (List.all_eq_true.1 (List.all_eq_true.1 hlooks _ (mem_zip ho)) t ht) _ (mem_zip hj)
    simp only [hp, bne_self_eq_false, Bool.false_or] at this
    have hLj := hbef j hjlt this
    have hjm : j < m := by
     rcases Nat.lt_or_ge j m with h' | h'
     ·exact h'
     ·rw [hnm j h'] at hLj; cases hLj
    rw [hag.on j p t hj hp hLj, hF.on j p t hj hp (by simpa using hjm)]
   ·have hno : ∀ (j : Nat) (p : Oper), ops[j]? = some p → p.dst ≠ some t := fun j p hj hp => hex ⟨j, p, hj, hp⟩
    rw [hag.off t fun j p hj _ => hno j p hj, hF.off t fun j p hj _ => hno j p hj]
  have hexec : execOp a'.eval o = execOp F.eval o := execOp_congr o (fun cs bl => Region.noSelect_spec hsel i o cs bl ho) fun x hx => by
   cases x with
   | tmp t =>
    have ht : t ∈ o.looksAt ops := List.mem_append_left _ (List.mem_filterMap.2 ⟨.tmp t, by simpa using hx, rfl⟩)
    have := hlook t ht
    simp only [Act.eval, Array.getD_eq_getD_getElem?, this]
   | _ => rfl
  have hwant : Region.wanted o (yielded ops a'.tmps) = Region.wanted o (yielded ops F.tmps) := by
   unfold Region.wanted
   cases hg : o.guard with
   | none => rfl
   | some gw =>
    obtain ⟨g, want⟩ := gw
    have hy : yielded ops a'.tmps g = yielded ops F.tmps g := by
     unfold yielded
     cases ht : (ops[g]?).bind (·.dst) with
     | none => rfl
     | some t =>
      have ht' : t ∈ o.looksAt ops := List.mem_append_right _ (by simp [hg, ht])
      have := hlook t ht'
      simp [this]
    simp only [hy]
  rcases Nat.lt_or_ge i m with him | him
  case inr =>
   have hi : i = m := by omega
   subst hi
   have hmn : i ≠ ops.size := by omega
   have hallm : ∀ x, x < i → L.getD x false = true := fun x hx => hbef x (by omega) (List.all_eq_true.1 (hm3.resolve_left hmn) x (List.mem_range.2 hx))
   have hLeq : ∀ k, L.getD k false = decide (k < i) := fun k => by
    by_cases hk : k < i
    ·rw [hallm k hk]; simp [hk]
    ·rw [hnm k (by omega)]; simp [hk]
   have : a' = F := by
    obtain ⟨t1, d1⟩ := a'
    obtain ⟨t2, d2⟩ := F
    have e1 : d1 = d2 := hag.defers.trans hF.defers.symm
    have e2 : t1 = t2 := by
     apply Array.ext_getElem?
     intro t
     by_cases hex : ∃ (j : Nat) (p : Oper), ops[j]? = some p ∧ p.dst = some t ∧ j < i
     ·obtain ⟨j, p, hj, hp, hji⟩ := hex
      exact (hag.on j p t hj hp (hallm j hji)).trans (hF.on j p t hj hp (by simpa using hji)).symm
     ·exact (hag.off t fun j p hj hl hp => hex ⟨j, p, hj, hp, by rw [hLeq] at hl; simpa using hl⟩).trans (hF.off t fun j p hj hl hp => hex ⟨j, p, hj, hp, by simpa using hl⟩).symm
    rw [e1, e2]
   subst this
   have hfin' := hfin w' hSw (Facts.of _ fun j hj => by
    have := List.all_eq_true.1 hlast j hj
    simp only [Bool.and_eq_true, decide_eq_true_eq] at this
    have hjm : j < i := by simpa using List.all_eq_true.1 hlm j hj
    refine hfacts j this.1 (hallm j hjm) fun c hclt _ hjc => ?_
    have := List.all_eq_true.1 this.2 c (List.mem_range.2 hclt)
    simp only [List.contains_iff_mem.2 hjc, Bool.not_true, Bool.false_or] at this
    exact this)
   unfold Fin at hfin'
   rw [ho] at hfin'
   simp only at hfin'
   have hdone : Region.ready .any ops (L.setIfInBounds i true) = [] := by
    rw [List.eq_nil_iff_forall_not_mem]
    intro x hx
    have h1 := (mem_ready.1 hx).1
    have hxlt := ready_lt hx
    have hxL : x < L.size := by omega
    by_cases hxi : i = x
    ·subst hxi; simp [hxL] at h1
    ·rw [getD_set_ne true hxi] at h1
     have := hallm x (by omega)
     simp [hxL] at this h1
     rw [this] at h1; cases h1
   have hgo := hfin' (fun a2 w2 => Region.ready .any ops (L.setIfInBounds i true) = [] ∧ Q .normal a2 w2) (fun _ _ hq => ⟨hdone, hq⟩)
   unfold wpOp
   simp only [ho]
   split
   ·rename_i hw
    rw [if_pos hw] at hgo
    exact .inl (Oper.wp_mono (fun _ _ h => .inl h) hgo)
   ·rename_i hw
    rw [if_neg hw] at hgo
    exact .inl hgo
  case inl =>
  have hob := zg.at _ _ hobs i o (by rw [List.getElem?_take]; simpa [him] using ho)
  rw [Nat.zero_add] at hob
  have huse' : Facts V rd f w' (use i) := Facts.of _ fun j hj => by
   have := List.all_eq_true.1 (List.all_eq_true.1 huse i (List.mem_range.2 hilt)) j hj
   simp only [Bool.and_eq_true, decide_eq_true_eq] at this
   obtain ⟨⟨hjlt, hji⟩, hc⟩ := this
   refine hfacts j hjlt (hbef j hjlt hji) fun c hclt hLc hjc => ?_
   have := List.all_eq_true.1 hc c (List.mem_range.2 hclt)
   simp only [List.contains_iff_mem.2 hjc, Bool.not_true, Bool.false_or, Bool.or_eq_true, beq_iff_eq] at this
   rcases this with (h1 | h1) | h1
   ·exact h1
   ·subst h1; rw [hLi] at hLc; cases hLc
   ·have := hcl c i hilt hLc h1; rw [hLi] at this; cases this
  have hnext : ∀ v w2, zr al ops.size V rd drops S i f w' v w2 → (L.setIfInBounds i true).size = ops.size ∧ (∀ k, m ≤ k → (L.setIfInBounds i true).getD k false = false) ∧ (∀ k x, x < ops.size → (L.setIfInBounds i true).getD k false = true → anc b k x = true → (L.setIfInBounds i true).getD x false = true) ∧
    ∃ f, xy ops a (fun k => (L.setIfInBounds i true).getD k false) f (a'.put o.dst v) ∧ S w2 ∧ ((∀ k, al.contains k = true → k < ops.size → (L.setIfInBounds i true).getD k false = true → ∃ g, f k = .pointer (some ⟨g, 0, none⟩) ∧ g < w2.heap.size) ∧ ∀ k x, al.contains k = true → al.contains x = true → k < ops.size → x < ops.size → k ≠ x → (L.setIfInBounds i true).getD k false = true → (L.setIfInBounds i true).getD x false = true → f k ≠ f x) ∧ ∀ j, j < ops.size → (L.setIfInBounds i true).getD j false = true → (∀ c, c < ops.size → (L.setIfInBounds i true).getD c false = true → j ∈ drops c → anc b j c = true) → V j ((rd j).map f) w2 := fun v w2 haf => by
   have hset : ∀ k, (L.setIfInBounds i true).getD k false = (L.getD k false || Nat.beq k i) := fun k => by
    by_cases hki : i = k
    ·subst hki
     have : i < L.size := by omega
     simp [this]
    ·rw [getD_set_ne false hki]; simp [Ne.symm hki]
   refine ⟨by simpa using hsz, fun k hk => ?_, fun k x hx hk ha => ?_, upd f i v, (hag.put hd ho hLi v).congr hset, ?_, ⟨fun k hk hkn hLk => ?_, fun k x hk hx hkn hxn hkx hLk hLx => ?_⟩, fun j hj hLj hc => ?_⟩
   ·rw [getD_set_ne false (by omega : i ≠ k)]; exact hnm k hk
   ·by_cases hki : i = k
    ·subst hki; exact getD_set_true (hbef x hx ha)
    ·rw [getD_set_ne false hki] at hk; exact getD_set_true (hcl k x hx hk ha)
   ·rcases haf.2.1 with hb | hb
    ·exact hSgrow _ _ hSw hb
    ·exact hb.2.1
   ·by_cases hki : k = i
    ·subst hki
     rw [xq]
     obtain ⟨g, h1, -, h3⟩ := haf.2.2 hk
     exact ⟨g, h1, h3⟩
    ·rw [jw _ _ hki]
     have hLk' : L.getD k false = true := by rw [hset] at hLk; simpa [hki] using hLk
     obtain ⟨g, h1, h2⟩ := hD1 k hk hkn hLk'
     refine ⟨g, h1, Nat.lt_of_lt_of_le h2 ?_⟩
     rcases haf.2.1 with hb | hb
     ·exact hb.size
     ·exact hb.1
   ·by_cases hki : k = i
    ·subst hki
     have hxi : x ≠ k := fun e => hkx e.symm
     have hLx' : L.getD x false = true := by rw [hset] at hLx; simpa [hxi] using hLx
     rw [xq, jw _ _ hxi]
     obtain ⟨g, h1, h2, -⟩ := haf.2.2 hk
     obtain ⟨g', h3, h4⟩ := hD1 x hx hxn hLx'
     rw [h1, h3]
     intro e
     simp only [Value.pointer.injEq, Option.some.injEq, Addr.mk.injEq, and_true] at e
     omega
    ·have hLk' : L.getD k false = true := by rw [hset] at hLk; simpa [hki] using hLk
     rw [jw _ _ hki]
     by_cases hxi : x = i
     ·subst hxi
      rw [xq]
      obtain ⟨g, h1, h2, -⟩ := haf.2.2 hx
      obtain ⟨g', h3, h4⟩ := hD1 k hk hkn hLk'
      rw [h1, h3]
      intro e
      simp only [Value.pointer.injEq, Option.some.injEq, Addr.mk.injEq, and_true] at e
      omega
     ·have hLx' : L.getD x false = true := by rw [hset] at hLx; simpa [hxi] using hLx
      rw [jw _ _ hxi]
      exact hD2 k x hk hx hkn hxn hkx hLk' hLx'
   ·by_cases hji : j = i
    ·subst hji; exact haf.1
    ·have hLj' : L.getD j false = true := by rw [hset] at hLj; simpa [hji] using hLj
     have hjd : j ∉ drops i := fun hjd => by
      have h1 := hc i hilt (by rw [hset]; simp) hjd
      have := hcl j i hilt hLj' h1
      rw [hLi] at this; cases this
     have hold : V j ((rd j).map f) w' := hfacts j hj hLj' fun c hclt hLc hjc => hc c hclt (getD_set_true hLc) hjc
     have hmap : (rd j).map (upd f i v) = (rd j).map f := List.map_congr_left fun k hk => by
      have := List.all_eq_true.1 (List.all_eq_true.1 hrd j (List.mem_range.2 hj)) k hk
      simp only [Bool.or_eq_true, beq_iff_eq, Bool.and_eq_true, decide_eq_true_eq] at this
      refine jw _ _ ?_
      rcases this with rfl | ⟨hklt, h1⟩
      ·exact hji
      ·rintro rfl
       have := hcl j k hklt hLj' h1
       rw [hLi] at this; cases this
     rw [hmap]
     rcases haf.2.1 with hb | hb
     ·exact hgrow _ _ _ _ hold hb
     ·exact hb.2.2 j hj hji hjd hold
  have hval : ∀ v, jG o (F.put o.dst v) = v ∨ o.dst = none := fun v => by
   unfold jG
   cases hod : o.dst with
   | none => exact .inr rfl
   | some d =>
    have hdl : d < F.tmps.size := by rw [hF.size]; exact dstsOk_lt hd ho hod
    left
    simp [put_some, hdl]
  have hput : ∀ v w2, zr al ops.size V rd drops S i f w' (jG o (F.put o.dst v)) w2 → (fun L a' w' => (Region.ready .any ops L = [] ∧ Q .normal a' w') ∨ (L.size = ops.size ∧ (∀ i, m ≤ i → L.getD i false = false) ∧ (∀ i x, x < ops.size → L.getD i false = true → anc b i x = true → L.getD x false = true) ∧
    ∃ f, xy ops a (fun i => L.getD i false) f a' ∧ S w' ∧ ((∀ i, al.contains i = true → i < ops.size → L.getD i false = true → ∃ g, f i = .pointer (some ⟨g, 0, none⟩) ∧ g < w'.heap.size) ∧ ∀ i k, al.contains i = true → al.contains k = true → i < ops.size → k < ops.size → i ≠ k → L.getD i false = true → L.getD k false = true → f i ≠ f k) ∧ ∀ j, j < ops.size → L.getD j false = true → (∀ c, c < ops.size → L.getD c false = true → j ∈ drops c → anc b j c = true) → V j ((rd j).map f) w')) (L.setIfInBounds i true) (a'.put o.dst v) w2 := fun v w2 haf => by
   refine .inr ?_
   rcases hval v with hv | hv
   ·rw [hv] at haf; exact hnext v w2 haf
   ·have := hnext _ w2 haf
    rw [hv] at this ⊢
    exact this
  have hgo := hob w' hSw huse' (fun k x hk hx hak hax hne => by
   simp only [ancS, Bool.and_eq_true] at hk hx
   have hkn : k < ops.size := by simpa using hk.1
   have hxn : x < ops.size := by simpa using hx.1
   exact hD2 k x hak hax hkn hxn hne (hbef k hkn hk.2) (hbef x hxn hx.2)) (fun a2 w2 => a2.defers = F.defers ∧ zr al ops.size V rd drops S i f w' (jG o a2) w2) (fun _ _ h1 h2 => ⟨h1, h2⟩)
  unfold wpOp
  simp only [ho]
  rw [hwant]
  split
  ·rename_i hw
   rw [if_pos hw] at hgo
   refine .inl ?_
   unfold Oper.wp at *
   rw [hexec]
   generalize (execOp F.eval o).run P w' = r at *
   cases r with
   | ok n w2 =>
    cases n <;> simp only [Oper.upon] at hgo ⊢
    case value v => exact hput v w2 hgo.2
    case skip => exact hput undef w2 hgo.2
    case defer d =>
     exfalso
     have h1 := hgo.1
     have h2 : ({ F with defers := d :: F.defers }.put o.dst undef).defers = d :: F.defers := by cases o.dst <;> rfl
     rw [h2] at h1
     have := congrArg List.length h1
     simp at this
    case enter fn args =>
     refine Calls.mono hgo fun e w3 he => ?_
     cases e with
     | returned v => exact hput v w3 he.2
     | panicked c => exact he.elim
     | outgrown => obtain ⟨_, _, hf⟩ := he; exact hf.elim
    case row row args => exact Rows.mono hgo fun v w3 he => hput v w3 he.2
   | halt x w2 => cases x <;> simp only [Oper.upon] at hgo
  ·rename_i hw
   rw [if_neg hw] at hgo
   exact hput undef w' hgo.2
 ·rintro L a' w' (⟨-, hq⟩ | ⟨hsz, hnm, hcl, f, hag, hSw, ⟨hD1, hD2⟩, hfacts⟩) hr
  ·exact hq
  have hall : ∀ n i, i < n → i < ops.size → L.getD i false = true := fun n => by
   induction n with
   | zero => intro i h; omega
   | succ n ih =>
    intro i hin hi
    by_cases hL : L.getD i false = true
    ·exact hL
    ·exfalso
     have hiL : i < L.size := by omega
     have : i ∈ Region.ready .any ops L := mem_ready.2 ⟨by simpa [hiL] using hL, ops[i], by simp [hi], fun e he hb => by
      have h1 : e.on ∈ pre ops[i] := mem_pre.2 ⟨e, he, hb, rfl⟩
      have h2 := List.all_eq_true.1 (List.all_eq_true.1 hord _ (mem_zip (i := i) (o := ops[i]) (by simp [hi]))) _ h1
      simp only [decide_eq_true_eq] at h2
      exact ih e.on (by omega) (by omega)⟩
     rw [hr] at this; cases this
  have hmn : m = ops.size := by
   rcases Nat.lt_or_ge m ops.size with h' | h'
   ·have h1 := hall (m + 1) m (by omega) h'
    rw [hnm m (zn _)] at h1; cases h1
   ·omega
  have hF := hfull f
  obtain ⟨-, hlst⟩ := h f _ rfl
  generalize yb (ops.toList.take m) 0 f a = F at *
  have : a' = F := by
   obtain ⟨t1, d1⟩ := a'
   obtain ⟨t2, d2⟩ := F
   have e1 : d1 = d2 := hag.defers.trans hF.defers.symm
   have e2 : t1 = t2 := by
    apply Array.ext_getElem?
    intro t
    by_cases hex : ∃ (j : Nat) (p : Oper), ops[j]? = some p ∧ p.dst = some t
    ·obtain ⟨j, p, hj, hp⟩ := hex
     have hjlt : j < ops.size := (Array.getElem?_eq_some_iff.1 hj).1
     exact (hag.on j p t hj hp (hall (j + 1) j (by omega) hjlt)).trans (hF.on j p t hj hp (by simp; omega)).symm
    ·have hno : ∀ (j : Nat) (p : Oper), ops[j]? = some p → p.dst ≠ some t := fun j p hj hp => hex ⟨j, p, hj, hp⟩
     exact (hag.off t fun j p hj _ => hno j p hj).trans (hF.off t fun j p hj _ => hno j p hj).symm
   rw [e1, e2]
  subst this
  have := hlst w' hSw (Facts.of _ fun j hj => by
   have := List.all_eq_true.1 hlast j hj
   simp only [Bool.and_eq_true, decide_eq_true_eq] at this
   refine hfacts j this.1 (hall (j + 1) j (by omega) this.1) fun c hclt _ hjc => ?_
   have := List.all_eq_true.1 this.2 c (List.mem_range.2 hclt)
   simp only [List.contains_iff_mem.2 hjc, Bool.not_true, Bool.false_or] at this
   exact this)
  unfold Fin at this
  rw [hmn] at this
  simpa using this
 ·have : ((List.range ops.size).filter fun i => !(Array.replicate ops.size false).getD i true).length ≤ (List.range ops.size).length := List.length_filter_le _ _
  simpa [todo] using this
 ·have hno : ∀ i, (Array.replicate ops.size false).getD i false = false := fun i => by
   by_cases hi : i < ops.size <;> simp [hi]
  refine .inr ⟨by simp, fun i _ => hno i, fun i x _ hi _ => (by rw [hno] at hi; cases hi), fun _ => undef, (xy.init a _).congr hno, hS, ⟨fun k _ _ hk => (by rw [hno] at hk; cases hk), fun k x _ _ _ _ _ hk => (by rw [hno] at hk; cases hk)⟩, fun j _ hj => (by rw [hno] at hj; cases hj)⟩
end
def nth (l : List (List Nat)) (j : Nat) : List Nat := match l[j]? with | some x => x | none => []
abbrev Fct := List Value → World → Prop
def isV (x : Value) : Fct := fun vs _ => match vs with | [v] => v = x | _ => False
def newV (B : Nat) (o : Obj) : Fct := fun vs w => match vs with | [v] => ∃ g, v = .pointer (some ⟨g, 0, none⟩) ∧ B ≤ g ∧ w.heap[g]? = some o | _ => False
def newR (B : Nat) (t : TypeId) (n : Nat) : Fct := fun vs w => match vs with | [v] => ∃ g cs, v = .pointer (some ⟨g, 0, none⟩) ∧ B ≤ g ∧ w.heap[g]? = some (.cells cs t (0, 0)) ∧ cs.size = n | _ => False
def anyV : Fct := fun _ _ => True
def z5 (l : List Fct) (j : Nat) : Fct := match l[j]? with | some x => x | none => anyV
def zi (x : Fct) : Prop := ∀ vs w w', x vs w → Below w.heap.size w w' → x vs w'
theorem zf {w w' : World} {b : Nat} {o : Obj} (hb : Below w.heap.size w w') (h : w.heap[b]? = some o) : w'.heap[b]? = some o := by
 rw [hb.block b (Array.getElem?_eq_some_iff.1 h).1]; exact h
theorem zc (x : Value) : zi (isV x) := fun _ _ _ h _ => h
theorem zi.anyV : zi anyV := fun _ _ _ h _ => h
theorem zi.newV (B : Nat) (o : Obj) : zi (newV B o) := fun vs w w' h hb => by
 match vs, h with
 | [v], ⟨g, h1, h2, h3⟩ => exact ⟨g, h1, h2, zf hb h3⟩
theorem zi.newR (B : Nat) (t : TypeId) (n : Nat) : zi (newR B t n) := fun vs w w' h hb => by
 match vs, h with
 | [v], ⟨g, cs, h1, h2, h3, h4⟩ => exact ⟨g, cs, h1, h2, zf hb h3, h4⟩
def zb : List Fct → Prop | [] => True | x :: l => zi x ∧ zb l
theorem zy : zb [] := trivial
theorem za {x : Fct} {l : List Fct} (h : zi x) (hl : zb l) : zb (x :: l) := ⟨h, hl⟩
theorem zG : ∀ {l : List Fct}, zb l → ∀ j vs w w', z5 l j vs w → Below w.heap.size w w' → z5 l j vs w'
 | [], _, j, vs, w, w', h, _ => h
 | x :: l, hl, 0, vs, w, w', h, hb => hl.1 vs w w' h hb
 | x :: l, hl, j + 1, vs, w, w', h, hb => by
  have := zG hl.2 j vs w w'
  simp only [z5, List.getElem?_cons_succ] at this h ⊢
  exact this h hb
def ya (ex : List Nat) (rd : List (List Nat)) (f : Nat → Value) (g : Nat) : Nat → List Fct → Prop
 | _, [] => True
 | k, x :: l => (k ∈ ex ∨ ∀ (w : World) cs, x ((nth rd k).map f) w → x ((nth rd k).map f) (w.setRow g cs)) ∧ ya ex rd f g (k + 1) l
section
variable {ex : List Nat} {rd : List (List Nat)} {f : Nat → Value} {g k : Nat} {l : List Fct}
theorem ya.nil : ya ex rd f g k [] := trivial
theorem ya.isV {x : Value} (h : ya ex rd f g (k + 1) l) : ya ex rd f g k (isV x :: l) := ⟨.inr fun _ _ h => h, h⟩
theorem ya.out {x : Fct} (hk : ex.contains k = true) (h : ya ex rd f g (k + 1) l) : ya ex rd f g k (x :: l) := ⟨.inl (by simpa using hk), h⟩
end
theorem ya.of {ex : List Nat} {rd : List (List Nat)} {f : Nat → Value} {g : Nat} : ∀ {l : List Fct} {k : Nat}, ya ex rd f g k l → ∀ j, k + j ∉ ex → ∀ (w : World) cs, z5 l j ((nth rd (k + j)).map f) w → z5 l j ((nth rd (k + j)).map f) (w.setRow g cs)
 | [], _, _, j, _, w, cs, h => h
 | x :: l, k, hl, 0, hj, w, cs, h => (hl.1.resolve_left hj) w cs h
 | x :: l, k, hl, j + 1, hj, w, cs, h => by
  have e : k + (j + 1) = k + 1 + j := by omega
  rw [e] at h hj ⊢
  have := ya.of hl.2 j hj w cs
  simp only [z5, List.getElem?_cons_succ] at this h ⊢
  exact this h
theorem yd {al : List Nat} {A : Nat → Nat → Bool} {P : Program} {ops : Array Oper} {V : Nat → List Value → World → Prop} {rd drops use : Nat → List Nat} {S : World → Prop} {f : Nat → Value} {F : Act} {i : Nat} : zg al A P ops V rd drops use S f F i [] := trivial
theorem zd {al : List Nat} {A : Nat → Nat → Bool} {P : Program} {ops : Array Oper} {V : Nat → List Value → World → Prop} {rd drops use : Nat → List Nat} {S : World → Prop} {f : Nat → Value} {F : Act} {i : Nat} {o : Oper} {os : List Oper} (h : StepOb al A P ops V rd drops use S f F i o) (hs : zg al A P ops V rd drops use S f F (i + 1) os) : zg al A P ops V rd drops use S f F i (o :: os) := ⟨h, hs⟩
def Blocks : List (Nat × Obj) → World → Prop | [], _ => True | x :: l, w => w.heap[x.1]? = some x.2 ∧ Blocks l w
theorem Blocks.grow {w w' : World} (hb : Below w.heap.size w w') : ∀ {l : List (Nat × Obj)}, Blocks l w → Blocks l w'
 | [], _ => trivial
 | _ :: _, h => ⟨zf hb h.1, Blocks.grow hb h.2⟩
def yU (B : Nat) (w0 : World) (N : Nat) (l : List (Nat × Obj)) (w : World) : Prop := Below B w0 w ∧ B ≤ N ∧ N ≤ w.heap.size ∧ (∀ x ∈ l, x.1 < N) ∧ Blocks l w
theorem yU.grow {B : Nat} {w0 : World} {N : Nat} {l : List (Nat × Obj)} (w w' : World) (h : yU B w0 N l w) (hb : Below w.heap.size w w') : yU B w0 N l w' :=
 ⟨h.1.trans (hb.mono (Nat.le_trans h.2.1 h.2.2.1)), h.2.1, Nat.le_trans h.2.2.1 hb.size, h.2.2.2.1, h.2.2.2.2.grow hb⟩
theorem Blocks.set {w : World} {g N : Nat} {cs : Array Value} (hg : N ≤ g) : ∀ {l : List (Nat × Obj)}, (∀ x ∈ l, x.1 < N) → Blocks l w → Blocks l (w.setRow g cs)
 | [], _, _ => trivial
 | x :: l, hl, h => ⟨by rw [setRow_other _ _ _ _ (by have := hl x (by simp); omega)]; exact h.1, Blocks.set hg (fun y hy => hl y (by simp [hy])) h.2⟩
theorem yU.set {B : Nat} {w0 : World} {N : Nat} {l : List (Nat × Obj)} {w : World} {g : Nat} {cs : Array Value} (h : yU B w0 N l w) (hg : N ≤ g) : yU B w0 N l (w.setRow g cs) :=
 ⟨below_setRow h.1 (Nat.le_trans h.2.1 hg) _, h.2.1, by simpa [World.setRow] using h.2.2.1, h.2.2.2.1, h.2.2.2.2.set hg h.2.2.2.1⟩
def rowB (P : Program) (ty : TypeId) (n : Nat) : Bool := (match P.underlying ty with | some (.struct _) | some (.array _ _) => true | _ => false) && (P.info? ty).map (·.size) == some n
theorem wp_load_rowB {P : Program} {o : Oper} {a : Act} {w : World} {K : Act → World → Prop} {Q : Exit → Act → World → Prop} (ty : TypeId) (x : Operand) (ho : o.op = .load ty x)
  (g : Nat) (hx : a.eval x = .pointer (some ⟨g, 0, none⟩)) (t : TypeId) (cs : Array Value) (fr : Nat × Nat) (hg : w.heap[g]? = some (.cells cs t fr)) (hr : rowB P ty cs.size = true)
  (h : K (a.put o.dst (.agg cs)) w) : o.wp P a w K Q := by
 simp only [rowB, Bool.and_eq_true, beq_iff_eq] at hr
 cases hu : P.underlying ty with
 | none => rw [hu] at hr; exact absurd hr.1 (by simp)
 | some d =>
  rw [hu] at hr
  refine wp_load_row ty x ho g hx t cs fr d hg hu ?_ hr.2 h
  have := hr.1
  cases d <;> first | rfl | exact absurd this (by simp)
theorem zq {al : List Nat} {n : Nat} {l : List Fct} {rd : List (List Nat)} {drops : Nat → List Nat} {S : World → Prop} {i : Nat} {f : Nat → Value} {w : World} {x v : Value} (hi : l[i]? = some (isV x)) (hr : rd[i]? = some [i]) (hal : al.contains i = false) (hv : v = x) : zr al n (z5 l) (nth rd) drops S i f w v w := by
 refine ⟨?_, .inl (Below.refl _ _), fun e => by rw [hal] at e; cases e⟩
 simp only [z5, hi, nth, hr, List.map_cons, List.map_nil, xq]
 exact hv
theorem zP {al : List Nat} {n : Nat} {l : List Fct} {rd : List (List Nat)} {drops : Nat → List Nat} {S : World → Prop} {i : Nat} {f : Nat → Value} {w w' : World} {x v : Value} (hi : l[i]? = some (isV x)) (hr : rd[i]? = some [i]) (hal : al.contains i = false) (hb : Below w.heap.size w w') (hv : v = x) : zr al n (z5 l) (nth rd) drops S i f w v w' := by
 refine ⟨?_, .inl hb, fun e => by rw [hal] at e; cases e⟩
 simp only [z5, hi, nth, hr, List.map_cons, List.map_nil, xq]
 exact hv
theorem zr.any {al : List Nat} {n : Nat} {l : List Fct} {rd : List (List Nat)} {drops : Nat → List Nat} {S : World → Prop} {i : Nat} {f : Nat → Value} {w : World} {v : Value} (hi : l[i]? = some anyV) (hal : al.contains i = false) : zr al n (z5 l) (nth rd) drops S i f w v w := by
 refine ⟨?_, .inl (Below.refl _ _), fun e => by rw [hal] at e; cases e⟩
 simp only [z5, hi, anyV]
theorem zr.new {al : List Nat} {n : Nat} {l : List Fct} {rd : List (List Nat)} {drops : Nat → List Nat} {S : World → Prop} {i : Nat} {f : Nat → Value} {w : World} {v : Value} {B : Nat} {t : TypeId} {m : Nat} {cs : Array Value} (hi : l[i]? = some (newR B t m)) (hr : rd[i]? = some [i]) (hB : B ≤ w.heap.size) (hm : cs.size = m) (hv : v = .pointer (some ⟨w.heap.size, 0, none⟩)) : zr al n (z5 l) (nth rd) drops S i f w v (w.alloc (.cells cs t (0, 0))) := by
 refine ⟨?_, .inl ((Below.refl _ _).alloc (zn _) _), fun _ => ⟨_, hv, zn _, by simp⟩⟩
 simp only [z5, hi, nth, hr, List.map_cons, List.map_nil, xq]
 exact ⟨_, cs, hv, hB, heap_alloc_new _ _, hm⟩
theorem zr.set {al : List Nat} {n : Nat} {l : List Fct} {rd : List (List Nat)} {drops : List (List Nat)} {i k : Nat} {f : Nat → Value} {w : World} {v : Value} {B B0 N : Nat} {w0 : World} {bl : List (Nat × Obj)} {t : TypeId} {cs : Array Value} {g : Nat} {c : Array Value} (hi : l[i]? = some (newV B (.cells cs t (0, 0)))) (hr : rd[i]? = some [k]) (hki : Nat.beq k i = false) (hd : drops[i]? = some [k]) (hal : al.contains i = false)
  (hf : f k = .pointer (some ⟨g, 0, none⟩)) (hB : B ≤ g) (hN : N ≤ g) (hg : w.heap[g]? = some (.cells c t (0, 0))) (hS : yU B0 w0 N bl w) (hst : ya [k, i] rd f g 0 l) : zr al n (z5 l) (nth rd) (nth drops) (yU B0 w0 N bl) i f w v (w.setRow g cs) := by
 refine ⟨?_, .inr ⟨by simp [World.setRow], hS.set hN, fun j _ hne hjd h => by
   have := ya.of hst j (fun hm => by
    rw [Nat.zero_add] at hm
    simp only [List.mem_cons, List.not_mem_nil, or_false] at hm
    rcases hm with rfl | rfl
    ·exact hjd (by simp [nth, hd])
    ·exact hne rfl) w cs (by simpa using h)
   simpa using this⟩, fun e => by rw [hal] at e; cases e⟩
 have hk : upd f i v k = f k := by simp [upd, hki]
 simp only [z5, hi, nth, hr, List.map_cons, List.map_nil, hk]
 exact ⟨g, hf, hB, setRow_heap _ _ _ _ _ _ hg⟩
theorem wp_of_value {P : Program} {o : Oper} {a : Act} {w w' : World} {v : Value} {K : Act → World → Prop} {Q : Exit → Act → World → Prop} (h : (execOp a.eval o).run P w = .ok (.value v) w') (hk : K (a.put o.dst v) w') : o.wp P a w K Q := by
 unfold Oper.wp
 rw [h]
 exact hk
theorem exec_load_cell {P : Program} {o : Oper} {a : Act} {w : World} (ty : TypeId) (x : Operand) (ho : o.op = .load ty x) (ad : Addr) (hx : a.eval x = .pointer (some ad)) (v : Value) (hc : w.cell? ad = some v) (hagg : ∀ w, (isAgg ty).run P w = .ok false w) :
  (execOp a.eval o).run P w = .ok (.value v) w := by
 unfold execOp
 simp [ho, hx, Instr.loadAt, Instr.sureAddr, loadVar, hagg, hc]
theorem exec_load_at {P : Program} {o : Oper} {a : Act} {w : World} (ty : TypeId) (x : Operand) (ho : o.op = .load ty x) (g off : Nat) (hx : a.eval x = .pointer (some ⟨g, off, none⟩)) (cs : Array Value) (t : TypeId) (fr : Nat × Nat) (hg : w.heap[g]? = some (.cells cs t fr)) (v : Value) (hc : cs[off]? = some v) (hagg : ∀ w, (isAgg ty).run P w = .ok false w) :
  (execOp a.eval o).run P w = .ok (.value v) w :=
 exec_load_cell ty x ho _ hx v (by rw [cell_of_row w g off cs t fr hg]; exact hc) hagg
theorem xd {P : Program} {o : Oper} {a : Act} {w : World} (ty : TypeId) (x : Operand) (ho : o.op = .load ty x) (g off : Nat) (hx : a.eval x = .pointer (some ⟨g, off, none⟩)) (cs : Array Value) (t : TypeId) (fr : Nat × Nat) (hg : w.heap[g]? = some (.cells cs t fr)) (l : List Value) (hl : (cs.extract off (off + l.length)).toList = l) (hr : rowB P ty l.length = true) :
  (execOp a.eval o).run P w = .ok (.value (.agg l.toArray)) w := by
 simp only [rowB, Bool.and_eq_true, beq_iff_eq] at hr
 have hra := World.rangeAt_of_block hg off l.length
 rw [hl] at hra
 cases hu : P.underlying ty with
 | none => rw [hu] at hr; exact absurd hr.1 (by simp)
 | some d =>
  rw [hu] at hr
  unfold execOp
  have hd : d.isRow = true := by
   have := hr.1
   cases d <;> first | rfl | exact absurd this (by simp)
  simp only [ho, hx, Sem.run_bind, run_loadAt_mid w g off ty l d hra hu hd hr.2, Sem.run_pure, Result.andThen_ok]
theorem wp_store_at {P : Program} {o : Oper} {a : Act} {w : World} {K : Act → World → Prop} {Q : Exit → Act → World → Prop} (ty : TypeId) (x y : Operand) (ho : o.op = .store ty x y) (g off : Nat) (hx : a.eval x = .pointer (some ⟨g, off, none⟩)) (v : Value) (hy : a.eval y = v)
  (cur : Array Value) (t : TypeId) (hg : w.heap[g]? = some (.cells cur t (0, 0))) (vs : List Value) (hv : v.cells.toList = vs) (hle : off + vs.length ≤ cur.size) (hi : (P.info? ty).map (·.size) = some vs.length) (h1 : vs.all (·.oneCell') = true)
  (new : Array Value) (hnew : (cur.toList.take off ++ vs ++ cur.toList.drop (off + vs.length)).toArray = new) (h : K (a.put o.dst undef) (w.setRow g new)) : o.wp P a w K Q := by
 have hst := run_storeCells_at (P := P) g off t vs 0 cur w hg (by omega) (fun u hu => List.all_eq_true.1 h1 u hu)
 simp only [Nat.add_zero, hnew] at hst
 have hsv : (storeVar ty ⟨g, off, none⟩ v).run P w = .ok () (w.setRow g new) := by
  cases hq : P.info? ty with
  | none => simp [hq] at hi
  | some i =>
   have hs : vs.length = i.size := by simp [hq] at hi; omega
   have hs' : v.cells.size = i.size := by rw [← hs, ← hv]; simp
   simp [storeVar, sizeOf, typeInfo, hq, hs', hv, hst]
 unfold Oper.wp execOp
 simp only [ho, hx, hy, Instr.storeAt, Instr.sureAddr, Sem.run_bind, Sem.run_pure, Result.andThen_ok, hsv]
 exact h
theorem yP {P : Program} {ops : Array Oper} {rest : List Oper} {o : Oper} {a : Act} {w : World} {Q : Exit → Act → World → Prop} (hgd : o.guard = none) (ty : TypeId) (x y : Operand) (ho : o.op = .store ty x y) (g off : Nat) (hx : a.eval x = .pointer (some ⟨g, off, none⟩)) (v : Value) (hy : a.eval y = v)
  (cur : Array Value) (t : TypeId) (hg : w.heap[g]? = some (.cells cur t (0, 0))) (vs : List Value) (hv : v.cells.toList = vs) (hle : Nat.ble (off + vs.length) cur.size = true) (hi : (P.info? ty).map (·.size) = some vs.length) (h1 : vs.all (·.oneCell') = true)
  (new : Array Value) (hnew : (cur.toList.take off ++ vs ++ cur.toList.drop (off + vs.length)).toArray = new) (h : wpList P ops Q rest (a.put o.dst undef) (w.setRow g new)) : wpList P ops Q (o :: rest) a w :=
 wpList_plain hgd fun _ hK => wp_store_at ty x y ho g off hx v hy cur t hg vs hv (Nat.le_of_ble_eq_true hle) hi h1 new hnew (hK _ _ h)
theorem wpList_val {P : Program} {ops : Array Oper} {rest : List Oper} {o : Oper} {a : Act} {w w' : World} {Q : Exit → Act → World → Prop} {v : Value} (hw : Region.wanted o (yielded ops a.tmps) = true) (h : (execOp a.eval o).run P w = .ok (.value v) w') (hk : wpList P ops Q rest (a.put o.dst v) w') : wpList P ops Q (o :: rest) a w := by
 refine wpList_step fun K hK => ?_
 rw [if_pos hw]
 exact wp_of_value h (hK _ _ hk)
theorem zx {P : Program} {o : Oper} {a : Act} {w : World} {v : Value} {K : Act → World → Prop} {Q : Exit → Act → World → Prop} (h : (execOp a.eval o).run P w = .ok (.value v) w) (hk : K (a.put o.dst v) w) : o.wp P a w K Q := wp_of_value h hk
end Go.Proofs.Ythebmoggbgldmaa
