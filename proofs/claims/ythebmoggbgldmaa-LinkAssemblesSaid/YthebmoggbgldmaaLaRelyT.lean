/- A region whose order is drawn, by facts, with a tail of several operations that come one after the other. No condition beyond what the law states. -/
import Derived.Test.YthebmoggbgldmaaLaRely
import Derived.OrdersHeld
set_option linter.all false
namespace Go.Proofs.Ythebmoggbgldmaa
open Go Go.RowKit
section
variable {P : Program} {ops : Array Oper} {Q : Exit → Act → World → Prop}
theorem mem_zipM {m i : Nat} {o : Oper} (h : ops[i]? = some o) (hi : i < m) : (o, i) ∈ (ops.toList.take m).zipIdx := by
 rw [List.mem_zipIdx_iff_getElem?, List.getElem?_take]
 simpa [hi] using h
def dstsOkM (ops : Array Oper) (m n : Nat) : Bool :=
 (ops.toList.take m).zipIdx.all fun (o, i) => match o.dst with
  | none => true
  | some t => decide (t < n) && (ops.toList.take m).zipIdx.all fun (p, j) => j == i || p.dst != some t
theorem dstsOkM_lt {m n : Nat} (h : dstsOkM ops m n = true) {i : Nat} {o : Oper} {t : Tmp} (him : i < m) (hi : ops[i]? = some o) (ht : o.dst = some t) : t < n := by
 have := List.all_eq_true.1 h _ (mem_zipM hi him)
 simp only [ht, Bool.and_eq_true, decide_eq_true_eq] at this
 exact this.1
theorem dstsOkM_ne {m n : Nat} (h : dstsOkM ops m n = true) {i j : Nat} {o p : Oper} {t : Tmp} (him : i < m) (hjm : j < m) (hi : ops[i]? = some o) (ht : o.dst = some t) (hj : ops[j]? = some p) (hne : j ≠ i) : p.dst ≠ some t := by
 have := List.all_eq_true.1 h _ (mem_zipM hi him)
 simp only [ht, Bool.and_eq_true, decide_eq_true_eq] at this
 have := List.all_eq_true.1 this.2 _ (mem_zipM hj hjm)
 simp only [Bool.or_eq_true, beq_iff_eq, bne_iff_ne] at this
 exact this.resolve_left hne
theorem agree_putM {a0 a : Act} {L : Nat → Bool} {f : Nat → Value} {m : Nat} (h : xy ops a0 L f a) (hd : dstsOkM ops m a0.tmps.size = true) {i : Nat} {o : Oper} (him : i < m) (hLm : ∀ k, L k = true → k < m) (hi : ops[i]? = some o) (hL : L i = false) (v : Value) :
  xy ops a0 (fun k => L k || Nat.beq k i) (upd f i v) (a.put o.dst v) := by
 cases ho : o.dst with
 | none =>
  refine ⟨h.defers, h.size, fun k p t hk hp hl => ?_, fun t ht => ?_⟩
  ·have hki : k ≠ i := by rintro rfl; rw [hi] at hk; cases hk; rw [ho] at hp; cases hp
   rw [jw _ _ hki]
   refine h.on k p t hk hp ?_
   simpa [hki] using hl
  ·refine h.off t fun k p hk hl => ht k p hk (by simp [hl])
 | some d =>
  have hdl := dstsOkM_lt hd him hi ho
  rw [put_some]
  refine ⟨h.defers, by simpa using h.size, fun k p t hk hp hl => ?_, fun t ht => ?_⟩
  ·by_cases hki : k = i
   ·subst hki
    rw [hi] at hk; cases hk
    rw [ho] at hp; cases hp
    rw [xq]
    simp only [Array.getElem?_setIfInBounds]
    rw [if_pos trivial, if_pos (by rw [h.size]; exact hdl)]
   ·rw [jw _ _ hki]
    have hl' : L k = true := by simpa [hki] using hl
    have hne : d ≠ t := by rintro rfl; exact dstsOkM_ne hd him (hLm k hl') hi ho hk hki hp
    simp only [Array.getElem?_setIfInBounds, if_neg hne]
    exact h.on k p t hk hp hl'
  ·have hne : d ≠ t := by rintro rfl; exact ht i o hi (by simp) ho
   simp only [Array.getElem?_setIfInBounds, if_neg hne]
   exact h.off t fun k p hk hl => ht k p hk (by simp [hl])
theorem full_agreeM (a0 : Act) (f : Nat → Value) {M : Nat} (hd : dstsOkM ops M a0.tmps.size = true) (m : Nat) (hmM : m ≤ M) :
  ∀ (os : List Oper) (k : Nat) (a : Act), (∀ j, os[j]? = if k + j < m then ops[k + j]? else none) → k ≤ m → xy ops a0 (fun i => decide (i < k)) f a → xy ops a0 (fun i => decide (i < m)) f (yb os k f a)
 | [], k, a, hos, hk, h => by
  refine ⟨h.defers, h.size, fun i o t hi ht hl => h.on i o t hi ht ?_, fun t ht => h.off t fun i o hi hl => ht i o hi (by simp at hl ⊢; omega)⟩
  simp only [decide_eq_true_eq] at hl ⊢
  rcases Nat.lt_or_ge i k with h' | h'
  ·exact h'
  ·have := hos (i - k)
   rw [show k + (i - k) = i by omega, if_pos hl, hi] at this
   simp at this
 | o :: os, k, a, hos, hkm, h => by
  have h0 := hos 0
  have hklt : k < m := by
   rcases Nat.lt_or_ge k m with h' | h'
   ·exact h'
   ·rw [if_neg (by omega)] at h0; simp at h0
  have hk : ops[k]? = some o := by rw [Nat.add_zero, if_pos hklt] at h0; simpa using h0.symm
  refine full_agreeM a0 f hd m hmM os (k + 1) _ (fun j => ?_) hklt ?_
  ·have := hos (j + 1)
   rw [show k + (j + 1) = k + 1 + j by omega] at this
   simpa using this
  ·have h1 := agree_putM h hd (by omega) (fun i hi => by simp at hi; omega) hk (by simp) (f k)
   refine (h1.congr fun i => ?_).some fun i _ => ?_
   ·rw [Bool.eq_iff_iff]; simp; omega
   ·by_cases hik : i = k
    ·subst hik; rw [xq]
    ·rw [jw _ _ hik]
def looksOkM (ops : Array Oper) (b : Array Nat) (m : Nat) : Bool :=
 (ops.toList.take m).zipIdx.all fun (o, i) => (o.looksAt ops).all fun t => (ops.toList.take m).zipIdx.all fun (p, j) => p.dst != some t || anc b i j
def rdOkF (ops : Array Oper) (b : Array Nat) (fl : List Nat) (rd : Nat → List Nat) : Bool := (List.range ops.size).all fun j => (rd j).all fun k => k == j || fl.contains k || (decide (k < ops.size) && anc b j k)
def useOkF (ops : Array Oper) (b : Array Nat) (fl : List Nat) (drops use : Nat → List Nat) : Bool :=
 (List.range ops.size).all fun m => (use m).all fun j => decide (j < ops.size) && (anc b m j || fl.contains j) && (List.range ops.size).all fun c => !(drops c).contains j || anc b j c || c == m || anc b c m
def zj (fl : List Nat) (al : List Nat) (A : Nat → Nat → Bool) (P : Program) (ops : Array Oper) (V : Nat → List Value → World → Prop) (rd drops use : Nat → List Nat) (S : World → Prop) (f : Nat → Value) (F : Act) : Nat → List Oper → Prop
 | _, [] => True
 | i, o :: os => (fl.contains i = true ∨ StepOb al A P ops V rd drops use S f F i o) ∧ zj fl al A P ops V rd drops use S f F (i + 1) os
theorem zj.at {fl al : List Nat} {A : Nat → Nat → Bool} {V : Nat → List Value → World → Prop} {rd drops use : Nat → List Nat} {S : World → Prop} {f : Nat → Value} {F : Act} : ∀ (os : List Oper) (k : Nat), zj fl al A P ops V rd drops use S f F k os → ∀ j o, os[j]? = some o → fl.contains (k + j) = true ∨ StepOb al A P ops V rd drops use S f F (k + j) o
 | [], _, _, j, o, h => by simp at h
 | p :: os, k, h, 0, o, ho => by simp at ho; subst ho; exact h.1
 | p :: os, k, h, j + 1, o, ho => by
  have := zj.at os (k + 1) h.2 j o (by simpa using ho)
  rw [show k + (j + 1) = k + 1 + j by omega]
  exact this
theorem yf {fl al : List Nat} {A : Nat → Nat → Bool} {V : Nat → List Value → World → Prop} {rd drops use : Nat → List Nat} {S : World → Prop} {f : Nat → Value} {F : Act} {i : Nat} : zj fl al A P ops V rd drops use S f F i [] := trivial
theorem ze {fl al : List Nat} {A : Nat → Nat → Bool} {V : Nat → List Value → World → Prop} {rd drops use : Nat → List Nat} {S : World → Prop} {f : Nat → Value} {F : Act} {i : Nat} {o : Oper} {os : List Oper} (h : StepOb al A P ops V rd drops use S f F i o) (hs : zj fl al A P ops V rd drops use S f F (i + 1) os) : zj fl al A P ops V rd drops use S f F i (o :: os) := ⟨.inr h, hs⟩
theorem zj.skip {fl al : List Nat} {A : Nat → Nat → Bool} {V : Nat → List Value → World → Prop} {rd drops use : Nat → List Nat} {S : World → Prop} {f : Nat → Value} {F : Act} {i : Nat} {o : Oper} {os : List Oper} (h : fl.contains i = true) (hs : zj fl al A P ops V rd drops use S f F (i + 1) os) : zj fl al A P ops V rd drops use S f F i (o :: os) := ⟨.inl h, hs⟩
def relyOkT (ops : Array Oper) (b : Array Nat) (n m : Nat) (fl : List Nat) (rd drops use : Nat → List Nat) (last : List Nat) : Bool :=
 dstsOkM ops m n && ancOk ops b && orderOk ops && looksOkM ops b m && rdOkF ops b fl rd && useOkF ops b fl drops use && lastOk ops b drops last && Region.noSelect ops && decide (m ≤ ops.size) && (decide (ops.size ≤ m) || (List.range m).all fun i => anc b m i || fl.contains i) &&
  (ops.toList.zipIdx.all fun (o, t) => decide (t ≤ m) || (pre o).contains (t - 1)) && last.all fun j => decide (j < m)
theorem wpAny_relyT {a : Act} {w : World} (m0 : Nat) (fl : List Nat) (fuel : Nat) (L0 : Array Bool) (a0 : Act) (f0 : Nat → Value) (hfuel : todo ops L0 ≤ fuel) (h0 : L0.size = ops.size ∧ (∀ i, m0 ≤ i → L0.getD i false = false) ∧ (∀ k ∈ fl, L0.getD k false = true) ∧ (∀ i x, x < ops.size → L0.getD i false = true → anc (Region.before ops) i x = true → L0.getD x false = true) ∧ xy ops a (fun i => L0.getD i false) f0 a0) (al : List Nat) (V : Nat → List Value → World → Prop) (rd drops use : Nat → List Nat) (last : List Nat) (S : World → Prop)
  (hok : relyOkT ops (Region.before ops) a.tmps.size m0 fl rd drops use last = true)
  (hS : S w) (hal0 : ∀ k, al.contains k = true → L0.getD k false = false) (hV0 : ∀ j, j < ops.size → L0.getD j false = true → V j ((rd j).map f0) w) (hSgrow : ∀ w w', S w → Below w.heap.size w w' → S w')
  (hgrow : ∀ j vs w w', V j vs w → Below w.heap.size w w' → V j vs w')
  (h : ∀ (f : Nat → Value) (F : Act), F = yb (ops.toList.take m0) 0 f a → zj fl al (ancS ops (Region.before ops)) P ops V rd drops use S f F 0 (ops.toList.take m0) ∧ ∀ w', S w' → Facts V rd f w' last → wpList P ops Q (ops.toList.drop m0) F w') :
  wpAny P .any ops Q fuel L0 a0 w := by
 simp only [relyOkT, Bool.and_eq_true, Bool.or_eq_true, decide_eq_true_eq] at hok
 obtain ⟨⟨⟨⟨⟨⟨⟨⟨⟨⟨⟨hd, hanc⟩, hord⟩, hlooks⟩, hrd⟩, huse⟩, hlast⟩, hsel⟩, hm2⟩, hm3⟩, hch⟩, hlm⟩ := hok
 generalize Region.before ops = b at *
 have hchain : ∀ t, m0 < t → t < ops.size → ∀ o, ops[t]? = some o → ∃ e ∈ o.after, Region.binds .any e = true ∧ e.on = t - 1 := fun t h1 h2 o ho => by
  have := List.all_eq_true.1 hch _ (mem_zip ho)
  simp only [Bool.or_eq_true, decide_eq_true_eq] at this
  rcases this with h3 | h3
  ·omega
  ·exact mem_pre.1 (by simpa using h3)
 have tailStep : ∀ {L : Array Bool} {a' : Act} {w' : World} (i j : Nat), m0 ≤ j → L.size = ops.size → (∀ k, k < ops.size → L.getD k false = decide (k < j)) → wpList P ops Q (ops.toList.drop j) a' w' → i ∈ Region.ready .any ops L →
   wpOp P ops Q i (fun a' w' => (∃ j, m0 ≤ j ∧ j ≤ ops.size ∧ (L.setIfInBounds i true).size = ops.size ∧ (∀ k, k < ops.size → (L.setIfInBounds i true).getD k false = decide (k < j)) ∧ wpList P ops Q (ops.toList.drop j) a' w') ∨ ((L.setIfInBounds i true).size = ops.size ∧ (∀ q, m0 ≤ q → (L.setIfInBounds i true).getD q false = false) ∧ (∀ k ∈ fl, (L.setIfInBounds i true).getD k false = true) ∧ (∀ q x, x < ops.size → (L.setIfInBounds i true).getD q false = true → anc b q x = true → (L.setIfInBounds i true).getD x false = true) ∧
  ∃ f, xy ops a (fun q => (L.setIfInBounds i true).getD q false) f a' ∧ S w' ∧ ((∀ q, al.contains q = true → q < ops.size → (L.setIfInBounds i true).getD q false = true → ∃ g, f q = .pointer (some ⟨g, 0, none⟩) ∧ g < w'.heap.size) ∧ ∀ q k, al.contains q = true → al.contains k = true → q < ops.size → k < ops.size → q ≠ k → (L.setIfInBounds i true).getD q false = true → (L.setIfInBounds i true).getD k false = true → f q ≠ f k) ∧ ∀ j, j < ops.size → (L.setIfInBounds i true).getD j false = true → (∀ c, c < ops.size → (L.setIfInBounds i true).getD c false = true → j ∈ drops c → anc b j c = true) → V j ((rd j).map f) w')) a' w' := fun {L a' w'} i j hmj hsz hLj hwl hr => by
  obtain ⟨hun, o, ho, hpre⟩ := mem_ready.1 hr
  have hilt : i < ops.size := ready_lt hr
  have hij : i = j := by
   have hLi : L.getD i false = false := by
    have : i < L.size := by omega
    simpa [this] using hun
   rw [hLj i hilt] at hLi
   have hji : j ≤ i := by simpa using hLi
   rcases Nat.lt_or_ge j i with h' | h'
   ·exfalso
    obtain ⟨e, he, hb, hon⟩ := hchain i (by omega) hilt o ho
    have := hpre e he hb
    rw [hon, hLj _ (by omega)] at this
    simp only [decide_eq_true_eq] at this
    omega
   ·omega
  subst hij
  have hdrop : ops.toList.drop i = o :: ops.toList.drop (i + 1) := by
   have hl : i < ops.toList.length := by simpa using hilt
   rw [List.drop_eq_getElem_cons hl]
   have : ops.toList[i] = o := by
    have := (Array.getElem?_eq_some_iff.1 ho).2
    simpa using this
   rw [this]
  rw [hdrop] at hwl
  have hw : wpOp P ops Q i (wpList P ops Q (ops.toList.drop (i + 1))) a' w' := by unfold wpOp; simp only [ho]; exact hwl
  refine wpOp_mono (fun a2 w2 h2 => .inl ⟨i + 1, by omega, by omega, by simpa using hsz, fun k hk => ?_, h2⟩) hw
  by_cases hki : i = k
  ·subst hki
   have : i < L.size := by omega
   simp [this]
  ·rw [getD_set_ne false hki, hLj k hk]
   by_cases h3 : k < i
   ·simp [h3]; omega
   ·have : ¬ k < i + 1 := by omega
    simp [h3, this]
 have hancS : ∀ i o x, ops[i]? = some o → x < ops.size → anc b i x = true → x ∈ pre o ∨ ∃ y ∈ pre o, anc b y x = true := fun i o x hi hx ha => by
  have := List.all_eq_true.1 (List.all_eq_true.1 hanc _ (mem_zip hi)) x (List.mem_range.2 hx)
  simp only [ha, Bool.not_true, Bool.false_or, Bool.or_eq_true, List.contains_iff_mem, List.any_eq_true] at this
  exact this
 have hfull : ∀ f, xy ops a (fun i => decide (i < m0)) f (yb (ops.toList.take m0) 0 f a) := fun f => by
  refine full_agreeM a f hd m0 (zn _) (ops.toList.take m0) 0 a (fun j => ?_) (by simp) ((xy.init a f).congr fun i => by simp)
  rw [List.getElem?_take]
  simp
 refine wpAny_inv (I := fun L a' w' => (∃ j, m0 ≤ j ∧ j ≤ ops.size ∧ L.size = ops.size ∧ (∀ k, k < ops.size → L.getD k false = decide (k < j)) ∧ wpList P ops Q (ops.toList.drop j) a' w') ∨ (L.size = ops.size ∧ (∀ i, m0 ≤ i → L.getD i false = false) ∧ (∀ k ∈ fl, L.getD k false = true) ∧ (∀ i x, x < ops.size → L.getD i false = true → anc b i x = true → L.getD x false = true) ∧
  ∃ f, xy ops a (fun i => L.getD i false) f a' ∧ S w' ∧ ((∀ i, al.contains i = true → i < ops.size → L.getD i false = true → ∃ g, f i = .pointer (some ⟨g, 0, none⟩) ∧ g < w'.heap.size) ∧ ∀ i k, al.contains i = true → al.contains k = true → i < ops.size → k < ops.size → i ≠ k → L.getD i false = true → L.getD k false = true → f i ≠ f k) ∧ ∀ j, j < ops.size → L.getD j false = true → (∀ c, c < ops.size → L.getD c false = true → j ∈ drops c → anc b j c = true) → V j ((rd j).map f) w')) ?_ ?_ fuel L0 a0 w hfuel ?_
 ·rintro L a' w' i (⟨j, hmj, hjn, hsz, hLj, hwl⟩ | ⟨hsz, hnm, hfl, hcl, f, hag, hSw, ⟨hD1, hD2⟩, hfacts⟩) hr
  ·exact tailStep i j hmj hsz hLj hwl hr
  obtain ⟨hun, o, ho, hpre⟩ := mem_ready.1 hr
  have hilt : i < ops.size := ready_lt hr
  have hLi : L.getD i false = false := by
   have : i < L.size := by omega
   simpa [this] using hun
  have hbef : ∀ x, x < ops.size → anc b i x = true → L.getD x false = true := fun x hx ha => by
   rcases hancS i o x ho hx ha with h1 | ⟨y, h1, h2⟩
   ·obtain ⟨e, he, hb, rfl⟩ := mem_pre.1 h1
    exact hpre e he hb
   ·obtain ⟨e, he, hb, rfl⟩ := mem_pre.1 h1
    exact hcl _ x hx (hpre e he hb) h2
  have hF := hfull f
  obtain ⟨hobs, hfin⟩ := h f _ rfl
  generalize yb (ops.toList.take m0) 0 f a = F at *
  rcases Nat.lt_or_ge i m0 with him | him
  case inr =>
   -- the first operation of the tail
   have hmem : m0 ∈ Region.ready .any ops L ∨ i = m0 := by
    by_cases hi : i = m0
    ·exact .inr hi
    ·exfalso
     have h1 := hchain i (by omega) hilt
     obtain ⟨e, he, hb, hon⟩ := h1 o ho
     have := hpre e he hb
     rw [hon, hnm (i - 1) (by omega)] at this; cases this
   have hi : i = m0 := by
    rcases hmem with h1 | h1
    ·by_cases hi : i = m0
     ·exact hi
     ·exfalso
      have h1 := hchain i (by omega) hilt
      obtain ⟨e, he, hb, hon⟩ := h1 o ho
      have := hpre e he hb
      rw [hon, hnm (i - 1) (by omega)] at this; cases this
    ·exact h1
   subst hi
   have hallm : ∀ x, x < i → L.getD x false = true := fun x hx => by
    rcases hm3 with h1 | h1
    ·omega
    ·have h2 := List.all_eq_true.1 h1 x (List.mem_range.2 hx)
     simp only [Bool.or_eq_true] at h2
     rcases h2 with h2 | h2
     ·exact hbef x (by omega) h2
     ·exact hfl x (by simpa using h2)
   have hLeq : ∀ k, L.getD k false = decide (k < i) := fun k => by
    by_cases hk : k < i
    ·rw [hallm k hk]; simp [hk]
    ·rw [hnm k (by omega)]; simp [hk]
   have : a' = F := by
    obtain ⟨t1, d1⟩ := a'
    obtain ⟨t2, d2⟩ := F
    have e1 : d1 = d2 := hag.defers.trans hF.defers.symm
    have e2 : t1 = t2 := by
     apply Array.ext_getElem?
     intro t
     by_cases hex : ∃ (j : Nat) (p : Oper), ops[j]? = some p ∧ p.dst = some t ∧ j < i
     ·obtain ⟨j, p, hj, hp, hji⟩ := hex
      exact (hag.on j p t hj hp (hallm j hji)).trans (hF.on j p t hj hp (by simpa using hji)).symm
     ·exact (hag.off t fun j p hj hl hp => hex ⟨j, p, hj, hp, by rw [hLeq] at hl; simpa using hl⟩).trans (hF.off t fun j p hj hl hp => hex ⟨j, p, hj, hp, by simpa using hl⟩).symm
    rw [e1, e2]
   subst this
   have hfin' := hfin w' hSw (Facts.of _ fun j hj => by
    have := List.all_eq_true.1 hlast j hj
    simp only [Bool.and_eq_true, decide_eq_true_eq] at this
    have hjm : j < i := by simpa using List.all_eq_true.1 hlm j hj
    refine hfacts j this.1 (hallm j hjm) fun c hclt hLc hjc => ?_
    have := List.all_eq_true.1 this.2 c (List.mem_range.2 hclt)
    simp only [List.contains_iff_mem.2 hjc, Bool.not_true, Bool.false_or] at this
    exact this)
   exact tailStep i i (zn _) hsz (fun k _ => hLeq k) hfin' hr
  case inl =>
  have hlook : ∀ t, t ∈ o.looksAt ops → a'.tmps[t]? = F.tmps[t]? := fun t ht => by
   by_cases hex : ∃ (j : Nat) (p : Oper), ops[j]? = some p ∧ p.dst = some t ∧ j < m0
   ·obtain ⟨j, p, hj, hp, hjm⟩ := hex
    have hjlt : j < ops.size := (Array.getElem?_eq_some_iff.1 hj).1
    have := List.all_eq_true.1 (List.all_eq_true.1 (List.all_eq_true.1 hlooks _ (mem_zipM ho him)) t ht) _ (mem_zipM hj hjm)
    simp only [hp, bne_self_eq_false, Bool.false_or] at this
    have hLj := hbef j hjlt this
    rw [hag.on j p t hj hp hLj, hF.on j p t hj hp (by simpa using hjm)]
   ·rw [hag.off t fun j p hj hl hp => hex ⟨j, p, hj, hp, by
     rcases Nat.lt_or_ge j m0 with h' | h'
     ·exact h'
     ·rw [hnm j h'] at hl; cases hl⟩, hF.off t fun j p hj hl hp => hex ⟨j, p, hj, hp, by simpa using hl⟩]
  have hexec : execOp a'.eval o = execOp F.eval o := execOp_congr o (fun cs bl => Region.noSelect_spec hsel i o cs bl ho) fun x hx => by
   cases x with
   | tmp t =>
    have ht : t ∈ o.looksAt ops := List.mem_append_left _ (List.mem_filterMap.2 ⟨.tmp t, by simpa using hx, rfl⟩)
    have := hlook t ht
    simp only [Act.eval, Array.getD_eq_getD_getElem?, this]
   | _ => rfl
  have hwant : Region.wanted o (yielded ops a'.tmps) = Region.wanted o (yielded ops F.tmps) := by
   unfold Region.wanted
   cases hg : o.guard with
   | none => rfl
   | some gw =>
    obtain ⟨g, want⟩ := gw
    have hy : yielded ops a'.tmps g = yielded ops F.tmps g := by
     unfold yielded
     cases ht : (ops[g]?).bind (·.dst) with
     | none => rfl
     | some t =>
      have ht' : t ∈ o.looksAt ops := List.mem_append_right _ (by simp [hg, ht])
      have := hlook t ht'
      simp [this]
    simp only [hy]
  have hob := (zj.at _ _ hobs i o (by rw [List.getElem?_take]; simpa [him] using ho)).resolve_left (fun e => by
   rw [Nat.zero_add] at e
   have := hfl i (by simpa using e)
   rw [hLi] at this; cases this)
  rw [Nat.zero_add] at hob
  have huse' : Facts V rd f w' (use i) := Facts.of _ fun j hj => by
   have := List.all_eq_true.1 (List.all_eq_true.1 huse i (List.mem_range.2 hilt)) j hj
   simp only [Bool.and_eq_true, decide_eq_true_eq] at this
   obtain ⟨⟨hjlt, hji⟩, hc⟩ := this
   have hLj : L.getD j false = true := by
    simp only [Bool.or_eq_true] at hji
    rcases hji with hji | hji
    ·exact hbef j hjlt hji
    ·exact hfl j (by simpa using hji)
   refine hfacts j hjlt hLj fun c hclt hLc hjc => ?_
   have := List.all_eq_true.1 hc c (List.mem_range.2 hclt)
   simp only [List.contains_iff_mem.2 hjc, Bool.not_true, Bool.false_or, Bool.or_eq_true, beq_iff_eq] at this
   rcases this with (h1 | h1) | h1
   ·exact h1
   ·subst h1; rw [hLi] at hLc; cases hLc
   ·have := hcl c i hilt hLc h1; rw [hLi] at this; cases this
  have hnext : ∀ v w2, zr al ops.size V rd drops S i f w' v w2 → (L.setIfInBounds i true).size = ops.size ∧ (∀ k, m0 ≤ k → (L.setIfInBounds i true).getD k false = false) ∧ (∀ k ∈ fl, (L.setIfInBounds i true).getD k false = true) ∧ (∀ k x, x < ops.size → (L.setIfInBounds i true).getD k false = true → anc b k x = true → (L.setIfInBounds i true).getD x false = true) ∧
    ∃ f, xy ops a (fun k => (L.setIfInBounds i true).getD k false) f (a'.put o.dst v) ∧ S w2 ∧ ((∀ k, al.contains k = true → k < ops.size → (L.setIfInBounds i true).getD k false = true → ∃ g, f k = .pointer (some ⟨g, 0, none⟩) ∧ g < w2.heap.size) ∧ ∀ k x, al.contains k = true → al.contains x = true → k < ops.size → x < ops.size → k ≠ x → (L.setIfInBounds i true).getD k false = true → (L.setIfInBounds i true).getD x false = true → f k ≠ f x) ∧ ∀ j, j < ops.size → (L.setIfInBounds i true).getD j false = true → (∀ c, c < ops.size → (L.setIfInBounds i true).getD c false = true → j ∈ drops c → anc b j c = true) → V j ((rd j).map f) w2 := fun v w2 haf => by
   have hset : ∀ k, (L.setIfInBounds i true).getD k false = (L.getD k false || Nat.beq k i) := fun k => by
    by_cases hki : i = k
    ·subst hki
     have : i < L.size := by omega
     simp [this]
    ·rw [getD_set_ne false hki]; simp [Ne.symm hki]
   refine ⟨by simpa using hsz, fun k hk => ?_, fun k hk => getD_set_true (hfl k hk), fun k x hx hk ha => ?_, upd f i v, (agree_putM hag hd him (fun k hk => by
    rcases Nat.lt_or_ge k m0 with h' | h'
    ·exact h'
    ·rw [hnm k h'] at hk; cases hk) ho hLi v).congr hset, ?_, ⟨fun k hk hkn hLk => ?_, fun k x hk hx hkn hxn hkx hLk hLx => ?_⟩, fun j hj hLj hc => ?_⟩
   ·rw [getD_set_ne false (by omega : i ≠ k)]; exact hnm k hk
   ·by_cases hki : i = k
    ·subst hki; exact getD_set_true (hbef x hx ha)
    ·rw [getD_set_ne false hki] at hk; exact getD_set_true (hcl k x hx hk ha)
   ·rcases haf.2.1 with hb | hb
    ·exact hSgrow _ _ hSw hb
    ·exact hb.2.1
   ·by_cases hki : k = i
    ·subst hki
     rw [xq]
     obtain ⟨g, h1, -, h3⟩ := haf.2.2 hk
     exact ⟨g, h1, h3⟩
    ·rw [jw _ _ hki]
     have hLk' : L.getD k false = true := by rw [hset] at hLk; simpa [hki] using hLk
     obtain ⟨g, h1, h2⟩ := hD1 k hk hkn hLk'
     refine ⟨g, h1, Nat.lt_of_lt_of_le h2 ?_⟩
     rcases haf.2.1 with hb | hb
     ·exact hb.size
     ·exact hb.1
   ·by_cases hki : k = i
    ·subst hki
     have hxi : x ≠ k := fun e => hkx e.symm
     have hLx' : L.getD x false = true := by rw [hset] at hLx; simpa [hxi] using hLx
     rw [xq, jw _ _ hxi]
     obtain ⟨g, h1, h2, -⟩ := haf.2.2 hk
     obtain ⟨g', h3, h4⟩ := hD1 x hx hxn hLx'
     rw [h1, h3]
     intro e
     simp only [Value.pointer.injEq, Option.some.injEq, Addr.mk.injEq, and_true] at e
     omega
    ·have hLk' : L.getD k false = true := by rw [hset] at hLk; simpa [hki] using hLk
     rw [jw _ _ hki]
     by_cases hxi : x = i
     ·subst hxi
      rw [xq]
      obtain ⟨g, h1, h2, -⟩ := haf.2.2 hx
      obtain ⟨g', h3, h4⟩ := hD1 k hk hkn hLk'
      rw [h1, h3]
      intro e
      simp only [Value.pointer.injEq, Option.some.injEq, Addr.mk.injEq, and_true] at e
      omega
     ·have hLx' : L.getD x false = true := by rw [hset] at hLx; simpa [hxi] using hLx
      rw [jw _ _ hxi]
      exact hD2 k x hk hx hkn hxn hkx hLk' hLx'
   ·by_cases hji : j = i
    ·subst hji; exact haf.1
    ·have hLj' : L.getD j false = true := by rw [hset] at hLj; simpa [hji] using hLj
     have hjd : j ∉ drops i := fun hjd => by
      have h1 := hc i hilt (by rw [hset]; simp) hjd
      have := hcl j i hilt hLj' h1
      rw [hLi] at this; cases this
     have hold : V j ((rd j).map f) w' := hfacts j hj hLj' fun c hclt hLc hjc => hc c hclt (getD_set_true hLc) hjc
     have hmap : (rd j).map (upd f i v) = (rd j).map f := List.map_congr_left fun k hk => by
      have := List.all_eq_true.1 (List.all_eq_true.1 hrd j (List.mem_range.2 hj)) k hk
      simp only [Bool.or_eq_true, beq_iff_eq, Bool.and_eq_true, decide_eq_true_eq] at this
      refine jw _ _ ?_
      rcases this with (rfl | h1) | ⟨hklt, h1⟩
      ·exact hji
      ·rintro rfl
       have := hfl k (by simpa using h1)
       rw [hLi] at this; cases this
      ·rintro rfl
       have := hcl j k hklt hLj' h1
       rw [hLi] at this; cases this
     rw [hmap]
     rcases haf.2.1 with hb | hb
     ·exact hgrow _ _ _ _ hold hb
     ·exact hb.2.2 j hj hji hjd hold
  have hval : ∀ v, jG o (F.put o.dst v) = v ∨ o.dst = none := fun v => by
   unfold jG
   cases hod : o.dst with
   | none => exact .inr rfl
   | some d =>
    have hdl : d < F.tmps.size := by rw [hF.size]; exact dstsOkM_lt hd him ho hod
    left
    simp [put_some, hdl]
  have hput : ∀ v w2, zr al ops.size V rd drops S i f w' (jG o (F.put o.dst v)) w2 → (fun L a' w' => (∃ j, m0 ≤ j ∧ j ≤ ops.size ∧ L.size = ops.size ∧ (∀ k, k < ops.size → L.getD k false = decide (k < j)) ∧ wpList P ops Q (ops.toList.drop j) a' w') ∨ (L.size = ops.size ∧ (∀ i, m0 ≤ i → L.getD i false = false) ∧ (∀ k ∈ fl, L.getD k false = true) ∧ (∀ i x, x < ops.size → L.getD i false = true → anc b i x = true → L.getD x false = true) ∧
    ∃ f, xy ops a (fun i => L.getD i false) f a' ∧ S w' ∧ ((∀ i, al.contains i = true → i < ops.size → L.getD i false = true → ∃ g, f i = .pointer (some ⟨g, 0, none⟩) ∧ g < w'.heap.size) ∧ ∀ i k, al.contains i = true → al.contains k = true → i < ops.size → k < ops.size → i ≠ k → L.getD i false = true → L.getD k false = true → f i ≠ f k) ∧ ∀ j, j < ops.size → L.getD j false = true → (∀ c, c < ops.size → L.getD c false = true → j ∈ drops c → anc b j c = true) → V j ((rd j).map f) w')) (L.setIfInBounds i true) (a'.put o.dst v) w2 := fun v w2 haf => by
   refine .inr ?_
   rcases hval v with hv | hv
   ·rw [hv] at haf; exact hnext v w2 haf
   ·have := hnext _ w2 haf
    rw [hv] at this ⊢
    exact this
  have hgo := hob w' hSw huse' (fun k x hk hx hak hax hne => by
   simp only [ancS, Bool.and_eq_true] at hk hx
   have hkn : k < ops.size := by simpa using hk.1
   have hxn : x < ops.size := by simpa using hx.1
   exact hD2 k x hak hax hkn hxn hne (hbef k hkn hk.2) (hbef x hxn hx.2)) (fun a2 w2 => a2.defers = F.defers ∧ zr al ops.size V rd drops S i f w' (jG o a2) w2) (fun _ _ h1 h2 => ⟨h1, h2⟩)
  unfold wpOp
  simp only [ho]
  rw [hwant]
  split
  ·rename_i hw
   rw [if_pos hw] at hgo
   refine .inl ?_
   unfold Oper.wp at *
   rw [hexec]
   generalize (execOp F.eval o).run P w' = r at *
   cases r with
   | ok n w2 =>
    cases n <;> simp only [Oper.upon] at hgo ⊢
    case value v => exact hput v w2 hgo.2
    case skip => exact hput undef w2 hgo.2
    case defer d =>
     exfalso
     have h1 := hgo.1
     have h2 : ({ F with defers := d :: F.defers }.put o.dst undef).defers = d :: F.defers := by cases o.dst <;> rfl
     rw [h2] at h1
     have := congrArg List.length h1
     simp at this
    case enter fn args =>
     refine Calls.mono hgo fun e w3 he => ?_
     cases e with
     | returned v => exact hput v w3 he.2
     | panicked c => exact he.elim
     | outgrown => obtain ⟨_, _, hf⟩ := he; exact hf.elim
    case row row args => exact Rows.mono hgo fun v w3 he => hput v w3 he.2
   | halt x w2 => cases x <;> simp only [Oper.upon] at hgo
  ·rename_i hw
   rw [if_neg hw] at hgo
   exact hput undef w' hgo.2
 ·rintro L a' w' (⟨j, hmj, hjn, hsz, hLj, hwl⟩ | ⟨hsz, hnm, hfl, hcl, f, hag, hSw, ⟨hD1, hD2⟩, hfacts⟩) hr
  ·rcases Nat.lt_or_ge j ops.size with hlt | hge
   ·exfalso
    have : j ∈ Region.ready .any ops L := mem_ready.2 ⟨by have := hLj j hlt; have hjL : j < L.size := (by omega); simp [hjL] at this ⊢; exact this, ops[j], by simp [hlt], fun e he hb => by
     have h1 : e.on ∈ pre ops[j] := mem_pre.2 ⟨e, he, hb, rfl⟩
     have h2 := List.all_eq_true.1 (List.all_eq_true.1 hord _ (mem_zip (i := j) (o := ops[j]) (by simp [hlt]))) _ h1
     simp only [decide_eq_true_eq] at h2
     rw [hLj e.on (by omega)]; simp [h2]⟩
    rw [hr] at this; cases this
   ·have : j = ops.size := by omega
    subst this
    have e : ops.toList.drop ops.size = [] := by simp
    rw [e] at hwl
    exact hwl
  have hall : ∀ n i, i < n → i < ops.size → L.getD i false = true := fun n => by
   induction n with
   | zero => intro i h; omega
   | succ n ih =>
    intro i hin hi
    by_cases hL : L.getD i false = true
    ·exact hL
    ·exfalso
     have hiL : i < L.size := by omega
     have : i ∈ Region.ready .any ops L := mem_ready.2 ⟨by simpa [hiL] using hL, ops[i], by simp [hi], fun e he hb => by
      have h1 : e.on ∈ pre ops[i] := mem_pre.2 ⟨e, he, hb, rfl⟩
      have h2 := List.all_eq_true.1 (List.all_eq_true.1 hord _ (mem_zip (i := i) (o := ops[i]) (by simp [hi]))) _ h1
      simp only [decide_eq_true_eq] at h2
      exact ih e.on (by omega) (by omega)⟩
     rw [hr] at this; cases this
  have hmn : m0 = ops.size := by
   rcases Nat.lt_or_ge m0 ops.size with h' | h'
   ·have h1 := hall (m0 + 1) m0 (by omega) h'
    rw [hnm m0 (zn _)] at h1; cases h1
   ·omega
  have hF := hfull f
  obtain ⟨-, hlst⟩ := h f _ rfl
  generalize yb (ops.toList.take m0) 0 f a = F at *
  have : a' = F := by
   obtain ⟨t1, d1⟩ := a'
   obtain ⟨t2, d2⟩ := F
   have e1 : d1 = d2 := hag.defers.trans hF.defers.symm
   have e2 : t1 = t2 := by
    apply Array.ext_getElem?
    intro t
    by_cases hex : ∃ (j : Nat) (p : Oper), ops[j]? = some p ∧ p.dst = some t
    ·obtain ⟨j, p, hj, hp⟩ := hex
     have hjlt : j < ops.size := (Array.getElem?_eq_some_iff.1 hj).1
     exact (hag.on j p t hj hp (hall (j + 1) j (by omega) hjlt)).trans (hF.on j p t hj hp (by simp; omega)).symm
    ·have hno : ∀ (j : Nat) (p : Oper), ops[j]? = some p → p.dst ≠ some t := fun j p hj hp => hex ⟨j, p, hj, hp⟩
     exact (hag.off t fun j p hj _ => hno j p hj).trans (hF.off t fun j p hj _ => hno j p hj).symm
   rw [e1, e2]
  subst this
  have hfin := hlst w' hSw (Facts.of _ fun j hj => by
   have := List.all_eq_true.1 hlast j hj
   simp only [Bool.and_eq_true, decide_eq_true_eq] at this
   refine hfacts j this.1 (hall (j + 1) j (by omega) this.1) fun c hclt _ hjc => ?_
   have := List.all_eq_true.1 this.2 c (List.mem_range.2 hclt)
   simp only [List.contains_iff_mem.2 hjc, Bool.not_true, Bool.false_or] at this
   exact this)
  have e : ops.toList.drop m0 = [] := by rw [hmn]; simp
  rw [e] at hfin
  exact hfin
 ·obtain ⟨h1, h2, h3, h4, h5⟩ := h0
  exact .inr ⟨h1, h2, h3, h4, f0, h5, hS, ⟨fun k hk _ hL => (by rw [hal0 k hk] at hL; cases hL), fun k x hk _ _ _ _ hL => (by rw [hal0 k hk] at hL; cases hL)⟩, fun j hj hL _ => hV0 j hj hL⟩
theorem ye {id : Nat} {a : Act} {w : World} (al : List Nat) (m : Nat) (V : Nat → List Value → World → Prop) (rd drops use : Nat → List Nat) (last : List Nat) (S : World → Prop)
  (hm : P.follows .mixedOrders = true) (hok : relyOkT ops (Region.before ops) a.tmps.size m [] rd drops use last = true)
  (hS : S w.drew) (hSgrow : ∀ w w', S w → Below w.heap.size w w' → S w')
  (hgrow : ∀ j vs w w', V j vs w → Below w.heap.size w w' → V j vs w')
  (h : ∀ (f : Nat → Value) (F : Act), F = yb (ops.toList.take m) 0 f a → zj [] al (ancS ops (Region.before ops)) P ops V rd drops use S f F 0 (ops.toList.take m) ∧ ∀ w', S w' → Facts V rd f w' last → wpList P ops Q (ops.toList.drop m) F w') :
  (Code.region id ops true).wp P Q a w := by
 have hno : ∀ i, (Array.replicate ops.size false).getD i false = false := fun i => by
  by_cases hi : i < ops.size <;> simp [hi]
 refine wp_region_any hm (wpAny_relyT m [] ops.size _ a (fun _ => undef) ?_ ⟨by simp, fun i _ => hno i, fun k hk => by simp at hk, fun i x _ hi _ => (by rw [hno] at hi; cases hi), (xy.init a _).congr hno⟩ al V rd drops use last S hok hS (fun k _ => hno k) (fun j _ hj => (by rw [hno] at hj; cases hj)) hSgrow hgrow h)
 have : ((List.range ops.size).filter fun i => !(Array.replicate ops.size false).getD i true).length ≤ (List.range ops.size).length := List.length_filter_le _ _
 simpa [todo] using this
theorem wpAnyH_of_any : ∀ (fuel : Nat) (L : Array Bool) (a : Act) (w : World), wpAny P .any ops Q fuel L a w → wpAnyH P .any ops Q (fun _ => True) fuel L a w
 | 0, _, _, _, h => h
 | fuel + 1, _, _, _, h => ⟨h.1, fun i hi => wpOp_mono (fun a' w' h' => ⟨trivial, wpAnyH_of_any fuel _ a' w' h'⟩) (h.2 i hi)⟩
theorem xK {id : Nat} {a : Act} {w : World} (i0 : Nat) (o0 : Oper) (v0 : Value) (al : List Nat) (m : Nat) (V : Nat → List Value → World → Prop) (rd drops use : Nat → List Nat) (last : List Nat) (S : World → Prop)
  (hm : P.follows .mixedOrders = true) (hok : relyOkT ops (Region.before ops) a.tmps.size m [i0] rd drops use last = true) (ho : ops[i0]? = some o0)
  (hi0 : (decide (i0 < m) && !al.contains i0 && (List.range ops.size).all fun x => !anc (Region.before ops) i0 x) = true)
  (hfree : Region.free .any ops (Array.replicate ops.size false) i0 = true) (hr : (Region.ready .any ops (Array.replicate ops.size false)).contains i0 = true)
  (hQ : ∀ c a w, Q (.panic c) (a.put o0.dst v0) w → Q (.panic c) a w) (hy : Region.wanted o0 (yielded ops a.tmps) = true ∧ ∀ w, (execOp a.eval o0).run P w = .ok (.value v0) w)
  (hV : V i0 ((rd i0).map (upd (fun _ => undef) i0 v0)) w.drew)
  (hS : S w.drew) (hSgrow : ∀ w w', S w → Below w.heap.size w w' → S w')
  (hgrow : ∀ j vs w w', V j vs w → Below w.heap.size w w' → V j vs w')
  (h : ∀ (f : Nat → Value) (F : Act), F = yb (ops.toList.take m) 0 f a → zj [i0] al (ancS ops (Region.before ops)) P ops V rd drops use S f F 0 (ops.toList.take m) ∧ ∀ w', S w' → Facts V rd f w' last → wpList P ops Q (ops.toList.drop m) F w') :
  (Code.region id ops true).wp P Q a w := by
 have hok' := hok
 simp only [relyOkT, Bool.and_eq_true, Bool.or_eq_true, decide_eq_true_eq] at hok'
 obtain ⟨⟨⟨⟨⟨⟨⟨⟨⟨⟨⟨hd, hanc⟩, hord⟩, hlooks⟩, hrd⟩, huse⟩, hlast⟩, hsel⟩, hm2⟩, hm3⟩, hch⟩, hlm⟩ := hok'
 simp only [Bool.and_eq_true, decide_eq_true_eq, Bool.not_eq_true', List.all_eq_true] at hi0
 obtain ⟨⟨him, hal⟩, hna⟩ := hi0
 have hno : ∀ i, (Array.replicate ops.size false).getD i false = false := fun i => by
  by_cases hi : i < ops.size <;> simp [hi]
 have hilt : i0 < ops.size := (Array.getElem?_eq_some_iff.1 ho).1
 have hset : ∀ k, ((Array.replicate ops.size false).setIfInBounds i0 true).getD k false = (false || Nat.beq k i0) := fun k => by
  by_cases hki : i0 = k
  ·subst hki; simp [hilt]
  ·rw [getD_set_ne false hki, hno, Bool.false_or]; symm; rw [Bool.eq_false_iff]; intro e; exact hki (Nat.eq_of_beq_eq_true e).symm
 have hone : ∀ k, ((Array.replicate ops.size false).setIfInBounds i0 true).getD k false = true → k = i0 := fun k hk => by
  rw [hset] at hk; simpa using hk
 refine wp_region_any hm ?_
 obtain ⟨n, hn⟩ : ∃ n, ops.size = n + 1 := ⟨ops.size - 1, by omega⟩
 have key : wpAny P .any ops Q n ((Array.replicate ops.size false).setIfInBounds i0 true) (a.put o0.dst v0) w.drew := by
  refine wpAny_relyT (a := a) m [i0] n _ _ (upd (fun _ => undef) i0 v0) ?_ ⟨by simp, fun i hi => ?_, fun k hk => ?_, fun i x hx hi ha => ?_, ?_⟩ al V rd drops use last S hok hS (fun k hk => ?_) (fun j _ hj => ?_) hSgrow hgrow h
  ·have h1 := todo_set (ops := ops) (L := Array.replicate ops.size false) (i := i0) hilt (by simp [hilt])
   have h2 : ((List.range ops.size).filter fun i => !(Array.replicate ops.size false).getD i true).length ≤ (List.range ops.size).length := List.length_filter_le _ _
   have h3 : todo ops (Array.replicate ops.size false) ≤ ops.size := by simpa [todo] using h2
   omega
  ·cases hc : ((Array.replicate ops.size false).setIfInBounds i0 true).getD i false with
   | false => rfl
   | true => have := hone i hc; omega
  ·have : k = i0 := by simpa using hk
   subst this; rw [hset]; simp
  ·have := hone i hi
   subst this
   have := hna x (List.mem_range.2 hx)
   rw [ha] at this; cases this
  ·exact (agree_putM ((xy.init a (fun _ => undef)).congr (L' := fun _ => false) (fun _ => rfl)) hd him (fun k hk => by cases hk) ho rfl v0).congr hset
  ·cases hc : ((Array.replicate ops.size false).setIfInBounds i0 true).getD k false with
   | false => rfl
   | true => have := hone k hc; subst this; rw [hk] at hal; cases hal
  ·have := hone j hj
   subst this
   exact hV
 have h2 := wpAnyH_take (P := P) (ops := ops) (Q := Q) (S := fun _ => True) (i := i0) (oi := o0) (v := v0) (fuel := n) (listed := Array.replicate ops.size false) (a := a) (w := w.drew) ho hsel hfree hr hQ (Or.inl ⟨hy.1, fun w _ => hy.2 w⟩) trivial (wpAnyH_of_any _ _ _ _ key)
 rw [← hn] at h2
 exact wpAny_of_held _ _ _ _ h2
end
def isVK (x : Value) (p : World → Prop) : Fct := fun vs w => match vs with | [v] => v = x ∧ p w | _ => False
def xw (w w' : World) : List Fct → Prop | [] => True | x :: l => (∀ vs, x vs w → x vs w') ∧ xw w w' l
theorem xw.nil {w w' : World} : xw w w' [] := trivial
theorem xp {w w' : World} {x : Value} {l : List Fct} (h : xw w w' l) : xw w w' (isV x :: l) := ⟨fun _ h => h, h⟩
theorem xw.of {w w' : World} : ∀ {l : List Fct}, xw w w' l → ∀ j vs, z5 l j vs w → z5 l j vs w'
 | [], _, j, vs, h => h
 | x :: l, hl, 0, vs, h => hl.1 vs h
 | x :: l, hl, j + 1, vs, h => by
  have := xw.of hl.2 j vs
  simp only [z5, List.getElem?_cons_succ] at this h ⊢
  exact this h
theorem zr.litS {al : List Nat} {n : Nat} {l : List Fct} {rd : List (List Nat)} {drops : Nat → List Nat} {S : World → Prop} {i : Nat} {f : Nat → Value} {w w' : World} {x v : Value} (hi : l[i]? = some (isV x)) (hr : rd[i]? = some [i]) (hal : al.contains i = false) (hsz : w.heap.size ≤ w'.heap.size) (hS : S w') (hst : xw w w' l) (hv : v = x) : zr al n (z5 l) (nth rd) drops S i f w v w' := by
 refine ⟨?_, .inr ⟨hsz, hS, fun j _ _ _ h => hst.of j _ h⟩, fun e => by rw [hal] at e; cases e⟩
 simp only [z5, hi, nth, hr, List.map_cons, List.map_nil, xq]
 exact hv
def isVs (xs : List Value) (p : World → Prop) : Fct := fun vs w => vs = xs ∧ p w
theorem jt (xs : List Value) {p : World → Prop} (hp : ∀ w w', p w → Below w.heap.size w w' → p w') : zi (isVs xs p) := fun _ w w' h hb => ⟨h.1, hp _ _ h.2 hb⟩
def zm (ex : List Nat) (w w' : World) : Nat → List Fct → Prop | _, [] => True | k, x :: l => (k ∈ ex ∨ ∀ vs, x vs w → x vs w') ∧ zm ex w w' (k + 1) l
theorem ym {ex : List Nat} {w w' : World} {k : Nat} : zm ex w w' k [] := trivial
theorem zk {ex : List Nat} {w w' : World} {k : Nat} {x : Value} {l : List Fct} (h : zm ex w w' (k + 1) l) : zm ex w w' k (isV x :: l) := ⟨.inr fun _ h => h, h⟩
theorem xf {ex : List Nat} {w w' : World} {k : Nat} {l : List Fct} (h : zm ex w w' (k + 1) l) : zm ex w w' k (anyV :: l) := ⟨.inr fun _ h => h, h⟩
theorem yc {ex : List Nat} {w w' : World} {k : Nat} {x : Fct} {l : List Fct} (hk : ex.contains k = true) (h : zm ex w w' (k + 1) l) : zm ex w w' k (x :: l) := ⟨.inl (by simpa using hk), h⟩
theorem zm.of {ex : List Nat} {w w' : World} : ∀ {l : List Fct} {k : Nat}, zm ex w w' k l → ∀ j vs, k + j ∉ ex → z5 l j vs w → z5 l j vs w'
 | [], _, _, j, vs, _, h => h
 | x :: l, k, hl, 0, vs, hj, h => (hl.1.resolve_left hj) vs h
 | x :: l, k, hl, j + 1, vs, hj, h => by
  have e : k + (j + 1) = k + 1 + j := by omega
  rw [e] at hj
  have := zm.of hl.2 j vs hj
  simp only [z5, List.getElem?_cons_succ] at this h ⊢
  exact this h
theorem zr.gen {al : List Nat} {n : Nat} {l : List Fct} {rd drops : List (List Nat)} {S : World → Prop} {i : Nat} {f : Nat → Value} {w w' : World} {v : Value} {xs : List Value} {p : World → Prop} {r dr : List Nat} (hi : l[i]? = some (isVs xs p)) (hr : rd[i]? = some r) (hd : drops[i]? = some dr) (hal : al.contains i = false) (hsz : w.heap.size ≤ w'.heap.size) (hS : S w') (hst : zm (i :: dr) w w' 0 l) (hp : p w') (hv : r.map (upd f i v) = xs) : zr al n (z5 l) (nth rd) (nth drops) S i f w v w' := by
 refine ⟨?_, .inr ⟨hsz, hS, fun j _ hne hjd h => hst.of j _ (fun hm => by
  rw [Nat.zero_add] at hm
  rcases List.mem_cons.1 hm with e | e
  ·exact hne e
  ·exact hjd (by simpa [nth, hd] using e)) h⟩, fun e => by rw [hal] at e; cases e⟩
 simp only [z5, hi, nth, hr]
 exact ⟨hv, hp⟩
def newS (B : Nat) (o : Obj) (n : Nat) : Fct := fun vs w => match vs with | [v] => ∃ g, v = .slice (some ⟨g, 0, none⟩) n n ∧ B ≤ g ∧ w.heap[g]? = some o | _ => False
theorem yZ (B : Nat) (o : Obj) (n : Nat) : zi (newS B o n) := fun vs w w' h hb => by
 match vs, h with
 | [v], ⟨g, h1, h2, h3⟩ => exact ⟨g, h1, h2, zf hb h3⟩
theorem y0 {al : List Nat} {n : Nat} {l : List Fct} {rd : List (List Nat)} {drops : Nat → List Nat} {S : World → Prop} {i : Nat} {f : Nat → Value} {w : World} {v : Value} {B : Nat} {o : Obj} {m : Nat} (hi : l[i]? = some (newS B o m)) (hr : rd[i]? = some [i]) (hal : al.contains i = false) (hB : B ≤ w.heap.size) (hv : v = .slice (some ⟨w.heap.size, 0, none⟩) m m) : zr al n (z5 l) (nth rd) drops S i f w v (w.alloc o) := by
 refine ⟨?_, .inl ((Below.refl _ _).alloc (zn _) _), fun e => by rw [hal] at e; cases e⟩
 simp only [z5, hi, nth, hr, List.map_cons, List.map_nil, xq]
 exact ⟨_, hv, hB, heap_alloc_new _ _⟩
end Go.Proofs.Ythebmoggbgldmaa
