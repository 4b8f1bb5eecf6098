/- Maps from ints to ints, read as plain functions: lookup, store, range. No condition beyond what each law states. -/
import Derived.Test.YtepmgnhblegiiaaDoorRely
import Derived.Test.YtepmgnhblegiiaaDoorPlE
import Derived.Maps.RangeWalk
import Derived.Maps.OwnSet
import Derived.Maps.OwnOps
import Derived.Maps.Ext
set_option linter.all false
namespace Go.Proofs.YtepmgnhblegiiaaDoor
open Go Go.RowKit Go.Maps

theorem heap_setCell_same {w : World} {g i : Nat} {cs : Array Value} {t : TypeId} {fr : Nat × Nat} (h : w.heap[g]? = some (.cells cs t fr)) (v : Value) : (w.setCell ⟨g, i, none⟩ v).heap[g]? = some (.cells (cs.setIfInBounds i v) t fr) := by
  have hlt := (Array.getElem?_eq_some_iff.1 h).1
  have h' : w.heap[g] = .cells cs t fr := by simpa [Array.getElem?_eq_getElem hlt] using h
  show (w.heap.modify g _)[g]? = _
  rw [Array.getElem?_eq_getElem (by simpa using hlt), Array.getElem_modify_self, h']
  rfl
theorem heap_setCell_other {w : World} {g i k : Nat} (h : k ≠ g) (v : Value) : (w.setCell ⟨g, i, none⟩ v).heap[k]? = w.heap[k]? := Below.heap_setCell _ _ _ _ h

/-- Nothing has turned but the blocks of bs, and new ones. -/
structure Turn (bs : Nat → Prop) (w w' : World) : Prop where
  os : w'.os = w.os
  tape : w'.tape = w.tape
  output : w'.output = w.output
  size : w.heap.size ≤ w'.heap.size
  block : ∀ k, k < w.heap.size → ¬ bs k → w'.heap[k]? = w.heap[k]?
theorem Turn.refl (bs : Nat → Prop) (w : World) : Turn bs w w := ⟨rfl, rfl, rfl, Nat.le_refl _, fun _ _ _ => rfl⟩
theorem Turn.trans {bs cs : Nat → Prop} {a b c : World} (h : Turn bs a b) (k : Turn cs b c) (hs : ∀ x, x < a.heap.size → cs x → bs x) : Turn bs a c :=
  ⟨k.os.trans h.os, k.tape.trans h.tape, k.output.trans h.output, Nat.le_trans h.size k.size, fun x hx hb => (k.block x (Nat.lt_of_lt_of_le hx h.size) (fun e => hb (hs x hx e))).trans (h.block x hx hb)⟩
theorem Turn.mono {bs cs : Nat → Prop} {a b : World} (h : Turn bs a b) (hs : ∀ x, x < a.heap.size → bs x → cs x) : Turn cs a b := ⟨h.os, h.tape, h.output, h.size, fun x hx hb => h.block x hx fun e => hb (hs x hx e)⟩
theorem Turn.drew {bs : Nat → Prop} {a b : World} (h : Turn bs a b) : Turn bs a b.drew := ⟨h.os, h.tape, h.output, h.size, h.block⟩
theorem Turn.drewN {bs : Nat → Prop} {a b : World} (h : Turn bs a b) (n : Nat) : Turn bs a (b.drewN n) := ⟨h.os, h.tape, h.output, h.size, h.block⟩
theorem Turn.ofDrew {bs : Nat → Prop} {a b : World} (h : Turn bs a.drew b) : Turn bs a b := ⟨h.os, h.tape, h.output, h.size, h.block⟩
theorem Turn.alloc {bs : Nat → Prop} {a b : World} (h : Turn bs a b) (o : Obj) : Turn bs a (b.alloc o) :=
  ⟨h.os, h.tape, h.output, Nat.le_trans h.size (by simp), fun k hk hb => (Below.heap_alloc _ _ _ (Nat.lt_of_lt_of_le hk h.size)).trans (h.block k hk hb)⟩
theorem Turn.setCell {bs : Nat → Prop} {a b : World} (h : Turn bs a b) {g i : Nat} (v : Value) (hg : g < a.heap.size → bs g) : Turn bs a (b.setCell ⟨g, i, none⟩ v) :=
  ⟨h.os, h.tape, h.output, Nat.le_trans h.size (by simp [World.setCell]), fun k hk hb => (heap_setCell_other (by rintro rfl; exact hb (hg hk)) v).trans (h.block k hk hb)⟩
theorem Turn.setRow {bs : Nat → Prop} {a b : World} (h : Turn bs a b) {g : Nat} (cs : Array Value) (hg : g < a.heap.size → bs g) : Turn bs a (b.setRow g cs) :=
  ⟨h.os, h.tape, h.output, Nat.le_trans h.size (by simp [World.setRow]), fun k hk hb => (setRow_other _ _ _ _ (by rintro rfl; exact hb (hg hk))).trans (h.block k hk hb)⟩
theorem Turn.grown {bs : Nat → Prop} {a b c : World} (h : Turn bs a b) {row : Option Nat} (hg : b.grownBy c row) (hr : ∀ k, row = some k → k < a.heap.size → bs k) : Turn bs a c :=
  ⟨hg.os.trans h.os, hg.tape.trans h.tape, hg.output.trans h.output, Nat.le_trans h.size hg.size, fun k hk hb => (hg.block k (Nat.lt_of_lt_of_le hk h.size) (fun e => hb (hr k e.symm hk))).trans (h.block k hk hb)⟩
theorem Turn.below {bs : Nat → Prop} {a b c : World} (h : Turn bs a b) {B : Nat} (hb : Below B b c) (hr : ∀ k, B ≤ k → k < a.heap.size → bs k) : Turn bs a c :=
  ⟨hb.os.trans h.os, hb.tape.trans h.tape, hb.output.trans h.output, Nat.le_trans h.size hb.size, fun k hk hbs => by
    rcases Nat.lt_or_ge k B with hk' | hk'
    · exact (hb.block k hk').trans (h.block k hk hbs)
    · exact absurd (hr k hk' hk) hbs⟩
theorem Turn.toBelow {bs : Nat → Prop} {a b : World} {B : Nat} (h : Turn bs a b) (hB : B ≤ a.heap.size) (hs : ∀ k, bs k → B ≤ k) : Below B a b :=
  ⟨h.os, h.tape, h.output, h.size, fun k hk => h.block k (Nat.lt_of_lt_of_le hk hB) (fun e => by have := hs k e; omega)⟩
theorem Turn.ofBelow {bs : Nat → Prop} {a b : World} (h : Below a.heap.size a b) : Turn bs a b := ⟨h.os, h.tape, h.output, h.size, fun k hk _ => h.block k hk⟩
theorem Turn.heap {bs : Nat → Prop} {a b : World} (h : Turn bs a b) {k : Nat} {o : Obj} (hk : a.heap[k]? = some o) (hb : ¬ bs k) : b.heap[k]? = some o := by
  rw [h.block k (Array.getElem?_eq_some_iff.1 hk).1 hb]; exact hk

def keyL (k : Int) : Lit := .int .i64 k
/-- What a map holds at an int. -/
def viewD (D : DataW Unit) (k : Int) : Option Int := if Maps.has D (keyL k) then (match D.atKey (keyL k) (.lit (.int .i64 0)) with | .lit (.int _ c) => some c | _ => none) else none
theorem keyL_key (k : Int) : WideAt.IsKeyLit (keyL k) := trivial
theorem keyL_inj {a b : Int} (h : keyL a = keyL b) : a = b := by injection h
theorem keyL_same (a b : Int) : (keyL a).sameKey (keyL b) = (a == b) := by
  by_cases h : a = b
  · subst h; rw [WideAt.sameKey_self (keyL_key a)]; simp
  · rw [sameKey_ne (fun e => h (keyL_inj e))]; simp [h]

section
variable (P : Program) (I : TypeId)
/-- Block g is a map that holds F. -/
def MapW (g : Nat) (F : Int → Option Int) (w : World) : Prop := ∃ D : DataW Unit, w.ownsMap P I (plainElem P I) g (Maps.size D) D ∧ (∀ k, viewD D k = F k)
/-- Block r ranges over the map of block g. -/
def RangeW (g r : Nat) (F : Int → Option Int) (left : Int → Bool) (cnt : Nat) (w : World) : Prop :=
  ∃ (D : DataW Unit) (lf : Lit → Bool), w.ranges P I (plainElem P I) g r (Maps.size D) D lf cnt ∧ (∀ k, viewD D k = F k) ∧ ∀ k, lf (keyL k) = left k
end

section
variable {P : Program} {I : TypeId} (hI : P.underlying I = some (.int .i64)) {w : World} {g : Nat} {F : Int → Option Int}
include hI
theorem keyOf_i64 {k : Int} (hk : i64ok k) : keyOf P I (.int .i64 k) = some (keyL k) := keyOf_int_mk hI (WalkArith.wf_i64 hk)
theorem plain_i64 {c : Int} (hc : i64ok c) : plainElem (H := Unit) P I (.int .i64 c) = some (.lit (.int .i64 c), []) := plainElem_int hI (WalkArith.wf_i64 hc)
omit hI in
theorem tight {n : Nat} {D : DataW Unit} (h : w.ownsMap P I (plainElem P I) g n D) : w.ownsMap P I (plainElem P I) g (Maps.size D) D := by
  obtain ⟨es, clock, hb, hf, hs, rfl⟩ := h
  refine ⟨es, clock, hb, hf, ?_, rfl⟩
  have : ((es.toList.map (WideElems.rg P I (plainElem (H := Unit) P I))).foldr DataW.insert []).length = es.size := length_read es
  show es.size ≤ List.length _
  omega
/-- What reads in an owned map is an int. -/
theorem at_int {n : Nat} {D : DataW Unit} (h : w.ownsMap P I (plainElem P I) g n D) {t : TypeId} (ht : P.underlying t = some (.map I I)) (hz : (zeroValue I).run P w = .ok (.int .i64 0) w) {k : Int} (hk : i64ok k) :
    ∃ c, (Instr.lookup t (.map (some g)) (.int .i64 k) false).run P w = .ok (.int .i64 c) w ∧ D.atKey (keyL k) (.lit (.int .i64 0)) = .lit (.int .i64 c) ∧ i64ok c := by
  obtain ⟨c, h1, h2, h3⟩ := h.lookup_int (int_keyed hI) ht hI hz (keyOf_i64 hI hk)
  refine ⟨c, h1, h2, ?_⟩
  simp only [Lit.wf, Bool.and_eq_true, decide_eq_true_eq] at h3
  exact ⟨h3.1, h3.2⟩
omit hI in
theorem viewD_some {D : DataW Unit} {k c : Int} (h : D.atKey (keyL k) (.lit (.int .i64 0)) = .lit (.int .i64 c)) : viewD D k = if Maps.has D (keyL k) then some c else none := by
  unfold viewD
  rw [h]
omit hI in
theorem viewD_get {D : DataW Unit} {k c : Int} (h : D.atKey (keyL k) (.lit (.int .i64 0)) = .lit (.int .i64 c)) : (viewD D k).getD 0 = c ∧ (viewD D k).isSome = Maps.has D (keyL k) := by
  rw [viewD_some h]
  cases hh : Maps.has D (keyL k) with
  | true => simp
  | false =>
    rw [atKey_of_not_has hh] at h
    injection h with h
    injection h with _ h
    subst h
    simp

variable {ops : Array Oper} {rest : List Oper} {o : Oper} {a : Act} {Q : Exit → Act → World → Prop}
/-- 'v, ok := m[k]'. -/
theorem wpList_lookup_ok (hgd : o.guard = none) (m x : Operand) (t : TypeId) (hop : o.op = Op.lookup t m x true) (ht : P.underlying t = some (.map I I)) (hz : (zeroValue I).run P w = .ok (.int .i64 0) w)
    (hm : a.eval m = .map (some g)) (h : MapW P I g F w) (k : Int) (hx : a.eval x = .int .i64 k) (hk : i64ok k)
    (hK : wpList P ops Q rest (a.put o.dst (.tuple #[.int .i64 ((F k).getD 0), .bool (F k).isSome])) w) : wpList P ops Q (o :: rest) a w := by
  obtain ⟨D, hown, hv⟩ := h
  refine wpList_lookup_own_ok_int w hgd m x t hop I I .i64 (int_keyed hI) ht hI hz g _ D hm hown _ (keyL k) hx (keyOf_i64 hI hk) fun c hat _ => ?_
  obtain ⟨h1, h2⟩ := viewD_get hat
  rw [hv] at h1 h2
  rw [← h1, ← h2]
  exact hK
theorem wpList_lookup_some (hgd : o.guard = none) (m x : Operand) (t : TypeId) (hop : o.op = Op.lookup t m x true) (ht : P.underlying t = some (.map I I)) (hz : (zeroValue I).run P w = .ok (.int .i64 0) w)
    (hm : a.eval m = .map (some g)) (h : MapW P I g F w) (k c : Int) (hx : a.eval x = .int .i64 k) (hk : i64ok k) (hF : F k = some c)
    (hK : wpList P ops Q rest (a.put o.dst (.tuple #[.int .i64 c, .bool true])) w) : wpList P ops Q (o :: rest) a w :=
  wpList_lookup_ok hI hgd m x t hop ht hz hm h k hx hk (by rw [hF]; exact hK)
theorem wpList_lookup_none (hgd : o.guard = none) (m x : Operand) (t : TypeId) (hop : o.op = Op.lookup t m x true) (ht : P.underlying t = some (.map I I)) (hz : (zeroValue I).run P w = .ok (.int .i64 0) w)
    (hm : a.eval m = .map (some g)) (h : MapW P I g F w) (k : Int) (hx : a.eval x = .int .i64 k) (hk : i64ok k) (hF : F k = none)
    (hK : wpList P ops Q rest (a.put o.dst (.tuple #[.int .i64 0, .bool false])) w) : wpList P ops Q (o :: rest) a w :=
  wpList_lookup_ok hI hgd m x t hop ht hz hm h k hx hk (by rw [hF]; exact hK)
/-- 'v := m[k]'. -/
theorem wpList_lookup_one (hgd : o.guard = none) (m x : Operand) (t : TypeId) (hop : o.op = Op.lookup t m x false) (ht : P.underlying t = some (.map I I)) (hz : (zeroValue I).run P w = .ok (.int .i64 0) w)
    (hm : a.eval m = .map (some g)) (h : MapW P I g F w) (k : Int) (hx : a.eval x = .int .i64 k) (hk : i64ok k)
    (hK : wpList P ops Q rest (a.put o.dst (.int .i64 ((F k).getD 0))) w) : wpList P ops Q (o :: rest) a w := by
  obtain ⟨D, hown, hv⟩ := h
  refine wpList_lookup_own_int w hgd m x t hop I I .i64 (int_keyed hI) ht hI hz g _ D hm hown _ (keyL k) hx (keyOf_i64 hI hk) fun c hat _ => ?_
  obtain ⟨h1, h2⟩ := viewD_get hat
  rw [hv] at h1
  rw [← h1]
  exact hK

/-- The look-up as an equation. -/
theorem exec_lookup_view {o : Oper} {a : Act} {m x : Operand} {t : TypeId} (hop : o.op = Op.lookup t m x true) (ht : P.underlying t = some (.map I I)) (hz : (zeroValue I).run P w = .ok (.int .i64 0) w)
    (hm : a.eval m = .map (some g)) (h : MapW P I g F w) {k : Int} (hx : a.eval x = .int .i64 k) (hk : i64ok k) : (execOp a.eval o).run P w = .ok (.value (.tuple #[.int .i64 ((F k).getD 0), .bool (F k).isSome])) w := by
  obtain ⟨D, hown, hv⟩ := h
  obtain ⟨v, ps, hrun, hr⟩ := hown.look_ok (int_keyed hI) ht hz (plain_i64 hI (by unfold i64ok; omega)) (keyOf_i64 hI hk)
  obtain ⟨c, rfl, hc, -⟩ := plainElem_int_inv hI hr
  have hat : D.atKey (keyL k) (.lit (.int .i64 0)) = .lit (.int .i64 c) := congrArg Prod.fst hc
  obtain ⟨h1, h2⟩ := viewD_get hat
  rw [hv] at h1 h2
  rw [h1, h2]
  unfold execOp
  simp [hop, hm, hx, hrun, Result.andThen]
theorem exec_lookup_some {o : Oper} {a : Act} {m x : Operand} {t : TypeId} (hop : o.op = Op.lookup t m x true) (ht : P.underlying t = some (.map I I)) (hz : (zeroValue I).run P w = .ok (.int .i64 0) w)
    (hm : a.eval m = .map (some g)) (h : MapW P I g F w) {k c : Int} (hx : a.eval x = .int .i64 k) (hk : i64ok k) (hF : F k = some c) : (execOp a.eval o).run P w = .ok (.value (.tuple #[.int .i64 c, .bool true])) w := by
  have := exec_lookup_view hI hop ht hz hm h hx hk
  rw [hF] at this
  exact this
theorem exec_lookup_none {o : Oper} {a : Act} {m x : Operand} {t : TypeId} (hop : o.op = Op.lookup t m x true) (ht : P.underlying t = some (.map I I)) (hz : (zeroValue I).run P w = .ok (.int .i64 0) w)
    (hm : a.eval m = .map (some g)) (h : MapW P I g F w) {k : Int} (hx : a.eval x = .int .i64 k) (hk : i64ok k) (hF : F k = none) : (execOp a.eval o).run P w = .ok (.value (.tuple #[.int .i64 0, .bool false])) w := by
  have := exec_lookup_view hI hop ht hz hm h hx hk
  rw [hF] at this
  exact this

omit hI in
/-- Different ints from 0 on below n are at most n. -/
theorem few : ∀ (n : Nat) (l : List Int), l.Pairwise (fun x y => x ≠ y) → (∀ x ∈ l, 0 ≤ x ∧ x < n) → l.length ≤ n
  | 0, [], _, _ => Nat.le_refl _
  | 0, x :: l, _, h => by have := h x (by simp); omega
  | n + 1, l, hp, h => by
    have h1 := few n (l.filter fun x => decide (x ≠ (n : Int))) (hp.filter _) (fun x hx => by
      rw [List.mem_filter] at hx
      have := h x hx.1
      have h2 : x ≠ (n : Int) := by simpa using hx.2
      omega)
    have h2 : ∀ l : List Int, l.Pairwise (fun x y => x ≠ y) → l.length ≤ (l.filter fun x => decide (x ≠ (n : Int))).length + 1 := fun l => by
      induction l with
      | nil => simp
      | cons y l ih =>
        intro hp
        rw [List.pairwise_cons] at hp
        by_cases hy : y = (n : Int)
        · have : l.filter (fun x => decide (x ≠ (n : Int))) = l := List.filter_eq_self.2 fun x hx => by
            have := hp.1 x hx
            simp only [decide_eq_true_eq]
            omega
          have e : decide (y ≠ (n : Int)) = false := by simpa using hy
          rw [List.filter_cons, e, this]
          simp
        · have := ih hp.2
          have e : decide (y ≠ (n : Int)) = true := by simpa using hy
          rw [List.filter_cons, e]
          simp only [↓reduceIte, List.length_cons]
          omega
    have := h2 l hp
    omega
/-- A map whose keys are the ints from 0 on below n has at most n entries. -/
theorem size_few {n m : Nat} {D : DataW Unit} (h : w.ownsMap P I (plainElem P I) g m D) (hF : ∀ k, viewD D k ≠ none → 0 ≤ k ∧ k < n) {t : TypeId} (ht : P.underlying t = some (.map I I)) (hz : (zeroValue I).run P w = .ok (.int .i64 0) w) : Maps.size D ≤ n := by
  have hown := h
  obtain ⟨es, clock, hb, hf, hs, rfl⟩ := h
  obtain ⟨es', e1, hp, -⟩ := hown.entries (int_keyed hI)
  injection e1 with e1
  subst e1
  -- each key is an int
  have hkey : ∀ p ∈ (es.toList.map (WideElems.rg P I (plainElem (H := Unit) P I))).foldr DataW.insert [], ∃ k, p.1 = keyL k ∧ i64ok k := fun p hp => by
    obtain ⟨x, hx, rfl⟩ := List.mem_map.1 (mem_sorted.1 hp)
    obtain ⟨y, hy⟩ := hf.reads x hx
    obtain ⟨k, e2, e3, h3⟩ := Maps.keyOf_int_inv hI (WideElems.rd_key hy)
    rw [WideElems.rg_of hy]
    simp only [Lit.wf, Bool.and_eq_true, decide_eq_true_eq] at h3
    exact ⟨k, e3, h3.1, h3.2⟩
  have hlen : ((es.toList.map (WideElems.rg P I (plainElem (H := Unit) P I))).foldr DataW.insert []).length = (((es.toList.map (WideElems.rg P I (plainElem (H := Unit) P I))).foldr DataW.insert []).map fun p => match p.1 with | .int _ k => k | _ => 0).length := by simp
  show List.length _ ≤ n
  rw [hlen]
  refine few n _ ?_ fun x hx => ?_
  · rw [List.pairwise_map]
    refine hp.imp_of_mem fun {p q} hpm hqm hne e => hne ?_
    obtain ⟨k, hk, -⟩ := hkey p hpm
    obtain ⟨j, hj, -⟩ := hkey q hqm
    rw [hk, hj] at e ⊢
    exact congrArg keyL e
  · obtain ⟨p, hpm, rfl⟩ := List.mem_map.1 hx
    obtain ⟨k, hk, hok⟩ := hkey p hpm
    have e : (match p.1 with | .int _ k => k | _ => 0) = k := by rw [hk]; rfl
    rw [e]
    apply hF
    obtain ⟨c, -, hat, -⟩ := at_int hI hown ht hz hok
    have := (viewD_get hat).2
    have hh : Maps.has (DataW.map ((es.toList.map (WideElems.rg P I (plainElem (H := Unit) P I))).foldr DataW.insert [])) (keyL k) = true :=
      List.any_eq_true.2 ⟨p, hpm, by rw [hk, keyL_same]; simp⟩
    rw [hh] at this
    intro e
    rw [e] at this
    cases this

/-- 'm[k] = c'. -/
theorem wpList_update_ii (hgd : o.guard = none) (m x v : Operand) (t : TypeId) (hop : o.op = Op.mapUpdate t m x v) (ht : P.underlying t = some (.map I I)) (hz : (zeroValue I).run P w = .ok (.int .i64 0) w)
    (hm : a.eval m = .map (some g)) (h : MapW P I g F w) (hF : ∀ k, F k ≠ none → 0 ≤ k ∧ k < 65536) (k c : Int) (hx : a.eval x = .int .i64 k) (hk : i64ok k) (hv : a.eval v = .int .i64 c) (hc : i64ok c)
    (hK : ∀ w', MapW P I g (setF F k c) w' → w.grownBy w' (some g) → wpList P ops Q rest (a.put o.dst undef) w') : wpList P ops Q (o :: rest) a w := by
  obtain ⟨D, hown, hvw⟩ := h
  have hs : Maps.size D ≤ 65536 := size_few hI hown (n := 65536) (fun k hk => by rw [hvw] at hk; exact hF k hk) ht hz
  refine wpList_mapUpdate_own w hgd m x v t hop I I (int_keyed hI) ht (plainElem P I) g _ D hm hown (by unfold maxLen; omega) _ _ (keyL k) hx hv (keyOf_i64 hI hk) _ [] (plain_i64 hI hc) fun w' h' hg => hK w' ⟨_, tight h', fun j => ?_⟩ hg
  unfold setF
  split
  · rename_i e; subst e
    unfold viewD
    rw [has_put_same hown.isMap (keyL_key j), atKey_put_same hown.isMap (keyL_key j)]
    rfl
  · rename_i e
    rw [← hvw j]
    have hne : keyL j ≠ keyL k := fun q => e (keyL_inj q)
    unfold viewD
    rw [has_put_other hne, atKey_put_other hne]

/-- 'range m'. -/
theorem wpList_range_ii (hgd : o.guard = none) (m : Operand) (t : TypeId) (hop : o.op = Op.range t m) (ht : P.underlying t = some (.map I I)) (hz : (zeroValue I).run P w = .ok (.int .i64 0) w) (hm : a.eval m = .map (some g)) (h : MapW P I g F w) (hF : ∀ k, F k ≠ none → 0 ≤ k ∧ k < 65536)
    (hK : ∀ w' cnt, RangeW P I g w.heap.size F (fun k => (F k).isSome) cnt w' → cnt ≤ 65536 → w.grownBy w' none → w'.heap.size = w.heap.size + 1 → wpList P ops Q rest (a.put o.dst (.pointer (some ⟨w.heap.size, 0, none⟩))) w') : wpList P ops Q (o :: rest) a w := by
  obtain ⟨D, hown, hv⟩ := h
  refine wpList_range_own w hgd m t hop I I (int_keyed hI) ht (plainElem P I) g _ D hm hown fun w' h1 h2 h3 => hK w' _ ⟨D, _, h1, hv, fun k => ?_⟩ (size_few hI hown (n := 65536) (fun k hk => by rw [hv] at hk; exact hF k hk) ht hz) h2 h3
  have hF : ∀ k, F k ≠ none → i64ok k := fun k hk => by have := hF k hk; unfold i64ok; omega
  show Maps.has D (keyL k) = (F k).isSome
  by_cases hk : i64ok k
  · obtain ⟨c, -, hat, -⟩ := at_int hI hown ht hz hk
    rw [← hv k]; exact (viewD_get hat).2.symm
  · have hn : F k = none := Classical.byContradiction fun e => hk (hF k e)
    rw [hn]
    rw [← hv k] at hn
    cases hh : Maps.has D (keyL k) with
    | false => rfl
    | true =>
      exfalso
      obtain ⟨es, clock, hb, hf, hs, rfl⟩ := hown
      obtain ⟨p, hp, hpk⟩ := List.any_eq_true.1 hh
      obtain ⟨x, hx, rfl⟩ := List.mem_map.1 (mem_sorted.1 hp)
      obtain ⟨y, hy⟩ := hf.reads x hx
      obtain ⟨j, e2, e3, h3⟩ := Maps.keyOf_int_inv hI (WideElems.rd_key hy)
      rw [WideElems.rg_of hy] at hpk
      have := WideAt.sameKey_eq hpk
      rw [e3] at this
      have := keyL_inj (a := j) (b := k) this
      subst this
      simp only [Lit.wf, Bool.and_eq_true, decide_eq_true_eq] at h3
      exact hk ⟨h3.1, h3.2⟩
/-- The step of a range. -/
theorem wpList_next_ii (hgd : o.guard = none) (it : Operand) (hop : o.op = Op.next it false) {t : TypeId} (ht : P.underlying t = some (.map I I)) (hz : (zeroValue I).run P w = .ok (.int .i64 0) w) {r : Nat} {left : Int → Bool} {cnt : Nat} (hit : a.eval it = .pointer (some ⟨r, 0, none⟩)) (h : RangeW P I g r F left cnt w)
    (hDone : (∀ k, left k = false) → wpList P ops Q rest (a.put o.dst (.tuple #[.bool false])) w)
    (hMore : ∀ (x c : Int) (w' : World) (cnt' : Nat), i64ok x → i64ok c → left x = true → F x = some c → RangeW P I g r F (fun z => left z && z != x) cnt' w' → cnt' < cnt →
      w.grownBy w' (some r) → w'.heap.size = w.heap.size → (Instr.entry (.pointer (some ⟨r, 0, none⟩))).run P w' = .ok (.tuple #[.int .i64 x, .int .i64 c]) w' → wpList P ops Q rest (a.put o.dst (.tuple #[.bool true, .int .i64 x, .int .i64 c])) w') : wpList P ops Q (o :: rest) a w := by
  obtain ⟨D, lf, hr, hv, hl⟩ := h
  refine wpList_next_ranges_ii w hgd it hop I I .i64 .i64 (int_keyed hI) hI hI g r _ D lf cnt hit hr (fun _ h0 => hDone fun k => (hl k).symm.trans (h0 _)) fun x c w' cnt' hx hc hlx hat hr' hlt hg hs he => ?_
  have ok : ∀ {z : Int}, (Lit.int .i64 z).wf = true → i64ok z := fun h3 => by
    simp only [Lit.wf, Bool.and_eq_true, decide_eq_true_eq] at h3
    exact ⟨h3.1, h3.2⟩
  refine hMore x c w' cnt' (ok hx) (ok hc) ((hl x).symm.trans hlx) ?_ ⟨D, _, hr', hv, fun k => ?_⟩ hlt hg hs he
  · rw [← hv x]
    unfold viewD
    have e := has_true_of_atKey (k := keyL x) hat
    rw [e, if_pos rfl, show D.atKey (keyL x) (.lit (.int .i64 0)) = _ from hat _]
  · show (lf (keyL k) && !(keyL k).sameKey (keyL x)) = _
    rw [hl k, keyL_same]
    rfl
/-- 'len(m)'. -/
theorem wpList_len_ii (hgd : o.guard = none) (m : Operand) (t : TypeId) (hop : o.op = Op.call { callee := Callee.builtin Builtin.len, args := #[m], argTypes := #[t] }) (ht : P.underlying t = some (.map I I)) (hz : (zeroValue I).run P w = .ok (.int .i64 0) w)
    (hm : a.eval m = .map (some g)) (h : MapW P I g F w) (hF : ∀ k, F k ≠ none → i64ok k) (hK : ∀ n : Nat, (n = 0 ↔ ∀ k, F k = none) → wpList P ops Q rest (a.put o.dst (.int .i64 n)) w) : wpList P ops Q (o :: rest) a w := by
  obtain ⟨D, hown, hv⟩ := h
  refine wpList_len_own w hgd m t hop I I ht (plainElem P I) g _ D hm hown (hK _ ⟨fun h0 k => ?_, fun h0 => ?_⟩)
  · rw [← hv k]
    obtain ⟨es, e, -⟩ := hown.entries (int_keyed hI)
    subst e
    have : es = [] := List.eq_nil_of_length_eq_zero h0
    subst this
    rfl
  · have := size_few hI hown (n := 0) (fun k hk => by rw [hv k] at hk; exact absurd (h0 k) hk) ht hz
    omega
omit hI in
theorem MapW.grown {w' : World} {row : Option Nat} (h : MapW P I g F w) (hg : w.grownBy w' row) (hne : some g ≠ row) : MapW P I g F w' := by
  obtain ⟨D, h1, h2⟩ := h
  exact ⟨D, h1.kept hg hne, h2⟩
omit hI in
theorem MapW.lt (h : MapW P I g F w) : g < w.heap.size := by obtain ⟨D, h1, h2⟩ := h; exact h1.lt
omit hI in
theorem MapW.same {w' : World} (h : MapW P I g F w) (hg : w'.heap[g]? = w.heap[g]?) : MapW P I g F w' := by
  obtain ⟨D, ⟨es, clock, hb, r⟩, h2⟩ := h
  exact ⟨D, ⟨es, clock, hg.trans hb, r⟩, h2⟩
omit hI in
theorem MapW.obj (h : MapW P I g F w) : ∃ es clock, w.heap[g]? = some (.map es clock) := by
  obtain ⟨D, ⟨es, clock, hb, r⟩, h2⟩ := h
  exact ⟨es, clock, hb⟩
omit hI in
theorem MapW.made (w : World) : MapW P I w.heap.size (fun _ => none) (w.alloc (.map #[] 0)) := ⟨.map [], World.ownsMap_made _ _ _ _, fun _ => rfl⟩
omit hI in
theorem RangeW.same {w' : World} {r : Nat} {left : Int → Bool} {cnt : Nat} (h : RangeW P I g r F left cnt w) (hg : w'.heap[g]? = w.heap[g]?) (hr : w'.heap[r]? = w.heap[r]?) : RangeW P I g r F left cnt w' := by
  obtain ⟨D, lf, ⟨es, clock, since, seen, c0, hb, a1, a2, a3, hb2, r2⟩, h2⟩ := h
  exact ⟨D, lf, ⟨es, clock, since, seen, c0, hg.trans hb, a1, a2, a3, hr.trans hb2, r2⟩, h2⟩
omit hI in
theorem RangeW.obj {r : Nat} {left : Int → Bool} {cnt : Nat} (h : RangeW P I g r F left cnt w) : ∃ a b c d, w.heap[r]? = some (.mapIter a b c d) := by
  obtain ⟨D, lf, ⟨es, clock, since, seen, c0, hb, a1, a2, a3, hb2, r2⟩, h2⟩ := h
  exact ⟨_, _, _, _, hb2⟩
omit hI in
theorem RangeW.ne {r : Nat} {left : Int → Bool} {cnt : Nat} (h : RangeW P I g r F left cnt w) : r ≠ g := by obtain ⟨D, lf, h1, h2⟩ := h; exact h1.ne
omit hI in
theorem RangeW.lt {r : Nat} {left : Int → Bool} {cnt : Nat} (h : RangeW P I g r F left cnt w) : r < w.heap.size := by obtain ⟨D, lf, h1, h2⟩ := h; exact h1.lt
omit hI in
theorem RangeW.map {r : Nat} {left : Int → Bool} {cnt : Nat} (h : RangeW P I g r F left cnt w) : MapW P I g F w := by obtain ⟨D, lf, h1, h2, h3⟩ := h; exact ⟨D, h1.owns, h2⟩
omit hI in
theorem RangeW.left_eq {r : Nat} {left : Int → Bool} {cnt : Nat} (h : RangeW P I g r F left cnt w) : w.rangeLeft g r = cnt := by obtain ⟨D, lf, h1, h2, h3⟩ := h; exact h1.left_eq
end
end Go.Proofs.YtepmgnhblegiiaaDoor
