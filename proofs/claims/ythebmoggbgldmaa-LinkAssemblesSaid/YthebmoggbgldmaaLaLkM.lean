/- Lines under a slice, whoever owns them. No condition. -/
import Derived.Test.YthebmoggbgldmaaLaLkA
import Derived.Maps.RangeWalk
import Derived.Maps.OwnSet
import Derived.Maps.OwnOps
import Derived.Maps.Ext
set_option linter.all false
namespace Go.Proofs.Ythebmoggbgldmaa
open Go Go.RowKit Go.Maps
def setF (F : Int → Option Int) (o f x : Int) : Option Int := if x = o then some f else F x
theorem zW {w : World} {g i : Nat} {cs : Array Value} {t : TypeId} {fr : Nat × Nat} (h : w.heap[g]? = some (.cells cs t fr)) (v : Value) : (w.setCell ⟨g, i, none⟩ v).heap[g]? = some (.cells (cs.setIfInBounds i v) t fr) := by
 have hlt := (Array.getElem?_eq_some_iff.1 h).1
 have h' : w.heap[g] = .cells cs t fr := by simpa [Array.getElem?_eq_getElem hlt] using h
 show (w.heap.modify g _)[g]? = _
 rw [Array.getElem?_eq_getElem (by simpa using hlt), Array.getElem_modify_self, h']
 rfl
theorem jU {w : World} {g i k : Nat} (h : k ≠ g) (v : Value) : (w.setCell ⟨g, i, none⟩ v).heap[k]? = w.heap[k]? := Below.heap_setCell _ _ _ _ h
structure zN (bs : Nat → Prop) (w w' : World) : Prop where
 os : w'.os = w.os
 tape : w'.tape = w.tape
 output : w'.output = w.output
 size : w.heap.size ≤ w'.heap.size
 block : ∀ k, k < w.heap.size → ¬ bs k → w'.heap[k]? = w.heap[k]?
theorem zN.refl (bs : Nat → Prop) (w : World) : zN bs w w := ⟨rfl, rfl, rfl, zn _, fun _ _ _ => rfl⟩
theorem zN.trans {bs cs : Nat → Prop} {a b c : World} (h : zN bs a b) (k : zN cs b c) (hs : ∀ x, x < a.heap.size → cs x → bs x) : zN bs a c :=
 ⟨k.os.trans h.os, k.tape.trans h.tape, k.output.trans h.output, Nat.le_trans h.size k.size, fun x hx hb => (k.block x (Nat.lt_of_lt_of_le hx h.size) (fun e => hb (hs x hx e))).trans (h.block x hx hb)⟩
theorem zN.mono {bs cs : Nat → Prop} {a b : World} (h : zN bs a b) (hs : ∀ x, x < a.heap.size → bs x → cs x) : zN cs a b := ⟨h.os, h.tape, h.output, h.size, fun x hx hb => h.block x hx fun e => hb (hs x hx e)⟩
theorem zN.drew {bs : Nat → Prop} {a b : World} (h : zN bs a b) : zN bs a b.drew := ⟨h.os, h.tape, h.output, h.size, h.block⟩
theorem zN.alloc {bs : Nat → Prop} {a b : World} (h : zN bs a b) (o : Obj) : zN bs a (b.alloc o) :=
 ⟨h.os, h.tape, h.output, Nat.le_trans h.size (by simp), fun k hk hb => (Below.heap_alloc _ _ _ (Nat.lt_of_lt_of_le hk h.size)).trans (h.block k hk hb)⟩
theorem zN.setCell {bs : Nat → Prop} {a b : World} (h : zN bs a b) {g i : Nat} (v : Value) (hg : g < a.heap.size → bs g) : zN bs a (b.setCell ⟨g, i, none⟩ v) :=
 ⟨h.os, h.tape, h.output, Nat.le_trans h.size (by simp [World.setCell]), fun k hk hb => (jU (by rintro rfl; exact hb (hg hk)) v).trans (h.block k hk hb)⟩
theorem zN.setRow {bs : Nat → Prop} {a b : World} (h : zN bs a b) {g : Nat} (cs : Array Value) (hg : g < a.heap.size → bs g) : zN bs a (b.setRow g cs) :=
 ⟨h.os, h.tape, h.output, Nat.le_trans h.size (by simp [World.setRow]), fun k hk hb => (setRow_other _ _ _ _ (by rintro rfl; exact hb (hg hk))).trans (h.block k hk hb)⟩
theorem zN.grown {bs : Nat → Prop} {a b c : World} (h : zN bs a b) {row : Option Nat} (hg : b.grownBy c row) (hr : ∀ k, row = some k → k < a.heap.size → bs k) : zN bs a c :=
 ⟨hg.os.trans h.os, hg.tape.trans h.tape, hg.output.trans h.output, Nat.le_trans h.size hg.size, fun k hk hb => (hg.block k (Nat.lt_of_lt_of_le hk h.size) (fun e => hb (hr k e.symm hk))).trans (h.block k hk hb)⟩
theorem zN.toBelow {bs : Nat → Prop} {a b : World} {B : Nat} (h : zN bs a b) (hB : B ≤ a.heap.size) (hs : ∀ k, bs k → B ≤ k) : Below B a b :=
 ⟨h.os, h.tape, h.output, h.size, fun k hk => h.block k (Nat.lt_of_lt_of_le hk hB) (fun e => by have := hs k e; omega)⟩
theorem zN.ofBelow {bs : Nat → Prop} {a b : World} (h : Below a.heap.size a b) : zN bs a b := ⟨h.os, h.tape, h.output, h.size, fun k hk _ => h.block k hk⟩
theorem zN.heap {bs : Nat → Prop} {a b : World} (h : zN bs a b) {k : Nat} {o : Obj} (hk : a.heap[k]? = some o) (hb : ¬ bs k) : b.heap[k]? = some o := by
 rw [h.block k (Array.getElem?_eq_some_iff.1 hk).1 hb]; exact hk
def keyL (k : Int) : Lit := .int .i64 k
def viewD (D : DataW Unit) (k : Int) : Option Int := if Maps.has D (keyL k) then (match D.atKey (keyL k) (.lit (.int .i64 0)) with | .lit (.int _ c) => some c | _ => none) else none
theorem keyL_key (k : Int) : WideAt.IsKeyLit (keyL k) := trivial
theorem keyL_inj {a b : Int} (h : keyL a = keyL b) : a = b := by injection h
theorem keyL_same (a b : Int) : (keyL a).sameKey (keyL b) = (a == b) := by
 by_cases h : a = b
 ·subst h; rw [WideAt.sameKey_self (keyL_key a)]; simp
 ·rw [sameKey_ne (fun e => h (keyL_inj e))]; simp [h]
section
variable (P : Program) (I : TypeId)
def MapW (g : Nat) (F : Int → Option Int) (w : World) : Prop := ∃ D : DataW Unit, w.ownsMap P I (plainElem P I) g (Maps.size D) D ∧ (∀ k, viewD D k = F k)
end
section
variable {P : Program} {I : TypeId} (hI : P.underlying I = some (.int .i64)) {w : World} {g : Nat} {F : Int → Option Int}
include hI
theorem keyOf_i64 {k : Int} (hk : zX k) : keyOf P I (.int .i64 k) = some (keyL k) := keyOf_int_mk hI (WalkArith.wf_i64 hk)
theorem plain_i64 {c : Int} (hc : zX c) : plainElem (H := Unit) P I (.int .i64 c) = some (.lit (.int .i64 c), []) := plainElem_int hI (WalkArith.wf_i64 hc)
omit hI in
theorem tight {n : Nat} {D : DataW Unit} (h : w.ownsMap P I (plainElem P I) g n D) : w.ownsMap P I (plainElem P I) g (Maps.size D) D := by
 obtain ⟨es, clock, hb, hf, hs, rfl⟩ := h
 refine ⟨es, clock, hb, hf, ?_, rfl⟩
 have : ((es.toList.map (WideElems.rg P I (plainElem (H := Unit) P I))).foldr DataW.insert []).length = es.size := length_read es
 show es.size ≤ List.length _
 omega
theorem at_int {n : Nat} {D : DataW Unit} (h : w.ownsMap P I (plainElem P I) g n D) {t : TypeId} (ht : P.underlying t = some (.map I I)) (hz : (zeroValue I).run P w = .ok (.int .i64 0) w) {k : Int} (hk : zX k) :
  ∃ c, (Instr.lookup t (.map (some g)) (.int .i64 k) false).run P w = .ok (.int .i64 c) w ∧ D.atKey (keyL k) (.lit (.int .i64 0)) = .lit (.int .i64 c) ∧ zX c := by
 obtain ⟨c, h1, h2, h3⟩ := h.lookup_int (int_keyed hI) ht hI hz (keyOf_i64 hI hk)
 refine ⟨c, h1, h2, ?_⟩
 simp only [Lit.wf, Bool.and_eq_true, decide_eq_true_eq] at h3
 exact ⟨h3.1, h3.2⟩
omit hI in
theorem viewD_some {D : DataW Unit} {k c : Int} (h : D.atKey (keyL k) (.lit (.int .i64 0)) = .lit (.int .i64 c)) : viewD D k = if Maps.has D (keyL k) then some c else none := by
 unfold viewD
 rw [h]
omit hI in
theorem viewD_get {D : DataW Unit} {k c : Int} (h : D.atKey (keyL k) (.lit (.int .i64 0)) = .lit (.int .i64 c)) : (viewD D k).getD 0 = c ∧ (viewD D k).isSome = Maps.has D (keyL k) := by
 rw [viewD_some h]
 cases hh : Maps.has D (keyL k) with
 | true => simp
 | false =>
  rw [atKey_of_not_has hh] at h
  injection h with h
  injection h with _ h
  subst h
  simp
variable {ops : Array Oper} {rest : List Oper} {o : Oper} {a : Act} {Q : Exit → Act → World → Prop}
theorem xz (hgd : o.guard = none) (m x : Operand) (t : TypeId) (hop : o.op = Op.lookup t m x true) (ht : P.underlying t = some (.map I I)) (hz : (zeroValue I).run P w = .ok (.int .i64 0) w)
  (hm : a.eval m = .map (some g)) (h : MapW P I g F w) (k : Int) (hx : a.eval x = .int .i64 k) (hk : zX k)
  (hK : wpList P ops Q rest (a.put o.dst (.tuple #[.int .i64 ((F k).getD 0), .bool (F k).isSome])) w) : wpList P ops Q (o :: rest) a w := by
 obtain ⟨D, hown, hv⟩ := h
 refine wpList_lookup_own_ok_int w hgd m x t hop I I .i64 (int_keyed hI) ht hI hz g _ D hm hown _ (keyL k) hx (keyOf_i64 hI hk) fun c hat _ => ?_
 obtain ⟨h1, h2⟩ := viewD_get hat
 rw [hv] at h1 h2
 rw [← h1, ← h2]
 exact hK
theorem jN (hgd : o.guard = none) (m x : Operand) (t : TypeId) (hop : o.op = Op.lookup t m x true) (ht : P.underlying t = some (.map I I)) (hz : (zeroValue I).run P w = .ok (.int .i64 0) w)
  (hm : a.eval m = .map (some g)) (h : MapW P I g F w) (k c : Int) (hx : a.eval x = .int .i64 k) (hk : zX k) (hF : F k = some c)
  (hK : wpList P ops Q rest (a.put o.dst (.tuple #[.int .i64 c, .bool true])) w) : wpList P ops Q (o :: rest) a w :=
 xz hI hgd m x t hop ht hz hm h k hx hk (by rw [hF]; exact hK)
theorem x9 (hgd : o.guard = none) (m x : Operand) (t : TypeId) (hop : o.op = Op.lookup t m x true) (ht : P.underlying t = some (.map I I)) (hz : (zeroValue I).run P w = .ok (.int .i64 0) w)
  (hm : a.eval m = .map (some g)) (h : MapW P I g F w) (k : Int) (hx : a.eval x = .int .i64 k) (hk : zX k) (hF : F k = none)
  (hK : wpList P ops Q rest (a.put o.dst (.tuple #[.int .i64 0, .bool false])) w) : wpList P ops Q (o :: rest) a w :=
 xz hI hgd m x t hop ht hz hm h k hx hk (by rw [hF]; exact hK)
omit hI in
theorem few : ∀ (n : Nat) (l : List Int), l.Pairwise (fun x y => x ≠ y) → (∀ x ∈ l, 0 ≤ x ∧ x < n) → l.length ≤ n
 | 0, [], _, _ => zn _
 | 0, x :: l, _, h => by have := h x (by simp); omega
 | n + 1, l, hp, h => by
  have h1 := few n (l.filter fun x => decide (x ≠ (n : Int))) (hp.filter _) (fun x hx => by
   rw [List.mem_filter] at hx
   have := h x hx.1
   have h2 : x ≠ (n : Int) := by simpa using hx.2
   omega)
  have h2 : ∀ l : List Int, l.Pairwise (fun x y => x ≠ y) → l.length ≤ (l.filter fun x => decide (x ≠ (n : Int))).length + 1 := fun l => by
   induction l with
   | nil => simp
   | cons y l ih =>
    intro hp
    rw [List.pairwise_cons] at hp
    by_cases hy : y = (n : Int)
    ·have : l.filter (fun x => decide (x ≠ (n : Int))) = l := List.filter_eq_self.2 fun x hx => by
      have := hp.1 x hx
      simp only [decide_eq_true_eq]
      omega
     have e : decide (y ≠ (n : Int)) = false := by simpa using hy
     rw [List.filter_cons, e, this]
     simp
    ·have := ih hp.2
     have e : decide (y ≠ (n : Int)) = true := by simpa using hy
     rw [List.filter_cons, e]
     simp only [↓reduceIte, List.length_cons]
     omega
  have := h2 l hp
  omega
theorem size_few {n m : Nat} {D : DataW Unit} (h : w.ownsMap P I (plainElem P I) g m D) (hF : ∀ k, viewD D k ≠ none → 0 ≤ k ∧ k < n) {t : TypeId} (ht : P.underlying t = some (.map I I)) (hz : (zeroValue I).run P w = .ok (.int .i64 0) w) : Maps.size D ≤ n := by
 have hown := h
 obtain ⟨es, clock, hb, hf, hs, rfl⟩ := h
 obtain ⟨es', e1, hp, -⟩ := hown.entries (int_keyed hI)
 injection e1 with e1
 subst e1
 -- each key is an int
 have hkey : ∀ p ∈ (es.toList.map (WideElems.rg P I (plainElem (H := Unit) P I))).foldr DataW.insert [], ∃ k, p.1 = keyL k ∧ zX k := fun p hp => by
  obtain ⟨x, hx, rfl⟩ := List.mem_map.1 (mem_sorted.1 hp)
  obtain ⟨y, hy⟩ := hf.reads x hx
  obtain ⟨k, e2, e3, h3⟩ := Maps.keyOf_int_inv hI (WideElems.rd_key hy)
  rw [WideElems.rg_of hy]
  simp only [Lit.wf, Bool.and_eq_true, decide_eq_true_eq] at h3
  exact ⟨k, e3, h3.1, h3.2⟩
 have hlen : ((es.toList.map (WideElems.rg P I (plainElem (H := Unit) P I))).foldr DataW.insert []).length = (((es.toList.map (WideElems.rg P I (plainElem (H := Unit) P I))).foldr DataW.insert []).map fun p => match p.1 with | .int _ k => k | _ => 0).length := by simp
 show List.length _ ≤ n
 rw [hlen]
 refine few n _ ?_ fun x hx => ?_
 ·rw [List.pairwise_map]
  refine hp.imp_of_mem fun {p q} hpm hqm hne e => hne ?_
  obtain ⟨k, hk, -⟩ := hkey p hpm
  obtain ⟨j, hj, -⟩ := hkey q hqm
  rw [hk, hj] at e ⊢
  exact congrArg keyL e
 ·obtain ⟨p, hpm, rfl⟩ := List.mem_map.1 hx
  obtain ⟨k, hk, hok⟩ := hkey p hpm
  have e : (match p.1 with | .int _ k => k | _ => 0) = k := by rw [hk]; rfl
  rw [e]
  apply hF
  obtain ⟨c, -, hat, -⟩ := at_int hI hown ht hz hok
  have := (viewD_get hat).2
  have hh : Maps.has (DataW.map ((es.toList.map (WideElems.rg P I (plainElem (H := Unit) P I))).foldr DataW.insert [])) (keyL k) = true :=
   List.any_eq_true.2 ⟨p, hpm, by rw [hk, keyL_same]; simp⟩
  rw [hh] at this
  intro e
  rw [e] at this
  cases this
theorem wpList_update_ii (hgd : o.guard = none) (m x v : Operand) (t : TypeId) (hop : o.op = Op.mapUpdate t m x v) (ht : P.underlying t = some (.map I I)) (hz : (zeroValue I).run P w = .ok (.int .i64 0) w)
  (hm : a.eval m = .map (some g)) (h : MapW P I g F w) (hF : ∀ k, F k ≠ none → 0 ≤ k ∧ k < 65536) (k c : Int) (hx : a.eval x = .int .i64 k) (hk : zX k) (hv : a.eval v = .int .i64 c) (hc : zX c)
  (hK : ∀ w', MapW P I g (setF F k c) w' → w.grownBy w' (some g) → wpList P ops Q rest (a.put o.dst undef) w') : wpList P ops Q (o :: rest) a w := by
 obtain ⟨D, hown, hvw⟩ := h
 have hs : Maps.size D ≤ 65536 := size_few hI hown (n := 65536) (fun k hk => by rw [hvw] at hk; exact hF k hk) ht hz
 refine wpList_mapUpdate_own w hgd m x v t hop I I (int_keyed hI) ht (plainElem P I) g _ D hm hown (by unfold maxLen; omega) _ _ (keyL k) hx hv (keyOf_i64 hI hk) _ [] (plain_i64 hI hc) fun w' h' hg => hK w' ⟨_, tight h', fun j => ?_⟩ hg
 unfold setF
 split
 ·rename_i e; subst e
  unfold viewD
  rw [has_put_same hown.isMap (keyL_key j), atKey_put_same hown.isMap (keyL_key j)]
  rfl
 ·rename_i e
  rw [← hvw j]
  have hne : keyL j ≠ keyL k := fun q => e (keyL_inj q)
  unfold viewD
  rw [has_put_other hne, atKey_put_other hne]
omit hI in
theorem MapW.lt (h : MapW P I g F w) : g < w.heap.size := by obtain ⟨D, h1, h2⟩ := h; exact h1.lt
omit hI in
theorem MapW.same {w' : World} (h : MapW P I g F w) (hg : w'.heap[g]? = w.heap[g]?) : MapW P I g F w' := by
 obtain ⟨D, ⟨es, clock, hb, r⟩, h2⟩ := h
 exact ⟨D, ⟨es, clock, hg.trans hb, r⟩, h2⟩
omit hI in
theorem MapW.obj (h : MapW P I g F w) : ∃ es clock, w.heap[g]? = some (.map es clock) := by
 obtain ⟨D, ⟨es, clock, hb, r⟩, h2⟩ := h
 exact ⟨es, clock, hb⟩
omit hI in
theorem MapW.made (w : World) : MapW P I w.heap.size (fun _ => none) (w.alloc (.map #[] 0)) := ⟨.map [], World.ownsMap_made _ _ _ _, fun _ => rfl⟩
end
theorem zZ {B : Nat} {e : TypeId} {s : Nat} {v : Value} {n : Nat} {xs : List Value} {w w' : World} {bs : Nat → Prop} (h : w.ownsRow B e s v n xs) (t : zN bs w w') (hb : ∀ k, v.ownBlock = some k → ¬ bs k) : w'.ownsRow B e s v n xs := by
 obtain ⟨h1, h2⟩ := h
 refine ⟨h1, ?_⟩
 rcases h2 with h2 | ⟨g, cap, cur, rfl, hB, hg, r⟩
 ·exact .inl h2
 ·exact .inr ⟨g, cap, cur, rfl, hB, t.heap hg (hb g rfl), r⟩
theorem z7 {B : Nat} {e : TypeId} {s : Nat} {v : Value} {n : Nat} {xs : List Value} {w : World} (h : w.ownsRow B e s v n xs) : ∀ k, v.ownBlock = some k → B ≤ k ∧ ∃ cs, w.heap[k]? = some (.cells cs e (0, 0)) := fun k hk => by
 rcases h.2 with ⟨rfl, -⟩ | ⟨g, cap, cur, rfl, hb, hg, -⟩
 ·cases hk
 ·simp only [Value.ownBlock, Option.some.injEq] at hk
  subst hk
  exact ⟨hb, cur, hg⟩
def SrcW (w : World) (size : Nat) (A : Option Addr) (m : Nat) (news : List Value) : Prop := news.length = m * size ∧ (0 < m → ∃ ad, A = some ad ∧ ∀ j u, news[j]? = some u → w.cell? (ad.add j) = some u)
section
variable {P : Program} (w : World)
theorem run_append_src (base : Nat) (t ty e : TypeId) (i : TypeInfo) (z : Value) (size bytes : Nat) (ht : P.underlying t = some (.slice e)) (hi : P.info? e = some i) (hz : i.zero = some z)
  (hsize : i.size = size) (hby : i.bytes = bytes) (hzs : z.cells.size = size) (hsz : 0 < size) (v : Value) (n : Nat) (xs : List Value) (hown : w.ownsRow base e size v n xs)
  (A : Option Addr) (m c : Nat) (hc0 : A = none → c = 0) (news : List Value) (hr : SrcW w size A m news) (h1 : ∀ u ∈ news, u.oneCell' = true) (h63 : n + m ≤ maxLen) (hbytes : (n + m) * bytes ≤ 140737488355328) (hbase : base ≤ w.heap.size) :
  ∃ v' w', (Builtin.append_ #[t, t] ty #[v, .slice A m c]).run P w = .ok v' w' ∧ w'.ownsRow base e size v' (n + m) (xs ++ news) ∧ w.grownBy w' v.ownBlock ∧ (v'.ownBlock = v.ownBlock ∨ v'.ownBlock = some w.heap.size) := by
 cases A with
 | none =>
  have hm : m = 0 := Nat.eq_zero_of_not_pos fun h0 => by obtain ⟨ad, h, _⟩ := hr.2 h0; cases h
  subst hm
  have hn : news = [] := List.eq_nil_of_length_eq_zero (by simpa using hr.1)
  subst hn
  have h0 := hc0 rfl
  subst h0
  exact ⟨v, w, run_append_owned_none (P := P) (w := w) base t ty e i size ht hi v n xs hown, by simpa using hown, ⟨rfl, rfl, rfl, zn _, fun _ _ _ => rfl⟩, .inl rfl⟩
 | some ad =>
  have hc : ∀ j u, news[j]? = some u → w.cell? (ad.add j) = some u := fun j u hu => by
   have h0 : 0 < m := Nat.pos_of_ne_zero fun h0 => by
    subst h0
    have hn : news = [] := List.eq_nil_of_length_eq_zero (by simpa using hr.1)
    subst hn; simp at hu
   obtain ⟨ad', h, hc⟩ := hr.2 h0
   cases h
   exact hc j u hu
  obtain ⟨v', w', hrun, h2, h3, _, h5⟩ := run_append_own_at (P := P) w base t ty e i z size bytes ht hi hz hsize hby hzs hsz v n xs hown ad m c news hr.1 hc h1 h63 hbytes hbase
  exact ⟨v', w', hrun, h2, h3, h5⟩
theorem wp_append_src {o : Oper} {a : Act} {K : Act → World → Prop} {Q : Exit → Act → World → Prop} (s x : Operand) (t : TypeId)
  (ho : o.op = .call { callee := .builtin .append, args := #[s, x], argTypes := #[t, t] })
  (base : Nat) (e : TypeId) (i : TypeInfo) (z : Value) (size bytes : Nat) (ht : P.underlying t = some (.slice e)) (hi : P.info? e = some i) (hz : i.zero = some z)
  (hsize : i.size = size) (hby : i.bytes = bytes) (hzs : z.cells.size = size) (hsz : 0 < size) (v : Value) (n : Nat) (xs : List Value) (hs : a.eval s = v) (hown : w.ownsRow base e size v n xs)
  (A : Option Addr) (m c : Nat) (hc0 : A = none → c = 0) (news : List Value) (hx : a.eval x = .slice A m c) (hr : SrcW w size A m news) (h1 : ∀ u ∈ news, u.oneCell' = true) (h63 : n + m ≤ maxLen) (hbytes : (n + m) * bytes ≤ 140737488355328) (hbase : base ≤ w.heap.size)
  (h : ∀ v' w', w'.ownsRow base e size v' (n + m) (xs ++ news) → w.grownBy w' v.ownBlock → (v'.ownBlock = v.ownBlock ∨ v'.ownBlock = some w.heap.size) → K (a.put o.dst v') w') : o.wp P a w K Q := by
 obtain ⟨v', w', hrun, h2, h3, h4⟩ := run_append_src (P := P) w base t o.type e i z size bytes ht hi hz hsize hby hzs hsz v n xs hown A m c hc0 news hr h1 h63 hbytes hbase
 unfold Oper.wp execOp
 simp only [ho, resolve, invoke, builtin, Sem.run_bind, Sem.run_pure, Result.andThen_ok, List.map_toArray, List.map_cons, List.map_nil, hs, hx, hrun]
 exact h v' w' h2 h3 h4
theorem xm {ops : Array Oper} {rest : List Oper} {o : Oper} {a : Act} {Q : Exit → Act → World → Prop} (hgd : o.guard = none) (s x : Operand) (t : TypeId)
  (ho : o.op = .call { callee := .builtin .append, args := #[s, x], argTypes := #[t, t] })
  (base : Nat) (e : TypeId) (i : TypeInfo) (z : Value) (size bytes : Nat) (ht : P.underlying t = some (.slice e)) (hi : P.info? e = some i) (hz : i.zero = some z)
  (hsize : i.size = size) (hby : i.bytes = bytes) (hzs : z.cells.size = size) (hsz : 0 < size) (v : Value) (n : Nat) (xs : List Value) (hs : a.eval s = v) (hown : w.ownsRow base e size v n xs)
  (A : Option Addr) (m c : Nat) (hc0 : A = none → c = 0) (news : List Value) (hx : a.eval x = .slice A m c) (hr : SrcW w size A m news) (h1 : ∀ u ∈ news, u.oneCell' = true) (h63 : n + m ≤ maxLen) (hbytes : (n + m) * bytes ≤ 140737488355328) (hbase : base ≤ w.heap.size)
  (h : ∀ v' w', w'.ownsRow base e size v' (n + m) (xs ++ news) → w.grownBy w' v.ownBlock → (v'.ownBlock = v.ownBlock ∨ v'.ownBlock = some w.heap.size) → wpList P ops Q rest (a.put o.dst v') w') : wpList P ops Q (o :: rest) a w :=
 wpList_plain hgd fun _ hK => wp_append_src w s x t ho base e i z size bytes ht hi hz hsize hby hzs hsz v n xs hs hown A m c hc0 news hx hr h1 h63 hbytes hbase fun v' w' h2 h3 h4 => hK _ _ (h v' w' h2 h3 h4)
end
section
variable {w : World} {B : Nat} {e : TypeId} {s n cap : Nat} {A : Option Addr} {xs : List Value}
end
theorem SrcW.same {w w' : World} {s : Nat} {A : Option Addr} {m : Nat} {xs : List Value} (h : SrcW w s A m xs) (hc : ∀ ad j u, A = some ad → w.cell? (ad.add j) = some u → w'.cell? (ad.add j) = some u) : SrcW w' s A m xs :=
 ⟨h.1, fun h0 => by obtain ⟨ad, e, h1⟩ := h.2 h0; exact ⟨ad, e, fun j u hu => hc ad j u e (h1 j u hu)⟩⟩
theorem SrcW.turn {w w' : World} {bs : Nat → Prop} {s : Nat} {A : Option Addr} {m : Nat} {xs : List Value} (h : SrcW w s A m xs) (t : zN bs w w') (hb : ∀ ad, A = some ad → ¬ bs ad.block) : SrcW w' s A m xs :=
 h.same fun ad j u e hc => by
  have hblk : (ad.add j).block = ad.block := by unfold Addr.add; split <;> rfl
  have hlt : (ad.add j).block < w.heap.size := World.block_lt_of_cell? w _ hc
  exact (World.cell?_of_block (t.block _ hlt (by rw [hblk]; exact hb ad e))).trans hc
theorem ext_at {c : Array Value} {o : Nat} {L : List Value} (h : ∀ j, j < L.length → c[o + j]? = L[j]?) : (c.extract o (o + L.length)).toList = L := by
 apply List.ext_getElem?
 intro j
 rw [Array.getElem?_toList, Array.getElem?_extract]
 by_cases hj : j < L.length
 ·have h1 := h j hj
  rw [List.getElem?_eq_getElem hj] at h1
  have h2 := (Array.getElem?_eq_some_iff.1 h1).1
  rw [if_pos (by omega), h1, List.getElem?_eq_getElem hj]
 ·rw [if_neg (by omega), List.getElem?_eq_none (by omega)]
theorem own_base {w : World} {B B' : Nat} {e : TypeId} {s n : Nat} {v : Value} {xs : List Value} (h : w.ownsRow B' e s v n xs) (hb : B ≤ B') : w.ownsRow B e s v n xs :=
 ⟨h.1, h.2.imp id (fun ⟨g, c, cur, e, h1, h2⟩ => ⟨g, c, cur, e, Nat.le_trans hb h1, h2⟩)⟩
end Go.Proofs.Ythebmoggbgldmaa
namespace Go.Proofs.Ythebmoggbgldmaa
open Go Go.RowKit Go.Maps
def headV (l : zu) : List Value := [.int .i64 l.label, .int .i64 l.ins.op, .int .i64 l.ins.d, .int .i64 l.ins.s, .int .u16 l.ins.imm, .int .u16 l.ins.aux, .int .i64 l.ins.bank, .int .i64 l.ins.size, .int .i64 l.dest, .int .i64 l.fn, .int .i64 l.obj]
def xX (l : zu) (tv : Value) : List Value := headV l ++ [tv]
def xO (w : World) (v : Value) (t : List Int) : Prop :=
 ∃ ao cap, v = .slice ao t.length cap ∧ t.length ≤ cap ∧ (0 < t.length → ∃ g off c T fr, ao = some ⟨g, off, none⟩ ∧ w.heap[g]? = some (.cells c T fr) ∧ ∀ i x, t[i]? = some x → c[off + i]? = some (.int .i64 x))
def yJ (w : World) (v : Value) (ls : List zu) : Prop :=
 ∃ ao cap, v = .slice ao ls.length cap ∧ ls.length ≤ cap ∧ (0 < ls.length → ∃ g off c T fr, ao = some ⟨g, off, none⟩ ∧ w.heap[g]? = some (.cells c T fr) ∧ ∀ i l, ls[i]? = some l → ∃ tv, (c.extract (off + i * 12) (off + i * 12 + 12)).toList = xX l tv ∧ xO w tv l.tab)
def jj (w : World) (v : Value) (ps : List yw) : Prop :=
 ∃ ao cap, v = .slice ao ps.length cap ∧ ps.length ≤ cap ∧ (0 < ps.length → ∃ g off c T fr, ao = some ⟨g, off, none⟩ ∧ w.heap[g]? = some (.cells c T fr) ∧ ∀ i p, ps[i]? = some p → (c.extract (off + i * 2) (off + i * 2 + 2)).toList = [.int .i64 p.bank, .int .u16 p.addr])
def jK (w : World) (v : Value) (ps : List ObjS) : Prop :=
 ∃ ao cap, v = .slice ao ps.length cap ∧ ps.length ≤ cap ∧ (0 < ps.length → ∃ g off c T fr, ao = some ⟨g, off, none⟩ ∧ w.heap[g]? = some (.cells c T fr) ∧ ∀ i p, ps[i]? = some p → (c.extract (off + i * 3) (off + i * 3 + 3)).toList = [.int .i64 p.bank, .int .u16 p.addr, .int .u16 p.size])
section
variable {w w' : World} {v : Value}
theorem xO.below {t : List Int} (h : xO w v t) (hb : Below w.heap.size w w') : xO w' v t := by
 obtain ⟨ao, cap, e, hc, h⟩ := h
 refine ⟨ao, cap, e, hc, fun h0 => ?_⟩
 obtain ⟨g, off, c, T, fr, e1, hg, h1⟩ := h h0
 exact ⟨g, off, c, T, fr, e1, zf hb hg, h1⟩
theorem yJ.below {t : List zu} (h : yJ w v t) (hb : Below w.heap.size w w') : yJ w' v t := by
 obtain ⟨ao, cap, e, hc, h⟩ := h
 refine ⟨ao, cap, e, hc, fun h0 => ?_⟩
 obtain ⟨g, off, c, T, fr, e1, hg, h1⟩ := h h0
 exact ⟨g, off, c, T, fr, e1, zf hb hg, fun i l hl => by obtain ⟨tv, h2, h3⟩ := h1 i l hl; exact ⟨tv, h2, h3.below hb⟩⟩
theorem jj.below {t : List yw} (h : jj w v t) (hb : Below w.heap.size w w') : jj w' v t := by
 obtain ⟨ao, cap, e, hc, h⟩ := h
 refine ⟨ao, cap, e, hc, fun h0 => ?_⟩
 obtain ⟨g, off, c, T, fr, e1, hg, h1⟩ := h h0
 exact ⟨g, off, c, T, fr, e1, zf hb hg, h1⟩
theorem jK.below {t : List ObjS} (h : jK w v t) (hb : Below w.heap.size w w') : jK w' v t := by
 obtain ⟨ao, cap, e, hc, h⟩ := h
 refine ⟨ao, cap, e, hc, fun h0 => ?_⟩
 obtain ⟨g, off, c, T, fr, e1, hg, h1⟩ := h h0
 exact ⟨g, off, c, T, fr, e1, zf hb hg, h1⟩
theorem yJ.at {ls : List zu} {ao : Option Addr} {n cap : Nat} (h : yJ w (.slice ao n cap) ls) {i : Nat} {l : zu} (hl : ls[i]? = some l) :
  ∃ g off c T fr tv, ao = some ⟨g, off, none⟩ ∧ w.heap[g]? = some (.cells c T fr) ∧ (c.extract (off + i * 12) (off + i * 12 + 12)).toList = xX l tv ∧ xO w tv l.tab := by
 obtain ⟨ao', cap', e, -, h⟩ := h
 have h0 : 0 < ls.length := by have := (List.getElem?_eq_some_iff.1 hl).1; omega
 obtain ⟨g, off, c, T, fr, e1, hg, h1⟩ := h h0
 obtain ⟨tv, h2, h3⟩ := h1 i l hl
 simp only [Value.slice.injEq] at e
 exact ⟨g, off, c, T, fr, tv, e.1.trans e1, hg, h2, h3⟩
end
structure zu.Ok (l : zu) : Prop where
 label : -65536 ≤ l.label ∧ l.label < 65536
 ins : l.ins.Ok
 dest : zX l.dest
 fn : zX l.fn
 obj : zX l.obj
 tab : ∀ t ∈ l.tab, zX t
 tlen : l.tab.length ≤ 1000
def yV (ls : List zu) : Prop := (∀ l ∈ ls, l.Ok) ∧ ls.length ≤ 1000
end Go.Proofs.Ythebmoggbgldmaa
