/- Maps from ints to ints, read as plain functions: lookup, store, range; rows of the call's own. No condition beyond what each law states. -/
import Derived.Test.YteofmaiojepdkaaGreatSaKit
import Derived.Deep.DeepCutAuto
import Derived.Maps.RangeWalk
import Derived.Maps.OwnSet
import Derived.Maps.OwnOps
import Derived.Maps.Ext
set_option linter.all false
namespace Go.Proofs.YteofmaiojepdkaaGreat
open Go Go.RowKit Go.Maps
theorem heap_setCell_same {w : World} {g i : Nat} {cs : Array Value} {t : TypeId} {fr : Nat × Nat} (h : w.heap[g]? = some (.cells cs t fr)) (v : Value) : (w.setCell ⟨g, i, none⟩ v).heap[g]? = some (.cells (cs.setIfInBounds i v) t fr) := by
  have hlt := (Array.getElem?_eq_some_iff.1 h).1
  have h' : w.heap[g] = .cells cs t fr := by simpa [Array.getElem?_eq_getElem hlt] using h
  show (w.heap.modify g _)[g]? = _
  rw [Array.getElem?_eq_getElem (by simpa using hlt), Array.getElem_modify_self, h']
  rfl
theorem heap_setCell_other {w : World} {g i k : Nat} (h : k ≠ g) (v : Value) : (w.setCell ⟨g, i, none⟩ v).heap[k]? = w.heap[k]? := Below.heap_setCell _ _ _ _ h
/-- Nothing has turned but the blocks of bs, and new ones. -/
structure y6 (bs : Nat → Prop) (w w' : World) : Prop where
  os : w'.os = w.os
  tape : w'.tape = w.tape
  output : w'.output = w.output
  size : w.heap.size ≤ w'.heap.size
  block : ∀ k, k < w.heap.size → ¬ bs k → w'.heap[k]? = w.heap[k]?
theorem y6.refl (bs : Nat → Prop) (w : World) : y6 bs w w := ⟨rfl, rfl, rfl, zn _, fun _ _ _ => rfl⟩
theorem y6.trans {bs cs : Nat → Prop} {a b c : World} (h : y6 bs a b) (k : y6 cs b c) (hs : ∀ x, x < a.heap.size → cs x → bs x) : y6 bs a c :=
  ⟨k.os.trans h.os, k.tape.trans h.tape, k.output.trans h.output, Nat.le_trans h.size k.size, fun x hx hb => (k.block x (Nat.lt_of_lt_of_le hx h.size) (fun e => hb (hs x hx e))).trans (h.block x hx hb)⟩
theorem y6.mono {bs cs : Nat → Prop} {a b : World} (h : y6 bs a b) (hs : ∀ x, x < a.heap.size → bs x → cs x) : y6 cs a b := ⟨h.os, h.tape, h.output, h.size, fun x hx hb => h.block x hx fun e => hb (hs x hx e)⟩
theorem y6.drew {bs : Nat → Prop} {a b : World} (h : y6 bs a b) : y6 bs a b.drew := ⟨h.os, h.tape, h.output, h.size, h.block⟩
theorem y6.alloc {bs : Nat → Prop} {a b : World} (h : y6 bs a b) (o : Obj) : y6 bs a (b.alloc o) :=
  ⟨h.os, h.tape, h.output, Nat.le_trans h.size (by simp), fun k hk hb => (Below.heap_alloc _ _ _ (Nat.lt_of_lt_of_le hk h.size)).trans (h.block k hk hb)⟩
theorem y6.setCell {bs : Nat → Prop} {a b : World} (h : y6 bs a b) {g i : Nat} (v : Value) (hg : g < a.heap.size → bs g) : y6 bs a (b.setCell ⟨g, i, none⟩ v) :=
  ⟨h.os, h.tape, h.output, Nat.le_trans h.size (by simp [World.setCell]), fun k hk hb => (heap_setCell_other (by rintro rfl; exact hb (hg hk)) v).trans (h.block k hk hb)⟩
theorem y6.setRow {bs : Nat → Prop} {a b : World} (h : y6 bs a b) {g : Nat} (cs : Array Value) (hg : g < a.heap.size → bs g) : y6 bs a (b.setRow g cs) :=
  ⟨h.os, h.tape, h.output, Nat.le_trans h.size (by simp [World.setRow]), fun k hk hb => (setRow_other _ _ _ _ (by rintro rfl; exact hb (hg hk))).trans (h.block k hk hb)⟩
theorem y6.grown {bs : Nat → Prop} {a b c : World} (h : y6 bs a b) {row : Option Nat} (hg : b.grownBy c row) (hr : ∀ k, row = some k → k < a.heap.size → bs k) : y6 bs a c :=
  ⟨hg.os.trans h.os, hg.tape.trans h.tape, hg.output.trans h.output, Nat.le_trans h.size hg.size, fun k hk hb => (hg.block k (Nat.lt_of_lt_of_le hk h.size) (fun e => hb (hr k e.symm hk))).trans (h.block k hk hb)⟩
theorem y6.toBelow {bs : Nat → Prop} {a b : World} {B : Nat} (h : y6 bs a b) (hB : B ≤ a.heap.size) (hs : ∀ k, bs k → B ≤ k) : Below B a b :=
  ⟨h.os, h.tape, h.output, h.size, fun k hk => h.block k (Nat.lt_of_lt_of_le hk hB) (fun e => by have := hs k e; omega)⟩
theorem y6.ofBelow {bs : Nat → Prop} {a b : World} (h : Below a.heap.size a b) : y6 bs a b := ⟨h.os, h.tape, h.output, h.size, fun k hk _ => h.block k hk⟩
theorem y6.heap {bs : Nat → Prop} {a b : World} (h : y6 bs a b) {k : Nat} {o : Obj} (hk : a.heap[k]? = some o) (hb : ¬ bs k) : b.heap[k]? = some o := by
  rw [h.block k (Array.getElem?_eq_some_iff.1 hk).1 hb]; exact hk
theorem flat_at' {c : Array Value} {xs : List Value} {m k : Nat} (h : c.toList.take m = xs) (hk : k < m) : c[k]? = xs[k]? := by
  rw [← h, List.getElem?_take, if_pos hk, Array.getElem?_toList]
theorem y7 {B : Nat} {e : TypeId} {s : Nat} {v : Value} {n : Nat} {xs : List Value} {w w' : World} {bs : Nat → Prop} (h : w.ownsRow B e s v n xs) (t : y6 bs w w') (hb : ∀ k, v.ownBlock = some k → ¬ bs k) : w'.ownsRow B e s v n xs := by
  obtain ⟨h1, h2⟩ := h
  refine ⟨h1, ?_⟩
  rcases h2 with h2 | ⟨g, cap, cur, rfl, hB, hg, r⟩
  · exact .inl h2
  · exact .inr ⟨g, cap, cur, rfl, hB, t.heap hg (hb g rfl), r⟩
theorem y8 {B : Nat} {e : TypeId} {s : Nat} {v : Value} {n : Nat} {xs : List Value} {w : World} (h : w.ownsRow B e s v n xs) : ∀ k, v.ownBlock = some k → B ≤ k ∧ ∃ cs, w.heap[k]? = some (.cells cs e (0, 0)) := fun k hk => by
  rcases h.2 with ⟨rfl, -⟩ | ⟨g, cap, cur, rfl, hb, hg, -⟩
  · cases hk
  · simp only [Value.ownBlock, Option.some.injEq] at hk
    subst hk
    exact ⟨hb, cur, hg⟩
/-- What lies under a slice, nil let in. -/
def SrcW (w : World) (size : Nat) (A : Option Addr) (m : Nat) (news : List Value) : Prop := news.length = m * size ∧ (0 < m → ∃ ad, A = some ad ∧ ∀ j u, news[j]? = some u → w.cell? (ad.add j) = some u)
section
variable {P : Program} (w : World)
theorem run_append_src (base : Nat) (t ty e : TypeId) (i : TypeInfo) (z : Value) (size bytes : Nat) (ht : P.underlying t = some (.slice e)) (hi : P.info? e = some i) (hz : i.zero = some z)
    (hsize : i.size = size) (hby : i.bytes = bytes) (hzs : z.cells.size = size) (hsz : 0 < size) (v : Value) (n : Nat) (xs : List Value) (hown : w.ownsRow base e size v n xs)
    (A : Option Addr) (m c : Nat) (hc0 : A = none → c = 0) (news : List Value) (hr : SrcW w size A m news) (h1 : ∀ u ∈ news, u.oneCell' = true) (h63 : n + m ≤ maxLen) (hbytes : (n + m) * bytes ≤ 140737488355328) (hbase : base ≤ w.heap.size) :
    ∃ v' w', (Builtin.append_ #[t, t] ty #[v, .slice A m c]).run P w = .ok v' w' ∧ w'.ownsRow base e size v' (n + m) (xs ++ news) ∧ w.grownBy w' v.ownBlock ∧ (v'.ownBlock = v.ownBlock ∨ v'.ownBlock = some w.heap.size) := by
  cases A with
  | none =>
    have hm : m = 0 := Nat.eq_zero_of_not_pos fun h0 => by obtain ⟨ad, h, _⟩ := hr.2 h0; cases h
    subst hm
    have hn : news = [] := List.eq_nil_of_length_eq_zero (by simpa using hr.1)
    subst hn
    have h0 := hc0 rfl
    subst h0
    exact ⟨v, w, run_append_owned_none (P := P) (w := w) base t ty e i size ht hi v n xs hown, by simpa using hown, ⟨rfl, rfl, rfl, zn _, fun _ _ _ => rfl⟩, .inl rfl⟩
  | some ad =>
    have hc : ∀ j u, news[j]? = some u → w.cell? (ad.add j) = some u := fun j u hu => by
      have h0 : 0 < m := Nat.pos_of_ne_zero fun h0 => by
        subst h0
        have hn : news = [] := List.eq_nil_of_length_eq_zero (by simpa using hr.1)
        subst hn; simp at hu
      obtain ⟨ad', h, hc⟩ := hr.2 h0
      cases h
      exact hc j u hu
    obtain ⟨v', w', hrun, h2, h3, _, h5⟩ := run_append_own_at (P := P) w base t ty e i z size bytes ht hi hz hsize hby hzs hsz v n xs hown ad m c news hr.1 hc h1 h63 hbytes hbase
    exact ⟨v', w', hrun, h2, h3, h5⟩
theorem wp_append_src {o : Oper} {a : Act} {K : Act → World → Prop} {Q : Exit → Act → World → Prop} (s x : Operand) (t : TypeId)
    (ho : o.op = .call { callee := .builtin .append, args := #[s, x], argTypes := #[t, t] })
    (base : Nat) (e : TypeId) (i : TypeInfo) (z : Value) (size bytes : Nat) (ht : P.underlying t = some (.slice e)) (hi : P.info? e = some i) (hz : i.zero = some z)
    (hsize : i.size = size) (hby : i.bytes = bytes) (hzs : z.cells.size = size) (hsz : 0 < size) (v : Value) (n : Nat) (xs : List Value) (hs : a.eval s = v) (hown : w.ownsRow base e size v n xs)
    (A : Option Addr) (m c : Nat) (hc0 : A = none → c = 0) (news : List Value) (hx : a.eval x = .slice A m c) (hr : SrcW w size A m news) (h1 : ∀ u ∈ news, u.oneCell' = true) (h63 : n + m ≤ maxLen) (hbytes : (n + m) * bytes ≤ 140737488355328) (hbase : base ≤ w.heap.size)
    (h : ∀ v' w', w'.ownsRow base e size v' (n + m) (xs ++ news) → w.grownBy w' v.ownBlock → (v'.ownBlock = v.ownBlock ∨ v'.ownBlock = some w.heap.size) → K (a.put o.dst v') w') : o.wp P a w K Q := by
  obtain ⟨v', w', hrun, h2, h3, h4⟩ := run_append_src (P := P) w base t o.type e i z size bytes ht hi hz hsize hby hzs hsz v n xs hown A m c hc0 news hr h1 h63 hbytes hbase
  unfold Oper.wp execOp
  simp only [ho, resolve, invoke, builtin, Sem.run_bind, Sem.run_pure, Result.andThen_ok, List.map_toArray, List.map_cons, List.map_nil, hs, hx, hrun]
  exact h v' w' h2 h3 h4
end
section
variable {w : World} {B : Nat} {e : TypeId} {s n cap : Nat} {A : Option Addr} {xs : List Value}
theorem own_src (h : w.ownsRow B e s (.slice A n cap) n xs) : SrcW w s A n xs := by
  refine ⟨h.1, fun h0 => ?_⟩
  rcases h.2 with ⟨he, h1⟩ | ⟨g, c, cur, he, -⟩
  · omega
  · simp only [Value.slice.injEq] at he
    obtain ⟨rfl, -, rfl⟩ := he
    exact ⟨_, rfl, fun j u hu => h.cells (g := g) rfl _ _ hu⟩
theorem own_form (h : w.ownsRow B e s (.slice A n cap) n xs) : (A = none ∧ cap = 0 ∧ n = 0) ∨ ∃ g, A = some ⟨g, 0, none⟩ ∧ B ≤ g := by
  rcases h.2 with ⟨he, h1⟩ | ⟨g, c, cur, he, h2, -⟩
  · simp only [Value.slice.injEq] at he
    exact .inl ⟨he.1, he.2.2, h1⟩
  · simp only [Value.slice.injEq] at he
    exact .inr ⟨g, he.1, h2⟩
theorem own_cap (h : w.ownsRow B e s (.slice A n cap) n xs) : n ≤ cap ∧ cap ≤ maxLen := by
  rcases h.2 with ⟨he, h1⟩ | ⟨g, c, cur, he, -, -, h2, h3, -⟩
  · simp only [Value.slice.injEq] at he
    obtain ⟨-, rfl, rfl⟩ := he
    exact ⟨zn _, Nat.zero_le _⟩
  · simp only [Value.slice.injEq] at he
    obtain ⟨rfl, -, rfl⟩ := he
    exact ⟨h2, h3⟩
end
theorem ext_at {c : Array Value} {o : Nat} {L : List Value} (h : ∀ j, j < L.length → c[o + j]? = L[j]?) : (c.extract o (o + L.length)).toList = L := by
  apply List.ext_getElem?
  intro j
  rw [Array.getElem?_toList, Array.getElem?_extract]
  by_cases hj : j < L.length
  · have h1 := h j hj
    rw [List.getElem?_eq_getElem hj] at h1
    have h2 := (Array.getElem?_eq_some_iff.1 h1).1
    rw [if_pos (by omega), h1, List.getElem?_eq_getElem hj]
  · rw [if_neg (by omega), List.getElem?_eq_none (by omega)]
theorem below_drewN {B : Nat} {a w : World} (h : Below B a w) (n : Nat) : Below B a (w.drewN n) := ⟨h.os, h.tape, h.output, h.size, h.block⟩
end Go.Proofs.YteofmaiojepdkaaGreat
