/- Chapter 05 in plain Lean: all routines, the listing; each is determined. No condition. -/
import Derived.Test.YteofmaiojepdkaaGreatTbPlc
import Derived.Maps.RangeWalk
import Derived.Maps.OwnSet
import Derived.Maps.OwnOps
import Derived.Maps.Ext
set_option linter.all false
namespace Go.Proofs.YteofmaiojepdkaaGreat
open Go Go.RowKit Go.Maps
theorem heap_setCell_same {w : World} {g i : Nat} {cs : Array Value} {t : TypeId} {fr : Nat × Nat} (h : w.heap[g]? = some (.cells cs t fr)) (v : Value) : (w.setCell ⟨g, i, none⟩ v).heap[g]? = some (.cells (cs.setIfInBounds i v) t fr) := by
 have hlt := (Array.getElem?_eq_some_iff.1 h).1
 have h' : w.heap[g] = .cells cs t fr := by simpa [Array.getElem?_eq_getElem hlt] using h
 show (w.heap.modify g _)[g]? = _
 rw [Array.getElem?_eq_getElem (by simpa using hlt), Array.getElem_modify_self, h']
 rfl
theorem heap_setCell_other {w : World} {g i k : Nat} (h : k ≠ g) (v : Value) : (w.setCell ⟨g, i, none⟩ v).heap[k]? = w.heap[k]? := Below.heap_setCell _ _ _ _ h
structure zg (bs : Nat → Prop) (w w' : World) : Prop where
 os : w'.os = w.os
 tape : w'.tape = w.tape
 output : w'.output = w.output
 size : w.heap.size ≤ w'.heap.size
 block : ∀ k, k < w.heap.size → ¬ bs k → w'.heap[k]? = w.heap[k]?
theorem zg.refl (bs : Nat → Prop) (w : World) : zg bs w w := ⟨rfl, rfl, rfl, zn _, fun _ _ _ => rfl⟩
theorem zg.trans {bs cs : Nat → Prop} {a b c : World} (h : zg bs a b) (k : zg cs b c) (hs : ∀ x, x < a.heap.size → cs x → bs x) : zg bs a c :=
 ⟨k.os.trans h.os, k.tape.trans h.tape, k.output.trans h.output, Nat.le_trans h.size k.size, fun x hx hb => (k.block x (Nat.lt_of_lt_of_le hx h.size) (fun e => hb (hs x hx e))).trans (h.block x hx hb)⟩
theorem zg.mono {bs cs : Nat → Prop} {a b : World} (h : zg bs a b) (hs : ∀ x, x < a.heap.size → bs x → cs x) : zg cs a b := ⟨h.os, h.tape, h.output, h.size, fun x hx hb => h.block x hx fun e => hb (hs x hx e)⟩
theorem zg.drew {bs : Nat → Prop} {a b : World} (h : zg bs a b) : zg bs a b.drew := ⟨h.os, h.tape, h.output, h.size, h.block⟩
theorem zg.alloc {bs : Nat → Prop} {a b : World} (h : zg bs a b) (o : Obj) : zg bs a (b.alloc o) :=
 ⟨h.os, h.tape, h.output, Nat.le_trans h.size (by simp), fun k hk hb => (Below.heap_alloc _ _ _ (Nat.lt_of_lt_of_le hk h.size)).trans (h.block k hk hb)⟩
theorem zg.setCell {bs : Nat → Prop} {a b : World} (h : zg bs a b) {g i : Nat} (v : Value) (hg : g < a.heap.size → bs g) : zg bs a (b.setCell ⟨g, i, none⟩ v) :=
 ⟨h.os, h.tape, h.output, Nat.le_trans h.size (by simp [World.setCell]), fun k hk hb => (heap_setCell_other (by rintro rfl; exact hb (hg hk)) v).trans (h.block k hk hb)⟩
theorem zg.setRow {bs : Nat → Prop} {a b : World} (h : zg bs a b) {g : Nat} (cs : Array Value) (hg : g < a.heap.size → bs g) : zg bs a (b.setRow g cs) :=
 ⟨h.os, h.tape, h.output, Nat.le_trans h.size (by simp [World.setRow]), fun k hk hb => (setRow_other _ _ _ _ (by rintro rfl; exact hb (hg hk))).trans (h.block k hk hb)⟩
theorem zg.grown {bs : Nat → Prop} {a b c : World} (h : zg bs a b) {row : Option Nat} (hg : b.grownBy c row) (hr : ∀ k, row = some k → k < a.heap.size → bs k) : zg bs a c :=
 ⟨hg.os.trans h.os, hg.tape.trans h.tape, hg.output.trans h.output, Nat.le_trans h.size hg.size, fun k hk hb => (hg.block k (Nat.lt_of_lt_of_le hk h.size) (fun e => hb (hr k e.symm hk))).trans (h.block k hk hb)⟩
theorem zg.toBelow {bs : Nat → Prop} {a b : World} {B : Nat} (h : zg bs a b) (hB : B ≤ a.heap.size) (hs : ∀ k, bs k → B ≤ k) : Below B a b :=
 ⟨h.os, h.tape, h.output, h.size, fun k hk => h.block k (Nat.lt_of_lt_of_le hk hB) (fun e => by have := hs k e; omega)⟩
theorem zg.ofBelow {bs : Nat → Prop} {a b : World} (h : Below a.heap.size a b) : zg bs a b := ⟨h.os, h.tape, h.output, h.size, fun k hk _ => h.block k hk⟩
theorem zg.heap {bs : Nat → Prop} {a b : World} (h : zg bs a b) {k : Nat} {o : Obj} (hk : a.heap[k]? = some o) (hb : ¬ bs k) : b.heap[k]? = some o := by
 rw [h.block k (Array.getElem?_eq_some_iff.1 hk).1 hb]; exact hk
theorem flat_at' {c : Array Value} {xs : List Value} {m k : Nat} (h : c.toList.take m = xs) (hk : k < m) : c[k]? = xs[k]? := by
 rw [← h, List.getElem?_take, if_pos hk, Array.getElem?_toList]
theorem own_some {w : World} {B : Nat} {e : TypeId} {s : Nat} {p : Option Addr} {n cap : Nat} {xs : List Value} (h : w.ownsRow B e s (.slice p n cap) n xs) (hn : 0 < n) : ∃ g, p = some ⟨g, 0, none⟩ ∧ B ≤ g ∧ ∃ cur, w.heap[g]? = some (.cells cur e (0, 0)) ∧ cur.toList.take (n * s) = xs := by
 rcases h.2 with ⟨-, h0⟩ | ⟨g, c, cur, e, hB, hg, -, -, -, ht⟩
 ·omega
 ·simp only [Value.slice.injEq] at e
  exact ⟨g, e.1, hB, cur, hg, ht⟩
theorem zi {B : Nat} {e : TypeId} {s : Nat} {v : Value} {n : Nat} {xs : List Value} {w w' : World} {bs : Nat → Prop} (h : w.ownsRow B e s v n xs) (t : zg bs w w') (hb : ∀ k, v.ownBlock = some k → ¬ bs k) : w'.ownsRow B e s v n xs := by
 obtain ⟨h1, h2⟩ := h
 refine ⟨h1, ?_⟩
 rcases h2 with h2 | ⟨g, cap, cur, rfl, hB, hg, r⟩
 ·exact .inl h2
 ·exact .inr ⟨g, cap, cur, rfl, hB, t.heap hg (hb g rfl), r⟩
theorem zz {B : Nat} {e : TypeId} {s : Nat} {v : Value} {n : Nat} {xs : List Value} {w : World} (h : w.ownsRow B e s v n xs) : ∀ k, v.ownBlock = some k → B ≤ k ∧ ∃ cs, w.heap[k]? = some (.cells cs e (0, 0)) := fun k hk => by
 rcases h.2 with ⟨rfl, -⟩ | ⟨g, cap, cur, rfl, hb, hg, -⟩
 ·cases hk
 ·simp only [Value.ownBlock, Option.some.injEq] at hk
  subst hk
  exact ⟨hb, cur, hg⟩
def SrcW (w : World) (size : Nat) (A : Option Addr) (m : Nat) (news : List Value) : Prop := news.length = m * size ∧ (0 < m → ∃ ad, A = some ad ∧ ∀ j u, news[j]? = some u → w.cell? (ad.add j) = some u)
section
variable {P : Program} (w : World)
theorem run_append_src (base : Nat) (t ty e : TypeId) (i : TypeInfo) (z : Value) (size bytes : Nat) (ht : P.underlying t = some (.slice e)) (hi : P.info? e = some i) (hz : i.zero = some z)
  (hsize : i.size = size) (hby : i.bytes = bytes) (hzs : z.cells.size = size) (hsz : 0 < size) (v : Value) (n : Nat) (xs : List Value) (hown : w.ownsRow base e size v n xs)
  (A : Option Addr) (m c : Nat) (hc0 : A = none → c = 0) (news : List Value) (hr : SrcW w size A m news) (h1 : ∀ u ∈ news, u.oneCell' = true) (h63 : n + m ≤ maxLen) (hbytes : (n + m) * bytes ≤ 140737488355328) (hbase : base ≤ w.heap.size) :
  ∃ v' w', (Builtin.append_ #[t, t] ty #[v, .slice A m c]).run P w = .ok v' w' ∧ w'.ownsRow base e size v' (n + m) (xs ++ news) ∧ w.grownBy w' v.ownBlock ∧ (v'.ownBlock = v.ownBlock ∨ v'.ownBlock = some w.heap.size) := by
 cases A with
 | none =>
  have hm : m = 0 := Nat.eq_zero_of_not_pos fun h0 => by obtain ⟨ad, h, _⟩ := hr.2 h0; cases h
  subst hm
  have hn : news = [] := List.eq_nil_of_length_eq_zero (by simpa using hr.1)
  subst hn
  have h0 := hc0 rfl
  subst h0
  exact ⟨v, w, run_append_owned_none (P := P) (w := w) base t ty e i size ht hi v n xs hown, by simpa using hown, ⟨rfl, rfl, rfl, zn _, fun _ _ _ => rfl⟩, .inl rfl⟩
 | some ad =>
  have hc : ∀ j u, news[j]? = some u → w.cell? (ad.add j) = some u := fun j u hu => by
   have h0 : 0 < m := Nat.pos_of_ne_zero fun h0 => by
    subst h0
    have hn : news = [] := List.eq_nil_of_length_eq_zero (by simpa using hr.1)
    subst hn; simp at hu
   obtain ⟨ad', h, hc⟩ := hr.2 h0
   cases h
   exact hc j u hu
  obtain ⟨v', w', hrun, h2, h3, _, h5⟩ := run_append_own_at (P := P) w base t ty e i z size bytes ht hi hz hsize hby hzs hsz v n xs hown ad m c news hr.1 hc h1 h63 hbytes hbase
  exact ⟨v', w', hrun, h2, h3, h5⟩
theorem wp_append_src {o : Oper} {a : Act} {K : Act → World → Prop} {Q : Exit → Act → World → Prop} (s x : Operand) (t : TypeId)
  (ho : o.op = .call { callee := .builtin .append, args := #[s, x], argTypes := #[t, t] })
  (base : Nat) (e : TypeId) (i : TypeInfo) (z : Value) (size bytes : Nat) (ht : P.underlying t = some (.slice e)) (hi : P.info? e = some i) (hz : i.zero = some z)
  (hsize : i.size = size) (hby : i.bytes = bytes) (hzs : z.cells.size = size) (hsz : 0 < size) (v : Value) (n : Nat) (xs : List Value) (hs : a.eval s = v) (hown : w.ownsRow base e size v n xs)
  (A : Option Addr) (m c : Nat) (hc0 : A = none → c = 0) (news : List Value) (hx : a.eval x = .slice A m c) (hr : SrcW w size A m news) (h1 : ∀ u ∈ news, u.oneCell' = true) (h63 : n + m ≤ maxLen) (hbytes : (n + m) * bytes ≤ 140737488355328) (hbase : base ≤ w.heap.size)
  (h : ∀ v' w', w'.ownsRow base e size v' (n + m) (xs ++ news) → w.grownBy w' v.ownBlock → (v'.ownBlock = v.ownBlock ∨ v'.ownBlock = some w.heap.size) → K (a.put o.dst v') w') : o.wp P a w K Q := by
 obtain ⟨v', w', hrun, h2, h3, h4⟩ := run_append_src (P := P) w base t o.type e i z size bytes ht hi hz hsize hby hzs hsz v n xs hown A m c hc0 news hr h1 h63 hbytes hbase
 unfold Oper.wp execOp
 simp only [ho, resolve, invoke, builtin, Sem.run_bind, Sem.run_pure, Result.andThen_ok, List.map_toArray, List.map_cons, List.map_nil, hs, hx, hrun]
 exact h v' w' h2 h3 h4
theorem wpList_append_src {ops : Array Oper} {rest : List Oper} {o : Oper} {a : Act} {Q : Exit → Act → World → Prop} (hgd : o.guard = none) (s x : Operand) (t : TypeId)
  (ho : o.op = .call { callee := .builtin .append, args := #[s, x], argTypes := #[t, t] })
  (base : Nat) (e : TypeId) (i : TypeInfo) (z : Value) (size bytes : Nat) (ht : P.underlying t = some (.slice e)) (hi : P.info? e = some i) (hz : i.zero = some z)
  (hsize : i.size = size) (hby : i.bytes = bytes) (hzs : z.cells.size = size) (hsz : 0 < size) (v : Value) (n : Nat) (xs : List Value) (hs : a.eval s = v) (hown : w.ownsRow base e size v n xs)
  (A : Option Addr) (m c : Nat) (hc0 : A = none → c = 0) (news : List Value) (hx : a.eval x = .slice A m c) (hr : SrcW w size A m news) (h1 : ∀ u ∈ news, u.oneCell' = true) (h63 : n + m ≤ maxLen) (hbytes : (n + m) * bytes ≤ 140737488355328) (hbase : base ≤ w.heap.size)
  (h : ∀ v' w', w'.ownsRow base e size v' (n + m) (xs ++ news) → w.grownBy w' v.ownBlock → (v'.ownBlock = v.ownBlock ∨ v'.ownBlock = some w.heap.size) → wpList P ops Q rest (a.put o.dst v') w') : wpList P ops Q (o :: rest) a w :=
 wpList_plain hgd fun _ hK => wp_append_src w s x t ho base e i z size bytes ht hi hz hsize hby hzs hsz v n xs hs hown A m c hc0 news hx hr h1 h63 hbytes hbase fun v' w' h2 h3 h4 => hK _ _ (h v' w' h2 h3 h4)
end
section
variable {w : World} {B : Nat} {e : TypeId} {s n cap : Nat} {A : Option Addr} {xs : List Value}
theorem own_src (h : w.ownsRow B e s (.slice A n cap) n xs) : SrcW w s A n xs := by
 refine ⟨h.1, fun h0 => ?_⟩
 rcases h.2 with ⟨he, h1⟩ | ⟨g, c, cur, he, -⟩
 ·omega
 ·simp only [Value.slice.injEq] at he
  obtain ⟨rfl, -, rfl⟩ := he
  exact ⟨_, rfl, fun j u hu => h.cells (g := g) rfl _ _ hu⟩
theorem own_form (h : w.ownsRow B e s (.slice A n cap) n xs) : (A = none ∧ cap = 0 ∧ n = 0) ∨ ∃ g, A = some ⟨g, 0, none⟩ ∧ B ≤ g := by
 rcases h.2 with ⟨he, h1⟩ | ⟨g, c, cur, he, h2, -⟩
 ·simp only [Value.slice.injEq] at he
  exact .inl ⟨he.1, he.2.2, h1⟩
 ·simp only [Value.slice.injEq] at he
  exact .inr ⟨g, he.1, h2⟩
theorem own_cap (h : w.ownsRow B e s (.slice A n cap) n xs) : n ≤ cap ∧ cap ≤ maxLen := by
 rcases h.2 with ⟨he, h1⟩ | ⟨g, c, cur, he, -, -, h2, h3, -⟩
 ·simp only [Value.slice.injEq] at he
  obtain ⟨-, rfl, rfl⟩ := he
  exact ⟨zn _, Nat.zero_le _⟩
 ·simp only [Value.slice.injEq] at he
  obtain ⟨rfl, -, rfl⟩ := he
  exact ⟨h2, h3⟩
theorem own_cut (h : w.ownsRow B e s (.slice A n cap) n xs) {k : Nat} (hk : k ≤ n) : w.ownsRow B e s (.slice A k cap) k (xs.take (k * s)) := by
 refine ⟨by rw [List.length_take, h.1]; exact Nat.min_eq_left (Nat.mul_le_mul_right _ hk), ?_⟩
 rcases h.2 with ⟨he, h1⟩ | ⟨g, c, cur, he, h2, h3, h4, h5, h6, h7⟩
 ·simp only [Value.slice.injEq] at he
  obtain ⟨rfl, -, rfl⟩ := he
  have : k = 0 := by omega
  subst this
  exact .inl ⟨rfl, rfl⟩
 ·simp only [Value.slice.injEq] at he
  obtain ⟨rfl, -, rfl⟩ := he
  refine .inr ⟨g, cap, cur, rfl, h2, h3, by omega, h5, h6, ?_⟩
  rw [← h7, List.take_take, Nat.min_eq_left (Nat.mul_le_mul_right _ hk)]
end
theorem own_ptr {w : World} {B : Nat} {e : TypeId} {s n cap : Nat} {A : Option Addr} {xs : List Value} (h : w.ownsRow B e s (.slice A n cap) n xs) (hn : 0 < n) : ∃ g cur, A = some ⟨g, 0, none⟩ ∧ B ≤ g ∧ w.heap[g]? = some (.cells cur e (0, 0)) ∧ ∀ j, j < n * s → cur[j]? = xs[j]? := by
 obtain ⟨g, rfl, hB, cur, hg, ht⟩ := own_some h hn
 exact ⟨g, cur, rfl, hB, hg, fun j hj => flat_at' ht hj⟩
theorem ext_at {c : Array Value} {o : Nat} {L : List Value} (h : ∀ j, j < L.length → c[o + j]? = L[j]?) : (c.extract o (o + L.length)).toList = L := by
 apply List.ext_getElem?
 intro j
 rw [Array.getElem?_toList, Array.getElem?_extract]
 by_cases hj : j < L.length
 ·have h1 := h j hj
  rw [List.getElem?_eq_getElem hj] at h1
  have h2 := (Array.getElem?_eq_some_iff.1 h1).1
  rw [if_pos (by omega), h1, List.getElem?_eq_getElem hj]
 ·rw [if_neg (by omega), List.getElem?_eq_none (by omega)]
theorem below_drewN {B : Nat} {a w : World} (h : Below B a w) (n : Nat) : Below B a (w.drewN n) := ⟨h.os, h.tape, h.output, h.size, h.block⟩
end Go.Proofs.YteofmaiojepdkaaGreat
namespace Go.Proofs.YteofmaiojepdkaaGreat
section
variable {α : Type} {lt : α → α → Prop}
theorem sorted_ext (irr : ∀ a, ¬ lt a a) (tr : ∀ a b c, lt a b → lt b c → lt a c) : ∀ {l m : List α}, l.Pairwise lt → m.Pairwise lt → (∀ x, x ∈ l ↔ x ∈ m) → l = m
 | [], [], _, _, _ => rfl
 | [], b :: m, _, _, h => by have := (h b).2 (by simp); simp at this
 | a :: l, [], _, _, h => by have := (h a).1 (by simp); simp at this
 | a :: l, b :: m, hl, hm, h => by
  rw [List.pairwise_cons] at hl hm
  have hab : a = b := by
   rcases List.mem_cons.1 ((h a).1 (by simp)) with e | ha
   ·exact e
   ·rcases List.mem_cons.1 ((h b).2 (by simp)) with e | hb
    ·exact e.symm
    ·exact absurd (tr _ _ _ (hl.1 b hb) (hm.1 a ha)) (irr a)
  subst hab
  congr 1
  refine sorted_ext irr tr hl.2 hm.2 fun x => ⟨fun hx => ?_, fun hx => ?_⟩
  ·rcases List.mem_cons.1 ((h x).1 (by simp [hx])) with e | hx'
   ·subst e; exact absurd (hl.1 x hx) (irr x)
   ·exact hx'
  ·rcases List.mem_cons.1 ((h x).2 (by simp [hx])) with e | hx'
   ·subst e; exact absurd (hm.1 x hx) (irr x)
   ·exact hx'
theorem xf (irr : ∀ a, ¬ lt a a) {l : List α} (h : l.Pairwise lt) : l.Nodup := h.imp fun {a b} hab e => by subst e; exact irr a hab
end
theorem zb.ext' {a b : zb} (h1 : a.bank = b.bank) (h2 : a.addr = b.addr) : a = b := by cases a; cases b; simp_all
instance : DecidableEq zb := fun a b => decidable_of_iff (a.bank = b.bank ∧ a.addr = b.addr) ⟨fun h => zb.ext' h.1 h.2, fun h => by rw [h]; exact ⟨rfl, rfl⟩⟩
def zP (a b : zb) : Prop := a.bank < b.bank ∨ (a.bank = b.bank ∧ a.addr < b.addr)
instance (a b : zb) : Decidable (zP a b) := by unfold zP; exact inferInstance
theorem zP.irr (a : zb) : ¬ zP a a := by unfold zP; omega
theorem zP.tr (a b c : zb) (h : zP a b) (h' : zP b c) : zP a c := by unfold zP at *; omega
theorem zP.tri (a b : zb) : zP a b ∨ a = b ∨ zP b a := by
 unfold zP
 by_cases h : a.bank = b.bank ∧ a.addr = b.addr
 ·exact .inr (.inl (zb.ext' h.1 h.2))
 ·omega
structure zM where
 kind : Int
 at_ : zb
theorem zM.ext' {a b : zM} (h1 : a.kind = b.kind) (h2 : a.at_ = b.at_) : a = b := by cases a; cases b; simp_all
def yR (a b : zM) : Prop := zP a.at_ b.at_ ∨ (a.at_ = b.at_ ∧ a.kind < b.kind)
instance (a b : zM) : Decidable (yR a b) := by unfold yR; exact inferInstance
theorem yR.irr (a : zM) : ¬ yR a a := by
 unfold yR
 rintro (h | h)
 ·exact zP.irr _ h
 ·omega
theorem yR.tr (a b c : zM) (h : yR a b) (h' : yR b c) : yR a c := by
 unfold yR at *
 rcases h with h | ⟨h1, h2⟩ <;> rcases h' with h' | ⟨h3, h4⟩
 ·exact .inl (zP.tr _ _ _ h h')
 ·exact .inl (h3 ▸ h)
 ·exact .inl (h1 ▸ h')
 ·exact .inr ⟨h1.trans h3, by omega⟩
theorem yR.tri (a b : zM) : yR a b ∨ a = b ∨ yR b a := by
 rcases zP.tri a.at_ b.at_ with h | h | h
 ·exact .inl (.inl h)
 ·by_cases h1 : a.kind < b.kind
  ·exact .inl (.inr ⟨h, h1⟩)
  ·by_cases h2 : b.kind < a.kind
   ·exact .inr (.inr (.inr ⟨h.symm, h2⟩))
   ·exact .inr (.inl (zM.ext' (by omega) h))
 ·exact .inr (.inr (.inl h))
structure ObjI where
 bank : Int
 addr : Int
 size : Int
structure zk where
 banks : List ByteArray
 entry : Int
 vector : Int
 data : List ObjI
structure zk.Ok (I : zk) : Prop where
 n1 : 1 ≤ I.banks.length
 n64 : I.banks.length ≤ 64
 sz : ∀ s ∈ I.banks, s.size = 4096
 en : 0 ≤ I.entry ∧ I.entry < 65536
 ve : 0 ≤ I.vector ∧ I.vector < 65536
 ob : ∀ o ∈ I.data, ja o.bank ∧ (0 ≤ o.addr ∧ o.addr < 65536) ∧ (0 ≤ o.size ∧ o.size < 65536)
 od : I.data.length ≤ 1000
def yg (p : zb) : Bool := decide (0 ≤ p.bank) && decide (p.bank < 64) && ((decide (p.bank = 0) && decide (p.addr < 4096)) || (decide (4096 ≤ p.addr) && decide (p.addr < 8192)))
def inI (I : zk) (p : zb) : Bool := yg p && decide (p.bank < I.banks.length)
def zI (p : zb) : Nat := (p.addr % 4096).toNat
def bankI (I : zk) (p : zb) : ByteArray := I.banks.getD p.bank.toNat ⟨#[]⟩
def zK (I : zk) (p : zb) (n : Int) : ByteArray := if inI I p = true ∧ 1 ≤ n then (bankI I p).extract (zI p) (zI p + n.toNat) else ⟨#[]⟩
def xk (p : zb) (n : Int) : Option zb := if yg p = true ∧ 0 ≤ p.addr % 4096 + n ∧ p.addr % 4096 + n < 4096 then some ⟨p.bank, p.addr + n⟩ else none
def atI (I : zk) (p : zb) : Ins × Int :=
 if (zK I p 1).size = 0 then (yr, 45)
 else if zx (byt (zK I p 1) 0) = 0 then (yr, 11)
 else if (xk p (zx (byt (zK I p 1) 0) - 1)).isSome = false ∨ ((zK I p (zx (byt (zK I p 1) 0))).size : Int) < zx (byt (zK I p 1) 0) then (yr, 45)
 else if xL (zK I p (zx (byt (zK I p 1) 0))) = 0 then (xa (zK I p (zx (byt (zK I p 1) 0))), 0)
 else (yr, 11)
def yt (a : Int) (p : zb) : Option zb := if x4 a then (if x4 p.addr then some ⟨p.bank, a⟩ else none) else some ⟨0, a⟩
structure zO where
 nx : List zb
 cl : List zb
 tb : List zb
 xe : Bool
 xb : Bool
 xt : Bool
def zO.iss (f : zO) : List Int := (if f.xt then [41] else []) ++ ((if f.xb then [42] else []) ++ (if f.xe then [45] else []))
def toF (f : zO) : Option zb → zO
 | some q => { f with nx := f.nx ++ [q] }
 | none => { f with xb := true }
def entF (I : zk) (p : zb) (f : zO) (a : Int) : zO :=
 match yt a p, yt ((a + 1) % 65536) p with
 | some lo, some hi =>
  if (zK I lo 1).size = 0 ∨ (zK I hi 1).size = 0 then { f with xt := true }
  else toF { f with tb := f.tb ++ [lo, hi] } (yt (byt (zK I lo 1) 0 + 256 * byt (zK I hi 1) 0) p)
 | _, _ => { f with xb := true }
def tabF (I : zk) (x : Ins) (p : zb) (f : zO) : Nat → zO
 | 0 => f
 | k + 1 => entF I p (tabF I x p f k) ((x.aux + 2 * k) % 65536)
def optT (t : zb × Bool) : Option zb := if t.2 then some t.1 else none
def zR (x : Ins) (p : zb) : zO :=
 if xZ x then (match xk p x.size with
  | some q => ⟨[q], [], [], false, false, false⟩
  | none => ⟨[], [], [], true, false, false⟩) else ⟨[], [], [], false, false, false⟩
def yU (I : zk) (x : Ins) (p : zb) : zO :=
 if x.op = 130 ∨ x.op = 132 then (match optT (zU x p) with
  | some q => { zR x p with cl := [q] }
  | none => { zR x p with xb := true })
 else if (96 ≤ x.op ∧ x.op ≤ 129) ∨ x.op = 131 then toF (zR x p) (optT (zU x p))
 else if x.op = 133 then tabF I x p (toF (zR x p) (optT (zU x p))) x.bank.toNat
 else if x.op = 134 then { zR x p with xt := true }
 else if x.op = 145 ∧ x.imm = 0 then { zR x p with xb := true }
 else zR x p
def okI (I : zk) (p : zb) : Prop := (atI I p).2 = 0
instance (I : zk) (p : zb) : Decidable (okI I p) := by unfold okI; exact inferInstance
def fl (I : zk) (p : zb) : zO := yU I (atI I p).1 p
inductive Rch (I : zk) (e : zb) : zb → Prop
 | start : Rch I e e
 | step {p q : zb} : Rch I e p → okI I p → q ∈ (fl I p).nx → Rch I e q
structure xc where
 entry : zb
 thunk : Bool
 dest : zb
 code : List zb
 calls : List zb
 iss : List zM
def yS (I : zk) (e : zb) : Prop := okI I e ∧ (atI I e).1.op = 131
instance (I : zk) (p : zb) : Decidable (yS I p) := by unfold yS; exact inferInstance
structure yu (I : zk) (e : zb) (r : xc) : Prop where
 en : r.entry = e
 th : r.thunk = decide (yS I e)
 thk : yS I e → r.dest = (zU (atI I e).1 e).1 ∧ r.code = [e] ∧ r.calls = [] ∧ r.iss = []
 to0 : ¬ yS I e → r.dest = ⟨0, 0⟩
 sc : r.code.Pairwise zP
 sl : r.calls.Pairwise zP
 si : r.iss.Pairwise yR
 mc : ¬ yS I e → ∀ p, p ∈ r.code ↔ Rch I e p ∧ okI I p
 ml : ¬ yS I e → ∀ q, q ∈ r.calls ↔ ∃ p, Rch I e p ∧ okI I p ∧ q ∈ (fl I p).cl
 mi : ¬ yS I e → ∀ x : zM, x ∈ r.iss ↔ Rch I e x.at_ ∧ ((¬ okI I x.at_ ∧ x.kind = (atI I x.at_).2) ∨ (okI I x.at_ ∧ x.kind ∈ (fl I x.at_).iss))
theorem yu.uniq {I : zk} {e : zb} {r r' : xc} (h : yu I e r) (h' : yu I e r') : r = r' := by
 obtain ⟨en, th, dt, code, calls, iss⟩ := r
 obtain ⟨en', th', dt', code', calls', iss'⟩ := r'
 obtain rfl : en = en' := h.en.trans h'.en.symm
 obtain rfl : th = th' := h.th.trans h'.th.symm
 by_cases ht : yS I e
 ·obtain ⟨rfl, rfl, rfl, rfl⟩ := h.thk ht
  obtain ⟨rfl, rfl, rfl, rfl⟩ := h'.thk ht
  rfl
 ·obtain rfl : dt = dt' := (h.to0 ht).trans (h'.to0 ht).symm
  obtain rfl : code = code' := sorted_ext zP.irr zP.tr h.sc h'.sc fun x => (h.mc ht x).trans (h'.mc ht x).symm
  obtain rfl : calls = calls' := sorted_ext zP.irr zP.tr h.sl h'.sl fun x => (h.ml ht x).trans (h'.ml ht x).symm
  obtain rfl : iss = iss' := sorted_ext yR.irr yR.tr h.si h'.si fun x => (h.mi ht x).trans (h'.mi ht x).symm
  rfl
inductive Ent (I : zk) (more : List zb) : zb → Prop
 | first : Ent I more ⟨0, I.entry⟩
 | vec : I.vector ≠ 0 → Ent I more ⟨0, I.vector⟩
 | more {p : zb} : p ∈ more → Ent I more p
 | call {e q : zb} {r : xc} : Ent I more e → yu I e r → q ∈ r.calls → Ent I more q
 | thunk {e : zb} : Ent I more e → yS I e → Ent I more (zU (atI I e).1 e).1
end Go.Proofs.YteofmaiojepdkaaGreat
namespace Go.Proofs.YteofmaiojepdkaaGreat
theorem yw {α : Type} [DecidableEq α] : ∀ {l m : List α}, l.Nodup → (∀ x ∈ l, x ∈ m) → l.length ≤ m.length
 | [], _, _, _ => Nat.zero_le _
 | a :: l, m, hl, h => by
  rw [List.nodup_cons] at hl
  have ha : a ∈ m := h a (by simp)
  have h1 : l.length ≤ (m.erase a).length := yw hl.2 fun x hx => by
   rw [List.mem_erase_of_ne (fun e : x = a => hl.1 (by rw [← e]; exact hx))]
   exact h x (by simp [hx])
  have h2 := List.length_erase_of_mem ha
  have h3 : 0 < m.length := List.length_pos_of_mem ha
  rw [List.length_cons]
  omega
def yz (I : zk) (more : List zb) : Option (List xc) → Prop
 | some rs => (rs.map (·.entry)).Pairwise zP ∧ rs.length ≤ 2000 ∧ (∀ r ∈ rs, yu I r.entry r) ∧ ∀ p, p ∈ rs.map (·.entry) ↔ Ent I more p
 | none => ∃ l : List zb, l.Nodup ∧ (∀ p ∈ l, Ent I more p) ∧ 2000 < l.length
theorem rtns_eq {I : zk} : ∀ {rs rs' : List xc}, (∀ r ∈ rs, yu I r.entry r) → (∀ r ∈ rs', yu I r.entry r) → rs.map (·.entry) = rs'.map (·.entry) → rs = rs'
 | [], [], _, _, _ => rfl
 | [], _ :: _, _, _, h => by simp at h
 | _ :: _, [], _, _, h => by simp at h
 | r :: rs, r' :: rs', h, h', he => by
  simp only [List.map_cons, List.cons.injEq] at he
  have e1 : r = r' := (h r (by simp)).uniq (he.1 ▸ h' r' (by simp))
  rw [e1, rtns_eq (fun x hx => h x (by simp [hx])) (fun x hx => h' x (by simp [hx])) he.2]
theorem yz.uniq {I : zk} {more : List zb} : ∀ {a b : Option (List xc)}, yz I more a → yz I more b → a = b
 | some rs, some rs', h, h' => by
  congr 1
  exact rtns_eq h.2.2.1 h'.2.2.1 (sorted_ext zP.irr zP.tr h.1 h'.1 fun x => (h.2.2.2 x).trans (h'.2.2.2 x).symm)
 | none, none, _, _ => rfl
 | some rs, none, h, ⟨l, h1, h2, h3⟩ => by
  have := yw h1 fun x hx => (h.2.2.2 x).2 (h2 x hx)
  rw [List.length_map] at this
  have := h.2.1
  omega
 | none, some rs, ⟨l, h1, h2, h3⟩, h => by
  have := yw h1 fun x hx => (h.2.2.2 x).2 (h2 x hx)
  rw [List.length_map] at this
  have := h.2.1
  omega
structure IsItems (rs : List xc) (its : List zb) : Prop where
 so : its.Pairwise zP
 me : ∀ p, p ∈ its ↔ ∃ r ∈ rs, p ∈ r.code
theorem IsItems.uniq {rs : List xc} {a b : List zb} (h : IsItems rs a) (h' : IsItems rs b) : a = b := sorted_ext zP.irr zP.tr h.so h'.so fun x => (h.me x).trans (h'.me x).symm
def szI (I : zk) (p : zb) : Nat := (atI I p).1.size.toNat
def covP (I : zk) (b o : Nat) (p : zb) : Bool := decide (p.bank = b) && decide (zI p ≤ o) && decide (o < zI p + szI I p)
def yX (I : zk) (its : List zb) (b o : Nat) : Nat := its.countP (covP I b o)
def inTab (I : zk) (its : List zb) (b o : Nat) : Bool := its.any fun p => (fl I p).tb.any fun q => decide (q.bank = b) && decide (zI q = o)
def inObj (I : zk) (b : Int) (a : Int) : Bool := I.data.any fun o => decide (o.bank = b) && decide (o.addr ≤ a) && decide (a < o.addr + o.size)
def yj (I : zk) (b o : Nat) : Int := if inObj I b o then 5 else 0
def clOf (I : zk) (its : List zb) (b o : Nat) : Int :=
 if yX I its b o = 0 then (if inTab I its b o then 4 else yj I b o)
 else if yX I its b o = 1 then (if its.any fun p => decide (p.bank = b) && decide (zI p = o) && decide (0 < szI I p) then 1 else 2)
 else 3
def yb (I : zk) (its : List zb) (p : zb) : Bool := (List.range (szI I p)).any fun j => decide (1 < yX I its p.bank.toNat (zI p + j))
structure LstS where
 rts : List xc
 cls : List (List Int)
 iss : List zM
def clsL (I : zk) (c : Nat → Nat → Int) : List (List Int) := (List.range I.banks.length).map fun b => (List.range 4096).map fun o => c b o
def manyL (I : zk) : LstS := ⟨[], clsL I (yj I), [⟨2, ⟨0, I.entry⟩⟩]⟩
def fullL (I : zk) (rs : List xc) (its : List zb) : LstS := ⟨rs, clsL I (clOf I its), (its.filter (yb I its)).map fun p => ⟨40, p⟩⟩
def IsLst (I : zk) (more : List zb) (l : LstS) : Prop :=
 (yz I more none ∧ l = manyL I) ∨ ∃ rs its, yz I more (some rs) ∧ IsItems rs its ∧ ((20000 < its.length ∧ l = manyL I) ∨ (its.length ≤ 20000 ∧ l = fullL I rs its))
theorem IsLst.uniq {I : zk} {more : List zb} {a b : LstS} (h : IsLst I more a) (h' : IsLst I more b) : a = b := by
 rcases h with ⟨h1, rfl⟩ | ⟨rs, its, h1, h2, h3⟩ <;> rcases h' with ⟨k1, rfl⟩ | ⟨rs', its', k1, k2, k3⟩
 ·rfl
 ·have := h1.uniq k1; cases this
 ·have := h1.uniq k1; cases this
 ·obtain rfl := Option.some.inj (h1.uniq k1)
  obtain rfl := h2.uniq k2
  rcases h3 with ⟨h3, rfl⟩ | ⟨h3, rfl⟩ <;> rcases k3 with ⟨k3, rfl⟩ | ⟨k3, rfl⟩
  ·rfl
  ·omega
  ·omega
  ·rfl
end Go.Proofs.YteofmaiojepdkaaGreat
