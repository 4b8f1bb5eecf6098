/- Chapter 05 in plain Lean: all routines, the listing; each is determined. No condition. -/
import Derived.Test.YteofmaiojepdkaaGreatSbPlc
import Derived.Maps.RangeWalk
import Derived.Maps.OwnSet
import Derived.Maps.OwnOps
import Derived.Maps.Ext
set_option linter.all false
namespace Go.Proofs.YteofmaiojepdkaaGreat
open Go Go.RowKit Go.Maps
theorem heap_setCell_same {w : World} {g i : Nat} {cs : Array Value} {t : TypeId} {fr : Nat × Nat} (h : w.heap[g]? = some (.cells cs t fr)) (v : Value) : (w.setCell ⟨g, i, none⟩ v).heap[g]? = some (.cells (cs.setIfInBounds i v) t fr) := by
 have hlt := (Array.getElem?_eq_some_iff.1 h).1
 have h' : w.heap[g] = .cells cs t fr := by simpa [Array.getElem?_eq_getElem hlt] using h
 show (w.heap.modify g _)[g]? = _
 rw [Array.getElem?_eq_getElem (by simpa using hlt), Array.getElem_modify_self, h']
 rfl
theorem heap_setCell_other {w : World} {g i k : Nat} (h : k ≠ g) (v : Value) : (w.setCell ⟨g, i, none⟩ v).heap[k]? = w.heap[k]? := Below.heap_setCell _ _ _ _ h
structure zo (bs : Nat → Prop) (w w' : World) : Prop where
 os : w'.os = w.os
 tape : w'.tape = w.tape
 output : w'.output = w.output
 size : w.heap.size ≤ w'.heap.size
 block : ∀ k, k < w.heap.size → ¬ bs k → w'.heap[k]? = w.heap[k]?
theorem zo.refl (bs : Nat → Prop) (w : World) : zo bs w w := ⟨rfl, rfl, rfl, zn _, fun _ _ _ => rfl⟩
theorem zo.trans {bs cs : Nat → Prop} {a b c : World} (h : zo bs a b) (k : zo cs b c) (hs : ∀ x, x < a.heap.size → cs x → bs x) : zo bs a c :=
 ⟨k.os.trans h.os, k.tape.trans h.tape, k.output.trans h.output, Nat.le_trans h.size k.size, fun x hx hb => (k.block x (Nat.lt_of_lt_of_le hx h.size) (fun e => hb (hs x hx e))).trans (h.block x hx hb)⟩
theorem zo.mono {bs cs : Nat → Prop} {a b : World} (h : zo bs a b) (hs : ∀ x, x < a.heap.size → bs x → cs x) : zo cs a b := ⟨h.os, h.tape, h.output, h.size, fun x hx hb => h.block x hx fun e => hb (hs x hx e)⟩
theorem zo.drew {bs : Nat → Prop} {a b : World} (h : zo bs a b) : zo bs a b.drew := ⟨h.os, h.tape, h.output, h.size, h.block⟩
theorem zo.alloc {bs : Nat → Prop} {a b : World} (h : zo bs a b) (o : Obj) : zo bs a (b.alloc o) :=
 ⟨h.os, h.tape, h.output, Nat.le_trans h.size (by simp), fun k hk hb => (Below.heap_alloc _ _ _ (Nat.lt_of_lt_of_le hk h.size)).trans (h.block k hk hb)⟩
theorem zo.setCell {bs : Nat → Prop} {a b : World} (h : zo bs a b) {g i : Nat} (v : Value) (hg : g < a.heap.size → bs g) : zo bs a (b.setCell ⟨g, i, none⟩ v) :=
 ⟨h.os, h.tape, h.output, Nat.le_trans h.size (by simp [World.setCell]), fun k hk hb => (heap_setCell_other (by rintro rfl; exact hb (hg hk)) v).trans (h.block k hk hb)⟩
theorem zo.setRow {bs : Nat → Prop} {a b : World} (h : zo bs a b) {g : Nat} (cs : Array Value) (hg : g < a.heap.size → bs g) : zo bs a (b.setRow g cs) :=
 ⟨h.os, h.tape, h.output, Nat.le_trans h.size (by simp [World.setRow]), fun k hk hb => (setRow_other _ _ _ _ (by rintro rfl; exact hb (hg hk))).trans (h.block k hk hb)⟩
theorem zo.grown {bs : Nat → Prop} {a b c : World} (h : zo bs a b) {row : Option Nat} (hg : b.grownBy c row) (hr : ∀ k, row = some k → k < a.heap.size → bs k) : zo bs a c :=
 ⟨hg.os.trans h.os, hg.tape.trans h.tape, hg.output.trans h.output, Nat.le_trans h.size hg.size, fun k hk hb => (hg.block k (Nat.lt_of_lt_of_le hk h.size) (fun e => hb (hr k e.symm hk))).trans (h.block k hk hb)⟩
theorem zo.toBelow {bs : Nat → Prop} {a b : World} {B : Nat} (h : zo bs a b) (hB : B ≤ a.heap.size) (hs : ∀ k, bs k → B ≤ k) : Below B a b :=
 ⟨h.os, h.tape, h.output, h.size, fun k hk => h.block k (Nat.lt_of_lt_of_le hk hB) (fun e => by have := hs k e; omega)⟩
theorem zo.ofBelow {bs : Nat → Prop} {a b : World} (h : Below a.heap.size a b) : zo bs a b := ⟨h.os, h.tape, h.output, h.size, fun k hk _ => h.block k hk⟩
theorem zo.heap {bs : Nat → Prop} {a b : World} (h : zo bs a b) {k : Nat} {o : Obj} (hk : a.heap[k]? = some o) (hb : ¬ bs k) : b.heap[k]? = some o := by
 rw [h.block k (Array.getElem?_eq_some_iff.1 hk).1 hb]; exact hk
theorem flat_at' {c : Array Value} {xs : List Value} {m k : Nat} (h : c.toList.take m = xs) (hk : k < m) : c[k]? = xs[k]? := by
 rw [← h, List.getElem?_take, if_pos hk, Array.getElem?_toList]
theorem zp {B : Nat} {e : TypeId} {s : Nat} {v : Value} {n : Nat} {xs : List Value} {w w' : World} {bs : Nat → Prop} (h : w.ownsRow B e s v n xs) (t : zo bs w w') (hb : ∀ k, v.ownBlock = some k → ¬ bs k) : w'.ownsRow B e s v n xs := by
 obtain ⟨h1, h2⟩ := h
 refine ⟨h1, ?_⟩
 rcases h2 with h2 | ⟨g, cap, cur, rfl, hB, hg, r⟩
 ·exact .inl h2
 ·exact .inr ⟨g, cap, cur, rfl, hB, t.heap hg (hb g rfl), r⟩
theorem zH {B : Nat} {e : TypeId} {s : Nat} {v : Value} {n : Nat} {xs : List Value} {w : World} (h : w.ownsRow B e s v n xs) : ∀ k, v.ownBlock = some k → B ≤ k ∧ ∃ cs, w.heap[k]? = some (.cells cs e (0, 0)) := fun k hk => by
 rcases h.2 with ⟨rfl, -⟩ | ⟨g, cap, cur, rfl, hb, hg, -⟩
 ·cases hk
 ·simp only [Value.ownBlock, Option.some.injEq] at hk
  subst hk
  exact ⟨hb, cur, hg⟩
def SrcW (w : World) (size : Nat) (A : Option Addr) (m : Nat) (news : List Value) : Prop := news.length = m * size ∧ (0 < m → ∃ ad, A = some ad ∧ ∀ j u, news[j]? = some u → w.cell? (ad.add j) = some u)
section
variable {P : Program} (w : World)
theorem run_append_src (base : Nat) (t ty e : TypeId) (i : TypeInfo) (z : Value) (size bytes : Nat) (ht : P.underlying t = some (.slice e)) (hi : P.info? e = some i) (hz : i.zero = some z)
  (hsize : i.size = size) (hby : i.bytes = bytes) (hzs : z.cells.size = size) (hsz : 0 < size) (v : Value) (n : Nat) (xs : List Value) (hown : w.ownsRow base e size v n xs)
  (A : Option Addr) (m c : Nat) (hc0 : A = none → c = 0) (news : List Value) (hr : SrcW w size A m news) (h1 : ∀ u ∈ news, u.oneCell' = true) (h63 : n + m ≤ maxLen) (hbytes : (n + m) * bytes ≤ 140737488355328) (hbase : base ≤ w.heap.size) :
  ∃ v' w', (Builtin.append_ #[t, t] ty #[v, .slice A m c]).run P w = .ok v' w' ∧ w'.ownsRow base e size v' (n + m) (xs ++ news) ∧ w.grownBy w' v.ownBlock ∧ (v'.ownBlock = v.ownBlock ∨ v'.ownBlock = some w.heap.size) := by
 cases A with
 | none =>
  have hm : m = 0 := Nat.eq_zero_of_not_pos fun h0 => by obtain ⟨ad, h, _⟩ := hr.2 h0; cases h
  subst hm
  have hn : news = [] := List.eq_nil_of_length_eq_zero (by simpa using hr.1)
  subst hn
  have h0 := hc0 rfl
  subst h0
  exact ⟨v, w, run_append_owned_none (P := P) (w := w) base t ty e i size ht hi v n xs hown, by simpa using hown, ⟨rfl, rfl, rfl, zn _, fun _ _ _ => rfl⟩, .inl rfl⟩
 | some ad =>
  have hc : ∀ j u, news[j]? = some u → w.cell? (ad.add j) = some u := fun j u hu => by
   have h0 : 0 < m := Nat.pos_of_ne_zero fun h0 => by
    subst h0
    have hn : news = [] := List.eq_nil_of_length_eq_zero (by simpa using hr.1)
    subst hn; simp at hu
   obtain ⟨ad', h, hc⟩ := hr.2 h0
   cases h
   exact hc j u hu
  obtain ⟨v', w', hrun, h2, h3, _, h5⟩ := run_append_own_at (P := P) w base t ty e i z size bytes ht hi hz hsize hby hzs hsz v n xs hown ad m c news hr.1 hc h1 h63 hbytes hbase
  exact ⟨v', w', hrun, h2, h3, h5⟩
theorem wp_append_src {o : Oper} {a : Act} {K : Act → World → Prop} {Q : Exit → Act → World → Prop} (s x : Operand) (t : TypeId)
  (ho : o.op = .call { callee := .builtin .append, args := #[s, x], argTypes := #[t, t] })
  (base : Nat) (e : TypeId) (i : TypeInfo) (z : Value) (size bytes : Nat) (ht : P.underlying t = some (.slice e)) (hi : P.info? e = some i) (hz : i.zero = some z)
  (hsize : i.size = size) (hby : i.bytes = bytes) (hzs : z.cells.size = size) (hsz : 0 < size) (v : Value) (n : Nat) (xs : List Value) (hs : a.eval s = v) (hown : w.ownsRow base e size v n xs)
  (A : Option Addr) (m c : Nat) (hc0 : A = none → c = 0) (news : List Value) (hx : a.eval x = .slice A m c) (hr : SrcW w size A m news) (h1 : ∀ u ∈ news, u.oneCell' = true) (h63 : n + m ≤ maxLen) (hbytes : (n + m) * bytes ≤ 140737488355328) (hbase : base ≤ w.heap.size)
  (h : ∀ v' w', w'.ownsRow base e size v' (n + m) (xs ++ news) → w.grownBy w' v.ownBlock → (v'.ownBlock = v.ownBlock ∨ v'.ownBlock = some w.heap.size) → K (a.put o.dst v') w') : o.wp P a w K Q := by
 obtain ⟨v', w', hrun, h2, h3, h4⟩ := run_append_src (P := P) w base t o.type e i z size bytes ht hi hz hsize hby hzs hsz v n xs hown A m c hc0 news hr h1 h63 hbytes hbase
 unfold Oper.wp execOp
 simp only [ho, resolve, invoke, builtin, Sem.run_bind, Sem.run_pure, Result.andThen_ok, List.map_toArray, List.map_cons, List.map_nil, hs, hx, hrun]
 exact h v' w' h2 h3 h4
end
section
variable {w : World} {B : Nat} {e : TypeId} {s n cap : Nat} {A : Option Addr} {xs : List Value}
theorem own_src (h : w.ownsRow B e s (.slice A n cap) n xs) : SrcW w s A n xs := by
 refine ⟨h.1, fun h0 => ?_⟩
 rcases h.2 with ⟨he, h1⟩ | ⟨g, c, cur, he, -⟩
 ·omega
 ·simp only [Value.slice.injEq] at he
  obtain ⟨rfl, -, rfl⟩ := he
  exact ⟨_, rfl, fun j u hu => h.cells (g := g) rfl _ _ hu⟩
theorem own_form (h : w.ownsRow B e s (.slice A n cap) n xs) : (A = none ∧ cap = 0 ∧ n = 0) ∨ ∃ g, A = some ⟨g, 0, none⟩ ∧ B ≤ g := by
 rcases h.2 with ⟨he, h1⟩ | ⟨g, c, cur, he, h2, -⟩
 ·simp only [Value.slice.injEq] at he
  exact .inl ⟨he.1, he.2.2, h1⟩
 ·simp only [Value.slice.injEq] at he
  exact .inr ⟨g, he.1, h2⟩
theorem own_cap (h : w.ownsRow B e s (.slice A n cap) n xs) : n ≤ cap ∧ cap ≤ maxLen := by
 rcases h.2 with ⟨he, h1⟩ | ⟨g, c, cur, he, -, -, h2, h3, -⟩
 ·simp only [Value.slice.injEq] at he
  obtain ⟨-, rfl, rfl⟩ := he
  exact ⟨zn _, Nat.zero_le _⟩
 ·simp only [Value.slice.injEq] at he
  obtain ⟨rfl, -, rfl⟩ := he
  exact ⟨h2, h3⟩
end
theorem ext_at {c : Array Value} {o : Nat} {L : List Value} (h : ∀ j, j < L.length → c[o + j]? = L[j]?) : (c.extract o (o + L.length)).toList = L := by
 apply List.ext_getElem?
 intro j
 rw [Array.getElem?_toList, Array.getElem?_extract]
 by_cases hj : j < L.length
 ·have h1 := h j hj
  rw [List.getElem?_eq_getElem hj] at h1
  have h2 := (Array.getElem?_eq_some_iff.1 h1).1
  rw [if_pos (by omega), h1, List.getElem?_eq_getElem hj]
 ·rw [if_neg (by omega), List.getElem?_eq_none (by omega)]
theorem below_drewN {B : Nat} {a w : World} (h : Below B a w) (n : Nat) : Below B a (w.drewN n) := ⟨h.os, h.tape, h.output, h.size, h.block⟩
end Go.Proofs.YteofmaiojepdkaaGreat
namespace Go.Proofs.YteofmaiojepdkaaGreat
section
variable {α : Type} {lt : α → α → Prop}
theorem sorted_ext (irr : ∀ a, ¬ lt a a) (tr : ∀ a b c, lt a b → lt b c → lt a c) : ∀ {l m : List α}, l.Pairwise lt → m.Pairwise lt → (∀ x, x ∈ l ↔ x ∈ m) → l = m
 | [], [], _, _, _ => rfl
 | [], b :: m, _, _, h => by have := (h b).2 (by simp); simp at this
 | a :: l, [], _, _, h => by have := (h a).1 (by simp); simp at this
 | a :: l, b :: m, hl, hm, h => by
  rw [List.pairwise_cons] at hl hm
  have hab : a = b := by
   rcases List.mem_cons.1 ((h a).1 (by simp)) with e | ha
   ·exact e
   ·rcases List.mem_cons.1 ((h b).2 (by simp)) with e | hb
    ·exact e.symm
    ·exact absurd (tr _ _ _ (hl.1 b hb) (hm.1 a ha)) (irr a)
  subst hab
  congr 1
  refine sorted_ext irr tr hl.2 hm.2 fun x => ⟨fun hx => ?_, fun hx => ?_⟩
  ·rcases List.mem_cons.1 ((h x).1 (by simp [hx])) with e | hx'
   ·subst e; exact absurd (hl.1 x hx) (irr x)
   ·exact hx'
  ·rcases List.mem_cons.1 ((h x).2 (by simp [hx])) with e | hx'
   ·subst e; exact absurd (hm.1 x hx) (irr x)
   ·exact hx'
theorem sorted_nodup (irr : ∀ a, ¬ lt a a) {l : List α} (h : l.Pairwise lt) : l.Nodup := h.imp fun {a b} hab e => by subst e; exact irr a hab
end
theorem zd.ext' {a b : zd} (h1 : a.bank = b.bank) (h2 : a.addr = b.addr) : a = b := by cases a; cases b; simp_all
instance : DecidableEq zd := fun a b => decidable_of_iff (a.bank = b.bank ∧ a.addr = b.addr) ⟨fun h => zd.ext' h.1 h.2, fun h => by rw [h]; exact ⟨rfl, rfl⟩⟩
def yb (a b : zd) : Prop := a.bank < b.bank ∨ (a.bank = b.bank ∧ a.addr < b.addr)
instance (a b : zd) : Decidable (yb a b) := by unfold yb; exact inferInstance
theorem yb.irr (a : zd) : ¬ yb a a := by unfold yb; omega
theorem yb.tr (a b c : zd) (h : yb a b) (h' : yb b c) : yb a c := by unfold yb at *; omega
theorem yb.tri (a b : zd) : yb a b ∨ a = b ∨ yb b a := by
 unfold yb
 by_cases h : a.bank = b.bank ∧ a.addr = b.addr
 ·exact .inr (.inl (zd.ext' h.1 h.2))
 ·omega
structure yj where
 kind : Int
 at_ : zd
theorem yj.ext' {a b : yj} (h1 : a.kind = b.kind) (h2 : a.at_ = b.at_) : a = b := by cases a; cases b; simp_all
def befI (a b : yj) : Prop := yb a.at_ b.at_ ∨ (a.at_ = b.at_ ∧ a.kind < b.kind)
instance (a b : yj) : Decidable (befI a b) := by unfold befI; exact inferInstance
theorem befI.irr (a : yj) : ¬ befI a a := by
 unfold befI
 rintro (h | h)
 ·exact yb.irr _ h
 ·omega
theorem befI.tr (a b c : yj) (h : befI a b) (h' : befI b c) : befI a c := by
 unfold befI at *
 rcases h with h | ⟨h1, h2⟩ <;> rcases h' with h' | ⟨h3, h4⟩
 ·exact .inl (yb.tr _ _ _ h h')
 ·exact .inl (h3 ▸ h)
 ·exact .inl (h1 ▸ h')
 ·exact .inr ⟨h1.trans h3, by omega⟩
theorem befI.tri (a b : yj) : befI a b ∨ a = b ∨ befI b a := by
 rcases yb.tri a.at_ b.at_ with h | h | h
 ·exact .inl (.inl h)
 ·by_cases h1 : a.kind < b.kind
  ·exact .inl (.inr ⟨h, h1⟩)
  ·by_cases h2 : b.kind < a.kind
   ·exact .inr (.inr (.inr ⟨h.symm, h2⟩))
   ·exact .inr (.inl (yj.ext' (by omega) h))
 ·exact .inr (.inr (.inl h))
structure ObjI where
 bank : Int
 addr : Int
 size : Int
structure zr where
 banks : List ByteArray
 entry : Int
 vector : Int
 data : List ObjI
structure zr.Ok (I : zr) : Prop where
 n1 : 1 ≤ I.banks.length
 n64 : I.banks.length ≤ 64
 sz : ∀ s ∈ I.banks, s.size = 4096
 en : 0 ≤ I.entry ∧ I.entry < 65536
 ve : 0 ≤ I.vector ∧ I.vector < 65536
 ob : ∀ o ∈ I.data, yV o.bank ∧ (0 ≤ o.addr ∧ o.addr < 65536) ∧ (0 ≤ o.size ∧ o.size < 65536)
 od : I.data.length ≤ 1000
def z7 (p : zd) : Bool := decide (0 ≤ p.bank) && decide (p.bank < 64) && ((decide (p.bank = 0) && decide (p.addr < 4096)) || (decide (4096 ≤ p.addr) && decide (p.addr < 8192)))
def inI (I : zr) (p : zd) : Bool := z7 p && decide (p.bank < I.banks.length)
def zP (p : zd) : Nat := (p.addr % 4096).toNat
def bankI (I : zr) (p : zd) : ByteArray := I.banks.getD p.bank.toNat ⟨#[]⟩
def zG (I : zr) (p : zd) (n : Int) : ByteArray := if inI I p = true ∧ 1 ≤ n then (bankI I p).extract (zP p) (zP p + n.toNat) else ⟨#[]⟩
def xg (p : zd) (n : Int) : Option zd := if z7 p = true ∧ 0 ≤ p.addr % 4096 + n ∧ p.addr % 4096 + n < 4096 then some ⟨p.bank, p.addr + n⟩ else none
def atI (I : zr) (p : zd) : Ins × Int :=
 if (zG I p 1).size = 0 then (ya, 45)
 else if zu (byt (zG I p 1) 0) = 0 then (ya, 11)
 else if (xg p (zu (byt (zG I p 1) 0) - 1)).isSome = false ∨ ((zG I p (zu (byt (zG I p 1) 0))).size : Int) < zu (byt (zG I p 1) 0) then (ya, 45)
 else if xl (zG I p (zu (byt (zG I p 1) 0))) = 0 then (yP (zG I p (zu (byt (zG I p 1) 0))), 0)
 else (ya, 11)
def xf (a : Int) (p : zd) : Option zd := if winS a then (if winS p.addr then some ⟨p.bank, a⟩ else none) else some ⟨0, a⟩
structure z6 where
 nx : List zd
 cl : List zd
 tb : List zd
 xe : Bool
 xb : Bool
 xt : Bool
def z6.iss (f : z6) : List Int := (if f.xt then [41] else []) ++ ((if f.xb then [42] else []) ++ (if f.xe then [45] else []))
def toF (f : z6) : Option zd → z6
 | some q => { f with nx := f.nx ++ [q] }
 | none => { f with xb := true }
def entF (I : zr) (p : zd) (f : z6) (a : Int) : z6 :=
 match xf a p, xf ((a + 1) % 65536) p with
 | some lo, some hi =>
  if (zG I lo 1).size = 0 ∨ (zG I hi 1).size = 0 then { f with xt := true }
  else toF { f with tb := f.tb ++ [lo, hi] } (xf (byt (zG I lo 1) 0 + 256 * byt (zG I hi 1) 0) p)
 | _, _ => { f with xb := true }
def tabF (I : zr) (x : Ins) (p : zd) (f : z6) : Nat → z6
 | 0 => f
 | k + 1 => entF I p (tabF I x p f k) ((x.aux + 2 * k) % 65536)
def optT (t : zd × Bool) : Option zd := if t.2 then some t.1 else none
def yf (x : Ins) (p : zd) : z6 :=
 if fallsS x then (match xg p x.size with
  | some q => ⟨[q], [], [], false, false, false⟩
  | none => ⟨[], [], [], true, false, false⟩) else ⟨[], [], [], false, false, false⟩
def xL (I : zr) (x : Ins) (p : zd) : z6 :=
 if x.op = 130 ∨ x.op = 132 then (match optT (yo x p) with
  | some q => { yf x p with cl := [q] }
  | none => { yf x p with xb := true })
 else if (96 ≤ x.op ∧ x.op ≤ 129) ∨ x.op = 131 then toF (yf x p) (optT (yo x p))
 else if x.op = 133 then tabF I x p (toF (yf x p) (optT (yo x p))) x.bank.toNat
 else if x.op = 134 then { yf x p with xt := true }
 else if x.op = 145 ∧ x.imm = 0 then { yf x p with xb := true }
 else yf x p
def okI (I : zr) (p : zd) : Prop := (atI I p).2 = 0
instance (I : zr) (p : zd) : Decidable (okI I p) := by unfold okI; exact inferInstance
def fl (I : zr) (p : zd) : z6 := xL I (atI I p).1 p
inductive Rch (I : zr) (e : zd) : zd → Prop
 | start : Rch I e e
 | step {p q : zd} : Rch I e p → okI I p → q ∈ (fl I p).nx → Rch I e q
structure xd where
 entry : zd
 thunk : Bool
 dest : zd
 code : List zd
 calls : List zd
 iss : List yj
def yK (I : zr) (e : zd) : Prop := okI I e ∧ (atI I e).1.op = 131
instance (I : zr) (p : zd) : Decidable (yK I p) := by unfold yK; exact inferInstance
structure ym (I : zr) (e : zd) (r : xd) : Prop where
 en : r.entry = e
 th : r.thunk = decide (yK I e)
 thk : yK I e → r.dest = (yo (atI I e).1 e).1 ∧ r.code = [e] ∧ r.calls = [] ∧ r.iss = []
 to0 : ¬ yK I e → r.dest = ⟨0, 0⟩
 sc : r.code.Pairwise yb
 sl : r.calls.Pairwise yb
 si : r.iss.Pairwise befI
 mc : ¬ yK I e → ∀ p, p ∈ r.code ↔ Rch I e p ∧ okI I p
 ml : ¬ yK I e → ∀ q, q ∈ r.calls ↔ ∃ p, Rch I e p ∧ okI I p ∧ q ∈ (fl I p).cl
 mi : ¬ yK I e → ∀ x : yj, x ∈ r.iss ↔ Rch I e x.at_ ∧ ((¬ okI I x.at_ ∧ x.kind = (atI I x.at_).2) ∨ (okI I x.at_ ∧ x.kind ∈ (fl I x.at_).iss))
theorem ym.uniq {I : zr} {e : zd} {r r' : xd} (h : ym I e r) (h' : ym I e r') : r = r' := by
 obtain ⟨en, th, dt, code, calls, iss⟩ := r
 obtain ⟨en', th', dt', code', calls', iss'⟩ := r'
 obtain rfl : en = en' := h.en.trans h'.en.symm
 obtain rfl : th = th' := h.th.trans h'.th.symm
 by_cases ht : yK I e
 ·obtain ⟨rfl, rfl, rfl, rfl⟩ := h.thk ht
  obtain ⟨rfl, rfl, rfl, rfl⟩ := h'.thk ht
  rfl
 ·obtain rfl : dt = dt' := (h.to0 ht).trans (h'.to0 ht).symm
  obtain rfl : code = code' := sorted_ext yb.irr yb.tr h.sc h'.sc fun x => (h.mc ht x).trans (h'.mc ht x).symm
  obtain rfl : calls = calls' := sorted_ext yb.irr yb.tr h.sl h'.sl fun x => (h.ml ht x).trans (h'.ml ht x).symm
  obtain rfl : iss = iss' := sorted_ext befI.irr befI.tr h.si h'.si fun x => (h.mi ht x).trans (h'.mi ht x).symm
  rfl
inductive Ent (I : zr) (more : List zd) : zd → Prop
 | first : Ent I more ⟨0, I.entry⟩
 | vec : I.vector ≠ 0 → Ent I more ⟨0, I.vector⟩
 | more {p : zd} : p ∈ more → Ent I more p
 | call {e q : zd} {r : xd} : Ent I more e → ym I e r → q ∈ r.calls → Ent I more q
 | thunk {e : zd} : Ent I more e → yK I e → Ent I more (yo (atI I e).1 e).1
end Go.Proofs.YteofmaiojepdkaaGreat
namespace Go.Proofs.YteofmaiojepdkaaGreat
theorem yH {α : Type} [DecidableEq α] : ∀ {l m : List α}, l.Nodup → (∀ x ∈ l, x ∈ m) → l.length ≤ m.length
 | [], _, _, _ => Nat.zero_le _
 | a :: l, m, hl, h => by
  rw [List.nodup_cons] at hl
  have ha : a ∈ m := h a (by simp)
  have h1 : l.length ≤ (m.erase a).length := yH hl.2 fun x hx => by
   rw [List.mem_erase_of_ne (fun e : x = a => hl.1 (by rw [← e]; exact hx))]
   exact h x (by simp [hx])
  have h2 := List.length_erase_of_mem ha
  have h3 : 0 < m.length := List.length_pos_of_mem ha
  rw [List.length_cons]
  omega
def y8 (I : zr) (more : List zd) : Option (List xd) → Prop
 | some rs => (rs.map (·.entry)).Pairwise yb ∧ rs.length ≤ 2000 ∧ (∀ r ∈ rs, ym I r.entry r) ∧ ∀ p, p ∈ rs.map (·.entry) ↔ Ent I more p
 | none => ∃ l : List zd, l.Nodup ∧ (∀ p ∈ l, Ent I more p) ∧ 2000 < l.length
theorem rtns_eq {I : zr} : ∀ {rs rs' : List xd}, (∀ r ∈ rs, ym I r.entry r) → (∀ r ∈ rs', ym I r.entry r) → rs.map (·.entry) = rs'.map (·.entry) → rs = rs'
 | [], [], _, _, _ => rfl
 | [], _ :: _, _, _, h => by simp at h
 | _ :: _, [], _, _, h => by simp at h
 | r :: rs, r' :: rs', h, h', he => by
  simp only [List.map_cons, List.cons.injEq] at he
  have e1 : r = r' := (h r (by simp)).uniq (he.1 ▸ h' r' (by simp))
  rw [e1, rtns_eq (fun x hx => h x (by simp [hx])) (fun x hx => h' x (by simp [hx])) he.2]
theorem y8.uniq {I : zr} {more : List zd} : ∀ {a b : Option (List xd)}, y8 I more a → y8 I more b → a = b
 | some rs, some rs', h, h' => by
  congr 1
  exact rtns_eq h.2.2.1 h'.2.2.1 (sorted_ext yb.irr yb.tr h.1 h'.1 fun x => (h.2.2.2 x).trans (h'.2.2.2 x).symm)
 | none, none, _, _ => rfl
 | some rs, none, h, ⟨l, h1, h2, h3⟩ => by
  have := yH h1 fun x hx => (h.2.2.2 x).2 (h2 x hx)
  rw [List.length_map] at this
  have := h.2.1
  omega
 | none, some rs, ⟨l, h1, h2, h3⟩, h => by
  have := yH h1 fun x hx => (h.2.2.2 x).2 (h2 x hx)
  rw [List.length_map] at this
  have := h.2.1
  omega
structure IsItems (rs : List xd) (its : List zd) : Prop where
 so : its.Pairwise yb
 me : ∀ p, p ∈ its ↔ ∃ r ∈ rs, p ∈ r.code
theorem IsItems.uniq {rs : List xd} {a b : List zd} (h : IsItems rs a) (h' : IsItems rs b) : a = b := sorted_ext yb.irr yb.tr h.so h'.so fun x => (h.me x).trans (h'.me x).symm
def szI (I : zr) (p : zd) : Nat := (atI I p).1.size.toNat
def covP (I : zr) (b o : Nat) (p : zd) : Bool := decide (p.bank = b) && decide (zP p ≤ o) && decide (o < zP p + szI I p)
def xc (I : zr) (its : List zd) (b o : Nat) : Nat := its.countP (covP I b o)
def inTab (I : zr) (its : List zd) (b o : Nat) : Bool := its.any fun p => (fl I p).tb.any fun q => decide (q.bank = b) && decide (zP q = o)
def inObj (I : zr) (b : Int) (a : Int) : Bool := I.data.any fun o => decide (o.bank = b) && decide (o.addr ≤ a) && decide (a < o.addr + o.size)
def xx (I : zr) (b o : Nat) : Int := if inObj I b o then 5 else 0
def clOf (I : zr) (its : List zd) (b o : Nat) : Int :=
 if xc I its b o = 0 then (if inTab I its b o then 4 else xx I b o)
 else if xc I its b o = 1 then (if its.any fun p => decide (p.bank = b) && decide (zP p = o) && decide (0 < szI I p) then 1 else 2)
 else 3
def yM (I : zr) (its : List zd) (p : zd) : Bool := (List.range (szI I p)).any fun j => decide (1 < xc I its p.bank.toNat (zP p + j))
structure LstS where
 rts : List xd
 cls : List (List Int)
 iss : List yj
def clsL (I : zr) (c : Nat → Nat → Int) : List (List Int) := (List.range I.banks.length).map fun b => (List.range 4096).map fun o => c b o
def manyL (I : zr) : LstS := ⟨[], clsL I (xx I), [⟨2, ⟨0, I.entry⟩⟩]⟩
def fullL (I : zr) (rs : List xd) (its : List zd) : LstS := ⟨rs, clsL I (clOf I its), (its.filter (yM I its)).map fun p => ⟨40, p⟩⟩
def IsLst (I : zr) (more : List zd) (l : LstS) : Prop :=
 (y8 I more none ∧ l = manyL I) ∨ ∃ rs its, y8 I more (some rs) ∧ IsItems rs its ∧ ((20000 < its.length ∧ l = manyL I) ∨ (its.length ≤ 20000 ∧ l = fullL I rs its))
theorem IsLst.uniq {I : zr} {more : List zd} {a b : LstS} (h : IsLst I more a) (h' : IsLst I more b) : a = b := by
 rcases h with ⟨h1, rfl⟩ | ⟨rs, its, h1, h2, h3⟩ <;> rcases h' with ⟨k1, rfl⟩ | ⟨rs', its', k1, k2, k3⟩
 ·rfl
 ·have := h1.uniq k1; cases this
 ·have := h1.uniq k1; cases this
 ·obtain rfl := Option.some.inj (h1.uniq k1)
  obtain rfl := h2.uniq k2
  rcases h3 with ⟨h3, rfl⟩ | ⟨h3, rfl⟩ <;> rcases k3 with ⟨k3, rfl⟩ | ⟨k3, rfl⟩
  ·rfl
  ·omega
  ·omega
  ·rfl
end Go.Proofs.YteofmaiojepdkaaGreat
