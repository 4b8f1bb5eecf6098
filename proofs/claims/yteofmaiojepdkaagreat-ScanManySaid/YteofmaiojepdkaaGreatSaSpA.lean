/- Chapter 05 in plain Lean: all routines, the listing; each is determined. No condition. -/
import Derived.Test.YteofmaiojepdkaaGreatSaPlc
set_option linter.all false
namespace Go.Proofs.YteofmaiojepdkaaGreat
/-! ### Sorted lists -/
section
variable {α : Type} {lt : α → α → Prop}
/-- Two sorted lists with the same members are one. -/
theorem sorted_ext (irr : ∀ a, ¬ lt a a) (tr : ∀ a b c, lt a b → lt b c → lt a c) : ∀ {l m : List α}, l.Pairwise lt → m.Pairwise lt → (∀ x, x ∈ l ↔ x ∈ m) → l = m
  | [], [], _, _, _ => rfl
  | [], b :: m, _, _, h => by have := (h b).2 (by simp); simp at this
  | a :: l, [], _, _, h => by have := (h a).1 (by simp); simp at this
  | a :: l, b :: m, hl, hm, h => by
    rw [List.pairwise_cons] at hl hm
    have hab : a = b := by
      rcases List.mem_cons.1 ((h a).1 (by simp)) with e | ha
      · exact e
      · rcases List.mem_cons.1 ((h b).2 (by simp)) with e | hb
        · exact e.symm
        · exact absurd (tr _ _ _ (hl.1 b hb) (hm.1 a ha)) (irr a)
    subst hab
    congr 1
    refine sorted_ext irr tr hl.2 hm.2 fun x => ⟨fun hx => ?_, fun hx => ?_⟩
    · rcases List.mem_cons.1 ((h x).1 (by simp [hx])) with e | hx'
      · subst e; exact absurd (hl.1 x hx) (irr x)
      · exact hx'
    · rcases List.mem_cons.1 ((h x).2 (by simp [hx])) with e | hx'
      · subst e; exact absurd (hm.1 x hx) (irr x)
      · exact hx'
theorem sorted_nodup (irr : ∀ a, ¬ lt a a) {l : List α} (h : l.Pairwise lt) : l.Nodup := h.imp fun {a b} hab e => by subst e; exact irr a hab
end
/-! ### Places -/
theorem zc.ext' {a b : zc} (h1 : a.bank = b.bank) (h2 : a.addr = b.addr) : a = b := by cases a; cases b; simp_all
instance : DecidableEq zc := fun a b => decidable_of_iff (a.bank = b.bank ∧ a.addr = b.addr) ⟨fun h => zc.ext' h.1 h.2, fun h => by rw [h]; exact ⟨rfl, rfl⟩⟩
def zU (a b : zc) : Prop := a.bank < b.bank ∨ (a.bank = b.bank ∧ a.addr < b.addr)
instance (a b : zc) : Decidable (zU a b) := by unfold zU; exact inferInstance
theorem zU.irr (a : zc) : ¬ zU a a := by unfold zU; omega
theorem zU.tr (a b c : zc) (h : zU a b) (h' : zU b c) : zU a c := by unfold zU at *; omega
theorem zU.tri (a b : zc) : zU a b ∨ a = b ∨ zU b a := by
  unfold zU
  by_cases h : a.bank = b.bank ∧ a.addr = b.addr
  · exact .inr (.inl (zc.ext' h.1 h.2))
  · omega
/-- Issues: a kind at a place. -/
structure zP where
  kind : Int
  at_ : zc
theorem zP.ext' {a b : zP} (h1 : a.kind = b.kind) (h2 : a.at_ = b.at_) : a = b := by cases a; cases b; simp_all
def befI (a b : zP) : Prop := zU a.at_ b.at_ ∨ (a.at_ = b.at_ ∧ a.kind < b.kind)
instance (a b : zP) : Decidable (befI a b) := by unfold befI; exact inferInstance
theorem befI.irr (a : zP) : ¬ befI a a := by
  unfold befI
  rintro (h | h)
  · exact zU.irr _ h
  · omega
theorem befI.tr (a b c : zP) (h : befI a b) (h' : befI b c) : befI a c := by
  unfold befI at *
  rcases h with h | ⟨h1, h2⟩ <;> rcases h' with h' | ⟨h3, h4⟩
  · exact .inl (zU.tr _ _ _ h h')
  · exact .inl (h3 ▸ h)
  · exact .inl (h1 ▸ h')
  · exact .inr ⟨h1.trans h3, by omega⟩
theorem befI.tri (a b : zP) : befI a b ∨ a = b ∨ befI b a := by
  rcases zU.tri a.at_ b.at_ with h | h | h
  · exact .inl (.inl h)
  · by_cases h1 : a.kind < b.kind
    · exact .inl (.inr ⟨h, h1⟩)
    · by_cases h2 : b.kind < a.kind
      · exact .inr (.inr (.inr ⟨h.symm, h2⟩))
      · exact .inr (.inl (zP.ext' (by omega) h))
  · exact .inr (.inr (.inl h))
/-! ### Images -/
structure ObjI where
  bank : Int
  addr : Int
  size : Int
structure zj where
  banks : List ByteArray
  entry : Int
  vector : Int
  data : List ObjI
structure zj.Ok (I : zj) : Prop where
  n1 : 1 ≤ I.banks.length
  n64 : I.banks.length ≤ 64
  sz : ∀ s ∈ I.banks, s.size = 4096
  en : 0 ≤ I.entry ∧ I.entry < 65536
  ve : 0 ≤ I.vector ∧ I.vector < 65536
  ob : ∀ o ∈ I.data, i64ok o.bank ∧ (0 ≤ o.addr ∧ o.addr < 65536) ∧ (0 ≤ o.size ∧ o.size < 65536)
  od : I.data.length ≤ 1000
def ym (p : zc) : Bool := decide (0 ≤ p.bank) && decide (p.bank < 64) && ((decide (p.bank = 0) && decide (p.addr < 4096)) || (decide (4096 ≤ p.addr) && decide (p.addr < 8192)))
/-- A place of the image: its bank and its offset. -/
def inI (I : zj) (p : zc) : Bool := ym p && decide (p.bank < I.banks.length)
def zw (p : zc) : Nat := (p.addr % 4096).toNat
def bankI (I : zj) (p : zc) : ByteArray := I.banks.getD p.bank.toNat ⟨#[]⟩
/-- At most n bytes of the code at a place. -/
def zG (I : zj) (p : zc) (n : Int) : ByteArray := if inI I p = true ∧ 1 ≤ n then (bankI I p).extract (zw p) (zw p + n.toNat) else ⟨#[]⟩
/-- The place n bytes behind. -/
def nextP (p : zc) (n : Int) : Option zc := if ym p = true ∧ 0 ≤ p.addr % 4096 + n ∧ p.addr % 4096 + n < 4096 then some ⟨p.bank, p.addr + n⟩ else none
/-- The instruction at a place, or the error why there is none. -/
def atI (I : zj) (p : zc) : Ins × Int :=
  if (zG I p 1).size = 0 then (ya, 45)
  else if zm (byt (zG I p 1) 0) = 0 then (ya, 11)
  else if (nextP p (zm (byt (zG I p 1) 0) - 1)).isSome = false ∨ ((zG I p (zm (byt (zG I p 1) 0))).size : Int) < zm (byt (zG I p 1) 0) then (ya, 45)
  else if decE (zG I p (zm (byt (zG I p 1) 0))) = 0 then (decI (zG I p (zm (byt (zG I p 1) 0))), 0)
  else (ya, 11)
/-- The place of an address, seen from a place. -/
def yv (a : Int) (p : zc) : Option zc := if winS a then (if winS p.addr then some ⟨p.bank, a⟩ else none) else some ⟨0, a⟩
/-- What follows from an instruction: successors, callees, the places of its table's bytes; its issues (no exit, no bank, no table). -/
structure zN where
  nx : List zc
  cl : List zc
  tb : List zc
  xe : Bool
  xb : Bool
  xt : Bool
def zN.iss (f : zN) : List Int := (if f.xt then [41] else []) ++ ((if f.xb then [42] else []) ++ (if f.xe then [45] else []))
def toF (f : zN) : Option zc → zN
  | some q => { f with nx := f.nx ++ [q] }
  | none => { f with xb := true }
def entF (I : zj) (p : zc) (f : zN) (a : Int) : zN :=
  match yv a p, yv ((a + 1) % 65536) p with
  | some lo, some hi =>
    if (zG I lo 1).size = 0 ∨ (zG I hi 1).size = 0 then { f with xt := true }
    else toF { f with tb := f.tb ++ [lo, hi] } (yv (byt (zG I lo 1) 0 + 256 * byt (zG I hi 1) 0) p)
  | _, _ => { f with xb := true }
def tabF (I : zj) (x : Ins) (p : zc) (f : zN) : Nat → zN
  | 0 => f
  | k + 1 => entF I p (tabF I x p f k) ((x.aux + 2 * k) % 65536)
def optT (t : zc × Bool) : Option zc := if t.2 then some t.1 else none
def zS (x : Ins) (p : zc) : zN :=
  if fallsS x then (match nextP p x.size with
    | some q => ⟨[q], [], [], false, false, false⟩
    | none => ⟨[], [], [], true, false, false⟩) else ⟨[], [], [], false, false, false⟩
def yV (I : zj) (x : Ins) (p : zc) : zN :=
  if x.op = 130 ∨ x.op = 132 then (match optT (zX x p) with
    | some q => { zS x p with cl := [q] }
    | none => { zS x p with xb := true })
  else if (96 ≤ x.op ∧ x.op ≤ 129) ∨ x.op = 131 then toF (zS x p) (optT (zX x p))
  else if x.op = 133 then tabF I x p (toF (zS x p) (optT (zX x p))) x.bank.toNat
  else if x.op = 134 then { zS x p with xt := true }
  else if x.op = 145 ∧ x.imm = 0 then { zS x p with xb := true }
  else zS x p
/-! ### Routines -/
def okI (I : zj) (p : zc) : Prop := (atI I p).2 = 0
instance (I : zj) (p : zc) : Decidable (okI I p) := by unfold okI; exact inferInstance
def fl (I : zj) (p : zc) : zN := yV I (atI I p).1 p
/-- What is reached from an entry. -/
inductive Rch (I : zj) (e : zc) : zc → Prop
  | start : Rch I e e
  | step {p q : zc} : Rch I e p → okI I p → q ∈ (fl I p).nx → Rch I e q
structure yT where
  entry : zc
  thunk : Bool
  dest : zc
  code : List zc
  calls : List zc
  iss : List zP
def yc (I : zj) (e : zc) : Prop := okI I e ∧ (atI I e).1.op = 131
instance (I : zj) (p : zc) : Decidable (yc I p) := by unfold yc; exact inferInstance
/-- The routine with an entry, as its lists say. -/
structure zW (I : zj) (e : zc) (r : yT) : Prop where
  en : r.entry = e
  th : r.thunk = decide (yc I e)
  thk : yc I e → r.dest = (zX (atI I e).1 e).1 ∧ r.code = [e] ∧ r.calls = [] ∧ r.iss = []
  to0 : ¬ yc I e → r.dest = ⟨0, 0⟩
  sc : r.code.Pairwise zU
  sl : r.calls.Pairwise zU
  si : r.iss.Pairwise befI
  mc : ¬ yc I e → ∀ p, p ∈ r.code ↔ Rch I e p ∧ okI I p
  ml : ¬ yc I e → ∀ q, q ∈ r.calls ↔ ∃ p, Rch I e p ∧ okI I p ∧ q ∈ (fl I p).cl
  mi : ¬ yc I e → ∀ x : zP, x ∈ r.iss ↔ Rch I e x.at_ ∧ ((¬ okI I x.at_ ∧ x.kind = (atI I x.at_).2) ∨ (okI I x.at_ ∧ x.kind ∈ (fl I x.at_).iss))
theorem zW.uniq {I : zj} {e : zc} {r r' : yT} (h : zW I e r) (h' : zW I e r') : r = r' := by
  obtain ⟨en, th, dt, code, calls, iss⟩ := r
  obtain ⟨en', th', dt', code', calls', iss'⟩ := r'
  obtain rfl : en = en' := h.en.trans h'.en.symm
  obtain rfl : th = th' := h.th.trans h'.th.symm
  by_cases ht : yc I e
  · obtain ⟨rfl, rfl, rfl, rfl⟩ := h.thk ht
    obtain ⟨rfl, rfl, rfl, rfl⟩ := h'.thk ht
    rfl
  · obtain rfl : dt = dt' := (h.to0 ht).trans (h'.to0 ht).symm
    obtain rfl : code = code' := sorted_ext zU.irr zU.tr h.sc h'.sc fun x => (h.mc ht x).trans (h'.mc ht x).symm
    obtain rfl : calls = calls' := sorted_ext zU.irr zU.tr h.sl h'.sl fun x => (h.ml ht x).trans (h'.ml ht x).symm
    obtain rfl : iss = iss' := sorted_ext befI.irr befI.tr h.si h'.si fun x => (h.mi ht x).trans (h'.mi ht x).symm
    rfl
/-! ### All routines -/
/-- The entries: those of the image, the further ones, the callees and the targets of thunks. -/
inductive Ent (I : zj) (more : List zc) : zc → Prop
  | first : Ent I more ⟨0, I.entry⟩
  | vec : I.vector ≠ 0 → Ent I more ⟨0, I.vector⟩
  | more {p : zc} : p ∈ more → Ent I more p
  | call {e q : zc} {r : yT} : Ent I more e → zW I e r → q ∈ r.calls → Ent I more q
  | thunk {e : zc} : Ent I more e → yc I e → Ent I more (zX (atI I e).1 e).1
end Go.Proofs.YteofmaiojepdkaaGreat
namespace Go.Proofs.YteofmaiojepdkaaGreat
/-- A list without repetition is no longer than a list that holds its members. -/
theorem yb {α : Type} [DecidableEq α] : ∀ {l m : List α}, l.Nodup → (∀ x ∈ l, x ∈ m) → l.length ≤ m.length
  | [], _, _, _ => Nat.zero_le _
  | a :: l, m, hl, h => by
    rw [List.nodup_cons] at hl
    have ha : a ∈ m := h a (by simp)
    have h1 : l.length ≤ (m.erase a).length := yb hl.2 fun x hx => by
      rw [List.mem_erase_of_ne (fun e : x = a => hl.1 (by rw [← e]; exact hx))]
      exact h x (by simp [hx])
    have h2 := List.length_erase_of_mem ha
    have h3 : 0 < m.length := List.length_pos_of_mem ha
    rw [List.length_cons]
    omega
/-- All routines, or too many. -/
def ye (I : zj) (more : List zc) : Option (List yT) → Prop
  | some rs => (rs.map (·.entry)).Pairwise zU ∧ rs.length ≤ 2000 ∧ (∀ r ∈ rs, zW I r.entry r) ∧ ∀ p, p ∈ rs.map (·.entry) ↔ Ent I more p
  | none => ∃ l : List zc, l.Nodup ∧ (∀ p ∈ l, Ent I more p) ∧ 2000 < l.length
theorem rtns_eq {I : zj} : ∀ {rs rs' : List yT}, (∀ r ∈ rs, zW I r.entry r) → (∀ r ∈ rs', zW I r.entry r) → rs.map (·.entry) = rs'.map (·.entry) → rs = rs'
  | [], [], _, _, _ => rfl
  | [], _ :: _, _, _, h => by simp at h
  | _ :: _, [], _, _, h => by simp at h
  | r :: rs, r' :: rs', h, h', he => by
    simp only [List.map_cons, List.cons.injEq] at he
    have e1 : r = r' := (h r (by simp)).uniq (he.1 ▸ h' r' (by simp))
    rw [e1, rtns_eq (fun x hx => h x (by simp [hx])) (fun x hx => h' x (by simp [hx])) he.2]
theorem ye.uniq {I : zj} {more : List zc} : ∀ {a b : Option (List yT)}, ye I more a → ye I more b → a = b
  | some rs, some rs', h, h' => by
    congr 1
    exact rtns_eq h.2.2.1 h'.2.2.1 (sorted_ext zU.irr zU.tr h.1 h'.1 fun x => (h.2.2.2 x).trans (h'.2.2.2 x).symm)
  | none, none, _, _ => rfl
  | some rs, none, h, ⟨l, h1, h2, h3⟩ => by
    have := yb h1 fun x hx => (h.2.2.2 x).2 (h2 x hx)
    rw [List.length_map] at this
    have := h.2.1
    omega
  | none, some rs, ⟨l, h1, h2, h3⟩, h => by
    have := yb h1 fun x hx => (h.2.2.2 x).2 (h2 x hx)
    rw [List.length_map] at this
    have := h.2.1
    omega
/-- The instructions of all routines, in order. -/
structure IsItems (rs : List yT) (its : List zc) : Prop where
  so : its.Pairwise zU
  me : ∀ p, p ∈ its ↔ ∃ r ∈ rs, p ∈ r.code
theorem IsItems.uniq {rs : List yT} {a b : List zc} (h : IsItems rs a) (h' : IsItems rs b) : a = b := sorted_ext zU.irr zU.tr h.so h'.so fun x => (h.me x).trans (h'.me x).symm
def szI (I : zj) (p : zc) : Nat := (atI I p).1.size.toNat
/-- A byte lies in an instruction. -/
def covP (I : zj) (b o : Nat) (p : zc) : Bool := decide (p.bank = b) && decide (zw p ≤ o) && decide (o < zw p + szI I p)
def yp (I : zj) (its : List zc) (b o : Nat) : Nat := its.countP (covP I b o)
def inTab (I : zj) (its : List zc) (b o : Nat) : Bool := its.any fun p => (fl I p).tb.any fun q => decide (q.bank = b) && decide (zw q = o)
/-- The object that contains a byte. -/
def inObj (I : zj) (b : Int) (a : Int) : Bool := I.data.any fun o => decide (o.bank = b) && decide (o.addr ≤ a) && decide (a < o.addr + o.size)
def yP (I : zj) (b o : Nat) : Int := if inObj I b o then 5 else 0
def clOf (I : zj) (its : List zc) (b o : Nat) : Int :=
  if yp I its b o = 0 then (if inTab I its b o then 4 else yP I b o)
  else if yp I its b o = 1 then (if its.any fun p => decide (p.bank = b) && decide (zw p = o) && decide (0 < szI I p) then 1 else 2)
  else 3
def z8 (I : zj) (its : List zc) (p : zc) : Bool := (List.range (szI I p)).any fun j => decide (1 < yp I its p.bank.toNat (zw p + j))
structure LstS where
  rts : List yT
  cls : List (List Int)
  iss : List zP
def clsL (I : zj) (c : Nat → Nat → Int) : List (List Int) := (List.range I.banks.length).map fun b => (List.range 4096).map fun o => c b o
def manyL (I : zj) : LstS := ⟨[], clsL I (yP I), [⟨2, ⟨0, I.entry⟩⟩]⟩
def fullL (I : zj) (rs : List yT) (its : List zc) : LstS := ⟨rs, clsL I (clOf I its), (its.filter (z8 I its)).map fun p => ⟨40, p⟩⟩
/-- The listing of an image. -/
def IsLst (I : zj) (more : List zc) (l : LstS) : Prop :=
  (ye I more none ∧ l = manyL I) ∨ ∃ rs its, ye I more (some rs) ∧ IsItems rs its ∧ ((20000 < its.length ∧ l = manyL I) ∨ (its.length ≤ 20000 ∧ l = fullL I rs its))
theorem IsLst.uniq {I : zj} {more : List zc} {a b : LstS} (h : IsLst I more a) (h' : IsLst I more b) : a = b := by
  rcases h with ⟨h1, rfl⟩ | ⟨rs, its, h1, h2, h3⟩ <;> rcases h' with ⟨k1, rfl⟩ | ⟨rs', its', k1, k2, k3⟩
  · rfl
  · have := h1.uniq k1; cases this
  · have := h1.uniq k1; cases this
  · obtain rfl := Option.some.inj (h1.uniq k1)
    obtain rfl := h2.uniq k2
    rcases h3 with ⟨h3, rfl⟩ | ⟨h3, rfl⟩ <;> rcases k3 with ⟨k3, rfl⟩ | ⟨k3, rfl⟩
    · rfl
    · omega
    · omega
    · rfl
end Go.Proofs.YteofmaiojepdkaaGreat
