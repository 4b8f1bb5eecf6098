/- Values of chapter 05 in memory; package image: code, Offset, Code, Next, end, ObjectAt. Condition: addresses are words; the image's banks have 4096 bytes. -/
import Derived.Test.YteofmaiojepdkaaGreatTbSpC
set_option linter.all false
namespace Go.Proofs.YteofmaiojepdkaaGreat
open Go Go.RowKit Go.Maps
theorem zW {P : Program} {o : Oper} {a : Act} {w : World} (ty : TypeId) (x : Operand) (ho : o.op = .load ty x)
  (g : Nat) (hx : a.eval x = .pointer (some ⟨g, 0, none⟩)) (t : TypeId) (cs : Array Value) (fr : Nat × Nat) (hg : w.heap[g]? = some (.cells cs t fr)) (hr : rowB P ty cs.size = true) :
  (execOp a.eval o).run P w = .ok (.value (.agg cs)) w := by
 have := zQ (P := P) (o := o) (a := a) (w := w) ty x ho g 0 hx cs t fr hg cs.toList (by simp) (by simpa using hr)
 simpa using this
theorem jc {P : Program} {ops : Array Oper} {rest : List Oper} {o : Oper} {a : Act} {w : World} {Q : Exit → Act → World → Prop} (ty : TypeId) (x : Operand) (ho : o.op = .load ty x) (g off : Nat) (hx : a.eval x = .pointer (some ⟨g, off, none⟩)) (cs : Array Value) (t : TypeId) (fr : Nat × Nat) (hg : w.heap[g]? = some (.cells cs t fr)) (l : List Value) (hl : (cs.extract off (off + l.length)).toList = l) (hr : rowB P ty l.length = true)
  (hw : Region.wanted o (yielded ops a.tmps) = true) (hk : wpList P ops Q rest (a.put o.dst (.agg l.toArray)) w) : wpList P ops Q (o :: rest) a w :=
 wpList_val hw (zQ ty x ho g off hx cs t fr hg l hl hr) hk
theorem wpList_load_rowB {P : Program} {ops : Array Oper} {rest : List Oper} {o : Oper} {a : Act} {w : World} {Q : Exit → Act → World → Prop} (ty : TypeId) (x : Operand) (ho : o.op = .load ty x) (g : Nat) (hx : a.eval x = .pointer (some ⟨g, 0, none⟩)) (t : TypeId) (cs : Array Value) (fr : Nat × Nat) (hg : w.heap[g]? = some (.cells cs t fr)) (hr : rowB P ty cs.size = true)
  (hw : Region.wanted o (yielded ops a.tmps) = true) (hk : wpList P ops Q rest (a.put o.dst (.agg cs)) w) : wpList P ops Q (o :: rest) a w :=
 wpList_val hw (zW ty x ho g hx t cs fr hg hr) hk
theorem wpList_load_midP {P : Program} {ops : Array Oper} {rest : List Oper} {o : Oper} {a : Act} {w : World} {Q : Exit → Act → World → Prop} {ty : TypeId} {l : List Value} (_ : MPar ty) (_ : MPar l) (x : Operand) (ho : o.op = .load ty x) (g off : Nat) (hx : a.eval x = .pointer (some ⟨g, off, none⟩)) (cs : Array Value) (t : TypeId) (fr : Nat × Nat) (hg : w.heap[g]? = some (.cells cs t fr)) (hl : (cs.extract off (off + l.length)).toList = l) (hr : rowB P ty l.length = true)
  (hw : Region.wanted o (yielded ops a.tmps) = true) (hk : wpList P ops Q rest (a.put o.dst (.agg l.toArray)) w) : wpList P ops Q (o :: rest) a w :=
 jc ty x ho g off hx cs t fr hg l hl hr hw hk
theorem lmT (T : TypeId) (l : List Value) {H H2 p q : Prop} (hg : H) (hl : H2) (hq : q) (h : MPar T → MPar l → H → H2 → MBox q → p := by
  intro hT hL hg hl hb
  refine wpList_load_midP hT hL _ rfl _ _ rfl _ _ _ hg hl ?_ ?_ ?_
  kernel_rfl
  kernel_rfl
  exact hb.out) : p := h trivial trivial hg hl ⟨hq⟩
structure RdS (w : World) (s : Nat) (A : Option Addr) (n cap : Nat) (xs : List Value) : Prop where
 le : n ≤ cap
 len : xs.length = n * s
 at_ : 0 < n → ∃ g off cur T fr, A = some ⟨g, off, none⟩ ∧ w.heap[g]? = some (.cells cur T fr) ∧ ∀ j, j < xs.length → cur[off + j]? = xs[j]?
theorem RdS.below {w w' : World} {s : Nat} {A : Option Addr} {n cap : Nat} {xs : List Value} (h : RdS w s A n cap xs) (hb : Below w.heap.size w w') : RdS w' s A n cap xs :=
 ⟨h.le, h.len, fun h0 => by
  obtain ⟨g, off, cur, T, fr, e, h1, h2⟩ := h.at_ h0
  exact ⟨g, off, cur, T, fr, e, za hb h1, h2⟩⟩
theorem RdS.own {w : World} {B : Nat} {T : TypeId} {s n : Nat} {v : Value} {xs : List Value} (h : w.ownsRow B T s v n xs) : ∃ A cap, v = .slice A n cap ∧ RdS w s A n cap xs := by
 rcases h.2 with ⟨rfl, rfl⟩ | ⟨g, cap, cur, rfl, -, hg, hn, -, hz, ht⟩
 ·exact ⟨none, 0, rfl, zn _, h.1, fun h0 => absurd h0 (by omega)⟩
 ·refine ⟨_, cap, rfl, hn, h.1, fun _ => ⟨g, 0, cur, T, (0, 0), rfl, hg, fun j hj => ?_⟩⟩
  rw [Nat.zero_add]
  exact flat_at' ht (by rw [h.1] at hj; exact hj)
theorem RdS.row {w : World} {s : Nat} {A : Option Addr} {n cap : Nat} {xs : List Value} (h : RdS w s A n cap xs) {k : Nat} (hk : k < n) :
  ∃ g off cur T fr, A = some ⟨g, off, none⟩ ∧ w.heap[g]? = some (.cells cur T fr) ∧ (cur.extract (off + k * s) (off + k * s + s)).toList = (xs.drop (k * s)).take s ∧ ((xs.drop (k * s)).take s).length = s ∧ ∀ j, j < s → w.cell? ⟨g, off + k * s + j, none⟩ = ((xs.drop (k * s)).take s)[j]? := by
 obtain ⟨g, off, cur, T, fr, e, h1, h2⟩ := h.at_ (by omega)
 have hle : k * s + s ≤ xs.length := by
  rw [h.len, ← Nat.succ_mul]
  exact Nat.mul_le_mul_right _ hk
 have hlen : ((xs.drop (k * s)).take s).length = s := by rw [List.length_take, List.length_drop]; omega
 have hget : ∀ j, j < s → cur[off + k * s + j]? = ((xs.drop (k * s)).take s)[j]? := fun j hj => by
  rw [List.getElem?_take, if_pos hj, List.getElem?_drop, Nat.add_assoc]
  exact h2 _ (by omega)
 refine ⟨g, off, cur, T, fr, e, h1, ?_, hlen, fun j hj => ?_⟩
 ·have := ext_at (c := cur) (o := off + k * s) (L := (xs.drop (k * s)).take s) (fun j hj => hget j (by rw [hlen] at hj; exact hj))
  rwa [hlen] at this
 ·rw [cell_of_row _ _ _ _ _ _ h1]
  exact hget j hj
theorem xT {α : Type} (f : α → List Value) (s : Nat) (hf : ∀ a, (f a).length = s) : ∀ (ps : List α) (i : Nat) (p : α), ps[i]? = some p → ((ps.flatMap f).drop (i * s)).take s = f p
 | [], i, p, h => by simp at h
 | x :: ps, 0, p, h => by
  simp only [List.getElem?_cons_zero, Option.some.injEq] at h
  subst h
  rw [Nat.zero_mul, List.drop_zero, List.flatMap_cons, ← hf x, List.take_left]
 | x :: ps, i + 1, p, h => by
  rw [List.getElem?_cons_succ] at h
  rw [List.flatMap_cons, Nat.succ_mul, Nat.add_comm, ← hf x, ← List.drop_drop, List.drop_left]
  rw [hf x]
  exact xT f s hf ps i p h
def yQ (p : zb) : List Value := [.int .i64 p.bank, .int .u16 p.addr]
def yL (p : zb) : Value := .agg #[.int .i64 p.bank, .int .u16 p.addr]
def objL (o : ObjI) : List Value := [.int .i64 o.bank, .int .u16 o.addr, .int .u16 o.size]
structure yG (w : World) (I : zk) (ba : Option Addr) (bc : Nat) (da : Option Addr) (dc : Nat) : Prop where
 bk : RdS w 1 ba I.banks.length bc (I.banks.map Value.string)
 dt : RdS w 3 da I.data.length dc (I.data.flatMap objL)
theorem yG.below {w w' : World} {I : zk} {ba : Option Addr} {bc : Nat} {da : Option Addr} {dc : Nat} (h : yG w I ba bc da dc) (hb : Below w.heap.size w w') : yG w' I ba bc da dc := ⟨h.bk.below hb, h.dt.below hb⟩
section
variable (p : zb) (p0 : 0 ≤ p.addr) (p1 : p.addr < 65536) (w : World)
include p0 p1
theorem icode_any : Calls Tryz.prog 87 #[.agg #[.int .i64 p.bank, .int .u16 p.addr]] w fun e w' => e = .returned (.bool (yg p)) ∧ Below w.heap.size w w' := by
 obtain ⟨b, a⟩ := p
 dsimp only at p0 p1 ⊢
 by_cases h1 : b = 0
 ·subst h1
  by_cases h2 : a < 4096
  ·have e : yg ⟨0, a⟩ = true := by simp [yg]; omega
   rw [e]; clear e
   go_enter Tryz.func87, Tryz.ntmps87
   go_wp2
   go_ret
   exact ⟨rfl, (Below.refl _ _).alloc (zn _) _⟩
  ·have h3 : 4096 ≤ a := by omega
   by_cases h4 : a < 8192
   ·have e : yg ⟨0, a⟩ = true := by simp [yg]; omega
    rw [e]; clear e
    go_enter Tryz.func87, Tryz.ntmps87
    go_wp2
    go_ret
    exact ⟨rfl, (Below.refl _ _).alloc (zn _) _⟩
   ·have e : yg ⟨0, a⟩ = false := by simp [yg]; omega
    have h5 : 8192 ≤ a := by omega
    rw [e]; clear e
    go_enter Tryz.func87, Tryz.ntmps87
    go_wp2
    go_ret
    exact ⟨rfl, (Below.refl _ _).alloc (zn _) _⟩
 ·have hb : (b == 0) = false := by simp [h1]
  by_cases hc : yg ⟨b, a⟩ = true
  ·have hd := hc
   simp only [yg, Bool.and_eq_true, Bool.or_eq_true, decide_eq_true_eq] at hd
   have h2 : 0 ≤ b := by omega
   have h3 : b < 64 := by omega
   have h4 : 4096 ≤ a := by omega
   have h5 : a < 8192 := by omega
   rw [hc]; clear hc hd
   go_enter Tryz.func87, Tryz.ntmps87
   go_wp2
   go_ret
   exact ⟨rfl, (Below.refl _ _).alloc (zn _) _⟩
  ·have hd : ¬ ((0 ≤ b ∧ b < 64) ∧ ((b = 0 ∧ a < 4096) ∨ (4096 ≤ a ∧ a < 8192))) := by simpa only [yg, Bool.and_eq_true, Bool.or_eq_true, decide_eq_true_eq] using hc
   have hf : yg ⟨b, a⟩ = false := by simpa using hc
   rw [hf]; clear hc hf
   by_cases h2 : 0 ≤ b
   ·by_cases h3 : b < 64
    ·by_cases h4 : 4096 ≤ a
     ·have h5 : decide (a < 8192) = false := by simp; omega
      clear hd
      go_enter Tryz.func87, Tryz.ntmps87
      go_wp2
      go_ret
      exact ⟨rfl, (Below.refl _ _).alloc (zn _) _⟩
     ·have h5 : a < 4096 := by omega
      clear hd
      go_enter Tryz.func87, Tryz.ntmps87
      go_wp2
      go_ret
      exact ⟨rfl, (Below.refl _ _).alloc (zn _) _⟩
    ·have h4 : 64 ≤ b := by omega
     clear hd
     go_enter Tryz.func87, Tryz.ntmps87
     go_wp2
     go_ret
     exact ⟨rfl, (Below.refl _ _).alloc (zn _) _⟩
   ·have h4 : b < 0 := by omega
    clear hd
    go_enter Tryz.func87, Tryz.ntmps87
    go_wp2
    go_ret
    exact ⟨rfl, (Below.refl _ _).alloc (zn _) _⟩
end
theorem tmod_w {a : Int} (h : 0 ≤ a) : a.tmod 4096 = a % 4096 := Int.tmod_eq_emod_of_nonneg h
theorem wrap_w {a : Int} : IntKind.u16.wrap (a % 4096) = a % 4096 := by unfold IntKind.wrap; simp [IntKind.bits, IntKind.signed]; omega
theorem wrap_i {a : Int} : IntKind.i64.wrap (a % 4096) = a % 4096 := IntWalk.i64_in _ (by omega)
theorem yk {w w1 : World} {x y : Obj} (hb : Below ((w.alloc x).alloc y).heap.size ((w.alloc x).alloc y) w1) : w1.heap[w.heap.size]? = some x ∧ w1.heap[w.heap.size + 1]? = some y ∧ w.heap.size + 2 ≤ w1.heap.size ∧ Below w.heap.size w w1 := by
 have h1 := heap_alloc_new (w.alloc x) y
 rw [World.size_alloc] at h1
 have hz := hb.size
 simp only [World.size_alloc] at hz
 exact ⟨za hb (heap_alloc2_old _ _ _), za hb h1, hz, (((Below.refl _ w).alloc (zn _) x).alloc (by simp) y).trans (hb.mono (by simp <;> omega))⟩
theorem yG.bank {w : World} {I : zk} {ba : Option Addr} {bc : Nat} {da : Option Addr} {dc : Nat} (h : yG w I ba bc da dc) {k : Nat} {s : ByteArray} (hs : I.banks[k]? = some s) :
  ∃ g off, ba = some ⟨g, off, none⟩ ∧ g < w.heap.size ∧ w.cell? ⟨g, off + k, none⟩ = some (.string s) ∧ k < I.banks.length ∧ I.banks.length ≤ bc := by
 have hk := (List.getElem?_eq_some_iff.1 hs).1
 obtain ⟨g, off, cur, T, fr, e, h1, -, -, h2⟩ := h.bk.row hk
 refine ⟨g, off, e, (Array.getElem?_eq_some_iff.1 h1).1, ?_, hk, h.bk.le⟩
 have := h2 0 (by omega)
 rw [Nat.mul_one, Nat.add_zero] at this
 rw [this]
 simp [hs]
section
variable (I : zk) (hI : I.Ok) (ba : Option Addr) (bc : Nat) (da : Option Addr) (dc : Nat) (ra : Option Addr) (rn rc : Nat) (p : zb) (p0 : 0 ≤ p.addr) (p1 : p.addr < 65536) (w : World) (hV : yG w I ba bc da dc)
include hI p0 p1 hV
theorem ioff_in (h : inI I p = true) : Calls Tryz.prog 64 #[.agg #[.slice ba I.banks.length bc, .int .u16 I.entry, .int .u16 I.vector, .slice da I.data.length dc, .slice ra rn rc], .agg #[.int .i64 p.bank, .int .u16 p.addr]] w fun e w' =>
  e = .returned (.tuple #[.int .i64 p.bank, .int .i64 (zI p), .bool true]) ∧ Below w.heap.size w w' := by
 have hc : yg p = true ∧ p.bank < I.banks.length := by unfold inI at h; simpa using h
 have hcb : 0 ≤ p.bank := by have := hc.1; simp only [yg, Bool.and_eq_true, decide_eq_true_eq] at this; omega
 obtain ⟨k, hk⟩ := Int.eq_ofNat_of_zero_le hcb
 have hkl : k < I.banks.length := by omega
 obtain ⟨s, hs⟩ : ∃ s, I.banks[k]? = some s := ⟨_, List.getElem?_eq_getElem hkl⟩
 have hsz : s.size = 4096 := hI.sz s (List.mem_of_getElem? hs)
 have hn : I.banks.length ≤ 64 := hI.n64
 obtain ⟨g, off, rfl, hgl, hcell, -, hle⟩ := hV.bank hs
 obtain ⟨b, a⟩ := p
 dsimp only at p0 p1 hk hc hcb ⊢
 subst hk
 have hIC := fun W => icode_any ⟨k, a⟩ p0 p1 W
 have HIC := zh hIC
 have HC := zh hc.1
 have hoff : (zI ⟨k, a⟩ : Int) = a % 4096 := by unfold zI; dsimp only; omega
 have HO := zh hoff
 have HCL := zh hcell
 have e1 := tmod_w p0
 have e2 : IntKind.u16.wrap (a % 4096) = a % 4096 := wrap_w
 have e3 : IntKind.i64.wrap (a % 4096) = a % 4096 := wrap_i
 have b1 : 0 ≤ a % 4096 := by omega
 have b2 : a % 4096 < 4096 := by omega
 have hlt : (k : Int) < I.banks.length := hc.2
 have hltn : k < I.banks.length := hkl
 clear hIC hoff hc h hcb hI hV hs hcell hkl
 rw [HO.out]
 go_enter Tryz.func64, Tryz.ntmps64
 go_wp2_with (go_at_call 87; refine (HIC.out _).mono ?_; rintro e w1 ⟨rfl, hb1⟩; rw [HC.out]; obtain ⟨q0, q1, q2, q3⟩ := yk hb1; have HB := zh q3; have hc0 := fun o => cell_of_row w1 w.heap.size o _ _ _ q0; have hc1 := fun o => cell_of_row w1 (w.heap.size + 1) o _ _ _ q1; have hc2 : w1.cell? ⟨g, off + k, none⟩ = some (.string s) := (q3.cell (p := ⟨g, off + k, none⟩) hgl).trans HCL.out; clear hb1 q0 q1 q3)
 go_ret3
 exact ⟨rfl, HB.out⟩
theorem ioff_out (h : inI I p = false) : Calls Tryz.prog 64 #[.agg #[.slice ba I.banks.length bc, .int .u16 I.entry, .int .u16 I.vector, .slice da I.data.length dc, .slice ra rn rc], .agg #[.int .i64 p.bank, .int .u16 p.addr]] w fun e w' =>
  e = .returned (.tuple #[.int .i64 0, .int .i64 0, .bool false]) ∧ Below w.heap.size w w' := by
 have hn : I.banks.length ≤ 64 := hI.n64
 have hIC := fun W => icode_any p p0 p1 W
 have HIC := zh hIC
 have e1 := tmod_w p0
 have e2 : IntKind.u16.wrap (p.addr % 4096) = p.addr % 4096 := wrap_w
 have e3 : IntKind.i64.wrap (p.addr % 4096) = p.addr % 4096 := wrap_i
 cases hc : yg p with
 | false =>
  have HC := zh hc
  clear hIC hc h hI hV
  go_enter Tryz.func64, Tryz.ntmps64
  go_wp2_with (go_at_call 87; refine (HIC.out _).mono ?_; rintro e w1 ⟨rfl, hb1⟩; rw [HC.out]; obtain ⟨q0, q1, q2, q3⟩ := yk hb1; have HB := zh q3; have hc0 := fun o => cell_of_row w1 w.heap.size o _ _ _ q0; have hc1 := fun o => cell_of_row w1 (w.heap.size + 1) o _ _ _ q1; clear hb1 q0 q1 q3)
  go_ret3
  exact ⟨rfl, HB.out⟩
 | true =>
  have hcb : 0 ≤ p.bank := by have := hc; simp only [yg, Bool.and_eq_true, decide_eq_true_eq] at this; omega
  have hge : (I.banks.length : Int) ≤ p.bank := by
   unfold inI at h
   rw [hc, Bool.true_and] at h
   have := of_decide_eq_false h
   omega
  obtain ⟨b, a⟩ := p
  obtain ⟨k, hk⟩ := Int.eq_ofNat_of_zero_le hcb
  dsimp only at p0 p1 hk hge hcb e1 e2 e3 HIC ⊢
  subst hk
  have hge' : I.banks.length ≤ k := by omega
  have HC := zh hc
  clear hIC hc h hI hV
  go_enter Tryz.func64, Tryz.ntmps64
  go_wp2_with (go_at_call 87; refine (HIC.out _).mono ?_; rintro e w1 ⟨rfl, hb1⟩; rw [HC.out]; obtain ⟨q0, q1, q2, q3⟩ := yk hb1; have HB := zh q3; have hc0 := fun o => cell_of_row w1 w.heap.size o _ _ _ q0; have hc1 := fun o => cell_of_row w1 (w.heap.size + 1) o _ _ _ q1; clear hb1 q0 q1 q3)
  go_ret3
  exact ⟨rfl, HB.out⟩
end
theorem ext_ext (s : ByteArray) (o m n : Nat) (h : o ≤ s.size) (hm : m = min n (s.size - o)) : (s.extract o s.size).extract 0 m = s.extract o (o + n) := by
 subst hm
 apply ByteArray.ext
 simp only [ByteArray.data_extract]
 apply Array.ext_getElem?
 intro i
 simp only [Array.getElem?_extract, Array.size_extract]
 have : s.size = s.data.size := rfl
 by_cases hi : i < min n (s.size - o)
 ·simp only [Nat.zero_add]
  rw [if_pos (by omega), if_pos (by omega), if_pos (by omega)]
 ·rw [if_neg (by omega), if_neg (by omega)]
theorem nat_min (n m : Nat) : min (n : Int) (m : Int) = ((min n m : Nat) : Int) := by omega
section
variable (I : zk) (hI : I.Ok) (ba : Option Addr) (bc : Nat) (da : Option Addr) (dc : Nat) (ra : Option Addr) (rn rc : Nat) (p : zb) (p0 : 0 ≤ p.addr) (p1 : p.addr < 65536) (n : Int) (n0 : -10 ≤ n) (n1 : n ≤ 10000) (w : World) (hV : yG w I ba bc da dc)
include hI p0 p1 hV n0 n1
theorem icode_none (h : inI I p = false ∨ n < 1) : Calls Tryz.prog 132 #[.agg #[.slice ba I.banks.length bc, .int .u16 I.entry, .int .u16 I.vector, .slice da I.data.length dc, .slice ra rn rc], .agg #[.int .i64 p.bank, .int .u16 p.addr], .int .i64 n] w fun e w' =>
  e = .returned (.string ⟨#[]⟩) ∧ Below w.heap.size w w' := by
 cases hi : inI I p with
 | false =>
  have HO := zh (fun W (hV' : yG W I ba bc da dc) => ioff_out I hI ba bc da dc ra rn rc p p0 p1 W hV' hi)
  have HV := zh (hV.below (((Below.refl _ w).alloc (zn _) (.cells #[.slice ba I.banks.length bc, .int .u16 I.entry, .int .u16 I.vector, .slice da I.data.length dc, .slice ra rn rc] 31)).alloc (by simp) (.cells #[.int .i64 p.bank, .int .u16 p.addr] 47)))
  clear hi h hV hI
  go_enter Tryz.func132, Tryz.ntmps132
  go_wp2_with (first
   | (refine ldB ((heap_alloc2_old _ _ _)) ?_)
   | (refine ldB ((show _ = some _ from heap_alloc_new _ _)) ?_)
   | (go_at_call 64; refine (HO.out _ HV.out).mono ?_; rintro e w1 ⟨rfl, hb1⟩; obtain ⟨-, -, -, q3⟩ := yk hb1; have HB := zh q3; clear hb1 q3))
  go_ret
  exact ⟨rfl, HB.out⟩
 | true =>
  have hn : n < 1 := h.elim (fun e => by rw [hi] at e; cases e) id
  have HO := zh (fun W (hV' : yG W I ba bc da dc) => ioff_in I hI ba bc da dc ra rn rc p p0 p1 W hV' hi)
  have HV := zh (hV.below (((Below.refl _ w).alloc (zn _) (.cells #[.slice ba I.banks.length bc, .int .u16 I.entry, .int .u16 I.vector, .slice da I.data.length dc, .slice ra rn rc] 31)).alloc (by simp) (.cells #[.int .i64 p.bank, .int .u16 p.addr] 47)))
  clear hi h hV hI
  go_enter Tryz.func132, Tryz.ntmps132
  go_wp2_with (first
   | (refine ldB ((heap_alloc2_old _ _ _)) ?_)
   | (refine ldB ((show _ = some _ from heap_alloc_new _ _)) ?_)
   | (go_at_call 64; refine (HO.out _ HV.out).mono ?_; rintro e w1 ⟨rfl, hb1⟩; obtain ⟨-, -, -, q3⟩ := yk hb1; have HB := zh q3; clear hb1 q3))
  go_ret
  exact ⟨rfl, HB.out⟩
theorem icode_some (h : inI I p = true) (hn : 1 ≤ n) : Calls Tryz.prog 132 #[.agg #[.slice ba I.banks.length bc, .int .u16 I.entry, .int .u16 I.vector, .slice da I.data.length dc, .slice ra rn rc], .agg #[.int .i64 p.bank, .int .u16 p.addr], .int .i64 n] w fun e w' =>
  e = .returned (.string ((bankI I p).extract (zI p) (zI p + n.toNat))) ∧ Below w.heap.size w w' := by
 have hc : yg p = true ∧ p.bank < I.banks.length := by have := h; unfold inI at this; simpa using this
 have hcb : 0 ≤ p.bank := by have := hc.1; simp only [yg, Bool.and_eq_true, decide_eq_true_eq] at this; omega
 obtain ⟨k, hk⟩ := Int.eq_ofNat_of_zero_le hcb
 obtain ⟨m, rfl⟩ := Int.eq_ofNat_of_zero_le (show 0 ≤ n by omega)
 have hkl : k < I.banks.length := by omega
 obtain ⟨s, hs⟩ : ∃ s, I.banks[k]? = some s := ⟨_, List.getElem?_eq_getElem hkl⟩
 have hsz : s.size = 4096 := hI.sz s (List.mem_of_getElem? hs)
 have hol : zI p < 4096 := by unfold zI; omega
 have hbk : bankI I p = s := by unfold bankI; rw [hk, Int.toNat_natCast, List.getD_eq_getElem?_getD, hs]; rfl
 have he : (s.extract (zI p) 4096).extract 0 (min m (4096 - zI p)) = s.extract (zI p) (zI p + m) := by rw [← hsz]; exact ext_ext s _ _ _ (by omega) (by rw [hsz])
 have HO := zh (fun W (hV' : yG W I ba bc da dc) => ioff_in I hI ba bc da dc ra rn rc p p0 p1 W hV' h)
 have HV := zh (hV.below (((Below.refl _ w).alloc (zn _) (.cells #[.slice ba I.banks.length bc, .int .u16 I.entry, .int .u16 I.vector, .slice da I.data.length dc, .slice ra rn rc] 31)).alloc (by simp) (.cells #[.int .i64 p.bank, .int .u16 p.addr] 47)))
 obtain ⟨g, off, rfl, hgl, hcell, -, hle⟩ := hV.bank hs
 have HCL := zh hcell
 obtain ⟨b, a⟩ := p
 dsimp only at p0 p1 hk HO HV hol ⊢
 subst hk
 have hlt : (k : Int) < I.banks.length := by omega
 have hes : (s.extract (zI ⟨k, a⟩) 4096).size = 4096 - zI ⟨k, a⟩ := by rw [ByteArray.size_extract, hsz, Nat.min_self]
 rw [hbk, Int.toNat_natCast, ← he]
 clear h hc hcb hbk he hV hI hs hcell
 generalize zI ⟨k, a⟩ = o at *
 have hmn := nat_min m (4096 - o)
 have hmm : min m (4096 - o) ≤ 4096 - o := Nat.min_le_right _ _
 generalize min m (4096 - o) = q at *
 have HES := zh hes
 clear hes
 have ho2 : (o : Int) ≤ 4096 := by omega
 go_enter Tryz.func132, Tryz.ntmps132
 go_wp2_with (first
  | (refine ldB ((heap_alloc2_old _ _ _)) ?_)
  | (refine ldB ((show _ = some _ from heap_alloc_new _ _)) ?_)
  | (go_at_call 64; refine (HO.out _ HV.out).mono ?_; rintro e w1 ⟨rfl, hb1⟩; obtain ⟨q0, q1, q2, q3⟩ := yk hb1; have HB := zh q3; have hc0 := fun o => cell_of_row w1 w.heap.size o _ _ _ q0; have hc2 : w1.cell? ⟨g, off + k, none⟩ = some (.string s) := (q3.cell (p := ⟨g, off + k, none⟩) hgl).trans HCL.out; have hes := HES.out; clear hb1 q0 q1 q3))
 all_goals
  go_ret
  first
   | (obtain rfl : q = m := by omega
      exact ⟨rfl, HB.out⟩)
   | (obtain rfl : q = 4096 - o := by omega
      exact ⟨rfl, HB.out⟩)
theorem icode_any2 : Calls Tryz.prog 132 #[.agg #[.slice ba I.banks.length bc, .int .u16 I.entry, .int .u16 I.vector, .slice da I.data.length dc, .slice ra rn rc], .agg #[.int .i64 p.bank, .int .u16 p.addr], .int .i64 n] w fun e w' =>
  e = .returned (.string (zK I p n)) ∧ Below w.heap.size w w' := by
 unfold zK
 by_cases h : inI I p = true ∧ 1 ≤ n
 ·rw [if_pos h]
  exact icode_some I hI ba bc da dc ra rn rc p p0 p1 n n0 n1 w hV h.1 h.2
 ·rw [if_neg h]
  refine icode_none I hI ba bc da dc ra rn rc p p0 p1 n n0 n1 w hV ?_
  cases hi : inI I p with
  | false => exact .inl rfl
  | true => exact .inr (by rw [hi] at h; simp at h; omega)
end
section
variable (p : zb) (p0 : 0 ≤ p.addr) (p1 : p.addr < 65536) (n : Int) (n0 : -10 ≤ n) (n1 : n ≤ 10000) (w : World)
include p0 p1 n0 n1
theorem inext_none (h : xk p n = none) : Calls Tryz.prog 110 #[.agg #[.int .i64 p.bank, .int .u16 p.addr], .int .i64 n] w fun e w' =>
  e = .returned (.tuple #[.agg #[.int .i64 0, .int .u16 0], .bool false]) ∧ Below w.heap.size w w' := by
 have hIC := fun W => icode_any p p0 p1 W
 have HIC := zh hIC
 have e1 := tmod_w p0
 have e2 : IntKind.u16.wrap (p.addr % 4096) = p.addr % 4096 := wrap_w
 have e3 : IntKind.i64.wrap (p.addr % 4096) = p.addr % 4096 := wrap_i
 have b1 : 0 ≤ p.addr % 4096 := by omega
 have b2 : p.addr % 4096 < 4096 := by omega
 have hh : yg p = false ∨ (yg p = true ∧ (p.addr % 4096 + n < 0 ∨ 4096 ≤ p.addr % 4096 + n)) := by
  unfold xk at h
  split at h
  ·cases h
  ·rename_i hc
   cases hp : yg p with
   | false => exact .inl rfl
   | true => rw [hp] at hc; simp only [true_and] at hc; exact .inr ⟨rfl, by omega⟩
 clear hIC h
 rcases hh with hc | ⟨hc, hc2 | hc2⟩
 all_goals have HC := zh hc
 ·clear hc
  go_enter Tryz.func110, Tryz.ntmps110
  go_wp2_with (first
   | (refine ldB ((heap_alloc2_old _ _ _)) ?_)
   | (refine stN ?_)
   | (refine stR (HT.out) ?_)
   | (go_at_call 87; refine (HIC.out _).mono ?_; rintro e w1 ⟨rfl, hb1⟩; rw [HC.out]; obtain ⟨q0, q1, q2, q3⟩ := yk hb1; have HB := zh q3; have HT := zh q1; have hc0 := fun o => cell_of_row w1 w.heap.size o _ _ _ q0; clear hb1 q0 q1 q3))
  (refine bodyPost_ret (zd (cs := #[.int .i64 0, .int .u16 0]) (fr := (0, 0)) Tryz.results110 _ _ (w.heap.size + 1) 47 _ ?_ (setRow_heap _ _ _ _ _ _ HT.out) Tryz.underlying47 rfl (by kernel_rfl)) rfl ⟨rfl, below_setRow HB.out (by omega) _⟩; rfl)
 ·have hx : n < -(p.addr % 4096) := by omega
  clear hc hc2
  go_enter Tryz.func110, Tryz.ntmps110
  go_wp2_with (first
   | (refine ldB ((heap_alloc2_old _ _ _)) ?_)
   | (refine stN ?_)
   | (refine stR (HT.out) ?_)
   | (go_at_call 87; refine (HIC.out _).mono ?_; rintro e w1 ⟨rfl, hb1⟩; rw [HC.out]; obtain ⟨q0, q1, q2, q3⟩ := yk hb1; have HB := zh q3; have HT := zh q1; have hc0 := fun o => cell_of_row w1 w.heap.size o _ _ _ q0; clear hb1 q0 q1 q3))
  (refine bodyPost_ret (zd (cs := #[.int .i64 0, .int .u16 0]) (fr := (0, 0)) Tryz.results110 _ _ (w.heap.size + 1) 47 _ ?_ (setRow_heap _ _ _ _ _ _ HT.out) Tryz.underlying47 rfl (by kernel_rfl)) rfl ⟨rfl, below_setRow HB.out (by omega) _⟩; rfl)
 ·have hx : -(p.addr % 4096) ≤ n := by omega
  have hy : 4096 - p.addr % 4096 ≤ n := by omega
  clear hc hc2
  go_enter Tryz.func110, Tryz.ntmps110
  go_wp2_with (first
   | (refine ldB ((heap_alloc2_old _ _ _)) ?_)
   | (refine stN ?_)
   | (refine stR (HT.out) ?_)
   | (go_at_call 87; refine (HIC.out _).mono ?_; rintro e w1 ⟨rfl, hb1⟩; rw [HC.out]; obtain ⟨q0, q1, q2, q3⟩ := yk hb1; have HB := zh q3; have HT := zh q1; have hc0 := fun o => cell_of_row w1 w.heap.size o _ _ _ q0; clear hb1 q0 q1 q3))
  (refine bodyPost_ret (zd (cs := #[.int .i64 0, .int .u16 0]) (fr := (0, 0)) Tryz.results110 _ _ (w.heap.size + 1) 47 _ ?_ (setRow_heap _ _ _ _ _ _ HT.out) Tryz.underlying47 rfl (by kernel_rfl)) rfl ⟨rfl, below_setRow HB.out (by omega) _⟩; rfl)
theorem inext_some {q : zb} (h : xk p n = some q) : Calls Tryz.prog 110 #[.agg #[.int .i64 p.bank, .int .u16 p.addr], .int .i64 n] w fun e w' =>
  e = .returned (.tuple #[.agg #[.int .i64 q.bank, .int .u16 q.addr], .bool true]) ∧ Below w.heap.size w w' := by
 have hIC := fun W => icode_any p p0 p1 W
 have HIC := zh hIC
 have e1 := tmod_w p0
 have e2 : IntKind.u16.wrap (p.addr % 4096) = p.addr % 4096 := wrap_w
 have e3 : IntKind.i64.wrap (p.addr % 4096) = p.addr % 4096 := wrap_i
 unfold xk at h
 split at h
 ·rename_i hc
  injection h with h
  subst h
  have hd := xp hc.1
  have b1 : 0 ≤ p.addr % 4096 := by omega
  have b2 : p.addr % 4096 < 4096 := by omega
  have b3 : -(p.addr % 4096) ≤ n := by omega
  have b4 : n < 4096 - p.addr % 4096 := by omega
  have b5 : 0 ≤ p.addr + n := by omega
  have b6 : p.addr + n < 65536 := by omega
  have HC := zh hc.1
  clear hc hd hIC
  go_enter Tryz.func110, Tryz.ntmps110
  go_wp2_with (first
   | (refine ldB ((heap_alloc2_old _ _ _)) ?_)
   | (refine stN ?_)
   | (refine stR (HT.out) ?_)
   | (go_at_call 87; refine (HIC.out _).mono ?_; rintro e w1 ⟨rfl, hb1⟩; rw [HC.out]; obtain ⟨q0, q1, q2, q3⟩ := yk hb1; have HB := zh q3; have HT := zh q1; have hc0 := fun o => cell_of_row w1 w.heap.size o _ _ _ q0; clear hb1 q0 q1 q3))
  (refine bodyPost_ret (zd (cs := #[.int .i64 p.bank, .int .u16 (p.addr + n)]) (fr := (0, 0)) Tryz.results110 _ _ (w.heap.size + 1) 47 _ ?_ (setRow_heap _ _ _ _ _ _ HT.out) Tryz.underlying47 rfl (by kernel_rfl)) rfl ⟨rfl, below_setRow HB.out (by omega) _⟩; rfl)
 ·cases h
end
theorem iend_any (o : ObjI) (h1 : 0 ≤ o.addr ∧ o.addr < 65536) (h2 : 0 ≤ o.size ∧ o.size < 65536) (w : World) : Calls Tryz.prog 92 #[.agg #[.int .i64 o.bank, .int .u16 o.addr, .int .u16 o.size]] w fun e w' =>
  e = .returned (.int .i64 (o.addr + o.size)) ∧ Below w.heap.size w w' := by
 obtain ⟨a0, a1⟩ := h1
 obtain ⟨s0, s1⟩ := h2
 go_enter Tryz.func92, Tryz.ntmps92
 go_wp2
 go_ret
 exact ⟨rfl, (Below.refl _ _).alloc (zn _) _⟩
end Go.Proofs.YteofmaiojepdkaaGreat
