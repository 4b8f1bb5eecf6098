/- package scan: what a routine's closure works on, in memory. No condition. -/
import Derived.Test.YteofmaiojepdkaaGreatTbSkH
import Derived.ArgAppend
import Derived.Deep.Upon
set_option linter.all false
namespace Go.Proofs.YteofmaiojepdkaaGreat
open Go Go.RowKit Go.Maps Go.Sort
def jk (w : World) (B : Nat) (T : TypeId) (s : Nat) (v : Value) (n : Nat) (xs : List Value) : Prop :=
 xs.length = n * s ∧ ∃ g off cap cur, v = .slice (some ⟨g, off, none⟩) n cap ∧ B ≤ g ∧ w.heap[g]? = some (.cells cur T (0, 0)) ∧ n ≤ cap ∧ cap ≤ maxLen ∧ off + cap * s ≤ cur.size ∧ ∀ j, j < n * s → cur[off + j]? = xs[j]?
theorem jk.ofRow {w : World} {B : Nat} {T : TypeId} {s n : Nat} {v : Value} {xs : List Value} (h : w.ownsRow B T s v n xs) (hn : 0 < n) : jk w B T s v n xs := by
 refine ⟨h.1, ?_⟩
 rcases h.2 with ⟨-, h0⟩ | ⟨g, cap, cur, rfl, hB, hg, hnc, hcm, hcs, ht⟩
 ·omega
 ·refine ⟨g, 0, cap, cur, rfl, hB, hg, hnc, hcm, by omega, fun j hj => ?_⟩
  rw [Nat.zero_add, ← ht, List.getElem?_take, if_pos hj, Array.getElem?_toList]
theorem jk.mono {w : World} {B B' : Nat} {T : TypeId} {s n : Nat} {v : Value} {xs : List Value} (h : jk w B T s v n xs) (hB : B' ≤ B) : jk w B' T s v n xs := by
 obtain ⟨hl, g, off, cap, cur, hv, hg, h2⟩ := h
 exact ⟨hl, g, off, cap, cur, hv, Nat.le_trans hB hg, h2⟩
theorem jk.lt {w : World} {B : Nat} {T : TypeId} {s n : Nat} {v : Value} {xs : List Value} (h : jk w B T s v n xs) : ∀ k, v.ownBlock = some k → B ≤ k ∧ k < w.heap.size := by
 obtain ⟨hl, g, off, cap, cur, rfl, hg, h2, -⟩ := h
 intro k hk
 simp only [Value.ownBlock, Option.some.injEq] at hk
 subst hk
 exact ⟨hg, (Array.getElem?_eq_some_iff.1 h2).1⟩
theorem jk.turn {w w' : World} {bs : Nat → Prop} {B : Nat} {T : TypeId} {s n : Nat} {v : Value} {xs : List Value} (h : jk w B T s v n xs) (t : zg bs w w') (hb : ∀ k, v.ownBlock = some k → ¬ bs k) : jk w' B T s v n xs := by
 obtain ⟨hl, g, off, cap, cur, rfl, hg, h2, h3⟩ := h
 exact ⟨hl, g, off, cap, cur, rfl, hg, t.heap h2 (hb g rfl), h3⟩
theorem jk.tail {w : World} {B : Nat} {T : TypeId} {s n cap g off : Nat} {xs : List Value} (h : jk w B T s (.slice (some ⟨g, off, none⟩) (n + 1) cap) (n + 1) xs) : jk w B T s (.slice (some ⟨g, off + s, none⟩) n (cap - 1)) n (xs.drop s) ∧ jk w B T s (.slice (some ⟨g, off, none⟩) n (cap - 1)) n (xs.take (n * s)) := by
 obtain ⟨hl, g', off', cap', cur, hv, hg, h2, h3, h4, h5, h6⟩ := h
 simp only [Value.slice.injEq, Option.some.injEq, Addr.mk.injEq] at hv
 obtain ⟨⟨rfl, rfl, -⟩, -, rfl⟩ := hv
 rw [Nat.succ_mul] at hl
 have hc : (cap - 1) * s + s = cap * s := by rw [← Nat.succ_mul]; congr 1; omega
 refine ⟨⟨by rw [List.length_drop]; omega, g, off + s, cap - 1, cur, rfl, hg, h2, by omega, by omega, by omega, fun j hj => ?_⟩, ⟨by rw [List.length_take]; omega, g, off, cap - 1, cur, rfl, hg, h2, by omega, by omega, by omega, fun j hj => ?_⟩⟩
 ·rw [List.getElem?_drop, ← h6 (s + j) (by rw [Nat.succ_mul]; omega)]
  congr 1
  omega
 ·rw [List.getElem?_take, if_pos hj, h6 j (by rw [Nat.succ_mul]; omega)]
theorem setCells_block {g : Nat} {T : TypeId} {fr : Nat × Nat} : ∀ (vs : List Value) (o : Nat) (w : World) (cur : Array Value), w.heap[g]? = some (.cells cur T fr) → o + vs.length ≤ cur.size →
  ∃ cur', (w.setCells g o vs).heap[g]? = some (.cells cur' T fr) ∧ cur'.size = cur.size ∧ (∀ j, j < o → cur'[j]? = cur[j]?) ∧ ∀ j, j < vs.length → cur'[o + j]? = vs[j]?
 | [], o, w, cur, h, _ => ⟨cur, h, rfl, fun _ _ => rfl, fun j hj => by simp at hj⟩
 | v :: r, o, w, cur, h, hs => by
  have hs' : o + (r.length + 1) ≤ cur.size := by simpa using hs
  obtain ⟨cur', h1, h2, h3, h4⟩ := setCells_block r (o + 1) _ _ (heap_setCell_same h (i := o) v) (by simp; omega)
  refine ⟨cur', h1, by simpa using h2, fun j hj => ?_, fun j hj => ?_⟩
  ·rw [h3 j (by omega), Array.getElem?_setIfInBounds_ne (by omega)]
  ·cases j with
   | zero =>
    rw [Nat.add_zero, h3 o (by omega), Array.getElem?_setIfInBounds_self_of_lt (by omega)]
    rfl
   | succ j =>
    rw [show o + (j + 1) = o + 1 + j by omega, h4 j (by simpa using hj)]
    simp
theorem tape_setCells (g : Nat) : ∀ (vs : List Value) (o : Nat) (w : World), (w.setCells g o vs).tape = w.tape
 | [], _, _ => rfl
 | v :: r, o, w => by rw [World.setCells, tape_setCells g r]; rfl
theorem size_setCells' (g : Nat) : ∀ (vs : List Value) (o : Nat) (w : World), (w.setCells g o vs).heap.size = w.heap.size
 | [], _, _ => rfl
 | v :: r, o, w => by rw [World.setCells, size_setCells' g r]; simp
theorem grown_setCells (w : World) (g o : Nat) (vs : List Value) : w.grownBy (w.setCells g o vs) (some g) :=
 ⟨World.os_setCells _ _ _ _, tape_setCells _ _ _ _, World.output_setCells _ _ _ _, by rw [size_setCells' g]; exact zn _, fun k hk hne => World.heap_setCells_other _ _ _ _ hk (fun e => hne (by rw [e]))⟩
theorem cell_add {w : World} {g off j : Nat} {cur : Array Value} {T : TypeId} {fr : Nat × Nat} (hg : w.heap[g]? = some (.cells cur T fr)) : w.cell? ((⟨g, off, none⟩ : Addr).add j) = cur[off + j]? := by
 have e : (⟨g, off, none⟩ : Addr).add j = ⟨g, off + j, none⟩ := by unfold Addr.add; split <;> simp_all
 rw [e]
 exact cell_of_row _ _ _ _ _ _ hg
section
variable {P : Program} (w : World)
theorem run_append_q (base : Nat) (t ty e : TypeId) (i : TypeInfo) (z : Value) (size bytes : Nat) (ht : P.underlying t = some (.slice e)) (hi : P.info? e = some i) (hz : i.zero = some z)
  (hsize : i.size = size) (hby : i.bytes = bytes) (hzs : z.cells.size = size) (hsz : 0 < size) (v : Value) (n : Nat) (xs : List Value) (hown : jk w base e size v n xs)
  (A : Option Addr) (m c : Nat) (hc0 : A = none → c = 0) (news : List Value) (hr : SrcW w size A m news) (h1 : ∀ u ∈ news, u.oneCell' = true) (h63 : n + m ≤ maxLen) (hbytes : (n + m) * bytes ≤ 140737488355328) (hbase : base ≤ w.heap.size) :
  ∃ v' w', (Builtin.append_ #[t, t] ty #[v, .slice A m c]).run P w = .ok v' w' ∧ jk w' base e size v' (n + m) (xs ++ news) ∧ w.grownBy w' v.ownBlock ∧ (v'.ownBlock = v.ownBlock ∨ ∃ k, v'.ownBlock = some k ∧ w.heap.size ≤ k) := by
 obtain ⟨hl, g, off, cap, cur, rfl, hB, hg, hnc, hcm, hle, hat⟩ := hown
 have hmul : n * size ≤ cap * size := Nat.mul_le_mul_right _ hnc
 cases A with
 | none =>
  have hm : m = 0 := Nat.eq_zero_of_not_pos fun h0 => by obtain ⟨ad, h, _⟩ := hr.2 h0; cases h
  subst hm
  have hn : news = [] := List.eq_nil_of_length_eq_zero (by simpa using hr.1)
  subst hn
  have h0 := hc0 rfl
  subst h0
  refine ⟨_, w, ?_, ⟨by simpa using hl, g, off, cap, cur, rfl, hB, hg, hnc, hcm, hle, by simpa using hat⟩, ⟨rfl, rfl, rfl, zn _, fun _ _ _ => rfl⟩, .inl rfl⟩
  simp [Builtin.append_, run_underlying ht, sizeOf, typeInfo, hi, Builtin.lenOf, Builtin.firstCells, hnc, storeCells]
 | some ad =>
  have hc : ∀ j u, news[j]? = some u → w.cell? (ad.add j) = some u := fun j u hu => by
   have h0 : 0 < m := Nat.pos_of_ne_zero fun h0 => by
    subst h0
    have hn : news = [] := List.eq_nil_of_length_eq_zero (by simpa using hr.1)
    subst hn; simp at hu
   obtain ⟨ad', h, hc⟩ := hr.2 h0
   cases h
   exact hc j u hu
  by_cases hroom : n + m ≤ cap
  ·have hm2 : n * size + m * size ≤ cap * size := by rw [← Nat.add_mul]; exact Nat.mul_le_mul_right _ hroom
   have hfit : off + n * size + news.length ≤ cur.size := by rw [hr.1]; omega
   subst hsize
   have hrun := run_append_room_cells (P := P) w t ty e i ht hi g off n cap ad m c news hr.1 hc h1 hroom (fun j hj => by
    rw [cell_of_row _ _ _ _ _ _ hg, Array.getElem?_eq_getElem (by omega)]; rfl) (fun j hj => frozen_of_row _ _ _ _ _ hg)
   obtain ⟨cur', k1, k2, k3, k4⟩ := setCells_block news (off + n * i.size) w cur hg hfit
   refine ⟨_, _, hrun, ⟨by rw [List.length_append, hl, hr.1, Nat.add_mul], g, off, cap, cur', rfl, hB, k1, hroom, hcm, by omega, fun j hj => ?_⟩, grown_setCells _ _ _ _, .inl rfl⟩
   by_cases hj2 : j < n * i.size
   ·rw [k3 _ (by omega), hat j hj2, List.getElem?_append_left (by omega)]
   ·rw [Nat.add_mul] at hj
    have := k4 (j - n * i.size) (by rw [hr.1]; omega)
    rw [show off + n * i.size + (j - n * i.size) = off + j by omega] at this
    rw [this, List.getElem?_append_right (by omega), hl]
  ·have holds : ∀ j u, xs[j]? = some u → w.cell? ((⟨g, off, none⟩ : Addr).add j) = some u := fun j u hu => by
    have hj := (List.getElem?_eq_some_iff.1 hu).1
    rw [cell_add hg, hat j (by omega), hu]
   obtain ⟨v', w', hrun, h2, h3⟩ := run_append_arg_grows (P := P) w t ty e i z size bytes ht hi hz hsize hby hzs hsz ⟨g, off, none⟩ n cap xs hl holds ad m c news hr.1 hc (by omega) h63 hbytes
   have hb2 : ∃ k, v'.ownBlock = some k ∧ w.heap.size ≤ k := by
    rcases h2.2 with ⟨rfl, h0⟩ | ⟨k, cp, cu, rfl, hk, -⟩
    ·omega
    ·exact ⟨k, rfl, hk⟩
   exact ⟨v', w', hrun, (jk.ofRow h2 (by omega)).mono hbase, ⟨h3.os, h3.tape, h3.output, h3.size, fun k hk _ => h3.block k hk (by simp)⟩, .inr hb2⟩
theorem wp_append_q {o : Oper} {a : Act} {K : Act → World → Prop} {Q : Exit → Act → World → Prop} (s x : Operand) (t : TypeId)
  (ho : o.op = .call { callee := .builtin .append, args := #[s, x], argTypes := #[t, t] })
  (base : Nat) (e : TypeId) (i : TypeInfo) (z : Value) (size bytes : Nat) (ht : P.underlying t = some (.slice e)) (hi : P.info? e = some i) (hz : i.zero = some z)
  (hsize : i.size = size) (hby : i.bytes = bytes) (hzs : z.cells.size = size) (hsz : 0 < size) (v : Value) (n : Nat) (xs : List Value) (hs : a.eval s = v) (hown : jk w base e size v n xs)
  (A : Option Addr) (m c : Nat) (hc0 : A = none → c = 0) (news : List Value) (hx : a.eval x = .slice A m c) (hr : SrcW w size A m news) (h1 : ∀ u ∈ news, u.oneCell' = true) (h63 : n + m ≤ maxLen) (hbytes : (n + m) * bytes ≤ 140737488355328) (hbase : base ≤ w.heap.size)
  (h : ∀ v' w', jk w' base e size v' (n + m) (xs ++ news) → w.grownBy w' v.ownBlock → (v'.ownBlock = v.ownBlock ∨ ∃ k, v'.ownBlock = some k ∧ w.heap.size ≤ k) → K (a.put o.dst v') w') : o.wp P a w K Q := by
 obtain ⟨v', w', hrun, h2, h3, h4⟩ := run_append_q (P := P) w base t o.type e i z size bytes ht hi hz hsize hby hzs hsz v n xs hown A m c hc0 news hr h1 h63 hbytes hbase
 unfold Oper.wp execOp
 simp only [ho, resolve, invoke, builtin, Sem.run_bind, Sem.run_pure, Result.andThen_ok, List.map_toArray, List.map_cons, List.map_nil, hs, hx, hrun]
 exact h v' w' h2 h3 h4
end
end Go.Proofs.YteofmaiojepdkaaGreat
namespace Go.Proofs.YteofmaiojepdkaaGreat
open Go Go.RowKit Go.Maps Go.Sort
def itmL (I : zk) (p : zb) : List Value := [.int .i64 p.bank, .int .u16 p.addr, .int .i64 (atI I p).1.op, .int .i64 (atI I p).1.d, .int .i64 (atI I p).1.s, .int .u16 (atI I p).1.imm, .int .u16 (atI I p).1.aux, .int .i64 (atI I p).1.bank, .int .i64 (atI I p).1.size]
def x9 (I : zk) (l : List zb) : List Value := l.flatMap (itmL I)
def issL (x : zM) : List Value := [.int .i64 x.kind, .int .i64 x.at_.bank, .int .u16 x.at_.addr]
def yf (l : List zM) : List Value := l.flatMap issL
def xP (l : List zb) : List (zb × Value) := l.map fun p => (p, .bool true)
theorem trueL_keys (l : List zb) : (xP l).map (·.1) = l := by unfold xP; rw [List.map_map]; exact List.map_id _
theorem trueL_put {l : List zb} {p : zb} (h : p ∉ l) : xG p (.bool true) (xP l) = xP (l ++ [p]) := by
 rw [putL_new (by rw [trueL_keys]; exact h)]
 simp [xP]
theorem trueL_same : ∀ {l : List zb} {p : zb}, p ∈ l → xG p (.bool true) (xP l) = xP l
 | x :: l, p, h => by
  unfold xP
  rw [List.map_cons]
  by_cases e : p = x
  ·subst e; simp [xG]
  ·have h2 : p ∈ l := by simpa [e] using h
   have := trueL_same h2
   unfold xP at this
   simp [xG, e, this]
structure VsA where
 gs : Nat
 gk : Nat
 bd : Nat
 bs : Nat
 br : Nat
 bq : Nat
 bc : Nat
 gd : Nat
 gc : Nat
structure VsW (I : zk) (e : zb) (A : VsA) (w0 : World) (D cd Q C : List zb) (iss : List zM) (vcd vis vq : Value) (W : World) : Prop where
 kn : KnW I A.gk W
 tr : zg (fun k => k = A.gk) w0 W
 hbd : W.heap[A.bd]? = some (.cells #[.map (some A.gd)] 141 (0, 0))
 hd : W.heap[A.gd]? = some (yc yL (xP D))
 nd : D.Nodup
 hbs : W.heap[A.bs]? = some (.cells #[.pointer (some ⟨A.gs, 0, none⟩)] 93 (0, 0))
 hbr : W.heap[A.br]? = some (.cells #[.int .i64 e.bank, .int .u16 e.addr, .bool false, .int .i64 0, .int .u16 0, vcd, .slice none 0 0, vis] 50 (0, 0))
 hbq : W.heap[A.bq]? = some (.cells #[vq] 40 (0, 0))
 hbc : W.heap[A.bc]? = some (.cells #[.map (some A.gc)] 141 (0, 0))
 hc : W.heap[A.gc]? = some (yc yL (xP C))
 nc : C.Nodup
 oc : W.ownsRow w0.heap.size 55 9 vcd cd.length (x9 I cd)
 oi : W.ownsRow w0.heap.size 58 3 vis iss.length (yf iss)
 oq : jk W w0.heap.size 47 2 vq Q.length (zp Q)
 lbd : w0.heap.size ≤ A.bd
 lbs : A.bs ≠ A.gk
 lbr : w0.heap.size ≤ A.br
 lbq : w0.heap.size ≤ A.bq
 lbc : w0.heap.size ≤ A.bc
 lgd : w0.heap.size ≤ A.gd
 lgc : w0.heap.size ≤ A.gc
 ngg : A.gd ≠ A.gc
 nbb : A.bd ≠ A.bc
 lgk : A.gk < w0.heap.size
section
variable {I : zk} {e : zb} {A : VsA} {w0 W W' : World} {D cd Q C : List zb} {iss : List zM} {vcd vis vq : Value}
theorem VsW.below (h : VsW I e A w0 D cd Q C iss vcd vis vq W) (hb : Below W.heap.size W W') : VsW I e A w0 D cd Q C iss vcd vis vq W' := by
 have t : zg (fun _ => False) W W' := zg.ofBelow hb
 obtain ⟨L, hL, hM⟩ := h.kn
 exact ⟨⟨L, za hb hL, hM⟩, h.tr.trans t (fun _ _ e => e.elim), za hb h.hbd, za hb h.hd, h.nd, za hb h.hbs, za hb h.hbr, za hb h.hbq, za hb h.hbc, za hb h.hc, h.nc,
  zi h.oc t (fun _ _ e => e), zi h.oi t (fun _ _ e => e), h.oq.turn t (fun _ _ e => e), h.lbd, h.lbs, h.lbr, h.lbq, h.lbc, h.lgd, h.lgc, h.ngg, h.nbb, h.lgk⟩
theorem ye {w : World} {B s n c : Nat} {T : TypeId} {v : Value} {xs : List Value} {o : Obj} (h : w.ownsRow B T s v n xs) (hc : w.heap[c]? = some o) (ho : ∀ cs fr, o ≠ .cells cs T fr) : ∀ k, v.ownBlock = some k → ¬ k = c := fun k hk e => by
 obtain ⟨-, cs, h2⟩ := zz h k hk
 rw [e, hc] at h2
 injection h2 with h2
 exact ho _ _ h2
theorem ownQ_ne {w : World} {B s n c : Nat} {T : TypeId} {v : Value} {xs : List Value} {o : Obj} (h : jk w B T s v n xs) (hc : w.heap[c]? = some o) (ho : ∀ cs fr, o ≠ .cells cs T fr) : ∀ k, v.ownBlock = some k → ¬ k = c := fun k hk e => by
 obtain ⟨-, g, off, cap, cur, rfl, -, h2, -⟩ := h
 simp only [Value.ownBlock, Option.some.injEq] at hk
 subst hk
 rw [e, hc] at h2
 injection h2 with h2
 exact ho _ _ h2
theorem VsW.learn (h : VsW I e A w0 D cd Q C iss vcd vis vq W) (t : zg (fun k => k = A.gk) W W') (hk : KnW I A.gk W') : VsW I e A w0 D cd Q C iss vcd vis vq W' := by
 have hl := h.lgk
 refine ⟨hk, h.tr.trans t (fun _ _ e => e), t.heap h.hbd (by have := h.lbd; omega), t.heap h.hd (by have := h.lgd; omega), h.nd, t.heap h.hbs h.lbs, t.heap h.hbr (by have := h.lbr; omega), t.heap h.hbq (by have := h.lbq; omega), t.heap h.hbc (by have := h.lbc; omega), t.heap h.hc (by have := h.lgc; omega), h.nc,
  zi h.oc t (fun k hk e => by have := h.oc.lt k hk; omega), zi h.oi t (fun k hk e => by have := h.oi.lt k hk; omega), h.oq.turn t (fun k hk e => by have := h.oq.lt k hk; omega), h.lbd, h.lbs, h.lbr, h.lbq, h.lbc, h.lgd, h.lgc, h.ngg, h.nbb, h.lgk⟩
theorem kn_keep {c : Nat} (h : KnW I A.gk W) (t : zg (fun k => k = c) W W') (hne : A.gk ≠ c) : KnW I A.gk W' := by
 obtain ⟨L, hL, hM⟩ := h
 exact ⟨L, t.heap hL hne, hM⟩
theorem VsW.done (h : VsW I e A w0 D cd Q C iss vcd vis vq W) {p : zb} (hp : p ∉ D) (hm : W'.heap[A.gd]? = some (yc yL (xG p (.bool true) (xP D)))) (hg : W.grownBy W' (some A.gd)) : VsW I e A w0 (D ++ [p]) cd Q C iss vcd vis vq W' := by
 have t : zg (fun k => k = A.gd) W W' := (zg.refl _ W).grown hg (fun k e _ => by injection e with e; exact e.symm)
 have hl := h.lgd
 have hk := h.lgk
 rw [trueL_put hp] at hm
 have hx : ∀ {b : Nat} {cs : Array Value} {T : TypeId} {fr : Nat × Nat}, W.heap[b]? = some (.cells cs T fr) → W'.heap[b]? = some (.cells cs T fr) := fun hb => t.heap hb (fun e => by rw [e, h.hd] at hb; cases hb)
 have ho : ∀ (cs : Array Value) (T : TypeId) (fr : Nat × Nat), yc yL (xP D) ≠ .cells cs T fr := fun _ _ _ e => by cases e
 exact ⟨kn_keep h.kn t (by omega), h.tr.trans t (fun x hx e => by omega), hx h.hbd, hm, List.nodup_append.2 ⟨h.nd, by simp, fun a ha b hb e => hp (by rw [List.mem_singleton.1 hb] at e; rw [← e]; exact ha)⟩, hx h.hbs, hx h.hbr, hx h.hbq, hx h.hbc, t.heap h.hc (fun e => h.ngg e.symm), h.nc,
  zi h.oc t (ye h.oc h.hd (fun cs fr => ho cs _ fr)), zi h.oi t (ye h.oi h.hd (fun cs fr => ho cs _ fr)), h.oq.turn t (ownQ_ne h.oq h.hd (fun cs fr => ho cs _ fr)), h.lbd, h.lbs, h.lbr, h.lbq, h.lbc, h.lgd, h.lgc, h.ngg, h.nbb, h.lgk⟩
theorem VsW.called (h : VsW I e A w0 D cd Q C iss vcd vis vq W) {p : zb} (hm : W'.heap[A.gc]? = some (yc yL (xG p (.bool true) (xP C)))) (hg : W.grownBy W' (some A.gc)) : VsW I e A w0 D cd Q (if p ∈ C then C else C ++ [p]) iss vcd vis vq W' := by
 have t : zg (fun k => k = A.gc) W W' := (zg.refl _ W).grown hg (fun k e _ => by injection e with e; exact e.symm)
 have hl := h.lgc
 have hk := h.lgk
 have hx : ∀ {b : Nat} {cs : Array Value} {T : TypeId} {fr : Nat × Nat}, W.heap[b]? = some (.cells cs T fr) → W'.heap[b]? = some (.cells cs T fr) := fun hb => t.heap hb (fun e => by rw [e, h.hc] at hb; cases hb)
 have ho : ∀ (cs : Array Value) (T : TypeId) (fr : Nat × Nat), yc yL (xP C) ≠ .cells cs T fr := fun _ _ _ e => by cases e
 have hC : xG p (.bool true) (xP C) = xP (if p ∈ C then C else C ++ [p]) := by
  by_cases hp : p ∈ C
  ·rw [if_pos hp, trueL_same hp]
  ·rw [if_neg hp, trueL_put hp]
 rw [hC] at hm
 have hnd : (if p ∈ C then C else C ++ [p]).Nodup := by
  by_cases hp : p ∈ C
  ·rw [if_pos hp]; exact h.nc
  ·rw [if_neg hp]; exact List.nodup_append.2 ⟨h.nc, by simp, fun a ha b hb e => hp (by rw [List.mem_singleton.1 hb] at e; rw [← e]; exact ha)⟩
 exact ⟨kn_keep h.kn t (by omega), h.tr.trans t (fun x hx e => by omega), hx h.hbd, t.heap h.hd h.ngg, h.nd, hx h.hbs, hx h.hbr, hx h.hbq, hx h.hbc, hm, hnd,
  zi h.oc t (ye h.oc h.hc (fun cs fr => ho cs _ fr)), zi h.oi t (ye h.oi h.hc (fun cs fr => ho cs _ fr)), h.oq.turn t (ownQ_ne h.oq h.hc (fun cs fr => ho cs _ fr)), h.lbd, h.lbs, h.lbr, h.lbq, h.lbc, h.lgd, h.lgc, h.ngg, h.nbb, h.lgk⟩
theorem xY {w : World} {B s n b : Nat} {T : TypeId} {v : Value} {xs : List Value} {o : Obj} (h : w.ownsRow B T s v n xs) (hb : w.heap[b]? = some o) (ho : ∀ cs fr, o ≠ .cells cs T fr) : ¬ v.ownBlock = some b := fun e => ye h hb ho b e rfl
theorem rowQ_ne {w : World} {B s n b : Nat} {T : TypeId} {v : Value} {xs : List Value} {o : Obj} (h : jk w B T s v n xs) (hb : w.heap[b]? = some o) (ho : ∀ cs fr, o ≠ .cells cs T fr) : ¬ v.ownBlock = some b := fun e => ownQ_ne h hb ho b e rfl
theorem zm {cs cs' : Array Value} {T T' : TypeId} {fr fr' : Nat × Nat} (h : T ≠ T') : Obj.cells cs T fr ≠ .cells cs' T' fr' := fun e => h (by injection e)
theorem zY {enc : zb → Value} {l : List (zb × Value)} {cs' : Array Value} {T' : TypeId} {fr' : Nat × Nat} : yc enc l ≠ .cells cs' T' fr' := fun e => by cases e
theorem VsW.code (h : VsW I e A w0 D cd Q C iss vcd vis vq W) {w1 : World} {v' : Value} {p : zb} (ho : w1.ownsRow w0.heap.size 55 9 v' (cd.length + 1) (x9 I cd ++ itmL I p)) (hg : W.grownBy w1 vcd.ownBlock) :
  VsW I e A w0 D (cd ++ [p]) Q C iss v' vis vq (w1.setCell ⟨A.br, 5, none⟩ v') ∧ w1.heap[A.br]? = some (.cells #[.int .i64 e.bank, .int .u16 e.addr, .bool false, .int .i64 0, .int .u16 0, vcd, .slice none 0 0, vis] 50 (0, 0)) := by
 have t1 : zg (fun k => vcd.ownBlock = some k) W w1 := (zg.refl _ W).grown hg (fun k e _ => e)
 have hx1 : ∀ {b : Nat} {o : Obj}, W.heap[b]? = some o → (∀ cs fr, o ≠ .cells cs 55 fr) → w1.heap[b]? = some o := fun hb hn => t1.heap hb (xY h.oc hb hn)
 have hbr1 := hx1 h.hbr (fun _ _ => zm (by decide))
 have t2 : zg (fun k => k = A.br) w1 (w1.setCell ⟨A.br, 5, none⟩ v') := (zg.refl _ w1).setCell _ (fun _ => rfl)
 have hx2 : ∀ {b : Nat} {o : Obj}, W.heap[b]? = some o → (∀ cs fr, o ≠ .cells cs 55 fr) → (∀ cs fr, o ≠ .cells cs 50 fr) → (w1.setCell ⟨A.br, 5, none⟩ v').heap[b]? = some o := fun hb hn hn2 => t2.heap (hx1 hb hn) (fun e => by
  rw [e, h.hbr] at hb
  injection hb with hb
  exact hn2 _ _ hb.symm)
 obtain ⟨L, hL, hM⟩ := h.kn
 have hB := h.lbr
 refine ⟨⟨⟨L, hx2 hL (fun _ _ => zY) (fun _ _ => zY), hM⟩, (h.tr.trans t1 (fun k hk e => by have := (h.oc.lt k e).1; omega)).trans t2 (fun k hk e => by omega), hx2 h.hbd (fun _ _ => zm (by decide)) (fun _ _ => zm (by decide)), hx2 h.hd (fun _ _ => zY) (fun _ _ => zY), h.nd, hx2 h.hbs (fun _ _ => zm (by decide)) (fun _ _ => zm (by decide)), ?_, hx2 h.hbq (fun _ _ => zm (by decide)) (fun _ _ => zm (by decide)), hx2 h.hbc (fun _ _ => zm (by decide)) (fun _ _ => zm (by decide)), hx2 h.hc (fun _ _ => zY) (fun _ _ => zY), h.nc, ?_, ?_, ?_, h.lbd, h.lbs, h.lbr, h.lbq, h.lbc, h.lgd, h.lgc, h.ngg, h.nbb, h.lgk⟩, hbr1⟩
 ·rw [heap_setCell_same hbr1 (i := 5) v']; rfl
 ·have : x9 I (cd ++ [p]) = x9 I cd ++ itmL I p := by simp [x9]
  rw [this, List.length_append]
  exact zi ho t2 (ye ho hbr1 (fun _ _ => zm (by decide)))
 ·have h1 := zi h.oi t1 (fun k hk e => by
   obtain ⟨-, cs, hc⟩ := zz h.oi k hk
   exact xY h.oc hc (fun _ _ => zm (by decide)) e)
  exact zi h1 t2 (ye h1 hbr1 (fun _ _ => zm (by decide)))
 ·have h1 := h.oq.turn t1 (fun k hk e => by
   obtain ⟨-, cs, hc⟩ := zz h.oc k e
   exact rowQ_ne h.oq hc (fun _ _ => zm (by decide)) hk)
  exact h1.turn t2 (ownQ_ne h1 hbr1 (fun _ _ => zm (by decide)))
theorem VsW.issue (h : VsW I e A w0 D cd Q C iss vcd vis vq W) {w1 : World} {v' : Value} {x : zM} (ho : w1.ownsRow w0.heap.size 58 3 v' (iss.length + 1) (yf iss ++ issL x)) (hg : W.grownBy w1 vis.ownBlock) :
  VsW I e A w0 D cd Q C (iss ++ [x]) vcd v' vq (w1.setCell ⟨A.br, 7, none⟩ v') ∧ w1.heap[A.br]? = some (.cells #[.int .i64 e.bank, .int .u16 e.addr, .bool false, .int .i64 0, .int .u16 0, vcd, .slice none 0 0, vis] 50 (0, 0)) := by
 have t1 : zg (fun k => vis.ownBlock = some k) W w1 := (zg.refl _ W).grown hg (fun k e _ => e)
 have hx1 : ∀ {b : Nat} {o : Obj}, W.heap[b]? = some o → (∀ cs fr, o ≠ .cells cs 58 fr) → w1.heap[b]? = some o := fun hb hn => t1.heap hb (xY h.oi hb hn)
 have hbr1 := hx1 h.hbr (fun _ _ => zm (by decide))
 have t2 : zg (fun k => k = A.br) w1 (w1.setCell ⟨A.br, 7, none⟩ v') := (zg.refl _ w1).setCell _ (fun _ => rfl)
 have hx2 : ∀ {b : Nat} {o : Obj}, W.heap[b]? = some o → (∀ cs fr, o ≠ .cells cs 58 fr) → (∀ cs fr, o ≠ .cells cs 50 fr) → (w1.setCell ⟨A.br, 7, none⟩ v').heap[b]? = some o := fun hb hn hn2 => t2.heap (hx1 hb hn) (fun e => by
  rw [e, h.hbr] at hb
  injection hb with hb
  exact hn2 _ _ hb.symm)
 obtain ⟨L, hL, hM⟩ := h.kn
 have hB := h.lbr
 refine ⟨⟨⟨L, hx2 hL (fun _ _ => zY) (fun _ _ => zY), hM⟩, (h.tr.trans t1 (fun k hk e => by have := (h.oi.lt k e).1; omega)).trans t2 (fun k hk e => by omega), hx2 h.hbd (fun _ _ => zm (by decide)) (fun _ _ => zm (by decide)), hx2 h.hd (fun _ _ => zY) (fun _ _ => zY), h.nd, hx2 h.hbs (fun _ _ => zm (by decide)) (fun _ _ => zm (by decide)), ?_, hx2 h.hbq (fun _ _ => zm (by decide)) (fun _ _ => zm (by decide)), hx2 h.hbc (fun _ _ => zm (by decide)) (fun _ _ => zm (by decide)), hx2 h.hc (fun _ _ => zY) (fun _ _ => zY), h.nc, ?_, ?_, ?_, h.lbd, h.lbs, h.lbr, h.lbq, h.lbc, h.lgd, h.lgc, h.ngg, h.nbb, h.lgk⟩, hbr1⟩
 ·rw [heap_setCell_same hbr1 (i := 7) v']; rfl
 ·have h1 := zi h.oc t1 (fun k hk e => by
   obtain ⟨-, cs, hc⟩ := zz h.oc k hk
   exact xY h.oi hc (fun _ _ => zm (by decide)) e)
  exact zi h1 t2 (ye h1 hbr1 (fun _ _ => zm (by decide)))
 ·have : yf (iss ++ [x]) = yf iss ++ issL x := by simp [yf]
  rw [this, List.length_append]
  exact zi ho t2 (ye ho hbr1 (fun _ _ => zm (by decide)))
 ·have h1 := h.oq.turn t1 (fun k hk e => by
   obtain ⟨-, cs, hc⟩ := zz h.oi k e
   exact rowQ_ne h.oq hc (fun _ _ => zm (by decide)) hk)
  exact h1.turn t2 (ownQ_ne h1 hbr1 (fun _ _ => zm (by decide)))
theorem VsW.queue (h : VsW I e A w0 D cd Q C iss vcd vis vq W) {w1 : World} {v' : Value} {Q' : List zb} (ho : jk w1 w0.heap.size 47 2 v' Q'.length (zp Q')) (hg : W.grownBy w1 vq.ownBlock) :
  VsW I e A w0 D cd Q' C iss vcd vis v' (w1.setCell ⟨A.bq, 0, none⟩ v') ∧ w1.heap[A.bq]? = some (.cells #[vq] 40 (0, 0)) := by
 have t1 : zg (fun k => vq.ownBlock = some k) W w1 := (zg.refl _ W).grown hg (fun k e _ => e)
 have hx1 : ∀ {b : Nat} {o : Obj}, W.heap[b]? = some o → (∀ cs fr, o ≠ .cells cs 47 fr) → w1.heap[b]? = some o := fun hb hn => t1.heap hb (rowQ_ne h.oq hb hn)
 have hbq1 := hx1 h.hbq (fun _ _ => zm (by decide))
 have t2 : zg (fun k => k = A.bq) w1 (w1.setCell ⟨A.bq, 0, none⟩ v') := (zg.refl _ w1).setCell _ (fun _ => rfl)
 have hx2 : ∀ {b : Nat} {o : Obj}, W.heap[b]? = some o → (∀ cs fr, o ≠ .cells cs 47 fr) → (∀ cs fr, o ≠ .cells cs 40 fr) → (w1.setCell ⟨A.bq, 0, none⟩ v').heap[b]? = some o := fun hb hn hn2 => t2.heap (hx1 hb hn) (fun e => by
  rw [e, h.hbq] at hb
  injection hb with hb
  exact hn2 _ _ hb.symm)
 obtain ⟨L, hL, hM⟩ := h.kn
 have hB := h.lbq
 refine ⟨⟨⟨L, hx2 hL (fun _ _ => zY) (fun _ _ => zY), hM⟩, (h.tr.trans t1 (fun k hk e => by have := (h.oq.lt k e).1; omega)).trans t2 (fun k hk e => by omega), hx2 h.hbd (fun _ _ => zm (by decide)) (fun _ _ => zm (by decide)), hx2 h.hd (fun _ _ => zY) (fun _ _ => zY), h.nd, hx2 h.hbs (fun _ _ => zm (by decide)) (fun _ _ => zm (by decide)), hx2 h.hbr (fun _ _ => zm (by decide)) (fun _ _ => zm (by decide)), ?_, hx2 h.hbc (fun _ _ => zm (by decide)) (fun _ _ => zm (by decide)), hx2 h.hc (fun _ _ => zY) (fun _ _ => zY), h.nc, ?_, ?_, ?_, h.lbd, h.lbs, h.lbr, h.lbq, h.lbc, h.lgd, h.lgc, h.ngg, h.nbb, h.lgk⟩, hbq1⟩
 ·rw [heap_setCell_same hbq1 (i := 0) v']; rfl
 ·have h1 := zi h.oc t1 (fun k hk e => by
   obtain ⟨-, cs, hc⟩ := zz h.oc k hk
   exact rowQ_ne h.oq hc (fun _ _ => zm (by decide)) e)
  exact zi h1 t2 (ye h1 hbq1 (fun _ _ => zm (by decide)))
 ·have h1 := zi h.oi t1 (fun k hk e => by
   obtain ⟨-, cs, hc⟩ := zz h.oi k hk
   exact rowQ_ne h.oq hc (fun _ _ => zm (by decide)) e)
  exact zi h1 t2 (ye h1 hbq1 (fun _ _ => zm (by decide)))
 ·exact ho.turn t2 (ownQ_ne ho hbq1 (fun _ _ => zm (by decide)))
end
end Go.Proofs.YteofmaiojepdkaaGreat
