/- A queue: a slice that starts somewhere in its block; append to it, and what is left behind its first. No condition. -/
import Derived.Test.YteofmaiojepdkaaGreatSaSkI
import Derived.ArgAppend
import Derived.Deep.Upon
set_option linter.all false
namespace Go.Proofs.YteofmaiojepdkaaGreat
open Go Go.RowKit Go.Maps Go.Sort
def y4 (w : World) (B : Nat) (T : TypeId) (s : Nat) (v : Value) (n : Nat) (xs : List Value) : Prop :=
  xs.length = n * s ∧ ∃ g off cap cur, v = .slice (some ⟨g, off, none⟩) n cap ∧ B ≤ g ∧ w.heap[g]? = some (.cells cur T (0, 0)) ∧ n ≤ cap ∧ cap ≤ maxLen ∧ off + cap * s ≤ cur.size ∧ ∀ j, j < n * s → cur[off + j]? = xs[j]?
theorem y4.ofRow {w : World} {B : Nat} {T : TypeId} {s n : Nat} {v : Value} {xs : List Value} (h : w.ownsRow B T s v n xs) (hn : 0 < n) : y4 w B T s v n xs := by
  refine ⟨h.1, ?_⟩
  rcases h.2 with ⟨-, h0⟩ | ⟨g, cap, cur, rfl, hB, hg, hnc, hcm, hcs, ht⟩
  · omega
  · refine ⟨g, 0, cap, cur, rfl, hB, hg, hnc, hcm, by omega, fun j hj => ?_⟩
    rw [Nat.zero_add, ← ht, List.getElem?_take, if_pos hj, Array.getElem?_toList]
theorem y4.mono {w : World} {B B' : Nat} {T : TypeId} {s n : Nat} {v : Value} {xs : List Value} (h : y4 w B T s v n xs) (hB : B' ≤ B) : y4 w B' T s v n xs := by
  obtain ⟨hl, g, off, cap, cur, hv, hg, h2⟩ := h
  exact ⟨hl, g, off, cap, cur, hv, Nat.le_trans hB hg, h2⟩
theorem y4.lt {w : World} {B : Nat} {T : TypeId} {s n : Nat} {v : Value} {xs : List Value} (h : y4 w B T s v n xs) : ∀ k, v.ownBlock = some k → B ≤ k ∧ k < w.heap.size := by
  obtain ⟨hl, g, off, cap, cur, rfl, hg, h2, -⟩ := h
  intro k hk
  simp only [Value.ownBlock, Option.some.injEq] at hk
  subst hk
  exact ⟨hg, (Array.getElem?_eq_some_iff.1 h2).1⟩
theorem y4.turn {w w' : World} {bs : Nat → Prop} {B : Nat} {T : TypeId} {s n : Nat} {v : Value} {xs : List Value} (h : y4 w B T s v n xs) (t : y6 bs w w') (hb : ∀ k, v.ownBlock = some k → ¬ bs k) : y4 w' B T s v n xs := by
  obtain ⟨hl, g, off, cap, cur, rfl, hg, h2, h3⟩ := h
  exact ⟨hl, g, off, cap, cur, rfl, hg, t.heap h2 (hb g rfl), h3⟩
/-- What is behind the first. -/
theorem y4.tail {w : World} {B : Nat} {T : TypeId} {s n cap g off : Nat} {xs : List Value} (h : y4 w B T s (.slice (some ⟨g, off, none⟩) (n + 1) cap) (n + 1) xs) : y4 w B T s (.slice (some ⟨g, off + s, none⟩) n (cap - 1)) n (xs.drop s) ∧ y4 w B T s (.slice (some ⟨g, off, none⟩) n (cap - 1)) n (xs.take (n * s)) := by
  obtain ⟨hl, g', off', cap', cur, hv, hg, h2, h3, h4, h5, h6⟩ := h
  simp only [Value.slice.injEq, Option.some.injEq, Addr.mk.injEq] at hv
  obtain ⟨⟨rfl, rfl, -⟩, -, rfl⟩ := hv
  rw [Nat.succ_mul] at hl
  have hc : (cap - 1) * s + s = cap * s := by rw [← Nat.succ_mul]; congr 1; omega
  refine ⟨⟨by rw [List.length_drop]; omega, g, off + s, cap - 1, cur, rfl, hg, h2, by omega, by omega, by omega, fun j hj => ?_⟩, ⟨by rw [List.length_take]; omega, g, off, cap - 1, cur, rfl, hg, h2, by omega, by omega, by omega, fun j hj => ?_⟩⟩
  · rw [List.getElem?_drop, ← h6 (s + j) (by rw [Nat.succ_mul]; omega)]
    congr 1
    omega
  · rw [List.getElem?_take, if_pos hj, h6 j (by rw [Nat.succ_mul]; omega)]
theorem setCells_block {g : Nat} {T : TypeId} {fr : Nat × Nat} : ∀ (vs : List Value) (o : Nat) (w : World) (cur : Array Value), w.heap[g]? = some (.cells cur T fr) → o + vs.length ≤ cur.size →
    ∃ cur', (w.setCells g o vs).heap[g]? = some (.cells cur' T fr) ∧ cur'.size = cur.size ∧ (∀ j, j < o → cur'[j]? = cur[j]?) ∧ ∀ j, j < vs.length → cur'[o + j]? = vs[j]?
  | [], o, w, cur, h, _ => ⟨cur, h, rfl, fun _ _ => rfl, fun j hj => by simp at hj⟩
  | v :: r, o, w, cur, h, hs => by
    have hs' : o + (r.length + 1) ≤ cur.size := by simpa using hs
    obtain ⟨cur', h1, h2, h3, h4⟩ := setCells_block r (o + 1) _ _ (heap_setCell_same h (i := o) v) (by simp; omega)
    refine ⟨cur', h1, by simpa using h2, fun j hj => ?_, fun j hj => ?_⟩
    · rw [h3 j (by omega), Array.getElem?_setIfInBounds_ne (by omega)]
    · cases j with
      | zero =>
        rw [Nat.add_zero, h3 o (by omega), Array.getElem?_setIfInBounds_self_of_lt (by omega)]
        rfl
      | succ j =>
        rw [show o + (j + 1) = o + 1 + j by omega, h4 j (by simpa using hj)]
        simp
theorem tape_setCells (g : Nat) : ∀ (vs : List Value) (o : Nat) (w : World), (w.setCells g o vs).tape = w.tape
  | [], _, _ => rfl
  | v :: r, o, w => by rw [World.setCells, tape_setCells g r]; rfl
theorem size_setCells' (g : Nat) : ∀ (vs : List Value) (o : Nat) (w : World), (w.setCells g o vs).heap.size = w.heap.size
  | [], _, _ => rfl
  | v :: r, o, w => by rw [World.setCells, size_setCells' g r]; simp
theorem grown_setCells (w : World) (g o : Nat) (vs : List Value) : w.grownBy (w.setCells g o vs) (some g) :=
  ⟨World.os_setCells _ _ _ _, tape_setCells _ _ _ _, World.output_setCells _ _ _ _, by rw [size_setCells' g]; exact zn _, fun k hk hne => World.heap_setCells_other _ _ _ _ hk (fun e => hne (by rw [e]))⟩
theorem cell_add {w : World} {g off j : Nat} {cur : Array Value} {T : TypeId} {fr : Nat × Nat} (hg : w.heap[g]? = some (.cells cur T fr)) : w.cell? ((⟨g, off, none⟩ : Addr).add j) = cur[off + j]? := by
  have e : (⟨g, off, none⟩ : Addr).add j = ⟨g, off + j, none⟩ := by unfold Addr.add; split <;> simp_all
  rw [e]
  exact cell_of_row _ _ _ _ _ _ hg
section
variable {P : Program} (w : World)
theorem run_append_q (base : Nat) (t ty e : TypeId) (i : TypeInfo) (z : Value) (size bytes : Nat) (ht : P.underlying t = some (.slice e)) (hi : P.info? e = some i) (hz : i.zero = some z)
    (hsize : i.size = size) (hby : i.bytes = bytes) (hzs : z.cells.size = size) (hsz : 0 < size) (v : Value) (n : Nat) (xs : List Value) (hown : y4 w base e size v n xs)
    (A : Option Addr) (m c : Nat) (hc0 : A = none → c = 0) (news : List Value) (hr : SrcW w size A m news) (h1 : ∀ u ∈ news, u.oneCell' = true) (h63 : n + m ≤ maxLen) (hbytes : (n + m) * bytes ≤ 140737488355328) (hbase : base ≤ w.heap.size) :
    ∃ v' w', (Builtin.append_ #[t, t] ty #[v, .slice A m c]).run P w = .ok v' w' ∧ y4 w' base e size v' (n + m) (xs ++ news) ∧ w.grownBy w' v.ownBlock ∧ (v'.ownBlock = v.ownBlock ∨ ∃ k, v'.ownBlock = some k ∧ w.heap.size ≤ k) := by
  obtain ⟨hl, g, off, cap, cur, rfl, hB, hg, hnc, hcm, hle, hat⟩ := hown
  have hmul : n * size ≤ cap * size := Nat.mul_le_mul_right _ hnc
  cases A with
  | none =>
    have hm : m = 0 := Nat.eq_zero_of_not_pos fun h0 => by obtain ⟨ad, h, _⟩ := hr.2 h0; cases h
    subst hm
    have hn : news = [] := List.eq_nil_of_length_eq_zero (by simpa using hr.1)
    subst hn
    have h0 := hc0 rfl
    subst h0
    refine ⟨_, w, ?_, ⟨by simpa using hl, g, off, cap, cur, rfl, hB, hg, hnc, hcm, hle, by simpa using hat⟩, ⟨rfl, rfl, rfl, zn _, fun _ _ _ => rfl⟩, .inl rfl⟩
    simp [Builtin.append_, run_underlying ht, sizeOf, typeInfo, hi, Builtin.lenOf, Builtin.firstCells, hnc, storeCells]
  | some ad =>
    have hc : ∀ j u, news[j]? = some u → w.cell? (ad.add j) = some u := fun j u hu => by
      have h0 : 0 < m := Nat.pos_of_ne_zero fun h0 => by
        subst h0
        have hn : news = [] := List.eq_nil_of_length_eq_zero (by simpa using hr.1)
        subst hn; simp at hu
      obtain ⟨ad', h, hc⟩ := hr.2 h0
      cases h
      exact hc j u hu
    by_cases hroom : n + m ≤ cap
    · have hm2 : n * size + m * size ≤ cap * size := by rw [← Nat.add_mul]; exact Nat.mul_le_mul_right _ hroom
      have hfit : off + n * size + news.length ≤ cur.size := by rw [hr.1]; omega
      subst hsize
      have hrun := run_append_room_cells (P := P) w t ty e i ht hi g off n cap ad m c news hr.1 hc h1 hroom (fun j hj => by
        rw [cell_of_row _ _ _ _ _ _ hg, Array.getElem?_eq_getElem (by omega)]; rfl) (fun j hj => frozen_of_row _ _ _ _ _ hg)
      obtain ⟨cur', k1, k2, k3, k4⟩ := setCells_block news (off + n * i.size) w cur hg hfit
      refine ⟨_, _, hrun, ⟨by rw [List.length_append, hl, hr.1, Nat.add_mul], g, off, cap, cur', rfl, hB, k1, hroom, hcm, by omega, fun j hj => ?_⟩, grown_setCells _ _ _ _, .inl rfl⟩
      by_cases hj2 : j < n * i.size
      · rw [k3 _ (by omega), hat j hj2, List.getElem?_append_left (by omega)]
      · rw [Nat.add_mul] at hj
        have := k4 (j - n * i.size) (by rw [hr.1]; omega)
        rw [show off + n * i.size + (j - n * i.size) = off + j by omega] at this
        rw [this, List.getElem?_append_right (by omega), hl]
    · have holds : ∀ j u, xs[j]? = some u → w.cell? ((⟨g, off, none⟩ : Addr).add j) = some u := fun j u hu => by
        have hj := (List.getElem?_eq_some_iff.1 hu).1
        rw [cell_add hg, hat j (by omega), hu]
      obtain ⟨v', w', hrun, h2, h3⟩ := run_append_arg_grows (P := P) w t ty e i z size bytes ht hi hz hsize hby hzs hsz ⟨g, off, none⟩ n cap xs hl holds ad m c news hr.1 hc (by omega) h63 hbytes
      have hb2 : ∃ k, v'.ownBlock = some k ∧ w.heap.size ≤ k := by
        rcases h2.2 with ⟨rfl, h0⟩ | ⟨k, cp, cu, rfl, hk, -⟩
        · omega
        · exact ⟨k, rfl, hk⟩
      exact ⟨v', w', hrun, (y4.ofRow h2 (by omega)).mono hbase, ⟨h3.os, h3.tape, h3.output, h3.size, fun k hk _ => h3.block k hk (by simp)⟩, .inr hb2⟩
theorem wp_append_q {o : Oper} {a : Act} {K : Act → World → Prop} {Q : Exit → Act → World → Prop} (s x : Operand) (t : TypeId)
    (ho : o.op = .call { callee := .builtin .append, args := #[s, x], argTypes := #[t, t] })
    (base : Nat) (e : TypeId) (i : TypeInfo) (z : Value) (size bytes : Nat) (ht : P.underlying t = some (.slice e)) (hi : P.info? e = some i) (hz : i.zero = some z)
    (hsize : i.size = size) (hby : i.bytes = bytes) (hzs : z.cells.size = size) (hsz : 0 < size) (v : Value) (n : Nat) (xs : List Value) (hs : a.eval s = v) (hown : y4 w base e size v n xs)
    (A : Option Addr) (m c : Nat) (hc0 : A = none → c = 0) (news : List Value) (hx : a.eval x = .slice A m c) (hr : SrcW w size A m news) (h1 : ∀ u ∈ news, u.oneCell' = true) (h63 : n + m ≤ maxLen) (hbytes : (n + m) * bytes ≤ 140737488355328) (hbase : base ≤ w.heap.size)
    (h : ∀ v' w', y4 w' base e size v' (n + m) (xs ++ news) → w.grownBy w' v.ownBlock → (v'.ownBlock = v.ownBlock ∨ ∃ k, v'.ownBlock = some k ∧ w.heap.size ≤ k) → K (a.put o.dst v') w') : o.wp P a w K Q := by
  obtain ⟨v', w', hrun, h2, h3, h4⟩ := run_append_q (P := P) w base t o.type e i z size bytes ht hi hz hsize hby hzs hsz v n xs hown A m c hc0 news hr h1 h63 hbytes hbase
  unfold Oper.wp execOp
  simp only [ho, resolve, invoke, builtin, Sem.run_bind, Sem.run_pure, Result.andThen_ok, List.map_toArray, List.map_cons, List.map_nil, hs, hx, hrun]
  exact h v' w' h2 h3 h4
end
end Go.Proofs.YteofmaiojepdkaaGreat
