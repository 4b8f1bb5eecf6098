/- Rows of constraints that a law makes. -/
import Derived.Test.YtepmgnhblegiiaaDoorLFst
import Derived.Test.YtepmgnhblegiiaaDoorPlK
import Derived.ArgAppend
import Derived.Laws.Closers25
set_option linter.all false
namespace Go.Proofs.YtepmgnhblegiiaaDoor
open Go Go.RowKit Go.Maps

/-- A slice of constraints, just made. -/
def OneC (B : Nat) (c : Con) (v : Value) (w : World) : Prop := ∃ g, v = .slice (some ⟨g, 0, none⟩) 1 1 ∧ B ≤ g ∧ w.heap[g]? = some (.cells #[.int .i64 c.kind, .int .i64 c.a, .int .i64 c.b, .int .i64 c.n] 37 (0, 0))
theorem OneC.src {B : Nat} {c : Con} {v : Value} {w w1 : World} {bs : Nat → Prop} (h : OneC B c v w) (t : Turn bs w w1) (hb : ∀ g, B ≤ g → ¬ bs g) : ∃ ad, v = .slice (some ad) 1 1 ∧ SrcW w1 4 (some ad) 1 (conCells c).toList := by
  obtain ⟨g, rfl, hB, hg⟩ := h
  refine ⟨_, rfl, rfl, fun _ => ⟨_, rfl, fun j u hu => ?_⟩⟩
  have hg1 := t.heap hg (hb g hB)
  have e : (⟨g, 0, none⟩ : Addr).add j = ⟨g, j, none⟩ := by unfold Addr.add; split <;> simp_all
  rw [e, cell_of_row _ _ _ _ _ _ hg1]
  simpa [conCells] using hu
def ConR (B : Nat) (cs : List Con) (v : Value) (w : World) : Prop := w.ownsRow B 37 4 v cs.length (consV cs)
theorem consV_one (l : List Con) : ∀ u ∈ consV l, u.oneCell' = true := fun u hu => by
  obtain ⟨p, -, hp⟩ := List.mem_flatMap.1 hu
  simp only [conCells, List.mem_cons, List.not_mem_nil, or_false] at hp
  rcases hp with rfl | rfl | rfl | rfl <;> rfl
theorem consV_append (l m : List Con) : consV (l ++ m) = consV l ++ consV m := by simp [consV]
theorem consV_take : ∀ (l : List Con) (k : Nat), (consV l).take (k * 4) = consV (l.take k)
  | [], k => by simp [consV]
  | _ :: _, 0 => by simp [consV]
  | c :: l, k + 1 => by
    show ((conCells c).toList ++ consV l).take ((k + 1) * 4) = (conCells c).toList ++ consV (l.take k)
    rw [← consV_take l k, List.take_append, List.take_of_length_le (by show 4 ≤ _; omega), show (k + 1) * 4 - (conCells c).toList.length = k * 4 from by show (k + 1) * 4 - 4 = k * 4; omega]
/-- What stands at the front of a row is read elsewhere, when what was there has stayed. -/
theorem own_front {w w' : World} {B n cap k : Nat} {A : Option Addr} {cs : List Con} (h : w.ownsRow B 37 4 (.slice A n cap) n (consV cs)) (hk : k ≤ n) (hb : Below w.heap.size w w') : SrcW w' 4 A k (consV (cs.take k)) := by
  have h9 := own_src (own_cut h hk)
  rw [consV_take] at h9
  exact h9.turn (Turn.ofBelow (bs := fun _ => False) hb) (fun _ _ h => h)
theorem SameC.more {cs ds : List Con} (h : SameC cs ds) (k : Nat) : SameC cs (ds ++ cs.take k) := fun c => ⟨fun e => List.mem_append_left _ ((h c).1 e), fun e => by
  rcases List.mem_append.1 e with e | e
  · exact (h c).2 e
  · exact List.mem_of_mem_take e⟩
/-- A row of constraints is written anew at one place. -/
theorem own_setC {w : World} {B g n cap : Nat} {cs : List Con} (h : w.ownsRow B 37 4 (.slice (some ⟨g, 0, none⟩) n cap) n (consV cs)) (hn : n = cs.length) {i : Nat} (hi : i < n) (x : Con) :
    ∃ cur : Array Value, w.heap[g]? = some (.cells cur 37 (0, 0)) ∧ Nat.ble (i * 4 + (conCells x).toList.length) cur.size = true ∧
      (w.setRow g (cur.toList.take (i * 4) ++ (conCells x).toList ++ cur.toList.drop (i * 4 + (conCells x).toList.length)).toArray).ownsRow B 37 4 (.slice (some ⟨g, 0, none⟩) n cap) n (consV (cs.set i x)) := by
  rcases h.2 with ⟨e, -⟩ | ⟨g', c', cur, e, hB, hg, h1, h2, h3, h4⟩
  · cases e
  · simp only [Value.slice.injEq, Option.some.injEq, Addr.mk.injEq, and_true, true_and] at e
    obtain ⟨rfl, rfl⟩ := e
    have hl : (conCells x).toList.length = 4 := rfl
    have hsz : i * 4 + 4 ≤ cur.size := by omega
    refine ⟨cur, hg, by rw [hl]; exact Nat.ble_eq_true_of_le hsz, by rw [consV_len, List.length_set, ← hn], .inr ⟨g, cap, _, rfl, hB, setRow_heap _ _ _ _ _ _ hg, h1, h2, ?_, ?_⟩⟩
    · simp only [List.size_toArray, List.length_append, List.length_take, List.length_drop, Array.length_toList, hl]; omega
    · show ((cur.toList.take (i * 4) ++ (conCells x).toList ++ cur.toList.drop (i * 4 + (conCells x).toList.length)).take (n * 4)) = _
      have hcv : ∀ (l : List Con) (i : Nat) (x : Con), i < l.length → consV (l.set i x) = (consV l).take (i * 4) ++ (conCells x).toList ++ (consV l).drop (i * 4 + 4) := by
        intro l
        induction l with
        | nil => intro i x h; simp at h
        | cons c l ih =>
          intro i x h
          cases i with
          | zero => show (conCells x).toList ++ consV l = _; simp [consV, conCells]
          | succ i =>
            have h9 := ih i x (by simpa using h)
            show (conCells c).toList ++ consV (l.set i x) = (((conCells c).toList ++ consV l).take ((i + 1) * 4)) ++ (conCells x).toList ++ ((conCells c).toList ++ consV l).drop ((i + 1) * 4 + 4)
            rw [h9]
            have hc4 : (conCells c).toList.length = 4 := rfl
            rw [List.take_append, List.drop_append, hc4, List.take_of_length_le (l := (conCells c).toList) (by rw [hc4]; omega), List.drop_of_length_le (l := (conCells c).toList) (by rw [hc4]; omega), show (i + 1) * 4 - 4 = i * 4 by omega, show (i + 1) * 4 + 4 - 4 = i * 4 + 4 by omega]
            simp
      rw [hcv cs i x (by omega), hl]
      have e1 : (consV cs).take (i * 4) = cur.toList.take (i * 4) := by rw [← h4, List.take_take, Nat.min_eq_left (by omega)]
      have e2 : (consV cs).drop (i * 4 + 4) = (cur.toList.drop (i * 4 + 4)).take (n * 4 - (i * 4 + 4)) := by rw [← h4, List.drop_take]
      rw [e1, e2, List.take_append, List.take_of_length_le (by simp only [List.length_append, List.length_take, Array.length_toList, hl]; omega)]
      congr 2
      simp only [List.length_append, List.length_take, Array.length_toList, hl]; omega
theorem SolveR.ok_rows {n : Nat} {cs : List Con} {rows : List Row} {k err : Int} (h : SolveR n cs rows k err) (hn : n ≤ 2000) (hl : cs.length ≤ 5000) (hR : ∀ c ∈ cs, rightS n c = true) (hC : ¬ Clash cs) : err = 0 ∧ rows.length = n ∧ ∀ (v : Nat) (r : Row), rows[v]? = some r → Desc cs v r := ⟨(h.fine hn hl hR hC).1, (h.fine hn hl hR hC).2.2⟩
/-- Any slice of an element made in the round, appended past the capacity: what is there stays. -/
theorem wp_append_grows {P : Program} (w : World) {o : Oper} {a : Act} {K : Act → World → Prop} {Q : Exit → Act → World → Prop}
    (s x : Operand) (t : TypeId) (hop : o.op = Op.call { callee := Callee.builtin Builtin.append, args := #[s, x], argTypes := #[t, t] })
    (e : TypeId) (i : TypeInfo) (z : Value) (size bytes : Nat) (h1 : P.underlying t = some (.slice e)) (h2 : P.info? e = some i) (h3 : i.zero = some z) (h4 : i.size = size) (h5 : i.bytes = bytes) (h6 : z.cells.size = size) (h7 : 0 < size)
    (b : Addr) (n cap : Nat) (olds : List Value) (hs : a.eval s = .slice (some b) n cap) (hlo : olds.length = n * size) (holds : ∀ j u, olds[j]? = some u → w.cell? (b.add j) = some u)
    (ad : Addr) (m c : Nat) (news : List Value) (hx : a.eval x = .slice (some ad) m c) (hn : news.length = m * size) (hc : ∀ j u, news[j]? = some u → w.cell? (ad.add j) = some u)
    (hfull : cap < n + m) (b1 : n + m ≤ maxLen) (b2 : (n + m) * bytes ≤ 140737488355328)
    (hK : ∀ v' w', w'.ownsRow w.heap.size e size v' (n + m) (olds ++ news) → w.grownBy w' none → K (a.put o.dst v') w') :
    o.wp P a w K Q := by
  obtain ⟨v', w', hrun, r1, r2⟩ := run_append_arg_grows (P := P) w t o.type e i z size bytes h1 h2 h3 h4 h5 h6 h7 b n cap olds hlo holds ad m c news hn hc hfull b1 b2
  unfold Oper.wp
  simp [execOp, hop, resolve, invoke, builtin, hs, hx, hrun, Result.andThen]
  exact hK v' w' r1 r2
/-- The same row, of a lower base. -/
theorem own_base {w : World} {B B' : Nat} {e : TypeId} {s n : Nat} {v : Value} {xs : List Value} (h : w.ownsRow B' e s v n xs) (hb : B ≤ B') : w.ownsRow B e s v n xs :=
  ⟨h.1, h.2.imp id (fun ⟨g, c, cur, e, h1, h2⟩ => ⟨g, c, cur, e, Nat.le_trans hb h1, h2⟩)⟩
theorem below_drewN {B : Nat} {a w : World} (h : Below B a w) (n : Nat) : Below B a (w.drewN n) := ⟨h.os, h.tape, h.output, h.size, h.block⟩
theorem i64_div {z : Int} (h : i64ok z) (m : Int) (hm : 1 ≤ m) : i64ok (z.tdiv m) := by
  unfold i64ok at h ⊢
  have h1 := tdiv_between z m hm
  rcases Int.le_total 0 z with h0 | h0
  · have := h1.1 h0; omega
  · have := h1.2 h0; omega
theorem i64_wrap64 (e : Int) : i64ok (wrap64 e) := by
  unfold i64ok wrap64
  have := Int.emod_nonneg (e + 9223372036854775808) (show (18446744073709551616 : Int) ≠ 0 by omega)
  have := Int.emod_lt_of_pos (e + 9223372036854775808) (show (0 : Int) < 18446744073709551616 by omega)
  omega
end Go.Proofs.YtepmgnhblegiiaaDoor
