/- Rows of an answer as a slice shows them, whoever owns them. No condition. -/
import Derived.Test.YtepmgnhblegiiaaDoorSlvA
import Derived.Maps.AppendAt
set_option linter.all false
namespace Go.Proofs.YtepmgnhblegiiaaDoor
open Go Go.RowKit Go.Maps

/-- Members under a slice. -/
def MemsV (w : World) (fv : Value) (ms : List (Int × Int)) : Prop :=
  ∃ ao cap, fv = .slice ao ms.length cap ∧ (0 < ms.length → ∃ g off c T, ao = some ⟨g, off, none⟩ ∧ w.heap[g]? = some (.cells c T (0, 0)) ∧ ∀ i p, ms[i]? = some p → c[off + i * 2]? = some (.int .i64 p.1) ∧ c[off + (i * 2 + 1)]? = some (.int .i64 p.2))
/-- Rows under a slice. -/
def RowsV (w : World) (v : Value) (rows : List Row) : Prop :=
  ∃ ao cap, v = .slice ao rows.length cap ∧ rows.length ≤ cap ∧ (0 < rows.length → ∃ g off c, ao = some ⟨g, off, none⟩ ∧ w.heap[g]? = some (.cells c 44 (0, 0)) ∧ ∀ i r, rows[i]? = some r → ∃ fv, MemsV w fv r.fields ∧ r.fields.length ≤ 65536 ∧ ∀ j, j < 7 → c[off + i * 7 + j]? = (rowCells r fv)[j]?)
theorem MemsV.below {w w' : World} {fv : Value} {ms : List (Int × Int)} (h : MemsV w fv ms) (hb : Below w.heap.size w w') : MemsV w' fv ms := by
  obtain ⟨ao, cap, e, h⟩ := h
  refine ⟨ao, cap, e, fun h0 => ?_⟩
  obtain ⟨g, off, c, T, e, hg, hc⟩ := h h0
  exact ⟨g, off, c, T, e, below_keep hb hg, hc⟩
theorem RowsV.below {w w' : World} {v : Value} {rows : List Row} (h : RowsV w v rows) (hb : Below w.heap.size w w') : RowsV w' v rows := by
  obtain ⟨ao, cap, e, hcap, h⟩ := h
  refine ⟨ao, cap, e, hcap, fun h0 => ?_⟩
  obtain ⟨g, off, c, e, hg, hc⟩ := h h0
  exact ⟨g, off, c, e, below_keep hb hg, fun i r hr => by
    obtain ⟨fv, h1, h2, h3⟩ := hc i r hr
    exact ⟨fv, h1.below hb, h2, h3⟩⟩
theorem mv_at : ∀ {l : List (Int × Int)} {i : Nat} {p : Int × Int}, l[i]? = some p → (mv l)[i * 2]? = some (.int .i64 p.1) ∧ (mv l)[i * 2 + 1]? = some (.int .i64 p.2)
  | [], i, p, h => by simp at h
  | q :: l, 0, p, h => by
    simp only [List.getElem?_cons_zero, Option.some.injEq] at h
    subst h
    exact ⟨rfl, rfl⟩
  | q :: l, i + 1, p, h => by
    simp only [List.getElem?_cons_succ] at h
    have := mv_at h
    have e : mv (q :: l) = .int .i64 q.1 :: .int .i64 q.2 :: mv l := rfl
    rw [e, show (i + 1) * 2 = i * 2 + 2 by omega, show i * 2 + 2 + 1 = i * 2 + 1 + 2 by omega]
    exact this
theorem own_view_mems {w : World} {B : Nat} {fv : Value} {ms : List (Int × Int)} (h : w.ownsRow B 46 2 fv ms.length (mv ms)) : MemsV w fv ms := by
  rcases h.2 with ⟨rfl, h0⟩ | ⟨g, cap, cur, rfl, -, hg, -, -, -, ht⟩
  · exact ⟨none, 0, by rw [h0], fun h => by omega⟩
  · refine ⟨_, _, rfl, fun h0 => ⟨g, 0, cur, _, rfl, hg, fun i p hp => ?_⟩⟩
    have hi : i < ms.length := by
      rcases Nat.lt_or_ge i ms.length with h | h
      · exact h
      · rw [List.getElem?_eq_none h] at hp; cases hp
    have := mv_at hp
    rw [Nat.zero_add, Nat.zero_add, flat_at ht (by omega), flat_at ht (by omega)]
    exact this
theorem RowsW.view {B : Nat} {val : Value} {rows : List Row} {w : World} (h : RowsW B val rows w) : RowsV w val rows := by
  obtain ⟨l, rfl, h2, h3⟩ := h
  rcases h2.2 with ⟨rfl, h0⟩ | ⟨g, cap, cur, rfl, -, hg, hcap, -, -, ht⟩
  · exact ⟨none, 0, by rw [List.length_map, h0], by rw [List.length_map, h0]; exact Nat.le_refl _, fun h => by rw [List.length_map] at h; omega⟩
  · refine ⟨some ⟨g, 0, none⟩, cap, by rw [List.length_map], by rw [List.length_map]; exact hcap, fun h0 => ⟨g, 0, cur, rfl, hg, fun i r hr => ?_⟩⟩
    rw [List.getElem?_map] at hr
    cases hq : l[i]? with
    | none => rw [hq] at hr; cases hr
    | some p =>
      rw [hq] at hr
      cases hr
      have hp := h3 p (List.mem_of_getElem? hq)
      have hi : i < l.length := by
        rcases Nat.lt_or_ge i l.length with h | h
        · exact h
        · rw [List.getElem?_eq_none h] at hq; cases hq
      refine ⟨p.2, own_view_mems hp.1, hp.2, fun j hj => ?_⟩
      rw [Nat.zero_add, flat_at ht (by omega)]
      exact rowsCells_at hq hj
end Go.Proofs.YtepmgnhblegiiaaDoor

/- Appending what lies under any slice to a row of the call's own; a row of the call's own cut short. No condition beyond what each states. -/
namespace Go.Proofs.YtepmgnhblegiiaaDoor
open Go Go.RowKit Go.Maps

/-- What lies under a slice, nil let in. -/
def SrcW (w : World) (size : Nat) (A : Option Addr) (m : Nat) (news : List Value) : Prop := news.length = m * size ∧ (0 < m → ∃ ad, A = some ad ∧ ∀ j u, news[j]? = some u → w.cell? (ad.add j) = some u)
section
variable {P : Program} (w : World)
theorem run_append_src (base : Nat) (t ty e : TypeId) (i : TypeInfo) (z : Value) (size bytes : Nat) (ht : P.underlying t = some (.slice e)) (hi : P.info? e = some i) (hz : i.zero = some z)
    (hsize : i.size = size) (hby : i.bytes = bytes) (hzs : z.cells.size = size) (hsz : 0 < size) (v : Value) (n : Nat) (xs : List Value) (hown : w.ownsRow base e size v n xs)
    (A : Option Addr) (m c : Nat) (hc0 : A = none → c = 0) (news : List Value) (hr : SrcW w size A m news) (h1 : ∀ u ∈ news, u.oneCell' = true) (h63 : n + m ≤ maxLen) (hbytes : (n + m) * bytes ≤ 140737488355328) (hbase : base ≤ w.heap.size) :
    ∃ v' w', (Builtin.append_ #[t, t] ty #[v, .slice A m c]).run P w = .ok v' w' ∧ w'.ownsRow base e size v' (n + m) (xs ++ news) ∧ w.grownBy w' v.ownBlock ∧ (v'.ownBlock = v.ownBlock ∨ v'.ownBlock = some w.heap.size) := by
  cases A with
  | none =>
    have hm : m = 0 := Nat.eq_zero_of_not_pos fun h0 => by obtain ⟨ad, h, _⟩ := hr.2 h0; cases h
    subst hm
    have hn : news = [] := List.eq_nil_of_length_eq_zero (by simpa using hr.1)
    subst hn
    have h0 := hc0 rfl
    subst h0
    exact ⟨v, w, run_append_owned_none (P := P) (w := w) base t ty e i size ht hi v n xs hown, by simpa using hown, ⟨rfl, rfl, rfl, Nat.le_refl _, fun _ _ _ => rfl⟩, .inl rfl⟩
  | some ad =>
    have hc : ∀ j u, news[j]? = some u → w.cell? (ad.add j) = some u := fun j u hu => by
      have h0 : 0 < m := Nat.pos_of_ne_zero fun h0 => by
        subst h0
        have hn : news = [] := List.eq_nil_of_length_eq_zero (by simpa using hr.1)
        subst hn; simp at hu
      obtain ⟨ad', h, hc⟩ := hr.2 h0
      cases h
      exact hc j u hu
    obtain ⟨v', w', hrun, h2, h3, _, h5⟩ := run_append_own_at (P := P) w base t ty e i z size bytes ht hi hz hsize hby hzs hsz v n xs hown ad m c news hr.1 hc h1 h63 hbytes hbase
    exact ⟨v', w', hrun, h2, h3, h5⟩
theorem wp_append_src {o : Oper} {a : Act} {K : Act → World → Prop} {Q : Exit → Act → World → Prop} (s x : Operand) (t : TypeId)
    (ho : o.op = .call { callee := .builtin .append, args := #[s, x], argTypes := #[t, t] })
    (base : Nat) (e : TypeId) (i : TypeInfo) (z : Value) (size bytes : Nat) (ht : P.underlying t = some (.slice e)) (hi : P.info? e = some i) (hz : i.zero = some z)
    (hsize : i.size = size) (hby : i.bytes = bytes) (hzs : z.cells.size = size) (hsz : 0 < size) (v : Value) (n : Nat) (xs : List Value) (hs : a.eval s = v) (hown : w.ownsRow base e size v n xs)
    (A : Option Addr) (m c : Nat) (hc0 : A = none → c = 0) (news : List Value) (hx : a.eval x = .slice A m c) (hr : SrcW w size A m news) (h1 : ∀ u ∈ news, u.oneCell' = true) (h63 : n + m ≤ maxLen) (hbytes : (n + m) * bytes ≤ 140737488355328) (hbase : base ≤ w.heap.size)
    (h : ∀ v' w', w'.ownsRow base e size v' (n + m) (xs ++ news) → w.grownBy w' v.ownBlock → (v'.ownBlock = v.ownBlock ∨ v'.ownBlock = some w.heap.size) → K (a.put o.dst v') w') : o.wp P a w K Q := by
  obtain ⟨v', w', hrun, h2, h3, h4⟩ := run_append_src (P := P) w base t o.type e i z size bytes ht hi hz hsize hby hzs hsz v n xs hown A m c hc0 news hr h1 h63 hbytes hbase
  unfold Oper.wp execOp
  simp only [ho, resolve, invoke, builtin, Sem.run_bind, Sem.run_pure, Result.andThen_ok, List.map_toArray, List.map_cons, List.map_nil, hs, hx, hrun]
  exact h v' w' h2 h3 h4
theorem wpList_append_src {ops : Array Oper} {rest : List Oper} {o : Oper} {a : Act} {Q : Exit → Act → World → Prop} (hgd : o.guard = none) (s x : Operand) (t : TypeId)
    (ho : o.op = .call { callee := .builtin .append, args := #[s, x], argTypes := #[t, t] })
    (base : Nat) (e : TypeId) (i : TypeInfo) (z : Value) (size bytes : Nat) (ht : P.underlying t = some (.slice e)) (hi : P.info? e = some i) (hz : i.zero = some z)
    (hsize : i.size = size) (hby : i.bytes = bytes) (hzs : z.cells.size = size) (hsz : 0 < size) (v : Value) (n : Nat) (xs : List Value) (hs : a.eval s = v) (hown : w.ownsRow base e size v n xs)
    (A : Option Addr) (m c : Nat) (hc0 : A = none → c = 0) (news : List Value) (hx : a.eval x = .slice A m c) (hr : SrcW w size A m news) (h1 : ∀ u ∈ news, u.oneCell' = true) (h63 : n + m ≤ maxLen) (hbytes : (n + m) * bytes ≤ 140737488355328) (hbase : base ≤ w.heap.size)
    (h : ∀ v' w', w'.ownsRow base e size v' (n + m) (xs ++ news) → w.grownBy w' v.ownBlock → (v'.ownBlock = v.ownBlock ∨ v'.ownBlock = some w.heap.size) → wpList P ops Q rest (a.put o.dst v') w') : wpList P ops Q (o :: rest) a w :=
  wpList_plain hgd fun _ hK => wp_append_src w s x t ho base e i z size bytes ht hi hz hsize hby hzs hsz v n xs hs hown A m c hc0 news hx hr h1 h63 hbytes hbase fun v' w' h2 h3 h4 => hK _ _ (h v' w' h2 h3 h4)
end
section
variable {w : World} {B : Nat} {e : TypeId} {s n cap : Nat} {A : Option Addr} {xs : List Value}
theorem own_tail (h : w.ownsRow B e s (.slice A n cap) n xs) {k : Nat} (hk : k ≤ n) (hn : n ≤ cap) : SrcW w s (if cap = k then A else A.map (·.add (k * s))) (n - k) (xs.drop (k * s)) := by
  refine ⟨by rw [List.length_drop, h.1, Nat.sub_mul], fun h0 => ?_⟩
  rw [if_neg (by omega)]
  rcases h.2 with ⟨he, h1⟩ | ⟨g, c, cur, he, -⟩
  · omega
  · simp only [Value.slice.injEq] at he
    obtain ⟨rfl, -, rfl⟩ := he
    refine ⟨_, rfl, fun j u hu => ?_⟩
    rw [List.getElem?_drop] at hu
    have := h.cells (g := g) rfl _ _ hu
    rw [show (((⟨g, 0, none⟩ : Addr).add (k * s)).add j) = (⟨g, 0, none⟩ : Addr).add (k * s + j) by
      unfold Addr.add
      by_cases hi : k * s = 0 <;> by_cases hj : j = 0 <;> simp [hi, hj]]
    exact this
theorem own_src (h : w.ownsRow B e s (.slice A n cap) n xs) : SrcW w s A n xs := by
  refine ⟨h.1, fun h0 => ?_⟩
  rcases h.2 with ⟨he, h1⟩ | ⟨g, c, cur, he, -⟩
  · omega
  · simp only [Value.slice.injEq] at he
    obtain ⟨rfl, -, rfl⟩ := he
    exact ⟨_, rfl, fun j u hu => h.cells (g := g) rfl _ _ hu⟩
theorem own_form (h : w.ownsRow B e s (.slice A n cap) n xs) : (A = none ∧ cap = 0 ∧ n = 0) ∨ ∃ g, A = some ⟨g, 0, none⟩ ∧ B ≤ g := by
  rcases h.2 with ⟨he, h1⟩ | ⟨g, c, cur, he, h2, -⟩
  · simp only [Value.slice.injEq] at he
    exact .inl ⟨he.1, he.2.2, h1⟩
  · simp only [Value.slice.injEq] at he
    exact .inr ⟨g, he.1, h2⟩
theorem own_cap (h : w.ownsRow B e s (.slice A n cap) n xs) : n ≤ cap ∧ cap ≤ maxLen := by
  rcases h.2 with ⟨he, h1⟩ | ⟨g, c, cur, he, -, -, h2, h3, -⟩
  · simp only [Value.slice.injEq] at he
    obtain ⟨-, rfl, rfl⟩ := he
    exact ⟨Nat.le_refl _, Nat.zero_le _⟩
  · simp only [Value.slice.injEq] at he
    obtain ⟨rfl, -, rfl⟩ := he
    exact ⟨h2, h3⟩
theorem own_cut (h : w.ownsRow B e s (.slice A n cap) n xs) {k : Nat} (hk : k ≤ n) : w.ownsRow B e s (.slice A k cap) k (xs.take (k * s)) := by
  refine ⟨by rw [List.length_take, h.1]; exact Nat.min_eq_left (Nat.mul_le_mul_right _ hk), ?_⟩
  rcases h.2 with ⟨he, h1⟩ | ⟨g, c, cur, he, h2, h3, h4, h5, h6, h7⟩
  · simp only [Value.slice.injEq] at he
    obtain ⟨rfl, -, rfl⟩ := he
    have : k = 0 := by omega
    subst this
    exact .inl ⟨rfl, rfl⟩
  · simp only [Value.slice.injEq] at he
    obtain ⟨rfl, -, rfl⟩ := he
    refine .inr ⟨g, cap, cur, rfl, h2, h3, by omega, h5, h6, ?_⟩
    rw [← h7, List.take_take, Nat.min_eq_left (Nat.mul_le_mul_right _ hk)]
end
theorem SrcW.same {w w' : World} {s : Nat} {A : Option Addr} {m : Nat} {xs : List Value} (h : SrcW w s A m xs) (hc : ∀ ad j u, A = some ad → w.cell? (ad.add j) = some u → w'.cell? (ad.add j) = some u) : SrcW w' s A m xs :=
  ⟨h.1, fun h0 => by obtain ⟨ad, e, h1⟩ := h.2 h0; exact ⟨ad, e, fun j u hu => hc ad j u e (h1 j u hu)⟩⟩
theorem SrcW.turn {w w' : World} {bs : Nat → Prop} {s : Nat} {A : Option Addr} {m : Nat} {xs : List Value} (h : SrcW w s A m xs) (t : Turn bs w w') (hb : ∀ ad, A = some ad → ¬ bs ad.block) : SrcW w' s A m xs :=
  h.same fun ad j u e hc => by
    have hblk : (ad.add j).block = ad.block := by unfold Addr.add; split <;> rfl
    have hlt : (ad.add j).block < w.heap.size := World.block_lt_of_cell? w _ hc
    exact (World.cell?_of_block (t.block _ hlt (by rw [hblk]; exact hb ad e))).trans hc
theorem own_blk {A : Option Addr} {n m c d : Nat} : (Value.slice A n c).ownBlock = (Value.slice A m d).ownBlock := by cases A <;> rfl
theorem own_empty (w : World) (B : Nat) (T : TypeId) (s : Nat) (hB : B ≤ w.heap.size) : (w.alloc (.cells #[] T)).ownsRow B T s (.slice (some ⟨w.heap.size, 0, none⟩) 0 0) 0 [] :=
  World.ownsRow_lit w #[] 0 hB (by decide) (by simp)
/-- An operation whose value is not known ahead, and that turns what other facts speak of. -/
theorem StaysE.isVT {ex : List Nat} {w w' : World} {k : Nat} {bs : Nat → Prop} {Q : Value → World → Prop} {l : List Fct} (t : Turn bs w w') (h : StaysE ex w w' (k + 1) l) : StaysE ex w w' k (isVT bs Q :: l) := ⟨.inr fun vs h => by
  match vs, h with
  | [v], ⟨w0, h1, h2⟩ => exact ⟨w0, h1, h2.trans t (fun _ _ h => h)⟩, h⟩
theorem After.litD {al : List Nat} {n : Nat} {l : List Fct} {rd drops : List (List Nat)} {S : World → Prop} {i : Nat} {f : Nat → Value} {w w' : World} {v : Value} {bs : Nat → Prop} {Q : Value → World → Prop} {dr : List Nat} (hi : l[i]? = some (isVT bs Q)) (hr : rd[i]? = some [i]) (hd : drops[i]? = some dr) (hal : al.contains i = false) (hsz : w.heap.size ≤ w'.heap.size) (hS : S w') (hst : StaysE (i :: dr) w w' 0 l) (hp : Q v w') : After al n (factOf l) (nth rd) (nth drops) S i f w v w' := by
  refine ⟨?_, .inr ⟨hsz, hS, fun j _ hne hjd h => hst.of j _ (fun hm => by
    rw [Nat.zero_add] at hm
    rcases List.mem_cons.1 hm with e | e
    · exact hne e
    · exact hjd (by simpa [nth, hd] using e)) h⟩, fun e => by rw [hal] at e; cases e⟩
  simp only [factOf, hi, nth, hr, List.map_cons, List.map_nil, upd_same]
  exact ⟨w', hp, Turn.refl _ _⟩
theorem mv_take (l : List (Int × Int)) (k : Nat) : (mv l).take (k * 2) = mv (l.take k) := by
  induction l generalizing k with
  | nil => simp [mv]
  | cons p l ih =>
    cases k with
    | zero => simp [mv]
    | succ k =>
      show (([.int .i64 p.1, .int .i64 p.2] : List Value) ++ mv l).take ((k + 1) * 2) = ([.int .i64 p.1, .int .i64 p.2] : List Value) ++ mv (l.take k)
      rw [show (k + 1) * 2 = k * 2 + 2 by omega, ← ih k]; rfl
theorem mv_drop (l : List (Int × Int)) (k : Nat) : (mv l).drop (k * 2) = mv (l.drop k) := by
  induction l generalizing k with
  | nil => simp [mv]
  | cons p l ih =>
    cases k with
    | zero => simp [mv]
    | succ k =>
      show (([.int .i64 p.1, .int .i64 p.2] : List Value) ++ mv l).drop ((k + 1) * 2) = mv (l.drop k)
      rw [show (k + 1) * 2 = k * 2 + 2 by omega, ← ih k]; rfl
theorem mv_append (l m : List (Int × Int)) : mv (l ++ m) = mv l ++ mv m := by simp [mv]
theorem mv_one (l : List (Int × Int)) : ∀ u ∈ mv l, u.oneCell' = true := fun u hu => by
  obtain ⟨p, -, hp⟩ := List.mem_flatMap.1 hu
  simp only [List.mem_cons, List.not_mem_nil, or_false] at hp
  rcases hp with rfl | rfl <;> rfl
theorem own_ptr {w : World} {B : Nat} {e : TypeId} {s n cap : Nat} {A : Option Addr} {xs : List Value} (h : w.ownsRow B e s (.slice A n cap) n xs) (hn : 0 < n) : ∃ g cur, A = some ⟨g, 0, none⟩ ∧ B ≤ g ∧ w.heap[g]? = some (.cells cur e (0, 0)) ∧ ∀ j, j < n * s → cur[j]? = xs[j]? := by
  obtain ⟨g, rfl, hB, cur, hg, ht⟩ := own_some h hn
  exact ⟨g, cur, rfl, hB, hg, fun j hj => flat_at' ht hj⟩
theorem ext_at {c : Array Value} {o : Nat} {L : List Value} (h : ∀ j, j < L.length → c[o + j]? = L[j]?) : (c.extract o (o + L.length)).toList = L := by
  apply List.ext_getElem?
  intro j
  rw [Array.getElem?_toList, Array.getElem?_extract]
  by_cases hj : j < L.length
  · have h1 := h j hj
    rw [List.getElem?_eq_getElem hj] at h1
    have h2 := (Array.getElem?_eq_some_iff.1 h1).1
    rw [if_pos (by omega), h1, List.getElem?_eq_getElem hj]
  · rw [if_neg (by omega), List.getElem?_eq_none (by omega)]
end Go.Proofs.YtepmgnhblegiiaaDoor
