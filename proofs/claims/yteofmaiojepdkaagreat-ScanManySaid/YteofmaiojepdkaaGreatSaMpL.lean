/- Maps by the list of their entries, in the order in which these came (nothing is deleted): look-up, store, a cell raised in place, range. No condition beyond what each law states. -/
import Derived.Test.YteofmaiojepdkaaGreatSaKit
import Derived.MapKept
import Derived.Maps.RangeRun
import Derived.Maps.RangeWalk
import Derived.Maps.OwnSet
set_option linter.all false
namespace Go.Proofs.YteofmaiojepdkaaGreat
open Go Go.RowKit
section
variable {κ : Type} [DecidableEq κ]
def yl (enc : κ → Value) : Nat → List (κ × Value) → List MapEntry
  | _, [] => []
  | i, p :: l => ⟨enc p.1, p.2, i⟩ :: yl enc (i + 1) l
/-- A map's block. -/
def zL (enc : κ → Value) (l : List (κ × Value)) : Obj := .map (yl enc 0 l).toArray l.length
def findL (k : κ) : Nat → List (κ × Value) → Option (Nat × Value)
  | _, [] => none
  | i, p :: l => if k = p.1 then some (i, p.2) else findL k (i + 1) l
def z6 (k : κ) : List (κ × Value) → Option Value
  | [] => none
  | p :: l => if k = p.1 then some p.2 else z6 k l
def yu (k : κ) (v : Value) : List (κ × Value) → List (κ × Value)
  | [] => [(k, v)]
  | p :: l => if k = p.1 then (p.1, v) :: l else p :: yu k v l
theorem yS (enc : κ → Value) : ∀ (i : Nat) (l : List (κ × Value)), (yl enc i l).length = l.length
  | _, [] => rfl
  | i, _ :: l => by simp [yl, yS enc (i + 1) l]
theorem yi (enc : κ → Value) : ∀ (i : Nat) (l : List (κ × Value)) (j : Nat), (yl enc i l)[j]? = l[j]?.map fun p => ⟨enc p.1, p.2, i + j⟩
  | _, [], j => by simp [yl]
  | i, p :: l, 0 => by simp [yl]
  | i, p :: l, j + 1 => by simp [yl, yi enc (i + 1) l j, Nat.add_comm, Nat.add_left_comm]
theorem mesF_append (enc : κ → Value) : ∀ (i : Nat) (l m : List (κ × Value)), yl enc i (l ++ m) = yl enc i l ++ yl enc (i + l.length) m
  | _, [], _ => by simp [yl]
  | i, p :: l, m => by simp [yl, mesF_append enc (i + 1) l m, Nat.add_comm, Nat.add_left_comm]
theorem findL_get (k : κ) : ∀ (i : Nat) (l : List (κ × Value)), (findL k i l).map (·.2) = z6 k l
  | _, [] => rfl
  | i, p :: l => by
    unfold findL z6
    split
    · rfl
    · exact findL_get k (i + 1) l
theorem findL_none {k : κ} : ∀ {i : Nat} {l : List (κ × Value)}, findL k i l = none → k ∉ l.map (·.1)
  | _, [], _ => by simp
  | i, p :: l, h => by
    unfold findL at h
    split at h
    · cases h
    · rename_i hne
      have := findL_none h
      simp only [List.map_cons, List.mem_cons, not_or]
      exact ⟨hne, this⟩
theorem findL_some {k : κ} : ∀ {i : Nat} {l : List (κ × Value)} {j : Nat} {v : Value}, findL k i l = some (j, v) → i ≤ j ∧ l[j - i]? = some (k, v) ∧ ∀ v', yu k v' l = l.set (j - i) (k, v')
  | _, [], _, _, h => by cases h
  | i, p :: l, j, v, h => by
    unfold findL at h
    split at h
    · rename_i he
      simp only [Option.some.injEq, Prod.mk.injEq] at h
      obtain ⟨rfl, rfl⟩ := h
      refine ⟨zn _, by simp [he], fun v' => ?_⟩
      unfold yu
      rw [if_pos he, Nat.sub_self, zE, ← he]
    · rename_i hne
      obtain ⟨h1, h2, h3⟩ := findL_some h
      have e : j - i = (j - (i + 1)) + 1 := by omega
      refine ⟨by omega, by rw [e]; simpa using h2, fun v' => ?_⟩
      unfold yu
      rw [if_neg hne, h3 v', e, zF]
theorem putL_new {k : κ} {v : Value} : ∀ {l : List (κ × Value)}, k ∉ l.map (·.1) → yu k v l = l ++ [(k, v)]
  | [], _ => rfl
  | p :: l, h => by
    simp only [List.map_cons, List.mem_cons, not_or] at h
    unfold yu
    rw [if_neg h.1, putL_new h.2]
    rfl
theorem getL_none {k : κ} {l : List (κ × Value)} : z6 k l = none ↔ k ∉ l.map (·.1) := by
  induction l with
  | nil => simp [z6]
  | cons p l ih =>
    unfold z6
    split
    · rename_i he; simp [he]
    · rename_i hne; simp [ih, hne]
theorem getL_mem {k : κ} {v : Value} {l : List (κ × Value)} (h : z6 k l = some v) : (k, v) ∈ l := by
  induction l with
  | nil => cases h
  | cons p l ih =>
    unfold z6 at h
    split at h
    · rename_i he
      injection h with h
      subst he; subst h
      simp
    · simp [ih h]
theorem getL_of_mem {k : κ} {v : Value} : ∀ {l : List (κ × Value)}, (l.map (·.1)).Nodup → (k, v) ∈ l → z6 k l = some v
  | p :: l, hn, h => by
    simp only [List.map_cons, List.nodup_cons] at hn
    unfold z6
    rcases List.mem_cons.1 h with rfl | h'
    · simp
    · rw [if_neg (fun e => hn.1 (by rw [← e]; exact List.mem_map.2 ⟨_, h', rfl⟩))]
      exact getL_of_mem hn.2 h'
theorem getL_put_same (k : κ) (v : Value) (l : List (κ × Value)) : z6 k (yu k v l) = some v := by
  induction l with
  | nil => simp [yu, z6]
  | cons p l ih =>
    unfold yu
    split
    · rename_i he; simp [z6, he]
    · rename_i hne; simp [z6, hne, ih]
theorem getL_put_ne {k j : κ} (h : j ≠ k) (v : Value) (l : List (κ × Value)) : z6 j (yu k v l) = z6 j l := by
  induction l with
  | nil => simp [yu, z6, h]
  | cons p l ih =>
    unfold yu
    split
    · rename_i he; simp only [z6, if_neg (show ¬ j = p.1 from fun e => h (e.trans he.symm))]
    · simp only [z6, ih]
theorem keys_put (k : κ) (v : Value) (l : List (κ × Value)) : (yu k v l).map (·.1) = if k ∈ l.map (·.1) then l.map (·.1) else l.map (·.1) ++ [k] := by
  induction l with
  | nil => simp [yu]
  | cons p l ih =>
    unfold yu
    by_cases he : k = p.1
    · simp [he]
    · rw [if_neg he]
      simp only [List.map_cons, ih, List.mem_cons, he, false_or]
      split <;> simp
theorem nodup_put {k : κ} {v : Value} {l : List (κ × Value)} (h : (l.map (·.1)).Nodup) : ((yu k v l).map (·.1)).Nodup := by
  rw [keys_put]
  split
  · exact h
  · rename_i hn
    exact List.nodup_append.2 ⟨h, by simp, fun a ha b hb => by
      simp only [List.mem_singleton] at hb
      rintro rfl
      subst hb
      exact hn ha⟩
/-- What is asked of a key's type. -/
structure KeyOk (P : Program) (K : TypeId) (enc : κ → Value) : Prop where
  und : ∃ d, P.underlying K = some d ∧ ∀ a b, Instr.sameNow d (enc a) (enc b) = none ∨ Instr.sameNow d (enc a) (enc b) = some (decide (a = b))
  eql : ∀ a b w, (Op.equal K (enc a) (enc b)).run P w = .ok (decide (a = b)) w
  chk : ∀ e a w, (Instr.checkKey e 10000 K (enc a)).run P w = .ok () w
  bits : ∀ a, Instr.sameBits 10000 (enc a) (enc a) = true
variable {P : Program} {K : TypeId} {enc : κ → Value}
theorem findNow_or {d : TypeDesc} (hd : ∀ a b, Instr.sameNow d (enc a) (enc b) = none ∨ Instr.sameNow d (enc a) (enc b) = some (decide (a = b))) (k : κ) : ∀ (l : List (κ × Value)) (j i : Nat), Instr.findNow d (enc k) (yl enc j l) i = none ∨ Instr.findNow d (enc k) (yl enc j l) i = some (findL k i l)
  | [], _, _ => .inr rfl
  | p :: l, j, i => by
    unfold yl Instr.findNow findL
    rcases hd k p.1 with h | h
    · exact .inl (by simp only [h])
    · by_cases he : k = p.1
      · rw [decide_eq_true he] at h
        refine .inr ?_
        rw [if_pos he]
        simp only [h]
      · rw [decide_eq_false he] at h
        rw [if_neg he]
        simp only [h]
        exact findNow_or hd k l (j + 1) (i + 1)
theorem run_findAsking (hk : KeyOk P K enc) (k : κ) (w : World) : ∀ (l : List (κ × Value)) (j i : Nat), (Instr.findAsking K (enc k) (yl enc j l) i).run P w = .ok (findL k i l) w
  | [], _, _ => by simp [yl, Instr.findAsking, findL]
  | p :: l, j, i => by
    unfold yl Instr.findAsking findL
    simp only [Sem.run_bind, hk.eql, Result.andThen_ok]
    by_cases he : k = p.1
    · simp [he]
    · simp only [he, decide_false, if_false, Bool.false_eq_true]
      exact run_findAsking hk k w l (j + 1) (i + 1)
theorem run_findL (hk : KeyOk P K enc) (k : κ) (l : List (κ × Value)) (w : World) : (Instr.findKey K (enc k) (yl enc 0 l)).run P w = .ok (findL k 0 l) w := by
  obtain ⟨d, hd, hn⟩ := hk.und
  unfold Instr.findKey
  simp only [Sem.run_bind, run_underlying hd, Result.andThen_ok]
  rcases findNow_or hn k l 0 0 with h | h
  · simp only [h]
    exact run_findAsking hk k w l 0 0
  · simp only [h, Sem.run_pure]
section
variable {w : World} {g : Nat} {l : List (κ × Value)} {t e : TypeId} (hk : KeyOk P K enc) (ht : P.underlying t = some (.map K e)) (hg : w.heap[g]? = some (zL enc l))
include hk ht hg
/-- 'm[k]', with or without 'ok'. -/
theorem run_lookupL (k : κ) {z : Value} (hz : (zeroValue e).run P w = .ok z w) (ok : Bool) : (Instr.lookup t (.map (some g)) (enc k) ok).run P w = .ok (if ok then .tuple #[(z6 k l).getD z, .bool (z6 k l).isSome] else (z6 k l).getD z) w := by
  unfold Instr.lookup
  simp only [Sem.run_bind, run_underlying ht, Result.andThen_ok, MapKept.run_getObj_map (P := P) hg, hk.chk, run_findL hk, Sem.run_pure]
  rw [← findL_get k 0 l]
  cases h : findL k 0 l with
  | none => simp only [Sem.run_bind, hz, Result.andThen_ok, Sem.run_pure]; rfl
  | some p => simp only [Sem.run_pure, Result.andThen_ok]; rfl
/-- 'm[k] = v'. -/
theorem run_updateL (k : κ) (v : Value) : (Instr.mapUpdate t (.map (some g)) (enc k) v).run P w = .ok () { w with heap := w.heap.setIfInBounds g (zL enc (yu k v l)) } := by
  unfold Instr.mapUpdate
  simp only [Sem.run_bind, run_underlying ht, Result.andThen_ok, MapKept.run_getObj_map (P := P) hg, hk.chk, run_findL hk]
  cases h : findL k 0 l with
  | none =>
    rw [putL_new (findL_none h)]
    have e1 : zL enc (l ++ [(k, v)]) = .map ((yl enc 0 l).toArray.push ⟨enc k, v, l.length⟩) (l.length + 1) := by
      unfold zL
      rw [mesF_append]
      simp [yl]
    rw [e1]
    simp only [MapKept.run_setObj_map _ hg]
  | some p =>
    obtain ⟨j, u⟩ := p
    obtain ⟨-, h2, h3⟩ := findL_some h
    have hj : (yl enc 0 l).toArray[j]? = some ⟨enc k, u, j⟩ := by
      rw [List.getElem?_toArray, yi]
      rw [Nat.sub_zero] at h2
      simp [h2]
    have hb : (Instr.keyThatStays (enc k) (enc k)).run P w = .ok (enc k) w := by simp [Instr.keyThatStays, hk.bits]
    have e1 : zL enc (yu k v l) = .map ((yl enc 0 l).toArray.modify j fun e => { e with key := enc k, val := v }) l.length := by
      unfold zL
      rw [h3 v, Nat.sub_zero]
      simp only [List.length_set]
      congr 1
      apply Array.ext_getElem?
      intro i
      rw [List.getElem?_toArray, yi, Array.getElem?_modify, List.getElem?_toArray, yi, List.getElem?_set]
      by_cases hij : j = i
      · subst hij
        have hlt : j < l.length := by
          rw [Nat.sub_zero] at h2
          exact (List.getElem?_eq_some_iff.1 h2).1
        rw [Nat.sub_zero] at h2
        simp [hlt]
      · simp [hij]
    rw [e1]
    simp only [hj, Option.map_some, Option.getD_some, hb, Sem.run_bind, Result.andThen_ok, MapKept.run_setObj_map _ hg]
end
/-! ### At the operation -/
theorem grown_setH {w : World} {g : Nat} (o : Obj) : w.grownBy { w with heap := w.heap.setIfInBounds g o } (some g) :=
  ⟨rfl, rfl, rfl, by simp, fun j _ hj => by simp [show g ≠ j from fun e => hj (by rw [e])]⟩
theorem same_setH {w : World} {g : Nat} {o' : Obj} (o : Obj) (h : w.heap[g]? = some o') : ({ w with heap := w.heap.setIfInBounds g o } : World).heap[g]? = some o := by
  have := (Array.getElem?_eq_some_iff.1 h).1
  simp [this]
section
variable {w : World} {g : Nat} {l : List (κ × Value)} {t e : TypeId} {ops : Array Oper} {rest : List Oper} {o : Oper} {a : Act} {Q : Exit → Act → World → Prop} (hk : KeyOk P K enc) (ht : P.underlying t = some (.map K e)) (hg : w.heap[g]? = some (zL enc l))
include hk ht hg
theorem exec_lookupL (m x : Operand) (ok : Bool) (hop : o.op = Op.lookup t m x ok) (hm : a.eval m = .map (some g)) (k : κ) (hx : a.eval x = enc k) {z : Value} (hz : (zeroValue e).run P w = .ok z w) :
    (execOp a.eval o).run P w = .ok (.value (if ok then .tuple #[(z6 k l).getD z, .bool (z6 k l).isSome] else (z6 k l).getD z)) w := by
  unfold execOp
  simp [hop, hm, hx, run_lookupL hk ht hg k hz ok, Result.andThen]
/-- 'v := m[k]'. -/
theorem zT (hgd : o.guard = none) (m x : Operand) (hop : o.op = Op.lookup t m x false) (hm : a.eval m = .map (some g)) (k : κ) (hx : a.eval x = enc k) {z : Value} (hz : (zeroValue e).run P w = .ok z w)
    (hK : wpList P ops Q rest (a.put o.dst ((z6 k l).getD z)) w) : wpList P ops Q (o :: rest) a w :=
  wpList_val (by simp [Region.wanted, hgd]) (exec_lookupL hk ht hg m x false hop hm k hx hz) hK
/-- 'm[k] = v'. -/
theorem zI (hgd : o.guard = none) (m x y : Operand) (hop : o.op = Op.mapUpdate t m x y) (hm : a.eval m = .map (some g)) (k : κ) (hx : a.eval x = enc k) (v : Value) (hy : a.eval y = v)
    (hK : ∀ w', w'.heap[g]? = some (zL enc (yu k v l)) → w.grownBy w' (some g) → w'.heap.size = w.heap.size → wpList P ops Q rest (a.put o.dst undef) w') : wpList P ops Q (o :: rest) a w := by
  refine wpList_plain hgd fun K' hK' => ?_
  unfold Oper.wp execOp
  simp [hop, hm, hx, hy, run_updateL hk ht hg k v, Result.andThen]
  exact hK' _ _ (hK _ (same_setH _ hg) (grown_setH _) (by simp))
end
/-! ### A range: each entry once, in whatever order -/
/-- The iterator's block: of the map in block g, with n entries; those that have come. -/
def yU (g n : Nat) (seen : List Nat) : Obj := .mapIter (some g) n seen.toArray n
theorem born_lt {l : List (κ × Value)} : ∀ x ∈ (yl enc 0 l).toArray.toList, x.born < l.length := fun x hx => by
  obtain ⟨j, hj⟩ := List.mem_iff_getElem?.1 hx
  rw [yi] at hj
  cases hl : l[j]? with
  | none => rw [hl] at hj; cases hj
  | some p =>
    rw [hl] at hj
    simp only [Option.map_some, Option.some.injEq] at hj
    subst hj
    have := (List.getElem?_eq_some_iff.1 hl).1
    simpa using this
theorem left_mem {l : List (κ × Value)} {seen : List Nat} {x : MapEntry} : x ∈ (leftOf (yl enc 0 l).toArray seen.toArray).toList ↔ ∃ j p, l[j]? = some p ∧ j ∉ seen ∧ x = ⟨enc p.1, p.2, j⟩ := by
  unfold leftOf
  rw [Array.toList_filter, List.mem_filter]
  constructor
  · rintro ⟨h1, h2⟩
    obtain ⟨j, hj⟩ := List.mem_iff_getElem?.1 h1
    rw [yi] at hj
    cases hl : l[j]? with
    | none => rw [hl] at hj; cases hj
    | some p =>
      rw [hl] at hj
      simp only [Option.map_some, Option.some.injEq, Nat.zero_add] at hj
      subst hj
      exact ⟨j, p, hl, by simpa using h2, rfl⟩
  · rintro ⟨j, p, hl, hn, rfl⟩
    refine ⟨List.mem_iff_getElem?.2 ⟨j, ?_⟩, by simpa using hn⟩
    rw [yi, hl]
    simp
/-- 'range m'. -/
theorem run_rangeL {w : World} {g : Nat} {l : List (κ × Value)} {t e : TypeId} (ht : P.underlying t = some (.map K e)) (hg : w.heap[g]? = some (zL enc l)) :
    (Instr.range t (.map (some g))).run P w = .ok (.pointer (some ⟨w.heap.size, 0, none⟩)) (w.alloc (yU g l.length [])) := by
  unfold Instr.range
  simp only [Sem.run_bind, run_underlying ht, Result.andThen_ok, MapKept.run_getObj_map (P := P) hg, Sem.run_pure]
  rfl
/-- The step. -/
theorem run_nextL {w : World} {g r : Nat} {l : List (κ × Value)} {seen : List Nat} (ty : TypeId) (hr : w.heap[r]? = some (yU g l.length seen)) (hg : w.heap[g]? = some (zL enc l)) :
    ((∀ j, j < l.length → j ∈ seen) ∧ (Instr.next (.pointer (some ⟨r, 0, none⟩)) false ty).run P w = .ok (.tuple #[.bool false]) w) ∨
    ∃ j p w', l[j]? = some p ∧ j ∉ seen ∧ (Instr.next (.pointer (some ⟨r, 0, none⟩)) false ty).run P w = .ok (.tuple #[.bool true, enc p.1, p.2]) w' ∧ w'.heap[r]? = some (yU g l.length (seen ++ [j])) ∧ w.grownBy w' (some r) ∧ w'.heap.size = w.heap.size := by
  rcases run_next_at (P := P) w ty r g l.length l.length seen.toArray (yl enc 0 l).toArray l.length hr hg born_lt (zn _) with ⟨h0, h1⟩ | ⟨e, he, w1, hw1, hrun⟩
  · refine .inl ⟨fun j hj => Classical.byContradiction fun hn => ?_, h1⟩
    have : (⟨enc (l[j]).1, (l[j]).2, j⟩ : MapEntry) ∈ (leftOf (yl enc 0 l).toArray seen.toArray).toList := left_mem.2 ⟨j, l[j], by simp, hn, rfl⟩
    rw [Array.eq_empty_of_size_eq_zero h0] at this
    simp at this
  · obtain ⟨j, p, hl, hn, rfl⟩ := left_mem.1 he
    have hh : w1.heap = w.heap := by rcases hw1 with rfl | rfl <;> rfl
    have h1 : w1.os = w.os ∧ w1.tape = w.tape ∧ w1.output = w.output := by rcases hw1 with rfl | rfl <;> exact ⟨rfl, rfl, rfl⟩
    have hlt := (Array.getElem?_eq_some_iff.1 hr).1
    refine .inr ⟨j, p, _, hl, hn, hrun, ?_, ⟨h1.1, h1.2.1, h1.2.2, ?_, fun k _ hk => ?_⟩, ?_⟩
    · simp [Go.ChangeMaps.setBlock, hh, hlt, yU]
    · simp [Go.ChangeMaps.setBlock, hh]
    · simp [Go.ChangeMaps.setBlock, hh, show r ≠ k from fun e => hk (by rw [e])]
    · simp [Go.ChangeMaps.setBlock, hh]
theorem born_nodup (l : List (κ × Value)) : ∀ i, ((yl enc i l).map (·.born)) = List.range' i l.length := by
  induction l with
  | nil => intro i; rfl
  | cons p l ih => intro i; simp [yl, ih (i + 1), List.range'_succ]
/-- The round's key and element, read behind the step. -/
theorem run_entryL {w : World} {g r : Nat} {l : List (κ × Value)} {seen : List Nat} {j : Nat} {p : κ × Value} (hr : w.heap[r]? = some (yU g l.length (seen ++ [j]))) (hg : w.heap[g]? = some (zL enc l)) (hl : l[j]? = some p) :
    (Instr.entry (.pointer (some ⟨r, 0, none⟩))).run P w = .ok (.tuple #[enc p.1, p.2]) w := by
  refine run_entry_at w r g l.length seen.toArray (yl enc 0 l).toArray l.length ⟨enc p.1, p.2, j⟩ (by rw [hr]; simp [yU]) hg ?_ ?_
  · refine List.mem_iff_getElem?.2 ⟨j, ?_⟩
    rw [yi, hl]
    simp
  · show ((yl enc 0 l).map (·.born)).Nodup
    rw [born_nodup]
    exact List.nodup_range' (step := 1) (by decide)
section
variable {w : World} {g r : Nat} {l : List (κ × Value)} {seen : List Nat} {t e : TypeId} {ops : Array Oper} {rest : List Oper} {o : Oper} {a : Act} {Q : Exit → Act → World → Prop}
theorem wpList_rangeL (hgd : o.guard = none) (m : Operand) (hop : o.op = Op.range t m) (ht : P.underlying t = some (.map K e)) (hm : a.eval m = .map (some g)) (hg : w.heap[g]? = some (zL enc l))
    (hK : wpList P ops Q rest (a.put o.dst (.pointer (some ⟨w.heap.size, 0, none⟩))) (w.alloc (yU g l.length []))) : wpList P ops Q (o :: rest) a w := by
  refine wpList_plain hgd fun K' hK' => ?_
  unfold Oper.wp execOp
  simp [hop, hm, run_rangeL ht hg, Result.andThen]
  exact hK' _ _ hK
theorem wpList_nextL (hgd : o.guard = none) (it : Operand) (hop : o.op = Op.next it false) (hit : a.eval it = .pointer (some ⟨r, 0, none⟩)) (hr : w.heap[r]? = some (yU g l.length seen)) (hg : w.heap[g]? = some (zL enc l))
    (hDone : (∀ j, j < l.length → j ∈ seen) → wpList P ops Q rest (a.put o.dst (.tuple #[.bool false])) w)
    (hMore : ∀ j p w', l[j]? = some p → j ∉ seen → w'.heap[r]? = some (yU g l.length (seen ++ [j])) → w.grownBy w' (some r) → w'.heap.size = w.heap.size → wpList P ops Q rest (a.put o.dst (.tuple #[.bool true, enc p.1, p.2])) w') : wpList P ops Q (o :: rest) a w := by
  refine wpList_plain hgd fun K' hK' => ?_
  unfold Oper.wp execOp
  rcases run_nextL (P := P) o.type hr hg with ⟨h0, hrun⟩ | ⟨j, p, w', hl, hn, hrun, h1, h2, h3⟩
  · simp [hop, hit, hrun, Result.andThen]
    exact hK' _ _ (hDone h0)
  · simp [hop, hit, hrun, Result.andThen]
    exact hK' _ _ (hMore j p w' hl hn h1 h2 h3)
end
/-- When all have come: each once. -/
theorem seen_perm {n : Nat} {seen : List Nat} (hn : seen.Nodup) (hl : ∀ j ∈ seen, j < n) (hall : ∀ j, j < n → j ∈ seen) : seen.Perm (List.range n) :=
  (List.perm_ext_iff_of_nodup hn List.nodup_range).2 fun j => by rw [List.mem_range]; exact ⟨hl j, hall j⟩
end
end Go.Proofs.YteofmaiojepdkaaGreat
