/- 'm[k]++' over a map that lies in memory as its entries in order: the entry, and the store into it. No condition. -/
import Derived.Test.YteofmaiojepdkaaGreatSaMpL
set_option linter.all false
namespace Go.Proofs.YteofmaiojepdkaaGreat
open Go Go.RowKit Go.Maps
section
variable {κ : Type} [DecidableEq κ] {P : Program} {K : TypeId} {enc : κ → Value}
theorem findL_in {k : κ} {l : List (κ × Value)} {j : Nat} {v : Value} (h : findL k 0 l = some (j, v)) : l[j]? = some (k, v) ∧ ∀ v', yu k v' l = l.set j (k, v') := by
  obtain ⟨-, h2, h3⟩ := findL_some h
  rw [Nat.sub_zero] at h2 h3
  exact ⟨h2, h3⟩
theorem mes_modify_key {l : List (κ × Value)} {j : Nat} {k : κ} {u : Value} (h : l[j]? = some (k, u)) : ((yl enc 0 l).toArray.modify j fun e => { e with key := enc k }) = (yl enc 0 l).toArray := by
  apply Array.ext_getElem?
  intro i
  rw [Array.getElem?_modify, List.getElem?_toArray, yi]
  by_cases hij : j = i
  · subst hij
    rw [h]
    simp
  · simp [hij]
theorem mes_modify_val {l : List (κ × Value)} {j : Nat} {k : κ} {u : Value} (v : Value) (h : l[j]? = some (k, u)) : ((yl enc 0 l).toArray.modify j fun e => { e with val := v }) = (yl enc 0 (l.set j (k, v))).toArray := by
  apply Array.ext_getElem?
  intro i
  rw [Array.getElem?_modify, List.getElem?_toArray, List.getElem?_toArray, yi, yi, List.getElem?_set]
  have hlt := (List.getElem?_eq_some_iff.1 h).1
  by_cases hij : j = i
  · subst hij
    rw [if_pos rfl, if_pos rfl, if_pos hlt, h]
    rfl
  · simp [hij]
theorem set_self {w : World} {g : Nat} {o : Obj} (h : w.heap[g]? = some o) : ({ w with heap := w.heap.setIfInBounds g o } : World) = w := by
  have e : w.heap.setIfInBounds g o = w.heap := by
    apply Array.ext_getElem?
    intro i
    rw [Array.getElem?_setIfInBounds]
    by_cases hi : g = i
    · subst hi
      obtain ⟨hlt, he⟩ := Array.getElem?_eq_some_iff.1 h
      simp [hlt, he]
    · simp [hi]
  rw [e]
/-- The entry of a key: there, or made with the zero value. -/
theorem run_mapEntryL {w : World} {g : Nat} {l : List (κ × Value)} {t e : TypeId} (hk : KeyOk P K enc) (ht : P.underlying t = some (.map K e)) (hg : w.heap[g]? = some (zL enc l)) (k : κ) {z : Value} (hz : (zeroValue e).run P w = .ok z w) :
    ∃ (j : Nat) (l1 : List (κ × Value)) (w1 : World), (Instr.mapEntry t (.map (some g)) (enc k)).run P w = .ok (.tuple #[(z6 k l).getD z, .int .i64 j]) w1 ∧ w1.heap[g]? = some (zL enc l1) ∧ w.grownBy w1 (some g) ∧ w1.heap.size = w.heap.size ∧ (∃ u, l1[j]? = some (k, u)) ∧ (∀ v, l1.set j (k, v) = yu k v l) ∧ (z6 k l1).getD z = (z6 k l).getD z := by
  have hb : ∀ W, (Instr.keyThatStays (enc k) (enc k)).run P W = .ok (enc k) W := fun W => by simp [Instr.keyThatStays, hk.bits]
  cases h : findL k 0 l with
  | none =>
    have hn := findL_none h
    have e1 : zL enc (l ++ [(k, z)]) = .map ((yl enc 0 l).toArray.push ⟨enc k, z, l.length⟩) (l.length + 1) := by
      unfold zL
      rw [mesF_append]
      simp [yl]
    refine ⟨l.length, l ++ [(k, z)], { w with heap := w.heap.setIfInBounds g (zL enc (l ++ [(k, z)])) }, ?_, same_setH _ hg, grown_setH _, by simp, ⟨z, by simp⟩, fun v => ?_, ?_⟩
    · unfold Instr.mapEntry
      simp only [Sem.run_bind, run_underlying ht, Result.andThen_ok, MapKept.run_getObj_map (P := P) hg, hk.chk, run_findL hk, h, hz, MapKept.run_setObj_map _ hg, Sem.run_pure, e1]
      rw [getL_none.2 hn]
      rfl
    · rw [putL_new hn, List.set_append_right _ _ (zn _), Nat.sub_self]
      rfl
    · rw [← putL_new hn, getL_put_same, getL_none.2 hn]
      rfl
  | some p =>
    obtain ⟨j, u⟩ := p
    obtain ⟨h2, h3⟩ := findL_in h
    have hj : (yl enc 0 l).toArray[j]? = some ⟨enc k, u, j⟩ := by
      rw [List.getElem?_toArray, yi]
      simp [h2]
    have hgl : z6 k l = some u := by rw [← findL_get k 0 l, h]; rfl
    refine ⟨j, l, w, ?_, hg, ⟨rfl, rfl, rfl, zn _, fun _ _ _ => rfl⟩, rfl, ⟨u, h2⟩, fun v => (h3 v).symm, rfl⟩
    unfold Instr.mapEntry
    simp only [Sem.run_bind, run_underlying ht, Result.andThen_ok, MapKept.run_getObj_map (P := P) hg, hk.chk, run_findL hk, h, hj, Option.map_some, Option.getD_some, hb, MapKept.run_setObj_map _ hg, Sem.run_pure, mes_modify_key h2, hgl]
    rw [show Obj.map (yl enc 0 l).toArray l.length = zL enc l from rfl, set_self hg]
    rfl
theorem run_entryStoreL {w : World} {g : Nat} {l : List (κ × Value)} {t : TypeId} (hg : w.heap[g]? = some (zL enc l)) {j : Nat} {k : κ} {u : Value} (hj : l[j]? = some (k, u)) (v : Value) :
    (Instr.entryStore t (.map (some g)) (.int .i64 j) v).run P w = .ok () { w with heap := w.heap.setIfInBounds g (zL enc (l.set j (k, v))) } := by
  have hf : (yl enc 0 l).toArray.findIdx? (fun e => (e.born : Int) == (j : Int)) = some j := by
    rw [List.findIdx?_toArray]
    have hlt := (List.getElem?_eq_some_iff.1 hj).1
    rw [List.findIdx?_eq_some_iff_getElem]
    refine ⟨by rw [yS]; exact hlt, ?_, fun i hi => ?_⟩
    · have := yi enc 0 l j
      rw [hj, List.getElem?_eq_getElem (by rw [yS]; exact hlt)] at this
      simp only [Option.map_some, Option.some.injEq] at this
      rw [this]
      simp
    · have hli : i < l.length := by omega
      have := yi enc 0 l i
      rw [List.getElem?_eq_getElem hli, List.getElem?_eq_getElem (by rw [yS]; exact hli)] at this
      simp only [Option.map_some, Option.some.injEq] at this
      rw [this]
      simp
      omega
  unfold Instr.entryStore
  have e1 : zL enc (l.set j (k, v)) = .map ((yl enc 0 l).toArray.modify j fun e => { e with val := v }) l.length := by
    unfold zL
    rw [mes_modify_val v hj, List.length_set]
  rw [e1]
  simp only [Sem.run_bind, Sem.run_pure, Result.andThen_ok, MapKept.run_getObj_map (P := P) hg, asInt, asIntOf, hf, MapKept.run_setObj_map _ hg]
section
variable {w : World} {g : Nat} {l : List (κ × Value)} {t e : TypeId} {o : Oper} {a : Act} {K' : Act → World → Prop} {Q : Exit → Act → World → Prop}
theorem wp_mapEntryL (hk : KeyOk P K enc) (ht : P.underlying t = some (.map K e)) (hg : w.heap[g]? = some (zL enc l)) (m x : Operand) (hop : o.op = Op.mapEntry t m x) (hm : a.eval m = .map (some g)) (k : κ) (hx : a.eval x = enc k) {z : Value} (hz : (zeroValue e).run P w = .ok z w)
    (h : ∀ (j : Nat) (l1 : List (κ × Value)) (w1 : World), w1.heap[g]? = some (zL enc l1) → w.grownBy w1 (some g) → w1.heap.size = w.heap.size → (∃ u, l1[j]? = some (k, u)) → (∀ v, l1.set j (k, v) = yu k v l) → (z6 k l1).getD z = (z6 k l).getD z → K' (a.put o.dst (.tuple #[(z6 k l).getD z, .int .i64 j])) w1) : o.wp P a w K' Q := by
  obtain ⟨j, l1, w1, hrun, h1, h2, h3, h4, h5, h6⟩ := run_mapEntryL (P := P) hk ht hg k hz
  unfold Oper.wp execOp
  simp [hop, hm, hx, hrun, Result.andThen]
  exact h j l1 w1 h1 h2 h3 h4 h5 h6
theorem wp_entryStoreL (hg : w.heap[g]? = some (zL enc l)) {j : Nat} {k : κ} {u : Value} (hj : l[j]? = some (k, u)) (m x y : Operand) (hop : o.op = Op.entryStore t m x y) (hm : a.eval m = .map (some g)) (hx : a.eval x = .int .i64 j) (v : Value) (hy : a.eval y = v)
    (h : ∀ w', w'.heap[g]? = some (zL enc (l.set j (k, v))) → w.grownBy w' (some g) → w'.heap.size = w.heap.size → K' (a.put o.dst undef) w') : o.wp P a w K' Q := by
  unfold Oper.wp execOp
  simp [hop, hm, hx, hy, run_entryStoreL hg hj v, Result.andThen]
  exact h _ (same_setH _ hg) (grown_setH _) (by simp)
end
/-- 'len(m)'. -/
theorem wpList_lenL {w : World} {g : Nat} {l : List (κ × Value)} {t e : TypeId} {ops : Array Oper} {rest : List Oper} {o : Oper} {a : Act} {Q : Exit → Act → World → Prop} (ht : P.underlying t = some (.map K e)) (hg : w.heap[g]? = some (zL enc l)) (hgd : o.guard = none) (m : Operand) (hop : o.op = Op.call { callee := Callee.builtin Builtin.len, args := #[m], argTypes := #[t] }) (hm : a.eval m = .map (some g))
    (hK : wpList P ops Q rest (a.put o.dst (.int .i64 l.length)) w) : wpList P ops Q (o :: rest) a w := by
  have hs : (yl enc 0 l).toArray.size = l.length := by simp [yS]
  refine wpList_plain hgd fun K' hK' => ?_
  unfold Oper.wp execOp
  simp [hop, resolve, invoke, builtin, hm, Builtin.len_, run_underlying ht, MapKept.run_getObj_map (P := P) hg, goInt, Result.andThen, yS]
  exact hK' _ _ hK
end
end Go.Proofs.YteofmaiojepdkaaGreat
