/- Chapter 05 in plain Lean: the entries are places; how many a routine calls. No condition. -/
import Derived.Test.YteofmaiojepdkaaGreatTbSkN
set_option linter.all false
namespace Go.Proofs.YteofmaiojepdkaaGreat
open Go Go.RowKit Go.Maps
section
variable {κ : Type} [DecidableEq κ] {P : Program} {K : TypeId} {enc : κ → Value}
theorem findL_in {k : κ} {l : List (κ × Value)} {j : Nat} {v : Value} (h : findL k 0 l = some (j, v)) : l[j]? = some (k, v) ∧ ∀ v', xG k v' l = l.set j (k, v') := by
 obtain ⟨-, h2, h3⟩ := findL_some h
 rw [Nat.sub_zero] at h2 h3
 exact ⟨h2, h3⟩
theorem mes_modify_key {l : List (κ × Value)} {j : Nat} {k : κ} {u : Value} (h : l[j]? = some (k, u)) : ((xr enc 0 l).toArray.modify j fun e => { e with key := enc k }) = (xr enc 0 l).toArray := by
 apply Array.ext_getElem?
 intro i
 rw [Array.getElem?_modify, List.getElem?_toArray, xl]
 by_cases hij : j = i
 ·subst hij
  rw [h]
  simp
 ·simp [hij]
theorem mes_modify_val {l : List (κ × Value)} {j : Nat} {k : κ} {u : Value} (v : Value) (h : l[j]? = some (k, u)) : ((xr enc 0 l).toArray.modify j fun e => { e with val := v }) = (xr enc 0 (l.set j (k, v))).toArray := by
 apply Array.ext_getElem?
 intro i
 rw [Array.getElem?_modify, List.getElem?_toArray, List.getElem?_toArray, xl, xl, List.getElem?_set]
 have hlt := (List.getElem?_eq_some_iff.1 h).1
 by_cases hij : j = i
 ·subst hij
  rw [if_pos rfl, if_pos rfl, if_pos hlt, h]
  rfl
 ·simp [hij]
theorem set_self {w : World} {g : Nat} {o : Obj} (h : w.heap[g]? = some o) : ({ w with heap := w.heap.setIfInBounds g o } : World) = w := by
 have e : w.heap.setIfInBounds g o = w.heap := by
  apply Array.ext_getElem?
  intro i
  rw [Array.getElem?_setIfInBounds]
  by_cases hi : g = i
  ·subst hi
   obtain ⟨hlt, he⟩ := Array.getElem?_eq_some_iff.1 h
   simp [hlt, he]
  ·simp [hi]
 rw [e]
theorem run_mapEntryL {w : World} {g : Nat} {l : List (κ × Value)} {t e : TypeId} (hk : KeyOk P K enc) (ht : P.underlying t = some (.map K e)) (hg : w.heap[g]? = some (yc enc l)) (k : κ) {z : Value} (hz : (zeroValue e).run P w = .ok z w) :
  ∃ (j : Nat) (l1 : List (κ × Value)) (w1 : World), (Instr.mapEntry t (.map (some g)) (enc k)).run P w = .ok (.tuple #[(yT k l).getD z, .int .i64 j]) w1 ∧ w1.heap[g]? = some (yc enc l1) ∧ w.grownBy w1 (some g) ∧ w1.heap.size = w.heap.size ∧ (∃ u, l1[j]? = some (k, u)) ∧ (∀ v, l1.set j (k, v) = xG k v l) ∧ (yT k l1).getD z = (yT k l).getD z := by
 have hb : ∀ W, (Instr.keyThatStays (enc k) (enc k)).run P W = .ok (enc k) W := fun W => by simp [Instr.keyThatStays, hk.bits]
 cases h : findL k 0 l with
 | none =>
  have hn := findL_none h
  have e1 : yc enc (l ++ [(k, z)]) = .map ((xr enc 0 l).toArray.push ⟨enc k, z, l.length⟩) (l.length + 1) := by
   unfold yc
   rw [mesF_append]
   simp [xr]
  refine ⟨l.length, l ++ [(k, z)], { w with heap := w.heap.setIfInBounds g (yc enc (l ++ [(k, z)])) }, ?_, same_setH _ hg, grown_setH _, by simp, ⟨z, by simp⟩, fun v => ?_, ?_⟩
  ·unfold Instr.mapEntry
   simp only [Sem.run_bind, run_underlying ht, Result.andThen_ok, MapKept.run_getObj_map (P := P) hg, hk.chk, run_findL hk, h, hz, MapKept.run_setObj_map _ hg, Sem.run_pure, e1]
   rw [getL_none.2 hn]
   rfl
  ·rw [putL_new hn, List.set_append_right _ _ (zn _), Nat.sub_self]
   rfl
  ·rw [← putL_new hn, getL_put_same, getL_none.2 hn]
   rfl
 | some p =>
  obtain ⟨j, u⟩ := p
  obtain ⟨h2, h3⟩ := findL_in h
  have hj : (xr enc 0 l).toArray[j]? = some ⟨enc k, u, j⟩ := by
   rw [List.getElem?_toArray, xl]
   simp [h2]
  have hgl : yT k l = some u := by rw [← findL_get k 0 l, h]; rfl
  refine ⟨j, l, w, ?_, hg, ⟨rfl, rfl, rfl, zn _, fun _ _ _ => rfl⟩, rfl, ⟨u, h2⟩, fun v => (h3 v).symm, rfl⟩
  unfold Instr.mapEntry
  simp only [Sem.run_bind, run_underlying ht, Result.andThen_ok, MapKept.run_getObj_map (P := P) hg, hk.chk, run_findL hk, h, hj, Option.map_some, Option.getD_some, hb, MapKept.run_setObj_map _ hg, Sem.run_pure, mes_modify_key h2, hgl]
  rw [show Obj.map (xr enc 0 l).toArray l.length = yc enc l from rfl, set_self hg]
  rfl
theorem run_entryStoreL {w : World} {g : Nat} {l : List (κ × Value)} {t : TypeId} (hg : w.heap[g]? = some (yc enc l)) {j : Nat} {k : κ} {u : Value} (hj : l[j]? = some (k, u)) (v : Value) :
  (Instr.entryStore t (.map (some g)) (.int .i64 j) v).run P w = .ok () { w with heap := w.heap.setIfInBounds g (yc enc (l.set j (k, v))) } := by
 have hf : (xr enc 0 l).toArray.findIdx? (fun e => (e.born : Int) == (j : Int)) = some j := by
  rw [List.findIdx?_toArray]
  have hlt := (List.getElem?_eq_some_iff.1 hj).1
  rw [List.findIdx?_eq_some_iff_getElem]
  refine ⟨by rw [x7]; exact hlt, ?_, fun i hi => ?_⟩
  ·have := xl enc 0 l j
   rw [hj, List.getElem?_eq_getElem (by rw [x7]; exact hlt)] at this
   simp only [Option.map_some, Option.some.injEq] at this
   rw [this]
   simp
  ·have hli : i < l.length := by omega
   have := xl enc 0 l i
   rw [List.getElem?_eq_getElem hli, List.getElem?_eq_getElem (by rw [x7]; exact hli)] at this
   simp only [Option.map_some, Option.some.injEq] at this
   rw [this]
   simp
   omega
 unfold Instr.entryStore
 have e1 : yc enc (l.set j (k, v)) = .map ((xr enc 0 l).toArray.modify j fun e => { e with val := v }) l.length := by
  unfold yc
  rw [mes_modify_val v hj, List.length_set]
 rw [e1]
 simp only [Sem.run_bind, Sem.run_pure, Result.andThen_ok, MapKept.run_getObj_map (P := P) hg, asInt, asIntOf, hf, MapKept.run_setObj_map _ hg]
section
variable {w : World} {g : Nat} {l : List (κ × Value)} {t e : TypeId} {o : Oper} {a : Act} {K' : Act → World → Prop} {Q : Exit → Act → World → Prop}
theorem wp_mapEntryL (hk : KeyOk P K enc) (ht : P.underlying t = some (.map K e)) (hg : w.heap[g]? = some (yc enc l)) (m x : Operand) (hop : o.op = Op.mapEntry t m x) (hm : a.eval m = .map (some g)) (k : κ) (hx : a.eval x = enc k) {z : Value} (hz : (zeroValue e).run P w = .ok z w)
  (h : ∀ (j : Nat) (l1 : List (κ × Value)) (w1 : World), w1.heap[g]? = some (yc enc l1) → w.grownBy w1 (some g) → w1.heap.size = w.heap.size → (∃ u, l1[j]? = some (k, u)) → (∀ v, l1.set j (k, v) = xG k v l) → (yT k l1).getD z = (yT k l).getD z → K' (a.put o.dst (.tuple #[(yT k l).getD z, .int .i64 j])) w1) : o.wp P a w K' Q := by
 obtain ⟨j, l1, w1, hrun, h1, h2, h3, h4, h5, h6⟩ := run_mapEntryL (P := P) hk ht hg k hz
 unfold Oper.wp execOp
 simp [hop, hm, hx, hrun, Result.andThen]
 exact h j l1 w1 h1 h2 h3 h4 h5 h6
theorem wp_entryStoreL (hg : w.heap[g]? = some (yc enc l)) {j : Nat} {k : κ} {u : Value} (hj : l[j]? = some (k, u)) (m x y : Operand) (hop : o.op = Op.entryStore t m x y) (hm : a.eval m = .map (some g)) (hx : a.eval x = .int .i64 j) (v : Value) (hy : a.eval y = v)
  (h : ∀ w', w'.heap[g]? = some (yc enc (l.set j (k, v))) → w.grownBy w' (some g) → w'.heap.size = w.heap.size → K' (a.put o.dst undef) w') : o.wp P a w K' Q := by
 unfold Oper.wp execOp
 simp [hop, hm, hx, hy, run_entryStoreL hg hj v, Result.andThen]
 exact h _ (same_setH _ hg) (grown_setH _) (by simp)
end
theorem wpList_lenL {w : World} {g : Nat} {l : List (κ × Value)} {t e : TypeId} {ops : Array Oper} {rest : List Oper} {o : Oper} {a : Act} {Q : Exit → Act → World → Prop} (ht : P.underlying t = some (.map K e)) (hg : w.heap[g]? = some (yc enc l)) (hgd : o.guard = none) (m : Operand) (hop : o.op = Op.call { callee := Callee.builtin Builtin.len, args := #[m], argTypes := #[t] }) (hm : a.eval m = .map (some g))
  (hK : wpList P ops Q rest (a.put o.dst (.int .i64 l.length)) w) : wpList P ops Q (o :: rest) a w := by
 have hs : (xr enc 0 l).toArray.size = l.length := by simp [x7]
 refine wpList_plain hgd fun K' hK' => ?_
 unfold Oper.wp execOp
 simp [hop, resolve, invoke, builtin, hm, Builtin.len_, run_underlying ht, MapKept.run_getObj_map (P := P) hg, goInt, Result.andThen, x7]
 exact hK' _ _ hK
end
end Go.Proofs.YteofmaiojepdkaaGreat
namespace Go.Proofs.YteofmaiojepdkaaGreat
open Go Go.RowKit Go.Maps Go.Sort
def ownQ0 (w : World) (B : Nat) (T : TypeId) (s : Nat) (v : Value) (n : Nat) (xs : List Value) : Prop := (v = .slice none 0 0 ∧ n = 0 ∧ xs = []) ∨ jk w B T s v n xs
section
variable {w w' : World} {bs : Nat → Prop} {B s n : Nat} {T : TypeId} {v : Value} {xs : List Value}
theorem ownQ0.turn (h : ownQ0 w B T s v n xs) (t : zg bs w w') (hb : ∀ k, v.ownBlock = some k → ¬ bs k) : ownQ0 w' B T s v n xs := h.imp id fun h => h.turn t hb
theorem ownQ0.lt (h : ownQ0 w B T s v n xs) : ∀ k, v.ownBlock = some k → B ≤ k ∧ k < w.heap.size := fun k hk => by
 rcases h with ⟨rfl, -⟩ | h
 ·cases hk
 ·exact h.lt k hk
theorem ownQ0.cells (h : ownQ0 w B T s v n xs) : ∀ k, v.ownBlock = some k → ∃ cs, w.heap[k]? = some (.cells cs T (0, 0)) := fun k hk => by
 rcases h with ⟨rfl, -⟩ | ⟨-, g, off, cap, cur, rfl, -, h2, -⟩
 ·cases hk
 ·simp only [Value.ownBlock, Option.some.injEq] at hk
  subst hk
  exact ⟨_, h2⟩
theorem ownQ0.ne (h : ownQ0 w B T s v n xs) {c : Nat} {o : Obj} (hc : w.heap[c]? = some o) (ho : ∀ cs fr, o ≠ .cells cs T fr) : ∀ k, v.ownBlock = some k → ¬ k = c := fun k hk e => by
 obtain ⟨cs, h1⟩ := h.cells k hk
 rw [e, hc] at h1
 injection h1 with h1
 exact ho _ _ h1
theorem ownQ0.slice (h : ownQ0 w B T s v n xs) : ∃ A c, v = .slice A n c := by
 rcases h with ⟨rfl, rfl, -⟩ | ⟨-, g, off, cap, cur, rfl, -⟩
 ·exact ⟨_, _, rfl⟩
 ·exact ⟨_, _, rfl⟩
end
section
variable {P : Program} {w : World} {ops : Array Oper} {o : Oper} {a : Act} {Q : Exit → Act → World → Prop} (s x : Operand) (t e : TypeId) (ho : o.op = .call { callee := .builtin .append, args := #[s, x], argTypes := #[t, t] })
  (size bytes : Nat) (zv : Value) (hinfo : (P.info? e).map (fun i => (i.zero, i.size, i.bytes)) = some (some zv, size, bytes)) (ht : P.underlying t = some (.slice e)) (hzs : zv.cells.size = size) (hsz : 0 < size) (hb : bytes ≤ 1000)
  (B : Nat) (hB : B ≤ w.heap.size) (v : Value) (n : Nat) (xs : List Value) (hs : a.eval s = v) (hown : ownQ0 w B e size v n xs) (hn : n ≤ 100000000000)
  (g : Nat) (cs : Array Value) (T : TypeId) (fr : Nat × Nat) (hx : a.eval x = .slice (some ⟨g, 0, none⟩) 1 1) (hg : w.heap[g]? = some (.cells cs T fr)) (hcs : cs.size = size) (h1 : cs.toList.all (·.oneCell') = true)
include ho hinfo ht hzs hsz hb hB hs hown hn hx hg hcs h1
theorem wpList_append_q0 {rest : List Oper} (hgd : o.guard = none) (h : ∀ ga off cap w', jk w' B e size (.slice (some ⟨ga, off, none⟩) (n + 1) cap) (n + 1) (xs ++ cs.toList) → w.grownBy w' v.ownBlock → (some ga = v.ownBlock ∨ w.heap.size ≤ ga) → wpList P ops Q rest (a.put o.dst (.slice (some ⟨ga, off, none⟩) (n + 1) cap)) w') : wpList P ops Q (o :: rest) a w := by
 refine wpList_plain hgd fun K hK => ?_
 rcases hown with ⟨rfl, rfl, rfl⟩ | hown
 ·refine xq s x t e ho size bytes zv hinfo ht hzs hsz hb B hB (.slice none 0 0) 0 [] hs ⟨by simp, .inl ⟨rfl, rfl⟩⟩ hn g 1 cs T fr hx hg (by omega) h1 (by decide) (by decide) fun ga cp w' h2 h3 h4 => hK _ _ (h ga 0 cp w' ?_ h3 (.inr ?_))
  ·exact jk.ofRow h2 (by omega)
  ·rcases h4 with h4 | h4
   ·cases h4
   ·injection h4 with h4
    omega
 ·obtain ⟨i3, hi3, hz3, hz31, hz32⟩ := info_parts hinfo
  refine wp_append_q w s x t ho B e i3 zv size bytes ht hi3 hz3 hz31 hz32 hzs hsz v n xs hs hown (some ⟨g, 0, none⟩) 1 1 (fun e => by cases e) cs.toList hx (src_blk hg (by omega)) (fun u hu => List.all_eq_true.1 h1 u hu) (by unfold maxLen; omega) (by
   have : (n + 1) * bytes ≤ 100000001000 * 1000 := Nat.mul_le_mul (by omega) hb
   omega) hB fun v' w' r1 r2 r3 => ?_
  have r4 := r1
  obtain ⟨hl, ga, off, cap, cur, rfl, h2⟩ := r4
  refine hK _ _ (h ga off cap w' r1 r2 ?_)
  rcases r3 with r3 | ⟨k, hk, hk2⟩
  ·exact .inl r3
  ·simp only [Value.ownBlock, Option.some.injEq] at hk
   exact .inr (by omega)
end
structure WnW (B bw bq gw : Nat) (V Q : List zb) (vq : Value) (W : World) : Prop where
 hbw : W.heap[bw]? = some (.cells #[.map (some gw)] 141 (0, 0))
 hw : W.heap[gw]? = some (yc yL (xP V))
 nv : V.Nodup
 hbq : W.heap[bq]? = some (.cells #[vq] 40 (0, 0))
 oq : ownQ0 W B 47 2 vq Q.length (zp Q)
theorem WnW.below {B bw bq gw : Nat} {V Q : List zb} {vq : Value} {W W' : World} (h : WnW B bw bq gw V Q vq W) (hb : Below W.heap.size W W') : WnW B bw bq gw V Q vq W' :=
 ⟨za hb h.hbw, za hb h.hw, h.nv, za hb h.hbq, h.oq.turn (zg.ofBelow (bs := fun _ => False) hb) (fun _ _ e => e)⟩
theorem addL_snoc (V : List zb) (l : List zb) (p : zb) : xU V (l ++ [p]) = if p ∈ xU V l then xU V l else xU V l ++ [p] := by
 unfold xU
 rw [List.foldl_append]
 rfl
theorem addL_len (V : List zb) : ∀ l : List zb, (xU V l).length ≤ V.length + l.length
 | [] => by simp [xU]
 | p :: l => by
  have h := addL_len (if p ∈ V then V else V ++ [p]) l
  show (xU (if p ∈ V then V else V ++ [p]) l).length ≤ _
  rw [List.length_cons]
  by_cases hp : p ∈ V
  ·rw [if_pos hp] at h ⊢; omega
  ·rw [if_neg hp, List.length_append, List.length_cons, List.length_nil] at h
   rw [if_neg hp]
   omega
theorem RdS.keep {w w' : World} {s : Nat} {A : Option Addr} {n cap : Nat} {xs : List Value} (h : RdS w s A n cap xs) (hb : ∀ g off, A = some ⟨g, off, none⟩ → g < w.heap.size → w'.heap[g]? = w.heap[g]?) : RdS w' s A n cap xs :=
 ⟨h.le, h.len, fun h0 => by
  obtain ⟨g, off, cur, T, fr, e, h1, h2⟩ := h.at_ h0
  exact ⟨g, off, cur, T, fr, e, (hb g off e (Array.getElem?_eq_some_iff.1 h1).1).trans h1, h2⟩⟩
def WnP (B bw bq gw : Nat) (V Q : List zb) (vq : Value) (l : List zb) (w : World) (en : Ending) (w' : World) : Prop := en = .returned (.tuple #[]) ∧ ∃ N vq', xU V l = V ++ N ∧ WnW B bw bq gw (V ++ N) (Q ++ N) vq' w' ∧ zg (fun k => (k = gw ∨ k = bq) ∨ vq.ownBlock = some k) w w' ∧ (vq'.ownBlock = vq.ownBlock ∨ ∃ k, vq'.ownBlock = some k ∧ w.heap.size ≤ k)
set_option maxRecDepth 100000 in
set_option maxHeartbeats 4000000 in
theorem want_any (B bw bq gw : Nat) (V Q : List zb) (vq : Value) (l : List zb) (A : Option Addr) (cap : Nat) (w : World) (h : WnW B bw bq gw V Q vq w) (hB : B ≤ w.heap.size) (hl : RdS w 2 A l.length cap (zp l)) (hA : ∀ g off, A = some ⟨g, off, none⟩ → (g ≠ gw ∧ g ≠ bq) ∧ ¬ vq.ownBlock = some g) (hlen : V.length + l.length ≤ 1000000000) (hQ : Q.length ≤ V.length) :
  Calls Tryz.prog 70 #[.slice A l.length cap, .pointer (some ⟨bw, 0, none⟩), .pointer (some ⟨bq, 0, none⟩)] w (WnP B bw bq gw V Q vq l w) := by
 have H := zh h
 have HL := zh hl
 have HA := zh hA
 have HLN := zh hlen
 have HQL := zh hQ
 have HBB := zh hB
 have hle := hl.le
 clear h hl hA hlen hQ hB
 go_enter Tryz.func70, Tryz.ntmps70
 go_wp2_with fail
 go_loopw [8] (fun i wr => ∃ (k : Nat) (N : List zb) (vr : Value), k ≤ l.length ∧ i = .int .i64 k ∧ Hid (xU V (l.take k) = V ++ N) ∧ Hid (WnW B bw bq gw (V ++ N) (Q ++ N) vr wr) ∧ Hid (zg (fun k => (k = gw ∨ k = bq) ∨ vq.ownBlock = some k) w wr) ∧ Hid (vr.ownBlock = vq.ownBlock ∨ ∃ k, vr.ownBlock = some k ∧ w.heap.size ≤ k)) (fun i _ => l.length - (intOf i).toNat)
 case atStart => exact ⟨0, [], vq, Nat.zero_le _, rfl, zh (by simp [xU]), zh (by simpa using H.out), zh (zg.refl _ _), zh (.inl rfl)⟩
 case round =>
  obtain ⟨k, N, vr, hk, rfl, HN, HW, HT, HV⟩ := hrel
  obtain ⟨U, hU⟩ : ∃ U, U = V ++ N := ⟨_, rfl⟩
  rw [← hU] at HN HW
  have HU := zh hU
  clear hU
  by_cases hlt : k < l.length
  ·obtain ⟨p, hp⟩ : ∃ p, l[k]? = some p := ⟨_, List.getElem?_eq_getElem hlt⟩
   have HLT := zh hlt
   have hrow := (HL.out.keep (w' := wr) (fun g off e hz => HT.out.block g hz (fun h => by
    have h1 := HA.out g off e
    rcases h with (h | h) | h
    ·exact h1.1.1 h
    ·exact h1.1.2 h
    ·exact h1.2 h))).row hlt
   rw [show zp l = l.flatMap yQ from rfl, xT yQ 2 (fun _ => rfl) l k p hp] at hrow
   obtain ⟨g, off, cur, T, fr, hAe, hg, hex, -, -⟩ := hrow
   subst hAe
   have HG := zh hg
   have HEX := zh hex
   have HP := zh hp
   have hb1 : Below wr.heap.size wr (wr.alloc (zo p)) := (Below.refl _ _).alloc (zn _) _
   have H1 := zh (HW.out.below hb1)
   have HP1 := zh (heap_alloc_new wr (zo p))
   have HT1 := zh (HT.out.alloc (zo p))
   have HZ1 := zh hb1.size
   clear hg hex hp hb1
   go_upto_region 3 with (first
    | (refine lmT 47 ([.int .i64 p.bank, .int .u16 p.addr]) (HG.out) (HEX.out) ?_)
    | (refine stN ?_))
   obtain ⟨w1, hw1⟩ : ∃ w1, wr.alloc (zo p) = w1 := ⟨_, rfl⟩
   rw [hw1] at H1 HP1 HT1 HZ1 ⊢
   clear hw1
   have hc1 := fun o => cell_of_row w1 bw o _ _ _ H1.out.hbw
   have HM1 := zh H1.out.hw
   go_upto_if 15 with (first
    | (refine ldT 47 (HP1.out) ?_)
    | (refine yq xj Tryz.underlying141 HM1.out rfl _ _ rfl rfl p rfl (zero_bool _) ?_; rw [trueL_get]))
   by_cases hm : p ∈ U
   ·have hd : decide (p ∈ U) = true := decide_eq_true hm
    have HN2 := zh (show xU V (l.take (k + 1)) = U by rw [List.take_succ, HP.out]; show xU V (l.take k ++ [p]) = _; rw [addL_snoc, HN.out, if_pos hm])
    rw [hd]
    clear hd hm hc1
    have hk1 := HLT.out
    have hk2 : l.length ≤ 1000000000 := Nat.le_trans (Nat.le_add_left _ _) HLN.out
    go_wp2_with fail
    go_roundw
    case rel => exact ⟨k + 1, N, vr, HLT.out, by have h1 := HLT.out; have h2 := HLN.out; go_num, by rw [← HU.out]; exact HN2, by rw [← HU.out]; exact H1, HT1, HV⟩
    case measure => have h1 := HLT.out; have h2 := HLN.out; simp [intOf]; omega
   ·have hd : decide (p ∈ U) = false := decide_eq_false hm
    have HN2 := zh (show xU V (l.take (k + 1)) = U ++ [p] by rw [List.take_succ, HP.out]; show xU V (l.take k ++ [p]) = _; rw [addL_snoc, HN.out, if_neg hm])
    have HNM := zh hm
    rw [hd]
    clear hd hm
    go_upto_region 5 with (first
     | (refine ldT 47 (HP1.out) ?_)
     | (refine zZ xj Tryz.underlying141 HM1.out rfl _ _ _ rfl rfl p rfl (.bool true) rfl ?_; intro w2 hm2 hg2 hz2))
    clear hc1
    have ht2 : zg (fun k => k = gw) w1 w2 := (zg.refl _ w1).grown hg2 (fun k e _ => by injection e with e; exact e.symm)
    have hx : ∀ {b : Nat} {cs : Array Value} {T : TypeId} {fr : Nat × Nat}, w1.heap[b]? = some (.cells cs T fr) → w2.heap[b]? = some (.cells cs T fr) := fun hb => ht2.heap hb (fun e => by rw [e, HM1.out] at hb; cases hb)
    have hb3 : Below w2.heap.size w2 (w2.alloc (zo p)) := (Below.refl _ _).alloc (zn _) _
    have hbq2 := hx H1.out.hbq
    have hp2 := hx HP1.out
    have hq2 := (H1.out.oq.turn ht2 (H1.out.oq.ne HM1.out (fun _ _ => zY))).turn (zg.ofBelow (bs := fun _ => False) hb3) (fun _ _ e => e)
    have hnl : (Q ++ N).length ≤ 100000000000 := by
     have h1 := addL_len V (l.take k)
     have h2 := HLN.out
     have h3 := HQL.out
     rw [HN.out, HU.out, List.length_append, List.length_take] at h1
     rw [List.length_append]
     omega
    have HQ2 := zh hq2
    have HNL := zh hnl
    have HP2 := zh hp2
    have HBW2 := zh (hx H1.out.hbw)
    have HBQ2 := zh hbq2
    rw [trueL_put HNM.out] at hm2
    have HM2 := zh hm2
    have HT2 := zh (HT1.out.trans ht2 (fun k _ e => .inl (.inl e)))
    have HB3 := zh (show B ≤ (w2.alloc (zo p)).heap.size by have h1 := HBB.out; have h2 := HT1.out.size; have h3 := hg2.size; simp; omega)
    have HZ2 := zh (show w.heap.size ≤ w2.heap.size from Nat.le_trans HT1.out.size hg2.size)
    have hc2 := fun o => cell_of_row w2 bq o _ _ _ hbq2
    clear ht2 hx hb3 hbq2 hp2 hq2 hnl hm2 hg2 hz2
    have hk1 := HLT.out
    have hk2 : l.length ≤ 1000000000 := Nat.le_trans (Nat.le_add_left _ _) HLN.out
    go_wp2_with (first
     | (refine ldT 47 (HP2.out) ?_)
     | (refine wpList_append_q0 (.tmp 18) (.tmp 20) 40 47 rfl 2 16 _ y7 Tryz.underlying40 rfl (by decide) (by decide) B HB3.out vr (Q ++ N).length (zp (Q ++ N)) rfl HQ2.out HNL.out w2.heap.size _ _ _ rfl (heap_alloc_new w2 (zo p)) rfl rfl rfl ?_
        intro ga goff gcap w5 ho5 hg5 hv5
        have HO5 := zh ho5
        have HG5 := zh hg5
        have HV5 := zh hv5
        have HBQ5 := zh ((hg5.block bq (by have := (Array.getElem?_eq_some_iff.1 HBQ2.out).1; simp; omega) (fun e => HQ2.out.ne (za ((Below.refl _ w2).alloc (zn _) (zo p)) HBQ2.out) (fun _ _ => zm (by decide)) bq e.symm rfl)).trans (za ((Below.refl _ w2).alloc (zn _) (zo p)) HBQ2.out))
        clear ho5 hg5 hv5
        have hc5 := fun o => cell_of_row w5 bq o _ _ _ HBQ5.out
        have hf5 := fun o => frozen_of_row w5 bq o _ _ HBQ5.out))
    have HQ6 : Hid (WnW B bw bq gw (U ++ [p]) (Q ++ N ++ [p]) (.slice (some ⟨ga, goff, none⟩) (Q.length + N.length + 1) gcap) (w5.setCell ⟨bq, 0, none⟩ (.slice (some ⟨ga, goff, none⟩) (Q.length + N.length + 1) gcap))) := by
     have hb3 : Below w2.heap.size w2 (w2.alloc (zo p)) := (Below.refl _ _).alloc (zn _) _
     have ho := HO5.out
     rw [List.length_append] at ho
     have h0 := HQ2.out
     have t5 : zg (fun k => vr.ownBlock = some k) (w2.alloc (zo p)) w5 := (zg.refl _ _).grown HG5.out (fun k e _ => e)
     have hbw5 := t5.heap (za hb3 HBW2.out) (fun e => h0.ne (za hb3 HBW2.out) (fun _ _ => zm (by decide)) _ e rfl)
     have hm5 := t5.heap (za hb3 HM2.out) (fun e => h0.ne (za hb3 HM2.out) (fun _ _ => zY) _ e rfl)
     have t6 : zg (fun k => k = bq) w5 (w5.setCell ⟨bq, 0, none⟩ (.slice (some ⟨ga, goff, none⟩) (Q.length + N.length + 1) gcap)) := (zg.refl _ w5).setCell _ (fun _ => rfl)
     refine zh ⟨t6.heap hbw5 (fun e => ?_), t6.heap hm5 (fun e => ?_), ?_, heap_setCell_same HBQ5.out (i := 0) _, .inr ?_⟩
     ·rw [e, HBQ5.out] at hbw5
      injection hbw5 with hbw5
      exact zm (by decide) hbw5.symm
     ·rw [e, HBQ5.out] at hm5
      injection hm5 with hm5
      cases hm5
     ·exact List.nodup_append.2 ⟨H1.out.nv, by simp, fun a ha b hb e => HNM.out (by rw [List.mem_singleton.1 hb] at e; rw [← e]; exact ha)⟩
     ·rw [show zp (Q ++ N ++ [p]) = zp (Q ++ N) ++ yQ p by simp [zp], List.length_append, List.length_append]
      exact ho.turn t6 (ownQ_ne ho HBQ5.out (fun _ _ => zm (by decide)))
    have HT6 := zh (show zg (fun k => (k = gw ∨ k = bq) ∨ vq.ownBlock = some k) w (w5.setCell ⟨bq, 0, none⟩ (.slice (some ⟨ga, goff, none⟩) (Q.length + N.length + 1) gcap)) from
     ((HT2.out.alloc (zo p)).trans ((zg.refl (fun k => vr.ownBlock = some k) _).grown HG5.out (fun k e _ => e)) (fun k hk e => by
       rcases HV.out with h1 | ⟨k2, h1, h2⟩
       ·exact .inr (by rw [← h1]; exact e)
       ·rw [h1] at e
        injection e with e
        omega)).setCell _ (fun _ => .inl (.inr rfl)))
    have HV6 := zh (show ((Value.slice (some ⟨ga, goff, none⟩) (Q.length + N.length + 1) gcap).ownBlock = vq.ownBlock ∨ ∃ k, (Value.slice (some ⟨ga, goff, none⟩) (Q.length + N.length + 1) gcap).ownBlock = some k ∧ w.heap.size ≤ k) by
     rcases HV5.out with h1 | h1
     ·rcases HV.out with h2 | ⟨k2, h2, h3⟩
      ·exact .inl (h1.trans h2)
      ·rw [h2] at h1
       injection h1 with h1
       exact .inr ⟨ga, rfl, by omega⟩
     ·exact .inr ⟨ga, rfl, by have h2 := HZ2.out; simp at h1; omega⟩)
    go_roundw
    case rel => exact ⟨k + 1, N ++ [p], _, HLT.out, by have h1 := HLT.out; have h2 := HLN.out; go_num, by rw [← List.append_assoc, ← HU.out]; exact HN2, by rw [← List.append_assoc, ← List.append_assoc, ← HU.out]; exact HQ6, HT6, HV6⟩
    case measure => have h1 := HLT.out; have h2 := HLN.out; simp [intOf]; omega
  ·obtain rfl : k = l.length := by omega
   go_wp2
   go_end0
   have h1 := HN.out
   rw [List.take_of_length_le (zn _)] at h1
   have h2 := HW.out
   rw [HU.out] at h1 h2
   exact ⟨rfl, N, vr, h1, h2, HT.out, HV.out⟩
end Go.Proofs.YteofmaiojepdkaaGreat
namespace Go.Proofs.YteofmaiojepdkaaGreat
theorem inU_zero : inU ⟨0, 0⟩ := by unfold inU; dsimp only; omega
theorem tgt_inU {I : zk} {p : zb} (h : okI I p) : inU (zU (atI I p).1 p).1 := by
 cases hb : (zU (atI I p).1 p).2 with
 | true =>
  exact target_inU (ok_at h).ii (ins_bd h).1 (ins_bd h).2.2 (q := (zU (atI I p).1 p).1) (by unfold optT; rw [if_pos hb])
 | false =>
  unfold zU at hb ⊢
  split at hb
  ·rename_i h1
   rw [if_pos h1]
   split at hb
   ·rename_i h2
    rw [if_pos h2]
    split at hb
    ·rename_i h3
     rw [if_pos h3]
     split at hb
     ·cases hb
     ·rename_i h4
      rw [if_neg h4]
      exact inU_zero
    ·cases hb
   ·rename_i h2
    rw [if_neg h2]
    split at hb
    ·rename_i h3
     split at hb <;> cases hb
    ·rename_i h3
     rw [if_neg h3]
     exact inU_zero
  ·rename_i h1
   rw [if_neg h1]
   exact inU_zero
section
variable {I : zk} {e : zb} {r : xc} (h : yu I e r) (he : yO e)
include h he
theorem yu.calls_inU : ∀ q ∈ r.calls, inU q := fun q hq => by
 by_cases ht : yS I e
 ·rw [(h.thk ht).2.2.1] at hq
  simp at hq
 ·obtain ⟨p, h1, h2, h3⟩ := (h.ml ht q).1 hq
  exact (fl_bd (h1.plOk he) h2).cl q h3
theorem yu.calls_len : r.calls.length ≤ 16777217 := by
 rw [← univ_len e]
 exact yw (xf zP.irr h.sl) fun q hq => mem_univ (.inr (h.calls_inU he q hq))
end
theorem Ent.plOk {I : zk} (hI : I.Ok) {more : List zb} (hm : ∀ p ∈ more, yO p) {p : zb} (h : Ent I more p) : yO p := by
 induction h with
 | first => exact ⟨by unfold ja; dsimp only; omega, hI.en⟩
 | vec _ => exact ⟨by unfold ja; dsimp only; omega, hI.ve⟩
 | more hp => exact hm _ hp
 | call h1 h2 h3 ih => exact (h2.calls_inU ih _ h3).ok
 | thunk h1 h2 ih => exact (tgt_inU h2.1).ok
theorem EntI.start {I : zk} {more V : List zb} (hV : ∀ q, q ∈ V ↔ (q = ⟨0, I.entry⟩ ∨ (I.vector ≠ 0 ∧ q = ⟨0, I.vector⟩)) ∨ q ∈ more) : EntI I more V [] :=
 ⟨(hV _).2 (.inl (.inl rfl)), fun h => (hV _).2 (.inl (.inr ⟨h, rfl⟩)), fun p hp => (hV p).2 (.inr hp), fun p hp => by
  rcases (hV p).1 hp with (rfl | ⟨h, rfl⟩) | h
  ·exact .first
  ·exact .vec h
  ·exact .more h, by simp, by simp, by simp, by simp, by simp⟩
end Go.Proofs.YteofmaiojepdkaaGreat
