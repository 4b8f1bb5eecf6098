/- Lines in one block of the call's own: one of their cells is set; lines and numbers as what is appended. No condition beyond what each law states. -/
import Derived.Test.YthebmoggbgldmaaLaLrF
set_option linter.all false
namespace Go.Proofs.Ythebmoggbgldmaa
open Go Go.RowKit Go.Maps
theorem ext_get {c : Array Value} {a n j : Nat} {x : Value} {l : List Value} (h : (c.extract a (a + n)).toList = l) (hj : l[j]? = some x) : c[a + j]? = some x := by
 rw [← h, Array.getElem?_toList, Array.getElem?_extract] at hj
 split at hj
 ·exact hj
 ·cases hj
theorem line_cell {w : World} {q off : Nat} {c : Array Value} {T : TypeId} {fr : Nat × Nat} {l : zu} {tv : Value} {i : Nat} (hq : w.heap[q]? = some (.cells c T fr)) (hx : (c.extract (off + i * 12) (off + i * 12 + 12)).toList = xX l tv) (j : Nat) {x : Value} (hj : (xX l tv)[j]? = some x) :
  w.cell? ⟨q, off + i * 12 + j, none⟩ = some x := by
 rw [Lib.cell_of_heap hq]
 exact ext_get hx hj
theorem rlabGo_drop {ls : List zu} {k : Nat} {l : zu} (hl : ls[k]? = some l) (n at_ : Int) : xQ n (ls.drop k) k at_ = if l.label = n ∧ 0 ≤ n then (if at_ ≠ -1 then -2 else xQ n (ls.drop (k + 1)) (k + 1) k) else xQ n (ls.drop (k + 1)) (k + 1) at_ := by
 obtain ⟨hk, rfl⟩ := List.getElem?_eq_some_iff.1 hl
 rw [List.drop_eq_getElem_cons hk]
 rfl
theorem rlabGo_end (ls : List zu) (n at_ : Int) : xQ n (ls.drop ls.length) ls.length at_ = at_ := by
 rw [List.drop_length]; rfl
set_option maxRecDepth 100000 in
set_option maxHeartbeats 2000000 in
theorem rlabel_any (nm : ByteArray) (ls : List zu) (hlen : ls.length ≤ 1000) (ao : Option Addr) (cap : Nat) (n : Int) (w : World) (hL : yJ w (.slice ao ls.length cap) ls) :
  Calls Try.prog 71 #[.agg #[.string nm, .slice ao ls.length cap], .int .i64 n] w fun e w' => e = .returned (.int .i64 (xg ls n)) ∧ Below w.heap.size w w' := by
 have h2 := heap_alloc_new w (.cells #[.string nm, .slice ao ls.length cap] 32)
 have hB : Below w.heap.size w (w.alloc (.cells #[.string nm, .slice ao ls.length cap] 32)) := (Below.refl _ _).alloc (zn _) _
 obtain ⟨wa, hwa⟩ : ∃ wa : World, w.alloc (.cells #[.string nm, .slice ao ls.length cap] 32) = wa := ⟨_, rfl⟩
 rw [hwa] at h2 hB
 have c1 := cell_of_row wa w.heap.size 1 _ _ _ h2
 have HL := zh (hL.below hB)
 have HB := zh hB
 clear hL h2 hB
 go_enter Try.func71, Try.ntmps71
 go_upto_region 3 with fail
 try rw [hwa]
 clear hwa
 go_wp2_with fail
 go_loopw [5, 6] (fun a i wr => ∃ (k : Nat) (at_ : Int), k ≤ ls.length ∧ -1 ≤ at_ ∧ at_ ≤ k ∧ a = .int .i64 at_ ∧ i = .int .i64 k ∧ Hid (xQ n (ls.drop k) k at_ = xg ls n) ∧ wr = wa) (fun _ i _ => ls.length - (intOf i).toNat)
 case atStart => exact ⟨0, -1, Nat.zero_le _, by omega, by omega, rfl, rfl, zh rfl, rfl⟩
 case round =>
  obtain ⟨k, at_, hk, ha0, ha1, rfl, rfl, HG, rfl⟩ := hrel
  by_cases hlt : k < ls.length
  ·obtain ⟨l, hl⟩ : ∃ l, ls[k]? = some l := ⟨_, List.getElem?_eq_getElem hlt⟩
   have HD := zh (rlabGo_drop hl n at_)
   obtain ⟨q, off, c, T', fr', tq, rfl, hq, hx, hti⟩ := HL.out.at hl
   have c0 := line_cell hq hx 0 (x := .int .i64 l.label) rfl
   simp only [Nat.add_zero] at c0
   clear hq hx hti hl
   by_cases he : l.label = n
   ·subst he
    by_cases hn : 0 ≤ l.label
    ·by_cases h1 : at_ = -1
     ·subst h1
      have HN := zh (show xQ l.label (ls.drop (k + 1)) (k + 1) k = xg ls l.label by rw [← HG.out, HD.out, if_pos ⟨rfl, hn⟩, if_neg (by simp)])
      clear HD HG
      go_wp2_with fail
      go_roundw
      case rel => exact ⟨k + 1, k, by omega, by omega, by omega, rfl, by go_num, HN, (by first | rfl | trivial)⟩
      case measure => simp [intOf]; omega
     ·have h1' : (at_ == -1) = false := by simp [h1]
      have h1'' : (at_ != -1) = true := by simp [h1]
      have HN := zh (show xg ls l.label = -2 by rw [← HG.out, HD.out, if_pos ⟨rfl, hn⟩, if_pos h1])
      clear HD HG h1
      go_wp2_with fail
      go_ret
      exact ⟨by rw [HN.out]; rfl, HB.out⟩
    ·have hn' : l.label < 0 := by omega
     have HN := zh (show xQ l.label (ls.drop (k + 1)) (k + 1) at_ = xg ls l.label by rw [← HG.out, HD.out, if_neg (fun h => hn h.2)])
     clear HD HG
     go_wp2_with fail
     go_roundw
     case rel => exact ⟨k + 1, at_, by omega, by omega, by omega, rfl, by go_num, HN, (by first | rfl | trivial)⟩
     case measure => simp [intOf]; omega
   ·have he' : (l.label == n) = false := by simp [he]
    have HN := zh (show xQ n (ls.drop (k + 1)) (k + 1) at_ = xg ls n by rw [← HG.out, HD.out, if_neg (fun h => he h.1)])
    clear HD HG
    go_wp2_with fail
    go_roundw
    case rel => exact ⟨k + 1, at_, by omega, by omega, by omega, rfl, by go_num, HN, (by first | rfl | trivial)⟩
    case measure => simp [intOf]; omega
  ·have hke : k = ls.length := by omega
   subst hke
   have HN := zh (show at_ = xg ls n by rw [← HG.out, rlabGo_end])
   clear HG hlt hk
   go_wp2_with fail
   go_ret
   exact ⟨by rw [← HN.out]; rfl, HB.out⟩
end Go.Proofs.Ythebmoggbgldmaa
namespace Go.Proofs.Ythebmoggbgldmaa
open Go Go.RowKit Go.Maps
def IntsN (w : World) (g : Nat) (v : Value) (t : List Int) : Prop :=
 ∃ ao cap, v = .slice ao t.length cap ∧ t.length ≤ cap ∧ (0 < t.length → ∃ q off c T fr, q ≠ g ∧ ao = some ⟨q, off, none⟩ ∧ w.heap[q]? = some (.cells c T fr) ∧ ∀ i x, t[i]? = some x → c[off + i]? = some (.int .i64 x))
theorem IntsN.toV {w : World} {g : Nat} {v : Value} {t : List Int} (h : IntsN w g v t) : xO w v t := by
 obtain ⟨ao, cap, e, hc, h⟩ := h
 exact ⟨ao, cap, e, hc, fun h0 => by obtain ⟨q, off, c, T, fr, -, h1⟩ := h h0; exact ⟨q, off, c, T, fr, h1⟩⟩
theorem IntsN.of {w W : World} {g : Nat} {v : Value} {t : List Int} (h : xO w v t) (hb : Below w.heap.size w W) (hg : w.heap.size ≤ g) : IntsN W g v t := by
 obtain ⟨ao, cap, e, hc, h⟩ := h
 refine ⟨ao, cap, e, hc, fun h0 => ?_⟩
 obtain ⟨q, off, c, T, fr, e1, hq, h1⟩ := h h0
 have := (Array.getElem?_eq_some_iff.1 hq).1
 exact ⟨q, off, c, T, fr, by omega, e1, zf hb hq, h1⟩
theorem IntsN.own {W : World} {B g : Nat} {v : Value} {t : List Int} {cs : Array Value} {T : TypeId} {fr : Nat × Nat} (h : W.ownsRow B 3 1 v t.length (t.map (Value.int .i64))) (hg : W.heap[g]? = some (.cells cs T fr)) (hT : T ≠ 3) : IntsN W g v t := by
 obtain ⟨ao, cap, e, hc, h1⟩ := own_ints h
 refine ⟨ao, cap, e, hc, fun h0 => ?_⟩
 obtain ⟨q, off, c, T', fr', e1, hq, h2⟩ := h1 h0
 refine ⟨q, off, c, T', fr', fun e9 => ?_, e1, hq, h2⟩
 obtain ⟨-, cs', h8⟩ := z7 h q (by rw [e, e1]; rfl)
 rw [e9, hg] at h8
 simp at h8
 exact hT h8.2.1
theorem IntsN.turn {w w' : World} {g : Nat} {v : Value} {t : List Int} (h : IntsN w g v t) (ht : zN (fun k => k = g) w w') : IntsN w' g v t := by
 obtain ⟨ao, cap, e, hc, h⟩ := h
 refine ⟨ao, cap, e, hc, fun h0 => ?_⟩
 obtain ⟨q, off, c, T, fr, hne, e1, hq, h1⟩ := h h0
 exact ⟨q, off, c, T, fr, hne, e1, ht.heap hq hne, h1⟩
def jz (W : World) (g : Nat) (ls : List zu) : Prop :=
 ∃ c, W.heap[g]? = some (.cells c 58 (0, 0)) ∧ ∀ i l, ls[i]? = some l → ∃ tv, (c.extract (i * 12) (i * 12 + 12)).toList = xX l tv ∧ IntsN W g tv l.tab
theorem jz.turn {W W' : World} {g : Nat} {ls : List zu} (h : jz W g ls) (hb : Below W.heap.size W W') : jz W' g ls := by
 obtain ⟨c, hg, h⟩ := h
 exact ⟨c, zf hb hg, fun i l hl => by obtain ⟨tv, h1, h2⟩ := h i l hl; exact ⟨tv, h1, h2.turn (zN.ofBelow hb)⟩⟩
theorem jz.toV {W : World} {g : Nat} {ls : List zu} (h : jz W g ls) {cap : Nat} (hc : ls.length ≤ cap) : yJ W (.slice (some ⟨g, 0, none⟩) ls.length cap) ls := by
 obtain ⟨c, hg, h⟩ := h
 exact ⟨_, cap, rfl, hc, fun _ => ⟨g, 0, c, _, _, rfl, hg, fun i l hl => by obtain ⟨tv, h1, h2⟩ := h i l hl; exact ⟨tv, by rw [Nat.zero_add]; exact h1, h2.toV⟩⟩⟩
theorem jz.froz {W : World} {g : Nat} {ls : List zu} (h : jz W g ls) (o : Nat) : W.frozen? ⟨g, o, none⟩ = false := by
 obtain ⟨c, hg, -⟩ := h
 exact frozen_of_row W g o _ _ hg
theorem jz.cell {W : World} {g : Nat} {ls : List zu} (h : jz W g ls) {i : Nat} {l : zu} (hl : ls[i]? = some l) : ∃ ta tcp, IntsN W g (.slice ta l.tab.length tcp) l.tab ∧ ∀ j, j < 12 → W.cell? ⟨g, i * 12 + j, none⟩ = (xX l (.slice ta l.tab.length tcp))[j]? := by
 obtain ⟨c, hg, h⟩ := h
 obtain ⟨tv, h1, h2⟩ := h i l hl
 obtain ⟨ta, tcp, rfl, -⟩ := id h2
 refine ⟨ta, tcp, h2, fun j hj => ?_⟩
 rw [cell_of_row W g _ _ _ _ hg, ← h1, Array.toList_extract, List.extract_eq_drop_take, List.getElem?_take, if_pos (by omega), List.getElem?_drop, Array.getElem?_toList]
theorem set_rows (c : List Value) (i i' j : Nat) (hj : j < 12) (v : Value) : (((c.set (i * 12 + j) v).drop (i' * 12)).take 12) = if i' = i then ((c.drop (i' * 12)).take 12).set j v else (c.drop (i' * 12)).take 12 := by
 by_cases h : i' = i
 ·subst h
  rw [if_pos rfl, List.drop_set, if_neg (by omega), List.take_set]
  congr 1
  omega
 ·rw [if_neg h, List.drop_set]
  split
  ·rfl
  ·rw [List.take_set]
   refine List.set_eq_of_length_le ?_
   rw [List.length_take]
   have : i' < i := by
    rcases Nat.lt_trichotomy i' i with h1 | h1 | h1
    ·exact h1
    ·exact absurd h1 h
    ·omega
   omega
theorem jz.set {W W' : World} {g : Nat} {ls : List zu} (h : jz W g ls) {i : Nat} {l : zu} (hl : ls[i]? = some l) (j : Nat) (hj : j < 12) (v : Value) (l' : zu) (hW : W' = W.setCell ⟨g, i * 12 + j, none⟩ v)
  (hr : ∀ tv, IntsN W g tv l.tab → ∃ tv', (xX l tv).set j v = xX l' tv' ∧ IntsN W g tv' l'.tab) : jz W' g (ls.set i l') := by
 subst hW
 obtain ⟨c, hg, h⟩ := h
 have hT : zN (fun k => k = g) W (W.setCell ⟨g, i * 12 + j, none⟩ v) := zN.setCell (zN.refl _ W) _ fun _ => rfl
 refine ⟨_, zW hg v, fun i' l2 hl2 => ?_⟩
 have ex : ∀ d : Array Value, (d.extract (i' * 12) (i' * 12 + 12)).toList = (d.toList.drop (i' * 12)).take 12 := fun d => by
  rw [Array.toList_extract, List.extract_eq_drop_take]; congr 1; omega
 rw [ex, Array.toList_setIfInBounds, set_rows c.toList i i' j hj v]
 by_cases e : i' = i
 ·subst e
  obtain ⟨tv, h1, h2⟩ := h i' l hl
  rw [ex] at h1
  rw [if_pos rfl, h1]
  have hi := (List.getElem?_eq_some_iff.1 hl).1
  rw [List.getElem?_set_self hi] at hl2
  cases hl2
  obtain ⟨tv', h3, h4⟩ := hr tv h2
  exact ⟨tv', h3, h4.turn hT⟩
 ·rw [if_neg e]
  rw [List.getElem?_set_ne (fun q => e q.symm)] at hl2
  obtain ⟨tv, h1, h2⟩ := h i' l2 hl2
  rw [ex] at h1
  exact ⟨tv, h1, h2.turn hT⟩
theorem rowsV_at (ps : List (zu × Value)) {i : Nat} {p : zu × Value} (hp : ps[i]? = some p) {r : Nat} (hr : r < 12) : (rowsV ps)[i * 12 + r]? = (xX p.1 p.2)[r]? := by
 rw [← rowsV_get ps i p hp, List.getElem?_take, if_pos hr, List.getElem?_drop]
theorem yJ.src {w : World} {ao : Option Addr} {n cap : Nat} {ls : List zu} (h : yJ w (.slice ao n cap) ls) : ∃ ps : List (zu × Value), ps.map (·.1) = ls ∧ (∀ p ∈ ps, xO w p.2 p.1.tab) ∧ SrcW w 12 ao n (rowsV ps) ∧ ∀ u ∈ rowsV ps, u.oneCell' = true := by
 obtain ⟨ao', cap', e, hc, h⟩ := h
 simp only [Value.slice.injEq] at e
 obtain ⟨rfl, rfl, rfl⟩ := e
 by_cases h0 : ¬ 0 < ls.length
 ·have : ls = [] := List.eq_nil_of_length_eq_zero (by omega)
  subst this
  exact ⟨[], rfl, (fun p hp => by cases hp), ⟨rfl, fun h => by cases h⟩, fun u hu => by cases hu⟩
 replace h0 := Classical.not_not.1 h0
 obtain ⟨g, off, c, T, fr, rfl, hg, h1⟩ := h h0
 have key : ∀ (i : Nat), ∃ tv, ∀ l, ls[i]? = some l → (c.extract (off + i * 12) (off + i * 12 + 12)).toList = xX l tv ∧ xO w tv l.tab := fun i => by
  cases hi : ls[i]? with
  | none => exact ⟨undef, fun l hl => by cases hl⟩
  | some l =>
   obtain ⟨tv, h2⟩ := h1 i l hi
   exact ⟨tv, fun l' hl => by cases hl; exact h2⟩
 obtain ⟨F, hF⟩ : ∃ F : Nat → Value, ∀ i l, ls[i]? = some l → (c.extract (off + i * 12) (off + i * 12 + 12)).toList = xX l (F i) ∧ xO w (F i) l.tab := ⟨fun i => Classical.choose (key i), fun i => Classical.choose_spec (key i)⟩
 have hps : ∀ (i : Nat) (p : zu × Value), (ls.mapIdx fun i l => (l, F i))[i]? = some p → ls[i]? = some p.1 ∧ p.2 = F i := fun i p hp => by
  rw [List.getElem?_mapIdx] at hp
  obtain ⟨l, hl, rfl⟩ := Option.map_eq_some_iff.1 hp
  exact ⟨hl, rfl⟩
 have hlen : (ls.mapIdx fun i l => (l, F i)).length = ls.length := List.length_mapIdx
 have hmem : ∀ p ∈ (ls.mapIdx fun i l => (l, F i)), xO w p.2 p.1.tab := fun p hp => by
  obtain ⟨i, hi, he⟩ := List.mem_iff_getElem.1 hp
  obtain ⟨h2, h3⟩ := hps i p (by rw [← he]; exact List.getElem?_eq_getElem hi)
  rw [h3]
  exact (hF i _ h2).2
 refine ⟨ls.mapIdx fun i l => (l, F i), ?_, hmem, ⟨by rw [rowsV_len, hlen], fun _ => ⟨_, rfl, fun j u hu => ?_⟩⟩, fun u hu => ?_⟩
 ·refine List.ext_getElem? fun i => ?_
  rw [List.getElem?_map, List.getElem?_mapIdx]
  cases ls[i]? <;> rfl
 ·have hj := (List.getElem?_eq_some_iff.1 hu).1
  rw [rowsV_len, hlen] at hj
  have hjj : j = j / 12 * 12 + j % 12 := by omega
  have hr : j % 12 < 12 := Nat.mod_lt _ (by omega)
  have hi : j / 12 < ls.length := by omega
  have ha : (⟨g, off, none⟩ : Addr).add j = ⟨g, off + j, none⟩ := by
   unfold Addr.add
   split
   ·subst_vars; rfl
   ·rfl
  rw [ha, cell_of_row w g _ _ _ _ hg]
  rw [hjj, rowsV_at _ (List.getElem?_eq_getElem (by rw [hlen]; exact hi)) hr] at hu
  obtain ⟨h2, h3⟩ := hps (j / 12) _ (List.getElem?_eq_getElem (by rw [hlen]; exact hi))
  rw [h3, ← (hF _ _ h2).1, Array.toList_extract, List.extract_eq_drop_take, List.getElem?_take, if_pos (by omega), List.getElem?_drop, Array.getElem?_toList, Nat.add_assoc, ← hjj] at hu
  exact hu
 ·obtain ⟨p, hp, hu⟩ := List.mem_flatMap.1 hu
  obtain ⟨ta, tcp, e, -⟩ := hmem p hp
  rw [e] at hu
  exact List.all_eq_true.1 (by rfl : (xX p.1 (.slice ta p.1.tab.length tcp)).all (·.oneCell') = true) u hu
theorem xO.src {w : World} {ao : Option Addr} {n cap : Nat} {xs : List Int} (h : xO w (.slice ao n cap) xs) : SrcW w 1 ao n (xs.map (Value.int .i64)) := by
 obtain ⟨ao', cap', e, hc, h⟩ := h
 simp only [Value.slice.injEq] at e
 obtain ⟨rfl, rfl, rfl⟩ := e
 refine ⟨by simp, fun h0 => ?_⟩
 obtain ⟨g, off, c, T, fr, rfl, hg, h1⟩ := h h0
 refine ⟨_, rfl, fun j u hu => ?_⟩
 rw [List.getElem?_map] at hu
 obtain ⟨x, hx, rfl⟩ := Option.map_eq_some_iff.1 hu
 have ha : (⟨g, off, none⟩ : Addr).add j = ⟨g, off + j, none⟩ := by
  unfold Addr.add
  split
  ·subst_vars; rfl
  ·rfl
 rw [ha, cell_of_row w g _ _ _ _ hg]
 exact h1 j x hx
theorem ints_one (xs : List Int) : ∀ u ∈ xs.map (Value.int .i64), u.oneCell' = true := fun u hu => by
 obtain ⟨x, -, rfl⟩ := List.mem_map.1 hu
 rfl
theorem own_linesG {w W : World} {B : Nat} {ps : List (zu × Value)} {a : Option Addr} {n cap : Nat} (h : W.ownsRow B 58 12 (.slice a n cap) n (rowsV ps)) (hn : n = ps.length) (h0 : 0 < n) (hB : w.heap.size ≤ B) (hb : Below w.heap.size w W) (ht : ∀ p ∈ ps, xO w p.2 p.1.tab) :
  ∃ g, a = some ⟨g, 0, none⟩ ∧ B ≤ g ∧ n ≤ cap ∧ jz W g (ps.map (·.1)) := by
 rcases h.2 with ⟨-, h9⟩ | ⟨g, cap', cur, he, hBg, hg, hnc, hcm, hcs, htk⟩
 ·omega
 ·simp only [Value.slice.injEq] at he
  obtain ⟨rfl, -, rfl⟩ := he
  refine ⟨g, rfl, hBg, hnc, cur, hg, fun i l hl => ?_⟩
  rw [List.getElem?_map] at hl
  obtain ⟨p, hp, rfl⟩ := Option.map_eq_some_iff.1 hl
  refine ⟨p.2, ?_, IntsN.of (ht p (List.mem_of_getElem? hp)) hb (by omega)⟩
  have h1 := rowsV_get ps i p hp
  have hi := (List.getElem?_eq_some_iff.1 hp).1
  rw [← htk, List.drop_take, List.take_take, Nat.min_eq_left (by omega)] at h1
  rw [← h1, Array.toList_extract, List.extract_eq_drop_take]
  congr 1
  omega
theorem zm.newR {ex : List Nat} {w w' : World} {k B n : Nat} {t : TypeId} {l : List Fct} (hp : ∀ (g : Nat) (o : Obj), w.heap[g]? = some o → w'.heap[g]? = some o) (h : zm ex w w' (k + 1) l) : zm ex w w' k (Go.Proofs.Ythebmoggbgldmaa.newR B t n :: l) := ⟨.inr fun vs h => by
 match vs, h with
 | [v], ⟨g, cs, h1, h2, h3, h4⟩ => exact ⟨g, cs, h1, h2, hp _ _ h3, h4⟩, h⟩
section
variable {P : Program} (w : World)
theorem run_append_empty (base : Nat) (t ty e : TypeId) (i : TypeInfo) (z : Value) (size bytes : Nat) (ht : P.underlying t = some (.slice e)) (hi : P.info? e = some i) (hz : i.zero = some z)
  (hsize : i.size = size) (hby : i.bytes = bytes) (hzs : z.cells.size = size) (hsz : 0 < size) (g : Nat) (hg : w.heap[g]? = some (.cells #[] e (0, 0))) (hbg : base ≤ g)
  (A : Option Addr) (m c : Nat) (news : List Value) (hr : SrcW w size A m news) (h1 : ∀ u ∈ news, u.oneCell' = true) (h63 : m ≤ maxLen) (hbytes : m * bytes ≤ 140737488355328) (hbase : base ≤ w.heap.size) :
  ∃ v' w', (Builtin.append_ #[t, t] ty #[.slice (some ⟨g, 0, none⟩) 0 0, .slice A m c]).run P w = .ok v' w' ∧ w'.ownsRow base e size v' m news ∧ Below w.heap.size w w' := by
 have hown : w.ownsRow base e size (.slice (some ⟨g, 0, none⟩) 0 0) 0 [] := ⟨by simp, .inr ⟨g, 0, #[], rfl, hbg, hg, zn _, Nat.zero_le _, by simp, by simp⟩⟩
 subst hsize
 subst hby
 by_cases hm : m = 0
 ·subst hm
  have hn : news = [] := List.eq_nil_of_length_eq_zero (by simpa using hr.1)
  subst hn
  cases A with
  | none =>
   refine ⟨_, w, ?_, hown, Below.refl _ _⟩
   simp [Builtin.append_, run_underlying ht, sizeOf, typeInfo, hi, Builtin.lenOf, Builtin.firstCells, storeCells]
  | some ad =>
   have hrun := run_append_room (P := P) w t ty e i ht hi g 0 0 #[] hg ad 0 c [] (by simp) (fun j u hu => by simp at hu) h1 (zn _) (by simp)
   have hs := setRow_heap w g #[] ((#[] : Array Value).toList.take (0 * i.size) ++ [] ++ (#[] : Array Value).toList.drop (0 * i.size + ([] : List Value).length)).toArray e _ hg
   refine ⟨_, _, hrun, ⟨by simp, .inr ⟨g, 0, _, rfl, hbg, hs, zn _, Nat.zero_le _, by simp, by simp⟩⟩, ⟨rfl, rfl, rfl, by simp [World.setRow], fun k hk => ?_⟩⟩
   by_cases hkg : k = g
   ·subst hkg
    rw [hs, hg]
    simp
   ·exact setRow_other _ _ _ _ hkg
 ·have h0 : 0 < m := Nat.pos_of_ne_zero hm
  obtain ⟨ad, rfl, hc⟩ := hr.2 h0
  have hrun := run_append_grow (P := P) w t ty e i z ht hi hz ⟨g, 0, none⟩ 0 0 [] (by simp) (fun j u hu => by simp at hu) ad m c news hr.1 hc (by omega) (by simp only [maxLen] at h63; omega) (growslice_fits (by omega) (by simpa using hbytes))
  have hge := grownCap_ge w (0 + m) 0 e
  have hcm : grownCap w (0 + m) 0 e ≤ maxLen := grownCap_le_maxLen w (0 + m) 0 e (by omega)
  refine ⟨_, _, hrun, ⟨hr.1, .inr ⟨w.heap.size, _, _, by rw [Nat.zero_add], hbase, heap_alloc_new w.drew _, by omega, hcm, ?_, ?_⟩⟩, ⟨rfl, rfl, rfl, by simp, fun k hk => Below.heap_alloc w.drew _ _ hk⟩⟩
  ·simp only [Nat.zero_add] at hge
   simp only [Array.size_append, List.size_toArray, size_zeroCells, hzs, hr.1, List.length_nil, Nat.zero_add, ← Nat.add_mul]
   congr 1
   omega
  ·simp only [Array.toList_append, List.append_assoc, List.nil_append, List.toList_toArray]
   rw [← hr.1]
   exact List.take_left
theorem wp_append_empty {o : Oper} {a : Act} {K : Act → World → Prop} {Q : Exit → Act → World → Prop} (s x : Operand) (t : TypeId)
  (ho : o.op = .call { callee := .builtin .append, args := #[s, x], argTypes := #[t, t] })
  (base : Nat) (e : TypeId) (i : TypeInfo) (z : Value) (size bytes : Nat) (ht : P.underlying t = some (.slice e)) (hi : P.info? e = some i) (hz : i.zero = some z)
  (hsize : i.size = size) (hby : i.bytes = bytes) (hzs : z.cells.size = size) (hsz : 0 < size) (g : Nat) (hs : a.eval s = .slice (some ⟨g, 0, none⟩) 0 0) (hg : w.heap[g]? = some (.cells #[] e (0, 0))) (hbg : base ≤ g)
  (A : Option Addr) (m c : Nat) (news : List Value) (hx : a.eval x = .slice A m c) (hr : SrcW w size A m news) (h1 : ∀ u ∈ news, u.oneCell' = true) (h63 : m ≤ maxLen) (hbytes : m * bytes ≤ 140737488355328) (hbase : base ≤ w.heap.size)
  (h : ∀ v' w', w'.ownsRow base e size v' m news → Below w.heap.size w w' → K (a.put o.dst v') w') : o.wp P a w K Q := by
 obtain ⟨v', w', hrun, h2, h3⟩ := run_append_empty (P := P) w base t o.type e i z size bytes ht hi hz hsize hby hzs hsz g hg hbg A m c news hr h1 h63 hbytes hbase
 unfold Oper.wp execOp
 simp only [ho, resolve, invoke, builtin, Sem.run_bind, Sem.run_pure, Result.andThen_ok, List.map_toArray, List.map_cons, List.map_nil, hs, hx, hrun]
 exact h v' w' h2 h3
theorem wpList_append_empty {ops : Array Oper} {rest : List Oper} {o : Oper} {a : Act} {Q : Exit → Act → World → Prop} (hgd : o.guard = none) (s x : Operand) (t : TypeId)
  (ho : o.op = .call { callee := .builtin .append, args := #[s, x], argTypes := #[t, t] })
  (base : Nat) (e : TypeId) (i : TypeInfo) (z : Value) (size bytes : Nat) (ht : P.underlying t = some (.slice e)) (hi : P.info? e = some i) (hz : i.zero = some z)
  (hsize : i.size = size) (hby : i.bytes = bytes) (hzs : z.cells.size = size) (hsz : 0 < size) (g : Nat) (hs : a.eval s = .slice (some ⟨g, 0, none⟩) 0 0) (hg : w.heap[g]? = some (.cells #[] e (0, 0))) (hbg : base ≤ g)
  (A : Option Addr) (m c : Nat) (news : List Value) (hx : a.eval x = .slice A m c) (hr : SrcW w size A m news) (h1 : ∀ u ∈ news, u.oneCell' = true) (h63 : m ≤ maxLen) (hbytes : m * bytes ≤ 140737488355328) (hbase : base ≤ w.heap.size)
  (h : ∀ v' w', w'.ownsRow base e size v' m news → Below w.heap.size w w' → wpList P ops Q rest (a.put o.dst v') w') : wpList P ops Q (o :: rest) a w :=
 wpList_plain hgd fun _ hK => wp_append_empty w s x t ho base e i z size bytes ht hi hz hsize hby hzs hsz g hs hg hbg A m c news hx hr h1 h63 hbytes hbase fun v' w' h2 h3 => hK _ _ (h v' w' h2 h3)
end
def NwQ (B : Nat) (o : Obj) (v : Value) (W : World) : Prop := ∃ g, v = .pointer (some ⟨g, 0, none⟩) ∧ B ≤ g ∧ W.heap[g]? = some o
theorem yJ.setRow {w : World} {v : Value} {ls : List zu} (h : yJ w v ls) {g : Nat} {s : ByteArray} {a : Option Addr} {n c : Nat} {T : TypeId} {fr : Nat × Nat} (hg : w.heap[g]? = some (.cells #[.string s, .slice a n c] T fr)) (cs : Array Value) : yJ (w.setRow g cs) v ls := by
 have hI : ∀ {u : Value} {t : List Int}, xO w u t → xO (w.setRow g cs) u t := fun {u t} hi => by
  obtain ⟨ao, cap, e, hc, h⟩ := hi
  refine ⟨ao, cap, e, hc, fun h0 => ?_⟩
  obtain ⟨q, off, d, T', fr', e1, hq, h1⟩ := h h0
  refine ⟨q, off, d, T', fr', e1, (setRow_other _ _ _ _ fun e9 => ?_).trans hq, h1⟩
  subst e9
  rw [hg] at hq
  simp only [Option.some.injEq, Obj.cells.injEq] at hq
  obtain ⟨rfl, -, -⟩ := hq
  have h2 := h1 0 _ (List.getElem?_eq_getElem h0)
  rcases off with _ | _ | off
  ·simp at h2
  ·simp at h2
  ·simp at h2
 obtain ⟨ao, cap, e, hc, h⟩ := h
 refine ⟨ao, cap, e, hc, fun h0 => ?_⟩
 obtain ⟨q, off, d, T', fr', e1, hq, h1⟩ := h h0
 refine ⟨q, off, d, T', fr', e1, (setRow_other _ _ _ _ fun e9 => ?_).trans hq, fun i l hl => ?_⟩
 ·subst e9
  rw [hg] at hq
  simp only [Option.some.injEq, Obj.cells.injEq] at hq
  obtain ⟨rfl, -, -⟩ := hq
  obtain ⟨tv, h2, -⟩ := h1 0 _ (List.getElem?_eq_getElem h0)
  have h3 := congrArg List.length h2
  rw [Array.toList_extract, List.extract_eq_drop_take, List.length_take, List.length_drop] at h3
  have h4 : (xX ls[0] tv).length = 12 := rfl
  rw [h4] at h3
  simp at h3
  omega
 ·obtain ⟨tv, h2, h3⟩ := h1 i l hl
  exact ⟨tv, h2, hI h3⟩
end Go.Proofs.Ythebmoggbgldmaa
