/- The reference of chapter 05: Put, walked: a place is put into an ordered list. Condition: the list reads as a list of places. -/
import Derived.Test.YteofmaiojepdkaaGreatTbRmD
set_option linter.all false
namespace Go.Proofs.YteofmaiojepdkaaGreat
open Go Go.RowKit Go.Maps Go.Sort
theorem infoBoo : (Tryz.prog.info? 4).map (fun i => (i.zero, i.size, i.bytes)) = some (some (.bool false), 1, 1) := by kernel_rfl
theorem infoInt : (Tryz.prog.info? 3).map (fun i => (i.zero, i.size, i.bytes)) = some (some (.int .i64 0), 1, 8) := by kernel_rfl
def rowV (n : Nat) (f : Nat → Value) : Array Value := ((List.range n).map f).toArray
theorem xQ {n : Nat} (f : Nat → Value) {o : Nat} (h : o < n) : (rowV n f)[o]? = some (f o) := by
 unfold rowV
 simp [h]
theorem rowV_size (n : Nat) (f : Nat → Value) : (rowV n f).size = n := by unfold rowV; simp
theorem rowV_congr {n : Nat} {f g : Nat → Value} (h : ∀ o, o < n → f o = g o) : rowV n f = rowV n g := by
 unfold rowV
 congr 1
 exact List.map_congr_left fun o ho => h o (List.mem_range.1 ho)
theorem rowV_set (n : Nat) (f : Nat → Value) (k : Nat) (v : Value) : (rowV n f).setIfInBounds k v = rowV n (fun o => if o = k then v else f o) := by
 apply Array.ext_getElem?
 intro i
 rw [Array.getElem?_setIfInBounds]
 by_cases hi : i < n
 ·by_cases hk : k = i
  ·subst hk
   rw [if_pos rfl, if_pos (by rw [rowV_size]; exact hi), xQ _ hi, if_pos rfl]
  ·rw [if_neg hk, xQ _ hi, xQ _ hi, if_neg (fun e => hk e.symm)]
 ·have h1 : (rowV n f)[i]? = none := Array.getElem?_eq_none (by rw [rowV_size]; omega)
  have h2 : (rowV n (fun o => if o = k then v else f o))[i]? = none := Array.getElem?_eq_none (by rw [rowV_size]; omega)
  rw [h1, h2]
  by_cases hk : k = i
  ·rw [if_pos hk, if_neg (by rw [rowV_size]; omega)]
  ·rw [if_neg hk]
theorem rowV_zero (n : Nat) (z : Value) (hz : z.cells = #[z]) : rowV n (fun _ => z) = ((madeCells z.cells (n * 1)).toList).toArray := by
 apply Array.ext_getElem?
 intro i
 unfold rowV
 rw [hz]
 by_cases hi : i < n
 ·simp [madeCells, hi, Nat.mod_one]
 ·simp [madeCells, hi]
abbrev rowI (n : Nat) (f : Nat → Int) : Array Value := rowV n fun o => .int .i64 (f o)
abbrev rowT (n : Nat) (f : Nat → Bool) : Array Value := rowV n fun o => .bool (f o)
theorem rowI_set (n : Nat) (f : Nat → Int) (k : Nat) (v : Int) : (rowI n f).setIfInBounds k (.int .i64 v) = rowI n (fun o => if o = k then v else f o) := by
 rw [rowV_set]
 exact rowV_congr fun o _ => by by_cases h : o = k <;> simp [h]
theorem rowT_set (n : Nat) (f : Nat → Bool) (k : Nat) (v : Bool) : (rowT n f).setIfInBounds k (.bool v) = rowT n (fun o => if o = k then v else f o) := by
 rw [rowV_set]
 exact rowV_congr fun o _ => by by_cases h : o = k <;> simp [h]
theorem made_row {w : World} {B : Nat} {e : TypeId} {g n : Nat} {z : Value} (hz : z.cells = #[z]) (h : w.ownsRow B e 1 (.slice (some ⟨g, 0, none⟩) n n) n (madeCells z.cells (n * 1)).toList) : w.heap[g]? = some (.cells (rowV n fun _ => z) e (0, 0)) := by
 rw [own_fullS h, rowV_zero n z hz]
end Go.Proofs.YteofmaiojepdkaaGreat
namespace Go.Proofs.YteofmaiojepdkaaGreat
open Go Go.RowKit Go.Maps Go.Sort
set_option maxRecDepth 100000 in
set_option maxHeartbeats 1000000 in
theorem before_any (p q : zb) (w : World) : Calls Tryz.prog 24 #[.agg #[.int .i64 p.bank, .int .u16 p.addr], .agg #[.int .i64 q.bank, .int .u16 q.addr]] w fun e w' => e = .returned (.bool (decide (zP p q))) ∧ Below w.heap.size w w' := by
 obtain ⟨b, a⟩ := p
 obtain ⟨c, d⟩ := q
 have hbb : ∀ v u : Value, Below w.heap.size w ((w.alloc (.cells #[v, u] 47)).alloc (.cells #[.int .i64 c, .int .u16 d] 47)) := fun v u => ((Below.refl _ _).alloc (zn _) _).alloc (by simp) _
 by_cases h1 : b < c
 ·have e : decide (zP ⟨b, a⟩ ⟨c, d⟩) = true := decide_eq_true (.inl h1)
  rw [e]; clear e
  go_enter Tryz.func24, Tryz.ntmps24
  go_wp2
  go_ret
  exact ⟨rfl, hbb _ _⟩
 ·have h2 : c ≤ b := by omega
  by_cases h3 : b = c
  ·subst h3
   by_cases h4 : a < d
   ·have e : decide (zP ⟨b, a⟩ ⟨b, d⟩) = true := decide_eq_true (.inr ⟨rfl, h4⟩)
    rw [e]; clear e
    go_enter Tryz.func24, Tryz.ntmps24
    go_wp2
    go_ret
    exact ⟨rfl, hbb _ _⟩
   ·have e : decide (zP ⟨b, a⟩ ⟨b, d⟩) = false := decide_eq_false fun h => by unfold zP at h; dsimp only at h; omega
    rw [e]; clear e
    go_enter Tryz.func24, Tryz.ntmps24
    go_wp2
    go_ret
    exact ⟨rfl, hbb _ _⟩
  ·have e : decide (zP ⟨b, a⟩ ⟨c, d⟩) = false := decide_eq_false fun h => by unfold zP at h; dsimp only at h; omega
   rw [e]; clear e
   have h5 : (b == c) = false := by simp [h3]
   go_enter Tryz.func24, Tryz.ntmps24
   go_wp2
   go_ret
   exact ⟨rfl, hbb _ _⟩
theorem RdS.part {w : World} {s : Nat} {A : Option Addr} {n cap : Nat} {xs : List Value} (h : RdS w s A n cap xs) {k : Nat} (hk : k < n) {a m : Nat} (ham : a + m ≤ s) {L : List Value} (hL : ((((xs.drop (k * s)).take s).drop a).take m) = L) :
  ∃ g off cur T fr, A = some ⟨g, off, none⟩ ∧ w.heap[g]? = some (.cells cur T fr) ∧ (cur.extract (off + k * s + a) (off + k * s + a + m)).toList = L ∧ L.length = m ∧ ∀ j, j < m → w.cell? ⟨g, off + k * s + a + j, none⟩ = L[j]? := by
 obtain ⟨g, off, cur, T, fr, e, h1, -, hlen, h2⟩ := h.row hk
 have hl : L.length = m := by rw [← hL, List.length_take, List.length_drop, hlen]; omega
 have hget : ∀ j, j < m → cur[off + k * s + a + j]? = L[j]? := fun j hj => by
  have := h2 (a + j) (by omega)
  rw [cell_of_row _ _ _ _ _ _ h1] at this
  rw [← hL, List.getElem?_take_of_lt hj, List.getElem?_drop, ← this, show off + k * s + a + j = off + k * s + (a + j) by omega]
 refine ⟨g, off, cur, T, fr, e, h1, ?_, hl, fun j hj => by rw [cell_of_row _ _ _ _ _ _ h1]; exact hget j hj⟩
 have := ext_at (c := cur) (o := off + k * s + a) (L := L) (fun j hj => hget j (by omega))
 rwa [hl] at this
theorem RdS.elt {α : Type} {f : α → List Value} {s : Nat} (hf : ∀ a, (f a).length = s) {w : World} {A : Option Addr} {l : List α} {cap : Nat} (h : RdS w s A l.length cap (l.flatMap f)) {k : Nat} {x : α} (hx : l[k]? = some x) :
  ∃ g off cur T fr, A = some ⟨g, off, none⟩ ∧ w.heap[g]? = some (.cells cur T fr) ∧ (cur.extract (off + k * s) (off + k * s + s)).toList = f x := by
 obtain ⟨g, off, cur, T, fr, e, hg, hex, -, -⟩ := h.row (List.getElem?_eq_some_iff.1 hx).1
 rw [xT f s hf l k x hx] at hex
 exact ⟨g, off, cur, T, fr, e, hg, hex⟩
theorem RdS.eltPart {α : Type} {f : α → List Value} {s : Nat} (hf : ∀ a, (f a).length = s) {w : World} {A : Option Addr} {l : List α} {cap : Nat} (h : RdS w s A l.length cap (l.flatMap f)) {k : Nat} {x : α} (hx : l[k]? = some x) {a m : Nat} (ham : a + m ≤ s) {L : List Value} (hL : ((f x).drop a).take m = L) :
  ∃ g off cur T fr, A = some ⟨g, off, none⟩ ∧ w.heap[g]? = some (.cells cur T fr) ∧ (cur.extract (off + k * s + a) (off + k * s + a + m)).toList = L ∧ L.length = m ∧ ∀ j, j < m → w.cell? ⟨g, off + k * s + a + j, none⟩ = L[j]? :=
 h.part (List.getElem?_eq_some_iff.1 hx).1 ham (by rw [xT f s hf l k x hx]; exact hL)
set_option maxRecDepth 100000 in
set_option maxHeartbeats 4000000 in
theorem items_any (I : zk) (l : List zb) (A1 A2 : Option Addr) (c1 c2 : Nat) (w : World) (h1 : RdS w 9 A1 l.length c1 (x9 I l)) (h2 : RdS w 9 A2 l.length c2 (x9 I l)) (hl : l.length ≤ 9223372036854775807) :
  Calls Tryz.prog 38 #[.slice A1 l.length c1, .slice A2 l.length c2] w fun e w' => e = .returned (.bool true) ∧ Below w.heap.size w w' := by
 have HA := zh h1
 have HB := zh h2
 have ha := h1.le
 have hb := h2.le
 clear h1 h2
 go_enter Tryz.func38, Tryz.ntmps38
 go_wp2_with fail
 go_loopw [5] (fun i wr => ∃ m : Nat, m ≤ l.length ∧ i = .int .i64 m ∧ Hid (Below w.heap.size w wr)) (fun i _ => l.length - (intOf i).toNat)
 case atStart => exact ⟨0, Nat.zero_le _, rfl, zh (Below.refl _ _)⟩
 case round =>
  obtain ⟨m, hm, rfl, HW⟩ := hrel
  by_cases hlt : m < l.length
  ·obtain ⟨x, hx⟩ : ∃ x, l[m]? = some x := ⟨_, List.getElem?_eq_getElem hlt⟩
   obtain ⟨g1, o1, cur1, T1, fr1, rfl, hg1, hex1⟩ := RdS.elt (f := itmL I) (fun _ => rfl) (HA.out.below HW.out) hx
   obtain ⟨g2, o2, cur2, T2, fr2, rfl, hg2, hex2⟩ := RdS.elt (f := itmL I) (fun _ => rfl) (HB.out.below HW.out) hx
   have HE1 := zh hex1
   have HE2 := zh hex2
   have HG := zh (And.intro hg1 hg2)
   have HLT := zh hlt
   clear hx hg1 hg2 hex1 hex2
   go_upto_region 6 with fail
   refine zr (S := fun W => W.heap[g1]? = some (.cells cur1 T1 fr1) ∧ W.heap[g2]? = some (.cells cur2 T2 fr2)) [8] (by kernel_rfl) ⟨HG.out.1, HG.out.2⟩ (fun hHeld => ?_)
   (refine tz 0 ?_)
   (refine tz 1 ?_)
   (refine tz 2 ?_)
   (refine tkZ 3 (v := .agg #[.int .i64 x.bank, .int .u16 x.addr, .int .i64 (atI I x).1.op, .int .i64 (atI I x).1.d, .int .i64 (atI I x).1.s, .int .u16 (atI I x).1.imm, .int .u16 (atI I x).1.aux, .int .i64 (atI I x).1.bank, .int .i64 (atI I x).1.size]) rfl (by assumption) (fun W hS => zQ _ _ rfl _ _ rfl _ _ _ hS.1 (itmL I x) HE1.out (by kernel_rfl)) ?_; (refine pts ?_))
   (refine tz 4 ?_)
   (refine tz 5 ?_)
   (refine tz 6 ?_)
   (refine tkZ 7 (v := .agg #[.int .i64 x.bank, .int .u16 x.addr, .int .i64 (atI I x).1.op, .int .i64 (atI I x).1.d, .int .i64 (atI I x).1.s, .int .u16 (atI I x).1.imm, .int .u16 (atI I x).1.aux, .int .i64 (atI I x).1.bank, .int .i64 (atI I x).1.size]) rfl (by assumption) (fun W hS => zQ _ _ rfl _ _ rfl _ _ _ hS.2 (itmL I x) HE2.out (by kernel_rfl)) ?_; (refine pts ?_))
   refine z8 8 ?_
   simp only [List.drop_succ_cons, List.drop_zero]
   clear hHeld
   go_wp2_with fail
   go_roundw
   case rel => exact ⟨m + 1, HLT.out, by go_num, zh HW.out.drew⟩
   case measure => have h1 := HLT.out; simp [intOf]; omega
  ·obtain rfl : m = l.length := by omega
   go_wp2_with fail
   go_ret
   exact ⟨rfl, HW.out⟩
set_option maxRecDepth 100000 in
set_option maxHeartbeats 4000000 in
theorem same5_any (l : List zb) (A1 A2 : Option Addr) (c1 c2 : Nat) (w : World) (h1 : RdS w 2 A1 l.length c1 (zp l)) (h2 : RdS w 2 A2 l.length c2 (zp l)) (hl : l.length ≤ 9223372036854775807) :
  Calls Tryz.prog 39 #[.slice A1 l.length c1, .slice A2 l.length c2] w fun e w' => e = .returned (.bool true) ∧ Below w.heap.size w w' := by
 have HA := zh h1
 have HB := zh h2
 have ha := h1.le
 have hb := h2.le
 clear h1 h2
 go_enter Tryz.func39, Tryz.ntmps39
 go_wp2_with fail
 go_loopw [5] (fun i wr => ∃ m : Nat, m ≤ l.length ∧ i = .int .i64 m ∧ Hid (Below w.heap.size w wr)) (fun i _ => l.length - (intOf i).toNat)
 case atStart => exact ⟨0, Nat.zero_le _, rfl, zh (Below.refl _ _)⟩
 case round =>
  obtain ⟨m, hm, rfl, HW⟩ := hrel
  by_cases hlt : m < l.length
  ·obtain ⟨x, hx⟩ : ∃ x, l[m]? = some x := ⟨_, List.getElem?_eq_getElem hlt⟩
   obtain ⟨g1, o1, cur1, T1, fr1, rfl, hg1, hex1⟩ := RdS.elt (f := yQ) (fun _ => rfl) (HA.out.below HW.out) hx
   obtain ⟨g2, o2, cur2, T2, fr2, rfl, hg2, hex2⟩ := RdS.elt (f := yQ) (fun _ => rfl) (HB.out.below HW.out) hx
   have HE1 := zh hex1
   have HE2 := zh hex2
   have HG := zh (And.intro hg1 hg2)
   have HLT := zh hlt
   clear hx hg1 hg2 hex1 hex2
   go_upto_region 6 with fail
   refine zr (S := fun W => W.heap[g1]? = some (.cells cur1 T1 fr1) ∧ W.heap[g2]? = some (.cells cur2 T2 fr2)) [8] (by kernel_rfl) ⟨HG.out.1, HG.out.2⟩ (fun hHeld => ?_)
   (refine tz 0 ?_)
   (refine tz 1 ?_)
   (refine tz 2 ?_)
   (refine tkZ 3 (v := .agg #[.int .i64 x.bank, .int .u16 x.addr]) rfl (by assumption) (fun W hS => zQ _ _ rfl _ _ rfl _ _ _ hS.1 (yQ x) HE1.out (by kernel_rfl)) ?_; (refine pts ?_))
   (refine tz 4 ?_)
   (refine tz 5 ?_)
   (refine tz 6 ?_)
   (refine tkZ 7 (v := .agg #[.int .i64 x.bank, .int .u16 x.addr]) rfl (by assumption) (fun W hS => zQ _ _ rfl _ _ rfl _ _ _ hS.2 (yQ x) HE2.out (by kernel_rfl)) ?_; (refine pts ?_))
   refine z8 8 ?_
   simp only [List.drop_succ_cons, List.drop_zero]
   clear hHeld
   go_wp2_with fail
   go_roundw
   case rel => exact ⟨m + 1, HLT.out, by go_num, zh HW.out.drew⟩
   case measure => have h1 := HLT.out; simp [intOf]; omega
  ·obtain rfl : m = l.length := by omega
   go_wp2_with fail
   go_ret
   exact ⟨rfl, HW.out⟩
theorem y2 {α : Type} {l : List α} {m : Nat} {x : α} (hx : l[m]? = some x) (p : α) : p ∈ l.take (m + 1) ↔ p ∈ l.take m ∨ p = x := by
 rw [List.take_succ, hx, List.mem_append]
 simp
def RxP (R : List RtR) (p : zb) (w : World) (e : Ending) (w' : World) : Prop := ((∃ (k : Nat) (x : RtR), R[k]? = some x ∧ x.1.entry = p ∧ e = .returned (.int .i64 k)) ∨ (p ∉ yy R ∧ e = .returned (.int .i64 (-1)))) ∧ Below w.heap.size w w'
theorem entL_take {R : List RtR} {m : Nat} {x : RtR} (hx : R[m]? = some x) (p : zb) : p ∈ yy (R.take (m + 1)) ↔ p ∈ yy (R.take m) ∨ p = x.1.entry := by
 unfold yy
 rw [List.take_succ, hx, List.map_append, List.mem_append]
 simp
set_option maxRecDepth 100000 in
set_option maxHeartbeats 4000000 in
theorem routine5_any (R : List RtR) (p : zb) (A : Option Addr) (c : Nat) (w : World) (h : RdS w 8 A R.length c (R.flatMap x6)) (hl : R.length ≤ 9223372036854775807) :
  Calls Tryz.prog 21 #[.slice A R.length c, .agg #[.int .i64 p.bank, .int .u16 p.addr]] w (RxP R p w) := by
 have HA := zh h
 have ha := h.le
 clear h
 have HX := zh (Bx.one w (zo p))
 go_enter Tryz.func21, Tryz.ntmps21
 go_upto_region 1 with fail
 obtain ⟨wi, hwi⟩ : ∃ wi, w.alloc (zo p) = wi := ⟨_, rfl⟩
 rw [hwi] at HX ⊢
 clear hwi
 go_wp2_with fail
 go_loopw [5] (fun i wr => ∃ m : Nat, m ≤ R.length ∧ i = .int .i64 m ∧ Hid (p ∉ yy (R.take m)) ∧ Hid (Bx [zo p] w wr)) (fun i _ => R.length - (intOf i).toNat)
 case atStart => exact ⟨0, Nat.zero_le _, rfl, zh (by simp [yy]), HX⟩
 case round =>
  clear HX
  obtain ⟨m, hm, rfl, HN, HX⟩ := hrel
  by_cases hlt : m < R.length
  ·obtain ⟨x, hx⟩ : ∃ x, R[m]? = some x := ⟨_, List.getElem?_eq_getElem hlt⟩
   obtain ⟨g1, o1, cur1, T1, fr1, rfl, hg1, hex1, -, -⟩ := RdS.eltPart (f := x6) (fun _ => rfl) (HA.out.below HX.out.bb) hx (a := 0) (m := 2) (by omega) (L := yQ x.1.entry) rfl
   have HE1 := zh hex1
   have HG := zh (And.intro hg1 HX.out.b0)
   have HLT := zh hlt
   have HXX := zh hx
   clear hg1 hex1 hx
   go_upto_region 4 with fail
   refine zr (S := fun W => W.heap[g1]? = some (.cells cur1 T1 fr1) ∧ W.heap[w.heap.size]? = some (zo p)) [6] (by kernel_rfl) ⟨HG.out.1, HG.out.2⟩ (fun hHeld => ?_)
   (refine tz 0 ?_)
   (refine tz 1 ?_)
   (refine tz 2 ?_)
   (refine tz 3 ?_)
   (refine tkZ 4 (v := .agg #[.int .i64 x.1.entry.bank, .int .u16 x.1.entry.addr]) rfl (by assumption) (fun W hS => zQ _ _ rfl _ _ rfl _ _ _ hS.1 (yQ x.1.entry) HE1.out (by kernel_rfl)) ?_; (refine pts ?_))
   (refine tkZ 5 (v := .agg #[.int .i64 p.bank, .int .u16 p.addr]) rfl (by assumption) (fun W hS => zW _ _ rfl _ rfl _ _ _ hS.2 (by kernel_rfl)) ?_; (refine pts ?_))
   refine z8 6 ?_
   simp only [List.drop_succ_cons, List.drop_zero]
   clear hHeld
   by_cases he : x.1.entry = p
   ·subst he
    go_wp2_with fail
    go_ret
    exact ⟨.inl ⟨m, x, HXX.out, rfl, rfl⟩, HX.out.bb.drew⟩
   ·have HNE := zh he
    go_upto_if 18 with fail
    ·exact absurd (zb.ext' (by assumption) (by assumption)) he
    all_goals
     go_wp2_with fail
     go_roundw
     case rel => exact ⟨m + 1, HLT.out, by go_num, zh (by rw [entL_take HXX.out]; exact fun h => h.elim HN.out fun e => HNE.out e.symm), zh (HX.out.stay (Below.refl _ _).drew)⟩
     case measure => have h1 := HLT.out; simp [intOf]; omega
  ·obtain rfl : m = R.length := by omega
   have HM := zh (show p ∉ yy R by have := HN.out; rwa [List.take_of_length_le (zn _)] at this)
   go_wp2_with fail
   go_ret
   exact ⟨.inr ⟨HM.out, rfl⟩, HX.out.bb⟩
end Go.Proofs.YteofmaiojepdkaaGreat
namespace Go.Proofs.YteofmaiojepdkaaGreat
open Go Go.RowKit Go.Maps Go.Sort
def PutP (l : List zb) (p : zb) (A0 : Option Addr) (c0 : Nat) (w : World) (e : Ending) (w' : World) : Prop := ∃ A c, e = .returned (.slice A (insP l p).length c) ∧ RdS w' 2 A (insP l p).length c (zp (insP l p)) ∧
 ((A = A0 ∧ c = c0 ∧ insP l p = l) ∨ w'.ownsRow w.heap.size 47 2 (.slice A (insP l p).length c) (insP l p).length (zp (insP l p))) ∧ Below w.heap.size w w'
theorem PutP.own {l : List zb} {p : zb} {A0 : Option Addr} {c0 : Nat} {w w' : World} {B : Nat} {A : Option Addr} {c n : Nat} {xs : List zb} (hn : n = xs.length) (he : insP l p = xs) (hB : w.heap.size ≤ B) (ho : w'.ownsRow B 47 2 (.slice A n c) n (zp xs)) (hb : Below w.heap.size w w') : PutP l p A0 c0 w (.returned (.slice A n c)) w' := by
 subst hn he
 exact ⟨A, c, rfl, yd ho, .inr (ho.mono hB), hb⟩
theorem insP_in {l : List zb} {p : zb} (h : p ∈ l) : insP l p = l := by unfold insP insL_; rw [if_pos h]
theorem insP_out {l : List zb} {p : zb} (h : p ∉ l) {o : List zb} {d : Bool} (hf : jg zP p l = (o, d)) : insP l p = if d = true then o else o ++ [p] := by
 unfold insP insL_
 rw [if_neg h, hf]
theorem insF_next {l : List zb} {p x : zb} {m : Nat} (hx : l[m]? = some x) {o : List zb} {d : Bool} (hf : jg zP p (l.take m) = (o, d)) : jg zP p (l.take (m + 1)) = if d = false ∧ zP p x then (o ++ [p] ++ [x], true) else (o ++ [x], d) := by
 rw [List.take_succ, hx]
 show jg zP p (l.take m ++ [x]) = _
 rw [insF_snoc, hf]
 rfl
theorem plcs_put (o : List zb) (x : zb) : zp o ++ [.int .i64 x.bank, .int .u16 x.addr] = zp (o ++ [x]) := by
 rw [xx]
 rfl
theorem insF_small {l : List zb} {p : zb} {m : Nat} (hm : m ≤ l.length) {o : List zb} {d : Bool} (hf : jg zP p (l.take m) = (o, d)) : o.length ≤ l.length + 1 := by
 have h1 := (insF_le zP p (l.take m)).1
 rw [hf, List.length_take] at h1
 have h2 : d.toNat ≤ 1 := by cases d <;> decide
 dsimp only at h1
 omega
set_option maxRecDepth 100000 in
set_option maxHeartbeats 8000000 in
theorem put5_any (l : List zb) (p : zb) (A : Option Addr) (c : Nat) (w : World) (h : RdS w 2 A l.length c (zp l)) (hl : l.length ≤ 1000000000) :
  Calls Tryz.prog 26 #[.slice A l.length c, .agg #[.int .i64 p.bank, .int .u16 p.addr]] w (PutP l p A c w) := by
 have HA := zh h
 have ha := h.le
 clear h
 have HX := zh (Bx.one w (zo p))
 go_enter Tryz.func26, Tryz.ntmps26
 go_upto_region 1 with fail
 obtain ⟨wi, hwi⟩ : ∃ wi, w.alloc (zo p) = wi := ⟨_, rfl⟩
 rw [hwi] at HX ⊢
 clear hwi
 have HB0 := zh HX.out.b0
 have HBI := zh HX.out.bb
 clear HX
 go_wp2_with fail
 go_loopw [5, 6, 7] (fun vo vd i wr => ∃ (m : Nat) (o : List zb) (d : Bool), m ≤ l.length ∧ i = .int .i64 m ∧ vd = .bool d ∧ Hid (jg zP p (l.take m) = (o, d)) ∧ Hid (p ∉ l.take m) ∧ Hid (wr.ownsRow wi.heap.size 47 2 vo o.length (zp o)) ∧ Hid (Below wi.heap.size wi wr)) (fun _ _ i _ => l.length - (intOf i).toNat)
 case atStart => exact ⟨0, [], false, Nat.zero_le _, rfl, rfl, zh rfl, zh (by simp), zh (World.ownsRow_nil _ _ _ _), zh (Below.refl _ _)⟩
 case round =>
  obtain ⟨m, o, d, hm, rfl, rfl, HF, HN, HO, HB⟩ := hrel
  obtain ⟨Ao, co, rfl, -⟩ := zt HO.out
  have hol := insF_small hm HF.out
  by_cases hlt : m < l.length
  ·obtain ⟨x, hx⟩ : ∃ x, l[m]? = some x := ⟨_, List.getElem?_eq_getElem hlt⟩
   obtain ⟨g1, o1, cur1, T1, fr1, rfl, hg1, hex1⟩ := RdS.elt (f := yQ) (fun _ => rfl) (HA.out.below HBI.out) hx
   have HE1 := zh hex1
   have HS := zh (fun W (hb : Below wi.heap.size wi W) => show W.heap[g1]? = some (.cells cur1 T1 fr1) ∧ W.heap[w.heap.size]? = some (zo p) from ⟨za hb hg1, za hb HB0.out⟩)
   have HLT := zh hlt
   have HXX := zh hx
   have HBF := zh (fun W => before_any p x W)
   clear hg1 hex1 hx
   go_upto_region 6 with fail
   refine zr (S := fun W => W.heap[g1]? = some (.cells cur1 T1 fr1) ∧ W.heap[w.heap.size]? = some (zo p)) [] (by kernel_rfl) (HS.out _ HB.out.drew) (fun hHeld => ?_)
   (refine tz 0 ?_)
   (refine tz 1 ?_)
   (refine tkZ 2 (v := .pointer (some ⟨g1, o1 + m * 2, none⟩)) rfl (by assumption) (fun W hS => by clear hS; go_simp; first | done | rfl) ?_; (refine pts ?_))
   (refine tkZ 3 (v := .agg #[.int .i64 x.bank, .int .u16 x.addr]) rfl (by assumption) (fun W hS => zQ _ _ rfl _ _ rfl _ _ _ hS.1 (yQ x) HE1.out (by kernel_rfl)) ?_; (refine pts ?_))
   (refine tkZ 4 (v := .agg #[.int .i64 p.bank, .int .u16 p.addr]) rfl (by assumption) (fun W hS => zW _ _ rfl _ rfl _ _ _ hS.2 (by kernel_rfl)) ?_; (refine pts ?_))
   have HWD := zh (HB.out.trans ((Below.refl wr.heap.size wr).drew.mono HB.out.size))
   have HOD := zh (zi HO.out (zg.ofBelow (bs := fun _ => False) (Below.refl wr.heap.size wr).drew) (fun _ _ e => e))
   obtain ⟨wd, hwd⟩ : ∃ wd, wr.drew = wd := ⟨_, rfl⟩
   rw [hwd] at HWD HOD hHeld ⊢
   clear hwd
   by_cases he : x = p
   ·subst he
    have HM := zh (insP_in (List.mem_of_getElem? HXX.out))
    (refine tkZ 5 (v := .bool true) rfl (by assumption) (fun W hS => by clear hS; go_simp; first | done | rfl) ?_; (refine pts ?_))
    refine z8 6 ?_
    simp only [List.drop_succ_cons, List.drop_zero]
    clear hHeld
    go_wp2_with fail
    go_ret
    exact ⟨some ⟨g1, o1, none⟩, c, by rw [HM.out]; rfl, by rw [HM.out]; exact (HA.out.below HBI.out).below HWD.out, .inl ⟨rfl, rfl, HM.out⟩, HBI.out.trans (HWD.out.mono HBI.out.size)⟩
   ·have HNE := zh he
    (refine tkZ 5 (v := .bool false) rfl (by assumption) (fun W hS => by
     clear hS
     have hne : ¬ (x.bank = p.bank ∧ x.addr = p.addr) := fun h => he (zb.ext' h.1 h.2)
     by_cases d1 : x.bank = p.bank
     ·have d2 : ¬ x.addr = p.addr := fun h => hne ⟨d1, h⟩
      clear hne
      go_simp
      first | done | rfl | simp [d1, d2]
     ·clear hne
      go_simp
      first | done | rfl | simp [d1]) ?_; (refine pts ?_))
    refine z8 6 ?_
    simp only [List.drop_succ_cons, List.drop_zero]
    clear hHeld
    go_upto_region 8 with fail
    all_goals
     clear he
     refine zr (S := fun W => W.heap[g1]? = some (.cells cur1 T1 fr1) ∧ W.heap[w.heap.size]? = some (zo p)) [6] (by kernel_rfl) (HS.out _ HWD.out.drew) (fun hHeld => ?_)
     (refine tkZ 0 (v := .agg #[.int .i64 p.bank, .int .u16 p.addr]) rfl (by assumption) (fun W hS => zW _ _ rfl _ rfl _ _ _ hS.2 (by kernel_rfl)) ?_; (refine pts ?_))
     (refine tz 1 ?_)
     (refine tz 2 ?_)
     (refine tkZ 3 (v := .pointer (some ⟨g1, o1 + m * 2, none⟩)) rfl (by assumption) (fun W hS => by clear hS; go_simp; first | done | rfl) ?_; (refine pts ?_))
     (refine tkZ 4 (v := .agg #[.int .i64 x.bank, .int .u16 x.addr]) rfl (by assumption) (fun W hS => zQ _ _ rfl _ _ rfl _ _ _ hS.1 (yQ x) HE1.out (by kernel_rfl)) ?_; (refine pts ?_))
     clear hHeld
     refine yx 5 rfl (fun K hK => ?_)
     go_simp
     go_at_call 24
     (with_reducible refine (HBF.out _).mono ?_)
     rintro e9 w9 ⟨rfl, hb9⟩
     have HB9 := zh (HWD.out.trans (((Below.refl wd.heap.size wd).drew.trans (hb9.mono (Below.refl wd.heap.size wd).drew.size)).mono HWD.out.size))
     have HO9 := zh (zi HOD.out (zg.ofBelow (bs := fun _ => False) ((Below.refl wd.heap.size wd).drew.trans (hb9.mono (Below.refl wd.heap.size wd).drew.size))) (fun _ _ e => e))
     clear hb9 HWD HOD
     obtain ⟨bb, hbb⟩ : ∃ bb, decide (zP p x) = bb := ⟨_, rfl⟩
     rw [hbb]
     have HBB := zh hbb
     clear hbb
     go_simp
     refine hK.out _ _ (.inr (HS.out _ HB9.out)) ?_
     (refine pts ?_)
     clear hK K
     refine z8 6 ?_
     simp only [List.drop_succ_cons, List.drop_zero]
     have hNX := insF_next HXX.out HF.out
     have hNM : p ∉ l.take (m + 1) := by rw [y2 HXX.out]; exact fun h => h.elim HN.out fun e => HNE.out e.symm
     have HNM := zh hNM
     clear hNM
     by_cases hc : d = false ∧ bb = true
     ·obtain ⟨rfl, rfl⟩ := hc
      rw [if_pos ⟨rfl, of_decide_eq_true HBB.out⟩] at hNX
      have HNX := zh hNX
      clear hNX
      go_upto_region 12 with (first
       | (refine ldT 47 ((HS.out _ HB9.out).2) ?_)
       | (at_builtin; go_must
        (refine zJ (.tmp 33) (.tmp 35) 40 47 rfl 2 16 _ y7 Tryz.underlying40 rfl (by decide) (by decide) wi.heap.size (Nat.le_trans HB9.out.size (by simp)) (.slice Ao o.length co) o.length (zp o) rfl (HO9.out.alloc _) (by omega) w9.heap.size 1 _ _ _ rfl (heap_alloc_new w9 _) rfl rfl (by decide) (by decide) rfl ?_
         intro ga cp w6 ho6 hg6 hv6
         have HO6 := zh (show w6.ownsRow wi.heap.size 47 2 _ (o.length + 1) (zp (o ++ [p])) by rw [← plcs_put]; exact ho6)
         have HB6 := zh (HB9.out.trans ((((Below.refl w9.heap.size w9).alloc (zn _) _).mono HB9.out.size).grown hg6 (Nat.le_trans HB9.out.size (by simp)) (fun k hk => (HO9.out.lt k hk).1)))
         clear ho6 hg6 hv6)))
      go_wp2_with (first
       | (refine lmT 47 ([.int .i64 x.bank, .int .u16 x.addr]) ((HS.out _ HB6.out).1) (HE1.out) ?_)
       | (at_builtin; go_must
        (refine zJ (.tmp 37) (.tmp 42) 40 47 rfl 2 16 _ y7 Tryz.underlying40 rfl (by decide) (by decide) wi.heap.size (Nat.le_trans HB6.out.size (by simp)) (.slice (some ⟨ga, 0, none⟩) (o.length + 1) cp) (o.length + 1) (zp (o ++ [p])) rfl (HO6.out.alloc _) (by omega) w6.heap.size 1 _ _ _ rfl (heap_alloc_new w6 _) rfl rfl (by decide) (by decide) rfl ?_
         intro ga7 cp7 w7 ho7 hg7 hv7
         have HO7 := zh (show w7.ownsRow wi.heap.size 47 2 _ (o.length + 1 + 1) (zp (o ++ [p] ++ [x])) by rw [← plcs_put (o ++ [p])]; exact ho7)
         have HB7 := zh (HB6.out.trans ((((Below.refl w6.heap.size w6).alloc (zn _) _).mono HB6.out.size).grown hg7 (Nat.le_trans HB6.out.size (by simp)) (fun k hk => (HO6.out.lt k hk).1)))
         clear ho7 hg7 hv7)))
      go_roundw
      case rel => exact ⟨m + 1, o ++ [p] ++ [x], true, HLT.out, by go_num, rfl, HNX, HNM, by simpa using HO7, HB7⟩
      case measure => have h1 := HLT.out; simp [intOf]; omega
     ·rw [if_neg (fun h => hc ⟨h.1, HBB.out.symm.trans (decide_eq_true h.2)⟩)] at hNX
      have HNX := zh hNX
      clear hNX
      have hcv : d = true ∨ (d = false ∧ bb = false) := by cases d <;> cases bb <;> simp_all
      rcases hcv with rfl | ⟨rfl, rfl⟩
      all_goals
       clear hc
       go_wp2_with (first
        | (refine lmT 47 ([.int .i64 x.bank, .int .u16 x.addr]) ((HS.out _ HB9.out).1) (HE1.out) ?_)
        | (at_builtin; go_must
         (refine zJ (.tmp 37) (.tmp 42) 40 47 rfl 2 16 _ y7 Tryz.underlying40 rfl (by decide) (by decide) wi.heap.size (Nat.le_trans HB9.out.size (by simp)) (.slice Ao o.length co) o.length (zp o) rfl (HO9.out.alloc _) (by omega) w9.heap.size 1 _ _ _ rfl (heap_alloc_new w9 _) rfl rfl (by decide) (by decide) rfl ?_
          intro ga7 cp7 w7 ho7 hg7 hv7
          have HO7 := zh (show w7.ownsRow wi.heap.size 47 2 _ (o.length + 1) (zp (o ++ [x])) by rw [← plcs_put]; exact ho7)
          have HB7 := zh (HB9.out.trans ((((Below.refl w9.heap.size w9).alloc (zn _) _).mono HB9.out.size).grown hg7 (Nat.le_trans HB9.out.size (by simp)) (fun k hk => (HO9.out.lt k hk).1)))
          clear ho7 hg7 hv7)))
       go_roundw
       case rel => exact ⟨m + 1, o ++ [x], _, HLT.out, by go_num, rfl, HNX, HNM, by simpa using HO7, HB7⟩
       case measure => have h1 := HLT.out; simp [intOf]; omega
  ·obtain rfl : m = l.length := by omega
   have hN : p ∉ l := by have := HN.out; rwa [List.take_of_length_le (zn _)] at this
   have hF := HF.out
   rw [List.take_of_length_le (zn _)] at hF
   have hP := insP_out hN hF
   have HBX := zh (za HB.out HB0.out)
   cases d with
   | true =>
    have HP := zh (show insP l p = o from hP)
    clear hP hF hN
    go_wp2_with fail
    go_ret
    exact PutP.own rfl HP.out HBI.out.size HO.out (HBI.out.trans (HB.out.mono HBI.out.size))
   | false =>
    have HP := zh (show insP l p = o ++ [p] from hP)
    clear hP hF hN
    go_wp2_with (first
     | (refine ldT 47 (HBX.out) ?_)
     | (at_builtin; go_must
      (refine zJ (.tmp 46) (.tmp 48) 40 47 rfl 2 16 _ y7 Tryz.underlying40 rfl (by decide) (by decide) wi.heap.size (Nat.le_trans HB.out.size (by simp)) (.slice Ao o.length co) o.length (zp o) rfl (HO.out.alloc _) (by omega) wr.heap.size 1 _ _ _ rfl (heap_alloc_new wr _) rfl rfl (by decide) (by decide) rfl ?_
       intro ga7 cp7 w7 ho7 hg7 hv7
       have HO7 := zh (show w7.ownsRow wi.heap.size 47 2 _ (o.length + 1) (zp (o ++ [p])) by rw [← plcs_put]; exact ho7)
       have HB7 := zh (HB.out.trans ((((Below.refl wr.heap.size wr).alloc (zn _) _).mono HB.out.size).grown hg7 (Nat.le_trans HB.out.size (by simp)) (fun k hk => (HO.out.lt k hk).1)))
       clear ho7 hg7 hv7)))
    go_ret
    exact PutP.own (by simp) HP.out HBI.out.size HO7.out (HBI.out.trans (HB7.out.mono HBI.out.size))
end Go.Proofs.YteofmaiojepdkaaGreat
