/- Package link: facts for the walk of offsets: numbers in a block, sizes and offsets as they are filled. No condition beyond what each states. -/
import Derived.Test.YthebmoggbgldmaaLaLkF
import Derived.OwnWalk
set_option linter.all false
namespace Go.Proofs.Ythebmoggbgldmaa
open Go Go.RowKit Go.Maps
set_option maxRecDepth 100000 in
theorem noaddr_any (p : yw) (w : World) :
  Calls Try.prog 29 #[.agg #[.int .i64 p.bank, .int .u16 p.addr]] w fun e w' => e = .returned (.bool (!yp p)) ∧ Below w.heap.size w w' := by
 have HA := zh (fun W => address_any p W)
 cases hp : yp p with
 | true =>
  rw [hp] at HA
  clear hp
  obtain ⟨b, a⟩ := p
  go_enter Try.func29, Try.ntmps29
  go_wp2_with (first | (refine wpList_load_row rfl _ _ rfl _ rfl _ _ _ _ (heap_alloc_new _ _) rfl rfl ?_ ?_; kernel_rfl) | (go_at_call 27; refine (HA.out _).mono ?_; rintro e w1 ⟨rfl, hb1⟩))
  go_ret
  exact ⟨rfl, ((Below.refl _ _).alloc (zn _) _).trans (hb1.mono (by simp))⟩
 | false =>
  rw [hp] at HA
  clear hp
  obtain ⟨b, a⟩ := p
  go_enter Try.func29, Try.ntmps29
  go_wp2_with (first | (refine wpList_load_row rfl _ _ rfl _ rfl _ _ _ _ (heap_alloc_new _ _) rfl rfl ?_ ?_; kernel_rfl) | (go_at_call 27; refine (HA.out _).mono ?_; rintro e w1 ⟨rfl, hb1⟩))
  go_ret
  exact ⟨rfl, ((Below.refl _ _).alloc (zn _) _).trans (hb1.mono (by simp))⟩
def badK (ps : List yw) : Int := match ps.findIdx? (fun p => !yp p) with | some k => k | none => -1
theorem badK_ge (t : List yw) : decide (0 ≤ badK t) = t.any (fun p => !yp p) := by
 unfold badK
 cases h : t.findIdx? (fun p => !yp p) with
 | none =>
  rw [List.findIdx?_eq_none_iff] at h
  have : t.any (fun p => !yp p) = false := by rw [List.any_eq_false]; intro x hx; rw [h x hx]; simp
  rw [this]; rfl
 | some k =>
  obtain ⟨h1, h2, -⟩ := List.findIdx?_eq_some_iff_getElem.1 h
  have : t.any (fun p => !yp p) = true := by rw [List.any_eq_true]; exact ⟨_, List.getElem_mem h1, h2⟩
  rw [this]; simp
set_option maxRecDepth 100000 in
theorem indexP_any (t : List yw) (ao : Option Addr) (cap : Nat) (w : World) (hI : jj w (.slice ao t.length cap) t) (hl : t.length ≤ 100000) :
  Calls Try.prog 48 #[.slice ao t.length cap, .func (.func 29) #[] #[]] w fun e w' => e = .returned (.int .i64 (badK t)) ∧ Below w.heap.size w w' := by
 have HA := zh (fun p W => noaddr_any p W)
 have HI := zh hI
 clear hI
 go_enter Try.func48, Try.ntmps48
 go_wp2
 go_loopw [8] (fun i wr => ∃ k : Nat, k ≤ t.length ∧ i = .int .i64 k ∧ Hid (∀ j p, j < k → t[j]? = some p → yp p = true) ∧ Hid (Below w.heap.size w wr)) (fun i _ => t.length - (intOf i).toNat)
 case atStart => exact ⟨0, Nat.zero_le _, rfl, zh (fun j x h => by omega), zh (Below.refl _ _)⟩
 case round =>
  obtain ⟨k, hk, rfl, HP, HB⟩ := hrel
  by_cases hlt : k < t.length
  ·obtain ⟨x, hx⟩ : ∃ x, t[k]? = some x := ⟨_, List.getElem?_eq_getElem hlt⟩
   obtain ⟨ao', cap', e0, hc, h1⟩ := HI.out.below HB.out
   simp only [Value.slice.injEq, true_and] at e0
   obtain ⟨rfl, rfl⟩ := e0
   obtain ⟨q, off, c, T', fr', rfl, hq, h2⟩ := h1 (by omega)
   have HQ := zh hq
   have HX := zh (h2 k x hx)
   have HX0 := zh hx
   clear h2 hq h1 hx hc
   cases hp : yp x with
   | true =>
    have HY := zh (show ∀ W, Calls Try.prog 29 #[.agg #[.int .i64 x.bank, .int .u16 x.addr]] W fun e w' => e = .returned (.bool false) ∧ Below W.heap.size W w' from fun W => by have := HA.out x W; rw [hp] at this; exact this)
    have HPX := zh hp
    clear hp
    go_wp2_with (first | (refine z9 _ _ rfl _ _ rfl _ _ _ (HQ.out) ([.int .i64 x.bank, .int .u16 x.addr]) (HX.out) ?_ ?_ ?_; kernel_rfl; kernel_rfl) | (go_at_call 29; refine (HY.out _).mono ?_; rintro e w1 ⟨rfl, hb1⟩))
    go_roundw
    case rel =>
     refine ⟨k + 1, by omega, by go_num, zh fun j y hj hy => ?_, zh (HB.out.trans (hb1.mono HB.out.size))⟩
     by_cases e : j = k
     ·subst e; rw [HX0.out] at hy; cases hy; exact HPX.out
     ·exact HP.out j y (by omega) hy
    case measure => simp [intOf]; omega
   | false =>
    have HY := zh (show ∀ W, Calls Try.prog 29 #[.agg #[.int .i64 x.bank, .int .u16 x.addr]] W fun e w' => e = .returned (.bool true) ∧ Below W.heap.size W w' from fun W => by have := HA.out x W; rw [hp] at this; exact this)
    have HPX := zh hp
    clear hp
    go_wp2_with (first | (refine z9 _ _ rfl _ _ rfl _ _ _ (HQ.out) ([.int .i64 x.bank, .int .u16 x.addr]) (HX.out) ?_ ?_ ?_; kernel_rfl; kernel_rfl) | (go_at_call 29; refine (HY.out _).mono ?_; rintro e w1 ⟨rfl, hb1⟩))
    go_ret
    refine ⟨?_, HB.out.trans (hb1.mono HB.out.size)⟩
    have : t.findIdx? (fun p => !yp p) = some k := by
     rw [List.findIdx?_eq_some_iff_getElem]
     obtain ⟨h3, h4⟩ := List.getElem?_eq_some_iff.1 HX0.out
     refine ⟨h3, by rw [h4, HPX.out]; rfl, fun j hj => ?_⟩
     have := HP.out j t[j] hj (List.getElem?_eq_getElem (by omega))
     rw [this]; simp
    unfold badK
    rw [this]
    rfl
  ·have hke : k = t.length := by omega
   subst hke
   clear hlt
   go_wp2
   go_ret
   refine ⟨?_, HB.out⟩
   have : t.findIdx? (fun p => !yp p) = none := by
    rw [List.findIdx?_eq_none_iff]
    intro x hx
    obtain ⟨j, hj, rfl⟩ := List.mem_iff_getElem.1 hx
    rw [HP.out j t[j] hj (List.getElem?_eq_getElem hj)]; rfl
   unfold badK
   rw [this]
   rfl
set_option maxRecDepth 100000 in
theorem badP_any (t : List yw) (ao : Option Addr) (cap : Nat) (w : World) (hI : jj w (.slice ao t.length cap) t) (hl : t.length ≤ 100000) :
  Calls Try.prog 28 #[.slice ao t.length cap, .func (.func 29) #[] #[]] w fun e w' => e = .returned (.bool (t.any (fun p => !yp p))) ∧ Below w.heap.size w w' := by
 have HA := zh (indexP_any t ao cap w hI hl)
 have HG := zh (badK_ge t)
 clear hI
 go_enter Try.func28, Try.ntmps28
 go_wp2_with (go_at_call 48; refine (HA.out).mono ?_; rintro e w1 ⟨rfl, hb1⟩)
 go_ret
 rw [← HG.out]
 exact ⟨rfl, hb1⟩
end Go.Proofs.Ythebmoggbgldmaa
namespace Go.Proofs.Ythebmoggbgldmaa
open Go Go.RowKit Go.Maps
def viA (l : List Int) : Array Value := (l.map (Value.int .i64)).toArray
theorem viA_get {l : List Int} {i : Nat} {x : Int} (h : l[i]? = some x) : (viA l)[i]? = some (.int .i64 x) := by simp [viA, h]
theorem viA_set (l : List Int) (i : Nat) (x : Int) : (viA l).setIfInBounds i (.int .i64 x) = viA (l.set i x) := by
 apply Array.ext'
 simp [viA, List.map_set]
theorem own_full {w : World} {B : Nat} {e : TypeId} {g n : Nat} {xs : List Value} (h : w.ownsRow B e 1 (.slice (some ⟨g, 0, none⟩) n n) n xs) : w.heap[g]? = some (.cells xs.toArray e (0, 0)) := by
 obtain ⟨hl, h⟩ := h
 rcases h with ⟨h, -⟩ | ⟨g', c, cur, h, hB, hg, h1, h2, h3, h4⟩
 ·cases h
 ·simp only [Value.slice.injEq, Option.some.injEq, Addr.mk.injEq, and_true, true_and] at h
  obtain ⟨rfl, rfl⟩ := h
  have : cur = xs.toArray := by
   apply Array.ext'
   show cur.toList = xs
   have h5 : cur.toList.take (n * 1) = cur.toList := List.take_of_length_le (by simp; omega)
   rw [← h4, h5]
  rw [hg, this]
theorem made_ints (n : Nat) : (madeCells (Value.int .i64 0).cells (n * 1)).toList = (List.replicate n (0 : Int)).map (Value.int .i64) := by
 rw [Nat.mul_one, List.map_replicate]
 apply List.ext_getElem
 ·simp [madeCells]
 ·intro i h1 h2
  simp only [madeCells, Value.cells, Nat.mul_one]
  simp [Nat.mod_one]
def szI (s : List Int) (k : Nat) : List Int := s.take k ++ List.replicate (s.length - k) 0
theorem szI_len (s : List Int) {k : Nat} (h : k ≤ s.length) : (szI s k).length = s.length := by simp [szI]; omega
theorem szI_zero (s : List Int) : szI s 0 = List.replicate s.length 0 := by simp [szI]
theorem szI_all (s : List Int) : szI s s.length = s := by simp [szI]
theorem szI_set (s : List Int) {k : Nat} (h : k < s.length) : (szI s k).set k s[k] = szI s (k + 1) := by
 unfold szI
 rw [List.set_append_right _ _ (by rw [List.length_take]; omega), List.length_take, Nat.min_eq_left (Nat.le_of_lt h), Nat.sub_self, List.take_succ_eq_append_getElem h]
 rw [show s.length - k = (s.length - (k + 1)) + 1 by omega, List.replicate_succ, zE, List.append_assoc]
 rfl
theorem szI_at (s : List Int) {k : Nat} (h : k < s.length) : (szI s k)[k]? = some 0 := by
 unfold szI
 rw [List.getElem?_append_right (by rw [List.length_take]; omega), List.length_take, Nat.min_eq_left (Nat.le_of_lt h), Nat.sub_self, List.getElem?_replicate, if_pos (by omega)]
def xi (s : List Int) : List Int := (List.range (s.length + 1)).map (yM s)
theorem jm (s : List Int) : (xi s).length = s.length + 1 := by simp [xi]
theorem jH (s : List Int) {k : Nat} (h : k ≤ s.length) : (xi s)[k]? = some (yM s k) := by
 unfold xi
 rw [List.getElem?_map, List.getElem?_range (by omega)]; rfl
theorem offL_at (s : List Int) {k : Nat} (h : k < (xi s).length) : (xi s)[k] = yM s k := by simp [xi]
def rxI (ls : List zu) (s : List Int) (k : Nat) : List Int := (xr ls s).take k ++ s.drop k
theorem rxI_len {ls : List zu} {s : List Int} (hl : s.length = ls.length) {k : Nat} (h : k ≤ s.length) : (rxI ls s k).length = s.length := by
 simp [rxI, xa hl]; omega
theorem rxI_zero (ls : List zu) (s : List Int) : rxI ls s 0 = s := by simp [rxI]
theorem rxI_all {ls : List zu} {s : List Int} (hl : s.length = ls.length) : rxI ls s s.length = xr ls s := by
 unfold rxI
 rw [List.take_of_length_le (by rw [xa hl]; omega), List.drop_length, List.append_nil]
theorem rxI_at {ls : List zu} {s : List Int} (hl : s.length = ls.length) {k : Nat} (h : k < s.length) : (rxI ls s k)[k]? = some s[k] := by
 unfold rxI
 rw [List.getElem?_append_right (by rw [List.length_take, xa hl]; omega), List.length_take, xa hl, Nat.min_eq_left (by omega), Nat.sub_self, List.getElem?_drop]
 simp [h]
theorem rxI_set {ls : List zu} {s : List Int} (hl : s.length = ls.length) {k : Nat} (h : k < s.length) {x : Int} (hx : yx ls s (ls[k]'(by omega)) s[k] k = x) : (rxI ls s k).set k x = rxI ls s (k + 1) := by
 subst hx
 unfold rxI
 rw [List.set_append_right _ _ (by rw [List.length_take, xa hl]; omega), List.length_take, xa hl, Nat.min_eq_left (by omega), Nat.sub_self,
  List.take_succ_eq_append_getElem (show k < (xr ls s).length by rw [xa hl]; omega), pass_get hl k (by omega), List.drop_eq_getElem_cons h, zE, List.append_assoc]
 rfl
theorem jc {ls : List zu} {s : List Int} (hl : s.length = ls.length) {k : Nat} (h : k < s.length) (hx : yx ls s (ls[k]'(by omega)) s[k] k = s[k]) : rxI ls s k = rxI ls s (k + 1) := by
 rw [← rxI_set hl h hx]
 apply List.ext_getElem?
 intro j
 by_cases e : j = k
 ·subst e
  rw [rxI_at hl h, List.getElem?_set_self (by rw [rxI_len hl (by omega)]; exact h)]
 ·rw [List.getElem?_set_ne (Ne.symm e)]
def jO (ls : List zu) (s : List Int) (k : Nat) : Bool := decide ((xr ls s).take k = s.take k)
theorem sameTo_zero (ls : List zu) (s : List Int) : jO ls s 0 = true := by simp [jO]
theorem xo {ls : List zu} {s : List Int} (hl : s.length = ls.length) {k : Nat} (h : k < s.length) (hx : yx ls s (ls[k]'(by omega)) s[k] k = s[k]) : jO ls s k = jO ls s (k + 1) := by
 unfold jO
 rw [List.take_succ_eq_append_getElem (show k < (xr ls s).length by rw [xa hl]; omega), List.take_succ_eq_append_getElem h, pass_get hl k (by omega), hx]
 exact decide_eq_decide.2 ⟨fun e => by rw [e], fun e => List.append_cancel_right e⟩
theorem sameTo_no {ls : List zu} {s : List Int} (hl : s.length = ls.length) {k : Nat} (h : k < s.length) (hx : yx ls s (ls[k]'(by omega)) s[k] k ≠ s[k]) : jO ls s (k + 1) = false := by
 unfold jO
 rw [List.take_succ_eq_append_getElem (show k < (xr ls s).length by rw [xa hl]; omega), List.take_succ_eq_append_getElem h, pass_get hl k (by omega)]
 simp only [decide_eq_false_iff_not]
 intro e
 have e2 := congrArg List.getLast? e
 simp only [List.getLast?_append, List.getLast?_singleton] at e2
 simp at e2
 exact hx e2
theorem sameTo_all {ls : List zu} {s : List Int} (hl : s.length = ls.length) : jO ls s s.length = decide (xr ls s = s) := by
 unfold jO
 rw [List.take_length, List.take_of_length_le (by rw [xa hl]; omega)]
theorem exec_lookup_one {P : Program} {I : TypeId} (hI : P.underlying I = some (.int .i64)) {w : World} {g : Nat} {F : Int → Option Int} {o : Oper} {a : Act} {m x : Operand} {t : TypeId} (hop : o.op = Op.lookup t m x false) (ht : P.underlying t = some (.map I I)) (hz : (zeroValue I).run P w = .ok (.int .i64 0) w)
  (hm : a.eval m = .map (some g)) (h : MapW P I g F w) {k : Int} (hx : a.eval x = .int .i64 k) (hk : zX k) : (execOp a.eval o).run P w = .ok (.value (.int .i64 ((F k).getD 0))) w := by
 obtain ⟨D, hown, hv⟩ := h
 obtain ⟨c, hrun, hat, -⟩ := at_int hI hown ht hz hk
 obtain ⟨h1, -⟩ := viewD_get hat
 rw [hv] at h1
 rw [h1]
 unfold execOp
 simp [hop, hm, hx, hrun, Result.andThen]
structure OfW (w : World) (nm : ByteArray) (lv : Value) (m g : Nat) (sz : List Int) (W : World) : Prop where
 bb : Below w.heap.size w W
 b0 : W.heap[w.heap.size]? = some (.cells #[.string nm, lv, .map (some m)] 74 (0, 0))
 gs : w.heap.size < g
 sb : W.heap[g]? = some (.cells (viA sz) 3 (0, 0))
theorem OfW.stay {w nm lv m g sz W W'} (h : OfW w nm lv m g sz W) (hb : Below W.heap.size W W') : OfW w nm lv m g sz W' :=
 ⟨h.bb.trans (hb.mono h.bb.size), zf hb h.b0, h.gs, zf hb h.sb⟩
theorem OfW.set {w nm lv m g sz W} (h : OfW w nm lv m g sz W) (k : Nat) (x : Int) : OfW w nm lv m g (sz.set k x) (W.setCell ⟨g, k, none⟩ (.int .i64 x)) :=
 ⟨h.bb.setCell (Nat.le_of_lt h.gs) _, by rw [jU (by have := h.gs; omega)]; exact h.b0, h.gs, by rw [zW h.sb, viA_set]⟩
theorem OfW.cell {w nm lv m g sz W} (h : OfW w nm lv m g sz W) {k : Nat} {x : Int} (hx : sz[k]? = some x) : W.cell? ⟨g, k, none⟩ = some (.int .i64 x) := by
 rw [cell_of_row W g k _ _ _ h.sb]; exact viA_get hx
theorem OfW.froz {w nm lv m g sz W} (h : OfW w nm lv m g sz W) (k : Nat) : W.frozen? ⟨g, k, none⟩ = false := frozen_of_row W g k _ _ h.sb
end Go.Proofs.Ythebmoggbgldmaa
