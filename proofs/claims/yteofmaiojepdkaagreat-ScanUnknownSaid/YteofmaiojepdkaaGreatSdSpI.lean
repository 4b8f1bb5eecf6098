/- The reference of chapter 04: Fill, walked. No condition. -/
import Derived.Test.YteofmaiojepdkaaGreatSdSkY
import Derived.Laws.BytesArg
set_option linter.all false
namespace Go.Proofs.YteofmaiojepdkaaGreat
open Go
def xN (f : Nat → Int) : ByteArray := strOfNums ((List.range 4096).map f)
def winB (f : Nat → Int) (o n : Nat) : ByteArray := strOfNums ((List.range n).map fun j => f (o + j))
theorem filB_size (f : Nat → Int) : (xN f).size = 4096 := by unfold xN; rw [strOfNums_size]; simp
theorem winB_size (f : Nat → Int) (o n : Nat) : (winB f o n).size = n := by unfold winB; rw [strOfNums_size]; simp
theorem fil_extract (f : Nat → Int) (o n : Nat) (h : o + n ≤ 4096) : (xN f).extract o (o + n) = winB f o n := by
 apply ByteArray.ext
 apply Array.toList_inj.1
 unfold xN winB
 rw [ByteArray.data_extract, strOfNums_data, Array.toList_extract, strOfNums_data]
 simp only [List.extract_eq_take_drop, Nat.add_sub_cancel_left]
 apply List.ext_getElem?
 intro i
 by_cases hi : i < n
 ·rw [List.getElem?_take_of_lt hi, List.getElem?_drop]
  simp only [List.getElem?_map, List.getElem?_range hi, List.getElem?_range (show o + i < 4096 by omega), Option.map_some]
 ·rw [List.getElem?_eq_none (by simp; omega), List.getElem?_eq_none (by simp; omega)]
theorem win_byt (f : Nat → Int) (o n k : Nat) (h : k < n) (hf : 0 ≤ f (o + k) ∧ f (o + k) < 256) : byt (winB f o n) k = f (o + k) := by
 unfold byt winB
 rw [strOfNums_data, List.getD_eq_getElem?_getD]
 simp only [List.getElem?_map, List.getElem?_range h, Option.map_some, Option.getD_some]
 have h2 : (f (o + k)).toNat < 256 := by omega
 rw [UInt8.toNat_ofNat']
 rw [Nat.mod_eq_of_lt h2]
 omega
def atF (f : Nat → Int) (o : Nat) : Ins × Int :=
 if zI (f o) = 0 then (yG, 11)
 else if 4096 < o + (zI (f o)).toNat then (yG, 45)
 else if decE (winB f o (zI (f o)).toNat) = 0 then (decI (winB f o (zI (f o)).toNat), 0) else (yG, 11)
theorem at_none {I : zp} {p : zc} (h : inI I p = false) : atI I p = (yG, 45) := by
 unfold atI
 rw [if_pos]
 unfold zM
 rw [if_neg (by simp [h])]
 rfl
theorem at_fil {I : zp} {p : zc} {f : Nat → Int} (hb : I.banks[p.bank.toNat]? = some (xN f)) (hi : inI I p = true) (hf : ∀ k, 0 ≤ f k ∧ f k < 256) : atI I p = atF f (zJ p) := by
 have ho : zJ p < 4096 := by unfold zJ; omega
 have hbk : xp I p = xN f := by unfold xp; rw [List.getD_eq_getElem?_getD, hb]; rfl
 have h1 : zM I p 1 = winB f (zJ p) 1 := by
  unfold zM
  rw [if_pos ⟨hi, by omega⟩, hbk]
  exact fil_extract f _ 1 (by omega)
 have hb0 : byt (zM I p 1) 0 = f (zJ p) := by rw [h1]; exact win_byt f _ 1 0 (by omega) (hf _)
 have hcp : yd p = true := by unfold inI at hi; simp only [Bool.and_eq_true] at hi; exact hi.1
 have hoff : (zJ p : Int) = p.addr % 4096 := by unfold zJ; omega
 have hs : 0 ≤ zI (f (zJ p)) := by
  unfold zI
  split
  ·omega
  ·rename_i k _
   have h1 := xH (fAt k 2); have h2 := xH (fAt k 3); have h3 := xH (fAt k 4); have h4 := xH (fAt k 5)
   omega
 unfold atI atF
 rw [hb0, if_neg (by rw [h1, winB_size]; omega)]
 by_cases hz : zI (f (zJ p)) = 0
 ·rw [if_pos hz, if_pos hz]
 ·rw [if_neg hz, if_neg hz]
  by_cases hn : 4096 < zJ p + (zI (f (zJ p))).toNat
  ·rw [if_pos hn, if_pos]
   refine .inl ?_
   unfold xv
   rw [if_neg (by omega)]
   rfl
  ·have hc : zM I p (zI (f (zJ p))) = winB f (zJ p) (zI (f (zJ p))).toNat := by
    unfold zM
    rw [if_pos ⟨hi, by omega⟩, hbk]
    exact fil_extract f _ _ (by omega)
   rw [if_neg hn, if_neg, hc]
   rw [hc, winB_size]
   rintro (h | h)
   ·unfold xv at h
    rw [if_pos ⟨hcp, by omega, by omega⟩] at h
    cases h
   ·omega
def seqI (s : Int) : Nat → Int
 | 0 => s
 | k + 1 => (seqI s k * 1664525 + 1013904223) % 4294967296
def je (s : Int) (k : Nat) : Int := seqI s (k + 1) / 16777216
theorem filF_bd (s : Int) (k : Nat) : 0 ≤ je s k ∧ je s k < 256 := by
 unfold je
 rw [seqI]
 omega
end Go.Proofs.YteofmaiojepdkaaGreat
namespace Go.Proofs.YteofmaiojepdkaaGreat
open Go Go.RowKit Go.Maps Go.Sort
def pageT (off : Nat) (s : ByteArray) (m k : Nat) : Int := if off ≤ k ∧ k < off + m then byt s (k - off) else 0
def pageF (off : Nat) (s : ByteArray) (k : Nat) : Int := pageT off s s.size k
theorem pageT_bd (off : Nat) (s : ByteArray) (m k : Nat) : 0 ≤ pageT off s m k ∧ pageT off s m k < 256 := by
 unfold pageT
 split
 ·exact y4 _ _
 ·omega
theorem pageF_bd (off : Nat) (s : ByteArray) (k : Nat) : 0 ≤ pageF off s k ∧ pageF off s k < 256 := pageT_bd _ _ _ _
theorem pageT_zero (off : Nat) (s : ByteArray) : pageT off s 0 = fun _ => 0 := by
 funext k
 unfold pageT
 rw [if_neg (by omega)]
theorem pageT_put (off : Nat) (s : ByteArray) (m : Nat) : (fun k => if k = off + m then byt s m else pageT off s m k) = pageT off s (m + 1) := by
 funext k
 unfold pageT
 by_cases h : k = off + m
 ·rw [if_pos h, if_pos (by omega), show k - off = m by omega]
 ·rw [if_neg h]
  by_cases h2 : off ≤ k ∧ k < off + m
  ·rw [if_pos h2, if_pos (by omega)]
  ·rw [if_neg h2, if_neg (by omega)]
theorem conv_row {w : World} {g : Nat} {f : Nat → Int} {fr : Nat × Nat} (h : w.heap[g]? = some (.cells (rowC f) 5 fr)) : (convert 73 9 (.slice (some ⟨g, 0, none⟩) 4096 4096)).run Tryz.prog w = .ok (.string (xN f)) w := by
 refine run_convert_bytes_arg w _ _ Tryz.underlying73 Tryz.underlying5 g 0 4096 4096 ((List.range 4096).map f) (by simp) (fun i hi => ?_) _ Tryz.underlying9
 rw [Nat.zero_add, cell_of_row _ _ _ _ _ _ h, xY f hi, List.getD_eq_getElem?_getD]
 simp only [List.getElem?_map, List.getElem?_range hi, Option.map_some, Option.getD_some]
set_option maxRecDepth 100000 in
set_option maxHeartbeats 4000000 in
theorem page_any (off : Nat) (s : ByteArray) (ho : off ≤ 4096) (hs : off + s.size ≤ 4096) (w : World) :
  Calls Tryz.prog 29 #[.int .i64 off, .string s] w fun e w' => e = .returned (.string (xN (pageF off s))) ∧ Below w.heap.size w w' := by
 go_enter Tryz.func29, Tryz.ntmps29
 obtain ⟨iU, hiU, hzU, hzU1, hzU2⟩ := info_parts infoU8
 go_upto_region 2 with (refine wpList_make_full _ rfl _ _ 73 rfl w.heap.size 5 iU (.int .u8 0) 1 Tryz.underlying73 hiU hzU hzU1 .i64 .i64 4096 4096 4096 rfl rfl rfl rfl (by rw [hzU2]; decide) (by decide) (zn _) ?_; intro w3 ho3 hg3)
 have h3 := own_fullS ho3
 rw [← rowC_zero] at h3
 have H3 := zh h3
 have HB3 := zh (grown_noneS hg3)
 clear ho3 hg3 h3 hiU hzU hzU1 hzU2 iU
 go_wp2_with fail
 go_loopw [6] (fun i wr => ∃ m : Nat, m ≤ s.size ∧ i = .int .i64 m ∧ Hid (wr.heap[w.heap.size]? = some (.cells (rowC (pageT off s m)) 5 (0, 0))) ∧ Hid (Below w.heap.size w wr)) (fun i _ => s.size - (intOf i).toNat)
 case atStart => exact ⟨0, Nat.zero_le _, rfl, zh (by rw [pageT_zero]; exact H3.out), HB3⟩
 case round =>
  clear H3 HB3
  obtain ⟨m, hm, rfl, HM, HB⟩ := hrel
  by_cases hlt : m < s.size
  ·have hi1 : off + m < 4096 := by omega
   have hkc : wr.cell? ⟨w.heap.size, off + m, none⟩ = some (.int .u8 0) := by
    rw [cell_of_row _ _ _ _ _ _ HM.out, xY _ hi1]
    unfold pageT
    rw [if_neg (by omega)]
   have hkf : wr.frozen? ⟨w.heap.size, off + m, none⟩ = false := frozen_of_row _ _ _ _ _ HM.out
   have hix := y7 s m hlt
   have HLT := zh hlt
   go_upto_if 17 with fail
   go_wp2_with fail
   go_roundw
   case rel => exact ⟨m + 1, HLT.out, by go_num, zh (by rw [← pageT_put, ← rowC_set]; exact heap_setCell_same HM.out (i := off + m) _), zh (HB.out.setCell (p := ⟨w.heap.size, off + m, none⟩) (zn _) _)⟩
   case measure => have h1 := HLT.out; simp [intOf]; omega
  ·obtain rfl : m = s.size := by omega
   have hcv := conv_row HM.out
   go_wp2_with fail
   go_ret
   exact ⟨rfl, HB.out⟩
def yv (s : ByteArray) : zp := ⟨[xN (pageF 0 s)], 0, 0, []⟩
set_option maxRecDepth 100000 in
set_option maxHeartbeats 4000000 in
theorem image_any (s : ByteArray) (hs : s.size ≤ 4096) (w : World) :
  Calls Tryz.prog 36 #[.string s] w fun e w' => (∃ g, e = .returned (.agg #[.slice (some ⟨g, 0, none⟩) 1 1, .int .u16 0, .int .u16 0, .slice none 0 0, .slice none 0 0]) ∧ yw w' (yv s) (some ⟨g, 0, none⟩) 1 none 0) ∧ Below w.heap.size w w' := by
 have HPG := zh (fun W => show Calls Tryz.prog 29 #[.int .i64 0, .string s] W fun e w' => e = .returned (.string (xN (pageF 0 s))) ∧ Below W.heap.size W w' from page_any 0 s (by omega) (by omega) W)
 have hb0 : Below w.heap.size w (w.alloc (.cells #[.slice none 0 0, .int .u16 0, .int .u16 0, .slice none 0 0, .slice none 0 0] 31)) := (Below.refl _ _).alloc (zn _) _
 have h0 := heap_alloc_new w (.cells #[.slice none 0 0, .int .u16 0, .int .u16 0, .slice none 0 0, .slice none 0 0] 31)
 go_enter Tryz.func36, Tryz.ntmps36
 go_upto_region 1 with fail
 obtain ⟨w2, hw2⟩ : ∃ w2, w.alloc (.cells #[.slice none 0 0, .int .u16 0, .int .u16 0, .slice none 0 0, .slice none 0 0] 31) = w2 := ⟨_, rfl⟩
 rw [hw2] at hb0 h0 ⊢
 have HB0 := zh hb0
 have H0 := zh h0
 clear hw2 hb0 h0
 go_wp2_with (first
  | (go_at_call 29; (with_reducible refine (HPG.out _).mono ?_); rintro e3 w3 ⟨rfl, hb3⟩; have HB3 := zh hb3; have HB4 := zh (show Below w3.heap.size w3 (w3.alloc (.cells #[.string (xN (pageF 0 s))] 9)) from (Below.refl _ _).alloc (zn _) _); have H4 := zh (heap_alloc_new w3 (.cells #[.string (xN (pageF 0 s))] 9)); have H04 := zh (za HB4.out (za hb3 H0.out)); clear hb3)
  | (refine wpList_store_row rfl _ _ _ rfl _ _ rfl rfl _ _ (H04.out) ?_ ?_ ?_ ?_; kernel_rfl; rfl; kernel_rfl))
 refine bodyPost_ret (results_cell_row (cs := #[.slice (some ⟨w3.heap.size, 0, none⟩) 1 1, .int .u16 0, .int .u16 0, .slice none 0 0, .slice none 0 0]) (fr := (0, 0)) Tryz.results36 _ _ w.heap.size 31 _ ?_ (setRow_heap _ _ _ _ _ _ H04.out) Tryz.underlying31 rfl (by kernel_rfl)) rfl ?_
 ·rfl
 ·have hz : w.heap.size < w3.heap.size := Nat.lt_of_lt_of_le (Array.getElem?_eq_some_iff.1 H0.out).1 HB3.out.size
  have htw : zl (fun k => k = w.heap.size) (w3.alloc (.cells #[.string (xN (pageF 0 s))] 9)) ((w3.alloc (.cells #[.string (xN (pageF 0 s))] 9)).setRow w.heap.size #[.slice (some ⟨w3.heap.size, 0, none⟩) 1 1, .int .u16 0, .int .u16 0, .slice none 0 0, .slice none 0 0]) := (zl.refl _ _).setRow _ (fun _ => rfl)
  refine ⟨⟨w3.heap.size, rfl, ⟨⟨zn _, rfl, fun _ => ⟨w3.heap.size, 0, _, _, _, rfl, htw.heap H4.out (fun e => by have e2 : w3.heap.size = w.heap.size := e; omega), fun j hj => ?_⟩⟩, ⟨zn _, rfl, fun h => by cases h⟩⟩⟩, HB0.out.trans (((HB3.out.mono HB0.out.size).trans (HB4.out.mono (by omega))).trans (htw.toBelow (by have := HB4.out.size; omega) (fun k e => by have e2 : k = w.heap.size := e; omega)))⟩
  rw [Nat.zero_add]
  exact (Array.getElem?_toList ..).symm
instance : DecidableEq yi := fun a b => decidable_of_iff (a.kind = b.kind ∧ a.at_ = b.at_) ⟨fun h => yi.ext' h.1 h.2, fun h => by rw [h]; exact ⟨rfl, rfl⟩⟩
theorem iss_row {w : World} {A : Option Addr} {c : Nat} {l : List yi} (h : RdS w 3 A l.length c (xl l)) {k : Nat} {x : yi} (hx : l[k]? = some x) :
  ∃ g off cur T fr, A = some ⟨g, off, none⟩ ∧ w.heap[g]? = some (.cells cur T fr) ∧ (cur.extract (off + k * 3) (off + k * 3 + 3)).toList = issL x := by
 obtain ⟨g, off, cur, T, fr, e, hg, hex, -, -⟩ := h.row (List.getElem?_eq_some_iff.1 hx).1
 rw [show xl l = l.flatMap issL from rfl, xM issL 3 (fun _ => rfl) l k x hx] at hex
 exact ⟨g, off, cur, T, fr, e, hg, hex⟩
theorem take_same {α : Type} {a b : List α} {m : Nat} {x y : α} (h : a.take m = b.take m) (hx : a[m]? = some x) (hy : b[m]? = some y) (e : x = y) : a.take (m + 1) = b.take (m + 1) := by
 rw [List.take_succ, List.take_succ, h, hx, hy, e]
set_option maxRecDepth 100000 in
set_option maxHeartbeats 4000000 in
theorem issues_any (a b : List yi) (A1 A2 : Option Addr) (c1 c2 : Nat) (w : World) (h1 : RdS w 3 A1 a.length c1 (xl a)) (h2 : RdS w 3 A2 b.length c2 (xl b)) (hl : a.length ≤ 9223372036854775807) (hl2 : b.length ≤ 9223372036854775807) :
  Calls Tryz.prog 32 #[.slice A1 a.length c1, .slice A2 b.length c2] w fun e w' => e = .returned (.bool (decide (a = b))) ∧ Below w.heap.size w w' := by
 have HA := zh h1
 have HB := zh h2
 have ha := h1.le
 have hb := h2.le
 clear h1 h2
 go_enter Tryz.func32, Tryz.ntmps32
 by_cases hab : (a.length : Int) = b.length
 ·have hab2 : a.length = b.length := by omega
  have HAB := zh hab2
  go_upto_if 10 with fail
  go_wp2_with fail
  clear hab hab2
  go_loopw [5] (fun i wr => ∃ m : Nat, m ≤ a.length ∧ i = .int .i64 m ∧ Hid (a.take m = b.take m) ∧ Hid (Below w.heap.size w wr)) (fun i _ => a.length - (intOf i).toNat)
  case atStart => exact ⟨0, Nat.zero_le _, rfl, zh rfl, zh (Below.refl _ _)⟩
  case round =>
   obtain ⟨m, hm, rfl, HT, HW⟩ := hrel
   by_cases hlt : m < a.length
   ·obtain ⟨x, hx⟩ : ∃ x, a[m]? = some x := ⟨_, List.getElem?_eq_getElem hlt⟩
    obtain ⟨y, hy⟩ : ∃ y, b[m]? = some y := ⟨_, List.getElem?_eq_getElem (by have := HAB.out; omega)⟩
    obtain ⟨g1, o1, cur1, T1, fr1, rfl, hg1, hex1⟩ := iss_row (HA.out.below HW.out) hx
    obtain ⟨g2, o2, cur2, T2, fr2, rfl, hg2, hex2⟩ := iss_row (HB.out.below HW.out) hy
    have HX := zh hx
    have HY := zh hy
    have HE1 := zh hex1
    have HE2 := zh hex2
    have HG := zh (And.intro hg1 hg2)
    have HLT := zh hlt
    have hlt2 : m < b.length := by have := HAB.out; omega
    clear hx hy hg1 hg2 hex1 hex2
    go_upto_region 6 with fail
    refine zm (S := fun W => W.heap[g1]? = some (.cells cur1 T1 fr1) ∧ W.heap[g2]? = some (.cells cur2 T2 fr2)) [8] (by kernel_rfl) ⟨HG.out.1, HG.out.2⟩ (fun hHeld => ?_)
    (refine tkZ 0 (v := ?_) rfl (by assumption) ?_ ?_; rotate_left; (focus (intro w hSw; (try dsimp only at hSw); go_simp; try with_reducible rfl)); (try simp only [zA, zB, zC, Act.put, zD, zE, zF]))
    (refine tkZ 1 (v := ?_) rfl (by assumption) ?_ ?_; rotate_left; (focus (intro w hSw; (try dsimp only at hSw); go_simp; try with_reducible rfl)); (try simp only [zA, zB, zC, Act.put, zD, zE, zF]))
    (refine tkZ 2 (v := ?_) rfl (by assumption) ?_ ?_; rotate_left; (focus (intro w hSw; (try dsimp only at hSw); go_simp; try with_reducible rfl)); (try simp only [zA, zB, zC, Act.put, zD, zE, zF]))
    (refine tkZ 3 (v := .agg #[.int .i64 x.kind, .int .i64 x.at_.bank, .int .u16 x.at_.addr]) rfl (by assumption) (fun W hS => zO _ _ rfl _ _ rfl _ _ _ hS.1 (issL x) HE1.out (by kernel_rfl)) ?_; (try simp only [zA, zB, zC, Act.put, zD, zE, zF]))
    (refine tkZ 4 (v := ?_) rfl (by assumption) ?_ ?_; rotate_left; (focus (intro w hSw; (try dsimp only at hSw); go_simp; try with_reducible rfl)); (try simp only [zA, zB, zC, Act.put, zD, zE, zF]))
    (refine tkZ 5 (v := ?_) rfl (by assumption) ?_ ?_; rotate_left; (focus (intro w hSw; (try dsimp only at hSw); go_simp; try with_reducible rfl)); (try simp only [zA, zB, zC, Act.put, zD, zE, zF]))
    (refine tkZ 6 (v := ?_) rfl (by assumption) ?_ ?_; rotate_left; (focus (intro w hSw; (try dsimp only at hSw); go_simp; try with_reducible rfl)); (try simp only [zA, zB, zC, Act.put, zD, zE, zF]))
    (refine tkZ 7 (v := .agg #[.int .i64 y.kind, .int .i64 y.at_.bank, .int .u16 y.at_.addr]) rfl (by assumption) (fun W hS => zO _ _ rfl _ _ rfl _ _ _ hS.2 (issL y) HE2.out (by kernel_rfl)) ?_; (try simp only [zA, zB, zC, Act.put, zD, zE, zF]))
    refine ya 8 ?_
    simp only [List.drop_succ_cons, List.drop_zero]
    clear hHeld
    by_cases he : x = y
    ·subst he
     go_wp2_with fail
     go_roundw
     case rel => exact ⟨m + 1, HLT.out, by go_num, zh (take_same HT.out HX.out HY.out rfl), zh HW.out.drew⟩
     case measure => have h1 := HLT.out; simp [intOf]; omega
    ·have HNE := zh (show ¬ a = b from fun e => by
      have h1 := HX.out
      rw [e, HY.out] at h1
      exact he (Option.some.inj h1).symm)
     go_upto_if 25 with fail
     ·exact absurd (yi.ext' (by assumption) (zc.ext' (by assumption) (by assumption))) he
     all_goals
      go_wp2_with fail
      go_ret
      exact ⟨by rw [decide_eq_false HNE.out]; rfl, HW.out.drew⟩
   ·obtain rfl : m = a.length := by omega
    have hlt2 : ¬ a.length < b.length := by have := HAB.out; omega
    have HE := zh (show a = b by
     have h := HT.out
     rw [List.take_of_length_le (zn _), List.take_of_length_le (by have := HAB.out; omega)] at h
     exact h)
    go_wp2_with fail
    go_ret
    exact ⟨by rw [decide_eq_true HE.out]; rfl, HW.out⟩
 ·have HN := zh (show ¬ a = b from fun e => hab (by rw [e]))
  have hab2 : ((a.length : Int) != b.length) = true := by simpa using hab
  go_wp2_with fail
  go_ret
  exact ⟨by rw [decide_eq_false HN.out]; rfl, Below.refl _ _⟩
end Go.Proofs.YteofmaiojepdkaaGreat
namespace Go.Proofs.YteofmaiojepdkaaGreat
open Go Go.RowKit Go.Maps Go.Sort
theorem rowN_set (n : Nat) (f : Nat → Int) (k : Nat) (v : Int) : (rowN n f).setIfInBounds k (.int .u8 v) = rowN n (fun o => if o = k then v else f o) := by
 apply Array.ext_getElem?
 intro i
 rw [Array.getElem?_setIfInBounds]
 by_cases hi : i < n
 ·by_cases hk : k = i
  ·subst hk
   rw [if_pos rfl, if_pos (by rw [rowN_size]; exact hi), rowN_get _ hi, if_pos rfl]
  ·rw [if_neg hk, rowN_get _ hi, rowN_get _ hi, if_neg (fun e => hk e.symm)]
 ·have h1 : (rowN n f)[i]? = none := Array.getElem?_eq_none (by rw [rowN_size]; omega)
  have h2 : (rowN n (fun o => if o = k then v else f o))[i]? = none := Array.getElem?_eq_none (by rw [rowN_size]; omega)
  rw [h1, h2]
  by_cases hk : k = i
  ·rw [if_pos hk, if_neg (by rw [rowN_size]; omega)]
  ·rw [if_neg hk]
def filN (n : Nat) (f : Nat → Int) : ByteArray := strOfNums ((List.range n).map f)
theorem conv_rowN {w : World} {g n : Nat} {f : Nat → Int} {fr : Nat × Nat} (h : w.heap[g]? = some (.cells (rowN n f) 5 fr)) (c : Nat) : (convert 73 9 (.slice (some ⟨g, 0, none⟩) n c)).run Tryz.prog w = .ok (.string (filN n f)) w := by
 refine run_convert_bytes_arg w _ _ Tryz.underlying73 Tryz.underlying5 g 0 n c ((List.range n).map f) (by simp) (fun i hi => ?_) _ Tryz.underlying9
 rw [Nat.zero_add, cell_of_row _ _ _ _ _ _ h, rowN_get f hi, List.getD_eq_getElem?_getD]
 simp only [List.getElem?_map, List.getElem?_range hi, Option.map_some, Option.getD_some]
set_option maxRecDepth 100000 in
set_option maxHeartbeats 4000000 in
theorem fill_any (s : Int) (n : Nat) (hn : n ≤ 1000000) (w : World) :
  Calls Tryz.prog 20 #[.int .u32 s, .int .i64 n] w fun e w' => e = .returned (.string (filN n (je s))) ∧ Below w.heap.size w w' := by
 have HN := zh hn
 go_enter Tryz.func20, Tryz.ntmps20
 obtain ⟨iU, hiU, hzU, hzU1, hzU2⟩ := info_parts infoU8
 go_upto_region 2 with (refine wpList_make_full _ rfl _ _ 73 rfl w.heap.size 5 iU (.int .u8 0) 1 Tryz.underlying73 hiU hzU hzU1 .i64 .i64 n n n rfl rfl rfl rfl (by rw [hzU2, Nat.one_mul]; have := HN.out; omega) (by have := HN.out; unfold maxLen; omega) (zn _) ?_; intro w3 ho3 hg3)
 have h3 := own_fullS ho3
 rw [← made_zero] at h3
 have H3 := zh h3
 have HB3 := zh (grown_noneS hg3)
 clear ho3 hg3 h3 hiU hzU hzU1 hzU2 iU
 go_wp2_with fail
 go_loopw [0, 6] (fun v i wr => ∃ m : Nat, m ≤ n ∧ v = .int .u32 (seqI s m) ∧ i = .int .i64 m ∧ Hid (wr.heap[w.heap.size]? = some (.cells (rowN n (upN (je s) m)) 5 (0, 0))) ∧ Hid (Below w.heap.size w wr)) (fun v i _ => n - (intOf i).toNat)
 case atStart => exact ⟨0, Nat.zero_le _, rfl, rfl, zh (by rw [upN_zero]; exact H3.out), HB3⟩
 case round =>
  clear H3 HB3
  obtain ⟨m, hm, rfl, rfl, HM, HB⟩ := hrel
  by_cases hlt : m < n
  ·have hkc : wr.cell? ⟨w.heap.size, m, none⟩ = some (.int .u8 (upN (je s) m m)) := by rw [cell_of_row _ _ _ _ _ _ HM.out, rowN_get _ hlt]
   have hkf : wr.frozen? ⟨w.heap.size, m, none⟩ = false := frozen_of_row _ _ _ _ _ HM.out
   have HLT := zh hlt
   go_wp2_with fail
   go_roundw
   case rel => exact ⟨m + 1, HLT.out, by rw [seqI]; simp only [Int.emod_add_emod], by go_num, zh (by rw [← upN_put (je s) m ((seqI s m * 1664525 + 1013904223) % 4294967296 / 16777216) rfl, ← rowN_set]; exact heap_setCell_same HM.out (i := m) _), zh (HB.out.setCell (p := ⟨w.heap.size, m, none⟩) (zn _) _)⟩
   case measure => have h1 := HLT.out; simp [intOf]; omega
  ·obtain rfl : m = n := by omega
   have hcv := conv_rowN (show wr.heap[w.heap.size]? = some (.cells (rowN m (je s)) 5 (0, 0)) from by rw [← rowN_congr (f := upN (je s) m) (g := je s) (fun o ho => by unfold upN; rw [if_pos ho])]; exact HM.out) m
   go_wp2_with fail
   go_ret
   exact ⟨rfl, HB.out⟩
end Go.Proofs.YteofmaiojepdkaaGreat
