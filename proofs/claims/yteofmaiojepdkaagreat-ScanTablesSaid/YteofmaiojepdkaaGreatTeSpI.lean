/- Chapter 05 in plain Lean: one element put into an ordered list, once. No condition beyond what each states. -/
import Derived.Test.YteofmaiojepdkaaGreatTeSkY
import Derived.Laws.BytesArg
set_option linter.all false
namespace Go.Proofs.YteofmaiojepdkaaGreat
open Go
def yW (f : Nat → Int) : ByteArray := strOfNums ((List.range 4096).map f)
def winB (f : Nat → Int) (o n : Nat) : ByteArray := strOfNums ((List.range n).map fun j => f (o + j))
theorem filB_size (f : Nat → Int) : (yW f).size = 4096 := by unfold yW; rw [strOfNums_size]; simp
theorem winB_size (f : Nat → Int) (o n : Nat) : (winB f o n).size = n := by unfold winB; rw [strOfNums_size]; simp
theorem fil_extract (f : Nat → Int) (o n : Nat) (h : o + n ≤ 4096) : (yW f).extract o (o + n) = winB f o n := by
 apply ByteArray.ext
 apply Array.toList_inj.1
 unfold yW winB
 rw [ByteArray.data_extract, strOfNums_data, Array.toList_extract, strOfNums_data]
 simp only [List.extract_eq_take_drop, Nat.add_sub_cancel_left]
 apply List.ext_getElem?
 intro i
 by_cases hi : i < n
 ·rw [List.getElem?_take_of_lt hi, List.getElem?_drop]
  simp only [List.getElem?_map, List.getElem?_range hi, List.getElem?_range (show o + i < 4096 by omega), Option.map_some]
 ·rw [List.getElem?_eq_none (by simp; omega), List.getElem?_eq_none (by simp; omega)]
theorem win_byt (f : Nat → Int) (o n k : Nat) (h : k < n) (hf : 0 ≤ f (o + k) ∧ f (o + k) < 256) : byt (winB f o n) k = f (o + k) := by
 unfold byt winB
 rw [strOfNums_data, List.getD_eq_getElem?_getD]
 simp only [List.getElem?_map, List.getElem?_range h, Option.map_some, Option.getD_some]
 have h2 : (f (o + k)).toNat < 256 := by omega
 rw [UInt8.toNat_ofNat']
 rw [Nat.mod_eq_of_lt h2]
 omega
def atF (f : Nat → Int) (o : Nat) : Ins × Int :=
 if zr (f o) = 0 then (z8, 11)
 else if 4096 < o + (zr (f o)).toNat then (z8, 45)
 else if xo (winB f o (zr (f o)).toNat) = 0 then (yQ (winB f o (zr (f o)).toNat), 0) else (z8, 11)
theorem at_fil {I : zp} {p : zb} {f : Nat → Int} (hb : I.banks[p.bank.toNat]? = some (yW f)) (hi : inI I p = true) (hf : ∀ k, 0 ≤ f k ∧ f k < 256) : atI I p = atF f (zx p) := by
 have ho : zx p < 4096 := by unfold zx; omega
 have hbk : bankI I p = yW f := by unfold bankI; rw [List.getD_eq_getElem?_getD, hb]; rfl
 have h1 : zz I p 1 = winB f (zx p) 1 := by
  unfold zz
  rw [if_pos ⟨hi, by omega⟩, hbk]
  exact fil_extract f _ 1 (by omega)
 have hb0 : byt (zz I p 1) 0 = f (zx p) := by rw [h1]; exact win_byt f _ 1 0 (by omega) (hf _)
 have hcp : z6 p = true := by unfold inI at hi; simp only [Bool.and_eq_true] at hi; exact hi.1
 have hoff : (zx p : Int) = p.addr % 4096 := by unfold zx; omega
 have hs : 0 ≤ zr (f (zx p)) := by
  unfold zr
  split
  ·omega
  ·rename_i k _
   have h1 := xH (fAt k 2); have h2 := xH (fAt k 3); have h3 := xH (fAt k 4); have h4 := xH (fAt k 5)
   omega
 unfold atI atF
 rw [hb0, if_neg (by rw [h1, winB_size]; omega)]
 by_cases hz : zr (f (zx p)) = 0
 ·rw [if_pos hz, if_pos hz]
 ·rw [if_neg hz, if_neg hz]
  by_cases hn : 4096 < zx p + (zr (f (zx p))).toNat
  ·rw [if_pos hn, if_pos]
   refine .inl ?_
   unfold xv
   rw [if_neg (by omega)]
   rfl
  ·have hc : zz I p (zr (f (zx p))) = winB f (zx p) (zr (f (zx p))).toNat := by
    unfold zz
    rw [if_pos ⟨hi, by omega⟩, hbk]
    exact fil_extract f _ _ (by omega)
   rw [if_neg hn, if_neg, hc]
   rw [hc, winB_size]
   rintro (h | h)
   ·unfold xv at h
    rw [if_pos ⟨hcp, by omega, by omega⟩] at h
    cases h
   ·omega
def seqI (s : Int) : Nat → Int
 | 0 => s
 | k + 1 => (seqI s k * 1664525 + 1013904223) % 4294967296
def x9 (s : Int) (k : Nat) : Int := seqI s (k + 1) / 16777216
theorem filF_bd (s : Int) (k : Nat) : 0 ≤ x9 s k ∧ x9 s k < 256 := by
 unfold x9
 rw [seqI]
 omega
end Go.Proofs.YteofmaiojepdkaaGreat
namespace Go.Proofs.YteofmaiojepdkaaGreat
open Go Go.RowKit Go.Maps Go.Sort
def pageT (off : Nat) (s : ByteArray) (m k : Nat) : Int := if off ≤ k ∧ k < off + m then byt s (k - off) else 0
def xj (off : Nat) (s : ByteArray) (k : Nat) : Int := pageT off s s.size k
theorem pageT_bd (off : Nat) (s : ByteArray) (m k : Nat) : 0 ≤ pageT off s m k ∧ pageT off s m k < 256 := by
 unfold pageT
 split
 ·exact zH _ _
 ·omega
theorem pageF_bd (off : Nat) (s : ByteArray) (k : Nat) : 0 ≤ xj off s k ∧ xj off s k < 256 := pageT_bd _ _ _ _
theorem pageT_zero (off : Nat) (s : ByteArray) : pageT off s 0 = fun _ => 0 := by
 funext k
 unfold pageT
 rw [if_neg (by omega)]
theorem pageT_put (off : Nat) (s : ByteArray) (m : Nat) : (fun k => if k = off + m then byt s m else pageT off s m k) = pageT off s (m + 1) := by
 funext k
 unfold pageT
 by_cases h : k = off + m
 ·rw [if_pos h, if_pos (by omega), show k - off = m by omega]
 ·rw [if_neg h]
  by_cases h2 : off ≤ k ∧ k < off + m
  ·rw [if_pos h2, if_pos (by omega)]
  ·rw [if_neg h2, if_neg (by omega)]
theorem conv_row {w : World} {g : Nat} {f : Nat → Int} {fr : Nat × Nat} (h : w.heap[g]? = some (.cells (rowC f) 5 fr)) : (convert 73 9 (.slice (some ⟨g, 0, none⟩) 4096 4096)).run Tryz.prog w = .ok (.string (yW f)) w := by
 refine run_convert_bytes_arg w _ _ Tryz.underlying73 Tryz.underlying5 g 0 4096 4096 ((List.range 4096).map f) (by simp) (fun i hi => ?_) _ Tryz.underlying9
 rw [Nat.zero_add, cell_of_row _ _ _ _ _ _ h, xK f hi, List.getD_eq_getElem?_getD]
 simp only [List.getElem?_map, List.getElem?_range hi, Option.map_some, Option.getD_some]
set_option maxRecDepth 100000 in
set_option maxHeartbeats 4000000 in
theorem page_any (off : Nat) (s : ByteArray) (ho : off ≤ 4096) (hs : off + s.size ≤ 4096) (w : World) :
  Calls Tryz.prog 29 #[.int .i64 off, .string s] w fun e w' => e = .returned (.string (yW (xj off s))) ∧ Below w.heap.size w w' := by
 go_enter Tryz.func29, Tryz.ntmps29
 obtain ⟨iU, hiU, hzU, hzU1, hzU2⟩ := info_parts infoU8
 go_upto_region 2 with (refine wpList_make_full _ rfl _ _ 73 rfl w.heap.size 5 iU (.int .u8 0) 1 Tryz.underlying73 hiU hzU hzU1 .i64 .i64 4096 4096 4096 rfl rfl rfl rfl (by rw [hzU2]; decide) (by decide) (zn _) ?_; intro w3 ho3 hg3)
 have h3 := own_fullS ho3
 rw [← rowC_zero] at h3
 have H3 := zh h3
 have HB3 := zh (xV hg3)
 clear ho3 hg3 h3 hiU hzU hzU1 hzU2 iU
 go_wp2_with fail
 go_loopw [6] (fun i wr => ∃ m : Nat, m ≤ s.size ∧ i = .int .i64 m ∧ Hid (wr.heap[w.heap.size]? = some (.cells (rowC (pageT off s m)) 5 (0, 0))) ∧ Hid (Below w.heap.size w wr)) (fun i _ => s.size - (intOf i).toNat)
 case atStart => exact ⟨0, Nat.zero_le _, rfl, zh (by rw [pageT_zero]; exact H3.out), HB3⟩
 case round =>
  clear H3 HB3
  obtain ⟨m, hm, rfl, HM, HB⟩ := hrel
  by_cases hlt : m < s.size
  ·have hi1 : off + m < 4096 := by omega
   have hkc : wr.cell? ⟨w.heap.size, off + m, none⟩ = some (.int .u8 0) := by
    rw [cell_of_row _ _ _ _ _ _ HM.out, xK _ hi1]
    unfold pageT
    rw [if_neg (by omega)]
   have hkf : wr.frozen? ⟨w.heap.size, off + m, none⟩ = false := frozen_of_row _ _ _ _ _ HM.out
   have hix := zk s m hlt
   have HLT := zh hlt
   go_upto_if 17 with fail
   go_wp2_with fail
   go_roundw
   case rel => exact ⟨m + 1, HLT.out, by go_num, zh (by rw [← pageT_put, ← rowC_set]; exact heap_setCell_same HM.out (i := off + m) _), zh (HB.out.setCell (p := ⟨w.heap.size, off + m, none⟩) (zn _) _)⟩
   case measure => have h1 := HLT.out; simp [intOf]; omega
  ·obtain rfl : m = s.size := by omega
   have hcv := conv_row HM.out
   go_wp2_with fail
   go_ret
   exact ⟨rfl, HB.out⟩
def yw (s : ByteArray) : zp := ⟨[yW (xj 0 s)], 0, 0, []⟩
set_option maxRecDepth 100000 in
set_option maxHeartbeats 4000000 in
theorem image_any (s : ByteArray) (hs : s.size ≤ 4096) (w : World) :
  Calls Tryz.prog 36 #[.string s] w fun e w' => (∃ g, e = .returned (.agg #[.slice (some ⟨g, 0, none⟩) 1 1, .int .u16 0, .int .u16 0, .slice none 0 0, .slice none 0 0]) ∧ yN w' (yw s) (some ⟨g, 0, none⟩) 1 none 0) ∧ Below w.heap.size w w' := by
 have HPG := zh (fun W => show Calls Tryz.prog 29 #[.int .i64 0, .string s] W fun e w' => e = .returned (.string (yW (xj 0 s))) ∧ Below W.heap.size W w' from page_any 0 s (by omega) (by omega) W)
 have hb0 : Below w.heap.size w (w.alloc (.cells #[.slice none 0 0, .int .u16 0, .int .u16 0, .slice none 0 0, .slice none 0 0] 31)) := (Below.refl _ _).alloc (zn _) _
 have h0 := heap_alloc_new w (.cells #[.slice none 0 0, .int .u16 0, .int .u16 0, .slice none 0 0, .slice none 0 0] 31)
 go_enter Tryz.func36, Tryz.ntmps36
 go_upto_region 1 with fail
 obtain ⟨w2, hw2⟩ : ∃ w2, w.alloc (.cells #[.slice none 0 0, .int .u16 0, .int .u16 0, .slice none 0 0, .slice none 0 0] 31) = w2 := ⟨_, rfl⟩
 rw [hw2] at hb0 h0 ⊢
 have HB0 := zh hb0
 have H0 := zh h0
 clear hw2 hb0 h0
 go_wp2_with (first
  | (go_at_call 29; (with_reducible refine (HPG.out _).mono ?_); rintro e3 w3 ⟨rfl, hb3⟩; have HB3 := zh hb3; have HB4 := zh (show Below w3.heap.size w3 (w3.alloc (.cells #[.string (yW (xj 0 s))] 9)) from (Below.refl _ _).alloc (zn _) _); have H4 := zh (heap_alloc_new w3 (.cells #[.string (yW (xj 0 s))] 9)); have H04 := zh (za HB4.out (za hb3 H0.out)); clear hb3)
  | (refine stR (H04.out) ?_))
 refine bodyPost_ret (results_cell_row (cs := #[.slice (some ⟨w3.heap.size, 0, none⟩) 1 1, .int .u16 0, .int .u16 0, .slice none 0 0, .slice none 0 0]) (fr := (0, 0)) Tryz.results36 _ _ w.heap.size 31 _ ?_ (setRow_heap _ _ _ _ _ _ H04.out) Tryz.underlying31 rfl (by kernel_rfl)) rfl ?_
 ·rfl
 ·have hz : w.heap.size < w3.heap.size := Nat.lt_of_lt_of_le (Array.getElem?_eq_some_iff.1 H0.out).1 HB3.out.size
  have htw : zm (fun k => k = w.heap.size) (w3.alloc (.cells #[.string (yW (xj 0 s))] 9)) ((w3.alloc (.cells #[.string (yW (xj 0 s))] 9)).setRow w.heap.size #[.slice (some ⟨w3.heap.size, 0, none⟩) 1 1, .int .u16 0, .int .u16 0, .slice none 0 0, .slice none 0 0]) := (zm.refl _ _).setRow _ (fun _ => rfl)
  refine ⟨⟨w3.heap.size, rfl, ⟨⟨zn _, rfl, fun _ => ⟨w3.heap.size, 0, _, _, _, rfl, htw.heap H4.out (fun e => by have e2 : w3.heap.size = w.heap.size := e; omega), fun j hj => ?_⟩⟩, ⟨zn _, rfl, fun h => by cases h⟩⟩⟩, HB0.out.trans (((HB3.out.mono HB0.out.size).trans (HB4.out.mono (by omega))).trans (htw.toBelow (by have := HB4.out.size; omega) (fun k e => by have e2 : k = w.heap.size := e; omega)))⟩
  rw [Nat.zero_add]
  exact (Array.getElem?_toList ..).symm
instance : DecidableEq yl := fun a b => decidable_of_iff (a.kind = b.kind ∧ a.at_ = b.at_) ⟨fun h => yl.ext' h.1 h.2, fun h => by rw [h]; exact ⟨rfl, rfl⟩⟩
theorem iss_row {w : World} {A : Option Addr} {c : Nat} {l : List yl} (h : RdS w 3 A l.length c (xl l)) {k : Nat} {x : yl} (hx : l[k]? = some x) :
  ∃ g off cur T fr, A = some ⟨g, off, none⟩ ∧ w.heap[g]? = some (.cells cur T fr) ∧ (cur.extract (off + k * 3) (off + k * 3 + 3)).toList = issL x := by
 obtain ⟨g, off, cur, T, fr, e, hg, hex, -, -⟩ := h.row (List.getElem?_eq_some_iff.1 hx).1
 rw [show xl l = l.flatMap issL from rfl, xW issL 3 (fun _ => rfl) l k x hx] at hex
 exact ⟨g, off, cur, T, fr, e, hg, hex⟩
theorem take_same {α : Type} {a b : List α} {m : Nat} {x y : α} (h : a.take m = b.take m) (hx : a[m]? = some x) (hy : b[m]? = some y) (e : x = y) : a.take (m + 1) = b.take (m + 1) := by
 rw [List.take_succ, List.take_succ, h, hx, hy, e]
set_option maxRecDepth 100000 in
set_option maxHeartbeats 4000000 in
theorem issues_any (a b : List yl) (A1 A2 : Option Addr) (c1 c2 : Nat) (w : World) (h1 : RdS w 3 A1 a.length c1 (xl a)) (h2 : RdS w 3 A2 b.length c2 (xl b)) (hl : a.length ≤ 9223372036854775807) (hl2 : b.length ≤ 9223372036854775807) :
  Calls Tryz.prog 32 #[.slice A1 a.length c1, .slice A2 b.length c2] w fun e w' => e = .returned (.bool (decide (a = b))) ∧ Below w.heap.size w w' := by
 have HA := zh h1
 have HB := zh h2
 have ha := h1.le
 have hb := h2.le
 clear h1 h2
 go_enter Tryz.func32, Tryz.ntmps32
 by_cases hab : (a.length : Int) = b.length
 ·have hab2 : a.length = b.length := by omega
  have HAB := zh hab2
  go_upto_if 10 with fail
  go_wp2_with fail
  clear hab hab2
  go_loopw [5] (fun i wr => ∃ m : Nat, m ≤ a.length ∧ i = .int .i64 m ∧ Hid (a.take m = b.take m) ∧ Hid (Below w.heap.size w wr)) (fun i _ => a.length - (intOf i).toNat)
  case atStart => exact ⟨0, Nat.zero_le _, rfl, zh rfl, zh (Below.refl _ _)⟩
  case round =>
   obtain ⟨m, hm, rfl, HT, HW⟩ := hrel
   by_cases hlt : m < a.length
   ·obtain ⟨x, hx⟩ : ∃ x, a[m]? = some x := ⟨_, List.getElem?_eq_getElem hlt⟩
    obtain ⟨y, hy⟩ : ∃ y, b[m]? = some y := ⟨_, List.getElem?_eq_getElem (by have := HAB.out; omega)⟩
    obtain ⟨g1, o1, cur1, T1, fr1, rfl, hg1, hex1⟩ := iss_row (HA.out.below HW.out) hx
    obtain ⟨g2, o2, cur2, T2, fr2, rfl, hg2, hex2⟩ := iss_row (HB.out.below HW.out) hy
    have HX := zh hx
    have HY := zh hy
    have HE1 := zh hex1
    have HE2 := zh hex2
    have HG := zh (And.intro hg1 hg2)
    have HLT := zh hlt
    have hlt2 : m < b.length := by have := HAB.out; omega
    clear hx hy hg1 hg2 hex1 hex2
    go_upto_region 6 with fail
    refine zu (S := fun W => W.heap[g1]? = some (.cells cur1 T1 fr1) ∧ W.heap[g2]? = some (.cells cur2 T2 fr2)) [8] (by kernel_rfl) ⟨HG.out.1, HG.out.2⟩ (fun hHeld => ?_)
    (refine tz 0 ?_)
    (refine tz 1 ?_)
    (refine tz 2 ?_)
    (refine tkZ 3 (v := .agg #[.int .i64 x.kind, .int .i64 x.at_.bank, .int .u16 x.at_.addr]) rfl (by assumption) (fun W hS => yk _ _ rfl _ _ rfl _ _ _ hS.1 (issL x) HE1.out (by kernel_rfl)) ?_; (refine pts ?_))
    (refine tz 4 ?_)
    (refine tz 5 ?_)
    (refine tz 6 ?_)
    (refine tkZ 7 (v := .agg #[.int .i64 y.kind, .int .i64 y.at_.bank, .int .u16 y.at_.addr]) rfl (by assumption) (fun W hS => yk _ _ rfl _ _ rfl _ _ _ hS.2 (issL y) HE2.out (by kernel_rfl)) ?_; (refine pts ?_))
    refine ys 8 ?_
    simp only [List.drop_succ_cons, List.drop_zero]
    clear hHeld
    by_cases he : x = y
    ·subst he
     go_wp2_with fail
     go_roundw
     case rel => exact ⟨m + 1, HLT.out, by go_num, zh (take_same HT.out HX.out HY.out rfl), zh HW.out.drew⟩
     case measure => have h1 := HLT.out; simp [intOf]; omega
    ·have HNE := zh (show ¬ a = b from fun e => by
      have h1 := HX.out
      rw [e, HY.out] at h1
      exact he (Option.some.inj h1).symm)
     go_upto_if 25 with fail
     ·exact absurd (yl.ext' (by assumption) (zb.ext' (by assumption) (by assumption))) he
     all_goals
      go_wp2_with fail
      go_ret
      exact ⟨by rw [decide_eq_false HNE.out]; rfl, HW.out.drew⟩
   ·obtain rfl : m = a.length := by omega
    have hlt2 : ¬ a.length < b.length := by have := HAB.out; omega
    have HE := zh (show a = b by
     have h := HT.out
     rw [List.take_of_length_le (zn _), List.take_of_length_le (by have := HAB.out; omega)] at h
     exact h)
    go_wp2_with fail
    go_ret
    exact ⟨by rw [decide_eq_true HE.out]; rfl, HW.out⟩
 ·have HN := zh (show ¬ a = b from fun e => hab (by rw [e]))
  have hab2 : ((a.length : Int) != b.length) = true := by simpa using hab
  go_wp2_with fail
  go_ret
  exact ⟨by rw [decide_eq_false HN.out]; rfl, Below.refl _ _⟩
end Go.Proofs.YteofmaiojepdkaaGreat
namespace Go.Proofs.YteofmaiojepdkaaGreat
open Go
theorem yt.allOk {I : zp} {e : zb} {D C L : List zb} (h : RtI I e D []) (ht : ¬ yK I e) (hok : ∀ p ∈ D, okI I p) (hi : ∀ p ∈ D, (fl I p).iss = []) (sc : C.Pairwise zO) (hC : ∀ p, p ∈ C ↔ p ∈ D) (sl : L.Pairwise zO) (hL : ∀ q, q ∈ L ↔ ∃ p, p ∈ D ∧ q ∈ (fl I p).cl) : yt I e ⟨e, false, ⟨0, 0⟩, C, L, []⟩ :=
 yt.ofDone ht h.done sc sl .nil (fun p => by rw [hC]; exact ⟨fun hp => ⟨hp, hok p hp⟩, fun hp => hp.1⟩)
  (fun q => by rw [hL]; exact ⟨fun ⟨p, h1, h2⟩ => ⟨p, h1, hok p h1, h2⟩, fun ⟨p, h1, _, h2⟩ => ⟨p, h1, h2⟩⟩)
  (fun x => ⟨fun hx => by simp at hx, fun ⟨h1, h2⟩ => by
   rcases h2 with ⟨h2, -⟩ | ⟨-, h2⟩
   ·exact absurd (hok _ h1) h2
   ·rw [hi _ h1] at h2; cases h2⟩)
theorem yR.given {I : zp} {more : List zb} {R : List xp} (hs : (R.map (·.entry)).Pairwise zO) (hn : R.length ≤ 2000) (hr : ∀ r ∈ R, yt I r.entry r)
  (h0 : (⟨0, I.entry⟩ : zb) ∈ R.map (·.entry)) (hv : I.vector ≠ 0 → (⟨0, I.vector⟩ : zb) ∈ R.map (·.entry)) (hm : ∀ p ∈ more, p ∈ R.map (·.entry)) (hc : ∀ r ∈ R, ∀ q ∈ r.calls, q ∈ R.map (·.entry))
  (ht : ∀ r ∈ R, r.thunk = true → r.dest ∈ R.map (·.entry)) (he : ∀ p ∈ R.map (·.entry), Ent I more p) : yR I more (some R) :=
 (⟨h0, hv, hm, he, hr, xy zO.irr hs, fun r hr => List.mem_map.2 ⟨r, hr, rfl⟩, hc, ht⟩ : EntI I more (R.map (·.entry)) R).rtns (fun p hp => hp) hn hs (fun r => Iff.rfl)
theorem clsL_eq {I : zp} {c c' : Nat → Nat → Int} (h : clsL I c = clsL I c') {b o : Nat} (hb : b < I.banks.length) (ho : o < 4096) : c b o = c' b o := by
 have h1 := congrArg (fun l => (l[b]?).map fun r : List Int => r[o]?) h
 unfold clsL at h1
 simp only [List.getElem?_map, List.getElem?_range hb, Option.map_some, List.getElem?_range ho, Option.some.injEq] at h1
 exact h1
theorem oneI_ok (s : ByteArray) : (yw s).Ok := by
 refine ⟨zn 1, show 1 ≤ 64 by decide, fun t ht => ?_, show (0 : Int) ≤ 0 ∧ (0 : Int) < 65536 by decide, show (0 : Int) ≤ 0 ∧ (0 : Int) < 65536 by decide, fun o ho => ?_, Nat.zero_le _⟩
 ·rw [List.mem_singleton.1 ht]; exact filB_size _
 ·cases ho
theorem oneI_at (s : ByteArray) (o : Nat) (ho : o < 4096) : atI (yw s) ⟨0, o⟩ = atF (xj 0 s) o := by
 have h : zx ⟨0, o⟩ = o := by unfold zx; dsimp only; omega
 rw [at_fil (f := xj 0 s) rfl (by unfold inI z6 yw; simp; omega) (pageF_bd 0 s), h]
def exA : ByteArray := ⟨#[96, 1, 2, 48, 0, 7, 2]⟩
theorem aA0 : atI (yw exA) ⟨0, 0⟩ = (⟨96, 0, 0, 1, 0, 0, 2⟩, 0) := (oneI_at exA 0 (by decide)).trans (by decide +kernel)
theorem aA2 : atI (yw exA) ⟨0, 2⟩ = (⟨2, 0, 0, 0, 0, 0, 1⟩, 0) := (oneI_at exA 2 (by decide)).trans (by decide +kernel)
theorem aA3 : atI (yw exA) ⟨0, 3⟩ = (⟨48, 0, 0, 7, 0, 0, 3⟩, 0) := (oneI_at exA 3 (by decide)).trans (by decide +kernel)
theorem aA6 : atI (yw exA) ⟨0, 6⟩ = (⟨2, 0, 0, 0, 0, 0, 1⟩, 0) := (oneI_at exA 6 (by decide)).trans (by decide +kernel)
theorem fA0 : fl (yw exA) ⟨0, 0⟩ = ⟨[⟨0, 2⟩, ⟨0, 3⟩], [], [], false, false, false⟩ := by unfold fl; rw [aA0]; kernel_rfl
theorem fA2 : fl (yw exA) ⟨0, 2⟩ = ⟨[], [], [], false, false, false⟩ := by unfold fl; rw [aA2]; kernel_rfl
theorem fA3 : fl (yw exA) ⟨0, 3⟩ = ⟨[⟨0, 6⟩], [], [], false, false, false⟩ := by unfold fl; rw [aA3]; kernel_rfl
theorem fA6 : fl (yw exA) ⟨0, 6⟩ = ⟨[], [], [], false, false, false⟩ := by unfold fl; rw [aA6]; kernel_rfl
theorem okOf {I : zp} {p : zb} {x : Ins} (h : atI I p = (x, 0)) : okI I p := by unfold okI; rw [h]
theorem RtI.next {I : zp} {e p : zb} {D Q : List zb} {x : Ins} {f : zX} (h : RtI I e D (p :: Q)) (hp : p ∉ D) (ha : atI I p = (x, 0)) (hf : fl I p = f) : RtI I e (D ++ [p]) (Q ++ f.nx) := h.visit hp (fun _ => by rw [hf]) (fun n => absurd (okOf ha) n)
theorem notThunk {I : zp} {p : zb} {x : Ins} {k : Int} (h : atI I p = (x, k)) (hx : x.op ≠ 131) : ¬ yK I p := fun ht => hx (by have := ht.2; rw [h] at this; exact this)
def rtA : xp := ⟨⟨0, 0⟩, false, ⟨0, 0⟩, [⟨0, 0⟩, ⟨0, 2⟩, ⟨0, 3⟩, ⟨0, 6⟩], [], []⟩
theorem isA : yt (yw exA) ⟨0, 0⟩ rtA := by
 have h0 := RtI.start (yw exA) ⟨0, 0⟩
 have h1 := h0.next (by simp) aA0 fA0
 have h2 : RtI (yw exA) ⟨0, 0⟩ [⟨0, 0⟩, ⟨0, 2⟩] [⟨0, 3⟩] := h1.next (by decide) aA2 fA2
 have h3 : RtI (yw exA) ⟨0, 0⟩ [⟨0, 0⟩, ⟨0, 2⟩, ⟨0, 3⟩] [⟨0, 6⟩] := h2.next (by decide) aA3 fA3
 have h4 : RtI (yw exA) ⟨0, 0⟩ [⟨0, 0⟩, ⟨0, 2⟩, ⟨0, 3⟩, ⟨0, 6⟩] [] := h3.next (by decide) aA6 fA6
 refine yt.allOk h4 (notThunk aA0 (by decide)) (fun p hp => ?_) (fun p hp => ?_) (by decide) (fun p => Iff.rfl) .nil (fun q => ⟨fun h => by (cases h), fun ⟨p, hp, hq⟩ => ?_⟩)
 ·simp only [List.mem_cons, List.not_mem_nil, or_false] at hp
  rcases hp with rfl | rfl | rfl | rfl
  ·exact okOf aA0
  ·exact okOf aA2
  ·exact okOf aA3
  ·exact okOf aA6
 ·simp only [List.mem_cons, List.not_mem_nil, or_false] at hp
  rcases hp with rfl | rfl | rfl | rfl
  ·rw [fA0]; rfl
  ·rw [fA2]; rfl
  ·rw [fA3]; rfl
  ·rw [fA6]; rfl
 ·simp only [List.mem_cons, List.not_mem_nil, or_false] at hp
  rcases hp with rfl | rfl | rfl | rfl
  ·rw [fA0] at hq; exact hq
  ·rw [fA2] at hq; exact hq
  ·rw [fA3] at hq; exact hq
  ·rw [fA6] at hq; exact hq
theorem rtsA : yR (yw exA) [] (some [rtA]) := yR.given (by simp [rtA]) (by simp) (fun r hr => by rw [List.mem_singleton.1 hr]; exact isA) (by simp [rtA, yw]) (fun h => absurd rfl h) (by simp) (fun r hr => by rw [List.mem_singleton.1 hr]; simp [rtA]) (fun r hr => by rw [List.mem_singleton.1 hr]; simp [rtA]) (fun p hp => by
 simp only [List.map_cons, List.map_nil, List.mem_singleton] at hp
 rw [hp]
 exact .first)
theorem lstA {L : LstS} (h : IsLst (yw exA) [] L) : L = fullL (yw exA) [rtA] rtA.code :=
 h.uniq (.inr ⟨_, rtA.code, rtsA, ⟨by decide, fun p => by simp⟩, .inr ⟨by decide, rfl⟩⟩)
theorem clA (o : Nat) (ho : o < 8) : clOf (yw exA) rtA.code 0 o = [1, 2, 1, 1, 2, 2, 1, 0].getD o 0 := by
 have hz : xG (yw exA) 0 o = 0 := rfl
 have ht : inTab (yw exA) rtA.code 0 o = false := by
  unfold inTab rtA
  simp [fA0, fA2, fA3, fA6]
 unfold clOf yM
 rw [ht, hz]
 have s0 : szI (yw exA) ⟨0, 0⟩ = 2 := by unfold szI; rw [aA0]; rfl
 have s2 : szI (yw exA) ⟨0, 2⟩ = 1 := by unfold szI; rw [aA2]; rfl
 have s3 : szI (yw exA) ⟨0, 3⟩ = 3 := by unfold szI; rw [aA3]; rfl
 have s6 : szI (yw exA) ⟨0, 6⟩ = 1 := by unfold szI; rw [aA6]; rfl
 unfold covP rtA
 simp only [List.countP_cons, List.countP_nil, List.any_cons, List.any_nil, s0, s2, s3, s6]
 rcases o with _ | _ | _ | _ | _ | _ | _ | _ | o
 all_goals first | decide +kernel | omega
def exB : ByteArray := ⟨#[130, 1, 0, 2, 1]⟩
theorem aB0 : atI (yw exB) ⟨0, 0⟩ = (⟨130, 0, 0, 1, 0, 0, 3⟩, 0) := (oneI_at exB 0 (by decide)).trans (by decide +kernel)
theorem aB3 : atI (yw exB) ⟨0, 3⟩ = (⟨2, 0, 0, 0, 0, 0, 1⟩, 0) := (oneI_at exB 3 (by decide)).trans (by decide +kernel)
theorem aB4 : atI (yw exB) ⟨0, 4⟩ = (⟨1, 0, 0, 0, 0, 0, 1⟩, 0) := (oneI_at exB 4 (by decide)).trans (by decide +kernel)
theorem fB0 : fl (yw exB) ⟨0, 0⟩ = ⟨[⟨0, 3⟩], [⟨0, 4⟩], [], false, false, false⟩ := by unfold fl; rw [aB0]; kernel_rfl
theorem fB3 : fl (yw exB) ⟨0, 3⟩ = ⟨[], [], [], false, false, false⟩ := by unfold fl; rw [aB3]; kernel_rfl
theorem fB4 : fl (yw exB) ⟨0, 4⟩ = ⟨[], [], [], false, false, false⟩ := by unfold fl; rw [aB4]; kernel_rfl
def rtB0 : xp := ⟨⟨0, 0⟩, false, ⟨0, 0⟩, [⟨0, 0⟩, ⟨0, 3⟩], [⟨0, 4⟩], []⟩
def rtB4 : xp := ⟨⟨0, 4⟩, false, ⟨0, 0⟩, [⟨0, 4⟩], [], []⟩
theorem isB0 : yt (yw exB) ⟨0, 0⟩ rtB0 := by
 have h0 := RtI.start (yw exB) ⟨0, 0⟩
 have h1 := h0.next (by simp) aB0 fB0
 have h2 : RtI (yw exB) ⟨0, 0⟩ [⟨0, 0⟩, ⟨0, 3⟩] [] := h1.next (by decide) aB3 fB3
 refine yt.allOk h2 (notThunk aB0 (by decide)) (fun p hp => ?_) (fun p hp => ?_) (by decide) (fun p => Iff.rfl) (by decide) (fun q => ⟨fun h => ⟨⟨0, 0⟩, by simp, by rw [fB0]; exact h⟩, fun ⟨p, hp, hq⟩ => ?_⟩)
 ·simp only [List.mem_cons, List.not_mem_nil, or_false] at hp
  rcases hp with rfl | rfl
  ·exact okOf aB0
  ·exact okOf aB3
 ·simp only [List.mem_cons, List.not_mem_nil, or_false] at hp
  rcases hp with rfl | rfl
  ·rw [fB0]; rfl
  ·rw [fB3]; rfl
 ·simp only [List.mem_cons, List.not_mem_nil, or_false] at hp
  rcases hp with rfl | rfl
  ·rw [fB0] at hq; exact hq
  ·rw [fB3] at hq; cases hq
theorem isB4 : yt (yw exB) ⟨0, 4⟩ rtB4 := by
 have h0 := RtI.start (yw exB) ⟨0, 4⟩
 have h1 : RtI (yw exB) ⟨0, 4⟩ [⟨0, 4⟩] [] := h0.next (by simp) aB4 fB4
 refine yt.allOk h1 (notThunk aB4 (by decide)) (fun p hp => ?_) (fun p hp => ?_) (by decide) (fun p => Iff.rfl) .nil (fun q => ⟨fun h => by (cases h), fun ⟨p, hp, hq⟩ => ?_⟩)
 ·rw [List.mem_singleton.1 hp]; exact okOf aB4
 ·rw [List.mem_singleton.1 hp, fB4]; rfl
 ·rw [List.mem_singleton.1 hp, fB4] at hq; exact hq
theorem rtsB : yR (yw exB) [] (some [rtB0, rtB4]) := by
 have h0 : yt (yw exB) rtB0.entry rtB0 := isB0
 have h4 : yt (yw exB) rtB4.entry rtB4 := isB4
 refine yR.given (by decide) (by decide) (fun r hr => ?_) (by decide) (fun h => absurd rfl h) (by simp) (fun r hr => ?_) (fun r hr => ?_) (fun p hp => ?_)
 ·simp only [List.mem_cons, List.not_mem_nil, or_false] at hr
  rcases hr with rfl | rfl
  ·exact h0
  ·exact h4
 ·simp only [List.mem_cons, List.not_mem_nil, or_false] at hr
  rcases hr with rfl | rfl
  ·decide
  ·decide
 ·simp only [List.mem_cons, List.not_mem_nil, or_false] at hr
  rcases hr with rfl | rfl <;> simp [rtB0, rtB4]
 ·simp only [List.map_cons, List.map_nil, List.mem_cons, List.not_mem_nil, or_false] at hp
  rcases hp with rfl | rfl
  ·exact .first
  ·exact .call (e := ⟨0, 0⟩) .first isB0 (by decide)
theorem lstB {L : LstS} (h : IsLst (yw exB) [] L) : L.rts = [rtB0, rtB4] := by
 rw [h.uniq (.inr ⟨_, [⟨0, 0⟩, ⟨0, 3⟩, ⟨0, 4⟩], rtsB, ⟨by decide, fun p => by simp [rtB0, rtB4, or_assoc]⟩, .inr ⟨by decide, rfl⟩⟩)]
 rfl
def exC : ByteArray := ⟨#[255]⟩
theorem aC0 : atI (yw exC) ⟨0, 0⟩ = (z8, 11) := (oneI_at exC 0 (by decide)).trans (by decide +kernel)
def rtC : xp := ⟨⟨0, 0⟩, false, ⟨0, 0⟩, [], [], [⟨11, ⟨0, 0⟩⟩]⟩
theorem noC : ¬ okI (yw exC) ⟨0, 0⟩ := by unfold okI; rw [aC0]; decide
theorem isC : yt (yw exC) ⟨0, 0⟩ rtC := by
 have h0 := RtI.start (yw exC) ⟨0, 0⟩
 have h1 : RtI (yw exC) ⟨0, 0⟩ [⟨0, 0⟩] [] := h0.visit (N := []) (by simp) (fun n => absurd n noC) (fun _ => rfl)
 refine yt.ofDone (notThunk aC0 (by decide)) h1.done .nil .nil (by simp) (fun p => ⟨fun h => by (cases h), fun ⟨hp, hk⟩ => ?_⟩) (fun q => ⟨fun h => by (cases h), fun ⟨p, hp, hk, _⟩ => ?_⟩) (fun x => ⟨fun h => ?_, fun ⟨hp, hk⟩ => ?_⟩)
 ·rw [List.mem_singleton.1 hp] at hk; exact absurd hk noC
 ·rw [List.mem_singleton.1 hp] at hk; exact absurd hk noC
 ·rw [List.mem_singleton.1 h]
  exact ⟨by simp, .inl ⟨noC, by rw [aC0]⟩⟩
 ·have h2 := List.mem_singleton.1 hp
  rw [h2] at hk
  rcases hk with ⟨-, hk⟩ | ⟨hk, -⟩
  ·rw [aC0] at hk
   exact List.mem_singleton.2 (yl.ext' hk h2)
  ·exact absurd hk noC
theorem rtsC : yR (yw exC) [] (some [rtC]) := yR.given (by simp [rtC]) (by simp) (fun r hr => by rw [List.mem_singleton.1 hr]; exact isC) (by simp [rtC, yw]) (fun h => absurd rfl h) (by simp) (fun r hr => by rw [List.mem_singleton.1 hr]; simp [rtC]) (fun r hr => by rw [List.mem_singleton.1 hr]; simp [rtC]) (fun p hp => by
 simp only [List.map_cons, List.map_nil, List.mem_singleton] at hp
 rw [hp]
 exact .first)
theorem lstC {L : LstS} (h : IsLst (yw exC) [] L) : L.rts = [rtC] := by
 rw [h.uniq (.inr ⟨_, [], rtsC, ⟨.nil, fun p => by simp [rtC]⟩, .inr ⟨by decide, rfl⟩⟩)]
 rfl
end Go.Proofs.YteofmaiojepdkaaGreat
namespace Go.Proofs.YteofmaiojepdkaaGreat
section
variable {α : Type} [DecidableEq α] (lt : α → α → Prop) [∀ a b, Decidable (lt a b)] (p : α)
def jb (s : List α × Bool) (q : α) : List α × Bool := if s.2 = false ∧ lt p q then (s.1 ++ [p] ++ [q], true) else (s.1 ++ [q], s.2)
def insF (l : List α) : List α × Bool := l.foldl (jb lt p) ([], false)
def insL_ (l : List α) : List α := if p ∈ l then l else if (insF lt p l).2 then (insF lt p l).1 else (insF lt p l).1 ++ [p]
theorem insF_snoc (l : List α) (q : α) : insF lt p (l ++ [q]) = jb lt p (insF lt p l) q := by unfold insF; rw [List.foldl_append]; rfl
structure InsI (l : List α) (s : List α × Bool) : Prop where
 no : s.2 = false → s.1 = l ∧ ∀ q ∈ l, lt q p
 so : s.1.Pairwise lt
 me : s.2 = true → ∀ q, q ∈ s.1 ↔ q = p ∨ q ∈ l
 af : s.2 = true → ∃ q ∈ l, lt p q
 ln : s.1.length = l.length + s.2.toNat
theorem insF_ok (tr : ∀ a b c, lt a b → lt b c → lt a c) (tri : ∀ a b, lt a b ∨ a = b ∨ lt b a) : ∀ (n : Nat) (l : List α), l.length = n → l.Pairwise lt → p ∉ l → InsI lt p l (insF lt p l)
 | 0, l, hn, _, _ => by
  obtain rfl := List.length_eq_zero_iff.1 hn
  exact ⟨fun _ => ⟨rfl, by simp⟩, .nil, (by simp [insF]), (by simp [insF]), rfl⟩
 | n + 1, l, hn, hs, hp => by
  have hne : l ≠ [] := fun e => by rw [e] at hn; simp at hn
  obtain ⟨m, x, rfl⟩ : ∃ m x, l = m ++ [x] := ⟨l.dropLast, l.getLast hne, (List.dropLast_concat_getLast hne).symm⟩
  rw [List.pairwise_append] at hs
  obtain ⟨h1, -, h2⟩ := hs
  have h2 : ∀ a ∈ m, lt a x := fun a ha => h2 a ha x (by simp)
  have hpm : p ∉ m := fun h => hp (List.mem_append_left _ h)
  have hpx : p ≠ x := fun h => hp (by rw [h]; simp)
  have ih := insF_ok tr tri n m (by simpa using hn) h1 hpm
  rw [insF_snoc]
  unfold jb
  cases hd : (insF lt p m).2 with
  | false =>
   have hno := ih.no hd
   by_cases hc : lt p x
   ·rw [if_pos ⟨rfl, hc⟩]
    have e : (insF lt p m).1 = m := hno.1
    refine ⟨fun h => by simp at h, ?_, fun _ q => ?_, fun _ => ⟨x, by simp, hc⟩, by simp [e]⟩
    ·dsimp only
     rw [e, List.append_assoc, List.pairwise_append]
     refine ⟨h1, by simpa using hc, fun a ha b hb => ?_⟩
     simp only [List.cons_append, List.nil_append, List.mem_cons, List.not_mem_nil, or_false] at hb
     rcases hb with rfl | rfl
     ·exact hno.2 a ha
     ·exact h2 a ha
    ·dsimp only
     rw [e]
     simp only [List.mem_append, List.mem_cons, List.not_mem_nil, or_false]
     constructor
     ·rintro ((h | h) | h)
      ·exact .inr (.inl h)
      ·exact .inl h
      ·exact .inr (.inr h)
     ·rintro (h | h | h)
      ·exact .inl (.inr h)
      ·exact .inl (.inl h)
      ·exact .inr h
   ·rw [if_neg (fun h => hc h.2)]
    refine ⟨fun _ => ⟨by rw [hno.1], fun q hq => ?_⟩, ?_, fun h => by simp at h, fun h => by simp at h, by simp [hno.1]⟩
    ·rcases List.mem_append.1 hq with h | h
     ·exact hno.2 q h
     ·rw [List.mem_singleton.1 h]
      rcases tri p x with h | h | h
      ·exact absurd h hc
      ·exact absurd h hpx
      ·exact h
    ·dsimp only
     rw [hno.1, List.pairwise_append]
     exact ⟨h1, by simp, fun a ha b hb => by rw [List.mem_singleton.1 hb]; exact h2 a ha⟩
  | true =>
   rw [if_neg (fun h => by cases h.1)]
   have hme := ih.me hd
   obtain ⟨q0, hq0, hl0⟩ := ih.af hd
   refine ⟨fun h => by simp at h, ?_, fun _ q => ?_, fun _ => ⟨q0, List.mem_append_left _ hq0, hl0⟩, by have := ih.ln; rw [hd] at this; simp at this ⊢; omega⟩
   ·dsimp only
    rw [List.pairwise_append]
    refine ⟨ih.so, by simp, fun a ha b hb => ?_⟩
    rw [List.mem_singleton.1 hb]
    rcases (hme a).1 ha with rfl | h
    ·exact tr _ _ _ hl0 (h2 q0 hq0)
    ·exact h2 a h
   ·dsimp only
    rw [List.mem_append, List.mem_append, hme q, List.mem_singleton, or_assoc]
theorem insL_so (tr : ∀ a b c, lt a b → lt b c → lt a c) (tri : ∀ a b, lt a b ∨ a = b ∨ lt b a) {l : List α} (hs : l.Pairwise lt) : (insL_ lt p l).Pairwise lt := by
 unfold insL_
 by_cases hp : p ∈ l
 ·rw [if_pos hp]; exact hs
 ·rw [if_neg hp]
  have h := insF_ok lt p tr tri l.length l rfl hs hp
  cases hd : (insF lt p l).2 with
  | true => exact h.so
  | false =>
   have hn := h.no hd
   show ((insF lt p l).1 ++ [p]).Pairwise lt
   rw [List.pairwise_append]
   refine ⟨h.so, by simp, fun a ha b hb => ?_⟩
   rw [List.mem_singleton.1 hb]
   rw [hn.1] at ha
   exact hn.2 a ha
theorem insL_me (tr : ∀ a b c, lt a b → lt b c → lt a c) (tri : ∀ a b, lt a b ∨ a = b ∨ lt b a) {l : List α} (hs : l.Pairwise lt) (q : α) : q ∈ insL_ lt p l ↔ q = p ∨ q ∈ l := by
 unfold insL_
 by_cases hp : p ∈ l
 ·rw [if_pos hp]
  exact ⟨.inr, fun h => h.elim (fun e => e ▸ hp) id⟩
 ·rw [if_neg hp]
  have h := insF_ok lt p tr tri l.length l rfl hs hp
  cases hd : (insF lt p l).2 with
  | true => exact h.me hd q
  | false =>
   show q ∈ (insF lt p l).1 ++ [p] ↔ _
   rw [(h.no hd).1, List.mem_append, List.mem_singleton, or_comm]
theorem insL_len_ (tr : ∀ a b c, lt a b → lt b c → lt a c) (tri : ∀ a b, lt a b ∨ a = b ∨ lt b a) {l : List α} (hs : l.Pairwise lt) : (insL_ lt p l).length ≤ l.length + 1 := by
 unfold insL_
 by_cases hp : p ∈ l
 ·rw [if_pos hp]; omega
 ·rw [if_neg hp]
  have h := insF_ok lt p tr tri l.length l rfl hs hp
  have h1 := h.ln
  cases hd : (insF lt p l).2 with
  | true => rw [hd] at h1; simp at h1 ⊢; omega
  | false => rw [hd] at h1; simp at h1 ⊢; omega
theorem insF_le (l : List α) : (insF lt p l).1.length ≤ l.length + (insF lt p l).2.toNat ∧ (insF lt p l).1.length ≥ l.length := by
 have key : ∀ (m : List α) (s : List α × Bool), ((m.foldl (jb lt p) s).1.length ≤ s.1.length + m.length + ((m.foldl (jb lt p) s).2.toNat - s.2.toNat) ∧ s.2.toNat ≤ (m.foldl (jb lt p) s).2.toNat) ∧ (m.foldl (jb lt p) s).1.length ≥ s.1.length + m.length := by
  intro m
  induction m with
  | nil => intro s; simp
  | cons q m ih =>
   intro s
   have h := ih (jb lt p s q)
   rw [List.foldl_cons]
   have hs : (jb lt p s q).1.length = s.1.length + 1 + ((jb lt p s q).2.toNat - s.2.toNat) ∧ s.2.toNat ≤ (jb lt p s q).2.toNat := by
    unfold jb
    split
    ·rename_i hc; rw [hc.1]; simp
    ·simp
   simp only [List.length_cons]
   omega
 have := key l ([], false)
 simp only [List.length_nil, Nat.zero_add] at this
 unfold insF
 simp only [Bool.toNat_false, Nat.sub_zero] at this
 omega
end
def insP (l : List zb) (p : zb) : List zb := insL_ zO p l
theorem insP_so {l : List zb} (h : l.Pairwise zO) (p : zb) : (insP l p).Pairwise zO := insL_so zO p zO.tr zO.tri h
theorem insP_me {l : List zb} (h : l.Pairwise zO) (p q : zb) : q ∈ insP l p ↔ q = p ∨ q ∈ l := insL_me zO p zO.tr zO.tri h q
theorem insP_len {l : List zb} (h : l.Pairwise zO) (p : zb) : (insP l p).length ≤ l.length + 1 := insL_len_ zO p zO.tr zO.tri h
end Go.Proofs.YteofmaiojepdkaaGreat
