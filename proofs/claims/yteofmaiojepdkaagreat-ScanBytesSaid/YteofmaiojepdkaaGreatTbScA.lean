/- The reference of chapter 04: Fill, walked. No condition. -/
import Derived.Test.YteofmaiojepdkaaGreatTbSkY
import Derived.Test.YteofmaiojepdkaaGreatTbSpI
import Derived.Laws.BytesArg
set_option linter.all false
namespace Go.Proofs.YteofmaiojepdkaaGreat
open Go Go.RowKit Go.Maps Go.Sort
def pageT (off : Nat) (s : ByteArray) (m k : Nat) : Int := if off ≤ k ∧ k < off + m then byt s (k - off) else 0
def pageF (off : Nat) (s : ByteArray) (k : Nat) : Int := pageT off s s.size k
theorem pageT_bd (off : Nat) (s : ByteArray) (m k : Nat) : 0 ≤ pageT off s m k ∧ pageT off s m k < 256 := by
 unfold pageT
 split
 ·exact zL _ _
 ·omega
theorem pageF_bd (off : Nat) (s : ByteArray) (k : Nat) : 0 ≤ pageF off s k ∧ pageF off s k < 256 := pageT_bd _ _ _ _
theorem pageT_zero (off : Nat) (s : ByteArray) : pageT off s 0 = fun _ => 0 := by
 funext k
 unfold pageT
 rw [if_neg (by omega)]
theorem pageT_put (off : Nat) (s : ByteArray) (m : Nat) : (fun k => if k = off + m then byt s m else pageT off s m k) = pageT off s (m + 1) := by
 funext k
 unfold pageT
 by_cases h : k = off + m
 ·rw [if_pos h, if_pos (by omega), show k - off = m by omega]
 ·rw [if_neg h]
  by_cases h2 : off ≤ k ∧ k < off + m
  ·rw [if_pos h2, if_pos (by omega)]
  ·rw [if_neg h2, if_neg (by omega)]
theorem conv_row {w : World} {g : Nat} {f : Nat → Int} {fr : Nat × Nat} (h : w.heap[g]? = some (.cells (rowC f) 5 fr)) : (convert 73 9 (.slice (some ⟨g, 0, none⟩) 4096 4096)).run Tryz.prog w = .ok (.string (filB f)) w := by
 refine run_convert_bytes_arg w _ _ Tryz.underlying73 Tryz.underlying5 g 0 4096 4096 ((List.range 4096).map f) (by simp) (fun i hi => ?_) _ Tryz.underlying9
 rw [Nat.zero_add, cell_of_row _ _ _ _ _ _ h, yM f hi, List.getD_eq_getElem?_getD]
 simp only [List.getElem?_map, List.getElem?_range hi, Option.map_some, Option.getD_some]
set_option maxRecDepth 100000 in
set_option maxHeartbeats 4000000 in
theorem page_any (off : Nat) (s : ByteArray) (ho : off ≤ 4096) (hs : off + s.size ≤ 4096) (w : World) :
  Calls Tryz.prog 29 #[.int .i64 off, .string s] w fun e w' => e = .returned (.string (filB (pageF off s))) ∧ Below w.heap.size w w' := by
 go_enter Tryz.func29, Tryz.ntmps29
 obtain ⟨iU, hiU, hzU, hzU1, hzU2⟩ := info_parts infoU8
 go_upto_region 2 with (refine wpList_make_full _ rfl _ _ 73 rfl w.heap.size 5 iU (.int .u8 0) 1 Tryz.underlying73 hiU hzU hzU1 .i64 .i64 4096 4096 4096 rfl rfl rfl rfl (by rw [hzU2]; decide) (by decide) (zn _) ?_; intro w3 ho3 hg3)
 have h3 := own_fullS ho3
 rw [← rowC_zero] at h3
 have H3 := zh h3
 have HB3 := zh (jb hg3)
 clear ho3 hg3 h3 hiU hzU hzU1 hzU2 iU
 go_wp2_with fail
 go_loopw [6] (fun i wr => ∃ m : Nat, m ≤ s.size ∧ i = .int .i64 m ∧ Hid (wr.heap[w.heap.size]? = some (.cells (rowC (pageT off s m)) 5 (0, 0))) ∧ Hid (Below w.heap.size w wr)) (fun i _ => s.size - (intOf i).toNat)
 case atStart => exact ⟨0, Nat.zero_le _, rfl, zh (by rw [pageT_zero]; exact H3.out), HB3⟩
 case round =>
  clear H3 HB3
  obtain ⟨m, hm, rfl, HM, HB⟩ := hrel
  by_cases hlt : m < s.size
  ·have hi1 : off + m < 4096 := by omega
   have hkc : wr.cell? ⟨w.heap.size, off + m, none⟩ = some (.int .u8 0) := by
    rw [cell_of_row _ _ _ _ _ _ HM.out, yM _ hi1]
    unfold pageT
    rw [if_neg (by omega)]
   have hkf : wr.frozen? ⟨w.heap.size, off + m, none⟩ = false := frozen_of_row _ _ _ _ _ HM.out
   have hix := zl s m hlt
   have HLT := zh hlt
   go_upto_if 17 with fail
   go_wp2_with fail
   go_roundw
   case rel => exact ⟨m + 1, HLT.out, by go_num, zh (by rw [← pageT_put, ← rowC_set]; exact heap_setCell_same HM.out (i := off + m) _), zh (HB.out.setCell (p := ⟨w.heap.size, off + m, none⟩) (zn _) _)⟩
   case measure => have h1 := HLT.out; simp [intOf]; omega
  ·obtain rfl : m = s.size := by omega
   have hcv := conv_row HM.out
   go_wp2_with fail
   go_ret
   exact ⟨rfl, HB.out⟩
def yJ (s : ByteArray) : zk := ⟨[filB (pageF 0 s)], 0, 0, []⟩
set_option maxRecDepth 100000 in
set_option maxHeartbeats 4000000 in
theorem image_any (s : ByteArray) (hs : s.size ≤ 4096) (w : World) :
  Calls Tryz.prog 36 #[.string s] w fun e w' => (∃ g, e = .returned (.agg #[.slice (some ⟨g, 0, none⟩) 1 1, .int .u16 0, .int .u16 0, .slice none 0 0, .slice none 0 0]) ∧ yG w' (yJ s) (some ⟨g, 0, none⟩) 1 none 0) ∧ Below w.heap.size w w' := by
 have HPG := zh (fun W => show Calls Tryz.prog 29 #[.int .i64 0, .string s] W fun e w' => e = .returned (.string (filB (pageF 0 s))) ∧ Below W.heap.size W w' from page_any 0 s (by omega) (by omega) W)
 have hb0 : Below w.heap.size w (w.alloc (.cells #[.slice none 0 0, .int .u16 0, .int .u16 0, .slice none 0 0, .slice none 0 0] 31)) := (Below.refl _ _).alloc (zn _) _
 have h0 := heap_alloc_new w (.cells #[.slice none 0 0, .int .u16 0, .int .u16 0, .slice none 0 0, .slice none 0 0] 31)
 go_enter Tryz.func36, Tryz.ntmps36
 go_upto_region 1 with fail
 obtain ⟨w2, hw2⟩ : ∃ w2, w.alloc (.cells #[.slice none 0 0, .int .u16 0, .int .u16 0, .slice none 0 0, .slice none 0 0] 31) = w2 := ⟨_, rfl⟩
 rw [hw2] at hb0 h0 ⊢
 have HB0 := zh hb0
 have H0 := zh h0
 clear hw2 hb0 h0
 go_wp2_with (first
  | (go_at_call 29; (with_reducible refine (HPG.out _).mono ?_); rintro e3 w3 ⟨rfl, hb3⟩; have HB3 := zh hb3; have HB4 := zh (show Below w3.heap.size w3 (w3.alloc (.cells #[.string (filB (pageF 0 s))] 9)) from (Below.refl _ _).alloc (zn _) _); have H4 := zh (heap_alloc_new w3 (.cells #[.string (filB (pageF 0 s))] 9)); have H04 := zh (za HB4.out (za hb3 H0.out)); clear hb3)
  | (refine stR (H04.out) ?_))
 refine bodyPost_ret (results_cell_row (cs := #[.slice (some ⟨w3.heap.size, 0, none⟩) 1 1, .int .u16 0, .int .u16 0, .slice none 0 0, .slice none 0 0]) (fr := (0, 0)) Tryz.results36 _ _ w.heap.size 31 _ ?_ (setRow_heap _ _ _ _ _ _ H04.out) Tryz.underlying31 rfl (by kernel_rfl)) rfl ?_
 ·rfl
 ·have hz : w.heap.size < w3.heap.size := Nat.lt_of_lt_of_le (Array.getElem?_eq_some_iff.1 H0.out).1 HB3.out.size
  have htw : zg (fun k => k = w.heap.size) (w3.alloc (.cells #[.string (filB (pageF 0 s))] 9)) ((w3.alloc (.cells #[.string (filB (pageF 0 s))] 9)).setRow w.heap.size #[.slice (some ⟨w3.heap.size, 0, none⟩) 1 1, .int .u16 0, .int .u16 0, .slice none 0 0, .slice none 0 0]) := (zg.refl _ _).setRow _ (fun _ => rfl)
  refine ⟨⟨w3.heap.size, rfl, ⟨⟨zn _, rfl, fun _ => ⟨w3.heap.size, 0, _, _, _, rfl, htw.heap H4.out (fun e => by have e2 : w3.heap.size = w.heap.size := e; omega), fun j hj => ?_⟩⟩, ⟨zn _, rfl, fun h => by cases h⟩⟩⟩, HB0.out.trans (((HB3.out.mono HB0.out.size).trans (HB4.out.mono (by omega))).trans (htw.toBelow (by have := HB4.out.size; omega) (fun k e => by have e2 : k = w.heap.size := e; omega)))⟩
  rw [Nat.zero_add]
  exact (Array.getElem?_toList ..).symm
instance : DecidableEq zM := fun a b => decidable_of_iff (a.kind = b.kind ∧ a.at_ = b.at_) ⟨fun h => zM.ext' h.1 h.2, fun h => by rw [h]; exact ⟨rfl, rfl⟩⟩
theorem iss_row {w : World} {A : Option Addr} {c : Nat} {l : List zM} (h : RdS w 3 A l.length c (yf l)) {k : Nat} {x : zM} (hx : l[k]? = some x) :
  ∃ g off cur T fr, A = some ⟨g, off, none⟩ ∧ w.heap[g]? = some (.cells cur T fr) ∧ (cur.extract (off + k * 3) (off + k * 3 + 3)).toList = issL x := by
 obtain ⟨g, off, cur, T, fr, e, hg, hex, -, -⟩ := h.row (List.getElem?_eq_some_iff.1 hx).1
 rw [show yf l = l.flatMap issL from rfl, xT issL 3 (fun _ => rfl) l k x hx] at hex
 exact ⟨g, off, cur, T, fr, e, hg, hex⟩
theorem take_same {α : Type} {a b : List α} {m : Nat} {x y : α} (h : a.take m = b.take m) (hx : a[m]? = some x) (hy : b[m]? = some y) (e : x = y) : a.take (m + 1) = b.take (m + 1) := by
 rw [List.take_succ, List.take_succ, h, hx, hy, e]
set_option maxRecDepth 100000 in
set_option maxHeartbeats 4000000 in
theorem issues_any (a b : List zM) (A1 A2 : Option Addr) (c1 c2 : Nat) (w : World) (h1 : RdS w 3 A1 a.length c1 (yf a)) (h2 : RdS w 3 A2 b.length c2 (yf b)) (hl : a.length ≤ 9223372036854775807) (hl2 : b.length ≤ 9223372036854775807) :
  Calls Tryz.prog 32 #[.slice A1 a.length c1, .slice A2 b.length c2] w fun e w' => e = .returned (.bool (decide (a = b))) ∧ Below w.heap.size w w' := by
 have HA := zh h1
 have HB := zh h2
 have ha := h1.le
 have hb := h2.le
 clear h1 h2
 go_enter Tryz.func32, Tryz.ntmps32
 by_cases hab : (a.length : Int) = b.length
 ·have hab2 : a.length = b.length := by omega
  have HAB := zh hab2
  go_upto_if 10 with fail
  go_wp2_with fail
  clear hab hab2
  go_loopw [5] (fun i wr => ∃ m : Nat, m ≤ a.length ∧ i = .int .i64 m ∧ Hid (a.take m = b.take m) ∧ Hid (Below w.heap.size w wr)) (fun i _ => a.length - (intOf i).toNat)
  case atStart => exact ⟨0, Nat.zero_le _, rfl, zh rfl, zh (Below.refl _ _)⟩
  case round =>
   obtain ⟨m, hm, rfl, HT, HW⟩ := hrel
   by_cases hlt : m < a.length
   ·obtain ⟨x, hx⟩ : ∃ x, a[m]? = some x := ⟨_, List.getElem?_eq_getElem hlt⟩
    obtain ⟨y, hy⟩ : ∃ y, b[m]? = some y := ⟨_, List.getElem?_eq_getElem (by have := HAB.out; omega)⟩
    obtain ⟨g1, o1, cur1, T1, fr1, rfl, hg1, hex1⟩ := iss_row (HA.out.below HW.out) hx
    obtain ⟨g2, o2, cur2, T2, fr2, rfl, hg2, hex2⟩ := iss_row (HB.out.below HW.out) hy
    have HX := zh hx
    have HY := zh hy
    have HE1 := zh hex1
    have HE2 := zh hex2
    have HG := zh (And.intro hg1 hg2)
    have HLT := zh hlt
    have hlt2 : m < b.length := by have := HAB.out; omega
    clear hx hy hg1 hg2 hex1 hex2
    go_upto_region 6 with fail
    refine zr (S := fun W => W.heap[g1]? = some (.cells cur1 T1 fr1) ∧ W.heap[g2]? = some (.cells cur2 T2 fr2)) [8] (by kernel_rfl) ⟨HG.out.1, HG.out.2⟩ (fun hHeld => ?_)
    (refine tz 0 ?_)
    (refine tz 1 ?_)
    (refine tz 2 ?_)
    (refine tkZ 3 (v := .agg #[.int .i64 x.kind, .int .i64 x.at_.bank, .int .u16 x.at_.addr]) rfl (by assumption) (fun W hS => zQ _ _ rfl _ _ rfl _ _ _ hS.1 (issL x) HE1.out (by kernel_rfl)) ?_; (refine pts ?_))
    (refine tz 4 ?_)
    (refine tz 5 ?_)
    (refine tz 6 ?_)
    (refine tkZ 7 (v := .agg #[.int .i64 y.kind, .int .i64 y.at_.bank, .int .u16 y.at_.addr]) rfl (by assumption) (fun W hS => zQ _ _ rfl _ _ rfl _ _ _ hS.2 (issL y) HE2.out (by kernel_rfl)) ?_; (refine pts ?_))
    refine z8 8 ?_
    simp only [List.drop_succ_cons, List.drop_zero]
    clear hHeld
    by_cases he : x = y
    ·subst he
     go_wp2_with fail
     go_roundw
     case rel => exact ⟨m + 1, HLT.out, by go_num, zh (take_same HT.out HX.out HY.out rfl), zh HW.out.drew⟩
     case measure => have h1 := HLT.out; simp [intOf]; omega
    ·have HNE := zh (show ¬ a = b from fun e => by
      have h1 := HX.out
      rw [e, HY.out] at h1
      exact he (Option.some.inj h1).symm)
     go_upto_if 25 with fail
     ·exact absurd (zM.ext' (by assumption) (zb.ext' (by assumption) (by assumption))) he
     all_goals
      go_wp2_with fail
      go_ret
      exact ⟨by rw [decide_eq_false HNE.out]; rfl, HW.out.drew⟩
   ·obtain rfl : m = a.length := by omega
    have hlt2 : ¬ a.length < b.length := by have := HAB.out; omega
    have HE := zh (show a = b by
     have h := HT.out
     rw [List.take_of_length_le (zn _), List.take_of_length_le (by have := HAB.out; omega)] at h
     exact h)
    go_wp2_with fail
    go_ret
    exact ⟨by rw [decide_eq_true HE.out]; rfl, HW.out⟩
 ·have HN := zh (show ¬ a = b from fun e => hab (by rw [e]))
  have hab2 : ((a.length : Int) != b.length) = true := by simpa using hab
  go_wp2_with fail
  go_ret
  exact ⟨by rw [decide_eq_false HN.out]; rfl, Below.refl _ _⟩
end Go.Proofs.YteofmaiojepdkaaGreat
namespace Go.Proofs.YteofmaiojepdkaaGreat
open Go Go.RowKit Go.Maps Go.Sort
theorem rowN_set (n : Nat) (f : Nat → Int) (k : Nat) (v : Int) : (rowN n f).setIfInBounds k (.int .u8 v) = rowN n (fun o => if o = k then v else f o) := by
 apply Array.ext_getElem?
 intro i
 rw [Array.getElem?_setIfInBounds]
 by_cases hi : i < n
 ·by_cases hk : k = i
  ·subst hk
   rw [if_pos rfl, if_pos (by rw [rowN_size]; exact hi), rowN_get _ hi, if_pos rfl]
  ·rw [if_neg hk, rowN_get _ hi, rowN_get _ hi, if_neg (fun e => hk e.symm)]
 ·have h1 : (rowN n f)[i]? = none := Array.getElem?_eq_none (by rw [rowN_size]; omega)
  have h2 : (rowN n (fun o => if o = k then v else f o))[i]? = none := Array.getElem?_eq_none (by rw [rowN_size]; omega)
  rw [h1, h2]
  by_cases hk : k = i
  ·rw [if_pos hk, if_neg (by rw [rowN_size]; omega)]
  ·rw [if_neg hk]
def filN (n : Nat) (f : Nat → Int) : ByteArray := strOfNums ((List.range n).map f)
theorem filN_size (n : Nat) (f : Nat → Int) : (filN n f).size = n := by unfold filN; rw [strOfNums_size]; simp
theorem conv_rowN {w : World} {g n : Nat} {f : Nat → Int} {fr : Nat × Nat} (h : w.heap[g]? = some (.cells (rowN n f) 5 fr)) (c : Nat) : (convert 73 9 (.slice (some ⟨g, 0, none⟩) n c)).run Tryz.prog w = .ok (.string (filN n f)) w := by
 refine run_convert_bytes_arg w _ _ Tryz.underlying73 Tryz.underlying5 g 0 n c ((List.range n).map f) (by simp) (fun i hi => ?_) _ Tryz.underlying9
 rw [Nat.zero_add, cell_of_row _ _ _ _ _ _ h, rowN_get f hi, List.getD_eq_getElem?_getD]
 simp only [List.getElem?_map, List.getElem?_range hi, Option.map_some, Option.getD_some]
set_option maxRecDepth 100000 in
set_option maxHeartbeats 4000000 in
theorem fill_any (s : Int) (n : Nat) (hn : n ≤ 1000000) (w : World) :
  Calls Tryz.prog 20 #[.int .u32 s, .int .i64 n] w fun e w' => e = .returned (.string (filN n (filF s))) ∧ Below w.heap.size w w' := by
 have HN := zh hn
 go_enter Tryz.func20, Tryz.ntmps20
 obtain ⟨iU, hiU, hzU, hzU1, hzU2⟩ := info_parts infoU8
 go_upto_region 2 with (refine wpList_make_full _ rfl _ _ 73 rfl w.heap.size 5 iU (.int .u8 0) 1 Tryz.underlying73 hiU hzU hzU1 .i64 .i64 n n n rfl rfl rfl rfl (by rw [hzU2, Nat.one_mul]; have := HN.out; omega) (by have := HN.out; unfold maxLen; omega) (zn _) ?_; intro w3 ho3 hg3)
 have h3 := own_fullS ho3
 rw [← made_zero] at h3
 have H3 := zh h3
 have HB3 := zh (jb hg3)
 clear ho3 hg3 h3 hiU hzU hzU1 hzU2 iU
 go_wp2_with fail
 go_loopw [0, 6] (fun v i wr => ∃ m : Nat, m ≤ n ∧ v = .int .u32 (seqI s m) ∧ i = .int .i64 m ∧ Hid (wr.heap[w.heap.size]? = some (.cells (rowN n (upN (filF s) m)) 5 (0, 0))) ∧ Hid (Below w.heap.size w wr)) (fun v i _ => n - (intOf i).toNat)
 case atStart => exact ⟨0, Nat.zero_le _, rfl, rfl, zh (by rw [upN_zero]; exact H3.out), HB3⟩
 case round =>
  clear H3 HB3
  obtain ⟨m, hm, rfl, rfl, HM, HB⟩ := hrel
  by_cases hlt : m < n
  ·have hkc : wr.cell? ⟨w.heap.size, m, none⟩ = some (.int .u8 (upN (filF s) m m)) := by rw [cell_of_row _ _ _ _ _ _ HM.out, rowN_get _ hlt]
   have hkf : wr.frozen? ⟨w.heap.size, m, none⟩ = false := frozen_of_row _ _ _ _ _ HM.out
   have HLT := zh hlt
   go_wp2_with fail
   go_roundw
   case rel => exact ⟨m + 1, HLT.out, by rw [seqI]; simp only [Int.emod_add_emod], by go_num, zh (by rw [← upN_put (filF s) m ((seqI s m * 1664525 + 1013904223) % 4294967296 / 16777216) rfl, ← rowN_set]; exact heap_setCell_same HM.out (i := m) _), zh (HB.out.setCell (p := ⟨w.heap.size, m, none⟩) (zn _) _)⟩
   case measure => have h1 := HLT.out; simp [intOf]; omega
  ·obtain rfl : m = n := by omega
   have hcv := conv_rowN (show wr.heap[w.heap.size]? = some (.cells (rowN m (filF s)) 5 (0, 0)) from by rw [← rowN_congr (f := upN (filF s) m) (g := filF s) (fun o ho => by unfold upN; rw [if_pos ho])]; exact HM.out) m
   go_wp2_with fail
   go_ret
   exact ⟨rfl, HB.out⟩
end Go.Proofs.YteofmaiojepdkaaGreat
