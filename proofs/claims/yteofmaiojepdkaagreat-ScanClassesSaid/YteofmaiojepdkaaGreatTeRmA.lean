/- The reference of chapter 04: Fill, walked. No condition. -/
import Derived.Test.YteofmaiojepdkaaGreatTeSpI
set_option linter.all false
namespace Go.Proofs.YteofmaiojepdkaaGreat
open Go Go.RowKit Go.Maps Go.Sort
theorem rowN_set (n : Nat) (f : Nat → Int) (k : Nat) (v : Int) : (rowN n f).setIfInBounds k (.int .u8 v) = rowN n (fun o => if o = k then v else f o) := by
 apply Array.ext_getElem?
 intro i
 rw [Array.getElem?_setIfInBounds]
 by_cases hi : i < n
 ·by_cases hk : k = i
  ·subst hk
   rw [if_pos rfl, if_pos (by rw [rowN_size]; exact hi), rowN_get _ hi, if_pos rfl]
  ·rw [if_neg hk, rowN_get _ hi, rowN_get _ hi, if_neg (fun e => hk e.symm)]
 ·have h1 : (rowN n f)[i]? = none := Array.getElem?_eq_none (by rw [rowN_size]; omega)
  have h2 : (rowN n (fun o => if o = k then v else f o))[i]? = none := Array.getElem?_eq_none (by rw [rowN_size]; omega)
  rw [h1, h2]
  by_cases hk : k = i
  ·rw [if_pos hk, if_neg (by rw [rowN_size]; omega)]
  ·rw [if_neg hk]
def filN (n : Nat) (f : Nat → Int) : ByteArray := strOfNums ((List.range n).map f)
theorem conv_rowN {w : World} {g n : Nat} {f : Nat → Int} {fr : Nat × Nat} (h : w.heap[g]? = some (.cells (rowN n f) 5 fr)) (c : Nat) : (convert 73 9 (.slice (some ⟨g, 0, none⟩) n c)).run Tryz.prog w = .ok (.string (filN n f)) w := by
 refine run_convert_bytes_arg w _ _ Tryz.underlying73 Tryz.underlying5 g 0 n c ((List.range n).map f) (by simp) (fun i hi => ?_) _ Tryz.underlying9
 rw [Nat.zero_add, cell_of_row _ _ _ _ _ _ h, rowN_get f hi, List.getD_eq_getElem?_getD]
 simp only [List.getElem?_map, List.getElem?_range hi, Option.map_some, Option.getD_some]
set_option maxRecDepth 100000 in
set_option maxHeartbeats 4000000 in
theorem fill_any (s : Int) (n : Nat) (hn : n ≤ 1000000) (w : World) :
  Calls Tryz.prog 20 #[.int .u32 s, .int .i64 n] w fun e w' => e = .returned (.string (filN n (x9 s))) ∧ Below w.heap.size w w' := by
 have HN := zh hn
 go_enter Tryz.func20, Tryz.ntmps20
 obtain ⟨iU, hiU, hzU, hzU1, hzU2⟩ := info_parts infoU8
 go_upto_region 2 with (refine wpList_make_full _ rfl _ _ 73 rfl w.heap.size 5 iU (.int .u8 0) 1 Tryz.underlying73 hiU hzU hzU1 .i64 .i64 n n n rfl rfl rfl rfl (by rw [hzU2, Nat.one_mul]; have := HN.out; omega) (by have := HN.out; unfold maxLen; omega) (zn _) ?_; intro w3 ho3 hg3)
 have h3 := own_fullS ho3
 rw [← made_zero] at h3
 have H3 := zh h3
 have HB3 := zh (xV hg3)
 clear ho3 hg3 h3 hiU hzU hzU1 hzU2 iU
 go_wp2_with fail
 go_loopw [0, 6] (fun v i wr => ∃ m : Nat, m ≤ n ∧ v = .int .u32 (seqI s m) ∧ i = .int .i64 m ∧ Hid (wr.heap[w.heap.size]? = some (.cells (rowN n (upN (x9 s) m)) 5 (0, 0))) ∧ Hid (Below w.heap.size w wr)) (fun v i _ => n - (intOf i).toNat)
 case atStart => exact ⟨0, Nat.zero_le _, rfl, rfl, zh (by rw [upN_zero]; exact H3.out), HB3⟩
 case round =>
  clear H3 HB3
  obtain ⟨m, hm, rfl, rfl, HM, HB⟩ := hrel
  by_cases hlt : m < n
  ·have hkc : wr.cell? ⟨w.heap.size, m, none⟩ = some (.int .u8 (upN (x9 s) m m)) := by rw [cell_of_row _ _ _ _ _ _ HM.out, rowN_get _ hlt]
   have hkf : wr.frozen? ⟨w.heap.size, m, none⟩ = false := frozen_of_row _ _ _ _ _ HM.out
   have HLT := zh hlt
   go_wp2_with fail
   go_roundw
   case rel => exact ⟨m + 1, HLT.out, by rw [seqI]; simp only [Int.emod_add_emod], by go_num, zh (by rw [← upN_put (x9 s) m ((seqI s m * 1664525 + 1013904223) % 4294967296 / 16777216) rfl, ← rowN_set]; exact heap_setCell_same HM.out (i := m) _), zh (HB.out.setCell (p := ⟨w.heap.size, m, none⟩) (zn _) _)⟩
   case measure => have h1 := HLT.out; simp [intOf]; omega
  ·obtain rfl : m = n := by omega
   have hcv := conv_rowN (show wr.heap[w.heap.size]? = some (.cells (rowN m (x9 s)) 5 (0, 0)) from by rw [← rowN_congr (f := upN (x9 s) m) (g := x9 s) (fun o ho => by unfold upN; rw [if_pos ho])]; exact HM.out) m
   go_wp2_with fail
   go_ret
   exact ⟨rfl, HB.out⟩
end Go.Proofs.YteofmaiojepdkaaGreat
