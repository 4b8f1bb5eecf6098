/- Chapter 05 in plain Lean: banks whose bytes a function tells; the instruction at a place of such a bank. No condition. -/
import Derived.Test.YteofmaiojepdkaaGreatTbMpE
set_option linter.all false
namespace Go.Proofs.YteofmaiojepdkaaGreat
open Go
def filB (f : Nat → Int) : ByteArray := strOfNums ((List.range 4096).map f)
def winB (f : Nat → Int) (o n : Nat) : ByteArray := strOfNums ((List.range n).map fun j => f (o + j))
theorem filB_size (f : Nat → Int) : (filB f).size = 4096 := by unfold filB; rw [strOfNums_size]; simp
theorem winB_size (f : Nat → Int) (o n : Nat) : (winB f o n).size = n := by unfold winB; rw [strOfNums_size]; simp
theorem fil_extract (f : Nat → Int) (o n : Nat) (h : o + n ≤ 4096) : (filB f).extract o (o + n) = winB f o n := by
 apply ByteArray.ext
 apply Array.toList_inj.1
 unfold filB winB
 rw [ByteArray.data_extract, strOfNums_data, Array.toList_extract, strOfNums_data]
 simp only [List.extract_eq_take_drop, Nat.add_sub_cancel_left]
 apply List.ext_getElem?
 intro i
 by_cases hi : i < n
 ·rw [List.getElem?_take_of_lt hi, List.getElem?_drop]
  simp only [List.getElem?_map, List.getElem?_range hi, List.getElem?_range (show o + i < 4096 by omega), Option.map_some]
 ·rw [List.getElem?_eq_none (by simp; omega), List.getElem?_eq_none (by simp; omega)]
theorem win_byt (f : Nat → Int) (o n k : Nat) (h : k < n) (hf : 0 ≤ f (o + k) ∧ f (o + k) < 256) : byt (winB f o n) k = f (o + k) := by
 unfold byt winB
 rw [strOfNums_data, List.getD_eq_getElem?_getD]
 simp only [List.getElem?_map, List.getElem?_range h, Option.map_some, Option.getD_some]
 have h2 : (f (o + k)).toNat < 256 := by omega
 rw [UInt8.toNat_ofNat']
 rw [Nat.mod_eq_of_lt h2]
 omega
def atF (f : Nat → Int) (o : Nat) : Ins × Int :=
 if zx (f o) = 0 then (yr, 11)
 else if 4096 < o + (zx (f o)).toNat then (yr, 45)
 else if xL (winB f o (zx (f o)).toNat) = 0 then (xa (winB f o (zx (f o)).toNat), 0) else (yr, 11)
theorem at_fil {I : zk} {p : zb} {f : Nat → Int} (hb : I.banks[p.bank.toNat]? = some (filB f)) (hi : inI I p = true) (hf : ∀ k, 0 ≤ f k ∧ f k < 256) : atI I p = atF f (zI p) := by
 have ho : zI p < 4096 := by unfold zI; omega
 have hbk : bankI I p = filB f := by unfold bankI; rw [List.getD_eq_getElem?_getD, hb]; rfl
 have h1 : zK I p 1 = winB f (zI p) 1 := by
  unfold zK
  rw [if_pos ⟨hi, by omega⟩, hbk]
  exact fil_extract f _ 1 (by omega)
 have hb0 : byt (zK I p 1) 0 = f (zI p) := by rw [h1]; exact win_byt f _ 1 0 (by omega) (hf _)
 have hcp : yg p = true := by unfold inI at hi; simp only [Bool.and_eq_true] at hi; exact hi.1
 have hoff : (zI p : Int) = p.addr % 4096 := by unfold zI; omega
 have hs : 0 ≤ zx (f (zI p)) := by
  unfold zx
  split
  ·omega
  ·rename_i k _
   have h1 := xN (fAt k 2); have h2 := xN (fAt k 3); have h3 := xN (fAt k 4); have h4 := xN (fAt k 5)
   omega
 unfold atI atF
 rw [hb0, if_neg (by rw [h1, winB_size]; omega)]
 by_cases hz : zx (f (zI p)) = 0
 ·rw [if_pos hz, if_pos hz]
 ·rw [if_neg hz, if_neg hz]
  by_cases hn : 4096 < zI p + (zx (f (zI p))).toNat
  ·rw [if_pos hn, if_pos]
   refine .inl ?_
   unfold xk
   rw [if_neg (by omega)]
   rfl
  ·have hc : zK I p (zx (f (zI p))) = winB f (zI p) (zx (f (zI p))).toNat := by
    unfold zK
    rw [if_pos ⟨hi, by omega⟩, hbk]
    exact fil_extract f _ _ (by omega)
   rw [if_neg hn, if_neg, hc]
   rw [hc, winB_size]
   rintro (h | h)
   ·unfold xk at h
    rw [if_pos ⟨hcp, by omega, by omega⟩] at h
    cases h
   ·omega
def seqI (s : Int) : Nat → Int
 | 0 => s
 | k + 1 => (seqI s k * 1664525 + 1013904223) % 4294967296
def filF (s : Int) (k : Nat) : Int := seqI s (k + 1) / 16777216
end Go.Proofs.YteofmaiojepdkaaGreat
