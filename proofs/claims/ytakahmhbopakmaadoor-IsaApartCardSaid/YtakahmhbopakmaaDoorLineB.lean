/- memory and suffix of package isa: walked. Condition: the library's tables read as the text lays them. -/
import Derived.Test.YtakahmhbopakmaaDoorLineA
set_option linter.all false
namespace Go.Proofs.YtakahmhbopakmaaDoor
open Go.RowKit

def addr8 (u : Int) : List UInt8 := (addrS u).map fun n => UInt8.ofNat n.toNat
theorem addr8_len (u : Int) : (addr8 u).length = 6 := by simp [addr8, addrS]
theorem addr8_any (u : Int) (h0 : 0 ≤ u) (h1 : u < 65536) (w : World) (hT : Tabs w) :
    Calls Tryd.prog 65 #[.int .u16 u] w fun e w' => e = .returned (.string ⟨(addr8 u).toArray⟩) ∧ Below w.heap.size w w' := address_any u h0 h1 w hT.bru hT.lt
def reg8 (n : Int) : List UInt8 := 114 :: Lib.itoa n
theorem reg8_any (n : Int) (h : i64ok n) (w : World) (hT : Tabs w) :
    Calls Tryd.prog 63 #[.int .i64 n] w fun e w' => e = .returned (.string ⟨(reg8 n).toArray⟩) ∧ Below w.heap.size w w' := register_any n h w hT
theorem reg8_len (n : Int) (h : i64ok n) : (reg8 n).length ≤ 22 := by
  have := Lib.itoa_length_le n h.1 h.2; simp [reg8]; omega
theorem sgnI_ok (n : Int) (h0 : 0 ≤ n) (h1 : n < 65536) : i64ok (sgnI n) := by unfold sgnI i64ok; split <;> omega
theorem num_len (n : Int) (h0 : 0 ≤ n) (h1 : n < 65536) : (Lib.itoa (sgnI n)).length ≤ 21 := Lib.itoa_length_le _ (sgnI_ok n h0 h1).1 (sgnI_ok n h0 h1).2
theorem str_cat (x y : List UInt8) : (ByteArray.mk x.toArray ++ ByteArray.mk y.toArray) = ByteArray.mk (x ++ y).toArray := ByteArray.mk_append_mk x y

def mem8 (s n : Int) : List UInt8 := [91] ++ reg8 s ++ (if n < 32768 then [43] else []) ++ Lib.itoa (sgnI n) ++ [93]
theorem mem8_len (s n : Int) (h : i64ok s) (h0 : 0 ≤ n) (h1 : n < 65536) : (mem8 s n).length ≤ 50 := by
  have := reg8_len s h
  have := num_len n h0 h1
  unfold mem8
  simp only [List.length_append, List.length_cons, List.length_nil]
  split <;> simp <;> omega

set_option maxHeartbeats 1000000 in
theorem memory_any (s n : Int) (h : i64ok s) (h0 : 0 ≤ n) (h1 : n < 65536) (w : World) (hT : Tabs w) :
    Calls Tryd.prog 67 #[.int .i64 s, .int .u16 n] w fun e w' => e = .returned (.string ⟨(mem8 s n).toArray⟩) ∧ Below w.heap.size w w' := by
  have hR := reg8_any s h w hT
  have hN := fun W (hb : Below w.heap.size w W) => number_any n h0 h1 W (hT.stay hb)
  have hl := reg8_len s h
  have hl2 := num_len n h0 h1
  have HR := Lib.hid hR
  have HN := Lib.hid hN
  clear hR hN hT
  by_cases hs : n < 32768
  · have e1 : mem8 s n = [91] ++ reg8 s ++ [43] ++ Lib.itoa (sgnI n) ++ [93] := by unfold mem8; rw [if_pos hs]
    have E1 := Lib.hid e1
    clear e1
    go_enter Tryd.func67, Tryd.ntmps67
    go_wp2_with (first
      | (go_at_call 63; refine HR.out.mono ?_; rintro e w1 ⟨rfl, hb1⟩)
      | (go_at_call 66; refine (HN.out _ hb1).mono ?_; rintro e w2 ⟨rfl, hb2⟩))
    go_ret
    refine ⟨?_, hb1.trans (hb2.mono hb1.size)⟩
    rw [E1.out]
    simp only [← str_cat]
    rfl
  · have e1 : mem8 s n = [91] ++ reg8 s ++ [] ++ Lib.itoa (sgnI n) ++ [93] := by unfold mem8; rw [if_neg hs]
    have E1 := Lib.hid e1
    have hs' : 32768 ≤ n := by omega
    clear e1 hs
    go_enter Tryd.func67, Tryd.ntmps67
    go_wp2_with (first
      | (go_at_call 63; refine HR.out.mono ?_; rintro e w1 ⟨rfl, hb1⟩)
      | (go_at_call 66; refine (HN.out _ hb1).mono ?_; rintro e w2 ⟨rfl, hb2⟩))
    go_ret
    refine ⟨?_, hb1.trans (hb2.mono hb1.size)⟩
    rw [E1.out]
    simp only [← str_cat]
    rfl

def suf8 (op : Int) : List UInt8 := if 48 ≤ op ∧ op < 64 then [46, 98] else if (64 ≤ op ∧ op < 80) ∨ (88 ≤ op ∧ op < 96) ∨ (112 ≤ op ∧ op < 128) then [46, 119] else []
set_option maxHeartbeats 1000000 in
theorem suffix_any (op : Int) (w : World) :
    Calls Tryd.prog 47 #[.int .i64 op] w fun e w' => e = .returned (.string ⟨(suf8 op).toArray⟩) ∧ w = w' := by
  by_cases a : 48 ≤ op ∧ op < 64
  · have e1 : suf8 op = [46, 98] := by unfold suf8; rw [if_pos a]
    rw [e1]; clear e1
    obtain ⟨a0, a1⟩ := a
    go_enter Tryd.func47, Tryd.ntmps47
    go_wp2
    go_ret
    exact ⟨rfl, rfl⟩
  by_cases b : (64 ≤ op ∧ op < 80) ∨ (88 ≤ op ∧ op < 96) ∨ (112 ≤ op ∧ op < 128)
  · have e1 : suf8 op = [46, 119] := by unfold suf8; rw [if_neg a, if_pos b]
    rw [e1]; clear e1
    have a' : op < 48 ∨ 64 ≤ op := by omega
    clear a
    go_enter Tryd.func47, Tryd.ntmps47
    go_wp2
    all_goals first
      | (exfalso; omega)
      | (go_ret; exact ⟨rfl, rfl⟩)
  · have e1 : suf8 op = [] := by unfold suf8; rw [if_neg a, if_neg b]
    rw [e1]; clear e1
    go_enter Tryd.func47, Tryd.ntmps47
    go_wp2
    all_goals first
      | (exfalso; omega)
      | (go_ret; exact ⟨rfl, rfl⟩)

end Go.Proofs.YtakahmhbopakmaaDoor
