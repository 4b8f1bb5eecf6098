/- read of package isa. -/
import Derived.Test.YtakahmhbopakmaaDoorIsaD
import Derived.Deep.RegionHeld3
set_option linter.all false
namespace Go.Proofs.YtakahmhbopakmaaDoor
open Go.RowKit

theorem u16_word (a b : Int) (a0 : 0 ≤ a) (a1 : a < 256) (b0 : 0 ≤ b) (b1 : b < 256) : bits .or .u16 a (b * 256) = a + 256 * b := by
  obtain ⟨a, rfl⟩ := Int.eq_ofNat_of_zero_le a0
  obtain ⟨b, rfl⟩ := Int.eq_ofNat_of_zero_le b0
  rw [u16_or _ _ (by omega) (by omega) (by omega) (by omega)]
  have h : a ||| b * 256 = a + 256 * b := by
    have := Nat.shiftLeft_add_eq_or_of_lt (b := a) (i := 8) (by omega) b
    rw [Nat.shiftLeft_eq, show (2 : Nat) ^ 8 = 256 from rfl] at this
    rw [Nat.or_comm]
    omega
  have e : ((b : Int) * 256).toNat = b * 256 := by omega
  rw [Int.toNat_natCast, e, h]
  omega
theorem setCell_twice (w : World) (a : Addr) (u v : Value) : (w.setCell a u).setCell a v = w.setCell a v := by
  unfold World.setCell
  congr 1
  apply Array.ext
  · simp
  · intro i h1 h2
    simp only [Array.getElem_modify]
    split
    · generalize w.heap[i]'(by simpa using h2) = o
      cases o <;> simp
      split <;> simp
    · rfl

/-- Byte number k of a string, 0 beyond its end. -/
def byt (s : ByteArray) (k : Nat) : Int := ((s.data.toList.getD k 0).toNat : Int)
theorem byt_bd (s : ByteArray) (k : Nat) : 0 ≤ byt s k ∧ byt s k < 256 := by
  unfold byt
  have := (s.data.toList.getD k 0).toNat_lt
  omega
theorem index_byt (s : ByteArray) (k : Nat) (h : k < s.size) (w : World) : (Instr.index 9 (.string s) (.int .i64 k)).run Tryd.prog w = .ok (.int .u8 (byt s k)) w := by
  rw [run_index_string _ _ _ _ _ Tryd.underlying9, dif_pos (by omega)]
  congr 2
  unfold byt
  have h2 : k < s.data.toList.length := by simpa using h
  rw [List.getD_eq_getElem?_getD, List.getElem?_eq_getElem h2]
  rfl

set_option maxHeartbeats 400000 in
theorem next_any (s : ByteArray) (k g6 g0 : Nat) (h : k < s.size) (hm : s.size ≤ 9223372036854775807) (w : World) (c6 : w.cell? ⟨g6, 0, none⟩ = some (.int .i64 k)) (f6 : w.frozen? ⟨g6, 0, none⟩ = false)
    (c0 : w.cell? ⟨g0, 0, none⟩ = some (.string s)) (hne : g0 ≠ g6) :
    Calls Tryd.prog 58 #[.pointer (some ⟨g6, 0, none⟩), .pointer (some ⟨g0, 0, none⟩)] w fun e w' => e = .returned (.int .u8 (byt s k)) ∧ w.setCell ⟨g6, 0, none⟩ (.int .i64 ((k : Int) + 1)) = w' := by
  have ix := index_byt s k h
  go_enter Tryd.func58, Tryd.ntmps58
  go_wp2
  go_ret
  exact ⟨rfl, rfl⟩

set_option maxHeartbeats 1000000 in
theorem word_any (s : ByteArray) (k g7 g6 g0 : Nat) (h : k + 1 < s.size) (hm : s.size ≤ 9223372036854775807) (w : World) (c7 : w.cell? ⟨g7, 0, none⟩ = some (.func (.func 58) #[] #[.pointer (some ⟨g6, 0, none⟩), .pointer (some ⟨g0, 0, none⟩)]))
    (c6 : w.cell? ⟨g6, 0, none⟩ = some (.int .i64 k)) (f6 : w.frozen? ⟨g6, 0, none⟩ = false)
    (c0 : w.cell? ⟨g0, 0, none⟩ = some (.string s)) (hne : g0 ≠ g6) (hne7 : g7 ≠ g6) :
    Calls Tryd.prog 59 #[.pointer (some ⟨g7, 0, none⟩)] w fun e w' => e = .returned (.int .u16 (byt s k + 256 * byt s (k + 1))) ∧ w.setCell ⟨g6, 0, none⟩ (.int .i64 ((k : Int) + 2)) = w' := by
  obtain ⟨b0, b1⟩ := byt_bd s k
  obtain ⟨b2, b3⟩ := byt_bd s (k + 1)
  have n1 := next_any s k g6 g0 (by omega) hm w c6 f6 c0 hne
  have n2 := next_any s (k + 1) g6 g0 (by omega) hm (w.setCell ⟨g6, 0, none⟩ (.int .i64 ((k : Int) + 1))) (World.cell?_setCell_same _ _ _ c6) ((World.frozen?_setCell _ _ _ _).trans f6) ((World.cell?_setCell_other _ _ _ _ (by simp [Ne.symm hne])).trans c0) hne
  have N1 := Lib.hid n1
  have N2 := Lib.hid n2
  clear n1 n2
  go_enter Tryd.func59, Tryd.ntmps59
  go_wp2_with (first | (go_at_call 58; (with_reducible refine N1.out.mono ?_); rintro e w1 ⟨rfl, rfl⟩) | (go_at_call 58; (with_reducible refine N2.out.mono ?_); rintro e w1 ⟨rfl, rfl⟩))
  go_ret
  refine ⟨?_, ?_⟩
  · rw [← u16_word _ _ b0 b1 b2 b3]; rfl
  · rw [setCell_twice]; congr 2

end Go.Proofs.YtakahmhbopakmaaDoor
