/- Signed, Address of the reference: walked. Condition: the fields lie in their types' ranges. -/
import Derived.Test.YtakahmhbopakmaaDoorDecA
import Derived.Test.YtakahmhbopakmaaDoorLineB
set_option linter.all false
namespace Go.Proofs.YtakahmhbopakmaaDoor
open Go.RowKit

theorem itoa_pos (n : Int) (h : 0 ≤ n) : Lib.itoa n = Lib.decDigits n.toNat := by
  unfold Lib.itoa; rw [if_neg (by omega)]
set_option maxRecDepth 100000 in
set_option maxHeartbeats 1000000 in
theorem rsigned_any (n : Int) (h0 : 0 ≤ n) (h1 : n < 65536) (plus : Bool) (w : World) :
    Calls Tryd.prog 52 #[.int .u16 n, .bool plus] w fun e w' => e = .returned (.string ⟨((if n < 32768 ∧ plus = true then [43] else []) ++ Lib.itoa (sgnI n)).toArray⟩) ∧ Below w.heap.size w w' := by
  by_cases h : 32768 ≤ n
  · have e1 : ((if n < 32768 ∧ plus = true then [43] else []) ++ Lib.itoa (sgnI n)) = ([45] : List UInt8) ++ Lib.decDigits (65536 - n).toNat := by
      rw [if_neg (by omega)]
      unfold sgnI
      rw [if_neg (by omega)]
      obtain ⟨u, hu⟩ : ∃ u : Nat, 65536 - n = u := ⟨(65536 - n).toNat, by omega⟩
      rw [show n - 65536 = -(u : Int) by omega, Lib.itoa_neg u (by omega), hu]; rfl
    rw [e1]
    obtain ⟨u, hu⟩ : ∃ u : Nat, 65536 - n = u := ⟨(65536 - n).toNat, by omega⟩
    have HC := Lib.hid (fun W => decimal_any u (by omega) W)
    have hz : (strOf (digI u)).size ≤ 21 := by rw [strOf_size]; exact digI_len u (by omega)
    have HE := Lib.hid (show (⟨(([45] : List UInt8) ++ Lib.decDigits (65536 - n).toNat).toArray⟩ : ByteArray) = ⟨#[45]⟩ ++ strOf (digI u) by rw [strOf_dec, hu]; exact (ByteArray.mk_append_mk [45] (Lib.decDigits u)).symm)
    rw [HE.out]
    go_enter Tryd.func52, Tryd.ntmps52
    go_wp2_with (go_at_call 50; refine (HC.out _).mono ?_; rintro e w1 ⟨rfl, hb1⟩)
    go_ret
    exact ⟨rfl, hb1⟩
  · obtain ⟨u, rfl⟩ : ∃ u : Nat, n = u := ⟨n.toNat, by omega⟩
    have HC := Lib.hid (fun W => decimal_any u (by omega) W)
    have hz : (strOf (digI u)).size ≤ 21 := by rw [strOf_size]; exact digI_len u (by omega)
    have es : Lib.itoa (sgnI (u : Int)) = Lib.decDigits u := by
      unfold sgnI
      rw [if_pos (by omega), Lib.itoa_nonneg]
    rw [es]
    cases plus
    · have HE := Lib.hid (show (⟨((if (u : Int) < 32768 ∧ false = true then [43] else []) ++ Lib.decDigits u).toArray⟩ : ByteArray) = strOf (digI u) by rw [if_neg (by simp), strOf_dec]; rfl)
      rw [HE.out]
      go_enter Tryd.func52, Tryd.ntmps52
      go_wp2_with (go_at_call 50; refine (HC.out _).mono ?_; rintro e w1 ⟨rfl, hb1⟩)
      go_ret
      exact ⟨rfl, hb1⟩
    · have HE := Lib.hid (show (⟨((if (u : Int) < 32768 ∧ true = true then [43] else []) ++ Lib.decDigits u).toArray⟩ : ByteArray) = ⟨#[43]⟩ ++ strOf (digI u) by rw [if_pos ⟨by omega, rfl⟩, strOf_dec]; exact (ByteArray.mk_append_mk [43] (Lib.decDigits u)).symm)
      rw [HE.out]
      go_enter Tryd.func52, Tryd.ntmps52
      go_wp2_with (go_at_call 50; refine (HC.out _).mono ?_; rintro e w1 ⟨rfl, hb1⟩)
      go_ret
      exact ⟨rfl, hb1⟩

def digS16 : ByteArray := ⟨#[48, 49, 50, 51, 52, 53, 54, 55, 56, 57, 97, 98, 99, 100, 101, 102]⟩
theorem dig16 : ∀ k : Nat, k < 16 → (⟨#[48, 49, 50, 51, 52, 53, 54, 55, 56, 57, 97, 98, 99, 100, 101, 102]⟩ : ByteArray).extract k (k + 1) = strOf [hdI k] := by decide +kernel
set_option maxRecDepth 100000 in
set_option maxHeartbeats 1000000 in
theorem raddress_any (u : Int) (h0 : 0 ≤ u) (h1 : u < 65536) (w : World) :
    Calls Tryd.prog 51 #[.int .u16 u] w fun e w' => e = .returned (.string ⟨(addr8 u).toArray⟩) ∧ w = w' := by
  go_enter Tryd.func51, Tryd.ntmps51
  go_wp2_with fail
  go_loop [4, 5] (fun s4 s5 => ∃ k : Nat, k ≤ 4 ∧ s5 = .int .i64 k ∧ s4 = .string (strOf ((addrS u).take (2 + k)))) (fun _ s5 => 4 - (intOf s5).toNat)
  case atStart => exact ⟨0, by omega, rfl, rfl⟩
  case round =>
    obtain ⟨k, hk, rfl, rfl⟩ := hrel
    have hks : k = 0 ∨ k = 1 ∨ k = 2 ∨ k = 3 ∨ k = 4 := by omega
    rcases hks with rfl | rfl | rfl | rfl | rfl
    · obtain ⟨d, hd⟩ : ∃ d : Nat, u / 4096 % 16 = d := ⟨(u / 4096 % 16).toNat, by omega⟩
      have hd16 : d < 16 := by omega
      have hx := dig16 d hd16
      have HD := Lib.hid (show u / 16 / 16 / 16 = (d : Int) by omega)
      have z1 : (strOf ((addrS u).take (2 + 0))).size ≤ 10 := by rw [strOf_size]; simp [addrS]
      have z2 : (strOf [hdI d]).size ≤ 10 := by rw [strOf_size]; simp
      have HC := Lib.hid (show strOf ((addrS u).take (2 + 0)) ++ strOf [hdI d] = strOf ((addrS u).take (2 + 1)) by rw [← strOf_app]; congr 1; show _ = _; simp only [addrS]; rw [show u / 16 / 16 / 16 = (d : Int) from HD.out]; rfl)
      go_upto_region 7 with fail
      go_wp2_with fail
      go_round
      case rel => exact ⟨1, by omega, rfl, by rw [← HC.out]⟩
      case measure => simp [intOf]
    · obtain ⟨d, hd⟩ : ∃ d : Nat, u / 256 % 16 = d := ⟨(u / 256 % 16).toNat, by omega⟩
      have hd16 : d < 16 := by omega
      have hx := dig16 d hd16
      have HD := Lib.hid (show u / 16 / 16 % 16 = (d : Int) by omega)
      have z1 : (strOf ((addrS u).take (2 + 1))).size ≤ 10 := by rw [strOf_size]; simp [addrS]
      have z2 : (strOf [hdI d]).size ≤ 10 := by rw [strOf_size]; simp
      have HC := Lib.hid (show strOf ((addrS u).take (2 + 1)) ++ strOf [hdI d] = strOf ((addrS u).take (2 + 2)) by rw [← strOf_app]; congr 1; show _ = _; simp only [addrS]; rw [show u / 16 / 16 % 16 = (d : Int) from HD.out]; rfl)
      go_upto_region 7 with fail
      go_wp2_with fail
      go_round
      case rel => exact ⟨2, by omega, rfl, by rw [← HC.out]⟩
      case measure => simp [intOf]
    · obtain ⟨d, hd⟩ : ∃ d : Nat, u / 16 % 16 = d := ⟨(u / 16 % 16).toNat, by omega⟩
      have hd16 : d < 16 := by omega
      have hx := dig16 d hd16
      have HD := Lib.hid (show u / 16 % 16 = (d : Int) by omega)
      have z1 : (strOf ((addrS u).take (2 + 2))).size ≤ 10 := by rw [strOf_size]; simp [addrS]
      have z2 : (strOf [hdI d]).size ≤ 10 := by rw [strOf_size]; simp
      have HC := Lib.hid (show strOf ((addrS u).take (2 + 2)) ++ strOf [hdI d] = strOf ((addrS u).take (2 + 3)) by rw [← strOf_app]; congr 1; show _ = _; simp only [addrS]; rw [show u / 16 % 16 = (d : Int) from HD.out]; rfl)
      go_upto_region 7 with fail
      go_wp2_with fail
      go_round
      case rel => exact ⟨3, by omega, rfl, by rw [← HC.out]⟩
      case measure => simp [intOf]
    · obtain ⟨d, hd⟩ : ∃ d : Nat, u % 16 = d := ⟨(u % 16).toNat, by omega⟩
      have hd16 : d < 16 := by omega
      have hx := dig16 d hd16
      have HD := Lib.hid (show u % 16 = (d : Int) by omega)
      have z1 : (strOf ((addrS u).take (2 + 3))).size ≤ 10 := by rw [strOf_size]; simp [addrS]
      have z2 : (strOf [hdI d]).size ≤ 10 := by rw [strOf_size]; simp
      have HC := Lib.hid (show strOf ((addrS u).take (2 + 3)) ++ strOf [hdI d] = strOf ((addrS u).take (2 + 4)) by rw [← strOf_app]; congr 1; show _ = _; simp only [addrS]; rw [show u % 16 = (d : Int) from HD.out]; rfl)
      go_upto_region 7 with fail
      go_wp2_with fail
      go_round
      case rel => exact ⟨4, by omega, rfl, by rw [← HC.out]⟩
      case measure => simp [intOf]
    · go_wp2_with fail
      go_ret
      refine ⟨?_, rfl⟩
      rfl

end Go.Proofs.YtakahmhbopakmaaDoor
