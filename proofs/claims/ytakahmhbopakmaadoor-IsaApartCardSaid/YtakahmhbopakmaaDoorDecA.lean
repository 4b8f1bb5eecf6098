/- Decimal, Signed, Address of the reference: walked. Condition: the number is not negative. -/
import Derived.Test.YtakahmhbopakmaaDoorLineA
import Derived.Deep.DeepCutAuto
set_option linter.all false
namespace Go.Proofs.YtakahmhbopakmaaDoor
open Go.RowKit

/-- The decimal digits as numbers. -/
def digI (n : Nat) : List Int := (Lib.decDigits n).map fun b => (b.toNat : Int)
theorem strOf_dec (n : Nat) : strOf (digI n) = ⟨(Lib.decDigits n).toArray⟩ := by
  unfold strOf digI
  rw [List.map_map]
  congr 2
  have : ((fun n : Int => UInt8.ofNat n.toNat) ∘ fun b : UInt8 => (b.toNat : Int)) = id := by funext b; simp
  rw [this, List.map_id]
theorem strOf_app (a b : List Int) : strOf (a ++ b) = strOf a ++ strOf b := by
  apply ByteArray.ext
  simp [strOf]
theorem digI_small (n : Nat) (h : n < 10) : digI n = [48 + (n : Int) % 10] := by
  unfold digI
  rw [Lib.decDigits, dif_pos h]
  simp only [List.map_cons, List.map_nil, UInt8.toNat_ofNat']
  congr 1
  omega
theorem digI_big (n : Nat) (h : ¬ n < 10) : digI n = digI (n / 10) ++ [48 + (n : Int) % 10] := by
  unfold digI
  rw [Lib.decDigits, dif_neg h, List.map_append]
  simp only [List.map_cons, List.map_nil, UInt8.toNat_ofNat']
  congr 2
  omega
theorem digI_len (n : Nat) (h : n ≤ 9223372036854775807) : (digI n).length ≤ 21 := by
  have := Lib.itoa_length_le (n : Int) (by omega) (by omega)
  rw [Lib.itoa_nonneg] at this
  simpa [digI] using this

theorem conv1 (c : Int) (W : World) : (convert 36 9 (.slice (some ⟨W.heap.size, 0, none⟩) 1 1)).run Tryd.prog (W.alloc (.cells #[.int .u8 c] 5)) = .ok (.string (strOf [c])) (W.alloc (.cells #[.int .u8 c] 5)) :=
  run_conv_row (P := Tryd.prog) (W.alloc (.cells #[.int .u8 c] 5)) 36 9 5 Tryd.underlying36 Tryd.underlying5 Tryd.underlying9 _ 1 W.heap.size [c] (World.ownsRow_lit (base := W.heap.size) (size := 1) (e := 5) W #[.int .u8 c] 1 (Nat.le_refl _) (by decide) rfl)

set_option maxRecDepth 100000 in
set_option maxHeartbeats 1000000 in
theorem decimal_any (n : Nat) (hn : n ≤ 9223372036854775807) (w : World) :
    Calls Tryd.prog 50 #[.int .i64 n] w fun e w' => e = .returned (.string (strOf (digI n))) ∧ Below w.heap.size w w' := by
  have HL := Lib.hid (digI_len n hn)
  go_enter Tryd.func50, Tryd.ntmps50
  have hcv := conv1 (48 + (n : Int) % 10)
  go_upto_block 0 with fail
  clear hcv
  go_wp2_with fail
  go_loopw [0, 3] (fun s0 s3 wr => ∃ (m : Nat) (acc : List Int), s0 = .int .i64 m ∧ m ≤ n ∧ s3 = .string (strOf ((48 + (m : Int) % 10) :: acc)) ∧ Hid (digI n = digI m ++ acc) ∧ Hid (Below w.heap.size w wr)) (fun s0 _ _ => (intOf s0).toNat)
  case atStart => exact ⟨n, [], rfl, Nat.le_refl _, rfl, Lib.hid (by simp), Lib.hid ((Below.refl _ _).alloc (Nat.le_refl _) _)⟩
  case round =>
    obtain ⟨m, acc, rfl, hm, rfl, HE, HB⟩ := hrel
    have hlen : acc.length ≤ 21 := by
      have := congrArg List.length HE.out
      rw [List.length_append] at this
      have := HL.out
      omega
    by_cases h10 : m < 10
    · go_wp2_with fail
      go_ret
      refine ⟨?_, HB.out⟩
      rw [HE.out, digI_small m h10]; rfl
    · have hcv := conv1 (48 + (m : Int) / 10 % 10)
      have z1 : (strOf [48 + (m : Int) / 10 % 10]).size ≤ 1 := by rw [strOf_size]; simp
      have z2 : (strOf ((48 + (m : Int) % 10) :: acc)).size ≤ 30 := by rw [strOf_size]; simp; omega
      have HC := Lib.hid (strOf_app [48 + (m : Int) / 10 % 10] ((48 + (m : Int) % 10) :: acc))
      have HE2 := Lib.hid (digI_big m h10)
      go_wp2_with fail
      go_roundw
      case rel => exact ⟨m / 10, (48 + (m : Int) % 10) :: acc, by rw [Int.natCast_ediv]; rfl, by omega, by rw [← HC.out, Int.natCast_ediv]; rfl, Lib.hid (by rw [HE.out, HE2.out, List.append_assoc]; rfl), Lib.hid (HB.out.alloc HB.out.size _)⟩
      case measure => simp [intOf]; omega

end Go.Proofs.YtakahmhbopakmaaDoor
