/- sanity: plain facts. -/
import Derived.Test.YtakahmhbopakmaaDoorLineC
set_option linter.all false
namespace Go.Proofs.YtakahmhbopakmaaDoor
open Go.RowKit

def sI1 : Ins := ⟨32, 1, 2, 0, 0, 0, 2⟩
def sI2 : Ins := ⟨65, 3, 0, 4660, 0, 0, 4⟩
def sI3 : Ins := ⟨80, 1, 2, 300, 0, 0, 3⟩
def sI5 : Ins := ⟨128, 0, 0, 65534, 0, 0, 2⟩
def sI6 : Ins := ⟨129, 0, 0, 4096, 0, 0, 3⟩
def sI7 : Ins := ⟨146, 1, 2, 256, 0, 3, 5⟩
theorem sE1 : encB sI1 = [32, 18] ∧ encE sI1 = 0 := by decide +kernel
theorem sE2 : encB sI2 = [65, 3, 52, 18] ∧ encE sI2 = 0 := by decide +kernel
theorem sE3 : encE sI3 = 3 := by decide +kernel
theorem sD4 : decI ⟨#[133, 2, 5, 16, 0, 64, 1]⟩ = ⟨133, 2, 0, 16, 320, 5, 7⟩ ∧ decE ⟨#[133, 2, 5, 16, 0, 64, 1]⟩ = 0 := by decide +kernel
theorem sV5 : validS sI5 = true := by decide +kernel
theorem sV6 : validS sI6 = true := by decide +kernel
theorem sV7 : validS sI7 = true := by decide +kernel
theorem itoa_dig (n : Nat) (h : n < 10) : Lib.itoa n = [UInt8.ofNat (48 + n)] := by
  unfold Lib.itoa
  rw [if_neg (by omega), Int.toNat_natCast, Lib.decDigits, dif_pos h]
theorem sO7 : opS sI7 ⟨0, 0⟩ = [[114, 49], [51, 58, 91, 114, 50, 43, 48, 120, 48, 49, 48, 48, 93]] := by
  have e1 : opS sI7 ⟨0, 0⟩ = [114 :: Lib.itoa (1 : Nat), Lib.itoa (3 : Nat) ++ [58, 91] ++ (114 :: Lib.itoa (2 : Nat)) ++ [43] ++ addr8 256 ++ [93]] := rfl
  rw [e1, itoa_dig 1 (by omega), itoa_dig 2 (by omega), itoa_dig 3 (by omega)]
  decide +kernel
theorem sL7 : lineS sI7 ⟨0, 0⟩ = [108, 100, 99, 32, 114, 49, 44, 32, 51, 58, 91, 114, 50, 43, 48, 120, 48, 49, 48, 48, 93] := by
  unfold lineS
  rw [if_pos sV7, sO7]
  decide +kernel

end Go.Proofs.YtakahmhbopakmaaDoor
