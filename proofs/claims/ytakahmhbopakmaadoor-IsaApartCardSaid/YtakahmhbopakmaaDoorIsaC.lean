/- Small functions of package isa: width, Size, extend, known. Condition: a byte is from 0 to 255. -/
import Derived.Test.YtakahmhbopakmaaDoorIsaB
set_option linter.all false
namespace Go.Proofs.YtakahmhbopakmaaDoor
open Go.RowKit

theorem index4_0 (a b c d : Value) (w : World) : (Instr.index 64 (.agg #[a, b, c, d]) (.int .i64 0)).run Tryd.prog w = .ok a w := by kernel_rfl
theorem index4_1 (a b c d : Value) (w : World) : (Instr.index 64 (.agg #[a, b, c, d]) (.int .i64 1)).run Tryd.prog w = .ok b w := by kernel_rfl
theorem index4_2 (a b c d : Value) (w : World) : (Instr.index 64 (.agg #[a, b, c, d]) (.int .i64 2)).run Tryd.prog w = .ok c w := by kernel_rfl
theorem index4_3 (a b c d : Value) (w : World) : (Instr.index 64 (.agg #[a, b, c, d]) (.int .i64 3)).run Tryd.prog w = .ok d w := by kernel_rfl

def width (n : Int) : Int := if n = 0 then 0 else if n = 6 ∨ n = 7 then 2 else 1
theorem width_bd (n : Int) : 0 ≤ width n ∧ width n ≤ 2 := by unfold width; split; omega; split <;> omega

set_option maxHeartbeats 400000 in
theorem width_any (n : Int) (w : World) :
    Calls Tryd.prog 43 #[.int .i64 n] w fun e w' => e = .returned (.int .i64 (width n)) ∧ w = w' := by
  go_enter Tryd.func43, Tryd.ntmps43
  go_wp2
  all_goals (go_ret; exact ⟨by congr 2; unfold width; simp_all, rfl⟩)

def extendS (n : Int) : Int := if n < 128 then n else n + 65280

set_option maxHeartbeats 400000 in
theorem extend_any (n : Int) (h0 : 0 ≤ n) (h1 : n < 256) (w : World) :
    Calls Tryd.prog 57 #[.int .u8 n] w fun e w' => e = .returned (.int .u16 (extendS n)) ∧ w = w' := by
  go_enter Tryd.func57, Tryd.ntmps57
  go_wp2
  go_ret
  refine ⟨?_, rfl⟩
  show Ending.returned (.int .u16 _) = _
  congr 2
  unfold extendS IntKind.wrap
  simp [IntKind.bits, IntKind.signed]
  split <;> split <;> omega

set_option maxHeartbeats 400000 in
theorem known_any (n : Int) (w : World) :
    Calls Tryd.prog 34 #[.int .i64 n] w fun e w' => e = .returned (.bool (fOf n).isSome) ∧ Below w.heap.size w w' := by
  go_enter Tryd.func34, Tryd.ntmps34
  go_wp2_with (first | (refine wpList_store_row rfl _ _ _ rfl _ _ rfl rfl _ _ (heap_alloc_new _ _) ?_ ?_ ?_ ?_; kernel_rfl; rfl; kernel_rfl; rw [World.setRow_alloc_new]) | (go_at_call 35; refine (formatOf_any _ _).mono ?_; rintro e w1 ⟨rfl, hb1⟩))
  go_ret
  exact ⟨rfl, hb1.alloc hb1.size _⟩

def sizeS (op : Int) : Int := match fOf op with
  | none => 0
  | some k => 1 + width (fAt k 2) + width (fAt k 3) + width (fAt k 4) + width (fAt k 5)

def accS (k : Nat) : Nat → Int
  | 0 => 1
  | 1 => 1 + width (fAt k 2)
  | 2 => 1 + width (fAt k 2) + width (fAt k 3)
  | 3 => 1 + width (fAt k 2) + width (fAt k 3) + width (fAt k 4)
  | _ => 1 + width (fAt k 2) + width (fAt k 3) + width (fAt k 4) + width (fAt k 5)

set_option maxHeartbeats 1000000 in
theorem size_any (n : Int) (h0 : 0 ≤ n) (h1 : n < 256) (w : World) :
    Calls Tryd.prog 24 #[.int .u8 n] w fun e w' => e = .returned (.int .i64 (sizeS n)) ∧ Below w.heap.size w w' := by
  cases hf : fOf n with
  | none =>
    have HF := Lib.hid hf
    clear hf
    go_enter Tryd.func24, Tryd.ntmps24
    go_wp2_with (first | (refine wpList_store_row rfl _ _ _ rfl _ _ rfl rfl _ _ (heap_alloc_new _ _) ?_ ?_ ?_ ?_; kernel_rfl; rfl; kernel_rfl; rw [World.setRow_alloc_new]) | (go_at_call 35; refine (formatOf_any _ _).mono ?_; rintro e w1 ⟨rfl, hb1⟩; rw [HF.out, Option.isSome_none]))
    go_ret
    exact ⟨by unfold sizeS; rw [HF.out]; rfl, hb1.alloc hb1.size _⟩
  | some k =>
    have HF := Lib.hid hf
    have HS := Lib.hid hf
    have b0 := width_bd (fAt k 2)
    have b1 := width_bd (fAt k 3)
    have b2 := width_bd (fAt k 4)
    have b3 := width_bd (fAt k 5)
    clear hf
    have i0 := index4_0
    have i1 := index4_1
    have i2 := index4_2
    have i3 := index4_3
    go_enter Tryd.func24, Tryd.ntmps24
    go_wp2_with (first | (refine wpList_store_row rfl _ _ _ rfl _ _ rfl rfl _ _ (heap_alloc_new _ _) ?_ ?_ ?_ ?_; kernel_rfl; rfl; kernel_rfl; rw [World.setRow_alloc_new]) | (go_at_call 35; refine (formatOf_any _ _).mono ?_; rintro e w1 ⟨rfl, hb1⟩; rw [HF.out, Option.isSome_some, fld_some HF.out, fld_some HF.out, fld_some HF.out, fld_some HF.out]))
    clear HF
    go_loop [5, 17] (fun acc i => ∃ j : Nat, j ≤ 4 ∧ i = .int .i64 j ∧ acc = .int .i64 (accS k j)) (fun _ i => 4 - (intOf i).toNat)
    case atStart => exact ⟨0, by omega, rfl, rfl⟩
    case round =>
      obtain ⟨j, hj, rfl, rfl⟩ := hrel
      have hj5 : j = 0 ∨ j = 1 ∨ j = 2 ∨ j = 3 ∨ j = 4 := by omega
      rcases hj5 with rfl | rfl | rfl | rfl | rfl
      all_goals
        simp only [accS]
        go_wp2_with (go_at_call 43; refine (width_any _ _).mono ?_; rintro e w2 ⟨rfl, rfl⟩)
      · go_round
        case rel => exact ⟨1, by omega, by go_num, rfl⟩
        case measure => simp [intOf]
      · go_round
        case rel => exact ⟨2, by omega, by go_num, rfl⟩
        case measure => simp [intOf]
      · go_round
        case rel => exact ⟨3, by omega, by go_num, rfl⟩
        case measure => simp [intOf]
      · go_round
        case rel => exact ⟨4, by omega, by go_num, rfl⟩
        case measure => simp [intOf]
      · go_ret
        exact ⟨by unfold sizeS; rw [HS.out]; rfl, hb1.alloc hb1.size _⟩

end Go.Proofs.YtakahmhbopakmaaDoor
