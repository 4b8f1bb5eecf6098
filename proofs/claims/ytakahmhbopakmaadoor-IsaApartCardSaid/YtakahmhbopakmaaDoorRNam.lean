/- Names of the reference: walked, row by row. Condition: the operation lies in 0 .. 163. -/
import Derived.Test.YtakahmhbopakmaaDoorLineC
set_option linter.all false
namespace Go.Proofs.YtakahmhbopakmaaDoor
open Go.RowKit

def nmR (r : Nat) : List (List UInt8) := match r with
  | 0 => [[110, 111, 112], [114, 101, 116], [104, 108, 116], [105, 114, 101, 116], [112, 111, 108, 108], [108, 101, 97, 118, 101], [], [], [], [], [], [], [], [], [], []]
  | 1 => [[112, 117, 115, 104], [112, 111, 112], [110, 101, 103], [110, 111, 116], [101, 110, 116, 101, 114], [100, 114, 111, 112], [], [], [], [], [], [], [], [], [], []]
  | 2 => [[109, 111, 118], [97, 100, 100], [97, 100, 99], [115, 117, 98], [115, 98, 98], [97, 110, 100], [111, 114], [120, 111, 114], [99, 109, 112], [116, 115, 116], [109, 117, 108], [100, 105, 118], [115, 104, 108], [115, 104, 114], [115, 97, 114], []]
  | 3 => [[109, 111, 118], [97, 100, 100], [97, 100, 99], [115, 117, 98], [115, 98, 98], [97, 110, 100], [111, 114], [120, 111, 114], [99, 109, 112], [116, 115, 116], [109, 117, 108], [100, 105, 118], [115, 104, 108], [115, 104, 114], [115, 97, 114], []]
  | 4 => [[109, 111, 118], [97, 100, 100], [97, 100, 99], [115, 117, 98], [115, 98, 98], [97, 110, 100], [111, 114], [120, 111, 114], [99, 109, 112], [116, 115, 116], [109, 117, 108], [100, 105, 118], [115, 104, 108], [115, 104, 114], [115, 97, 114], []]
  | 5 => [[108, 100], [108, 100, 98], [115, 116], [115, 116, 98], [108, 100, 97], [108, 100, 97, 98], [115, 116, 97], [115, 116, 97, 98], [108, 100], [108, 100, 98], [115, 116], [115, 116, 98], [], [], [], []]
  | 6 => [[106, 101, 113], [106, 110, 101], [106, 99, 115], [106, 99, 99], [106, 109, 105], [106, 112, 108], [106, 118, 115], [106, 118, 99], [106, 104, 105], [106, 108, 115], [106, 103, 101], [106, 108, 116], [106, 103, 116], [106, 108, 101], [], []]
  | 7 => [[106, 101, 113], [106, 110, 101], [106, 99, 115], [106, 99, 99], [106, 109, 105], [106, 112, 108], [106, 118, 115], [106, 118, 99], [106, 104, 105], [106, 108, 115], [106, 103, 101], [106, 108, 116], [106, 103, 116], [106, 108, 101], [], []]
  | 8 => [[106, 109, 112], [106, 109, 112, 119], [99, 97, 108, 108], [106, 109, 112, 102], [99, 97, 108, 108, 102], [106, 116, 97, 98], [106, 109, 112, 105], [], [], [], [], [], [], [], [], []]
  | 9 => [[105, 110], [111, 117, 116], [108, 100, 99], [108, 100, 99, 98], [], [], [115, 116, 105], [], [], [], [], [], [], [], [], []]
  | 10 => [[108, 100, 115], [115, 116, 115], [108, 100, 102], [115, 116, 102], [], [], [], [], [], [], [], [], [], [], [], []]
  | _ => []
theorem nmR_eq : ∀ n : Nat, n < 164 → (nmR (n / 16))[n % 16]? = some (nameD n) := by decide +kernel
theorem newsN (W : World) (o : Obj) {b : Nat} (h : W.heap.size = b) : (W.alloc o).heap[b]? = some o := by subst h; exact heap_alloc_new _ _

set_option maxRecDepth 100000 in
set_option maxHeartbeats 8000000 in
theorem rnames_any (op : Int) (h0 : 0 ≤ op) (h1 : op ≤ 163) (w : World) :
    Calls Tryd.prog 53 #[.int .i64 op] w fun e w' => e = .returned (.string ⟨(nameD op).toArray⟩) ∧ Below w.heap.size w w' := by
  obtain ⟨n, rfl⟩ : ∃ n : Nat, op = n := ⟨op.toNat, by omega⟩
  have hn : n < 164 := by omega
  have he := nmR_eq n hn
  obtain ⟨r, hr⟩ : ∃ r, n / 16 = r := ⟨_, rfl⟩
  obtain ⟨j, hj⟩ : ∃ j, n % 16 = j := ⟨_, rfl⟩
  rw [hr, hj] at he
  generalize nameD (n : Int) = s at he
  have hj16 : j < 16 := by omega
  have hrs : r = 0 ∨ r = 1 ∨ r = 2 ∨ r = 3 ∨ r = 4 ∨ r = 5 ∨ r = 6 ∨ r = 7 ∨ r = 8 ∨ r = 9 ∨ r = 10 := by omega
  have hd : (n : Int) / 16 = (r : Int) := by omega
  have hm : (n : Int) % 16 = (j : Int) := by omega
  have ha := i64_and15 (n : Int)
  rw [hm] at ha
  have HE := Lib.hid he
  have HA := Lib.hid ((heap_alloc_old ((w.alloc (.cells #[.string ⟨#[109, 111, 118]⟩, .string ⟨#[97, 100, 100]⟩, .string ⟨#[97, 100, 99]⟩, .string ⟨#[115, 117, 98]⟩, .string ⟨#[115, 98, 98]⟩, .string ⟨#[97, 110, 100]⟩, .string ⟨#[111, 114]⟩, .string ⟨#[120, 111, 114]⟩, .string ⟨#[99, 109, 112]⟩, .string ⟨#[116, 115, 116]⟩, .string ⟨#[109, 117, 108]⟩, .string ⟨#[100, 105, 118]⟩, .string ⟨#[115, 104, 108]⟩, .string ⟨#[115, 104, 114]⟩, .string ⟨#[115, 97, 114]⟩, .string ⟨#[]⟩] 104)).alloc (.cells #[.string ⟨#[106, 101, 113]⟩, .string ⟨#[106, 110, 101]⟩, .string ⟨#[106, 99, 115]⟩, .string ⟨#[106, 99, 99]⟩, .string ⟨#[106, 109, 105]⟩, .string ⟨#[106, 112, 108]⟩, .string ⟨#[106, 118, 115]⟩, .string ⟨#[106, 118, 99]⟩, .string ⟨#[106, 104, 105]⟩, .string ⟨#[106, 108, 115]⟩, .string ⟨#[106, 103, 101]⟩, .string ⟨#[106, 108, 116]⟩, .string ⟨#[106, 103, 116]⟩, .string ⟨#[106, 108, 101]⟩, .string ⟨#[]⟩, .string ⟨#[]⟩] 104)) (.cells #[.string ⟨#[]⟩, .string ⟨#[]⟩, .string ⟨#[]⟩, .string ⟨#[]⟩, .string ⟨#[]⟩, .string ⟨#[]⟩, .string ⟨#[]⟩, .string ⟨#[]⟩, .string ⟨#[]⟩, .string ⟨#[]⟩, .string ⟨#[]⟩, .string ⟨#[]⟩, .string ⟨#[]⟩, .string ⟨#[]⟩, .string ⟨#[]⟩, .string ⟨#[]⟩] 104) (by simp <;> omega : w.heap.size < _)).trans ((heap_alloc_old (w.alloc (.cells #[.string ⟨#[109, 111, 118]⟩, .string ⟨#[97, 100, 100]⟩, .string ⟨#[97, 100, 99]⟩, .string ⟨#[115, 117, 98]⟩, .string ⟨#[115, 98, 98]⟩, .string ⟨#[97, 110, 100]⟩, .string ⟨#[111, 114]⟩, .string ⟨#[120, 111, 114]⟩, .string ⟨#[99, 109, 112]⟩, .string ⟨#[116, 115, 116]⟩, .string ⟨#[109, 117, 108]⟩, .string ⟨#[100, 105, 118]⟩, .string ⟨#[115, 104, 108]⟩, .string ⟨#[115, 104, 114]⟩, .string ⟨#[115, 97, 114]⟩, .string ⟨#[]⟩] 104)) (.cells #[.string ⟨#[106, 101, 113]⟩, .string ⟨#[106, 110, 101]⟩, .string ⟨#[106, 99, 115]⟩, .string ⟨#[106, 99, 99]⟩, .string ⟨#[106, 109, 105]⟩, .string ⟨#[106, 112, 108]⟩, .string ⟨#[106, 118, 115]⟩, .string ⟨#[106, 118, 99]⟩, .string ⟨#[106, 104, 105]⟩, .string ⟨#[106, 108, 115]⟩, .string ⟨#[106, 103, 101]⟩, .string ⟨#[106, 108, 116]⟩, .string ⟨#[106, 103, 116]⟩, .string ⟨#[106, 108, 101]⟩, .string ⟨#[]⟩, .string ⟨#[]⟩] 104) (by simp : w.heap.size < _)).trans (heap_alloc_new w (.cells #[.string ⟨#[109, 111, 118]⟩, .string ⟨#[97, 100, 100]⟩, .string ⟨#[97, 100, 99]⟩, .string ⟨#[115, 117, 98]⟩, .string ⟨#[115, 98, 98]⟩, .string ⟨#[97, 110, 100]⟩, .string ⟨#[111, 114]⟩, .string ⟨#[120, 111, 114]⟩, .string ⟨#[99, 109, 112]⟩, .string ⟨#[116, 115, 116]⟩, .string ⟨#[109, 117, 108]⟩, .string ⟨#[100, 105, 118]⟩, .string ⟨#[115, 104, 108]⟩, .string ⟨#[115, 104, 114]⟩, .string ⟨#[115, 97, 114]⟩, .string ⟨#[]⟩] 104))))
  have HJ := Lib.hid ((heap_alloc_old ((w.alloc (.cells #[.string ⟨#[109, 111, 118]⟩, .string ⟨#[97, 100, 100]⟩, .string ⟨#[97, 100, 99]⟩, .string ⟨#[115, 117, 98]⟩, .string ⟨#[115, 98, 98]⟩, .string ⟨#[97, 110, 100]⟩, .string ⟨#[111, 114]⟩, .string ⟨#[120, 111, 114]⟩, .string ⟨#[99, 109, 112]⟩, .string ⟨#[116, 115, 116]⟩, .string ⟨#[109, 117, 108]⟩, .string ⟨#[100, 105, 118]⟩, .string ⟨#[115, 104, 108]⟩, .string ⟨#[115, 104, 114]⟩, .string ⟨#[115, 97, 114]⟩, .string ⟨#[]⟩] 104)).alloc (.cells #[.string ⟨#[106, 101, 113]⟩, .string ⟨#[106, 110, 101]⟩, .string ⟨#[106, 99, 115]⟩, .string ⟨#[106, 99, 99]⟩, .string ⟨#[106, 109, 105]⟩, .string ⟨#[106, 112, 108]⟩, .string ⟨#[106, 118, 115]⟩, .string ⟨#[106, 118, 99]⟩, .string ⟨#[106, 104, 105]⟩, .string ⟨#[106, 108, 115]⟩, .string ⟨#[106, 103, 101]⟩, .string ⟨#[106, 108, 116]⟩, .string ⟨#[106, 103, 116]⟩, .string ⟨#[106, 108, 101]⟩, .string ⟨#[]⟩, .string ⟨#[]⟩] 104)) (.cells #[.string ⟨#[]⟩, .string ⟨#[]⟩, .string ⟨#[]⟩, .string ⟨#[]⟩, .string ⟨#[]⟩, .string ⟨#[]⟩, .string ⟨#[]⟩, .string ⟨#[]⟩, .string ⟨#[]⟩, .string ⟨#[]⟩, .string ⟨#[]⟩, .string ⟨#[]⟩, .string ⟨#[]⟩, .string ⟨#[]⟩, .string ⟨#[]⟩, .string ⟨#[]⟩] 104) (by simp : w.heap.size + 1 < _)).trans (newsN (w.alloc (.cells #[.string ⟨#[109, 111, 118]⟩, .string ⟨#[97, 100, 100]⟩, .string ⟨#[97, 100, 99]⟩, .string ⟨#[115, 117, 98]⟩, .string ⟨#[115, 98, 98]⟩, .string ⟨#[97, 110, 100]⟩, .string ⟨#[111, 114]⟩, .string ⟨#[120, 111, 114]⟩, .string ⟨#[99, 109, 112]⟩, .string ⟨#[116, 115, 116]⟩, .string ⟨#[109, 117, 108]⟩, .string ⟨#[100, 105, 118]⟩, .string ⟨#[115, 104, 108]⟩, .string ⟨#[115, 104, 114]⟩, .string ⟨#[115, 97, 114]⟩, .string ⟨#[]⟩] 104)) (.cells #[.string ⟨#[106, 101, 113]⟩, .string ⟨#[106, 110, 101]⟩, .string ⟨#[106, 99, 115]⟩, .string ⟨#[106, 99, 99]⟩, .string ⟨#[106, 109, 105]⟩, .string ⟨#[106, 112, 108]⟩, .string ⟨#[106, 118, 115]⟩, .string ⟨#[106, 118, 99]⟩, .string ⟨#[106, 104, 105]⟩, .string ⟨#[106, 108, 115]⟩, .string ⟨#[106, 103, 101]⟩, .string ⟨#[106, 108, 116]⟩, .string ⟨#[106, 103, 116]⟩, .string ⟨#[106, 108, 101]⟩, .string ⟨#[]⟩, .string ⟨#[]⟩] 104) (by simp)))
  have HZ := Lib.hid (newsN ((w.alloc (.cells #[.string ⟨#[109, 111, 118]⟩, .string ⟨#[97, 100, 100]⟩, .string ⟨#[97, 100, 99]⟩, .string ⟨#[115, 117, 98]⟩, .string ⟨#[115, 98, 98]⟩, .string ⟨#[97, 110, 100]⟩, .string ⟨#[111, 114]⟩, .string ⟨#[120, 111, 114]⟩, .string ⟨#[99, 109, 112]⟩, .string ⟨#[116, 115, 116]⟩, .string ⟨#[109, 117, 108]⟩, .string ⟨#[100, 105, 118]⟩, .string ⟨#[115, 104, 108]⟩, .string ⟨#[115, 104, 114]⟩, .string ⟨#[115, 97, 114]⟩, .string ⟨#[]⟩] 104)).alloc (.cells #[.string ⟨#[106, 101, 113]⟩, .string ⟨#[106, 110, 101]⟩, .string ⟨#[106, 99, 115]⟩, .string ⟨#[106, 99, 99]⟩, .string ⟨#[106, 109, 105]⟩, .string ⟨#[106, 112, 108]⟩, .string ⟨#[106, 118, 115]⟩, .string ⟨#[106, 118, 99]⟩, .string ⟨#[106, 104, 105]⟩, .string ⟨#[106, 108, 115]⟩, .string ⟨#[106, 103, 101]⟩, .string ⟨#[106, 108, 116]⟩, .string ⟨#[106, 103, 116]⟩, .string ⟨#[106, 108, 101]⟩, .string ⟨#[]⟩, .string ⟨#[]⟩] 104)) (.cells #[.string ⟨#[]⟩, .string ⟨#[]⟩, .string ⟨#[]⟩, .string ⟨#[]⟩, .string ⟨#[]⟩, .string ⟨#[]⟩, .string ⟨#[]⟩, .string ⟨#[]⟩, .string ⟨#[]⟩, .string ⟨#[]⟩, .string ⟨#[]⟩, .string ⟨#[]⟩, .string ⟨#[]⟩, .string ⟨#[]⟩, .string ⟨#[]⟩, .string ⟨#[]⟩] 104) (by simp : _ = w.heap.size + 2))
  have HB := Lib.hid ((((Below.refl w.heap.size w).alloc (Nat.le_refl _) (.cells #[.string ⟨#[109, 111, 118]⟩, .string ⟨#[97, 100, 100]⟩, .string ⟨#[97, 100, 99]⟩, .string ⟨#[115, 117, 98]⟩, .string ⟨#[115, 98, 98]⟩, .string ⟨#[97, 110, 100]⟩, .string ⟨#[111, 114]⟩, .string ⟨#[120, 111, 114]⟩, .string ⟨#[99, 109, 112]⟩, .string ⟨#[116, 115, 116]⟩, .string ⟨#[109, 117, 108]⟩, .string ⟨#[100, 105, 118]⟩, .string ⟨#[115, 104, 108]⟩, .string ⟨#[115, 104, 114]⟩, .string ⟨#[115, 97, 114]⟩, .string ⟨#[]⟩] 104)).alloc (by simp) (.cells #[.string ⟨#[106, 101, 113]⟩, .string ⟨#[106, 110, 101]⟩, .string ⟨#[106, 99, 115]⟩, .string ⟨#[106, 99, 99]⟩, .string ⟨#[106, 109, 105]⟩, .string ⟨#[106, 112, 108]⟩, .string ⟨#[106, 118, 115]⟩, .string ⟨#[106, 118, 99]⟩, .string ⟨#[106, 104, 105]⟩, .string ⟨#[106, 108, 115]⟩, .string ⟨#[106, 103, 101]⟩, .string ⟨#[106, 108, 116]⟩, .string ⟨#[106, 103, 116]⟩, .string ⟨#[106, 108, 101]⟩, .string ⟨#[]⟩, .string ⟨#[]⟩] 104)).alloc (by simp <;> omega) (.cells #[.string ⟨#[]⟩, .string ⟨#[]⟩, .string ⟨#[]⟩, .string ⟨#[]⟩, .string ⟨#[]⟩, .string ⟨#[]⟩, .string ⟨#[]⟩, .string ⟨#[]⟩, .string ⟨#[]⟩, .string ⟨#[]⟩, .string ⟨#[]⟩, .string ⟨#[]⟩, .string ⟨#[]⟩, .string ⟨#[]⟩, .string ⟨#[]⟩, .string ⟨#[]⟩] 104))
  clear he hr hj hm h0 h1
  go_enter Tryd.func53, Tryd.ntmps53
  go_upto_region 4 with (refine wpList_store_row rfl _ _ _ rfl _ _ rfl rfl _ _ (heap_alloc_new _ _) ?_ ?_ ?_ ?_; kernel_rfl; rfl; kernel_rfl; rw [World.setRow_alloc_new])
  obtain ⟨w3, hw3⟩ : ∃ w3 : World, (((w.alloc (.cells #[.string ⟨#[109, 111, 118]⟩, .string ⟨#[97, 100, 100]⟩, .string ⟨#[97, 100, 99]⟩, .string ⟨#[115, 117, 98]⟩, .string ⟨#[115, 98, 98]⟩, .string ⟨#[97, 110, 100]⟩, .string ⟨#[111, 114]⟩, .string ⟨#[120, 111, 114]⟩, .string ⟨#[99, 109, 112]⟩, .string ⟨#[116, 115, 116]⟩, .string ⟨#[109, 117, 108]⟩, .string ⟨#[100, 105, 118]⟩, .string ⟨#[115, 104, 108]⟩, .string ⟨#[115, 104, 114]⟩, .string ⟨#[115, 97, 114]⟩, .string ⟨#[]⟩] 104)).alloc (.cells #[.string ⟨#[106, 101, 113]⟩, .string ⟨#[106, 110, 101]⟩, .string ⟨#[106, 99, 115]⟩, .string ⟨#[106, 99, 99]⟩, .string ⟨#[106, 109, 105]⟩, .string ⟨#[106, 112, 108]⟩, .string ⟨#[106, 118, 115]⟩, .string ⟨#[106, 118, 99]⟩, .string ⟨#[106, 104, 105]⟩, .string ⟨#[106, 108, 115]⟩, .string ⟨#[106, 103, 101]⟩, .string ⟨#[106, 108, 116]⟩, .string ⟨#[106, 103, 116]⟩, .string ⟨#[106, 108, 101]⟩, .string ⟨#[]⟩, .string ⟨#[]⟩] 104)).alloc (.cells #[.string ⟨#[]⟩, .string ⟨#[]⟩, .string ⟨#[]⟩, .string ⟨#[]⟩, .string ⟨#[]⟩, .string ⟨#[]⟩, .string ⟨#[]⟩, .string ⟨#[]⟩, .string ⟨#[]⟩, .string ⟨#[]⟩, .string ⟨#[]⟩, .string ⟨#[]⟩, .string ⟨#[]⟩, .string ⟨#[]⟩, .string ⟨#[]⟩, .string ⟨#[]⟩] 104)) = w3 := ⟨_, rfl⟩
  rw [hw3] at HA HJ HZ HB ⊢
  clear hw3
  go_upto_block 0 with fail
  rcases hrs with rfl | rfl | rfl | rfl | rfl | rfl | rfl | rfl | rfl | rfl | rfl
  · go_upto_region 24 with (first
      | (refine wpList_store_row rfl _ _ _ rfl _ _ rfl rfl _ _ (HZ.out) ?_ ?_ ?_ ?_; kernel_rfl; rfl; kernel_rfl))
    have hc : (w3.setRow (w.heap.size + 2) #[.string ⟨#[110, 111, 112]⟩, .string ⟨#[114, 101, 116]⟩, .string ⟨#[104, 108, 116]⟩, .string ⟨#[105, 114, 101, 116]⟩, .string ⟨#[112, 111, 108, 108]⟩, .string ⟨#[108, 101, 97, 118, 101]⟩, .string ⟨#[]⟩, .string ⟨#[]⟩, .string ⟨#[]⟩, .string ⟨#[]⟩, .string ⟨#[]⟩, .string ⟨#[]⟩, .string ⟨#[]⟩, .string ⟨#[]⟩, .string ⟨#[]⟩, .string ⟨#[]⟩]).cell? ⟨w.heap.size + 2, j, none⟩ = some (.string ⟨s.toArray⟩) := by
      rw [cell_of_row _ (w.heap.size + 2) j _ _ _ (setRow_heap w3 _ _ #[.string ⟨#[110, 111, 112]⟩, .string ⟨#[114, 101, 116]⟩, .string ⟨#[104, 108, 116]⟩, .string ⟨#[105, 114, 101, 116]⟩, .string ⟨#[112, 111, 108, 108]⟩, .string ⟨#[108, 101, 97, 118, 101]⟩, .string ⟨#[]⟩, .string ⟨#[]⟩, .string ⟨#[]⟩, .string ⟨#[]⟩, .string ⟨#[]⟩, .string ⟨#[]⟩, .string ⟨#[]⟩, .string ⟨#[]⟩, .string ⟨#[]⟩, .string ⟨#[]⟩] _ _ HZ.out)]
      show (((nmR 0).map strV).toArray)[j]? = _
      rw [List.getElem?_toArray, List.getElem?_map, HE.out]; rfl
    go_wp2_with fail
    go_ret
    exact ⟨rfl, below_setRow HB.out (by omega) _⟩
  · go_upto_region 24 with (first
      | (refine wpList_store_row rfl _ _ _ rfl _ _ rfl rfl _ _ (HZ.out) ?_ ?_ ?_ ?_; kernel_rfl; rfl; kernel_rfl))
    have hc : (w3.setRow (w.heap.size + 2) #[.string ⟨#[112, 117, 115, 104]⟩, .string ⟨#[112, 111, 112]⟩, .string ⟨#[110, 101, 103]⟩, .string ⟨#[110, 111, 116]⟩, .string ⟨#[101, 110, 116, 101, 114]⟩, .string ⟨#[100, 114, 111, 112]⟩, .string ⟨#[]⟩, .string ⟨#[]⟩, .string ⟨#[]⟩, .string ⟨#[]⟩, .string ⟨#[]⟩, .string ⟨#[]⟩, .string ⟨#[]⟩, .string ⟨#[]⟩, .string ⟨#[]⟩, .string ⟨#[]⟩]).cell? ⟨w.heap.size + 2, j, none⟩ = some (.string ⟨s.toArray⟩) := by
      rw [cell_of_row _ (w.heap.size + 2) j _ _ _ (setRow_heap w3 _ _ #[.string ⟨#[112, 117, 115, 104]⟩, .string ⟨#[112, 111, 112]⟩, .string ⟨#[110, 101, 103]⟩, .string ⟨#[110, 111, 116]⟩, .string ⟨#[101, 110, 116, 101, 114]⟩, .string ⟨#[100, 114, 111, 112]⟩, .string ⟨#[]⟩, .string ⟨#[]⟩, .string ⟨#[]⟩, .string ⟨#[]⟩, .string ⟨#[]⟩, .string ⟨#[]⟩, .string ⟨#[]⟩, .string ⟨#[]⟩, .string ⟨#[]⟩, .string ⟨#[]⟩] _ _ HZ.out)]
      show (((nmR 1).map strV).toArray)[j]? = _
      rw [List.getElem?_toArray, List.getElem?_map, HE.out]; rfl
    go_wp2_with fail
    go_ret
    exact ⟨rfl, below_setRow HB.out (by omega) _⟩
  · go_upto_region 24 with (first
      | (refine wpList_store_row rfl _ _ _ rfl _ _ rfl rfl _ _ (HZ.out) ?_ ?_ ?_ ?_; kernel_rfl; rfl; kernel_rfl)
      | (refine wpList_load_row rfl _ (.tmp 3) rfl _ rfl _ _ _ _ HA.out Tryd.underlying104 rfl ?_ ?_; kernel_rfl))
    have hc : (w3.setRow (w.heap.size + 2) #[.string ⟨#[109, 111, 118]⟩, .string ⟨#[97, 100, 100]⟩, .string ⟨#[97, 100, 99]⟩, .string ⟨#[115, 117, 98]⟩, .string ⟨#[115, 98, 98]⟩, .string ⟨#[97, 110, 100]⟩, .string ⟨#[111, 114]⟩, .string ⟨#[120, 111, 114]⟩, .string ⟨#[99, 109, 112]⟩, .string ⟨#[116, 115, 116]⟩, .string ⟨#[109, 117, 108]⟩, .string ⟨#[100, 105, 118]⟩, .string ⟨#[115, 104, 108]⟩, .string ⟨#[115, 104, 114]⟩, .string ⟨#[115, 97, 114]⟩, .string ⟨#[]⟩]).cell? ⟨w.heap.size + 2, j, none⟩ = some (.string ⟨s.toArray⟩) := by
      rw [cell_of_row _ (w.heap.size + 2) j _ _ _ (setRow_heap w3 _ _ #[.string ⟨#[109, 111, 118]⟩, .string ⟨#[97, 100, 100]⟩, .string ⟨#[97, 100, 99]⟩, .string ⟨#[115, 117, 98]⟩, .string ⟨#[115, 98, 98]⟩, .string ⟨#[97, 110, 100]⟩, .string ⟨#[111, 114]⟩, .string ⟨#[120, 111, 114]⟩, .string ⟨#[99, 109, 112]⟩, .string ⟨#[116, 115, 116]⟩, .string ⟨#[109, 117, 108]⟩, .string ⟨#[100, 105, 118]⟩, .string ⟨#[115, 104, 108]⟩, .string ⟨#[115, 104, 114]⟩, .string ⟨#[115, 97, 114]⟩, .string ⟨#[]⟩] _ _ HZ.out)]
      show (((nmR 2).map strV).toArray)[j]? = _
      rw [List.getElem?_toArray, List.getElem?_map, HE.out]; rfl
    go_wp2_with fail
    go_ret
    exact ⟨rfl, below_setRow HB.out (by omega) _⟩
  · go_upto_region 24 with (first
      | (refine wpList_store_row rfl _ _ _ rfl _ _ rfl rfl _ _ (HZ.out) ?_ ?_ ?_ ?_; kernel_rfl; rfl; kernel_rfl)
      | (refine wpList_load_row rfl _ (.tmp 3) rfl _ rfl _ _ _ _ HA.out Tryd.underlying104 rfl ?_ ?_; kernel_rfl))
    have hc : (w3.setRow (w.heap.size + 2) #[.string ⟨#[109, 111, 118]⟩, .string ⟨#[97, 100, 100]⟩, .string ⟨#[97, 100, 99]⟩, .string ⟨#[115, 117, 98]⟩, .string ⟨#[115, 98, 98]⟩, .string ⟨#[97, 110, 100]⟩, .string ⟨#[111, 114]⟩, .string ⟨#[120, 111, 114]⟩, .string ⟨#[99, 109, 112]⟩, .string ⟨#[116, 115, 116]⟩, .string ⟨#[109, 117, 108]⟩, .string ⟨#[100, 105, 118]⟩, .string ⟨#[115, 104, 108]⟩, .string ⟨#[115, 104, 114]⟩, .string ⟨#[115, 97, 114]⟩, .string ⟨#[]⟩]).cell? ⟨w.heap.size + 2, j, none⟩ = some (.string ⟨s.toArray⟩) := by
      rw [cell_of_row _ (w.heap.size + 2) j _ _ _ (setRow_heap w3 _ _ #[.string ⟨#[109, 111, 118]⟩, .string ⟨#[97, 100, 100]⟩, .string ⟨#[97, 100, 99]⟩, .string ⟨#[115, 117, 98]⟩, .string ⟨#[115, 98, 98]⟩, .string ⟨#[97, 110, 100]⟩, .string ⟨#[111, 114]⟩, .string ⟨#[120, 111, 114]⟩, .string ⟨#[99, 109, 112]⟩, .string ⟨#[116, 115, 116]⟩, .string ⟨#[109, 117, 108]⟩, .string ⟨#[100, 105, 118]⟩, .string ⟨#[115, 104, 108]⟩, .string ⟨#[115, 104, 114]⟩, .string ⟨#[115, 97, 114]⟩, .string ⟨#[]⟩] _ _ HZ.out)]
      show (((nmR 3).map strV).toArray)[j]? = _
      rw [List.getElem?_toArray, List.getElem?_map, HE.out]; rfl
    go_wp2_with fail
    go_ret
    exact ⟨rfl, below_setRow HB.out (by omega) _⟩
  · go_upto_region 24 with (first
      | (refine wpList_store_row rfl _ _ _ rfl _ _ rfl rfl _ _ (HZ.out) ?_ ?_ ?_ ?_; kernel_rfl; rfl; kernel_rfl)
      | (refine wpList_load_row rfl _ (.tmp 3) rfl _ rfl _ _ _ _ HA.out Tryd.underlying104 rfl ?_ ?_; kernel_rfl))
    have hc : (w3.setRow (w.heap.size + 2) #[.string ⟨#[109, 111, 118]⟩, .string ⟨#[97, 100, 100]⟩, .string ⟨#[97, 100, 99]⟩, .string ⟨#[115, 117, 98]⟩, .string ⟨#[115, 98, 98]⟩, .string ⟨#[97, 110, 100]⟩, .string ⟨#[111, 114]⟩, .string ⟨#[120, 111, 114]⟩, .string ⟨#[99, 109, 112]⟩, .string ⟨#[116, 115, 116]⟩, .string ⟨#[109, 117, 108]⟩, .string ⟨#[100, 105, 118]⟩, .string ⟨#[115, 104, 108]⟩, .string ⟨#[115, 104, 114]⟩, .string ⟨#[115, 97, 114]⟩, .string ⟨#[]⟩]).cell? ⟨w.heap.size + 2, j, none⟩ = some (.string ⟨s.toArray⟩) := by
      rw [cell_of_row _ (w.heap.size + 2) j _ _ _ (setRow_heap w3 _ _ #[.string ⟨#[109, 111, 118]⟩, .string ⟨#[97, 100, 100]⟩, .string ⟨#[97, 100, 99]⟩, .string ⟨#[115, 117, 98]⟩, .string ⟨#[115, 98, 98]⟩, .string ⟨#[97, 110, 100]⟩, .string ⟨#[111, 114]⟩, .string ⟨#[120, 111, 114]⟩, .string ⟨#[99, 109, 112]⟩, .string ⟨#[116, 115, 116]⟩, .string ⟨#[109, 117, 108]⟩, .string ⟨#[100, 105, 118]⟩, .string ⟨#[115, 104, 108]⟩, .string ⟨#[115, 104, 114]⟩, .string ⟨#[115, 97, 114]⟩, .string ⟨#[]⟩] _ _ HZ.out)]
      show (((nmR 4).map strV).toArray)[j]? = _
      rw [List.getElem?_toArray, List.getElem?_map, HE.out]; rfl
    go_wp2_with fail
    go_ret
    exact ⟨rfl, below_setRow HB.out (by omega) _⟩
  · go_upto_region 24 with (first
      | (refine wpList_store_row rfl _ _ _ rfl _ _ rfl rfl _ _ (HZ.out) ?_ ?_ ?_ ?_; kernel_rfl; rfl; kernel_rfl))
    have hc : (w3.setRow (w.heap.size + 2) #[.string ⟨#[108, 100]⟩, .string ⟨#[108, 100, 98]⟩, .string ⟨#[115, 116]⟩, .string ⟨#[115, 116, 98]⟩, .string ⟨#[108, 100, 97]⟩, .string ⟨#[108, 100, 97, 98]⟩, .string ⟨#[115, 116, 97]⟩, .string ⟨#[115, 116, 97, 98]⟩, .string ⟨#[108, 100]⟩, .string ⟨#[108, 100, 98]⟩, .string ⟨#[115, 116]⟩, .string ⟨#[115, 116, 98]⟩, .string ⟨#[]⟩, .string ⟨#[]⟩, .string ⟨#[]⟩, .string ⟨#[]⟩]).cell? ⟨w.heap.size + 2, j, none⟩ = some (.string ⟨s.toArray⟩) := by
      rw [cell_of_row _ (w.heap.size + 2) j _ _ _ (setRow_heap w3 _ _ #[.string ⟨#[108, 100]⟩, .string ⟨#[108, 100, 98]⟩, .string ⟨#[115, 116]⟩, .string ⟨#[115, 116, 98]⟩, .string ⟨#[108, 100, 97]⟩, .string ⟨#[108, 100, 97, 98]⟩, .string ⟨#[115, 116, 97]⟩, .string ⟨#[115, 116, 97, 98]⟩, .string ⟨#[108, 100]⟩, .string ⟨#[108, 100, 98]⟩, .string ⟨#[115, 116]⟩, .string ⟨#[115, 116, 98]⟩, .string ⟨#[]⟩, .string ⟨#[]⟩, .string ⟨#[]⟩, .string ⟨#[]⟩] _ _ HZ.out)]
      show (((nmR 5).map strV).toArray)[j]? = _
      rw [List.getElem?_toArray, List.getElem?_map, HE.out]; rfl
    go_wp2_with fail
    go_ret
    exact ⟨rfl, below_setRow HB.out (by omega) _⟩
  · go_upto_region 24 with (first
      | (refine wpList_store_row rfl _ _ _ rfl _ _ rfl rfl _ _ (HZ.out) ?_ ?_ ?_ ?_; kernel_rfl; rfl; kernel_rfl)
      | (refine wpList_load_row rfl _ (.tmp 4) rfl _ rfl _ _ _ _ HJ.out Tryd.underlying104 rfl ?_ ?_; kernel_rfl))
    have hc : (w3.setRow (w.heap.size + 2) #[.string ⟨#[106, 101, 113]⟩, .string ⟨#[106, 110, 101]⟩, .string ⟨#[106, 99, 115]⟩, .string ⟨#[106, 99, 99]⟩, .string ⟨#[106, 109, 105]⟩, .string ⟨#[106, 112, 108]⟩, .string ⟨#[106, 118, 115]⟩, .string ⟨#[106, 118, 99]⟩, .string ⟨#[106, 104, 105]⟩, .string ⟨#[106, 108, 115]⟩, .string ⟨#[106, 103, 101]⟩, .string ⟨#[106, 108, 116]⟩, .string ⟨#[106, 103, 116]⟩, .string ⟨#[106, 108, 101]⟩, .string ⟨#[]⟩, .string ⟨#[]⟩]).cell? ⟨w.heap.size + 2, j, none⟩ = some (.string ⟨s.toArray⟩) := by
      rw [cell_of_row _ (w.heap.size + 2) j _ _ _ (setRow_heap w3 _ _ #[.string ⟨#[106, 101, 113]⟩, .string ⟨#[106, 110, 101]⟩, .string ⟨#[106, 99, 115]⟩, .string ⟨#[106, 99, 99]⟩, .string ⟨#[106, 109, 105]⟩, .string ⟨#[106, 112, 108]⟩, .string ⟨#[106, 118, 115]⟩, .string ⟨#[106, 118, 99]⟩, .string ⟨#[106, 104, 105]⟩, .string ⟨#[106, 108, 115]⟩, .string ⟨#[106, 103, 101]⟩, .string ⟨#[106, 108, 116]⟩, .string ⟨#[106, 103, 116]⟩, .string ⟨#[106, 108, 101]⟩, .string ⟨#[]⟩, .string ⟨#[]⟩] _ _ HZ.out)]
      show (((nmR 6).map strV).toArray)[j]? = _
      rw [List.getElem?_toArray, List.getElem?_map, HE.out]; rfl
    go_wp2_with fail
    go_ret
    exact ⟨rfl, below_setRow HB.out (by omega) _⟩
  · go_upto_region 24 with (first
      | (refine wpList_store_row rfl _ _ _ rfl _ _ rfl rfl _ _ (HZ.out) ?_ ?_ ?_ ?_; kernel_rfl; rfl; kernel_rfl)
      | (refine wpList_load_row rfl _ (.tmp 4) rfl _ rfl _ _ _ _ HJ.out Tryd.underlying104 rfl ?_ ?_; kernel_rfl))
    have hc : (w3.setRow (w.heap.size + 2) #[.string ⟨#[106, 101, 113]⟩, .string ⟨#[106, 110, 101]⟩, .string ⟨#[106, 99, 115]⟩, .string ⟨#[106, 99, 99]⟩, .string ⟨#[106, 109, 105]⟩, .string ⟨#[106, 112, 108]⟩, .string ⟨#[106, 118, 115]⟩, .string ⟨#[106, 118, 99]⟩, .string ⟨#[106, 104, 105]⟩, .string ⟨#[106, 108, 115]⟩, .string ⟨#[106, 103, 101]⟩, .string ⟨#[106, 108, 116]⟩, .string ⟨#[106, 103, 116]⟩, .string ⟨#[106, 108, 101]⟩, .string ⟨#[]⟩, .string ⟨#[]⟩]).cell? ⟨w.heap.size + 2, j, none⟩ = some (.string ⟨s.toArray⟩) := by
      rw [cell_of_row _ (w.heap.size + 2) j _ _ _ (setRow_heap w3 _ _ #[.string ⟨#[106, 101, 113]⟩, .string ⟨#[106, 110, 101]⟩, .string ⟨#[106, 99, 115]⟩, .string ⟨#[106, 99, 99]⟩, .string ⟨#[106, 109, 105]⟩, .string ⟨#[106, 112, 108]⟩, .string ⟨#[106, 118, 115]⟩, .string ⟨#[106, 118, 99]⟩, .string ⟨#[106, 104, 105]⟩, .string ⟨#[106, 108, 115]⟩, .string ⟨#[106, 103, 101]⟩, .string ⟨#[106, 108, 116]⟩, .string ⟨#[106, 103, 116]⟩, .string ⟨#[106, 108, 101]⟩, .string ⟨#[]⟩, .string ⟨#[]⟩] _ _ HZ.out)]
      show (((nmR 7).map strV).toArray)[j]? = _
      rw [List.getElem?_toArray, List.getElem?_map, HE.out]; rfl
    go_wp2_with fail
    go_ret
    exact ⟨rfl, below_setRow HB.out (by omega) _⟩
  · go_upto_region 24 with (first
      | (refine wpList_store_row rfl _ _ _ rfl _ _ rfl rfl _ _ (HZ.out) ?_ ?_ ?_ ?_; kernel_rfl; rfl; kernel_rfl))
    have hc : (w3.setRow (w.heap.size + 2) #[.string ⟨#[106, 109, 112]⟩, .string ⟨#[106, 109, 112, 119]⟩, .string ⟨#[99, 97, 108, 108]⟩, .string ⟨#[106, 109, 112, 102]⟩, .string ⟨#[99, 97, 108, 108, 102]⟩, .string ⟨#[106, 116, 97, 98]⟩, .string ⟨#[106, 109, 112, 105]⟩, .string ⟨#[]⟩, .string ⟨#[]⟩, .string ⟨#[]⟩, .string ⟨#[]⟩, .string ⟨#[]⟩, .string ⟨#[]⟩, .string ⟨#[]⟩, .string ⟨#[]⟩, .string ⟨#[]⟩]).cell? ⟨w.heap.size + 2, j, none⟩ = some (.string ⟨s.toArray⟩) := by
      rw [cell_of_row _ (w.heap.size + 2) j _ _ _ (setRow_heap w3 _ _ #[.string ⟨#[106, 109, 112]⟩, .string ⟨#[106, 109, 112, 119]⟩, .string ⟨#[99, 97, 108, 108]⟩, .string ⟨#[106, 109, 112, 102]⟩, .string ⟨#[99, 97, 108, 108, 102]⟩, .string ⟨#[106, 116, 97, 98]⟩, .string ⟨#[106, 109, 112, 105]⟩, .string ⟨#[]⟩, .string ⟨#[]⟩, .string ⟨#[]⟩, .string ⟨#[]⟩, .string ⟨#[]⟩, .string ⟨#[]⟩, .string ⟨#[]⟩, .string ⟨#[]⟩, .string ⟨#[]⟩] _ _ HZ.out)]
      show (((nmR 8).map strV).toArray)[j]? = _
      rw [List.getElem?_toArray, List.getElem?_map, HE.out]; rfl
    go_wp2_with fail
    go_ret
    exact ⟨rfl, below_setRow HB.out (by omega) _⟩
  · go_upto_region 24 with (first
      | (refine wpList_store_row rfl _ _ _ rfl _ _ rfl rfl _ _ (HZ.out) ?_ ?_ ?_ ?_; kernel_rfl; rfl; kernel_rfl))
    have hc : (w3.setRow (w.heap.size + 2) #[.string ⟨#[105, 110]⟩, .string ⟨#[111, 117, 116]⟩, .string ⟨#[108, 100, 99]⟩, .string ⟨#[108, 100, 99, 98]⟩, .string ⟨#[]⟩, .string ⟨#[]⟩, .string ⟨#[115, 116, 105]⟩, .string ⟨#[]⟩, .string ⟨#[]⟩, .string ⟨#[]⟩, .string ⟨#[]⟩, .string ⟨#[]⟩, .string ⟨#[]⟩, .string ⟨#[]⟩, .string ⟨#[]⟩, .string ⟨#[]⟩]).cell? ⟨w.heap.size + 2, j, none⟩ = some (.string ⟨s.toArray⟩) := by
      rw [cell_of_row _ (w.heap.size + 2) j _ _ _ (setRow_heap w3 _ _ #[.string ⟨#[105, 110]⟩, .string ⟨#[111, 117, 116]⟩, .string ⟨#[108, 100, 99]⟩, .string ⟨#[108, 100, 99, 98]⟩, .string ⟨#[]⟩, .string ⟨#[]⟩, .string ⟨#[115, 116, 105]⟩, .string ⟨#[]⟩, .string ⟨#[]⟩, .string ⟨#[]⟩, .string ⟨#[]⟩, .string ⟨#[]⟩, .string ⟨#[]⟩, .string ⟨#[]⟩, .string ⟨#[]⟩, .string ⟨#[]⟩] _ _ HZ.out)]
      show (((nmR 9).map strV).toArray)[j]? = _
      rw [List.getElem?_toArray, List.getElem?_map, HE.out]; rfl
    go_wp2_with fail
    go_ret
    exact ⟨rfl, below_setRow HB.out (by omega) _⟩
  · go_upto_region 24 with (first
      | (refine wpList_store_row rfl _ _ _ rfl _ _ rfl rfl _ _ (HZ.out) ?_ ?_ ?_ ?_; kernel_rfl; rfl; kernel_rfl))
    have hc : (w3.setRow (w.heap.size + 2) #[.string ⟨#[108, 100, 115]⟩, .string ⟨#[115, 116, 115]⟩, .string ⟨#[108, 100, 102]⟩, .string ⟨#[115, 116, 102]⟩, .string ⟨#[]⟩, .string ⟨#[]⟩, .string ⟨#[]⟩, .string ⟨#[]⟩, .string ⟨#[]⟩, .string ⟨#[]⟩, .string ⟨#[]⟩, .string ⟨#[]⟩, .string ⟨#[]⟩, .string ⟨#[]⟩, .string ⟨#[]⟩, .string ⟨#[]⟩]).cell? ⟨w.heap.size + 2, j, none⟩ = some (.string ⟨s.toArray⟩) := by
      rw [cell_of_row _ (w.heap.size + 2) j _ _ _ (setRow_heap w3 _ _ #[.string ⟨#[108, 100, 115]⟩, .string ⟨#[115, 116, 115]⟩, .string ⟨#[108, 100, 102]⟩, .string ⟨#[115, 116, 102]⟩, .string ⟨#[]⟩, .string ⟨#[]⟩, .string ⟨#[]⟩, .string ⟨#[]⟩, .string ⟨#[]⟩, .string ⟨#[]⟩, .string ⟨#[]⟩, .string ⟨#[]⟩, .string ⟨#[]⟩, .string ⟨#[]⟩, .string ⟨#[]⟩, .string ⟨#[]⟩] _ _ HZ.out)]
      show (((nmR 10).map strV).toArray)[j]? = _
      rw [List.getElem?_toArray, List.getElem?_map, HE.out]; rfl
    go_wp2_with fail
    go_ret
    exact ⟨rfl, below_setRow HB.out (by omega) _⟩

end Go.Proofs.YtakahmhbopakmaaDoor
