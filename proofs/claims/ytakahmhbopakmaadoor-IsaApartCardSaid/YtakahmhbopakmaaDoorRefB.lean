/- Size, reg, signed and Valid of the reference implementation, walked. -/
import Derived.Test.YtakahmhbopakmaaDoorIsaI
import Derived.Test.YtakahmhbopakmaaDoorRefA
set_option linter.all false
namespace Go.Proofs.YtakahmhbopakmaaDoor
open Go.RowKit

def rsizeTab : List Int := [0, 1, 2, 2, 2, 3, 4, 3, 4, 4, 2, 3, 4, 7, 4, 3, 5, 6, 3]
def rsizeS (op : Int) : Int := rsizeTab.getD (fmtS op).toNat 0
theorem fmtTab_bd : ∀ n, n < 164 → 0 ≤ fmtTab.getD n 0 ∧ fmtTab.getD n 0 ≤ 18 := by decide +kernel
theorem fmtS_bd (op : Int) : 0 ≤ fmtS op ∧ fmtS op ≤ 18 := by
  unfold fmtS
  split
  · exact fmtTab_bd _ (by omega)
  · omega

theorem rsize_at (n : Int) : (#[Value.int .i64 0, .int .i64 1, .int .i64 2, .int .i64 2, .int .i64 2, .int .i64 3, .int .i64 4, .int .i64 3, .int .i64 4, .int .i64 4, .int .i64 2, .int .i64 3, .int .i64 4, .int .i64 7, .int .i64 4, .int .i64 3, .int .i64 5, .int .i64 6, .int .i64 3])[(fmtS n).toNat]? = some (.int .i64 (rsizeS n)) := by
  obtain ⟨f0, f1⟩ := fmtS_bd n
  unfold rsizeS
  have hk : (fmtS n).toNat ≤ 18 := by omega
  generalize (fmtS n).toNat = k at hk
  have : k = 0 ∨ k = 1 ∨ k = 2 ∨ k = 3 ∨ k = 4 ∨ k = 5 ∨ k = 6 ∨ k = 7 ∨ k = 8 ∨ k = 9 ∨ k = 10 ∨ k = 11 ∨ k = 12 ∨ k = 13 ∨ k = 14 ∨ k = 15 ∨ k = 16 ∨ k = 17 ∨ k = 18 := by omega
  rcases this with rfl | rfl | rfl | rfl | rfl | rfl | rfl | rfl | rfl | rfl | rfl | rfl | rfl | rfl | rfl | rfl | rfl | rfl | rfl <;> rfl
set_option maxHeartbeats 1000000 in
theorem rsize_any (n : Int) (h0 : 0 ≤ n) (h1 : n < 256) (w : World) :
    Calls Tryd.prog 25 #[.int .u8 n] w fun e w' => e = .returned (.int .i64 (rsizeS n)) ∧ Below w.heap.size w w' := by
  obtain ⟨f0, f1⟩ := fmtS_bd n
  go_enter Tryd.func25, Tryd.ntmps25
  go_wp2_with (first
    | (go_at_call 32; refine (fmt_any _ _).mono ?_; rintro e w1 ⟨rfl, hb1⟩; have hz1 := hb1.size; simp at hz1; have hcz := (cell_of_row w1 w.heap.size (fmtS n).toNat _ _ _ ((hb1.block _ (by simp)).trans (heap_alloc_new w _))).trans (rsize_at n))
    | (refine wpList_store_row rfl _ _ _ rfl _ _ rfl rfl _ _ (heap_alloc_new _ _) ?_ ?_ ?_ ?_; kernel_rfl; rfl; kernel_rfl; rw [World.setRow_alloc_new]))
  go_ret
  exact ⟨rfl, ((Below.refl _ _).alloc (Nat.le_refl _) _).trans (hb1.mono (by simp))⟩

set_option maxHeartbeats 400000 in
theorem rreg_any (n : Int) (w : World) :
    Calls Tryd.prog 40 #[.int .i64 n] w fun e w' => e = .returned (.bool (regB n)) ∧ w = w' := by
  go_enter Tryd.func40, Tryd.ntmps40
  go_wp2
  all_goals (go_ret; exact ⟨by congr 2; unfold regB; first | (simp_all; done) | (simp_all; omega), rfl⟩)

def sgnB (n : Int) : Bool := decide (n < 128) || decide (65408 ≤ n)
set_option maxHeartbeats 400000 in
theorem signed_any (n : Int) (w : World) :
    Calls Tryd.prog 41 #[.int .u16 n] w fun e w' => e = .returned (.bool (sgnB n)) ∧ w = w' := by
  go_enter Tryd.func41, Tryd.ntmps41
  go_wp2
  all_goals (go_ret; refine ⟨?_, rfl⟩; first | rfl | (congr 2; unfold sgnB; first | (simp_all; done) | (simp_all; omega)))

end Go.Proofs.YtakahmhbopakmaaDoor
