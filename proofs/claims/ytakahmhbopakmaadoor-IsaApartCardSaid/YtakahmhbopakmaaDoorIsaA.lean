/- The format table of package isa, walked: formats, and the search formatOf. No condition. -/
import Derived.Test.YtakahmhbopakmaaDoorKit
set_option linter.all false
namespace Go.Proofs.YtakahmhbopakmaaDoor
open Go.RowKit

def fmtRows : List (List Int) := [
  [0x00, 0x05, 0, 0, 0, 0], [0x10, 0x13, 2, 0, 0, 0], [0x14, 0x15, 4, 0, 0, 0],
  [0x20, 0x2e, 1, 0, 0, 0], [0x30, 0x3e, 2, 5, 0, 0], [0x40, 0x4e, 2, 6, 0, 0],
  [0x50, 0x53, 1, 5, 0, 0], [0x58, 0x5b, 1, 6, 0, 0], [0x54, 0x57, 2, 6, 0, 0],
  [0x60, 0x6d, 5, 0, 0, 0], [0x70, 0x7d, 6, 0, 0, 0], [0x80, 0x80, 5, 0, 0, 0], [0x81, 0x82, 6, 0, 0, 0],
  [0x83, 0x84, 8, 6, 0, 0], [0x85, 0x85, 2, 9, 6, 7], [0x86, 0x86, 2, 6, 0, 0],
  [0x90, 0x91, 2, 4, 0, 0], [0x92, 0x93, 1, 8, 6, 0], [0x96, 0x96, 3, 6, 7, 0],
  [0xa0, 0xa1, 2, 4, 0, 0], [0xa2, 0xa3, 2, 5, 0, 0]]
def fmtCells : Array Value := (fmtRows.flatMap fun r => r.map vi).toArray

set_option maxRecDepth 100000 in
set_option maxHeartbeats 1000000 in
theorem formats_any (w : World) :
    Calls Tryd.prog 55 #[] w fun e w' => e = .returned (.agg fmtCells) ∧ ∃ o, w' = w.alloc o := by
  go_enter Tryd.func55, Tryd.ntmps55
  go_wp2_with (refine wpList_store_row rfl 87 (.tmp 0) (.tmp 43) rfl w.heap.size fmtCells rfl ?h1 87 _ (heap_alloc_new _ _) ?h2 ?h3 ?h4 ?_; (case h1 => rfl); (case h2 => kernel_rfl); (case h3 => kernel_rfl); (case h4 => kernel_rfl))
  refine bodyPost_ret (results_cell_row (cs := fmtCells) (fr := (0, 0)) rfl _ _ w.heap.size 87 _ rfl (setRow_heap _ _ _ _ _ _ (heap_alloc_new _ _)) (Tryd.underlying87) rfl (by kernel_rfl)) rfl ⟨rfl, _, World.setRow_alloc_new _ _ _ _⟩

def fRow (k : Nat) : List Int := fmtRows.getD k []
def fAt (k j : Nat) : Int := (fRow k).getD j 0
def fCells (k : Nat) : Array Value := #[vi (fAt k 0), vi (fAt k 1), vi (fAt k 2), vi (fAt k 3), vi (fAt k 4), vi (fAt k 5)]
theorem index_fmt (k : Nat) (hk : k < 21) (w : World) : (Instr.index 87 (.agg fmtCells) (.int .i64 k)).run Tryd.prog w = .ok (.agg (fCells k)) w := by
  have h : k = 0 ∨ k = 1 ∨ k = 2 ∨ k = 3 ∨ k = 4 ∨ k = 5 ∨ k = 6 ∨ k = 7 ∨ k = 8 ∨ k = 9 ∨ k = 10 ∨ k = 11 ∨ k = 12 ∨ k = 13 ∨ k = 14 ∨ k = 15 ∨ k = 16 ∨ k = 17 ∨ k = 18 ∨ k = 19 ∨ k = 20 := by omega
  rcases h with rfl | rfl | rfl | rfl | rfl | rfl | rfl | rfl | rfl | rfl | rfl | rfl | rfl | rfl | rfl | rfl | rfl | rfl | rfl | rfl | rfl <;> (show _ = _; kernel_rfl)

end Go.Proofs.YtakahmhbopakmaaDoor
