/- formatOf of package isa: the search through the format table. No condition. -/
import Derived.Test.YtakahmhbopakmaaDoorIsaA
set_option linter.all false
namespace Go.Proofs.YtakahmhbopakmaaDoor
open Go.RowKit

/-- The first format that fits, from number k on. -/
def fFrom (op : Int) : Nat → Nat → Option Nat
  | _, 0 => none
  | k, n + 1 => if fAt k 0 ≤ op ∧ op ≤ fAt k 1 then some k else fFrom op (k + 1) n
def fOf (op : Int) : Option Nat := fFrom op 0 21
/-- Field number j of an operation's format. -/
def fld (op : Int) (j : Nat) : Int := match fOf op with
  | some k => fAt k (j + 2)
  | none => 0
theorem fld_some {op : Int} {k : Nat} (h : fOf op = some k) (j : Nat) : fld op j = fAt k (j + 2) := by unfold fld; rw [h]
theorem fld_none {op : Int} (h : fOf op = none) (j : Nat) : fld op j = 0 := by unfold fld; rw [h]

set_option maxRecDepth 100000 in
set_option maxHeartbeats 1000000 in
theorem formatOf_any (op : Int) (w : World) :
    Calls Tryd.prog 35 #[.int .i64 op] w fun e w' => e = .returned (.tuple #[.agg #[vi (fld op 0), vi (fld op 1), vi (fld op 2), vi (fld op 3)], .bool (fOf op).isSome]) ∧ Below w.heap.size w w' := by
  go_enter Tryd.func35, Tryd.ntmps35
  go_wp2_with (go_at_call 55; refine (formats_any _).mono ?_; rintro e w' ⟨rfl, o, rfl⟩)
  go_loopg [5, 7] 22 (fun g p i wr => ∃ k : Nat, k + g = 22 ∧ k ≤ 21 ∧ i = .int .i64 k ∧ fFrom op 0 21 = fFrom op k (21 - k) ∧ Below (w.heap.size + 1) (w.alloc (Obj.cells #[Value.int IntKind.i64 0, Value.int IntKind.i64 0, Value.int IntKind.i64 0, Value.int IntKind.i64 0] 64)) wr)
  case atStart => exact ⟨0, rfl, by omega, rfl, rfl, (Below.refl _ _).alloc (by simp) _⟩
  case round =>
    obtain ⟨k, hg, hk, rfl, hF, hb⟩ := hrel
    have HF := Lib.hid hF
    clear hF
    have hix := index_fmt k
    have hB := hb.block w.heap.size (by omega)
    rw [heap_alloc_new] at hB
    have hBs := lt_of_below_alloc hb
    by_cases hlt : k < 21
    · have hix := hix hlt
      go_wp2_with (first | (refine wpList_store_row rfl 86 (.tmp 5) (.tmp 9) rfl wr.heap.size (fCells k) rfl rfl 86 _ (heap_alloc_new _ _) ?_ ?_ ?_ ?_; kernel_rfl; rfl; kernel_rfl; rw [World.setRow_alloc_new]; unfold fCells vi) | (refine wpList_store_row rfl 64 (.tmp 2) (.tmp 21) rfl w.heap.size #[vi (fAt k 2), vi (fAt k 3), vi (fAt k 4), vi (fAt k 5)] rfl rfl 64 _ ((heap_alloc_old _ _ hBs).trans hB) ?_ ?_ ?_ ?_; kernel_rfl; rfl; kernel_rfl))
      · have e : fFrom op k (21 - k) = some k := by
          rw [show 21 - k = (20 - k) + 1 by omega, fFrom, if_pos ⟨by assumption, by assumption⟩]
        refine bodyPost_ret (v := .tuple #[.agg #[vi (fld op 0), vi (fld op 1), vi (fld op 2), vi (fld op 3)], .bool (fOf op).isSome]) ?_ rfl ⟨rfl, ?_⟩
        · have hh : fOf op = some k := HF.out.trans e
          rw [fld_some hh, fld_some hh, fld_some hh, fld_some hh, hh]
          refine results_row_tmp Tryd.results35 _ _ w.heap.size 64 _ (0, 0) _ ?_ (setRow_heap _ _ _ _ _ _ ((heap_alloc_old _ _ hBs).trans hB)) Tryd.underlying64 rfl (by kernel_rfl); rfl
        · exact below_setRow ((((Below.refl _ _).alloc (Nat.le_refl _) _).trans (hb.mono (by omega))).alloc (by omega) _) (Nat.le_refl _) _
      all_goals
        have hns : fFrom op k (21 - k) = fFrom op (k + 1) (21 - (k + 1)) := by
          rw [show 21 - k = (20 - k) + 1 by omega, fFrom, if_neg (by omega), show 20 - k = 21 - (k + 1) by omega]
        go_roundg (gk - 1)
        case measure => omega
        case rel => exact ⟨k + 1, by omega, by omega, by go_num, HF.out.trans hns, hb.alloc (by omega) _⟩
    · go_wp2_with (refine wpList_store_row rfl 64 (.tmp 2) (.tmp 23) rfl w.heap.size #[vi 0, vi 0, vi 0, vi 0] rfl rfl 64 _ hB ?_ ?_ ?_ ?_; kernel_rfl; rfl; kernel_rfl)
      have hk21 : k = 21 := by omega
      subst hk21
      have hh : fOf op = none := HF.out
      refine bodyPost_ret (v := .tuple #[.agg #[vi (fld op 0), vi (fld op 1), vi (fld op 2), vi (fld op 3)], .bool (fOf op).isSome]) ?_ rfl ⟨rfl, ?_⟩
      · rw [fld_none hh, fld_none hh, fld_none hh, fld_none hh, hh]
        refine results_row_tmp Tryd.results35 _ _ w.heap.size 64 _ (0, 0) _ ?_ (setRow_heap _ _ _ _ _ _ hB) Tryd.underlying64 rfl (by kernel_rfl); rfl
      · exact below_setRow (((Below.refl _ _).alloc (Nat.le_refl _) _).trans (hb.mono (by omega))) (Nat.le_refl _) _
end Go.Proofs.YtakahmhbopakmaaDoor
