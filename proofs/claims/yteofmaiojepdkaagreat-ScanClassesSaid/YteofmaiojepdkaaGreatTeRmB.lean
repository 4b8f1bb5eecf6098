/- The reference of chapter 04: Tame, walked: some instruction whose fields lie in their types' ranges. Condition: so do those of the instruction that is given. -/
import Derived.Test.YteofmaiojepdkaaGreatTeSkG
import Derived.Test.YteofmaiojepdkaaGreatTeMadeA
set_option linter.all false
namespace Go.Proofs.YteofmaiojepdkaaGreat
open Go Go.RowKit Go.Maps
theorem yz (n : Int) : 0 ≤ IntKind.u16.wrap n ∧ IntKind.u16.wrap n < 65536 := by
 unfold IntKind.wrap
 simp [IntKind.bits, IntKind.signed]
 omega
structure TmW (w : World) (j : Ins) (W : World) : Prop where
 b0 : W.heap[w.heap.size]? = some (insB j)
 b1 : W.heap[w.heap.size + 1]? = some (insB z8)
 bb : Below w.heap.size w W
section
variable {w W : World} {j : Ins} (h : TmW w j W)
include h
theorem TmW.cell {k : Nat} {v : Value} {j' : Ins} (e : (#[.int .i64 j.op, .int .i64 j.d, .int .i64 j.s, .int .u16 j.imm, .int .u16 j.aux, .int .i64 j.bank, .int .i64 j.size] : Array Value).setIfInBounds k v = #[.int .i64 j'.op, .int .i64 j'.d, .int .i64 j'.s, .int .u16 j'.imm, .int .u16 j'.aux, .int .i64 j'.bank, .int .i64 j'.size]) : TmW w j' (W.setCell ⟨w.heap.size, k, none⟩ v) :=
 ⟨by rw [heap_setCell_same h.b0 (i := k) v, e], by rw [heap_setCell_other (by omega)]; exact h.b1, h.bb.setCell (p := ⟨w.heap.size, k, none⟩) (zn _) _⟩
theorem TmW.setD {v : Int} : TmW w { j with d := v } (W.setCell ⟨w.heap.size, 1, none⟩ (.int .i64 v)) := h.cell rfl
theorem TmW.setS {v : Int} : TmW w { j with s := v } (W.setCell ⟨w.heap.size, 2, none⟩ (.int .i64 v)) := h.cell rfl
theorem TmW.setImm {v : Int} : TmW w { j with imm := v } (W.setCell ⟨w.heap.size, 3, none⟩ (.int .u16 v)) := h.cell rfl
theorem TmW.setAux {v : Int} : TmW w { j with aux := v } (W.setCell ⟨w.heap.size, 4, none⟩ (.int .u16 v)) := h.cell rfl
theorem TmW.setBank {v : Int} : TmW w { j with bank := v } (W.setCell ⟨w.heap.size, 5, none⟩ (.int .i64 v)) := h.cell rfl
theorem TmW.row (j' : Ins) : TmW w j' (W.setRow w.heap.size #[.int .i64 j'.op, .int .i64 j'.d, .int .i64 j'.s, .int .u16 j'.imm, .int .u16 j'.aux, .int .i64 j'.bank, .int .i64 j'.size]) :=
 ⟨setRow_heap _ _ _ _ _ _ h.b0, by rw [setRow_other _ _ _ _ (by omega)]; exact h.b1, below_setRow h.bb (zn _) _⟩
end
set_option maxRecDepth 100000 in
set_option maxHeartbeats 8000000 in
theorem tame_any (i : Ins) (hi : i.Ok) (k : Int) (w : World) : Calls Tryz.prog 116 #[.agg #[.int .i64 (i).op, .int .i64 (i).d, .int .i64 (i).s, .int .u16 (i).imm, .int .u16 (i).aux, .int .i64 (i).bank, .int .i64 (i).size], .int .i64 k] w fun e w' => (∃ j : Ins, j.Ok ∧ e = .returned (.agg (zd j))) ∧ Below w.heap.size w w' := by
 have hB := Bx.two w (insB i) (insB z8)
 have HI := zh hi
 have hm := yP k
 have HM := zh (show TmW w i ((w.alloc (insB i)).alloc (insB z8)) from ⟨hB.b0, hB.b1, hB.bb⟩)
 obtain ⟨op, d, s, imm, aux, bank, size⟩ := i
 clear hi hB
 go_enter Tryz.func116, Tryz.ntmps116
 go_upto_region 2 with fail
 obtain ⟨w2, hw2⟩ : ∃ W, (w.alloc (insB ⟨op, d, s, imm, aux, bank, size⟩)).alloc (insB z8) = W := ⟨_, rfl⟩
 have hw3 := hw2
 dsimp only [insB, z8] at hw3
 rw [hw2] at HM
 rw [hw3]
 try rw [hm]
 clear hw2 hw3
 have hk0 : 0 ≤ k % 65536 := by omega
 have hk1 : k % 65536 < 65536 := by omega
 clear hm
 generalize k % 65536 = K at *
 by_cases h8 : K % 8 = 0
 ·have e8 : (K % 8 == 0) = true := by simp [h8]
  have HM0 := zh HM.out.b0
  have HM1 := zh HM.out.b1
  go_wp2_with (first
   | (refine ldT 53 (HM0.out) ?_)
   | (refine stR (HM1.out) ?_))
  refine bodyPost_ret (results_cell_row (cs := #[.int .i64 op, .int .i64 d, .int .i64 s, .int .u16 imm, .int .u16 aux, .int .i64 bank, .int .i64 size]) (fr := (0, 0)) Tryz.results116 _ _ (w.heap.size + 1) 53 _ ?_ (setRow_heap _ _ _ _ _ _ HM.out.b1) Tryz.underlying53 rfl (by kernel_rfl)) rfl ?_
  ·rfl
  ·exact ⟨⟨_, HI.out, rfl⟩, below_setRow HM.out.bb (by omega) _⟩
 have e8 : (K % 8 == 0) = false := by simp [h8]
 clear h8
 have hc := fun o => cell_of_row w2 w.heap.size o _ _ _ HM.out.b0
 go_upto_block 0 with fail
 clear hc e8
 go_cut [] (fun wx => ∃ j : Ins, j.Ok ∧ Hid (TmW w j wx))
 case first =>
  have hcl : op = 2 ∨ op = 3 ∨ op = 20 ∨ op = 21 ∨ op = 128 ∨ op = 129 ∨ op = 130 ∨ op = 131 ∨ op = 132 ∨ op = 133 ∨ op = 134 ∨ op = 146 ∨ op = 147 ∨ op = 150 ∨ op = 160 ∨ op = 161 ∨ op = 162 ∨ op = 163 ∨ (80 ≤ op ∧ op ≤ 83) ∨ (84 ≤ op ∧ op ≤ 87) ∨ (88 ≤ op ∧ op ≤ 91) ∨ (96 ≤ op ∧ op ≤ 127) ∨ (op < 80 ∧ op ≠ 2 ∧ op ≠ 3 ∧ op ≠ 20 ∧ op ≠ 21) ∨ (92 ≤ op ∧ op ≤ 95) ∨ (135 ≤ op ∧ op ≠ 146 ∧ op ≠ 147 ∧ op ≠ 150 ∧ op ≠ 160 ∧ op ≠ 161 ∧ op ≠ 162 ∧ op ≠ 163) := by omega
  rcases hcl with rfl | rfl | rfl | rfl | rfl | rfl | rfl | rfl | rfl | rfl | rfl | rfl | rfl | rfl | rfl | rfl | rfl | rfl | hcl | hcl | hcl | hcl | hcl | hcl | hcl
  ·skip
   have hc := fun o => cell_of_row w2 w.heap.size o _ _ _ HM.out.b0
   have hf := fun o => frozen_of_row w2 w.heap.size o _ _ HM.out.b0
   go_wp2_with (first | (refine stR (HM.out.b0) ?_))
   go_meet
   first
    | exact ⟨_, HI.out, HM⟩
    | (refine ⟨_, ?_, zh HM.out.setImm⟩; exact ⟨HI.out.op, HI.out.d, HI.out.s, ⟨by dsimp only; omega, by dsimp only; omega⟩, HI.out.aux, HI.out.bank, HI.out.size⟩)
    | (refine ⟨_, ?_, zh HM.out.setImm⟩; exact ⟨HI.out.op, HI.out.d, HI.out.s, yz _, HI.out.aux, HI.out.bank, HI.out.size⟩)
    | (refine ⟨_, ?_, zh HM.out.setS.setImm⟩; exact ⟨HI.out.op, HI.out.d, ⟨by dsimp only; omega, by dsimp only; omega⟩, ⟨by dsimp only; omega, by dsimp only; omega⟩, HI.out.aux, HI.out.bank, HI.out.size⟩)
    | (refine ⟨_, ?_, zh HM.out.setBank.setImm⟩; exact ⟨HI.out.op, HI.out.d, HI.out.s, ⟨by dsimp only; omega, by dsimp only; omega⟩, HI.out.aux, ⟨by dsimp only; omega, by dsimp only; omega⟩, HI.out.size⟩)
    | (refine ⟨_, ?_, zh HM.out.setImm.setAux⟩; exact ⟨HI.out.op, HI.out.d, HI.out.s, ⟨by dsimp only; omega, by dsimp only; omega⟩, ⟨by dsimp only; omega, by dsimp only; omega⟩, HI.out.bank, HI.out.size⟩)
    | (refine ⟨_, ?_, zh HM.out.setD.setImm⟩; exact ⟨HI.out.op, ⟨by dsimp only; omega, by dsimp only; omega⟩, HI.out.s, ⟨by dsimp only; omega, by dsimp only; omega⟩, HI.out.aux, HI.out.bank, HI.out.size⟩)
    | (refine ⟨_, ?_, zh HM.out.setBank.setS⟩; exact ⟨HI.out.op, HI.out.d, ⟨by dsimp only; omega, by dsimp only; omega⟩, HI.out.imm, HI.out.aux, ⟨by dsimp only; omega, by dsimp only; omega⟩, HI.out.size⟩)
    | (refine ⟨⟨0, 0, 0, 0, 0, 0, 1⟩, ⟨⟨by decide, by decide⟩, ⟨by decide, by decide⟩, ⟨by decide, by decide⟩, ⟨by decide, by decide⟩, ⟨by decide, by decide⟩, ⟨by decide, by decide⟩, ⟨by decide, by decide⟩⟩, zh (HM.out.row ⟨0, 0, 0, 0, 0, 0, 1⟩)⟩)
  ·skip
   have hc := fun o => cell_of_row w2 w.heap.size o _ _ _ HM.out.b0
   have hf := fun o => frozen_of_row w2 w.heap.size o _ _ HM.out.b0
   go_wp2_with (first | (refine stR (HM.out.b0) ?_))
   go_meet
   first
    | exact ⟨_, HI.out, HM⟩
    | (refine ⟨_, ?_, zh HM.out.setImm⟩; exact ⟨HI.out.op, HI.out.d, HI.out.s, ⟨by dsimp only; omega, by dsimp only; omega⟩, HI.out.aux, HI.out.bank, HI.out.size⟩)
    | (refine ⟨_, ?_, zh HM.out.setImm⟩; exact ⟨HI.out.op, HI.out.d, HI.out.s, yz _, HI.out.aux, HI.out.bank, HI.out.size⟩)
    | (refine ⟨_, ?_, zh HM.out.setS.setImm⟩; exact ⟨HI.out.op, HI.out.d, ⟨by dsimp only; omega, by dsimp only; omega⟩, ⟨by dsimp only; omega, by dsimp only; omega⟩, HI.out.aux, HI.out.bank, HI.out.size⟩)
    | (refine ⟨_, ?_, zh HM.out.setBank.setImm⟩; exact ⟨HI.out.op, HI.out.d, HI.out.s, ⟨by dsimp only; omega, by dsimp only; omega⟩, HI.out.aux, ⟨by dsimp only; omega, by dsimp only; omega⟩, HI.out.size⟩)
    | (refine ⟨_, ?_, zh HM.out.setImm.setAux⟩; exact ⟨HI.out.op, HI.out.d, HI.out.s, ⟨by dsimp only; omega, by dsimp only; omega⟩, ⟨by dsimp only; omega, by dsimp only; omega⟩, HI.out.bank, HI.out.size⟩)
    | (refine ⟨_, ?_, zh HM.out.setD.setImm⟩; exact ⟨HI.out.op, ⟨by dsimp only; omega, by dsimp only; omega⟩, HI.out.s, ⟨by dsimp only; omega, by dsimp only; omega⟩, HI.out.aux, HI.out.bank, HI.out.size⟩)
    | (refine ⟨_, ?_, zh HM.out.setBank.setS⟩; exact ⟨HI.out.op, HI.out.d, ⟨by dsimp only; omega, by dsimp only; omega⟩, HI.out.imm, HI.out.aux, ⟨by dsimp only; omega, by dsimp only; omega⟩, HI.out.size⟩)
    | (refine ⟨⟨0, 0, 0, 0, 0, 0, 1⟩, ⟨⟨by decide, by decide⟩, ⟨by decide, by decide⟩, ⟨by decide, by decide⟩, ⟨by decide, by decide⟩, ⟨by decide, by decide⟩, ⟨by decide, by decide⟩, ⟨by decide, by decide⟩⟩, zh (HM.out.row ⟨0, 0, 0, 0, 0, 0, 1⟩)⟩)
  ·skip
   have hc := fun o => cell_of_row w2 w.heap.size o _ _ _ HM.out.b0
   have hf := fun o => frozen_of_row w2 w.heap.size o _ _ HM.out.b0
   go_wp2_with (first | (refine stR (HM.out.b0) ?_))
   go_meet
   first
    | exact ⟨_, HI.out, HM⟩
    | (refine ⟨_, ?_, zh HM.out.setImm⟩; exact ⟨HI.out.op, HI.out.d, HI.out.s, ⟨by dsimp only; omega, by dsimp only; omega⟩, HI.out.aux, HI.out.bank, HI.out.size⟩)
    | (refine ⟨_, ?_, zh HM.out.setImm⟩; exact ⟨HI.out.op, HI.out.d, HI.out.s, yz _, HI.out.aux, HI.out.bank, HI.out.size⟩)
    | (refine ⟨_, ?_, zh HM.out.setS.setImm⟩; exact ⟨HI.out.op, HI.out.d, ⟨by dsimp only; omega, by dsimp only; omega⟩, ⟨by dsimp only; omega, by dsimp only; omega⟩, HI.out.aux, HI.out.bank, HI.out.size⟩)
    | (refine ⟨_, ?_, zh HM.out.setBank.setImm⟩; exact ⟨HI.out.op, HI.out.d, HI.out.s, ⟨by dsimp only; omega, by dsimp only; omega⟩, HI.out.aux, ⟨by dsimp only; omega, by dsimp only; omega⟩, HI.out.size⟩)
    | (refine ⟨_, ?_, zh HM.out.setImm.setAux⟩; exact ⟨HI.out.op, HI.out.d, HI.out.s, ⟨by dsimp only; omega, by dsimp only; omega⟩, ⟨by dsimp only; omega, by dsimp only; omega⟩, HI.out.bank, HI.out.size⟩)
    | (refine ⟨_, ?_, zh HM.out.setD.setImm⟩; exact ⟨HI.out.op, ⟨by dsimp only; omega, by dsimp only; omega⟩, HI.out.s, ⟨by dsimp only; omega, by dsimp only; omega⟩, HI.out.aux, HI.out.bank, HI.out.size⟩)
    | (refine ⟨_, ?_, zh HM.out.setBank.setS⟩; exact ⟨HI.out.op, HI.out.d, ⟨by dsimp only; omega, by dsimp only; omega⟩, HI.out.imm, HI.out.aux, ⟨by dsimp only; omega, by dsimp only; omega⟩, HI.out.size⟩)
    | (refine ⟨⟨0, 0, 0, 0, 0, 0, 1⟩, ⟨⟨by decide, by decide⟩, ⟨by decide, by decide⟩, ⟨by decide, by decide⟩, ⟨by decide, by decide⟩, ⟨by decide, by decide⟩, ⟨by decide, by decide⟩, ⟨by decide, by decide⟩⟩, zh (HM.out.row ⟨0, 0, 0, 0, 0, 0, 1⟩)⟩)
  ·skip
   have hc := fun o => cell_of_row w2 w.heap.size o _ _ _ HM.out.b0
   have hf := fun o => frozen_of_row w2 w.heap.size o _ _ HM.out.b0
   go_wp2_with (first | (refine stR (HM.out.b0) ?_))
   go_meet
   first
    | exact ⟨_, HI.out, HM⟩
    | (refine ⟨_, ?_, zh HM.out.setImm⟩; exact ⟨HI.out.op, HI.out.d, HI.out.s, ⟨by dsimp only; omega, by dsimp only; omega⟩, HI.out.aux, HI.out.bank, HI.out.size⟩)
    | (refine ⟨_, ?_, zh HM.out.setImm⟩; exact ⟨HI.out.op, HI.out.d, HI.out.s, yz _, HI.out.aux, HI.out.bank, HI.out.size⟩)
    | (refine ⟨_, ?_, zh HM.out.setS.setImm⟩; exact ⟨HI.out.op, HI.out.d, ⟨by dsimp only; omega, by dsimp only; omega⟩, ⟨by dsimp only; omega, by dsimp only; omega⟩, HI.out.aux, HI.out.bank, HI.out.size⟩)
    | (refine ⟨_, ?_, zh HM.out.setBank.setImm⟩; exact ⟨HI.out.op, HI.out.d, HI.out.s, ⟨by dsimp only; omega, by dsimp only; omega⟩, HI.out.aux, ⟨by dsimp only; omega, by dsimp only; omega⟩, HI.out.size⟩)
    | (refine ⟨_, ?_, zh HM.out.setImm.setAux⟩; exact ⟨HI.out.op, HI.out.d, HI.out.s, ⟨by dsimp only; omega, by dsimp only; omega⟩, ⟨by dsimp only; omega, by dsimp only; omega⟩, HI.out.bank, HI.out.size⟩)
    | (refine ⟨_, ?_, zh HM.out.setD.setImm⟩; exact ⟨HI.out.op, ⟨by dsimp only; omega, by dsimp only; omega⟩, HI.out.s, ⟨by dsimp only; omega, by dsimp only; omega⟩, HI.out.aux, HI.out.bank, HI.out.size⟩)
    | (refine ⟨_, ?_, zh HM.out.setBank.setS⟩; exact ⟨HI.out.op, HI.out.d, ⟨by dsimp only; omega, by dsimp only; omega⟩, HI.out.imm, HI.out.aux, ⟨by dsimp only; omega, by dsimp only; omega⟩, HI.out.size⟩)
    | (refine ⟨⟨0, 0, 0, 0, 0, 0, 1⟩, ⟨⟨by decide, by decide⟩, ⟨by decide, by decide⟩, ⟨by decide, by decide⟩, ⟨by decide, by decide⟩, ⟨by decide, by decide⟩, ⟨by decide, by decide⟩, ⟨by decide, by decide⟩⟩, zh (HM.out.row ⟨0, 0, 0, 0, 0, 0, 1⟩)⟩)
  ·skip
   have hc := fun o => cell_of_row w2 w.heap.size o _ _ _ HM.out.b0
   have hf := fun o => frozen_of_row w2 w.heap.size o _ _ HM.out.b0
   go_wp2_with (first | (refine stR (HM.out.b0) ?_))
   go_meet
   first
    | exact ⟨_, HI.out, HM⟩
    | (refine ⟨_, ?_, zh HM.out.setImm⟩; exact ⟨HI.out.op, HI.out.d, HI.out.s, ⟨by dsimp only; omega, by dsimp only; omega⟩, HI.out.aux, HI.out.bank, HI.out.size⟩)
    | (refine ⟨_, ?_, zh HM.out.setImm⟩; exact ⟨HI.out.op, HI.out.d, HI.out.s, yz _, HI.out.aux, HI.out.bank, HI.out.size⟩)
    | (refine ⟨_, ?_, zh HM.out.setS.setImm⟩; exact ⟨HI.out.op, HI.out.d, ⟨by dsimp only; omega, by dsimp only; omega⟩, ⟨by dsimp only; omega, by dsimp only; omega⟩, HI.out.aux, HI.out.bank, HI.out.size⟩)
    | (refine ⟨_, ?_, zh HM.out.setBank.setImm⟩; exact ⟨HI.out.op, HI.out.d, HI.out.s, ⟨by dsimp only; omega, by dsimp only; omega⟩, HI.out.aux, ⟨by dsimp only; omega, by dsimp only; omega⟩, HI.out.size⟩)
    | (refine ⟨_, ?_, zh HM.out.setImm.setAux⟩; exact ⟨HI.out.op, HI.out.d, HI.out.s, ⟨by dsimp only; omega, by dsimp only; omega⟩, ⟨by dsimp only; omega, by dsimp only; omega⟩, HI.out.bank, HI.out.size⟩)
    | (refine ⟨_, ?_, zh HM.out.setD.setImm⟩; exact ⟨HI.out.op, ⟨by dsimp only; omega, by dsimp only; omega⟩, HI.out.s, ⟨by dsimp only; omega, by dsimp only; omega⟩, HI.out.aux, HI.out.bank, HI.out.size⟩)
    | (refine ⟨_, ?_, zh HM.out.setBank.setS⟩; exact ⟨HI.out.op, HI.out.d, ⟨by dsimp only; omega, by dsimp only; omega⟩, HI.out.imm, HI.out.aux, ⟨by dsimp only; omega, by dsimp only; omega⟩, HI.out.size⟩)
    | (refine ⟨⟨0, 0, 0, 0, 0, 0, 1⟩, ⟨⟨by decide, by decide⟩, ⟨by decide, by decide⟩, ⟨by decide, by decide⟩, ⟨by decide, by decide⟩, ⟨by decide, by decide⟩, ⟨by decide, by decide⟩, ⟨by decide, by decide⟩⟩, zh (HM.out.row ⟨0, 0, 0, 0, 0, 0, 1⟩)⟩)
  ·skip
   have hc := fun o => cell_of_row w2 w.heap.size o _ _ _ HM.out.b0
   have hf := fun o => frozen_of_row w2 w.heap.size o _ _ HM.out.b0
   go_wp2_with (first | (refine stR (HM.out.b0) ?_))
   go_meet
   first
    | exact ⟨_, HI.out, HM⟩
    | (refine ⟨_, ?_, zh HM.out.setImm⟩; exact ⟨HI.out.op, HI.out.d, HI.out.s, ⟨by dsimp only; omega, by dsimp only; omega⟩, HI.out.aux, HI.out.bank, HI.out.size⟩)
    | (refine ⟨_, ?_, zh HM.out.setImm⟩; exact ⟨HI.out.op, HI.out.d, HI.out.s, yz _, HI.out.aux, HI.out.bank, HI.out.size⟩)
    | (refine ⟨_, ?_, zh HM.out.setS.setImm⟩; exact ⟨HI.out.op, HI.out.d, ⟨by dsimp only; omega, by dsimp only; omega⟩, ⟨by dsimp only; omega, by dsimp only; omega⟩, HI.out.aux, HI.out.bank, HI.out.size⟩)
    | (refine ⟨_, ?_, zh HM.out.setBank.setImm⟩; exact ⟨HI.out.op, HI.out.d, HI.out.s, ⟨by dsimp only; omega, by dsimp only; omega⟩, HI.out.aux, ⟨by dsimp only; omega, by dsimp only; omega⟩, HI.out.size⟩)
    | (refine ⟨_, ?_, zh HM.out.setImm.setAux⟩; exact ⟨HI.out.op, HI.out.d, HI.out.s, ⟨by dsimp only; omega, by dsimp only; omega⟩, ⟨by dsimp only; omega, by dsimp only; omega⟩, HI.out.bank, HI.out.size⟩)
    | (refine ⟨_, ?_, zh HM.out.setD.setImm⟩; exact ⟨HI.out.op, ⟨by dsimp only; omega, by dsimp only; omega⟩, HI.out.s, ⟨by dsimp only; omega, by dsimp only; omega⟩, HI.out.aux, HI.out.bank, HI.out.size⟩)
    | (refine ⟨_, ?_, zh HM.out.setBank.setS⟩; exact ⟨HI.out.op, HI.out.d, ⟨by dsimp only; omega, by dsimp only; omega⟩, HI.out.imm, HI.out.aux, ⟨by dsimp only; omega, by dsimp only; omega⟩, HI.out.size⟩)
    | (refine ⟨⟨0, 0, 0, 0, 0, 0, 1⟩, ⟨⟨by decide, by decide⟩, ⟨by decide, by decide⟩, ⟨by decide, by decide⟩, ⟨by decide, by decide⟩, ⟨by decide, by decide⟩, ⟨by decide, by decide⟩, ⟨by decide, by decide⟩⟩, zh (HM.out.row ⟨0, 0, 0, 0, 0, 0, 1⟩)⟩)
  ·skip
   have hc := fun o => cell_of_row w2 w.heap.size o _ _ _ HM.out.b0
   have hf := fun o => frozen_of_row w2 w.heap.size o _ _ HM.out.b0
   go_wp2_with (first | (refine stR (HM.out.b0) ?_))
   go_meet
   first
    | exact ⟨_, HI.out, HM⟩
    | (refine ⟨_, ?_, zh HM.out.setImm⟩; exact ⟨HI.out.op, HI.out.d, HI.out.s, ⟨by dsimp only; omega, by dsimp only; omega⟩, HI.out.aux, HI.out.bank, HI.out.size⟩)
    | (refine ⟨_, ?_, zh HM.out.setImm⟩; exact ⟨HI.out.op, HI.out.d, HI.out.s, yz _, HI.out.aux, HI.out.bank, HI.out.size⟩)
    | (refine ⟨_, ?_, zh HM.out.setS.setImm⟩; exact ⟨HI.out.op, HI.out.d, ⟨by dsimp only; omega, by dsimp only; omega⟩, ⟨by dsimp only; omega, by dsimp only; omega⟩, HI.out.aux, HI.out.bank, HI.out.size⟩)
    | (refine ⟨_, ?_, zh HM.out.setBank.setImm⟩; exact ⟨HI.out.op, HI.out.d, HI.out.s, ⟨by dsimp only; omega, by dsimp only; omega⟩, HI.out.aux, ⟨by dsimp only; omega, by dsimp only; omega⟩, HI.out.size⟩)
    | (refine ⟨_, ?_, zh HM.out.setImm.setAux⟩; exact ⟨HI.out.op, HI.out.d, HI.out.s, ⟨by dsimp only; omega, by dsimp only; omega⟩, ⟨by dsimp only; omega, by dsimp only; omega⟩, HI.out.bank, HI.out.size⟩)
    | (refine ⟨_, ?_, zh HM.out.setD.setImm⟩; exact ⟨HI.out.op, ⟨by dsimp only; omega, by dsimp only; omega⟩, HI.out.s, ⟨by dsimp only; omega, by dsimp only; omega⟩, HI.out.aux, HI.out.bank, HI.out.size⟩)
    | (refine ⟨_, ?_, zh HM.out.setBank.setS⟩; exact ⟨HI.out.op, HI.out.d, ⟨by dsimp only; omega, by dsimp only; omega⟩, HI.out.imm, HI.out.aux, ⟨by dsimp only; omega, by dsimp only; omega⟩, HI.out.size⟩)
    | (refine ⟨⟨0, 0, 0, 0, 0, 0, 1⟩, ⟨⟨by decide, by decide⟩, ⟨by decide, by decide⟩, ⟨by decide, by decide⟩, ⟨by decide, by decide⟩, ⟨by decide, by decide⟩, ⟨by decide, by decide⟩, ⟨by decide, by decide⟩⟩, zh (HM.out.row ⟨0, 0, 0, 0, 0, 0, 1⟩)⟩)
  ·skip
   have hc := fun o => cell_of_row w2 w.heap.size o _ _ _ HM.out.b0
   have hf := fun o => frozen_of_row w2 w.heap.size o _ _ HM.out.b0
   go_wp2_with (first | (refine stR (HM.out.b0) ?_))
   go_meet
   first
    | exact ⟨_, HI.out, HM⟩
    | (refine ⟨_, ?_, zh HM.out.setImm⟩; exact ⟨HI.out.op, HI.out.d, HI.out.s, ⟨by dsimp only; omega, by dsimp only; omega⟩, HI.out.aux, HI.out.bank, HI.out.size⟩)
    | (refine ⟨_, ?_, zh HM.out.setImm⟩; exact ⟨HI.out.op, HI.out.d, HI.out.s, yz _, HI.out.aux, HI.out.bank, HI.out.size⟩)
    | (refine ⟨_, ?_, zh HM.out.setS.setImm⟩; exact ⟨HI.out.op, HI.out.d, ⟨by dsimp only; omega, by dsimp only; omega⟩, ⟨by dsimp only; omega, by dsimp only; omega⟩, HI.out.aux, HI.out.bank, HI.out.size⟩)
    | (refine ⟨_, ?_, zh HM.out.setBank.setImm⟩; exact ⟨HI.out.op, HI.out.d, HI.out.s, ⟨by dsimp only; omega, by dsimp only; omega⟩, HI.out.aux, ⟨by dsimp only; omega, by dsimp only; omega⟩, HI.out.size⟩)
    | (refine ⟨_, ?_, zh HM.out.setImm.setAux⟩; exact ⟨HI.out.op, HI.out.d, HI.out.s, ⟨by dsimp only; omega, by dsimp only; omega⟩, ⟨by dsimp only; omega, by dsimp only; omega⟩, HI.out.bank, HI.out.size⟩)
    | (refine ⟨_, ?_, zh HM.out.setD.setImm⟩; exact ⟨HI.out.op, ⟨by dsimp only; omega, by dsimp only; omega⟩, HI.out.s, ⟨by dsimp only; omega, by dsimp only; omega⟩, HI.out.aux, HI.out.bank, HI.out.size⟩)
    | (refine ⟨_, ?_, zh HM.out.setBank.setS⟩; exact ⟨HI.out.op, HI.out.d, ⟨by dsimp only; omega, by dsimp only; omega⟩, HI.out.imm, HI.out.aux, ⟨by dsimp only; omega, by dsimp only; omega⟩, HI.out.size⟩)
    | (refine ⟨⟨0, 0, 0, 0, 0, 0, 1⟩, ⟨⟨by decide, by decide⟩, ⟨by decide, by decide⟩, ⟨by decide, by decide⟩, ⟨by decide, by decide⟩, ⟨by decide, by decide⟩, ⟨by decide, by decide⟩, ⟨by decide, by decide⟩⟩, zh (HM.out.row ⟨0, 0, 0, 0, 0, 0, 1⟩)⟩)
  ·skip
   have hc := fun o => cell_of_row w2 w.heap.size o _ _ _ HM.out.b0
   have hf := fun o => frozen_of_row w2 w.heap.size o _ _ HM.out.b0
   go_wp2_with (first | (refine stR (HM.out.b0) ?_))
   go_meet
   first
    | exact ⟨_, HI.out, HM⟩
    | (refine ⟨_, ?_, zh HM.out.setImm⟩; exact ⟨HI.out.op, HI.out.d, HI.out.s, ⟨by dsimp only; omega, by dsimp only; omega⟩, HI.out.aux, HI.out.bank, HI.out.size⟩)
    | (refine ⟨_, ?_, zh HM.out.setImm⟩; exact ⟨HI.out.op, HI.out.d, HI.out.s, yz _, HI.out.aux, HI.out.bank, HI.out.size⟩)
    | (refine ⟨_, ?_, zh HM.out.setS.setImm⟩; exact ⟨HI.out.op, HI.out.d, ⟨by dsimp only; omega, by dsimp only; omega⟩, ⟨by dsimp only; omega, by dsimp only; omega⟩, HI.out.aux, HI.out.bank, HI.out.size⟩)
    | (refine ⟨_, ?_, zh HM.out.setBank.setImm⟩; exact ⟨HI.out.op, HI.out.d, HI.out.s, ⟨by dsimp only; omega, by dsimp only; omega⟩, HI.out.aux, ⟨by dsimp only; omega, by dsimp only; omega⟩, HI.out.size⟩)
    | (refine ⟨_, ?_, zh HM.out.setImm.setAux⟩; exact ⟨HI.out.op, HI.out.d, HI.out.s, ⟨by dsimp only; omega, by dsimp only; omega⟩, ⟨by dsimp only; omega, by dsimp only; omega⟩, HI.out.bank, HI.out.size⟩)
    | (refine ⟨_, ?_, zh HM.out.setD.setImm⟩; exact ⟨HI.out.op, ⟨by dsimp only; omega, by dsimp only; omega⟩, HI.out.s, ⟨by dsimp only; omega, by dsimp only; omega⟩, HI.out.aux, HI.out.bank, HI.out.size⟩)
    | (refine ⟨_, ?_, zh HM.out.setBank.setS⟩; exact ⟨HI.out.op, HI.out.d, ⟨by dsimp only; omega, by dsimp only; omega⟩, HI.out.imm, HI.out.aux, ⟨by dsimp only; omega, by dsimp only; omega⟩, HI.out.size⟩)
    | (refine ⟨⟨0, 0, 0, 0, 0, 0, 1⟩, ⟨⟨by decide, by decide⟩, ⟨by decide, by decide⟩, ⟨by decide, by decide⟩, ⟨by decide, by decide⟩, ⟨by decide, by decide⟩, ⟨by decide, by decide⟩, ⟨by decide, by decide⟩⟩, zh (HM.out.row ⟨0, 0, 0, 0, 0, 0, 1⟩)⟩)
  ·skip
   have hc := fun o => cell_of_row w2 w.heap.size o _ _ _ HM.out.b0
   have hf := fun o => frozen_of_row w2 w.heap.size o _ _ HM.out.b0
   go_wp2_with (first | (refine stR (HM.out.b0) ?_))
   go_meet
   first
    | exact ⟨_, HI.out, HM⟩
    | (refine ⟨_, ?_, zh HM.out.setImm⟩; exact ⟨HI.out.op, HI.out.d, HI.out.s, ⟨by dsimp only; omega, by dsimp only; omega⟩, HI.out.aux, HI.out.bank, HI.out.size⟩)
    | (refine ⟨_, ?_, zh HM.out.setImm⟩; exact ⟨HI.out.op, HI.out.d, HI.out.s, yz _, HI.out.aux, HI.out.bank, HI.out.size⟩)
    | (refine ⟨_, ?_, zh HM.out.setS.setImm⟩; exact ⟨HI.out.op, HI.out.d, ⟨by dsimp only; omega, by dsimp only; omega⟩, ⟨by dsimp only; omega, by dsimp only; omega⟩, HI.out.aux, HI.out.bank, HI.out.size⟩)
    | (refine ⟨_, ?_, zh HM.out.setBank.setImm⟩; exact ⟨HI.out.op, HI.out.d, HI.out.s, ⟨by dsimp only; omega, by dsimp only; omega⟩, HI.out.aux, ⟨by dsimp only; omega, by dsimp only; omega⟩, HI.out.size⟩)
    | (refine ⟨_, ?_, zh HM.out.setImm.setAux⟩; exact ⟨HI.out.op, HI.out.d, HI.out.s, ⟨by dsimp only; omega, by dsimp only; omega⟩, ⟨by dsimp only; omega, by dsimp only; omega⟩, HI.out.bank, HI.out.size⟩)
    | (refine ⟨_, ?_, zh HM.out.setD.setImm⟩; exact ⟨HI.out.op, ⟨by dsimp only; omega, by dsimp only; omega⟩, HI.out.s, ⟨by dsimp only; omega, by dsimp only; omega⟩, HI.out.aux, HI.out.bank, HI.out.size⟩)
    | (refine ⟨_, ?_, zh HM.out.setBank.setS⟩; exact ⟨HI.out.op, HI.out.d, ⟨by dsimp only; omega, by dsimp only; omega⟩, HI.out.imm, HI.out.aux, ⟨by dsimp only; omega, by dsimp only; omega⟩, HI.out.size⟩)
    | (refine ⟨⟨0, 0, 0, 0, 0, 0, 1⟩, ⟨⟨by decide, by decide⟩, ⟨by decide, by decide⟩, ⟨by decide, by decide⟩, ⟨by decide, by decide⟩, ⟨by decide, by decide⟩, ⟨by decide, by decide⟩, ⟨by decide, by decide⟩⟩, zh (HM.out.row ⟨0, 0, 0, 0, 0, 0, 1⟩)⟩)
  ·skip
   have hc := fun o => cell_of_row w2 w.heap.size o _ _ _ HM.out.b0
   have hf := fun o => frozen_of_row w2 w.heap.size o _ _ HM.out.b0
   go_wp2_with (first | (refine stR (HM.out.b0) ?_))
   go_meet
   first
    | exact ⟨_, HI.out, HM⟩
    | (refine ⟨_, ?_, zh HM.out.setImm⟩; exact ⟨HI.out.op, HI.out.d, HI.out.s, ⟨by dsimp only; omega, by dsimp only; omega⟩, HI.out.aux, HI.out.bank, HI.out.size⟩)
    | (refine ⟨_, ?_, zh HM.out.setImm⟩; exact ⟨HI.out.op, HI.out.d, HI.out.s, yz _, HI.out.aux, HI.out.bank, HI.out.size⟩)
    | (refine ⟨_, ?_, zh HM.out.setS.setImm⟩; exact ⟨HI.out.op, HI.out.d, ⟨by dsimp only; omega, by dsimp only; omega⟩, ⟨by dsimp only; omega, by dsimp only; omega⟩, HI.out.aux, HI.out.bank, HI.out.size⟩)
    | (refine ⟨_, ?_, zh HM.out.setBank.setImm⟩; exact ⟨HI.out.op, HI.out.d, HI.out.s, ⟨by dsimp only; omega, by dsimp only; omega⟩, HI.out.aux, ⟨by dsimp only; omega, by dsimp only; omega⟩, HI.out.size⟩)
    | (refine ⟨_, ?_, zh HM.out.setImm.setAux⟩; exact ⟨HI.out.op, HI.out.d, HI.out.s, ⟨by dsimp only; omega, by dsimp only; omega⟩, ⟨by dsimp only; omega, by dsimp only; omega⟩, HI.out.bank, HI.out.size⟩)
    | (refine ⟨_, ?_, zh HM.out.setD.setImm⟩; exact ⟨HI.out.op, ⟨by dsimp only; omega, by dsimp only; omega⟩, HI.out.s, ⟨by dsimp only; omega, by dsimp only; omega⟩, HI.out.aux, HI.out.bank, HI.out.size⟩)
    | (refine ⟨_, ?_, zh HM.out.setBank.setS⟩; exact ⟨HI.out.op, HI.out.d, ⟨by dsimp only; omega, by dsimp only; omega⟩, HI.out.imm, HI.out.aux, ⟨by dsimp only; omega, by dsimp only; omega⟩, HI.out.size⟩)
    | (refine ⟨⟨0, 0, 0, 0, 0, 0, 1⟩, ⟨⟨by decide, by decide⟩, ⟨by decide, by decide⟩, ⟨by decide, by decide⟩, ⟨by decide, by decide⟩, ⟨by decide, by decide⟩, ⟨by decide, by decide⟩, ⟨by decide, by decide⟩⟩, zh (HM.out.row ⟨0, 0, 0, 0, 0, 0, 1⟩)⟩)
  ·skip
   have hc := fun o => cell_of_row w2 w.heap.size o _ _ _ HM.out.b0
   have hf := fun o => frozen_of_row w2 w.heap.size o _ _ HM.out.b0
   go_wp2_with (first | (refine stR (HM.out.b0) ?_))
   go_meet
   first
    | exact ⟨_, HI.out, HM⟩
    | (refine ⟨_, ?_, zh HM.out.setImm⟩; exact ⟨HI.out.op, HI.out.d, HI.out.s, ⟨by dsimp only; omega, by dsimp only; omega⟩, HI.out.aux, HI.out.bank, HI.out.size⟩)
    | (refine ⟨_, ?_, zh HM.out.setImm⟩; exact ⟨HI.out.op, HI.out.d, HI.out.s, yz _, HI.out.aux, HI.out.bank, HI.out.size⟩)
    | (refine ⟨_, ?_, zh HM.out.setS.setImm⟩; exact ⟨HI.out.op, HI.out.d, ⟨by dsimp only; omega, by dsimp only; omega⟩, ⟨by dsimp only; omega, by dsimp only; omega⟩, HI.out.aux, HI.out.bank, HI.out.size⟩)
    | (refine ⟨_, ?_, zh HM.out.setBank.setImm⟩; exact ⟨HI.out.op, HI.out.d, HI.out.s, ⟨by dsimp only; omega, by dsimp only; omega⟩, HI.out.aux, ⟨by dsimp only; omega, by dsimp only; omega⟩, HI.out.size⟩)
    | (refine ⟨_, ?_, zh HM.out.setImm.setAux⟩; exact ⟨HI.out.op, HI.out.d, HI.out.s, ⟨by dsimp only; omega, by dsimp only; omega⟩, ⟨by dsimp only; omega, by dsimp only; omega⟩, HI.out.bank, HI.out.size⟩)
    | (refine ⟨_, ?_, zh HM.out.setD.setImm⟩; exact ⟨HI.out.op, ⟨by dsimp only; omega, by dsimp only; omega⟩, HI.out.s, ⟨by dsimp only; omega, by dsimp only; omega⟩, HI.out.aux, HI.out.bank, HI.out.size⟩)
    | (refine ⟨_, ?_, zh HM.out.setBank.setS⟩; exact ⟨HI.out.op, HI.out.d, ⟨by dsimp only; omega, by dsimp only; omega⟩, HI.out.imm, HI.out.aux, ⟨by dsimp only; omega, by dsimp only; omega⟩, HI.out.size⟩)
    | (refine ⟨⟨0, 0, 0, 0, 0, 0, 1⟩, ⟨⟨by decide, by decide⟩, ⟨by decide, by decide⟩, ⟨by decide, by decide⟩, ⟨by decide, by decide⟩, ⟨by decide, by decide⟩, ⟨by decide, by decide⟩, ⟨by decide, by decide⟩⟩, zh (HM.out.row ⟨0, 0, 0, 0, 0, 0, 1⟩)⟩)
  ·skip
   have hc := fun o => cell_of_row w2 w.heap.size o _ _ _ HM.out.b0
   have hf := fun o => frozen_of_row w2 w.heap.size o _ _ HM.out.b0
   go_wp2_with (first | (refine stR (HM.out.b0) ?_))
   go_meet
   first
    | exact ⟨_, HI.out, HM⟩
    | (refine ⟨_, ?_, zh HM.out.setImm⟩; exact ⟨HI.out.op, HI.out.d, HI.out.s, ⟨by dsimp only; omega, by dsimp only; omega⟩, HI.out.aux, HI.out.bank, HI.out.size⟩)
    | (refine ⟨_, ?_, zh HM.out.setImm⟩; exact ⟨HI.out.op, HI.out.d, HI.out.s, yz _, HI.out.aux, HI.out.bank, HI.out.size⟩)
    | (refine ⟨_, ?_, zh HM.out.setS.setImm⟩; exact ⟨HI.out.op, HI.out.d, ⟨by dsimp only; omega, by dsimp only; omega⟩, ⟨by dsimp only; omega, by dsimp only; omega⟩, HI.out.aux, HI.out.bank, HI.out.size⟩)
    | (refine ⟨_, ?_, zh HM.out.setBank.setImm⟩; exact ⟨HI.out.op, HI.out.d, HI.out.s, ⟨by dsimp only; omega, by dsimp only; omega⟩, HI.out.aux, ⟨by dsimp only; omega, by dsimp only; omega⟩, HI.out.size⟩)
    | (refine ⟨_, ?_, zh HM.out.setImm.setAux⟩; exact ⟨HI.out.op, HI.out.d, HI.out.s, ⟨by dsimp only; omega, by dsimp only; omega⟩, ⟨by dsimp only; omega, by dsimp only; omega⟩, HI.out.bank, HI.out.size⟩)
    | (refine ⟨_, ?_, zh HM.out.setD.setImm⟩; exact ⟨HI.out.op, ⟨by dsimp only; omega, by dsimp only; omega⟩, HI.out.s, ⟨by dsimp only; omega, by dsimp only; omega⟩, HI.out.aux, HI.out.bank, HI.out.size⟩)
    | (refine ⟨_, ?_, zh HM.out.setBank.setS⟩; exact ⟨HI.out.op, HI.out.d, ⟨by dsimp only; omega, by dsimp only; omega⟩, HI.out.imm, HI.out.aux, ⟨by dsimp only; omega, by dsimp only; omega⟩, HI.out.size⟩)
    | (refine ⟨⟨0, 0, 0, 0, 0, 0, 1⟩, ⟨⟨by decide, by decide⟩, ⟨by decide, by decide⟩, ⟨by decide, by decide⟩, ⟨by decide, by decide⟩, ⟨by decide, by decide⟩, ⟨by decide, by decide⟩, ⟨by decide, by decide⟩⟩, zh (HM.out.row ⟨0, 0, 0, 0, 0, 0, 1⟩)⟩)
  ·skip
   have hc := fun o => cell_of_row w2 w.heap.size o _ _ _ HM.out.b0
   have hf := fun o => frozen_of_row w2 w.heap.size o _ _ HM.out.b0
   go_wp2_with (first | (refine stR (HM.out.b0) ?_))
   go_meet
   first
    | exact ⟨_, HI.out, HM⟩
    | (refine ⟨_, ?_, zh HM.out.setImm⟩; exact ⟨HI.out.op, HI.out.d, HI.out.s, ⟨by dsimp only; omega, by dsimp only; omega⟩, HI.out.aux, HI.out.bank, HI.out.size⟩)
    | (refine ⟨_, ?_, zh HM.out.setImm⟩; exact ⟨HI.out.op, HI.out.d, HI.out.s, yz _, HI.out.aux, HI.out.bank, HI.out.size⟩)
    | (refine ⟨_, ?_, zh HM.out.setS.setImm⟩; exact ⟨HI.out.op, HI.out.d, ⟨by dsimp only; omega, by dsimp only; omega⟩, ⟨by dsimp only; omega, by dsimp only; omega⟩, HI.out.aux, HI.out.bank, HI.out.size⟩)
    | (refine ⟨_, ?_, zh HM.out.setBank.setImm⟩; exact ⟨HI.out.op, HI.out.d, HI.out.s, ⟨by dsimp only; omega, by dsimp only; omega⟩, HI.out.aux, ⟨by dsimp only; omega, by dsimp only; omega⟩, HI.out.size⟩)
    | (refine ⟨_, ?_, zh HM.out.setImm.setAux⟩; exact ⟨HI.out.op, HI.out.d, HI.out.s, ⟨by dsimp only; omega, by dsimp only; omega⟩, ⟨by dsimp only; omega, by dsimp only; omega⟩, HI.out.bank, HI.out.size⟩)
    | (refine ⟨_, ?_, zh HM.out.setD.setImm⟩; exact ⟨HI.out.op, ⟨by dsimp only; omega, by dsimp only; omega⟩, HI.out.s, ⟨by dsimp only; omega, by dsimp only; omega⟩, HI.out.aux, HI.out.bank, HI.out.size⟩)
    | (refine ⟨_, ?_, zh HM.out.setBank.setS⟩; exact ⟨HI.out.op, HI.out.d, ⟨by dsimp only; omega, by dsimp only; omega⟩, HI.out.imm, HI.out.aux, ⟨by dsimp only; omega, by dsimp only; omega⟩, HI.out.size⟩)
    | (refine ⟨⟨0, 0, 0, 0, 0, 0, 1⟩, ⟨⟨by decide, by decide⟩, ⟨by decide, by decide⟩, ⟨by decide, by decide⟩, ⟨by decide, by decide⟩, ⟨by decide, by decide⟩, ⟨by decide, by decide⟩, ⟨by decide, by decide⟩⟩, zh (HM.out.row ⟨0, 0, 0, 0, 0, 0, 1⟩)⟩)
  ·skip
   have hc := fun o => cell_of_row w2 w.heap.size o _ _ _ HM.out.b0
   have hf := fun o => frozen_of_row w2 w.heap.size o _ _ HM.out.b0
   go_wp2_with (first | (refine stR (HM.out.b0) ?_))
   go_meet
   first
    | exact ⟨_, HI.out, HM⟩
    | (refine ⟨_, ?_, zh HM.out.setImm⟩; exact ⟨HI.out.op, HI.out.d, HI.out.s, ⟨by dsimp only; omega, by dsimp only; omega⟩, HI.out.aux, HI.out.bank, HI.out.size⟩)
    | (refine ⟨_, ?_, zh HM.out.setImm⟩; exact ⟨HI.out.op, HI.out.d, HI.out.s, yz _, HI.out.aux, HI.out.bank, HI.out.size⟩)
    | (refine ⟨_, ?_, zh HM.out.setS.setImm⟩; exact ⟨HI.out.op, HI.out.d, ⟨by dsimp only; omega, by dsimp only; omega⟩, ⟨by dsimp only; omega, by dsimp only; omega⟩, HI.out.aux, HI.out.bank, HI.out.size⟩)
    | (refine ⟨_, ?_, zh HM.out.setBank.setImm⟩; exact ⟨HI.out.op, HI.out.d, HI.out.s, ⟨by dsimp only; omega, by dsimp only; omega⟩, HI.out.aux, ⟨by dsimp only; omega, by dsimp only; omega⟩, HI.out.size⟩)
    | (refine ⟨_, ?_, zh HM.out.setImm.setAux⟩; exact ⟨HI.out.op, HI.out.d, HI.out.s, ⟨by dsimp only; omega, by dsimp only; omega⟩, ⟨by dsimp only; omega, by dsimp only; omega⟩, HI.out.bank, HI.out.size⟩)
    | (refine ⟨_, ?_, zh HM.out.setD.setImm⟩; exact ⟨HI.out.op, ⟨by dsimp only; omega, by dsimp only; omega⟩, HI.out.s, ⟨by dsimp only; omega, by dsimp only; omega⟩, HI.out.aux, HI.out.bank, HI.out.size⟩)
    | (refine ⟨_, ?_, zh HM.out.setBank.setS⟩; exact ⟨HI.out.op, HI.out.d, ⟨by dsimp only; omega, by dsimp only; omega⟩, HI.out.imm, HI.out.aux, ⟨by dsimp only; omega, by dsimp only; omega⟩, HI.out.size⟩)
    | (refine ⟨⟨0, 0, 0, 0, 0, 0, 1⟩, ⟨⟨by decide, by decide⟩, ⟨by decide, by decide⟩, ⟨by decide, by decide⟩, ⟨by decide, by decide⟩, ⟨by decide, by decide⟩, ⟨by decide, by decide⟩, ⟨by decide, by decide⟩⟩, zh (HM.out.row ⟨0, 0, 0, 0, 0, 0, 1⟩)⟩)
  ·skip
   have hc := fun o => cell_of_row w2 w.heap.size o _ _ _ HM.out.b0
   have hf := fun o => frozen_of_row w2 w.heap.size o _ _ HM.out.b0
   go_wp2_with (first | (refine stR (HM.out.b0) ?_))
   go_meet
   first
    | exact ⟨_, HI.out, HM⟩
    | (refine ⟨_, ?_, zh HM.out.setImm⟩; exact ⟨HI.out.op, HI.out.d, HI.out.s, ⟨by dsimp only; omega, by dsimp only; omega⟩, HI.out.aux, HI.out.bank, HI.out.size⟩)
    | (refine ⟨_, ?_, zh HM.out.setImm⟩; exact ⟨HI.out.op, HI.out.d, HI.out.s, yz _, HI.out.aux, HI.out.bank, HI.out.size⟩)
    | (refine ⟨_, ?_, zh HM.out.setS.setImm⟩; exact ⟨HI.out.op, HI.out.d, ⟨by dsimp only; omega, by dsimp only; omega⟩, ⟨by dsimp only; omega, by dsimp only; omega⟩, HI.out.aux, HI.out.bank, HI.out.size⟩)
    | (refine ⟨_, ?_, zh HM.out.setBank.setImm⟩; exact ⟨HI.out.op, HI.out.d, HI.out.s, ⟨by dsimp only; omega, by dsimp only; omega⟩, HI.out.aux, ⟨by dsimp only; omega, by dsimp only; omega⟩, HI.out.size⟩)
    | (refine ⟨_, ?_, zh HM.out.setImm.setAux⟩; exact ⟨HI.out.op, HI.out.d, HI.out.s, ⟨by dsimp only; omega, by dsimp only; omega⟩, ⟨by dsimp only; omega, by dsimp only; omega⟩, HI.out.bank, HI.out.size⟩)
    | (refine ⟨_, ?_, zh HM.out.setD.setImm⟩; exact ⟨HI.out.op, ⟨by dsimp only; omega, by dsimp only; omega⟩, HI.out.s, ⟨by dsimp only; omega, by dsimp only; omega⟩, HI.out.aux, HI.out.bank, HI.out.size⟩)
    | (refine ⟨_, ?_, zh HM.out.setBank.setS⟩; exact ⟨HI.out.op, HI.out.d, ⟨by dsimp only; omega, by dsimp only; omega⟩, HI.out.imm, HI.out.aux, ⟨by dsimp only; omega, by dsimp only; omega⟩, HI.out.size⟩)
    | (refine ⟨⟨0, 0, 0, 0, 0, 0, 1⟩, ⟨⟨by decide, by decide⟩, ⟨by decide, by decide⟩, ⟨by decide, by decide⟩, ⟨by decide, by decide⟩, ⟨by decide, by decide⟩, ⟨by decide, by decide⟩, ⟨by decide, by decide⟩⟩, zh (HM.out.row ⟨0, 0, 0, 0, 0, 0, 1⟩)⟩)
  ·skip
   have hc := fun o => cell_of_row w2 w.heap.size o _ _ _ HM.out.b0
   have hf := fun o => frozen_of_row w2 w.heap.size o _ _ HM.out.b0
   go_wp2_with (first | (refine stR (HM.out.b0) ?_))
   go_meet
   first
    | exact ⟨_, HI.out, HM⟩
    | (refine ⟨_, ?_, zh HM.out.setImm⟩; exact ⟨HI.out.op, HI.out.d, HI.out.s, ⟨by dsimp only; omega, by dsimp only; omega⟩, HI.out.aux, HI.out.bank, HI.out.size⟩)
    | (refine ⟨_, ?_, zh HM.out.setImm⟩; exact ⟨HI.out.op, HI.out.d, HI.out.s, yz _, HI.out.aux, HI.out.bank, HI.out.size⟩)
    | (refine ⟨_, ?_, zh HM.out.setS.setImm⟩; exact ⟨HI.out.op, HI.out.d, ⟨by dsimp only; omega, by dsimp only; omega⟩, ⟨by dsimp only; omega, by dsimp only; omega⟩, HI.out.aux, HI.out.bank, HI.out.size⟩)
    | (refine ⟨_, ?_, zh HM.out.setBank.setImm⟩; exact ⟨HI.out.op, HI.out.d, HI.out.s, ⟨by dsimp only; omega, by dsimp only; omega⟩, HI.out.aux, ⟨by dsimp only; omega, by dsimp only; omega⟩, HI.out.size⟩)
    | (refine ⟨_, ?_, zh HM.out.setImm.setAux⟩; exact ⟨HI.out.op, HI.out.d, HI.out.s, ⟨by dsimp only; omega, by dsimp only; omega⟩, ⟨by dsimp only; omega, by dsimp only; omega⟩, HI.out.bank, HI.out.size⟩)
    | (refine ⟨_, ?_, zh HM.out.setD.setImm⟩; exact ⟨HI.out.op, ⟨by dsimp only; omega, by dsimp only; omega⟩, HI.out.s, ⟨by dsimp only; omega, by dsimp only; omega⟩, HI.out.aux, HI.out.bank, HI.out.size⟩)
    | (refine ⟨_, ?_, zh HM.out.setBank.setS⟩; exact ⟨HI.out.op, HI.out.d, ⟨by dsimp only; omega, by dsimp only; omega⟩, HI.out.imm, HI.out.aux, ⟨by dsimp only; omega, by dsimp only; omega⟩, HI.out.size⟩)
    | (refine ⟨⟨0, 0, 0, 0, 0, 0, 1⟩, ⟨⟨by decide, by decide⟩, ⟨by decide, by decide⟩, ⟨by decide, by decide⟩, ⟨by decide, by decide⟩, ⟨by decide, by decide⟩, ⟨by decide, by decide⟩, ⟨by decide, by decide⟩⟩, zh (HM.out.row ⟨0, 0, 0, 0, 0, 0, 1⟩)⟩)
  ·skip
   have hc := fun o => cell_of_row w2 w.heap.size o _ _ _ HM.out.b0
   have hf := fun o => frozen_of_row w2 w.heap.size o _ _ HM.out.b0
   go_wp2_with (first | (refine stR (HM.out.b0) ?_))
   go_meet
   first
    | exact ⟨_, HI.out, HM⟩
    | (refine ⟨_, ?_, zh HM.out.setImm⟩; exact ⟨HI.out.op, HI.out.d, HI.out.s, ⟨by dsimp only; omega, by dsimp only; omega⟩, HI.out.aux, HI.out.bank, HI.out.size⟩)
    | (refine ⟨_, ?_, zh HM.out.setImm⟩; exact ⟨HI.out.op, HI.out.d, HI.out.s, yz _, HI.out.aux, HI.out.bank, HI.out.size⟩)
    | (refine ⟨_, ?_, zh HM.out.setS.setImm⟩; exact ⟨HI.out.op, HI.out.d, ⟨by dsimp only; omega, by dsimp only; omega⟩, ⟨by dsimp only; omega, by dsimp only; omega⟩, HI.out.aux, HI.out.bank, HI.out.size⟩)
    | (refine ⟨_, ?_, zh HM.out.setBank.setImm⟩; exact ⟨HI.out.op, HI.out.d, HI.out.s, ⟨by dsimp only; omega, by dsimp only; omega⟩, HI.out.aux, ⟨by dsimp only; omega, by dsimp only; omega⟩, HI.out.size⟩)
    | (refine ⟨_, ?_, zh HM.out.setImm.setAux⟩; exact ⟨HI.out.op, HI.out.d, HI.out.s, ⟨by dsimp only; omega, by dsimp only; omega⟩, ⟨by dsimp only; omega, by dsimp only; omega⟩, HI.out.bank, HI.out.size⟩)
    | (refine ⟨_, ?_, zh HM.out.setD.setImm⟩; exact ⟨HI.out.op, ⟨by dsimp only; omega, by dsimp only; omega⟩, HI.out.s, ⟨by dsimp only; omega, by dsimp only; omega⟩, HI.out.aux, HI.out.bank, HI.out.size⟩)
    | (refine ⟨_, ?_, zh HM.out.setBank.setS⟩; exact ⟨HI.out.op, HI.out.d, ⟨by dsimp only; omega, by dsimp only; omega⟩, HI.out.imm, HI.out.aux, ⟨by dsimp only; omega, by dsimp only; omega⟩, HI.out.size⟩)
    | (refine ⟨⟨0, 0, 0, 0, 0, 0, 1⟩, ⟨⟨by decide, by decide⟩, ⟨by decide, by decide⟩, ⟨by decide, by decide⟩, ⟨by decide, by decide⟩, ⟨by decide, by decide⟩, ⟨by decide, by decide⟩, ⟨by decide, by decide⟩⟩, zh (HM.out.row ⟨0, 0, 0, 0, 0, 0, 1⟩)⟩)
  ·obtain ⟨h0, h1⟩ := hcl
   have n150 : (op == 150) = false := by simp only [beq_eq_false_iff_ne]; omega
   have g84 : ¬ 84 ≤ op := by omega
   have g88 : ¬ 88 ≤ op := by omega
   have g96 : ¬ 96 ≤ op := by omega
   have g128 : op < 128 := by omega
   have hc := fun o => cell_of_row w2 w.heap.size o _ _ _ HM.out.b0
   have hf := fun o => frozen_of_row w2 w.heap.size o _ _ HM.out.b0
   go_wp2_with fail
   go_meet
   first
    | exact ⟨_, HI.out, HM⟩
    | (refine ⟨_, ?_, zh HM.out.setImm⟩; exact ⟨HI.out.op, HI.out.d, HI.out.s, ⟨by dsimp only; omega, by dsimp only; omega⟩, HI.out.aux, HI.out.bank, HI.out.size⟩)
    | (refine ⟨_, ?_, zh HM.out.setImm⟩; exact ⟨HI.out.op, HI.out.d, HI.out.s, yz _, HI.out.aux, HI.out.bank, HI.out.size⟩)
    | (refine ⟨_, ?_, zh HM.out.setS.setImm⟩; exact ⟨HI.out.op, HI.out.d, ⟨by dsimp only; omega, by dsimp only; omega⟩, ⟨by dsimp only; omega, by dsimp only; omega⟩, HI.out.aux, HI.out.bank, HI.out.size⟩)
    | (refine ⟨_, ?_, zh HM.out.setBank.setImm⟩; exact ⟨HI.out.op, HI.out.d, HI.out.s, ⟨by dsimp only; omega, by dsimp only; omega⟩, HI.out.aux, ⟨by dsimp only; omega, by dsimp only; omega⟩, HI.out.size⟩)
    | (refine ⟨_, ?_, zh HM.out.setImm.setAux⟩; exact ⟨HI.out.op, HI.out.d, HI.out.s, ⟨by dsimp only; omega, by dsimp only; omega⟩, ⟨by dsimp only; omega, by dsimp only; omega⟩, HI.out.bank, HI.out.size⟩)
    | (refine ⟨_, ?_, zh HM.out.setD.setImm⟩; exact ⟨HI.out.op, ⟨by dsimp only; omega, by dsimp only; omega⟩, HI.out.s, ⟨by dsimp only; omega, by dsimp only; omega⟩, HI.out.aux, HI.out.bank, HI.out.size⟩)
    | (refine ⟨_, ?_, zh HM.out.setBank.setS⟩; exact ⟨HI.out.op, HI.out.d, ⟨by dsimp only; omega, by dsimp only; omega⟩, HI.out.imm, HI.out.aux, ⟨by dsimp only; omega, by dsimp only; omega⟩, HI.out.size⟩)
    | (refine ⟨⟨0, 0, 0, 0, 0, 0, 1⟩, ⟨⟨by decide, by decide⟩, ⟨by decide, by decide⟩, ⟨by decide, by decide⟩, ⟨by decide, by decide⟩, ⟨by decide, by decide⟩, ⟨by decide, by decide⟩, ⟨by decide, by decide⟩⟩, zh (HM.out.row ⟨0, 0, 0, 0, 0, 0, 1⟩)⟩)
  ·obtain ⟨h0, h1⟩ := hcl
   have n150 : (op == 150) = false := by simp only [beq_eq_false_iff_ne]; omega
   have g80 : ¬ op ≤ 83 := by omega
   have p80 : 80 ≤ op := by omega
   have g88 : ¬ 88 ≤ op := by omega
   have g96 : ¬ 96 ≤ op := by omega
   have g128 : op < 128 := by omega
   have hc := fun o => cell_of_row w2 w.heap.size o _ _ _ HM.out.b0
   have hf := fun o => frozen_of_row w2 w.heap.size o _ _ HM.out.b0
   go_wp2_with fail
   go_meet
   first
    | exact ⟨_, HI.out, HM⟩
    | (refine ⟨_, ?_, zh HM.out.setImm⟩; exact ⟨HI.out.op, HI.out.d, HI.out.s, ⟨by dsimp only; omega, by dsimp only; omega⟩, HI.out.aux, HI.out.bank, HI.out.size⟩)
    | (refine ⟨_, ?_, zh HM.out.setImm⟩; exact ⟨HI.out.op, HI.out.d, HI.out.s, yz _, HI.out.aux, HI.out.bank, HI.out.size⟩)
    | (refine ⟨_, ?_, zh HM.out.setS.setImm⟩; exact ⟨HI.out.op, HI.out.d, ⟨by dsimp only; omega, by dsimp only; omega⟩, ⟨by dsimp only; omega, by dsimp only; omega⟩, HI.out.aux, HI.out.bank, HI.out.size⟩)
    | (refine ⟨_, ?_, zh HM.out.setBank.setImm⟩; exact ⟨HI.out.op, HI.out.d, HI.out.s, ⟨by dsimp only; omega, by dsimp only; omega⟩, HI.out.aux, ⟨by dsimp only; omega, by dsimp only; omega⟩, HI.out.size⟩)
    | (refine ⟨_, ?_, zh HM.out.setImm.setAux⟩; exact ⟨HI.out.op, HI.out.d, HI.out.s, ⟨by dsimp only; omega, by dsimp only; omega⟩, ⟨by dsimp only; omega, by dsimp only; omega⟩, HI.out.bank, HI.out.size⟩)
    | (refine ⟨_, ?_, zh HM.out.setD.setImm⟩; exact ⟨HI.out.op, ⟨by dsimp only; omega, by dsimp only; omega⟩, HI.out.s, ⟨by dsimp only; omega, by dsimp only; omega⟩, HI.out.aux, HI.out.bank, HI.out.size⟩)
    | (refine ⟨_, ?_, zh HM.out.setBank.setS⟩; exact ⟨HI.out.op, HI.out.d, ⟨by dsimp only; omega, by dsimp only; omega⟩, HI.out.imm, HI.out.aux, ⟨by dsimp only; omega, by dsimp only; omega⟩, HI.out.size⟩)
    | (refine ⟨⟨0, 0, 0, 0, 0, 0, 1⟩, ⟨⟨by decide, by decide⟩, ⟨by decide, by decide⟩, ⟨by decide, by decide⟩, ⟨by decide, by decide⟩, ⟨by decide, by decide⟩, ⟨by decide, by decide⟩, ⟨by decide, by decide⟩⟩, zh (HM.out.row ⟨0, 0, 0, 0, 0, 0, 1⟩)⟩)
  ·obtain ⟨h0, h1⟩ := hcl
   have n150 : (op == 150) = false := by simp only [beq_eq_false_iff_ne]; omega
   have g80 : ¬ op ≤ 83 := by omega
   have p80 : 80 ≤ op := by omega
   have g84 : ¬ op ≤ 87 := by omega
   have p84 : 84 ≤ op := by omega
   have g96 : ¬ 96 ≤ op := by omega
   have g128 : op < 128 := by omega
   have hc := fun o => cell_of_row w2 w.heap.size o _ _ _ HM.out.b0
   have hf := fun o => frozen_of_row w2 w.heap.size o _ _ HM.out.b0
   go_wp2_with fail
   go_meet
   first
    | exact ⟨_, HI.out, HM⟩
    | (refine ⟨_, ?_, zh HM.out.setImm⟩; exact ⟨HI.out.op, HI.out.d, HI.out.s, ⟨by dsimp only; omega, by dsimp only; omega⟩, HI.out.aux, HI.out.bank, HI.out.size⟩)
    | (refine ⟨_, ?_, zh HM.out.setImm⟩; exact ⟨HI.out.op, HI.out.d, HI.out.s, yz _, HI.out.aux, HI.out.bank, HI.out.size⟩)
    | (refine ⟨_, ?_, zh HM.out.setS.setImm⟩; exact ⟨HI.out.op, HI.out.d, ⟨by dsimp only; omega, by dsimp only; omega⟩, ⟨by dsimp only; omega, by dsimp only; omega⟩, HI.out.aux, HI.out.bank, HI.out.size⟩)
    | (refine ⟨_, ?_, zh HM.out.setBank.setImm⟩; exact ⟨HI.out.op, HI.out.d, HI.out.s, ⟨by dsimp only; omega, by dsimp only; omega⟩, HI.out.aux, ⟨by dsimp only; omega, by dsimp only; omega⟩, HI.out.size⟩)
    | (refine ⟨_, ?_, zh HM.out.setImm.setAux⟩; exact ⟨HI.out.op, HI.out.d, HI.out.s, ⟨by dsimp only; omega, by dsimp only; omega⟩, ⟨by dsimp only; omega, by dsimp only; omega⟩, HI.out.bank, HI.out.size⟩)
    | (refine ⟨_, ?_, zh HM.out.setD.setImm⟩; exact ⟨HI.out.op, ⟨by dsimp only; omega, by dsimp only; omega⟩, HI.out.s, ⟨by dsimp only; omega, by dsimp only; omega⟩, HI.out.aux, HI.out.bank, HI.out.size⟩)
    | (refine ⟨_, ?_, zh HM.out.setBank.setS⟩; exact ⟨HI.out.op, HI.out.d, ⟨by dsimp only; omega, by dsimp only; omega⟩, HI.out.imm, HI.out.aux, ⟨by dsimp only; omega, by dsimp only; omega⟩, HI.out.size⟩)
    | (refine ⟨⟨0, 0, 0, 0, 0, 0, 1⟩, ⟨⟨by decide, by decide⟩, ⟨by decide, by decide⟩, ⟨by decide, by decide⟩, ⟨by decide, by decide⟩, ⟨by decide, by decide⟩, ⟨by decide, by decide⟩, ⟨by decide, by decide⟩⟩, zh (HM.out.row ⟨0, 0, 0, 0, 0, 0, 1⟩)⟩)
  ·obtain ⟨h0, h1⟩ := hcl
   have n150 : (op == 150) = false := by simp only [beq_eq_false_iff_ne]; omega
   have g80 : ¬ op ≤ 83 := by omega
   have p80 : 80 ≤ op := by omega
   have g84 : ¬ op ≤ 87 := by omega
   have p84 : 84 ≤ op := by omega
   have g88 : ¬ op ≤ 91 := by omega
   have p88 : 88 ≤ op := by omega
   have g128 : op < 128 := by omega
   have hc := fun o => cell_of_row w2 w.heap.size o _ _ _ HM.out.b0
   have hf := fun o => frozen_of_row w2 w.heap.size o _ _ HM.out.b0
   go_wp2_with fail
   go_meet
   first
    | exact ⟨_, HI.out, HM⟩
    | (refine ⟨_, ?_, zh HM.out.setImm⟩; exact ⟨HI.out.op, HI.out.d, HI.out.s, ⟨by dsimp only; omega, by dsimp only; omega⟩, HI.out.aux, HI.out.bank, HI.out.size⟩)
    | (refine ⟨_, ?_, zh HM.out.setImm⟩; exact ⟨HI.out.op, HI.out.d, HI.out.s, yz _, HI.out.aux, HI.out.bank, HI.out.size⟩)
    | (refine ⟨_, ?_, zh HM.out.setS.setImm⟩; exact ⟨HI.out.op, HI.out.d, ⟨by dsimp only; omega, by dsimp only; omega⟩, ⟨by dsimp only; omega, by dsimp only; omega⟩, HI.out.aux, HI.out.bank, HI.out.size⟩)
    | (refine ⟨_, ?_, zh HM.out.setBank.setImm⟩; exact ⟨HI.out.op, HI.out.d, HI.out.s, ⟨by dsimp only; omega, by dsimp only; omega⟩, HI.out.aux, ⟨by dsimp only; omega, by dsimp only; omega⟩, HI.out.size⟩)
    | (refine ⟨_, ?_, zh HM.out.setImm.setAux⟩; exact ⟨HI.out.op, HI.out.d, HI.out.s, ⟨by dsimp only; omega, by dsimp only; omega⟩, ⟨by dsimp only; omega, by dsimp only; omega⟩, HI.out.bank, HI.out.size⟩)
    | (refine ⟨_, ?_, zh HM.out.setD.setImm⟩; exact ⟨HI.out.op, ⟨by dsimp only; omega, by dsimp only; omega⟩, HI.out.s, ⟨by dsimp only; omega, by dsimp only; omega⟩, HI.out.aux, HI.out.bank, HI.out.size⟩)
    | (refine ⟨_, ?_, zh HM.out.setBank.setS⟩; exact ⟨HI.out.op, HI.out.d, ⟨by dsimp only; omega, by dsimp only; omega⟩, HI.out.imm, HI.out.aux, ⟨by dsimp only; omega, by dsimp only; omega⟩, HI.out.size⟩)
    | (refine ⟨⟨0, 0, 0, 0, 0, 0, 1⟩, ⟨⟨by decide, by decide⟩, ⟨by decide, by decide⟩, ⟨by decide, by decide⟩, ⟨by decide, by decide⟩, ⟨by decide, by decide⟩, ⟨by decide, by decide⟩, ⟨by decide, by decide⟩⟩, zh (HM.out.row ⟨0, 0, 0, 0, 0, 0, 1⟩)⟩)
  ·obtain ⟨h0, h1, h2, h3, h4⟩ := hcl
   have n2 : (op == 2) = false := by simp only [beq_eq_false_iff_ne]; omega
   have n3 : (op == 3) = false := by simp only [beq_eq_false_iff_ne]; omega
   have n20 : (op == 20) = false := by simp only [beq_eq_false_iff_ne]; omega
   have n21 : (op == 21) = false := by simp only [beq_eq_false_iff_ne]; omega
   have n128 : (op == 128) = false := by simp only [beq_eq_false_iff_ne]; omega
   have n129 : (op == 129) = false := by simp only [beq_eq_false_iff_ne]; omega
   have n130 : (op == 130) = false := by simp only [beq_eq_false_iff_ne]; omega
   have n131 : (op == 131) = false := by simp only [beq_eq_false_iff_ne]; omega
   have n132 : (op == 132) = false := by simp only [beq_eq_false_iff_ne]; omega
   have n133 : (op == 133) = false := by simp only [beq_eq_false_iff_ne]; omega
   have n134 : (op == 134) = false := by simp only [beq_eq_false_iff_ne]; omega
   have n146 : (op == 146) = false := by simp only [beq_eq_false_iff_ne]; omega
   have n147 : (op == 147) = false := by simp only [beq_eq_false_iff_ne]; omega
   have n150 : (op == 150) = false := by simp only [beq_eq_false_iff_ne]; omega
   have n160 : (op == 160) = false := by simp only [beq_eq_false_iff_ne]; omega
   have n161 : (op == 161) = false := by simp only [beq_eq_false_iff_ne]; omega
   have n162 : (op == 162) = false := by simp only [beq_eq_false_iff_ne]; omega
   have n163 : (op == 163) = false := by simp only [beq_eq_false_iff_ne]; omega
   have g80 : ¬ 80 ≤ op := by omega
   have g84 : ¬ 84 ≤ op := by omega
   have g88 : ¬ 88 ≤ op := by omega
   have g96 : ¬ 96 ≤ op := by omega
   go_wp2_with fail
   go_meet
   exact ⟨_, HI.out, HM⟩
  ·obtain ⟨h0, h1⟩ := hcl
   have n2 : (op == 2) = false := by simp only [beq_eq_false_iff_ne]; omega
   have n3 : (op == 3) = false := by simp only [beq_eq_false_iff_ne]; omega
   have n20 : (op == 20) = false := by simp only [beq_eq_false_iff_ne]; omega
   have n21 : (op == 21) = false := by simp only [beq_eq_false_iff_ne]; omega
   have n128 : (op == 128) = false := by simp only [beq_eq_false_iff_ne]; omega
   have n129 : (op == 129) = false := by simp only [beq_eq_false_iff_ne]; omega
   have n130 : (op == 130) = false := by simp only [beq_eq_false_iff_ne]; omega
   have n131 : (op == 131) = false := by simp only [beq_eq_false_iff_ne]; omega
   have n132 : (op == 132) = false := by simp only [beq_eq_false_iff_ne]; omega
   have n133 : (op == 133) = false := by simp only [beq_eq_false_iff_ne]; omega
   have n134 : (op == 134) = false := by simp only [beq_eq_false_iff_ne]; omega
   have n146 : (op == 146) = false := by simp only [beq_eq_false_iff_ne]; omega
   have n147 : (op == 147) = false := by simp only [beq_eq_false_iff_ne]; omega
   have n150 : (op == 150) = false := by simp only [beq_eq_false_iff_ne]; omega
   have n160 : (op == 160) = false := by simp only [beq_eq_false_iff_ne]; omega
   have n161 : (op == 161) = false := by simp only [beq_eq_false_iff_ne]; omega
   have n162 : (op == 162) = false := by simp only [beq_eq_false_iff_ne]; omega
   have n163 : (op == 163) = false := by simp only [beq_eq_false_iff_ne]; omega
   have g83 : ¬ op ≤ 83 := by omega
   have g87 : ¬ op ≤ 87 := by omega
   have g91 : ¬ op ≤ 91 := by omega
   have p80 : 80 ≤ op := by omega
   have p84 : 84 ≤ op := by omega
   have p88 : 88 ≤ op := by omega
   have g96 : ¬ 96 ≤ op := by omega
   go_wp2_with fail
   go_meet
   exact ⟨_, HI.out, HM⟩
  ·obtain ⟨h0, h1, h2, h3, h4, h5, h6, h7⟩ := hcl
   have n2 : (op == 2) = false := by simp only [beq_eq_false_iff_ne]; omega
   have n3 : (op == 3) = false := by simp only [beq_eq_false_iff_ne]; omega
   have n20 : (op == 20) = false := by simp only [beq_eq_false_iff_ne]; omega
   have n21 : (op == 21) = false := by simp only [beq_eq_false_iff_ne]; omega
   have n128 : (op == 128) = false := by simp only [beq_eq_false_iff_ne]; omega
   have n129 : (op == 129) = false := by simp only [beq_eq_false_iff_ne]; omega
   have n130 : (op == 130) = false := by simp only [beq_eq_false_iff_ne]; omega
   have n131 : (op == 131) = false := by simp only [beq_eq_false_iff_ne]; omega
   have n132 : (op == 132) = false := by simp only [beq_eq_false_iff_ne]; omega
   have n133 : (op == 133) = false := by simp only [beq_eq_false_iff_ne]; omega
   have n134 : (op == 134) = false := by simp only [beq_eq_false_iff_ne]; omega
   have n146 : (op == 146) = false := by simp only [beq_eq_false_iff_ne]; omega
   have n147 : (op == 147) = false := by simp only [beq_eq_false_iff_ne]; omega
   have n150 : (op == 150) = false := by simp only [beq_eq_false_iff_ne]; omega
   have n160 : (op == 160) = false := by simp only [beq_eq_false_iff_ne]; omega
   have n161 : (op == 161) = false := by simp only [beq_eq_false_iff_ne]; omega
   have n162 : (op == 162) = false := by simp only [beq_eq_false_iff_ne]; omega
   have n163 : (op == 163) = false := by simp only [beq_eq_false_iff_ne]; omega
   have g83 : ¬ op ≤ 83 := by omega
   have g87 : ¬ op ≤ 87 := by omega
   have g91 : ¬ op ≤ 91 := by omega
   have p80 : 80 ≤ op := by omega
   have p84 : 84 ≤ op := by omega
   have p88 : 88 ≤ op := by omega
   have p96 : 96 ≤ op := by omega
   have g128 : ¬ op < 128 := by omega
   go_wp2_with fail
   go_meet
   exact ⟨_, HI.out, HM⟩
 case rest =>
  clear HM HI
  obtain ⟨⟨op', d', s', imm', aux', bank', size'⟩, hj, HJ⟩ := hcut
  have HI := zh hj
  clear hj
  have hc := fun o => cell_of_row wc w.heap.size o _ _ _ HJ.out.b0
  have hf := fun o => frozen_of_row wc w.heap.size o _ _ HJ.out.b0
  by_cases h6 : d' = 6
  ·have n6 : (d' == 6) = true := by simp [h6]
   have HX := zh (HJ.out.setD (v := 4)).b0
   have HY := zh (HJ.out.setD (v := 4)).b1
   clear h6
   go_wp2_with (first
    | (refine ldT 53 (HX.out) ?_)
    | (refine stR (HY.out) ?_))
   refine bodyPost_ret (results_cell_row (cs := #[.int .i64 op', .int .i64 4, .int .i64 s', .int .u16 imm', .int .u16 aux', .int .i64 bank', .int .i64 size']) (fr := (0, 0)) Tryz.results116 _ _ (w.heap.size + 1) 53 _ ?_ (setRow_heap _ _ _ _ _ _ HY.out) Tryz.underlying53 rfl (by kernel_rfl)) rfl ?_
   ·rfl
   ·exact ⟨⟨⟨op', 4, s', imm', aux', bank', size'⟩, ⟨HI.out.op, ⟨by dsimp only; decide, by dsimp only; decide⟩, HI.out.s, HI.out.imm, HI.out.aux, HI.out.bank, HI.out.size⟩, rfl⟩, below_setRow (HJ.out.setD (v := 4)).bb (by omega) _⟩
  ·have n6 : (d' == 6) = false := by simp [h6]
   clear h6
   by_cases h5 : d' = 5
   ·have n5 : (d' == 5) = true := by simp [h5]
    have HX := zh (HJ.out.setD (v := 4)).b0
    have HY := zh (HJ.out.setD (v := 4)).b1
    clear h5
    go_wp2_with (first
     | (refine ldT 53 (HX.out) ?_)
     | (refine stR (HY.out) ?_))
    refine bodyPost_ret (results_cell_row (cs := #[.int .i64 op', .int .i64 4, .int .i64 s', .int .u16 imm', .int .u16 aux', .int .i64 bank', .int .i64 size']) (fr := (0, 0)) Tryz.results116 _ _ (w.heap.size + 1) 53 _ ?_ (setRow_heap _ _ _ _ _ _ HY.out) Tryz.underlying53 rfl (by kernel_rfl)) rfl ?_
    ·rfl
    ·exact ⟨⟨⟨op', 4, s', imm', aux', bank', size'⟩, ⟨HI.out.op, ⟨by dsimp only; decide, by dsimp only; decide⟩, HI.out.s, HI.out.imm, HI.out.aux, HI.out.bank, HI.out.size⟩, rfl⟩, below_setRow (HJ.out.setD (v := 4)).bb (by omega) _⟩
   ·have n5 : (d' == 5) = false := by simp [h5]
    have HX := zh HJ.out.b0
    have HY := zh HJ.out.b1
    clear h5
    go_wp2_with (first
     | (refine ldT 53 (HX.out) ?_)
     | (refine stR (HY.out) ?_))
    refine bodyPost_ret (results_cell_row (cs := #[.int .i64 op', .int .i64 d', .int .i64 s', .int .u16 imm', .int .u16 aux', .int .i64 bank', .int .i64 size']) (fr := (0, 0)) Tryz.results116 _ _ (w.heap.size + 1) 53 _ ?_ (setRow_heap _ _ _ _ _ _ HY.out) Tryz.underlying53 rfl (by kernel_rfl)) rfl ?_
    ·rfl
    ·exact ⟨⟨_, HI.out, rfl⟩, below_setRow HJ.out.bb (by omega) _⟩
end Go.Proofs.YteofmaiojepdkaaGreat
