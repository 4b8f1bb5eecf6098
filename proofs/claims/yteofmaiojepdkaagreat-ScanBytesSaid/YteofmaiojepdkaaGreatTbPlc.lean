/- Valid of the reference implementation, walked: formats 1, 2, 3, 4, 5. -/
import Derived.Test.YteofmaiojepdkaaGreatTbRefD
set_option linter.all false
namespace Go.Proofs.YteofmaiojepdkaaGreat
open Go.RowKit
structure zb where
 bank : Int
 addr : Int
def tgt (i : Ins) (p : zb) : Int := (p.addr + i.size + i.imm) % 65536
theorem tgt_lo (i : Ins) (p : zb) : 0 ≤ tgt i p := by unfold tgt; omega
theorem tgt_hi (i : Ins) (p : zb) : tgt i p < 65536 := by unfold tgt; omega
theorem tgt_eq (i : Ins) (p : zb) : IntKind.u16.wrap (IntKind.u16.wrap (p.addr + i.size) + i.imm) = tgt i p := by
 unfold tgt IntKind.wrap; simp [IntKind.bits, IntKind.signed]
theorem rsizeTab_bd : ∀ n : Nat, n < 19 → 0 ≤ y4.getD n 0 ∧ y4.getD n 0 ≤ 7 := by decide +kernel
theorem rsizeS_bd (op : Int) : 0 ≤ zc op ∧ zc op ≤ 7 := by
 have h := fmtS_bd op
 exact rsizeTab_bd _ (by omega)
theorem valid_size {i : Ins} (hi : i.Ok) (h : zy i = true) : i.size = zc i.op := by
 rw [y3 i hi] at h
 unfold zu at h
 simp only [Bool.and_eq_true, beq_iff_eq] at h
 exact h.1.2
theorem xV {i : Ins} (hi : i.Ok) (h : zy i = true) : 0 ≤ i.size ∧ i.size ≤ 7 := by
 rw [valid_size hi h]; exact rsizeS_bd _
def x4 (a : Int) : Bool := decide (4096 ≤ a) && decide (a < 8192)
def relS (op : Int) : Bool := (decide (96 ≤ op) && decide (op ≤ 130)) || (op == 133)
def farS (op : Int) : Bool := (op == 131) || (op == 132)
def stopS (op : Int) : Bool := (op == 1) || (op == 2) || (op == 3) || (op == 128) || (op == 129) || (op == 131) || (op == 133) || (op == 134)
def xZ (i : Ins) : Bool := !stopS i.op && zy i
def zU (i : Ins) (p : zb) : zb × Bool :=
 if zy i then
  if relS i.op then
   if x4 (tgt i p) then (if x4 p.addr then (⟨p.bank, tgt i p⟩, true) else (⟨0, 0⟩, false)) else (⟨0, tgt i p⟩, true)
  else if farS i.op then (if x4 i.imm then (⟨i.bank, i.imm⟩, true) else (⟨0, i.imm⟩, true))
  else (⟨0, 0⟩, false)
 else (⟨0, 0⟩, false)
structure THeld (i : Ins) (p : zb) (w W : World) : Prop where
 ci : ∀ o : Nat, W.cell? ⟨w.heap.size, o, none⟩ = (#[Value.int .i64 i.op, .int .i64 i.d, .int .i64 i.s, .int .u16 i.imm, .int .u16 i.aux, .int .i64 i.bank, .int .i64 i.size] : Array Value)[o]?
 cp : ∀ o : Nat, W.cell? ⟨w.heap.size + 1, o, none⟩ = (#[Value.int .i64 p.bank, .int .u16 p.addr] : Array Value)[o]?
 b0 : W.heap[w.heap.size]? = some (.cells #[.int .i64 i.op, .int .i64 i.d, .int .i64 i.s, .int .u16 i.imm, .int .u16 i.aux, .int .i64 i.bank, .int .i64 i.size] 53 (0, 0))
 bp : W.heap[w.heap.size + 1]? = some (.cells #[.int .i64 p.bank, .int .u16 p.addr] 47 (0, 0))
 br : W.heap[w.heap.size + 2]? = some (.cells #[.int .i64 0, .int .u16 0] 47 (0, 0))
 z : w.heap.size + 3 ≤ W.heap.size
 bb : Below w.heap.size w W
theorem THeld.stay {i p w W W'} (h : THeld i p w W) (hb : Below W.heap.size W W') : THeld i p w W' :=
 ⟨fun o => (hb.cell (by have := h.z; show w.heap.size < _; omega)).trans (h.ci o), fun o => (hb.cell (by have := h.z; show w.heap.size + 1 < _; omega)).trans (h.cp o),
  (hb.block _ (by have := h.z; omega)).trans h.b0, (hb.block _ (by have := h.z; omega)).trans h.bp, (hb.block _ (by have := h.z; omega)).trans h.br, Nat.le_trans h.z hb.size, h.bb.trans (hb.mono (by have := h.z; omega))⟩
theorem THeld.first (i : Ins) (p : zb) (w : World) : THeld i p w (((w.alloc (.cells #[.int .i64 i.op, .int .i64 i.d, .int .i64 i.s, .int .u16 i.imm, .int .u16 i.aux, .int .i64 i.bank, .int .i64 i.size] 53)).alloc (.cells #[.int .i64 p.bank, .int .u16 p.addr] 47)).alloc (.cells #[.int .i64 0, .int .u16 0] 47)) := by
 have h0 : (((w.alloc (.cells #[.int .i64 i.op, .int .i64 i.d, .int .i64 i.s, .int .u16 i.imm, .int .u16 i.aux, .int .i64 i.bank, .int .i64 i.size] 53)).alloc (.cells #[.int .i64 p.bank, .int .u16 p.addr] 47)).alloc (.cells #[.int .i64 0, .int .u16 0] 47)).heap[w.heap.size]? = some (.cells #[.int .i64 i.op, .int .i64 i.d, .int .i64 i.s, .int .u16 i.imm, .int .u16 i.aux, .int .i64 i.bank, .int .i64 i.size] 53 (0, 0)) :=
  (heap_alloc_old _ _ (by simp <;> omega)).trans (heap_alloc2_old _ _ _)
 have h1 : (((w.alloc (.cells #[.int .i64 i.op, .int .i64 i.d, .int .i64 i.s, .int .u16 i.imm, .int .u16 i.aux, .int .i64 i.bank, .int .i64 i.size] 53)).alloc (.cells #[.int .i64 p.bank, .int .u16 p.addr] 47)).alloc (.cells #[.int .i64 0, .int .u16 0] 47)).heap[w.heap.size + 1]? = some (.cells #[.int .i64 p.bank, .int .u16 p.addr] 47 (0, 0)) :=
  (heap_alloc_old _ _ (by simp <;> omega)).trans (heap_alloc2_new _ _ _)
 refine ⟨fun o => cell_of_row _ _ _ _ _ _ h0, fun o => cell_of_row _ _ _ _ _ _ h1, h0, h1, ?_, by simp <;> omega, (((Below.refl _ _).alloc (zn _) _).alloc (by simp) _).alloc (by simp <;> omega) _⟩
 have := heap_alloc_new ((w.alloc (.cells #[.int .i64 i.op, .int .i64 i.d, .int .i64 i.s, .int .u16 i.imm, .int .u16 i.aux, .int .i64 i.bank, .int .i64 i.size] 53)).alloc (.cells #[.int .i64 p.bank, .int .u16 p.addr] 47)) (.cells #[.int .i64 0, .int .u16 0] 47)
 simpa using this
end Go.Proofs.YteofmaiojepdkaaGreat
namespace Go.Proofs.YteofmaiojepdkaaGreat
open Go.RowKit
set_option maxRecDepth 100000 in
set_option maxHeartbeats 20000000 in
theorem rvalid_g0 (i : Ins) (hf : zq i.op = 1 ∨ zq i.op = 2 ∨ zq i.op = 3 ∨ zq i.op = 4 ∨ zq i.op = 5) (w : World) :
  Calls Tryz.prog 60 #[.agg #[.int .i64 (i).op, .int .i64 (i).d, .int .i64 (i).s, .int .u16 (i).imm, .int .u16 (i).aux, .int .i64 (i).bank, .int .i64 (i).size]] w fun e w' => e = .returned (.bool (zu i)) ∧ Below w.heap.size w w' := by
 rcases hf with hf | hf | hf | hf | hf
 all_goals
  obtain ⟨o0, o1⟩ := op_of_fmt (op := i.op) (by rw [hf]; decide)
  have HF := zh hf
  clear hf
  go_enter Tryz.func60, Tryz.ntmps60
  go_wp2_with (first
   | (go_at_call 59; refine (xo _ _).mono ?_; rintro e w1 ⟨rfl, hb1⟩; rw [HF.out]; have hz1 := hb1.size; simp at hz1))
  have hc1 : ∀ o, w1.cell? ⟨w.heap.size, o, none⟩ = (ze i)[o]? := fun o => cell_of_row w1 w.heap.size o _ _ _ ((hb1.block w.heap.size (by simp)).trans (heap_alloc_new w _))
  unfold ze vi vw at hc1
  have hwu : IntKind.u8.wrap i.op = i.op := IntWalk.u8_in _ (by omega)
  refine wp_region_noPanic ?_
  refine wp_region_held_drew (S := fun w' => ∀ o, w'.cell? ⟨w.heap.size, o, none⟩ = (#[Value.int .i64 i.op, .int .i64 i.d, .int .i64 i.s, .int .u16 i.imm, .int .u16 i.aux, .int .i64 i.bank, .int .i64 i.size] : Array Value)[o]?) (by kernel_rfl) hc1 (fun hHeld => ?_)
  (refine tke 0 ?_)
  (refine tke 1 ?_)
  (refine tke 2 ?_)
  (refine tke 3 ?_)
  (refine tke 4 ?_)
  (refine tke 5 ?_)
  (refine tke 6 ?_)
  (refine tke 7 ?_)
  (refine wpAnyH_ready (rs := [8]) (by kernel_rfl) (by simp) (AllReadyH.cons (o := _) rfl (fun K hK => ?_) AllReadyH.nil))
  rw [if_pos (by rfl)]
  go_simp
  refine (yH i.op o0 (by omega) _).mono ?_
  rintro e w2 ⟨rfl, hb2⟩
  have hc2 : ∀ o, w2.cell? ⟨w.heap.size, o, none⟩ = (#[Value.int .i64 i.op, .int .i64 i.d, .int .i64 i.s, .int .u16 i.imm, .int .u16 i.aux, .int .i64 i.bank, .int .i64 i.size] : Array Value)[o]? := fun o => (hb2.cell (by show w.heap.size < w1.heap.size; omega)).trans (hHeld o)
  refine hK.out _ _ hc2 (fun hHeld => ?_)
  (refine pts ?_)
  clear hc1
  have hbb : Below w.heap.size w w2 := ((((Below.refl _ _).alloc (zn _) _).trans (hb1.mono (by simp))).drew).trans (hb2.mono (by show _ ≤ w1.heap.size; omega))
  by_cases hsz : i.size = zc i.op
  ·have hsb : (i.size == zc i.op) = true := by simpa using hsz
   have hsn : (i.size != zc i.op) = false := by simpa using hsz
   have e0 : zu i = zS (zq i.op) i := by unfold zu; rw [HF.out, hsb]; rfl
   have E0 := zh e0
   clear e0 hsz
   (refine tke 9 ?_)
   (refine tke 10 ?_)
   refine wpAnyH_done (by kernel_rfl) ?_ _
   refine NoPanic.normal ?_
   go_wp2_with (first
    | (go_at_call 85; refine (rreg_any _ _).mono ?_; rintro e ww ⟨rfl, rfl⟩)
    | (go_at_call 86; refine (signed_any _ _).mono ?_; rintro e ww ⟨rfl, rfl⟩))
   all_goals
    go_ret
    refine ⟨?_, hbb⟩
    rw [E0.out, HF.out]
    show Ending.returned (Value.bool _) = _
    congr 2
    unfold zS
    first | (simp_all; done) | (simp_all; omega)
  ·have hsb : (i.size == zc i.op) = false := by simpa using hsz
   have hsn : (i.size != zc i.op) = true := by simpa using hsz
   have e0 : zu i = false := by unfold zu; rw [hsb]; simp
   have E0 := zh e0
   clear e0 hsz
   (refine tke 9 ?_)
   (refine tke 10 ?_)
   refine wpAnyH_done (by kernel_rfl) ?_ _
   refine NoPanic.normal ?_
   go_wp2
   go_ret
   exact ⟨by rw [E0.out]; rfl, hbb⟩
end Go.Proofs.YteofmaiojepdkaaGreat
