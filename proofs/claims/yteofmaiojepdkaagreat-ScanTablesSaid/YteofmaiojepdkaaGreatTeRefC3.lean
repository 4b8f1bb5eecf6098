/- Decode of package isa: walked. No condition beyond what each states. -/
import Derived.Test.YteofmaiojepdkaaGreatTePlc
import Derived.Test.YteofmaiojepdkaaGreatTeRefC1
import Derived.Test.YteofmaiojepdkaaGreatTeRefC2
import Derived.Deep.AppendLies
set_option linter.all false
namespace Go.Proofs.YteofmaiojepdkaaGreat
open Go.RowKit
set_option maxRecDepth 100000 in
set_option maxHeartbeats 20000000 in
theorem rvalid_g3 (i : Ins) (hf : ze i.op = 15 ∨ ze i.op = 16 ∨ ze i.op = 17 ∨ ze i.op = 18) (w : World) :
  Calls Tryz.prog 60 #[.agg #[.int .i64 (i).op, .int .i64 (i).d, .int .i64 (i).s, .int .u16 (i).imm, .int .u16 (i).aux, .int .i64 (i).bank, .int .i64 (i).size]] w fun e w' => e = .returned (.bool (zq i)) ∧ Below w.heap.size w w' := by
 rcases hf with hf | hf | hf | hf
 all_goals
  obtain ⟨o0, o1⟩ := op_of_fmt (op := i.op) (by rw [hf]; decide)
  have HF := zh hf
  clear hf
  go_enter Tryz.func60, Tryz.ntmps60
  go_wp2_with (first
   | (go_at_call 59; refine (yi _ _).mono ?_; rintro e w1 ⟨rfl, hb1⟩; rw [HF.out]; have hz1 := hb1.size; simp at hz1))
  have hc1 : ∀ o, w1.cell? ⟨w.heap.size, o, none⟩ = (zd i)[o]? := fun o => cell_of_row w1 w.heap.size o _ _ _ ((hb1.block w.heap.size (by simp)).trans (heap_alloc_new w _))
  unfold zd vi vw at hc1
  have hwu : IntKind.u8.wrap i.op = i.op := IntWalk.u8_in _ (by omega)
  refine wp_region_noPanic ?_
  refine wp_region_held_drew (S := fun w' => ∀ o, w'.cell? ⟨w.heap.size, o, none⟩ = (#[Value.int .i64 i.op, .int .i64 i.d, .int .i64 i.s, .int .u16 i.imm, .int .u16 i.aux, .int .i64 i.bank, .int .i64 i.size] : Array Value)[o]?) (by kernel_rfl) hc1 (fun hHeld => ?_)
  (refine tke 0 ?_)
  (refine tke 1 ?_)
  (refine tke 2 ?_)
  (refine tke 3 ?_)
  (refine tke 4 ?_)
  (refine tke 5 ?_)
  (refine tke 6 ?_)
  (refine tke 7 ?_)
  (refine wpAnyH_ready (rs := [8]) (by kernel_rfl) (by simp) (AllReadyH.cons (o := _) rfl (fun K hK => ?_) AllReadyH.nil))
  rw [if_pos (by rfl)]
  go_simp
  refine (yf i.op o0 (by omega) _).mono ?_
  rintro e w2 ⟨rfl, hb2⟩
  have hc2 : ∀ o, w2.cell? ⟨w.heap.size, o, none⟩ = (#[Value.int .i64 i.op, .int .i64 i.d, .int .i64 i.s, .int .u16 i.imm, .int .u16 i.aux, .int .i64 i.bank, .int .i64 i.size] : Array Value)[o]? := fun o => (hb2.cell (by show w.heap.size < w1.heap.size; omega)).trans (hHeld o)
  refine hK.out _ _ hc2 (fun hHeld => ?_)
  (refine pts ?_)
  clear hc1
  have hbb : Below w.heap.size w w2 := ((((Below.refl _ _).alloc (zn _) _).trans (hb1.mono (by simp))).drew).trans (hb2.mono (by show _ ≤ w1.heap.size; omega))
  by_cases hsz : i.size = zc i.op
  ·have hsb : (i.size == zc i.op) = true := by simpa using hsz
   have hsn : (i.size != zc i.op) = false := by simpa using hsz
   have e0 : zq i = zP (ze i.op) i := by unfold zq; rw [HF.out, hsb]; rfl
   have E0 := zh e0
   clear e0 hsz
   (refine tke 9 ?_)
   (refine tke 10 ?_)
   refine wpAnyH_done (by kernel_rfl) ?_ _
   refine NoPanic.normal ?_
   go_wp2_with (first
    | (go_at_call 85; refine (rreg_any _ _).mono ?_; rintro e ww ⟨rfl, rfl⟩)
    | (go_at_call 86; refine (signed_any _ _).mono ?_; rintro e ww ⟨rfl, rfl⟩))
   all_goals
    go_ret
    refine ⟨?_, hbb⟩
    rw [E0.out, HF.out]
    show Ending.returned (Value.bool _) = _
    congr 2
    unfold zP
    first | (simp_all; done) | (simp_all; omega)
  ·have hsb : (i.size == zc i.op) = false := by simpa using hsz
   have hsn : (i.size != zc i.op) = true := by simpa using hsz
   have e0 : zq i = false := by unfold zq; rw [hsb]; simp
   have E0 := zh e0
   clear e0 hsz
   (refine tke 9 ?_)
   (refine tke 10 ?_)
   refine wpAnyH_done (by kernel_rfl) ?_ _
   refine NoPanic.normal ?_
   go_wp2
   go_ret
   exact ⟨by rw [E0.out]; rfl, hbb⟩
end Go.Proofs.YteofmaiojepdkaaGreat
namespace Go.Proofs.YteofmaiojepdkaaGreat
open Go.RowKit
set_option maxRecDepth 100000 in
set_option maxHeartbeats 1000000 in
theorem rvalid_0 (i : Ins) (hf : ze i.op = 0) (w : World) :
  Calls Tryz.prog 60 #[.agg #[.int .i64 (i).op, .int .i64 (i).d, .int .i64 (i).s, .int .u16 (i).imm, .int .u16 (i).aux, .int .i64 (i).bank, .int .i64 (i).size]] w fun e w' => e = .returned (.bool (zq i)) ∧ Below w.heap.size w w' := by
 have e0 : zq i = false := by unfold zq; rw [hf]; rfl
 have HF := zh hf
 rw [e0]
 clear hf e0
 go_enter Tryz.func60, Tryz.ntmps60
 go_wp2_with (first
  | (go_at_call 59; refine (yi _ _).mono ?_; rintro e w1 ⟨rfl, hb1⟩; rw [HF.out]; have hz1 := hb1.size; simp at hz1))
 go_quiet (fail)
 go_wp2
 go_ret
 exact ⟨rfl, (((Below.refl _ _).alloc (zn _) _).trans (hb1.mono (by simp))).trans ⟨rfl, rfl, rfl, zn _, fun _ _ => rfl⟩⟩
theorem jf (i : Ins) (w : World) :
  Calls Tryz.prog 60 #[.agg #[.int .i64 (i).op, .int .i64 (i).d, .int .i64 (i).s, .int .u16 (i).imm, .int .u16 (i).aux, .int .i64 (i).bank, .int .i64 (i).size]] w fun e w' => e = .returned (.bool (zq i)) ∧ Below w.heap.size w w' := by
 have := fmtS_bd i.op
 by_cases h0 : ze i.op = 0
 ·exact rvalid_0 i h0 w
 rcases (show (ze i.op = 1 ∨ ze i.op = 2 ∨ ze i.op = 3 ∨ ze i.op = 4 ∨ ze i.op = 5) ∨ (ze i.op = 6 ∨ ze i.op = 7 ∨ ze i.op = 8 ∨ ze i.op = 9 ∨ ze i.op = 10) ∨ (ze i.op = 11 ∨ ze i.op = 12 ∨ ze i.op = 13 ∨ ze i.op = 14) ∨ (ze i.op = 15 ∨ ze i.op = 16 ∨ ze i.op = 17 ∨ ze i.op = 18) by omega) with h | h | h | h
 ·exact rvalid_g0 i h w
 ·exact rvalid_g1 i h w
 ·exact rvalid_g2 i h w
 ·exact rvalid_g3 i h w
end Go.Proofs.YteofmaiojepdkaaGreat
namespace Go.Proofs.YteofmaiojepdkaaGreat
open Go.RowKit
def zL (f : Int) (i : Ins) : List Int :=
 if f = 2 then [i.d]
 else if f = 3 ∨ f = 10 then [i.imm % 256]
 else if f = 4 then [16 * i.d + i.s]
 else if f = 5 ∨ f = 15 ∨ f = 18 then [i.d, i.imm % 256]
 else if f = 6 ∨ f = 9 ∨ f = 14 then [i.d, i.imm % 256, i.imm / 256]
 else if f = 7 then [16 * i.d + i.s, i.imm % 256]
 else if f = 8 then [16 * i.d + i.s, i.imm % 256, i.imm / 256]
 else if f = 11 then [i.imm % 256, i.imm / 256]
 else if f = 12 then [i.bank, i.imm % 256, i.imm / 256]
 else if f = 13 then [i.d, i.bank, i.imm % 256, i.imm / 256, i.aux % 256, i.aux / 256]
 else if f = 16 then [16 * i.d + i.s, i.bank, i.imm % 256, i.imm / 256]
 else if f = 17 then [i.s, i.imm % 256, i.imm / 256, i.aux % 256, i.aux / 256]
 else []
def fldTab (f : Int) : List Int :=
 if f = 2 then [2, 0, 0, 0] else if f = 3 then [4, 0, 0, 0] else if f = 4 then [1, 0, 0, 0] else if f = 5 then [2, 5, 0, 0] else if f = 6 then [2, 6, 0, 0]
 else if f = 7 then [1, 5, 0, 0] else if f = 8 then [1, 6, 0, 0] else if f = 9 then [2, 6, 0, 0] else if f = 10 then [5, 0, 0, 0] else if f = 11 then [6, 0, 0, 0]
 else if f = 12 then [8, 6, 0, 0] else if f = 13 then [2, 9, 6, 7] else if f = 14 then [2, 6, 0, 0] else if f = 15 then [2, 4, 0, 0] else if f = 16 then [1, 8, 6, 0]
 else if f = 17 then [3, 6, 7, 0] else if f = 18 then [2, 5, 0, 0] else [0, 0, 0, 0]
theorem fld_tab : ∀ n : Nat, n < 164 → ze n ≠ 0 → [fld n 0, fld n 1, fld n 2, fld n 3] = fldTab (ze n) ∧ zr n = zc n ∧ (fOf n).isSome = true := by decide +kernel
theorem fld_none0 : ∀ n : Nat, n < 164 → ze n = 0 → fOf n = none ∧ zr n = 0 ∧ zc n = 0 := by decide +kernel
theorem fOf_out {op : Int} (h : ¬ (0 ≤ op ∧ op ≤ 163)) : fOf op = none := by
 cases hk : fOf op with
 | none => rfl
 | some k => have := xL hk; omega
theorem fOf_zero {op : Int} (h : ze op = 0) : fOf op = none := by
 by_cases h0 : 0 ≤ op ∧ op ≤ 163
 ·obtain ⟨n, hn⟩ : ∃ n : Nat, op = n := ⟨op.toNat, by omega⟩
  subst hn
  exact (fld_none0 n (by omega) h).1
 ·exact fOf_out h0
theorem fOf_some {op : Int} (h : ze op ≠ 0) : (fOf op).isSome = true ∧ zr op = zc op ∧ [fld op 0, fld op 1, fld op 2, fld op 3] = fldTab (ze op) := by
 have h0 := op_of_fmt h
 obtain ⟨n, hn⟩ : ∃ n : Nat, op = n := ⟨op.toNat, by omega⟩
 subst hn
 obtain ⟨a, b, c⟩ := fld_tab n (by omega) h
 exact ⟨c, b, a⟩
theorem fldF_tab {op : Int} (h : ze op ≠ 0) : zY op = fF ((fldTab (ze op)).getD 0 0) ((fldTab (ze op)).getD 1 0) ((fldTab (ze op)).getD 2 0) ((fldTab (ze op)).getD 3 0) := by
 rw [← (fOf_some h).2.2]; rfl
theorem size_eq (op : Int) : zr op = zc op := by
 by_cases h : ze op = 0
 ·have e := fOf_zero h
  unfold zr zc; rw [e, h]; rfl
 ·exact (fOf_some h).2.1
theorem fmt18' (op : Int) (h : ze op ≠ 0) : ze op = 1 ∨ ze op = 2 ∨ ze op = 3 ∨ ze op = 4 ∨ ze op = 5 ∨ ze op = 6 ∨ ze op = 7 ∨ ze op = 8 ∨ ze op = 9 ∨ ze op = 10 ∨ ze op = 11 ∨ ze op = 12 ∨ ze op = 13 ∨ ze op = 14 ∨ ze op = 15 ∨ ze op = 16 ∨ ze op = 17 ∨ ze op = 18 := by
 have := fmtS_bd op; omega
theorem bytes_tail (i : Ins) (h : ze i.op ≠ 0) : zt i (zY i.op) 4 = i.op :: zL (ze i.op) i := by
 rw [fldF_tab h]
 rcases fmt18' _ h with e | e | e | e | e | e | e | e | e | e | e | e | e | e | e | e | e | e <;> (rw [e]; simp [zt, yu, fF, fldTab, zL])
theorem yS (i : Ins) (hi : i.Ok) (hv : zw i = true) : ze i.op ≠ 0 ∧ (0 ≤ i.op ∧ i.op ≤ 163) ∧ (0 ≤ i.d ∧ i.d < 8) ∧ (0 ≤ i.s ∧ i.s < 8) ∧ (0 ≤ i.bank ∧ i.bank < 256) ∧ i.size = zc i.op := by
 rw [valid_eq i hi] at hv
 unfold zq at hv
 simp only [Bool.and_eq_true, Bool.not_eq_true', beq_eq_false_iff_ne, beq_iff_eq] at hv
 obtain ⟨⟨h1, h2⟩, h3⟩ := hv
 refine ⟨h1, op_of_fmt h1, ?_⟩
 rw [and_comm, and_comm (a := 0 ≤ i.s ∧ i.s < 8), and_assoc] at *
 rcases fmt18' _ h1 with e | e | e | e | e | e | e | e | e | e | e | e | e | e | e | e | e | e <;> (rw [e] at h3; simp [zP, zS] at h3; omega)
theorem xk (W : World) (o : Obj) {b : Nat} (h : W.heap.size = b) : (W.alloc o).heap[b]? = some o := by
 subst h; exact heap_alloc_new _ _
set_option maxHeartbeats 400000 in
theorem two_any (n : Int) (h0 : 0 ≤ n) (h1 : n < 65536) (w : World) :
  Calls Tryz.prog 61 #[.int .u16 n] w fun e w' => e = .returned (.slice (some ⟨w.heap.size, 0, none⟩) 2 2) ∧ w.alloc (.cells #[.int .u8 (n % 256), .int .u8 (n / 256)] 5) = w' := by
 have hw : IntKind.u8.wrap n = n % 256 := rfl
 have hw2 : IntKind.u8.wrap (n / 256) = n / 256 := IntWalk.u8_in _ (by omega)
 go_enter Tryz.func61, Tryz.ntmps61
 go_wp2
 go_ret
 exact ⟨rfl, rfl⟩
structure EHeld (i : Ins) (b : Nat) (w0 w : World) : Prop where
 ci : ∀ o : Nat, w.cell? ⟨w0.heap.size, o, none⟩ = (#[Value.int .i64 i.op, .int .i64 i.d, .int .i64 i.s, .int .u16 i.imm, .int .u16 i.aux, .int .i64 i.bank, .int .i64 i.size] : Array Value)[o]?
 c9 : ∀ o : Nat, w.cell? ⟨b + 1, o, none⟩ = (#[Value.int .u8 (i.imm % 256), .int .u8 (i.imm / 256)] : Array Value)[o]?
 c10 : ∀ o : Nat, w.cell? ⟨b + 2, o, none⟩ = (#[Value.int .u8 (i.aux % 256), .int .u8 (i.aux / 256)] : Array Value)[o]?
 own : w.ownsRow b 5 1 (.slice (some ⟨b, 0, none⟩) 1 1) 1 [vb i.op]
 hb : Below w0.heap.size w0 w
 lt : w0.heap.size < b
 gt : b + 2 < w.heap.size
theorem EHeld.stay {i b w0 w w1} (h : EHeld i b w0 w) (hb : Below w.heap.size w w1) : EHeld i b w0 w1 :=
 ⟨fun o => (hb.cell (by have := h.gt; have := h.lt; show w0.heap.size < _; omega)).trans (h.ci o), fun o => (hb.cell (by have := h.gt; show b + 1 < _; omega)).trans (h.c9 o), fun o => (hb.cell (by have := h.gt; show b + 2 < _; omega)).trans (h.c10 o),
  xO h.own hb, h.hb.trans (hb.mono h.hb.size), h.lt, Nat.lt_of_lt_of_le h.gt hb.size⟩
theorem EHeld.drew {i b w0 w} (h : EHeld i b w0 w) : EHeld i b w0 w.drew := ⟨h.ci, h.c9, h.c10, xO h.own ((Below.refl _ _).drew), h.hb.drew, h.lt, h.gt⟩
theorem EHeld.alloc {i b w0 w} (h : EHeld i b w0 w) (o : Obj) : EHeld i b w0 (w.alloc o) := h.stay ((Below.refl _ _).alloc (zn _) _)
structure EEnd (i : Ins) (b : Nat) (v : Value) (w0 w : World) : Prop where
 own : w.ownsRow b 5 1 v (1 + (zL (ze i.op) i).length) (bv (i.op :: zL (ze i.op) i))
 hb : Below w0.heap.size w0 w
theorem EHeld.end {i b w0 w w1 v} (h : EHeld i b w0 w) (hg : w.grownBy w1 (some b)) (l : List Int) (hl : zL (ze i.op) i = l) (own : w1.ownsRow b 5 1 v (1 + l.length) (bv (i.op :: l))) : EEnd i b v w0 w1 := by
 refine ⟨by rw [hl]; exact own, h.hb.grown hg h.hb.size (fun k hk => ?_)⟩
 cases hk
 exact Nat.le_of_lt h.lt
set_option maxRecDepth 100000 in
set_option maxHeartbeats 1000000 in
theorem rencode_none (i : Ins) (hf : ze i.op = 0) (w : World) :
  Calls Tryz.prog 28 #[.agg #[.int .i64 (i).op, .int .i64 (i).d, .int .i64 (i).s, .int .u16 (i).imm, .int .u16 (i).aux, .int .i64 (i).bank, .int .i64 (i).size]] w fun e w' => e = .returned (.tuple #[.string (xu []), .int .i64 11]) ∧ Below w.heap.size w w' := by
 have HF := zh hf
 clear hf
 go_enter Tryz.func28, Tryz.ntmps28
 go_wp2_with (first | (go_at_call 59; refine (yi _ _).mono ?_; rintro e w1 ⟨rfl, hb1⟩; rw [HF.out]))
 go_ret2
 exact ⟨rfl, (((Below.refl _ _).alloc (zn _) _).trans (hb1.mono (by simp)))⟩
set_option maxRecDepth 100000 in
set_option maxHeartbeats 1000000 in
theorem rencode_bad (i : Ins) (hf : ze i.op ≠ 0) (hv : zq i = false) (w : World) :
  Calls Tryz.prog 28 #[.agg #[.int .i64 (i).op, .int .i64 (i).d, .int .i64 (i).s, .int .u16 (i).imm, .int .u16 (i).aux, .int .i64 (i).bank, .int .i64 (i).size]] w fun e w' => e = .returned (.tuple #[.string (xu []), .int .i64 3]) ∧ Below w.heap.size w w' := by
 have hne : (ze i.op == 0) = false := by simpa using hf
 have HV := zh hv
 clear hf hv
 go_enter Tryz.func28, Tryz.ntmps28
 go_wp2_with (first
  | (go_at_call 59; refine (yi _ _).mono ?_; rintro e w1 ⟨rfl, hb1⟩; have hz1 := hb1.size; simp at hz1; have HB1 := zh ((hb1.block w.heap.size (by simp)).trans (heap_alloc_new w _)))
  | (go_at_call 60; refine (jf i _).mono ?_; rintro e w2 ⟨rfl, hb2⟩; rw [HV.out])
  | (refine wpList_load_row rfl _ (.tmp 1) rfl _ rfl _ _ _ _ HB1.out Tryz.underlying53 rfl ?_ ?_; kernel_rfl))
 go_ret2
 exact ⟨rfl, (((Below.refl _ _).alloc (zn _) _).trans ((hb1.mono (by simp)).trans (hb2.mono (by omega))))⟩
end Go.Proofs.YteofmaiojepdkaaGreat
namespace Go.Proofs.YteofmaiojepdkaaGreat
open Go.RowKit
def rdF (f : Int) (b : Nat → Int) (op sz : Int) : Ins :=
 if f = 2 then ⟨op, b 1, 0, 0, 0, 0, sz⟩
 else if f = 3 then ⟨op, 0, 0, b 1, 0, 0, sz⟩
 else if f = 4 then ⟨op, b 1 / 16, b 1 % 16, 0, 0, 0, sz⟩
 else if f = 5 ∨ f = 18 then ⟨op, b 1, 0, zj (b 2), 0, 0, sz⟩
 else if f = 6 ∨ f = 9 ∨ f = 14 then ⟨op, b 1, 0, b 2 + 256 * b 3, 0, 0, sz⟩
 else if f = 7 then ⟨op, b 1 / 16, b 1 % 16, zj (b 2), 0, 0, sz⟩
 else if f = 8 then ⟨op, b 1 / 16, b 1 % 16, b 2 + 256 * b 3, 0, 0, sz⟩
 else if f = 10 then ⟨op, 0, 0, zj (b 1), 0, 0, sz⟩
 else if f = 11 then ⟨op, 0, 0, b 1 + 256 * b 2, 0, 0, sz⟩
 else if f = 12 then ⟨op, 0, 0, b 2 + 256 * b 3, 0, b 1, sz⟩
 else if f = 13 then ⟨op, b 1, 0, b 3 + 256 * b 4, b 5 + 256 * b 6, b 2, sz⟩
 else if f = 15 then ⟨op, b 1, 0, b 2, 0, 0, sz⟩
 else if f = 16 then ⟨op, b 1 / 16, b 1 % 16, b 3 + 256 * b 4, 0, b 2, sz⟩
 else if f = 17 then ⟨op, 0, b 1, b 2 + 256 * b 3, b 4 + 256 * b 5, 0, sz⟩
 else ⟨op, 0, 0, 0, 0, 0, sz⟩
theorem ite_op {c : Prop} [Decidable c] {x y : Ins} {n : Int} (hx : x.op = n) (hy : y.op = n) : (if c then x else y).op = n := by
 by_cases h : c
 ·rw [if_pos h]; exact hx
 ·rw [if_neg h]; exact hy
theorem rdF_op (f : Int) (b : Nat → Int) (op sz : Int) : (rdF f b op sz).op = op := by
 unfold rdF
 repeat (first | rfl | refine ite_op rfl ?_)
theorem readB_eq (s : ByteArray) (h : ze (byt s 0) ≠ 0) : yG s = rdF (ze (byt s 0)) (byt s) (byt s 0) (zc (byt s 0)) := by
 unfold yG
 rw [fldF_tab h]
 rcases fmt18' _ h with e | e | e | e | e | e | e | e | e | e | e | e | e | e | e | e | e | e <;> (rw [e]; simp [xq, z7, fF, fldTab, rdF, yZ, size_eq])
theorem rsize_fmt (op : Int) : zc op = yL.getD (ze op).toNat 0 := rfl
theorem refTail_len (f : Int) (i : Ins) (hf : 1 ≤ f ∧ f ≤ 18) : ((i.op :: zL f i).length : Int) = yL.getD f.toNat 0 := by
 have h18 : f = 1 ∨ f = 2 ∨ f = 3 ∨ f = 4 ∨ f = 5 ∨ f = 6 ∨ f = 7 ∨ f = 8 ∨ f = 9 ∨ f = 10 ∨ f = 11 ∨ f = 12 ∨ f = 13 ∨ f = 14 ∨ f = 15 ∨ f = 16 ∨ f = 17 ∨ f = 18 := by omega
 rcases h18 with e | e | e | e | e | e | e | e | e | e | e | e | e | e | e | e | e | e <;> (subst e; simp [zL, yL])
theorem fmt_rng {op : Int} (h : ze op ≠ 0) : 1 ≤ ze op ∧ ze op ≤ 18 := by have := fmtS_bd op; omega
theorem enc_valid (i : Ins) (hi : i.Ok) (hv : zw i = true) : encB i = i.op :: zL (ze i.op) i ∧ encE i = 0 ∧ ((encB i).length : Int) = i.size := by
 obtain ⟨h0, h1, -, -, -, hz⟩ := yS i hi hv
 have hs := (fOf_some h0).1
 have e1 : encB i = i.op :: zL (ze i.op) i := by unfold encB; rw [hs, hv]; exact bytes_tail i h0
 refine ⟨e1, by unfold encE; rw [hs, hv]; rfl, ?_⟩
 rw [e1, refTail_len _ i (fmt_rng h0), hz]; rfl
theorem byt_append (s more : ByteArray) (k : Nat) (h : k < s.size) : byt (s ++ more) k = byt s k := by
 unfold byt
 have : (s ++ more).data.toList = s.data.toList ++ more.data.toList := by simp
 rw [this, List.getD_eq_getElem?_getD, List.getD_eq_getElem?_getD, List.getElem?_append_left (by simpa using h)]
theorem byt_in (l : List Int) (k : Nat) (x : Int) (h : l[k]? = some x) (h0 : 0 ≤ x) (h1 : x < 256) : byt (xu l) k = x := zi l k x h h0 h1
theorem extend_mod (n : Int) (h0 : 0 ≤ n) (h1 : n < 256) : zj n % 256 = n := by unfold zj; split <;> omega
theorem tail_rd (f : Int) (b : Nat → Int) (op sz : Int) (hf : 1 ≤ f ∧ f ≤ 18) (hb : ∀ k, 0 ≤ b k ∧ b k < 256) (k : Nat) (hk : 1 ≤ k ∧ (k : Int) < yL.getD f.toNat 0) : (zL f (rdF f b op sz))[k - 1]? = some (b k) := by
 have h18 : f = 1 ∨ f = 2 ∨ f = 3 ∨ f = 4 ∨ f = 5 ∨ f = 6 ∨ f = 7 ∨ f = 8 ∨ f = 9 ∨ f = 10 ∨ f = 11 ∨ f = 12 ∨ f = 13 ∨ f = 14 ∨ f = 15 ∨ f = 16 ∨ f = 17 ∨ f = 18 := by omega
 have b1 := hb 1
 have b2 := hb 2
 have b3 := hb 3
 have b4 := hb 4
 have b5 := hb 5
 have b6 := hb 6
 have m1 := extend_mod (b 1) b1.1 b1.2
 have m2 := extend_mod (b 2) b2.1 b2.2
 have hk7 : k = 1 ∨ k = 2 ∨ k = 3 ∨ k = 4 ∨ k = 5 ∨ k = 6 ∨ 7 ≤ k := by omega
 have hmax : yL.getD f.toNat 0 ≤ 7 := by
  have : ∀ n : Nat, n ≤ 18 → yL.getD n 0 ≤ 7 := by decide
  exact this _ (by omega)
 rcases h18 with e | e | e | e | e | e | e | e | e | e | e | e | e | e | e | e | e | e <;> (subst e; simp [yL] at hk) <;>
  (rcases hk7 with e | e | e | e | e | e | e <;> first | (exfalso; omega) | (subst e; simp [zL, rdF, m1, m2] <;> omega))
theorem dec_unique (t : ByteArray) (h : xo t = 0) : (yQ t).Ok ∧ zw (yQ t) = true ∧ (encB (yQ t)).length ≤ t.size ∧ ∀ k, k < (encB (yQ t)).length → byt (xu (encB (yQ t))) k = byt t k := by
 have hI : yQ t = yG t := by unfold yQ; rw [if_pos h]
 rw [hI]
 unfold xo at h
 split at h
 ·cases h
 rename_i hz0
 split at h
 ·rename_i hfo
  split at h
  ·cases h
  rename_i hsz
  split at h
  ·rename_i hv
   have hok : (yG t).Ok := rdTo_ok t _ 4
   obtain ⟨h0, h1, -, -, -, hz⟩ := yS _ hok hv
   obtain ⟨e1, -, hl⟩ := enc_valid _ hok hv
   have hf0 : ze (byt t 0) ≠ 0 := fun e => by rw [fOf_zero e] at hfo; cases hfo
   have hrd := readB_eq t hf0
   have hop : (yG t).op = byt t 0 := by
    rw [hrd]; exact rdF_op _ _ _ _
   have hbd := zH t
   rw [size_eq] at hsz
   rw [hop] at hz
   refine ⟨hok, hv, by omega, fun k hk => ?_⟩
   have hb0 := hbd k
   refine byt_in _ k _ ?_ hb0.1 hb0.2
   rw [e1, hop]
   rcases k with _ | k
   ·rfl
   ·rw [List.getElem?_cons_succ, hrd]
    have hkk : ((k + 1 : Nat) : Int) < yL.getD (ze (byt t 0)).toNat 0 := by
     have : zc (byt t 0) = yL.getD (ze (byt t 0)).toNat 0 := rfl
     omega
    exact tail_rd _ (byt t) _ _ (fmt_rng hf0) hbd (k + 1) ⟨by omega, hkk⟩
  ·cases h
 ·cases h
end Go.Proofs.YteofmaiojepdkaaGreat
namespace Go.Proofs.YteofmaiojepdkaaGreat
open Go.RowKit
set_option maxRecDepth 100000 in
set_option maxHeartbeats 1000000 in
theorem decode_empty (s : ByteArray) (h0 : s.size = 0) (w : World) :
  Calls Tryz.prog 134 #[.string s] w fun e w' => e = .returned (.tuple #[.agg (zd z8), .int .i64 10]) ∧ Below w.heap.size w w' := by
 have hs : s.toList = [] := by
  rw [ByteArray.toList_eq]
  have : s.data.toList.length = 0 := by simpa using h0
  exact List.eq_nil_of_length_eq_zero this
 clear h0
 go_enter Tryz.func134, Tryz.ntmps134
 go_wp2_with (first | (refine stN ?_))
 refine bodyPost_ret (zg (cs := zd z8) (fr := (0, 0)) Tryz.results134 _ _ w.heap.size 53 _ ?_ (heap_alloc_new _ _) Tryz.underlying53 rfl (by kernel_rfl)) rfl ⟨rfl, (Below.refl _ _).alloc (zn _) _⟩
 rfl
theorem xP {s : ByteArray} (h : 1 ≤ s.size) : s.toList.isEmpty = false := by
 rw [ByteArray.toList_eq]
 cases e : s.data.toList with
 | nil =>
  have : s.data.toList.length = s.size := by simp
  rw [e] at this
  simp at this
  omega
 | cons _ _ => rfl
set_option maxRecDepth 100000 in
set_option maxHeartbeats 1000000 in
theorem decode_none (s : ByteArray) (h0 : 1 ≤ s.size) (hf : fOf (byt s 0) = none) (w : World) :
  Calls Tryz.prog 134 #[.string s] w fun e w' => e = .returned (.tuple #[.agg (zd z8), .int .i64 11]) ∧ Below w.heap.size w w' := by
 have hs := xP h0
 have ix : ∀ W, (Instr.index 9 (.string s) (.int .i64 0)).run Tryz.prog W = .ok (.int .u8 (byt s 0)) W := zk s 0 h0
 obtain ⟨b0, b1⟩ := zH s 0
 have HF := zh hf
 clear hf
 go_enter Tryz.func134, Tryz.ntmps134
 go_wp2_with (first
  | (go_at_call 135; refine (xa _ _).mono ?_; rintro e w1 ⟨rfl, hb1⟩; rw [HF.out, Option.isSome_none]; have hz1 := hb1.size; simp at hz1; have hB0 := (hb1.block w.heap.size (by simp)).trans (heap_alloc_new w _); have HB0 := zh hB0; clear hB0)
  | (refine wpList_store_row rfl _ (.tmp 2) _ rfl _ (zd z8) rfl rfl _ _ ((heap_alloc_old _ _ hz1).trans HB0.out) ?_ ?_ ?_ ?_; kernel_rfl; rfl; kernel_rfl)
  | (refine stN ?_))
 refine bodyPost_ret (zg (cs := zd z8) (fr := (0, 0)) Tryz.results134 _ _ w.heap.size 53 _ ?_ (setRow_heap _ _ _ _ _ _ ((heap_alloc_old _ _ hz1).trans HB0.out)) Tryz.underlying53 rfl (by kernel_rfl)) rfl ⟨rfl, below_setRow ((((Below.refl _ _).alloc (zn _) _).trans (hb1.mono (by simp))).alloc (by omega) _) (zn _) _⟩
 rfl
set_option maxRecDepth 100000 in
set_option maxHeartbeats 1000000 in
theorem decode_short (s : ByteArray) (h0 : 1 ≤ s.size) (hm : s.size ≤ 9223372036854775807) (k : Nat) (hf : fOf (byt s 0) = some k) (hl : (s.size : Int) < zr (byt s 0)) (w : World) :
  Calls Tryz.prog 134 #[.string s] w fun e w' => e = .returned (.tuple #[.agg (zd z8), .int .i64 10]) ∧ Below w.heap.size w w' := by
 have hs := xP h0
 have ix : ∀ W, (Instr.index 9 (.string s) (.int .i64 0)).run Tryz.prog W = .ok (.int .u8 (byt s 0)) W := zk s 0 h0
 obtain ⟨b0, b1⟩ := zH s 0
 have HF := zh hf
 clear hf
 go_enter Tryz.func134, Tryz.ntmps134
 go_wp2_with (first
  | (go_at_call 135; refine (xa _ _).mono ?_; rintro e w1 ⟨rfl, hb1⟩; rw [HF.out, Option.isSome_some]; have hz1 := hb1.size; simp at hz1; have hB0 := (hb1.block w.heap.size (by simp)).trans (heap_alloc_new w _); have HB0 := zh hB0; clear hB0)
  | (go_at_call 133; refine (size_any _ b0 b1 _).mono ?_; rintro e w2 ⟨rfl, hb2⟩; have hz2 := hb2.size; simp at hz2)
  | (refine wpList_store_row rfl _ (.tmp 2) _ rfl _ (zd z8) rfl rfl _ _ ((hb2.block _ (by simp <;> omega)).trans ((heap_alloc_old _ _ hz1).trans HB0.out)) ?_ ?_ ?_ ?_; kernel_rfl; rfl; kernel_rfl)
  | (refine stN ?_))
 refine bodyPost_ret (zg (cs := zd z8) (fr := (0, 0)) Tryz.results134 _ _ w.heap.size 53 _ ?_ (setRow_heap _ _ _ _ _ _ ((hb2.block _ (by simp <;> omega)).trans ((heap_alloc_old _ _ hz1).trans HB0.out))) Tryz.underlying53 rfl (by kernel_rfl)) rfl ⟨rfl, below_setRow (((((Below.refl _ _).alloc (zn _) _).trans (hb1.mono (by simp))).alloc (by omega) _).trans (hb2.mono (by simp <;> omega))) (zn _) _⟩
 rfl
set_option maxRecDepth 100000 in
set_option maxHeartbeats 2000000 in
theorem decode_good (s : ByteArray) (h0 : 1 ≤ s.size) (hm : s.size ≤ 9223372036854775807) (k : Nat) (hf : fOf (byt s 0) = some k) (hl : zr (byt s 0) ≤ (s.size : Int)) (hv : zw (yG s) = true) (w : World) :
  Calls Tryz.prog 134 #[.string s] w fun e w' => e = .returned (.tuple #[.agg (zd (yG s)), .int .i64 0]) ∧ Below w.heap.size w w' := by
 have hs := xP h0
 have ix : ∀ W, (Instr.index 9 (.string s) (.int .i64 0)).run Tryz.prog W = .ok (.int .u8 (byt s 0)) W := zk s 0 h0
 obtain ⟨b0, b1⟩ := zH s 0
 have hok : (yG s).Ok := rdTo_ok s _ 4
 have hsl := size_len hf (yZ s)
 have hRd := fun W => read_any s (fld (byt s 0) 0) (fld (byt s 0) 1) (fld (byt s 0) 2) (fld (byt s 0) 3) h0 hm
  (fun m hm' => by
   rw [rdTo_len _ _ (yZ s)]
   have h1 := bytesTo_le (yZ s) (fF (fld (byt s 0) 0) (fld (byt s 0) 1) (fld (byt s 0) 2) (fld (byt s 0) 3)) m 4 hm'
   have h2 : ((zt (yZ s) (fF (fld (byt s 0) 0) (fld (byt s 0) 1) (fld (byt s 0) 2) (fld (byt s 0) 3)) 4).length : Int) = zr (byt s 0) := hsl
   omega) W
 have HRD := zh hRd
 have HF := zh hf
 have HV := zh hv
 clear hf hv hRd hsl
 go_enter Tryz.func134, Tryz.ntmps134
 go_wp2_with (first
  | (go_at_call 135; refine (xa _ _).mono ?_; rintro e w1 ⟨rfl, hb1⟩; rw [HF.out, Option.isSome_some]; have hz1 := hb1.size; simp at hz1; have hB0 := (hb1.block w.heap.size (by simp)).trans (heap_alloc_new w _); have HB0 := zh hB0; clear hB0)
  | (go_at_call 133; refine (size_any _ b0 b1 _).mono ?_; rintro e w2 ⟨rfl, hb2⟩; have hz2 := hb2.size; simp at hz2; have hc2 := fun o => cell_of_row w2 w1.heap.size o _ _ _ ((hb2.block _ (by simp)).trans (heap_alloc_new w1 _)))
  | (go_at_call 138; refine (HRD.out _).mono ?_; rintro e w3 ⟨rfl, hb3⟩; have hz3 := hb3.size; clear hc2)
  | (go_at_call 119; refine (y4 (yG s) hok _).mono ?_; rintro e w4 ⟨rfl, hb4⟩; rw [HV.out]; have hz4 := hb4.size; simp at hz4)
  | (refine wpList_load_row rfl _ (.tmp 6) rfl _ rfl _ (zd (yG s)) _ _ (heap_alloc_new w3 _) Tryz.underlying53 rfl ?_ ?_; kernel_rfl)
  | (refine wpList_load_row rfl _ (.tmp 6) rfl _ rfl _ (zd (yG s)) _ _ ((hb4.block _ (by simp)).trans (heap_alloc_new w3 _)) Tryz.underlying53 rfl ?_ ?_; kernel_rfl)
  | (refine wpList_store_row rfl _ (.tmp 2) _ rfl _ (zd (yG s)) rfl rfl _ _ ((hb4.block _ (by simp <;> omega)).trans ((heap_alloc_old _ _ (by omega)).trans ((hb3.block _ (by omega)).trans ((hb2.block _ (by simp <;> omega)).trans ((heap_alloc_old _ _ hz1).trans HB0.out))))) ?_ ?_ ?_ ?_; kernel_rfl; rfl; kernel_rfl)
  | (refine stN ?_))
 refine bodyPost_ret (zg (cs := zd (yG s)) (fr := (0, 0)) Tryz.results134 _ _ w.heap.size 53 _ ?_ (setRow_heap _ _ _ _ _ _ ((hb4.block _ (by simp <;> omega)).trans ((heap_alloc_old _ _ (by omega)).trans ((hb3.block _ (by omega)).trans ((hb2.block _ (by simp <;> omega)).trans ((heap_alloc_old _ _ hz1).trans HB0.out)))))) Tryz.underlying53 rfl (by kernel_rfl)) rfl ⟨rfl, below_setRow ((((((((Below.refl _ _).alloc (zn _) _).trans (hb1.mono (by simp))).alloc (by omega) _).trans (hb2.mono (by simp <;> omega))).trans (hb3.mono (by omega))).alloc (by omega) _).trans (hb4.mono (by simp <;> omega))) (zn _) _⟩
 rfl
set_option maxRecDepth 100000 in
set_option maxHeartbeats 2000000 in
theorem decode_bad (s : ByteArray) (h0 : 1 ≤ s.size) (hm : s.size ≤ 9223372036854775807) (k : Nat) (hf : fOf (byt s 0) = some k) (hl : zr (byt s 0) ≤ (s.size : Int)) (hv : zw (yG s) = false) (w : World) :
  Calls Tryz.prog 134 #[.string s] w fun e w' => e = .returned (.tuple #[.agg (zd z8), .int .i64 11]) ∧ Below w.heap.size w w' := by
 have hs := xP h0
 have ix : ∀ W, (Instr.index 9 (.string s) (.int .i64 0)).run Tryz.prog W = .ok (.int .u8 (byt s 0)) W := zk s 0 h0
 obtain ⟨b0, b1⟩ := zH s 0
 have hok : (yG s).Ok := rdTo_ok s _ 4
 have hsl := size_len hf (yZ s)
 have hRd := fun W => read_any s (fld (byt s 0) 0) (fld (byt s 0) 1) (fld (byt s 0) 2) (fld (byt s 0) 3) h0 hm
  (fun m hm' => by
   rw [rdTo_len _ _ (yZ s)]
   have h1 := bytesTo_le (yZ s) (fF (fld (byt s 0) 0) (fld (byt s 0) 1) (fld (byt s 0) 2) (fld (byt s 0) 3)) m 4 hm'
   have h2 : ((zt (yZ s) (fF (fld (byt s 0) 0) (fld (byt s 0) 1) (fld (byt s 0) 2) (fld (byt s 0) 3)) 4).length : Int) = zr (byt s 0) := hsl
   omega) W
 have HRD := zh hRd
 have HF := zh hf
 have HV := zh hv
 clear hf hv hRd hsl
 go_enter Tryz.func134, Tryz.ntmps134
 go_wp2_with (first
  | (go_at_call 135; refine (xa _ _).mono ?_; rintro e w1 ⟨rfl, hb1⟩; rw [HF.out, Option.isSome_some]; have hz1 := hb1.size; simp at hz1; have hB0 := (hb1.block w.heap.size (by simp)).trans (heap_alloc_new w _); have HB0 := zh hB0; clear hB0)
  | (go_at_call 133; refine (size_any _ b0 b1 _).mono ?_; rintro e w2 ⟨rfl, hb2⟩; have hz2 := hb2.size; simp at hz2; have hc2 := fun o => cell_of_row w2 w1.heap.size o _ _ _ ((hb2.block _ (by simp)).trans (heap_alloc_new w1 _)))
  | (go_at_call 138; refine (HRD.out _).mono ?_; rintro e w3 ⟨rfl, hb3⟩; have hz3 := hb3.size; clear hc2)
  | (go_at_call 119; refine (y4 (yG s) hok _).mono ?_; rintro e w4 ⟨rfl, hb4⟩; rw [HV.out]; have hz4 := hb4.size; simp at hz4)
  | (refine wpList_load_row rfl _ (.tmp 6) rfl _ rfl _ (zd (yG s)) _ _ (heap_alloc_new w3 _) Tryz.underlying53 rfl ?_ ?_; kernel_rfl)
  | (refine wpList_load_row rfl _ (.tmp 6) rfl _ rfl _ (zd (yG s)) _ _ ((hb4.block _ (by simp)).trans (heap_alloc_new w3 _)) Tryz.underlying53 rfl ?_ ?_; kernel_rfl)
  | (refine wpList_store_row rfl _ (.tmp 2) _ rfl _ (zd z8) rfl rfl _ _ ((hb4.block _ (by simp <;> omega)).trans ((heap_alloc_old _ _ (by omega)).trans ((hb3.block _ (by omega)).trans ((hb2.block _ (by simp <;> omega)).trans ((heap_alloc_old _ _ hz1).trans HB0.out))))) ?_ ?_ ?_ ?_; kernel_rfl; rfl; kernel_rfl)
  | (refine stN ?_))
 refine bodyPost_ret (zg (cs := zd z8) (fr := (0, 0)) Tryz.results134 _ _ w.heap.size 53 _ ?_ (setRow_heap _ _ _ _ _ _ ((hb4.block _ (by simp <;> omega)).trans ((heap_alloc_old _ _ (by omega)).trans ((hb3.block _ (by omega)).trans ((hb2.block _ (by simp <;> omega)).trans ((heap_alloc_old _ _ hz1).trans HB0.out)))))) Tryz.underlying53 rfl (by kernel_rfl)) rfl ⟨rfl, below_setRow ((((((((Below.refl _ _).alloc (zn _) _).trans (hb1.mono (by simp))).alloc (by omega) _).trans (hb2.mono (by simp <;> omega))).trans (hb3.mono (by omega))).alloc (by omega) _).trans (hb4.mono (by simp <;> omega))) (zn _) _⟩
 rfl
theorem decode_any (s : ByteArray) (hm : s.size ≤ 9223372036854775807) (w : World) :
  Calls Tryz.prog 134 #[.string s] w fun e w' => e = .returned (.tuple #[.agg (zd (yQ s)), .int .i64 (xo s)]) ∧ Below w.heap.size w w' := by
 by_cases h0 : s.size = 0
 ·have he : xo s = 10 := by unfold xo; rw [if_pos h0]
  have hd : yQ s = z8 := by unfold yQ; rw [he]; rfl
  rw [hd, he]; exact decode_empty s h0 w
 ·cases hf : fOf (byt s 0) with
  | none =>
   have he : xo s = 11 := by unfold xo; rw [if_neg h0, hf]; rfl
   have hd : yQ s = z8 := by unfold yQ; rw [he]; rfl
   rw [hd, he]; exact decode_none s (by omega) hf w
  | some k =>
   by_cases hl : (s.size : Int) < zr (byt s 0)
   ·have he : xo s = 10 := by unfold xo; rw [if_neg h0, hf]; simp [hl]
    have hd : yQ s = z8 := by unfold yQ; rw [he]; rfl
    rw [hd, he]; exact decode_short s (by omega) hm k hf hl w
   ·cases hv : zw (yG s) with
    | true =>
     have he : xo s = 0 := by unfold xo; rw [if_neg h0, hf, hv]; simp [hl]
     have hd : yQ s = yG s := by unfold yQ; rw [he]; rfl
     rw [hd, he]; exact decode_good s (by omega) hm k hf (by omega) hv w
    | false =>
     have he : xo s = 11 := by unfold xo; rw [if_neg h0, hf, hv]; simp [hl]
     have hd : yQ s = z8 := by unfold yQ; rw [he]; rfl
     rw [hd, he]; exact decode_bad s (by omega) hm k hf (by omega) hv w
end Go.Proofs.YteofmaiojepdkaaGreat
