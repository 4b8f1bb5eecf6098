/- Places, targets, sizes of instructions: plain functions. No condition beyond what each states. -/
import Derived.Test.YthebmoggbgldmaaLaRefD
import Derived.Test.YthebmoggbgldmaaLaRefC0
import Derived.Test.YthebmoggbgldmaaLaRefC1
import Derived.Test.YthebmoggbgldmaaLaRefC2
import Derived.Deep.AppendLies
set_option linter.all false
namespace Go.Proofs.Ythebmoggbgldmaa
open Go.RowKit
set_option maxRecDepth 100000 in
set_option maxHeartbeats 20000000 in
theorem rvalid_g3 (i : Ins) (hf : zw i.op = 15 ∨ zw i.op = 16 ∨ zw i.op = 17 ∨ zw i.op = 18) (w : World) :
  Calls Try.prog 37 #[.agg #[.int .i64 (i).op, .int .i64 (i).d, .int .i64 (i).s, .int .u16 (i).imm, .int .u16 (i).aux, .int .i64 (i).bank, .int .i64 (i).size]] w fun e w' => e = .returned (.bool (zR i)) ∧ Below w.heap.size w w' := by
 rcases hf with hf | hf | hf | hf
 all_goals
  obtain ⟨o0, o1⟩ := jS (op := i.op) (by rw [hf]; decide)
  have HF := zh hf
  clear hf
  go_enter Try.func37, Try.ntmps37
  go_wp2_with (first
   | (go_at_call 38; refine (yH _ _).mono ?_; rintro e w1 ⟨rfl, hb1⟩; rw [HF.out]; have hz1 := hb1.size; simp at hz1))
  have hc1 : ∀ o, w1.cell? ⟨w.heap.size, o, none⟩ = (zt i)[o]? := fun o => cell_of_row w1 w.heap.size o _ _ _ ((hb1.block w.heap.size (by simp)).trans (heap_alloc_new w _))
  unfold zt vi vw at hc1
  have hwu : IntKind.u8.wrap i.op = i.op := IntWalk.u8_in _ (by omega)
  refine wp_region_noPanic ?_
  refine wp_region_held_drew (S := fun w' => ∀ o, w'.cell? ⟨w.heap.size, o, none⟩ = (#[Value.int .i64 i.op, .int .i64 i.d, .int .i64 i.s, .int .u16 i.imm, .int .u16 i.aux, .int .i64 i.bank, .int .i64 i.size] : Array Value)[o]?) (by kernel_rfl) hc1 (fun hHeld => ?_)
  (refine tk 0 (v := ?_) rfl (by assumption) ?_ ?_; rotate_left; (focus (intro w hSw; (try dsimp only at hSw); go_simp; try with_reducible rfl)); (try simp only [zA, zB, zC, Act.put, zD, zE, zF]))
  (refine tk 1 (v := ?_) rfl (by assumption) ?_ ?_; rotate_left; (focus (intro w hSw; (try dsimp only at hSw); go_simp; try with_reducible rfl)); (try simp only [zA, zB, zC, Act.put, zD, zE, zF]))
  (refine tk 2 (v := ?_) rfl (by assumption) ?_ ?_; rotate_left; (focus (intro w hSw; (try dsimp only at hSw); go_simp; try with_reducible rfl)); (try simp only [zA, zB, zC, Act.put, zD, zE, zF]))
  (refine tk 3 (v := ?_) rfl (by assumption) ?_ ?_; rotate_left; (focus (intro w hSw; (try dsimp only at hSw); go_simp; try with_reducible rfl)); (try simp only [zA, zB, zC, Act.put, zD, zE, zF]))
  (refine tk 4 (v := ?_) rfl (by assumption) ?_ ?_; rotate_left; (focus (intro w hSw; (try dsimp only at hSw); go_simp; try with_reducible rfl)); (try simp only [zA, zB, zC, Act.put, zD, zE, zF]))
  (refine tk 5 (v := ?_) rfl (by assumption) ?_ ?_; rotate_left; (focus (intro w hSw; (try dsimp only at hSw); go_simp; try with_reducible rfl)); (try simp only [zA, zB, zC, Act.put, zD, zE, zF]))
  (refine tk 6 (v := ?_) rfl (by assumption) ?_ ?_; rotate_left; (focus (intro w hSw; (try dsimp only at hSw); go_simp; try with_reducible rfl)); (try simp only [zA, zB, zC, Act.put, zD, zE, zF]))
  (refine tk 7 (v := ?_) rfl (by assumption) ?_ ?_; rotate_left; (focus (intro w hSw; (try dsimp only at hSw); go_simp; try with_reducible rfl)); (try simp only [zA, zB, zC, Act.put, zD, zE, zF]))
  (refine wpAnyH_ready (rs := [8]) (by kernel_rfl) (by simp) (AllReadyH.cons (o := _) rfl (fun K hK => ?_) AllReadyH.nil))
  rw [if_pos (by rfl)]
  go_simp
  refine (yL i.op o0 (by omega) _).mono ?_
  rintro e w2 ⟨rfl, hb2⟩
  have hc2 : ∀ o, w2.cell? ⟨w.heap.size, o, none⟩ = (#[Value.int .i64 i.op, .int .i64 i.d, .int .i64 i.s, .int .u16 i.imm, .int .u16 i.aux, .int .i64 i.bank, .int .i64 i.size] : Array Value)[o]? := fun o => (hb2.cell (by show w.heap.size < w1.heap.size; omega)).trans (hHeld o)
  refine hK.out _ _ hc2 (fun hHeld => ?_)
  (try simp only [zA, zB, zC, Act.put, zD, zE, zF])
  clear hc1
  have hbb : Below w.heap.size w w2 := ((((Below.refl _ _).alloc (zn _) _).trans (hb1.mono (by simp))).drew).trans (hb2.mono (by show _ ≤ w1.heap.size; omega))
  by_cases hsz : i.size = zp i.op
  ·have hsb : (i.size == zp i.op) = true := by simpa using hsz
   have hsn : (i.size != zp i.op) = false := by simpa using hsz
   have e0 : zR i = yi (zw i.op) i := by unfold zR; rw [HF.out, hsb]; rfl
   have E0 := zh e0
   clear e0 hsz
   (refine tk 9 (v := ?_) rfl (by assumption) ?_ ?_; rotate_left; (focus (intro w hSw; (try dsimp only at hSw); go_simp; try with_reducible rfl)); (try simp only [zA, zB, zC, Act.put, zD, zE, zF]))
   (refine tk 10 (v := ?_) rfl (by assumption) ?_ ?_; rotate_left; (focus (intro w hSw; (try dsimp only at hSw); go_simp; try with_reducible rfl)); (try simp only [zA, zB, zC, Act.put, zD, zE, zF]))
   refine wpAnyH_done (by kernel_rfl) ?_ _
   refine NoPanic.normal ?_
   go_wp2_with (first
    | (go_at_call 76; refine (rreg_any _ _).mono ?_; rintro e ww ⟨rfl, rfl⟩)
    | (go_at_call 77; refine (signed_any _ _).mono ?_; rintro e ww ⟨rfl, rfl⟩))
   all_goals
    go_ret
    refine ⟨?_, hbb⟩
    rw [E0.out, HF.out]
    show Ending.returned (Value.bool _) = _
    congr 2
    unfold yi
    first | (simp_all; done) | (simp_all; omega)
  ·have hsb : (i.size == zp i.op) = false := by simpa using hsz
   have hsn : (i.size != zp i.op) = true := by simpa using hsz
   have e0 : zR i = false := by unfold zR; rw [hsb]; simp
   have E0 := zh e0
   clear e0 hsz
   (refine tk 9 (v := ?_) rfl (by assumption) ?_ ?_; rotate_left; (focus (intro w hSw; (try dsimp only at hSw); go_simp; try with_reducible rfl)); (try simp only [zA, zB, zC, Act.put, zD, zE, zF]))
   (refine tk 10 (v := ?_) rfl (by assumption) ?_ ?_; rotate_left; (focus (intro w hSw; (try dsimp only at hSw); go_simp; try with_reducible rfl)); (try simp only [zA, zB, zC, Act.put, zD, zE, zF]))
   refine wpAnyH_done (by kernel_rfl) ?_ _
   refine NoPanic.normal ?_
   go_wp2
   go_ret
   exact ⟨by rw [E0.out]; rfl, hbb⟩
end Go.Proofs.Ythebmoggbgldmaa
namespace Go.Proofs.Ythebmoggbgldmaa
open Go.RowKit
set_option maxRecDepth 100000 in
set_option maxHeartbeats 1000000 in
theorem rvalid_0 (i : Ins) (hf : zw i.op = 0) (w : World) :
  Calls Try.prog 37 #[.agg #[.int .i64 (i).op, .int .i64 (i).d, .int .i64 (i).s, .int .u16 (i).imm, .int .u16 (i).aux, .int .i64 (i).bank, .int .i64 (i).size]] w fun e w' => e = .returned (.bool (zR i)) ∧ Below w.heap.size w w' := by
 have e0 : zR i = false := by unfold zR; rw [hf]; rfl
 have HF := zh hf
 rw [e0]
 clear hf e0
 go_enter Try.func37, Try.ntmps37
 go_wp2_with (first
  | (go_at_call 38; refine (yH _ _).mono ?_; rintro e w1 ⟨rfl, hb1⟩; rw [HF.out]; have hz1 := hb1.size; simp at hz1))
 go_quiet (fail)
 go_wp2
 go_ret
 exact ⟨rfl, (((Below.refl _ _).alloc (zn _) _).trans (hb1.mono (by simp))).trans ⟨rfl, rfl, rfl, zn _, fun _ _ => rfl⟩⟩
theorem yY (i : Ins) (w : World) :
  Calls Try.prog 37 #[.agg #[.int .i64 (i).op, .int .i64 (i).d, .int .i64 (i).s, .int .u16 (i).imm, .int .u16 (i).aux, .int .i64 (i).bank, .int .i64 (i).size]] w fun e w' => e = .returned (.bool (zR i)) ∧ Below w.heap.size w w' := by
 have := fmtS_bd i.op
 by_cases h0 : zw i.op = 0
 ·exact rvalid_0 i h0 w
 rcases (show (zw i.op = 1 ∨ zw i.op = 2 ∨ zw i.op = 3 ∨ zw i.op = 4 ∨ zw i.op = 5) ∨ (zw i.op = 6 ∨ zw i.op = 7 ∨ zw i.op = 8 ∨ zw i.op = 9 ∨ zw i.op = 10) ∨ (zw i.op = 11 ∨ zw i.op = 12 ∨ zw i.op = 13 ∨ zw i.op = 14) ∨ (zw i.op = 15 ∨ zw i.op = 16 ∨ zw i.op = 17 ∨ zw i.op = 18) by omega) with h | h | h | h
 ·exact rvalid_g0 i h w
 ·exact rvalid_g1 i h w
 ·exact rvalid_g2 i h w
 ·exact rvalid_g3 i h w
end Go.Proofs.Ythebmoggbgldmaa
namespace Go.Proofs.Ythebmoggbgldmaa
open Go.RowKit
def yg (f : Int) (i : Ins) : List Int :=
 if f = 2 then [i.d]
 else if f = 3 ∨ f = 10 then [i.imm % 256]
 else if f = 4 then [16 * i.d + i.s]
 else if f = 5 ∨ f = 15 ∨ f = 18 then [i.d, i.imm % 256]
 else if f = 6 ∨ f = 9 ∨ f = 14 then [i.d, i.imm % 256, i.imm / 256]
 else if f = 7 then [16 * i.d + i.s, i.imm % 256]
 else if f = 8 then [16 * i.d + i.s, i.imm % 256, i.imm / 256]
 else if f = 11 then [i.imm % 256, i.imm / 256]
 else if f = 12 then [i.bank, i.imm % 256, i.imm / 256]
 else if f = 13 then [i.d, i.bank, i.imm % 256, i.imm / 256, i.aux % 256, i.aux / 256]
 else if f = 16 then [16 * i.d + i.s, i.bank, i.imm % 256, i.imm / 256]
 else if f = 17 then [i.s, i.imm % 256, i.imm / 256, i.aux % 256, i.aux / 256]
 else []
def fldTab (f : Int) : List Int :=
 if f = 2 then [2, 0, 0, 0] else if f = 3 then [4, 0, 0, 0] else if f = 4 then [1, 0, 0, 0] else if f = 5 then [2, 5, 0, 0] else if f = 6 then [2, 6, 0, 0]
 else if f = 7 then [1, 5, 0, 0] else if f = 8 then [1, 6, 0, 0] else if f = 9 then [2, 6, 0, 0] else if f = 10 then [5, 0, 0, 0] else if f = 11 then [6, 0, 0, 0]
 else if f = 12 then [8, 6, 0, 0] else if f = 13 then [2, 9, 6, 7] else if f = 14 then [2, 6, 0, 0] else if f = 15 then [2, 4, 0, 0] else if f = 16 then [1, 8, 6, 0]
 else if f = 17 then [3, 6, 7, 0] else if f = 18 then [2, 5, 0, 0] else [0, 0, 0, 0]
theorem fld_tab : ∀ n : Nat, n < 164 → zw n ≠ 0 → [fld n 0, fld n 1, fld n 2, fld n 3] = fldTab (zw n) ∧ zH n = zp n ∧ (fOf n).isSome = true := by decide +kernel
theorem fld_none0 : ∀ n : Nat, n < 164 → zw n = 0 → fOf n = none ∧ zH n = 0 ∧ zp n = 0 := by decide +kernel
theorem fOf_out {op : Int} (h : ¬ (0 ≤ op ∧ op ≤ 163)) : fOf op = none := by
 cases hk : fOf op with
 | none => rfl
 | some k => have := jf hk; omega
theorem fOf_zero {op : Int} (h : zw op = 0) : fOf op = none := by
 by_cases h0 : 0 ≤ op ∧ op ≤ 163
 ·obtain ⟨n, hn⟩ : ∃ n : Nat, op = n := ⟨op.toNat, by omega⟩
  subst hn
  exact (fld_none0 n (by omega) h).1
 ·exact fOf_out h0
theorem fOf_some {op : Int} (h : zw op ≠ 0) : (fOf op).isSome = true ∧ zH op = zp op ∧ [fld op 0, fld op 1, fld op 2, fld op 3] = fldTab (zw op) := by
 have h0 := jS h
 obtain ⟨n, hn⟩ : ∃ n : Nat, op = n := ⟨op.toNat, by omega⟩
 subst hn
 obtain ⟨a, b, c⟩ := fld_tab n (by omega) h
 exact ⟨c, b, a⟩
theorem fldF_tab {op : Int} (h : zw op ≠ 0) : yt op = fF ((fldTab (zw op)).getD 0 0) ((fldTab (zw op)).getD 1 0) ((fldTab (zw op)).getD 2 0) ((fldTab (zw op)).getD 3 0) := by
 rw [← (fOf_some h).2.2]; rfl
theorem ju (op : Int) : zH op = zp op := by
 by_cases h : zw op = 0
 ·have e := fOf_zero h
  unfold zH zp; rw [e, h]; rfl
 ·exact (fOf_some h).2.1
theorem fmt18' (op : Int) (h : zw op ≠ 0) : zw op = 1 ∨ zw op = 2 ∨ zw op = 3 ∨ zw op = 4 ∨ zw op = 5 ∨ zw op = 6 ∨ zw op = 7 ∨ zw op = 8 ∨ zw op = 9 ∨ zw op = 10 ∨ zw op = 11 ∨ zw op = 12 ∨ zw op = 13 ∨ zw op = 14 ∨ zw op = 15 ∨ zw op = 16 ∨ zw op = 17 ∨ zw op = 18 := by
 have := fmtS_bd op; omega
theorem bytes_tail (i : Ins) (h : zw i.op ≠ 0) : zT i (yt i.op) 4 = i.op :: yg (zw i.op) i := by
 rw [fldF_tab h]
 rcases fmt18' _ h with e | e | e | e | e | e | e | e | e | e | e | e | e | e | e | e | e | e <;> (rw [e]; simp [zT, xe, fF, fldTab, yg])
theorem xk (i : Ins) (hi : i.Ok) (hv : zQ i = true) : zw i.op ≠ 0 ∧ (0 ≤ i.op ∧ i.op ≤ 163) ∧ (0 ≤ i.d ∧ i.d < 8) ∧ (0 ≤ i.s ∧ i.s < 8) ∧ (0 ≤ i.bank ∧ i.bank < 256) ∧ i.size = zp i.op := by
 rw [yR i hi] at hv
 unfold zR at hv
 simp only [Bool.and_eq_true, Bool.not_eq_true', beq_eq_false_iff_ne, beq_iff_eq] at hv
 obtain ⟨⟨h1, h2⟩, h3⟩ := hv
 refine ⟨h1, jS h1, ?_⟩
 rw [and_comm, and_comm (a := 0 ≤ i.s ∧ i.s < 8), and_assoc] at *
 rcases fmt18' _ h1 with e | e | e | e | e | e | e | e | e | e | e | e | e | e | e | e | e | e <;> (rw [e] at h3; simp [yi, yz] at h3; omega)
theorem xb (W : World) (o : Obj) {b : Nat} (h : W.heap.size = b) : (W.alloc o).heap[b]? = some o := by
 subst h; exact heap_alloc_new _ _
set_option maxHeartbeats 400000 in
theorem two_any (n : Int) (h0 : 0 ≤ n) (h1 : n < 65536) (w : World) :
  Calls Try.prog 102 #[.int .u16 n] w fun e w' => e = .returned (.slice (some ⟨w.heap.size, 0, none⟩) 2 2) ∧ w.alloc (.cells #[.int .u8 (n % 256), .int .u8 (n / 256)] 5) = w' := by
 have hw : IntKind.u8.wrap n = n % 256 := rfl
 have hw2 : IntKind.u8.wrap (n / 256) = n / 256 := IntWalk.u8_in _ (by omega)
 go_enter Try.func102, Try.ntmps102
 go_wp2
 go_ret
 exact ⟨rfl, rfl⟩
structure EHeld (i : Ins) (b : Nat) (w0 w : World) : Prop where
 ci : ∀ o : Nat, w.cell? ⟨w0.heap.size, o, none⟩ = (#[Value.int .i64 i.op, .int .i64 i.d, .int .i64 i.s, .int .u16 i.imm, .int .u16 i.aux, .int .i64 i.bank, .int .i64 i.size] : Array Value)[o]?
 c9 : ∀ o : Nat, w.cell? ⟨b + 1, o, none⟩ = (#[Value.int .u8 (i.imm % 256), .int .u8 (i.imm / 256)] : Array Value)[o]?
 c10 : ∀ o : Nat, w.cell? ⟨b + 2, o, none⟩ = (#[Value.int .u8 (i.aux % 256), .int .u8 (i.aux / 256)] : Array Value)[o]?
 own : w.ownsRow b 5 1 (.slice (some ⟨b, 0, none⟩) 1 1) 1 [vb i.op]
 hb : Below w0.heap.size w0 w
 lt : w0.heap.size < b
 gt : b + 2 < w.heap.size
theorem EHeld.stay {i b w0 w w1} (h : EHeld i b w0 w) (hb : Below w.heap.size w w1) : EHeld i b w0 w1 :=
 ⟨fun o => (hb.cell (by have := h.gt; have := h.lt; show w0.heap.size < _; omega)).trans (h.ci o), fun o => (hb.cell (by have := h.gt; show b + 1 < _; omega)).trans (h.c9 o), fun o => (hb.cell (by have := h.gt; show b + 2 < _; omega)).trans (h.c10 o),
 xW h.own hb, h.hb.trans (hb.mono h.hb.size), h.lt, Nat.lt_of_lt_of_le h.gt hb.size⟩
theorem EHeld.drew {i b w0 w} (h : EHeld i b w0 w) : EHeld i b w0 w.drew := ⟨h.ci, h.c9, h.c10, xW h.own ((Below.refl _ _).drew), h.hb.drew, h.lt, h.gt⟩
theorem EHeld.alloc {i b w0 w} (h : EHeld i b w0 w) (o : Obj) : EHeld i b w0 (w.alloc o) := h.stay ((Below.refl _ _).alloc (zn _) _)
structure EEnd (i : Ins) (b : Nat) (v : Value) (w0 w : World) : Prop where
 own : w.ownsRow b 5 1 v (1 + (yg (zw i.op) i).length) (bv (i.op :: yg (zw i.op) i))
 hb : Below w0.heap.size w0 w
theorem EHeld.end {i b w0 w w1 v} (h : EHeld i b w0 w) (hg : w.grownBy w1 (some b)) (l : List Int) (hl : yg (zw i.op) i = l) (own : w1.ownsRow b 5 1 v (1 + l.length) (bv (i.op :: l))) : EEnd i b v w0 w1 := by
 refine ⟨by rw [hl]; exact own, h.hb.grown hg h.hb.size (fun k hk => ?_)⟩
 cases hk
 exact Nat.le_of_lt h.lt
set_option maxRecDepth 100000 in
set_option maxHeartbeats 1000000 in
theorem rencode_none (i : Ins) (hf : zw i.op = 0) (w : World) :
  Calls Try.prog 101 #[.agg #[.int .i64 (i).op, .int .i64 (i).d, .int .i64 (i).s, .int .u16 (i).imm, .int .u16 (i).aux, .int .i64 (i).bank, .int .i64 (i).size]] w fun e w' => e = .returned (.tuple #[.string (zO []), .int .i64 11]) ∧ Below w.heap.size w w' := by
 have HF := zh hf
 clear hf
 go_enter Try.func101, Try.ntmps101
 go_wp2_with (first | (go_at_call 38; refine (yH _ _).mono ?_; rintro e w1 ⟨rfl, hb1⟩; rw [HF.out]))
 go_ret2
 exact ⟨rfl, (((Below.refl _ _).alloc (zn _) _).trans (hb1.mono (by simp)))⟩
set_option maxRecDepth 100000 in
set_option maxHeartbeats 1000000 in
theorem rencode_bad (i : Ins) (hf : zw i.op ≠ 0) (hv : zR i = false) (w : World) :
  Calls Try.prog 101 #[.agg #[.int .i64 (i).op, .int .i64 (i).d, .int .i64 (i).s, .int .u16 (i).imm, .int .u16 (i).aux, .int .i64 (i).bank, .int .i64 (i).size]] w fun e w' => e = .returned (.tuple #[.string (zO []), .int .i64 3]) ∧ Below w.heap.size w w' := by
 have hne : (zw i.op == 0) = false := by simpa using hf
 have HV := zh hv
 clear hf hv
 go_enter Try.func101, Try.ntmps101
 go_wp2_with (first
  | (go_at_call 38; refine (yH _ _).mono ?_; rintro e w1 ⟨rfl, hb1⟩; have hz1 := hb1.size; simp at hz1; have HB1 := zh ((hb1.block w.heap.size (by simp)).trans (heap_alloc_new w _)))
  | (go_at_call 37; refine (yY i _).mono ?_; rintro e w2 ⟨rfl, hb2⟩; rw [HV.out])
  | (refine wpList_load_row rfl _ (.tmp 1) rfl _ rfl _ _ _ _ HB1.out Try.underlying53 rfl ?_ ?_; kernel_rfl))
 go_ret2
 exact ⟨rfl, (((Below.refl _ _).alloc (zn _) _).trans ((hb1.mono (by simp)).trans (hb2.mono (by omega))))⟩
end Go.Proofs.Ythebmoggbgldmaa
namespace Go.Proofs.Ythebmoggbgldmaa
open Go.RowKit
def rdF (f : Int) (b : Nat → Int) (op sz : Int) : Ins :=
 if f = 2 then ⟨op, b 1, 0, 0, 0, 0, sz⟩
 else if f = 3 then ⟨op, 0, 0, b 1, 0, 0, sz⟩
 else if f = 4 then ⟨op, b 1 / 16, b 1 % 16, 0, 0, 0, sz⟩
 else if f = 5 ∨ f = 18 then ⟨op, b 1, 0, zM (b 2), 0, 0, sz⟩
 else if f = 6 ∨ f = 9 ∨ f = 14 then ⟨op, b 1, 0, b 2 + 256 * b 3, 0, 0, sz⟩
 else if f = 7 then ⟨op, b 1 / 16, b 1 % 16, zM (b 2), 0, 0, sz⟩
 else if f = 8 then ⟨op, b 1 / 16, b 1 % 16, b 2 + 256 * b 3, 0, 0, sz⟩
 else if f = 10 then ⟨op, 0, 0, zM (b 1), 0, 0, sz⟩
 else if f = 11 then ⟨op, 0, 0, b 1 + 256 * b 2, 0, 0, sz⟩
 else if f = 12 then ⟨op, 0, 0, b 2 + 256 * b 3, 0, b 1, sz⟩
 else if f = 13 then ⟨op, b 1, 0, b 3 + 256 * b 4, b 5 + 256 * b 6, b 2, sz⟩
 else if f = 15 then ⟨op, b 1, 0, b 2, 0, 0, sz⟩
 else if f = 16 then ⟨op, b 1 / 16, b 1 % 16, b 3 + 256 * b 4, 0, b 2, sz⟩
 else if f = 17 then ⟨op, 0, b 1, b 2 + 256 * b 3, b 4 + 256 * b 5, 0, sz⟩
 else ⟨op, 0, 0, 0, 0, 0, sz⟩
theorem readB_eq (s : ByteArray) (h : zw (byt s 0) ≠ 0) : jl s = rdF (zw (byt s 0)) (byt s) (byt s 0) (zp (byt s 0)) := by
 unfold jl
 rw [fldF_tab h]
 rcases fmt18' _ h with e | e | e | e | e | e | e | e | e | e | e | e | e | e | e | e | e | e <;> (rw [e]; simp [xZ, yO, fF, fldTab, rdF, jg, ju])
theorem rsize_fmt (op : Int) : zp op = xG.getD (zw op).toNat 0 := rfl
theorem rdF_congr (f : Int) (b b' : Nat → Int) (op sz : Int) (hf : 1 ≤ f ∧ f ≤ 18) (h : ∀ k : Nat, (k : Int) < xG.getD f.toNat 0 → b k = b' k) : rdF f b op sz = rdF f b' op sz := by
 have h18 : f = 1 ∨ f = 2 ∨ f = 3 ∨ f = 4 ∨ f = 5 ∨ f = 6 ∨ f = 7 ∨ f = 8 ∨ f = 9 ∨ f = 10 ∨ f = 11 ∨ f = 12 ∨ f = 13 ∨ f = 14 ∨ f = 15 ∨ f = 16 ∨ f = 17 ∨ f = 18 := by omega
 rcases h18 with e | e | e | e | e | e | e | e | e | e | e | e | e | e | e | e | e | e <;> subst e
 ·rfl
 ·have h1 := h 1 (by decide); simp [rdF, h1]
 ·have h1 := h 1 (by decide); simp [rdF, h1]
 ·have h1 := h 1 (by decide); simp [rdF, h1]
 ·have h1 := h 1 (by decide); have h2 := h 2 (by decide); simp [rdF, h1, h2]
 ·have h1 := h 1 (by decide); have h2 := h 2 (by decide); have h3 := h 3 (by decide); simp [rdF, h1, h2, h3]
 ·have h1 := h 1 (by decide); have h2 := h 2 (by decide); simp [rdF, h1, h2]
 ·have h1 := h 1 (by decide); have h2 := h 2 (by decide); have h3 := h 3 (by decide); simp [rdF, h1, h2, h3]
 ·have h1 := h 1 (by decide); have h2 := h 2 (by decide); have h3 := h 3 (by decide); simp [rdF, h1, h2, h3]
 ·have h1 := h 1 (by decide); simp [rdF, h1]
 ·have h1 := h 1 (by decide); have h2 := h 2 (by decide); simp [rdF, h1, h2]
 ·have h1 := h 1 (by decide); have h2 := h 2 (by decide); have h3 := h 3 (by decide); simp [rdF, h1, h2, h3]
 ·have h1 := h 1 (by decide); have h2 := h 2 (by decide); have h3 := h 3 (by decide); have h4 := h 4 (by decide); have h5 := h 5 (by decide); have h6 := h 6 (by decide); simp [rdF, h1, h2, h3, h4, h5, h6]
 ·have h1 := h 1 (by decide); have h2 := h 2 (by decide); have h3 := h 3 (by decide); simp [rdF, h1, h2, h3]
 ·have h1 := h 1 (by decide); have h2 := h 2 (by decide); simp [rdF, h1, h2]
 ·have h1 := h 1 (by decide); have h2 := h 2 (by decide); have h3 := h 3 (by decide); have h4 := h 4 (by decide); simp [rdF, h1, h2, h3, h4]
 ·have h1 := h 1 (by decide); have h2 := h 2 (by decide); have h3 := h 3 (by decide); have h4 := h 4 (by decide); have h5 := h 5 (by decide); simp [rdF, h1, h2, h3, h4, h5]
 ·have h1 := h 1 (by decide); have h2 := h 2 (by decide); simp [rdF, h1, h2]
theorem refTail_len (f : Int) (i : Ins) (hf : 1 ≤ f ∧ f ≤ 18) : ((i.op :: yg f i).length : Int) = xG.getD f.toNat 0 := by
 have h18 : f = 1 ∨ f = 2 ∨ f = 3 ∨ f = 4 ∨ f = 5 ∨ f = 6 ∨ f = 7 ∨ f = 8 ∨ f = 9 ∨ f = 10 ∨ f = 11 ∨ f = 12 ∨ f = 13 ∨ f = 14 ∨ f = 15 ∨ f = 16 ∨ f = 17 ∨ f = 18 := by omega
 rcases h18 with e | e | e | e | e | e | e | e | e | e | e | e | e | e | e | e | e | e <;> (subst e; simp [yg, xG])
theorem fmt_rng {op : Int} (h : zw op ≠ 0) : 1 ≤ zw op ∧ zw op ≤ 18 := by have := fmtS_bd op; omega
theorem enc_valid (i : Ins) (hi : i.Ok) (hv : zQ i = true) : xl i = i.op :: yg (zw i.op) i ∧ jx i = 0 ∧ ((xl i).length : Int) = i.size := by
 obtain ⟨h0, h1, -, -, -, hz⟩ := xk i hi hv
 have hs := (fOf_some h0).1
 have e1 : xl i = i.op :: yg (zw i.op) i := by unfold xl; rw [hs, hv]; exact bytes_tail i h0
 refine ⟨e1, by unfold jx; rw [hs, hv]; rfl, ?_⟩
 rw [e1, refTail_len _ i (fmt_rng h0), hz]; rfl
theorem byt_append (s more : ByteArray) (k : Nat) (h : k < s.size) : byt (s ++ more) k = byt s k := by
 unfold byt
 have : (s ++ more).data.toList = s.data.toList ++ more.data.toList := by simp
 rw [this, List.getD_eq_getElem?_getD, List.getD_eq_getElem?_getD, List.getElem?_append_left (by simpa using h)]
theorem byt_in (l : List Int) (k : Nat) (x : Int) (h : l[k]? = some x) (h0 : 0 ≤ x) (h1 : x < 256) : byt (zO l) k = x := zJ l k x h h0 h1
theorem readL_eq (i : Ins) (hi : i.Ok) (hv : zQ i = true) : rdF (zw i.op) (byt (zO (xl i))) i.op i.size = i := by
 obtain ⟨h0, h1, -, -, -, hz⟩ := xk i hi hv
 obtain ⟨e1, -, -⟩ := enc_valid i hi hv
 obtain ⟨-, -, hr⟩ := validS_parts hv
 have hb : zT i (yt i.op) 4 = xl i := by rw [e1]; exact bytes_tail i h0
 have hop : byt (zO (xl i)) 0 = i.op := byt_in _ 0 _ (by rw [e1]; rfl) (by omega) (by omega)
 have : jl (zO (xl i)) = i := by
  have e2 : jl (zO (xl i)) = yS (zT i (yt i.op) 4) (yt i.op) := by
   unfold jl yS; rw [hop, hb]
  rw [e2, hr]
 rw [readB_eq _ (by rw [hop]; exact h0), hop] at this
 rw [hz]; exact this
theorem dec_enc (i : Ins) (hi : i.Ok) (hv : zQ i = true) (more : ByteArray) : decE (zO (xl i) ++ more) = 0 ∧ decI (zO (xl i) ++ more) = i := by
 obtain ⟨h0, h1, -, -, -, hz⟩ := xk i hi hv
 obtain ⟨e1, -, hl⟩ := enc_valid i hi hv
 have hop : byt (zO (xl i)) 0 = i.op := byt_in _ 0 _ (by rw [e1]; rfl) (by omega) (by omega)
 have hsz : (zO (xl i)).size = (xl i).length := yo _
 have hpos : 0 < (xl i).length := by rw [e1]; simp
 have hop' : byt (zO (xl i) ++ more) 0 = i.op := by rw [byt_append _ _ 0 (by omega), hop]
 have hrd : jl (zO (xl i) ++ more) = i := by
  rw [readB_eq _ (by rw [hop']; exact h0), hop', ← hz]
  have hr := readL_eq i hi hv
  rw [rdF_congr _ (byt (zO (xl i) ++ more)) (byt (zO (xl i))) _ _ (fmt_rng h0) (fun k hk => byt_append _ _ k (by
   have : xG.getD (zw i.op).toNat 0 = i.size := by rw [hz]; rfl
   omega))]
  exact hr
 have hsize : (zO (xl i) ++ more).size = (xl i).length + more.size := by rw [ByteArray.size_append, hsz]
 have hE : decE (zO (xl i) ++ more) = 0 := by
  unfold decE
  rw [if_neg (by omega), hop', (fOf_some h0).1, hrd, hv, ju, ← hz]
  rw [if_pos rfl, if_neg (by omega), if_pos rfl]
 exact ⟨hE, by unfold decI; rw [if_pos hE]; exact hrd⟩
end Go.Proofs.Ythebmoggbgldmaa
namespace Go.Proofs.Ythebmoggbgldmaa
open Go.RowKit
structure yw where
 bank : Int
 addr : Int
def tgt (i : Ins) (p : yw) : Int := (p.addr + i.size + i.imm) % 65536
theorem tgt_lo (i : Ins) (p : yw) : 0 ≤ tgt i p := by unfold tgt; omega
theorem tgt_hi (i : Ins) (p : yw) : tgt i p < 65536 := by unfold tgt; omega
theorem tgt_eq (i : Ins) (p : yw) : IntKind.u16.wrap (IntKind.u16.wrap (p.addr + i.size) + i.imm) = tgt i p := by
 unfold tgt IntKind.wrap; simp [IntKind.bits, IntKind.signed]
theorem rsizeTab_bd : ∀ n : Nat, n < 19 → 0 ≤ xG.getD n 0 ∧ xG.getD n 0 ≤ 7 := by decide +kernel
theorem rsizeS_bd (op : Int) : 0 ≤ zp op ∧ zp op ≤ 7 := by
 have h := fmtS_bd op
 exact rsizeTab_bd _ (by omega)
theorem valid_size {i : Ins} (hi : i.Ok) (h : zQ i = true) : i.size = zp i.op := by
 rw [yR i hi] at h
 unfold zR at h
 simp only [Bool.and_eq_true, beq_iff_eq] at h
 exact h.1.2
theorem valid_size_bd {i : Ins} (hi : i.Ok) (h : zQ i = true) : 0 ≤ i.size ∧ i.size ≤ 7 := by
 rw [valid_size hi h]; exact rsizeS_bd _
def winS (a : Int) : Bool := decide (4096 ≤ a) && decide (a < 8192)
def relS (op : Int) : Bool := (decide (96 ≤ op) && decide (op ≤ 130)) || (op == 133)
def farS (op : Int) : Bool := (op == 131) || (op == 132)
def targetS (i : Ins) (p : yw) : yw × Bool :=
 if zQ i then
  if relS i.op then
   if winS (tgt i p) then (if winS p.addr then (⟨p.bank, tgt i p⟩, true) else (⟨0, 0⟩, false)) else (⟨0, tgt i p⟩, true)
  else if farS i.op then (if winS i.imm then (⟨i.bank, i.imm⟩, true) else (⟨0, i.imm⟩, true))
  else (⟨0, 0⟩, false)
 else (⟨0, 0⟩, false)
structure THeld (i : Ins) (p : yw) (w W : World) : Prop where
 ci : ∀ o : Nat, W.cell? ⟨w.heap.size, o, none⟩ = (#[Value.int .i64 i.op, .int .i64 i.d, .int .i64 i.s, .int .u16 i.imm, .int .u16 i.aux, .int .i64 i.bank, .int .i64 i.size] : Array Value)[o]?
 cp : ∀ o : Nat, W.cell? ⟨w.heap.size + 1, o, none⟩ = (#[Value.int .i64 p.bank, .int .u16 p.addr] : Array Value)[o]?
 b0 : W.heap[w.heap.size]? = some (.cells #[.int .i64 i.op, .int .i64 i.d, .int .i64 i.s, .int .u16 i.imm, .int .u16 i.aux, .int .i64 i.bank, .int .i64 i.size] 53 (0, 0))
 bp : W.heap[w.heap.size + 1]? = some (.cells #[.int .i64 p.bank, .int .u16 p.addr] 37 (0, 0))
 br : W.heap[w.heap.size + 2]? = some (.cells #[.int .i64 0, .int .u16 0] 37 (0, 0))
 z : w.heap.size + 3 ≤ W.heap.size
 bb : Below w.heap.size w W
theorem THeld.stay {i p w W W'} (h : THeld i p w W) (hb : Below W.heap.size W W') : THeld i p w W' :=
 ⟨fun o => (hb.cell (by have := h.z; show w.heap.size < _; omega)).trans (h.ci o), fun o => (hb.cell (by have := h.z; show w.heap.size + 1 < _; omega)).trans (h.cp o),
 (hb.block _ (by have := h.z; omega)).trans h.b0, (hb.block _ (by have := h.z; omega)).trans h.bp, (hb.block _ (by have := h.z; omega)).trans h.br, Nat.le_trans h.z hb.size, h.bb.trans (hb.mono (by have := h.z; omega))⟩
theorem THeld.first (i : Ins) (p : yw) (w : World) : THeld i p w (((w.alloc (.cells #[.int .i64 i.op, .int .i64 i.d, .int .i64 i.s, .int .u16 i.imm, .int .u16 i.aux, .int .i64 i.bank, .int .i64 i.size] 53)).alloc (.cells #[.int .i64 p.bank, .int .u16 p.addr] 37)).alloc (.cells #[.int .i64 0, .int .u16 0] 37)) := by
 have h0 : (((w.alloc (.cells #[.int .i64 i.op, .int .i64 i.d, .int .i64 i.s, .int .u16 i.imm, .int .u16 i.aux, .int .i64 i.bank, .int .i64 i.size] 53)).alloc (.cells #[.int .i64 p.bank, .int .u16 p.addr] 37)).alloc (.cells #[.int .i64 0, .int .u16 0] 37)).heap[w.heap.size]? = some (.cells #[.int .i64 i.op, .int .i64 i.d, .int .i64 i.s, .int .u16 i.imm, .int .u16 i.aux, .int .i64 i.bank, .int .i64 i.size] 53 (0, 0)) :=
  (heap_alloc_old _ _ (by simp <;> omega)).trans (heap_alloc2_old _ _ _)
 have h1 : (((w.alloc (.cells #[.int .i64 i.op, .int .i64 i.d, .int .i64 i.s, .int .u16 i.imm, .int .u16 i.aux, .int .i64 i.bank, .int .i64 i.size] 53)).alloc (.cells #[.int .i64 p.bank, .int .u16 p.addr] 37)).alloc (.cells #[.int .i64 0, .int .u16 0] 37)).heap[w.heap.size + 1]? = some (.cells #[.int .i64 p.bank, .int .u16 p.addr] 37 (0, 0)) :=
  (heap_alloc_old _ _ (by simp <;> omega)).trans (heap_alloc2_new _ _ _)
 refine ⟨fun o => cell_of_row _ _ _ _ _ _ h0, fun o => cell_of_row _ _ _ _ _ _ h1, h0, h1, ?_, by simp <;> omega, (((Below.refl _ _).alloc (zn _) _).alloc (by simp) _).alloc (by simp <;> omega) _⟩
 have := heap_alloc_new ((w.alloc (.cells #[.int .i64 i.op, .int .i64 i.d, .int .i64 i.s, .int .u16 i.imm, .int .u16 i.aux, .int .i64 i.bank, .int .i64 i.size] 53)).alloc (.cells #[.int .i64 p.bank, .int .u16 p.addr] 37)) (.cells #[.int .i64 0, .int .u16 0] 37)
 simpa using this
end Go.Proofs.Ythebmoggbgldmaa
