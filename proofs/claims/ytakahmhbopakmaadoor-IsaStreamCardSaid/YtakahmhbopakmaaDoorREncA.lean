/- Encode of the reference: the bytes behind the operation, and what the walk keeps. Plain but for the contract of two. -/
import Derived.Test.YtakahmhbopakmaaDoorRefD
import Derived.Test.YtakahmhbopakmaaDoorRefE
import Derived.Deep.AppendLies
set_option linter.all false
namespace Go.Proofs.YtakahmhbopakmaaDoor
open Go.RowKit

def refTail (f : Int) (i : Ins) : List Int :=
  if f = 2 then [i.d]
  else if f = 3 ∨ f = 10 then [i.imm % 256]
  else if f = 4 then [16 * i.d + i.s]
  else if f = 5 ∨ f = 15 ∨ f = 18 then [i.d, i.imm % 256]
  else if f = 6 ∨ f = 9 ∨ f = 14 then [i.d, i.imm % 256, i.imm / 256]
  else if f = 7 then [16 * i.d + i.s, i.imm % 256]
  else if f = 8 then [16 * i.d + i.s, i.imm % 256, i.imm / 256]
  else if f = 11 then [i.imm % 256, i.imm / 256]
  else if f = 12 then [i.bank, i.imm % 256, i.imm / 256]
  else if f = 13 then [i.d, i.bank, i.imm % 256, i.imm / 256, i.aux % 256, i.aux / 256]
  else if f = 16 then [16 * i.d + i.s, i.bank, i.imm % 256, i.imm / 256]
  else if f = 17 then [i.s, i.imm % 256, i.imm / 256, i.aux % 256, i.aux / 256]
  else []
/-- The four fields of a format. -/
def fldTab (f : Int) : List Int :=
  if f = 2 then [2, 0, 0, 0] else if f = 3 then [4, 0, 0, 0] else if f = 4 then [1, 0, 0, 0] else if f = 5 then [2, 5, 0, 0] else if f = 6 then [2, 6, 0, 0]
  else if f = 7 then [1, 5, 0, 0] else if f = 8 then [1, 6, 0, 0] else if f = 9 then [2, 6, 0, 0] else if f = 10 then [5, 0, 0, 0] else if f = 11 then [6, 0, 0, 0]
  else if f = 12 then [8, 6, 0, 0] else if f = 13 then [2, 9, 6, 7] else if f = 14 then [2, 6, 0, 0] else if f = 15 then [2, 4, 0, 0] else if f = 16 then [1, 8, 6, 0]
  else if f = 17 then [3, 6, 7, 0] else if f = 18 then [2, 5, 0, 0] else [0, 0, 0, 0]
theorem fld_tab : ∀ n : Nat, n < 164 → fmtS n ≠ 0 → [fld n 0, fld n 1, fld n 2, fld n 3] = fldTab (fmtS n) ∧ sizeS n = rsizeS n ∧ (fOf n).isSome = true := by decide +kernel
theorem fld_none0 : ∀ n : Nat, n < 164 → fmtS n = 0 → fOf n = none ∧ sizeS n = 0 ∧ rsizeS n = 0 := by decide +kernel
theorem fOf_out {op : Int} (h : ¬ (0 ≤ op ∧ op ≤ 163)) : fOf op = none := by
  cases hk : fOf op with
  | none => rfl
  | some k => have := op_bd hk; omega
theorem fOf_zero {op : Int} (h : fmtS op = 0) : fOf op = none := by
  by_cases h0 : 0 ≤ op ∧ op ≤ 163
  · obtain ⟨n, hn⟩ : ∃ n : Nat, op = n := ⟨op.toNat, by omega⟩
    subst hn
    exact (fld_none0 n (by omega) h).1
  · exact fOf_out h0
theorem fOf_some {op : Int} (h : fmtS op ≠ 0) : (fOf op).isSome = true ∧ sizeS op = rsizeS op ∧ [fld op 0, fld op 1, fld op 2, fld op 3] = fldTab (fmtS op) := by
  have h0 := op_of_fmt h
  obtain ⟨n, hn⟩ : ∃ n : Nat, op = n := ⟨op.toNat, by omega⟩
  subst hn
  obtain ⟨a, b, c⟩ := fld_tab n (by omega) h
  exact ⟨c, b, a⟩
theorem fldF_tab {op : Int} (h : fmtS op ≠ 0) : fldF op = fF ((fldTab (fmtS op)).getD 0 0) ((fldTab (fmtS op)).getD 1 0) ((fldTab (fmtS op)).getD 2 0) ((fldTab (fmtS op)).getD 3 0) := by
  rw [← (fOf_some h).2.2]; rfl
theorem size_eq (op : Int) : sizeS op = rsizeS op := by
  by_cases h : fmtS op = 0
  · have e := fOf_zero h
    unfold sizeS rsizeS; rw [e, h]; rfl
  · exact (fOf_some h).2.1
theorem fmt18' (op : Int) (h : fmtS op ≠ 0) : fmtS op = 1 ∨ fmtS op = 2 ∨ fmtS op = 3 ∨ fmtS op = 4 ∨ fmtS op = 5 ∨ fmtS op = 6 ∨ fmtS op = 7 ∨ fmtS op = 8 ∨ fmtS op = 9 ∨ fmtS op = 10 ∨ fmtS op = 11 ∨ fmtS op = 12 ∨ fmtS op = 13 ∨ fmtS op = 14 ∨ fmtS op = 15 ∨ fmtS op = 16 ∨ fmtS op = 17 ∨ fmtS op = 18 := by
  have := fmtS_bd op; omega
theorem bytes_tail (i : Ins) (h : fmtS i.op ≠ 0) : bytesTo i (fldF i.op) 4 = i.op :: refTail (fmtS i.op) i := by
  rw [fldF_tab h]
  rcases fmt18' _ h with e | e | e | e | e | e | e | e | e | e | e | e | e | e | e | e | e | e <;> (rw [e]; simp [bytesTo, putS, fF, fldTab, refTail])
/-- A valid instruction's numbers are small. -/
theorem valid_small (i : Ins) (hi : i.Ok) (hv : validS i = true) : fmtS i.op ≠ 0 ∧ (0 ≤ i.op ∧ i.op ≤ 163) ∧ (0 ≤ i.d ∧ i.d < 8) ∧ (0 ≤ i.s ∧ i.s < 8) ∧ (0 ≤ i.bank ∧ i.bank < 256) ∧ i.size = rsizeS i.op := by
  rw [valid_eq i hi] at hv
  unfold rvalidS at hv
  simp only [Bool.and_eq_true, Bool.not_eq_true', beq_eq_false_iff_ne, beq_iff_eq] at hv
  obtain ⟨⟨h1, h2⟩, h3⟩ := hv
  refine ⟨h1, op_of_fmt h1, ?_⟩
  rw [and_comm, and_comm (a := 0 ≤ i.s ∧ i.s < 8), and_assoc] at *
  rcases fmt18' _ h1 with e | e | e | e | e | e | e | e | e | e | e | e | e | e | e | e | e | e <;> (rw [e] at h3; simp [rvBody, regB] at h3; omega)

theorem news_row (W : World) (o : Obj) {b : Nat} (h : W.heap.size = b) : (W.alloc o).heap[b]? = some o := by
  subst h; exact heap_alloc_new _ _

set_option maxHeartbeats 400000 in
theorem two_any (n : Int) (h0 : 0 ≤ n) (h1 : n < 65536) (w : World) :
    Calls Tryd.prog 37 #[.int .u16 n] w fun e w' => e = .returned (.slice (some ⟨w.heap.size, 0, none⟩) 2 2) ∧ w.alloc (.cells #[.int .u8 (n % 256), .int .u8 (n / 256)] 5) = w' := by
  have hw : IntKind.u8.wrap n = n % 256 := rfl
  have hw2 : IntKind.u8.wrap (n / 256) = n / 256 := IntWalk.u8_in _ (by omega)
  go_enter Tryd.func37, Tryd.ntmps37
  go_wp2
  go_ret
  exact ⟨rfl, rfl⟩

/-- What the walk of Encode keeps: the instruction's block, the blocks of the two words. -/
structure EHeld (i : Ins) (b : Nat) (w0 w : World) : Prop where
  ci : ∀ o : Nat, w.cell? ⟨w0.heap.size, o, none⟩ = (#[Value.int .i64 i.op, .int .i64 i.d, .int .i64 i.s, .int .u16 i.imm, .int .u16 i.aux, .int .i64 i.bank, .int .i64 i.size] : Array Value)[o]?
  c9 : ∀ o : Nat, w.cell? ⟨b + 1, o, none⟩ = (#[Value.int .u8 (i.imm % 256), .int .u8 (i.imm / 256)] : Array Value)[o]?
  c10 : ∀ o : Nat, w.cell? ⟨b + 2, o, none⟩ = (#[Value.int .u8 (i.aux % 256), .int .u8 (i.aux / 256)] : Array Value)[o]?
  own : w.ownsRow b 5 1 (.slice (some ⟨b, 0, none⟩) 1 1) 1 [vb i.op]
  hb : Below w0.heap.size w0 w
  lt : w0.heap.size < b
  gt : b + 2 < w.heap.size
theorem EHeld.stay {i b w0 w w1} (h : EHeld i b w0 w) (hb : Below w.heap.size w w1) : EHeld i b w0 w1 :=
  ⟨fun o => (hb.cell (by have := h.gt; have := h.lt; show w0.heap.size < _; omega)).trans (h.ci o), fun o => (hb.cell (by have := h.gt; show b + 1 < _; omega)).trans (h.c9 o), fun o => (hb.cell (by have := h.gt; show b + 2 < _; omega)).trans (h.c10 o),
   own_below h.own hb, h.hb.trans (hb.mono h.hb.size), h.lt, Nat.lt_of_lt_of_le h.gt hb.size⟩
theorem EHeld.drew {i b w0 w} (h : EHeld i b w0 w) : EHeld i b w0 w.drew := ⟨h.ci, h.c9, h.c10, own_below h.own ((Below.refl _ _).drew), h.hb.drew, h.lt, h.gt⟩
theorem EHeld.alloc {i b w0 w} (h : EHeld i b w0 w) (o : Obj) : EHeld i b w0 (w.alloc o) := h.stay ((Below.refl _ _).alloc (Nat.le_refl _) _)
/-- What is left at the end: a row with the bytes. -/
structure EEnd (i : Ins) (b : Nat) (v : Value) (w0 w : World) : Prop where
  own : w.ownsRow b 5 1 v (1 + (refTail (fmtS i.op) i).length) (bv (i.op :: refTail (fmtS i.op) i))
  hb : Below w0.heap.size w0 w
theorem EHeld.end {i b w0 w w1 v} (h : EHeld i b w0 w) (hg : w.grownBy w1 (some b)) (l : List Int) (hl : refTail (fmtS i.op) i = l) (own : w1.ownsRow b 5 1 v (1 + l.length) (bv (i.op :: l))) : EEnd i b v w0 w1 := by
  refine ⟨by rw [hl]; exact own, h.hb.grown hg h.hb.size (fun k hk => ?_)⟩
  cases hk
  exact Nat.le_of_lt h.lt

set_option maxRecDepth 100000 in
set_option maxHeartbeats 1000000 in
theorem rencode_none (i : Ins) (hf : fmtS i.op = 0) (w : World) :
    Calls Tryd.prog 19 #[.agg #[.int .i64 (i).op, .int .i64 (i).d, .int .i64 (i).s, .int .u16 (i).imm, .int .u16 (i).aux, .int .i64 (i).bank, .int .i64 (i).size]] w fun e w' => e = .returned (.tuple #[.string (strOf []), .int .i64 11]) ∧ Below w.heap.size w w' := by
  have HF := Lib.hid hf
  clear hf
  go_enter Tryd.func19, Tryd.ntmps19
  go_wp2_with (first | (go_at_call 32; refine (fmt_any _ _).mono ?_; rintro e w1 ⟨rfl, hb1⟩; rw [HF.out]))
  go_ret2
  exact ⟨rfl, (((Below.refl _ _).alloc (Nat.le_refl _) _).trans (hb1.mono (by simp)))⟩
set_option maxRecDepth 100000 in
set_option maxHeartbeats 1000000 in
theorem rencode_bad (i : Ins) (hf : fmtS i.op ≠ 0) (hv : rvalidS i = false) (w : World) :
    Calls Tryd.prog 19 #[.agg #[.int .i64 (i).op, .int .i64 (i).d, .int .i64 (i).s, .int .u16 (i).imm, .int .u16 (i).aux, .int .i64 (i).bank, .int .i64 (i).size]] w fun e w' => e = .returned (.tuple #[.string (strOf []), .int .i64 3]) ∧ Below w.heap.size w w' := by
  have hne : (fmtS i.op == 0) = false := by simpa using hf
  have HV := Lib.hid hv
  clear hf hv
  go_enter Tryd.func19, Tryd.ntmps19
  go_wp2_with (first
    | (go_at_call 32; refine (fmt_any _ _).mono ?_; rintro e w1 ⟨rfl, hb1⟩; have hz1 := hb1.size; simp at hz1; have HB1 := Lib.hid ((hb1.block w.heap.size (by simp)).trans (heap_alloc_new w _)))
    | (go_at_call 21; refine (rvalid_any i _).mono ?_; rintro e w2 ⟨rfl, hb2⟩; rw [HV.out])
    | (refine wpList_load_row rfl _ (.tmp 1) rfl _ rfl _ _ _ _ HB1.out Tryd.underlying24 rfl ?_ ?_; kernel_rfl))
  go_ret2
  exact ⟨rfl, (((Below.refl _ _).alloc (Nat.le_refl _) _).trans ((hb1.mono (by simp)).trans (hb2.mono (by omega))))⟩

end Go.Proofs.YtakahmhbopakmaaDoor
