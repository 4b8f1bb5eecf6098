/- Encoding and decoding of package isa: plain laws, no program in sight. -/
import Derived.Test.YteofmaiojepdkaaGreatSaRefD
import Derived.Deep.AppendLies
set_option linter.all false
namespace Go.Proofs.YteofmaiojepdkaaGreat
open Go.RowKit
structure zc where
  bank : Int
  addr : Int
def tgt (i : Ins) (p : zc) : Int := (p.addr + i.size + i.imm) % 65536
theorem tgt_lo (i : Ins) (p : zc) : 0 ≤ tgt i p := by unfold tgt; omega
theorem tgt_hi (i : Ins) (p : zc) : tgt i p < 65536 := by unfold tgt; omega
theorem tgt_eq (i : Ins) (p : zc) : IntKind.u16.wrap (IntKind.u16.wrap (p.addr + i.size) + i.imm) = tgt i p := by
  unfold tgt IntKind.wrap; simp [IntKind.bits, IntKind.signed]
theorem rsizeTab_bd : ∀ n : Nat, n < 19 → 0 ≤ yH.getD n 0 ∧ yH.getD n 0 ≤ 7 := by decide +kernel
theorem rsizeS_bd (op : Int) : 0 ≤ zu op ∧ zu op ≤ 7 := by
  have h := fmtS_bd op
  exact rsizeTab_bd _ (by omega)
theorem valid_size {i : Ins} (hi : i.Ok) (h : zl i = true) : i.size = zu i.op := by
  rw [valid_eq i hi] at h
  unfold zq at h
  simp only [Bool.and_eq_true, beq_iff_eq] at h
  exact h.1.2
theorem valid_size_bd {i : Ins} (hi : i.Ok) (h : zl i = true) : 0 ≤ i.size ∧ i.size ≤ 7 := by
  rw [valid_size hi h]; exact rsizeS_bd _
def winS (a : Int) : Bool := decide (4096 ≤ a) && decide (a < 8192)
def relS (op : Int) : Bool := (decide (96 ≤ op) && decide (op ≤ 130)) || (op == 133)
def farS (op : Int) : Bool := (op == 131) || (op == 132)
def stopS (op : Int) : Bool := (op == 1) || (op == 2) || (op == 3) || (op == 128) || (op == 129) || (op == 131) || (op == 133) || (op == 134)
def fallsS (i : Ins) : Bool := !stopS i.op && zl i
def zX (i : Ins) (p : zc) : zc × Bool :=
  if zl i then
    if relS i.op then
      if winS (tgt i p) then (if winS p.addr then (⟨p.bank, tgt i p⟩, true) else (⟨0, 0⟩, false)) else (⟨0, tgt i p⟩, true)
    else if farS i.op then (if winS i.imm then (⟨i.bank, i.imm⟩, true) else (⟨0, i.imm⟩, true))
    else (⟨0, 0⟩, false)
  else (⟨0, 0⟩, false)
structure THeld (i : Ins) (p : zc) (w W : World) : Prop where
  ci : ∀ o : Nat, W.cell? ⟨w.heap.size, o, none⟩ = (#[Value.int .i64 i.op, .int .i64 i.d, .int .i64 i.s, .int .u16 i.imm, .int .u16 i.aux, .int .i64 i.bank, .int .i64 i.size] : Array Value)[o]?
  cp : ∀ o : Nat, W.cell? ⟨w.heap.size + 1, o, none⟩ = (#[Value.int .i64 p.bank, .int .u16 p.addr] : Array Value)[o]?
  b0 : W.heap[w.heap.size]? = some (.cells #[.int .i64 i.op, .int .i64 i.d, .int .i64 i.s, .int .u16 i.imm, .int .u16 i.aux, .int .i64 i.bank, .int .i64 i.size] 53 (0, 0))
  bp : W.heap[w.heap.size + 1]? = some (.cells #[.int .i64 p.bank, .int .u16 p.addr] 47 (0, 0))
  br : W.heap[w.heap.size + 2]? = some (.cells #[.int .i64 0, .int .u16 0] 47 (0, 0))
  z : w.heap.size + 3 ≤ W.heap.size
  bb : Below w.heap.size w W
theorem THeld.stay {i p w W W'} (h : THeld i p w W) (hb : Below W.heap.size W W') : THeld i p w W' :=
  ⟨fun o => (hb.cell (by have := h.z; show w.heap.size < _; omega)).trans (h.ci o), fun o => (hb.cell (by have := h.z; show w.heap.size + 1 < _; omega)).trans (h.cp o),
   (hb.block _ (by have := h.z; omega)).trans h.b0, (hb.block _ (by have := h.z; omega)).trans h.bp, (hb.block _ (by have := h.z; omega)).trans h.br, Nat.le_trans h.z hb.size, h.bb.trans (hb.mono (by have := h.z; omega))⟩
theorem THeld.first (i : Ins) (p : zc) (w : World) : THeld i p w (((w.alloc (.cells #[.int .i64 i.op, .int .i64 i.d, .int .i64 i.s, .int .u16 i.imm, .int .u16 i.aux, .int .i64 i.bank, .int .i64 i.size] 53)).alloc (.cells #[.int .i64 p.bank, .int .u16 p.addr] 47)).alloc (.cells #[.int .i64 0, .int .u16 0] 47)) := by
  have h0 : (((w.alloc (.cells #[.int .i64 i.op, .int .i64 i.d, .int .i64 i.s, .int .u16 i.imm, .int .u16 i.aux, .int .i64 i.bank, .int .i64 i.size] 53)).alloc (.cells #[.int .i64 p.bank, .int .u16 p.addr] 47)).alloc (.cells #[.int .i64 0, .int .u16 0] 47)).heap[w.heap.size]? = some (.cells #[.int .i64 i.op, .int .i64 i.d, .int .i64 i.s, .int .u16 i.imm, .int .u16 i.aux, .int .i64 i.bank, .int .i64 i.size] 53 (0, 0)) :=
    (heap_alloc_old _ _ (by simp <;> omega)).trans (heap_alloc2_old _ _ _)
  have h1 : (((w.alloc (.cells #[.int .i64 i.op, .int .i64 i.d, .int .i64 i.s, .int .u16 i.imm, .int .u16 i.aux, .int .i64 i.bank, .int .i64 i.size] 53)).alloc (.cells #[.int .i64 p.bank, .int .u16 p.addr] 47)).alloc (.cells #[.int .i64 0, .int .u16 0] 47)).heap[w.heap.size + 1]? = some (.cells #[.int .i64 p.bank, .int .u16 p.addr] 47 (0, 0)) :=
    (heap_alloc_old _ _ (by simp <;> omega)).trans (heap_alloc2_new _ _ _)
  refine ⟨fun o => cell_of_row _ _ _ _ _ _ h0, fun o => cell_of_row _ _ _ _ _ _ h1, h0, h1, ?_, by simp <;> omega, (((Below.refl _ _).alloc (zn _) _).alloc (by simp) _).alloc (by simp <;> omega) _⟩
  have := heap_alloc_new ((w.alloc (.cells #[.int .i64 i.op, .int .i64 i.d, .int .i64 i.s, .int .u16 i.imm, .int .u16 i.aux, .int .i64 i.bank, .int .i64 i.size] 53)).alloc (.cells #[.int .i64 p.bank, .int .u16 p.addr] 47)) (.cells #[.int .i64 0, .int .u16 0] 47)
  simpa using this
end Go.Proofs.YteofmaiojepdkaaGreat
namespace Go.Proofs.YteofmaiojepdkaaGreat
open Go.RowKit
def refTail (f : Int) (i : Ins) : List Int :=
  if f = 2 then [i.d]
  else if f = 3 ∨ f = 10 then [i.imm % 256]
  else if f = 4 then [16 * i.d + i.s]
  else if f = 5 ∨ f = 15 ∨ f = 18 then [i.d, i.imm % 256]
  else if f = 6 ∨ f = 9 ∨ f = 14 then [i.d, i.imm % 256, i.imm / 256]
  else if f = 7 then [16 * i.d + i.s, i.imm % 256]
  else if f = 8 then [16 * i.d + i.s, i.imm % 256, i.imm / 256]
  else if f = 11 then [i.imm % 256, i.imm / 256]
  else if f = 12 then [i.bank, i.imm % 256, i.imm / 256]
  else if f = 13 then [i.d, i.bank, i.imm % 256, i.imm / 256, i.aux % 256, i.aux / 256]
  else if f = 16 then [16 * i.d + i.s, i.bank, i.imm % 256, i.imm / 256]
  else if f = 17 then [i.s, i.imm % 256, i.imm / 256, i.aux % 256, i.aux / 256]
  else []
/-- The four fields of a format. -/
def fldTab (f : Int) : List Int :=
  if f = 2 then [2, 0, 0, 0] else if f = 3 then [4, 0, 0, 0] else if f = 4 then [1, 0, 0, 0] else if f = 5 then [2, 5, 0, 0] else if f = 6 then [2, 6, 0, 0]
  else if f = 7 then [1, 5, 0, 0] else if f = 8 then [1, 6, 0, 0] else if f = 9 then [2, 6, 0, 0] else if f = 10 then [5, 0, 0, 0] else if f = 11 then [6, 0, 0, 0]
  else if f = 12 then [8, 6, 0, 0] else if f = 13 then [2, 9, 6, 7] else if f = 14 then [2, 6, 0, 0] else if f = 15 then [2, 4, 0, 0] else if f = 16 then [1, 8, 6, 0]
  else if f = 17 then [3, 6, 7, 0] else if f = 18 then [2, 5, 0, 0] else [0, 0, 0, 0]
theorem fld_tab : ∀ n : Nat, n < 164 → zx n ≠ 0 → [fld n 0, fld n 1, fld n 2, fld n 3] = fldTab (zx n) ∧ zm n = zu n ∧ (fOf n).isSome = true := by decide +kernel
theorem fld_none0 : ∀ n : Nat, n < 164 → zx n = 0 → fOf n = none ∧ zm n = 0 ∧ zu n = 0 := by decide +kernel
theorem fOf_out {op : Int} (h : ¬ (0 ≤ op ∧ op ≤ 163)) : fOf op = none := by
  cases hk : fOf op with
  | none => rfl
  | some k => have := yI hk; omega
theorem fOf_zero {op : Int} (h : zx op = 0) : fOf op = none := by
  by_cases h0 : 0 ≤ op ∧ op ≤ 163
  · obtain ⟨n, hn⟩ : ∃ n : Nat, op = n := ⟨op.toNat, by omega⟩
    subst hn
    exact (fld_none0 n (by omega) h).1
  · exact fOf_out h0
theorem fOf_some {op : Int} (h : zx op ≠ 0) : (fOf op).isSome = true ∧ zm op = zu op ∧ [fld op 0, fld op 1, fld op 2, fld op 3] = fldTab (zx op) := by
  have h0 := op_of_fmt h
  obtain ⟨n, hn⟩ : ∃ n : Nat, op = n := ⟨op.toNat, by omega⟩
  subst hn
  obtain ⟨a, b, c⟩ := fld_tab n (by omega) h
  exact ⟨c, b, a⟩
theorem fldF_tab {op : Int} (h : zx op ≠ 0) : zJ op = fF ((fldTab (zx op)).getD 0 0) ((fldTab (zx op)).getD 1 0) ((fldTab (zx op)).getD 2 0) ((fldTab (zx op)).getD 3 0) := by
  rw [← (fOf_some h).2.2]; rfl
theorem size_eq (op : Int) : zm op = zu op := by
  by_cases h : zx op = 0
  · have e := fOf_zero h
    unfold zm zu; rw [e, h]; rfl
  · exact (fOf_some h).2.1
theorem fmt18' (op : Int) (h : zx op ≠ 0) : zx op = 1 ∨ zx op = 2 ∨ zx op = 3 ∨ zx op = 4 ∨ zx op = 5 ∨ zx op = 6 ∨ zx op = 7 ∨ zx op = 8 ∨ zx op = 9 ∨ zx op = 10 ∨ zx op = 11 ∨ zx op = 12 ∨ zx op = 13 ∨ zx op = 14 ∨ zx op = 15 ∨ zx op = 16 ∨ zx op = 17 ∨ zx op = 18 := by
  have := fmtS_bd op; omega
theorem bytes_tail (i : Ins) (h : zx i.op ≠ 0) : zi i (zJ i.op) 4 = i.op :: refTail (zx i.op) i := by
  rw [fldF_tab h]
  rcases fmt18' _ h with e | e | e | e | e | e | e | e | e | e | e | e | e | e | e | e | e | e <;> (rw [e]; simp [zi, zY, fF, fldTab, refTail])
/-- A valid instruction's numbers are small. -/
theorem valid_small (i : Ins) (hi : i.Ok) (hv : zl i = true) : zx i.op ≠ 0 ∧ (0 ≤ i.op ∧ i.op ≤ 163) ∧ (0 ≤ i.d ∧ i.d < 8) ∧ (0 ≤ i.s ∧ i.s < 8) ∧ (0 ≤ i.bank ∧ i.bank < 256) ∧ i.size = zu i.op := by
  rw [valid_eq i hi] at hv
  unfold zq at hv
  simp only [Bool.and_eq_true, Bool.not_eq_true', beq_eq_false_iff_ne, beq_iff_eq] at hv
  obtain ⟨⟨h1, h2⟩, h3⟩ := hv
  refine ⟨h1, op_of_fmt h1, ?_⟩
  rw [and_comm, and_comm (a := 0 ≤ i.s ∧ i.s < 8), and_assoc] at *
  rcases fmt18' _ h1 with e | e | e | e | e | e | e | e | e | e | e | e | e | e | e | e | e | e <;> (rw [e] at h3; simp [zM, zH] at h3; omega)
end Go.Proofs.YteofmaiojepdkaaGreat
namespace Go.Proofs.YteofmaiojepdkaaGreat
open Go.RowKit
/-- What the bytes of an instruction say, format by format. -/
def rdF (f : Int) (b : Nat → Int) (op sz : Int) : Ins :=
  if f = 2 then ⟨op, b 1, 0, 0, 0, 0, sz⟩
  else if f = 3 then ⟨op, 0, 0, b 1, 0, 0, sz⟩
  else if f = 4 then ⟨op, b 1 / 16, b 1 % 16, 0, 0, 0, sz⟩
  else if f = 5 ∨ f = 18 then ⟨op, b 1, 0, zQ (b 2), 0, 0, sz⟩
  else if f = 6 ∨ f = 9 ∨ f = 14 then ⟨op, b 1, 0, b 2 + 256 * b 3, 0, 0, sz⟩
  else if f = 7 then ⟨op, b 1 / 16, b 1 % 16, zQ (b 2), 0, 0, sz⟩
  else if f = 8 then ⟨op, b 1 / 16, b 1 % 16, b 2 + 256 * b 3, 0, 0, sz⟩
  else if f = 10 then ⟨op, 0, 0, zQ (b 1), 0, 0, sz⟩
  else if f = 11 then ⟨op, 0, 0, b 1 + 256 * b 2, 0, 0, sz⟩
  else if f = 12 then ⟨op, 0, 0, b 2 + 256 * b 3, 0, b 1, sz⟩
  else if f = 13 then ⟨op, b 1, 0, b 3 + 256 * b 4, b 5 + 256 * b 6, b 2, sz⟩
  else if f = 15 then ⟨op, b 1, 0, b 2, 0, 0, sz⟩
  else if f = 16 then ⟨op, b 1 / 16, b 1 % 16, b 3 + 256 * b 4, 0, b 2, sz⟩
  else if f = 17 then ⟨op, 0, b 1, b 2 + 256 * b 3, b 4 + 256 * b 5, 0, sz⟩
  else ⟨op, 0, 0, 0, 0, 0, sz⟩
theorem ite_op {c : Prop} [Decidable c] {x y : Ins} {n : Int} (hx : x.op = n) (hy : y.op = n) : (if c then x else y).op = n := by
  by_cases h : c
  · rw [if_pos h]; exact hx
  · rw [if_neg h]; exact hy
theorem rdF_op (f : Int) (b : Nat → Int) (op sz : Int) : (rdF f b op sz).op = op := by
  unfold rdF
  repeat (first | rfl | refine ite_op rfl ?_)
theorem readB_eq (s : ByteArray) (h : zx (byt s 0) ≠ 0) : yR s = rdF (zx (byt s 0)) (byt s) (byt s 0) (zu (byt s 0)) := by
  unfold yR
  rw [fldF_tab h]
  rcases fmt18' _ h with e | e | e | e | e | e | e | e | e | e | e | e | e | e | e | e | e | e <;> (rw [e]; simp [yt, zO, fF, fldTab, rdF, yd, size_eq])
theorem refTail_len (f : Int) (i : Ins) (hf : 1 ≤ f ∧ f ≤ 18) : ((i.op :: refTail f i).length : Int) = yH.getD f.toNat 0 := by
  have h18 : f = 1 ∨ f = 2 ∨ f = 3 ∨ f = 4 ∨ f = 5 ∨ f = 6 ∨ f = 7 ∨ f = 8 ∨ f = 9 ∨ f = 10 ∨ f = 11 ∨ f = 12 ∨ f = 13 ∨ f = 14 ∨ f = 15 ∨ f = 16 ∨ f = 17 ∨ f = 18 := by omega
  rcases h18 with e | e | e | e | e | e | e | e | e | e | e | e | e | e | e | e | e | e <;> (subst e; simp [refTail, yH])
theorem fmt_rng {op : Int} (h : zx op ≠ 0) : 1 ≤ zx op ∧ zx op ≤ 18 := by have := fmtS_bd op; omega
theorem enc_valid (i : Ins) (hi : i.Ok) (hv : zl i = true) : encB i = i.op :: refTail (zx i.op) i ∧ encE i = 0 ∧ ((encB i).length : Int) = i.size := by
  obtain ⟨h0, h1, -, -, -, hz⟩ := valid_small i hi hv
  have hs := (fOf_some h0).1
  have e1 : encB i = i.op :: refTail (zx i.op) i := by unfold encB; rw [hs, hv]; exact bytes_tail i h0
  refine ⟨e1, by unfold encE; rw [hs, hv]; rfl, ?_⟩
  rw [e1, refTail_len _ i (fmt_rng h0), hz]; rfl
theorem byt_append (s more : ByteArray) (k : Nat) (h : k < s.size) : byt (s ++ more) k = byt s k := by
  unfold byt
  have : (s ++ more).data.toList = s.data.toList ++ more.data.toList := by simp
  rw [this, List.getD_eq_getElem?_getD, List.getD_eq_getElem?_getD, List.getElem?_append_left (by simpa using h)]
theorem byt_in (l : List Int) (k : Nat) (x : Int) (h : l[k]? = some x) (h0 : 0 ≤ x) (h1 : x < 256) : byt (strOf l) k = x := ze l k x h h0 h1
theorem extend_mod (n : Int) (h0 : 0 ≤ n) (h1 : n < 256) : zQ n % 256 = n := by unfold zQ; split <;> omega
/-- Encoding what the bytes say gives the bytes. -/
theorem tail_rd (f : Int) (b : Nat → Int) (op sz : Int) (hf : 1 ≤ f ∧ f ≤ 18) (hb : ∀ k, 0 ≤ b k ∧ b k < 256) (k : Nat) (hk : 1 ≤ k ∧ (k : Int) < yH.getD f.toNat 0) : (refTail f (rdF f b op sz))[k - 1]? = some (b k) := by
  have h18 : f = 1 ∨ f = 2 ∨ f = 3 ∨ f = 4 ∨ f = 5 ∨ f = 6 ∨ f = 7 ∨ f = 8 ∨ f = 9 ∨ f = 10 ∨ f = 11 ∨ f = 12 ∨ f = 13 ∨ f = 14 ∨ f = 15 ∨ f = 16 ∨ f = 17 ∨ f = 18 := by omega
  have b1 := hb 1
  have b2 := hb 2
  have b3 := hb 3
  have b4 := hb 4
  have b5 := hb 5
  have b6 := hb 6
  have m1 := extend_mod (b 1) b1.1 b1.2
  have m2 := extend_mod (b 2) b2.1 b2.2
  have hk7 : k = 1 ∨ k = 2 ∨ k = 3 ∨ k = 4 ∨ k = 5 ∨ k = 6 ∨ 7 ≤ k := by omega
  have hmax : yH.getD f.toNat 0 ≤ 7 := by
    have : ∀ n : Nat, n ≤ 18 → yH.getD n 0 ≤ 7 := by decide
    exact this _ (by omega)
  rcases h18 with e | e | e | e | e | e | e | e | e | e | e | e | e | e | e | e | e | e <;> (subst e; simp [yH] at hk) <;>
    (rcases hk7 with e | e | e | e | e | e | e <;> first | (exfalso; omega) | (subst e; simp [refTail, rdF, m1, m2] <;> omega))
/-- What Decode accepts. -/
theorem dec_unique (t : ByteArray) (h : decE t = 0) : (decI t).Ok ∧ zl (decI t) = true ∧ (encB (decI t)).length ≤ t.size ∧ ∀ k, k < (encB (decI t)).length → byt (strOf (encB (decI t))) k = byt t k := by
  have hI : decI t = yR t := by unfold decI; rw [if_pos h]
  rw [hI]
  unfold decE at h
  split at h
  · cases h
  rename_i hz0
  split at h
  · rename_i hfo
    split at h
    · cases h
    rename_i hsz
    split at h
    · rename_i hv
      have hok : (yR t).Ok := rdTo_ok t _ 4
      obtain ⟨h0, h1, -, -, -, hz⟩ := valid_small _ hok hv
      obtain ⟨e1, -, hl⟩ := enc_valid _ hok hv
      have hf0 : zx (byt t 0) ≠ 0 := fun e => by rw [fOf_zero e] at hfo; cases hfo
      have hrd := readB_eq t hf0
      have hop : (yR t).op = byt t 0 := by
        rw [hrd]; exact rdF_op _ _ _ _
      have hbd := ys t
      rw [size_eq] at hsz
      rw [hop] at hz
      refine ⟨hok, hv, by omega, fun k hk => ?_⟩
      have hb0 := hbd k
      refine byt_in _ k _ ?_ hb0.1 hb0.2
      rw [e1, hop]
      rcases k with _ | k
      · rfl
      · rw [List.getElem?_cons_succ, hrd]
        have hkk : ((k + 1 : Nat) : Int) < yH.getD (zx (byt t 0)).toNat 0 := by
          have : zu (byt t 0) = yH.getD (zx (byt t 0)).toNat 0 := rfl
          omega
        exact tail_rd _ (byt t) _ _ (fmt_rng hf0) hbd (k + 1) ⟨by omega, hkk⟩
    · cases h
  · cases h
end Go.Proofs.YteofmaiojepdkaaGreat
