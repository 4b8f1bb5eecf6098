/- Valid of the reference implementation, walked. -/
import Derived.Test.YteofmaiojepdkaaGreatSaIsaG
set_option linter.all false
namespace Go.Proofs.YteofmaiojepdkaaGreat
open Go.RowKit
theorem fAt_flds : ∀ m, m < 21 → ∀ j, j < 4 → 0 ≤ fAt m (j + 2) ∧ fAt m (j + 2) ≤ 9 := by decide
theorem put_width (f : Int) (i : Ins) (h0 : 0 ≤ f) (h9 : f ≤ 9) : ((zY f i).length : Int) = yz f := by
  have : f = 0 ∨ f = 1 ∨ f = 2 ∨ f = 3 ∨ f = 4 ∨ f = 5 ∨ f = 6 ∨ f = 7 ∨ f = 8 ∨ f = 9 := by omega
  rcases this with rfl | rfl | rfl | rfl | rfl | rfl | rfl | rfl | rfl | rfl <;> rfl
theorem fldF_some {op : Int} {k : Nat} (h : fOf op = some k) (j : Nat) (hj : j < 4) : zJ op j = fAt k (j + 2) := by
  unfold zJ
  have : j = 0 ∨ j = 1 ∨ j = 2 ∨ j = 3 := by omega
  rcases this with rfl | rfl | rfl | rfl <;> exact zd h _
theorem size_len {op : Int} {k : Nat} (h : fOf op = some k) (i : Ins) : ((zi i (zJ op) 4).length : Int) = zm op := by
  have hk := (yI h).2.2.1
  have e : ∀ j, j < 4 → ((zY (zJ op j) i).length : Int) = yz (fAt k (j + 2)) := fun j hj => by
    rw [fldF_some h j hj]
    obtain ⟨a, b⟩ := fAt_flds k hk j hj
    exact put_width _ i a b
  have h0 := e 0 (by omega)
  have h1 := e 1 (by omega)
  have h2 := e 2 (by omega)
  have h3 := e 3 (by omega)
  show (((((([i.op] ++ zY (zJ op 0) i) ++ zY (zJ op 1) i) ++ zY (zJ op 2) i) ++ zY (zJ op 3) i).length : Nat) : Int) = _
  have es : zm op = 1 + yz (fAt k 2) + yz (fAt k 3) + yz (fAt k 4) + yz (fAt k 5) := by unfold zm; rw [h]
  rw [es]
  simp only [Nat.zero_add, Nat.reduceAdd] at h0 h1 h2 h3
  simp only [List.length_append, List.length_cons, List.length_nil]
  omega
theorem sizeS_bd (op : Int) : 0 ≤ zm op ∧ zm op ≤ 9 := by
  unfold zm
  split
  · omega
  · rename_i k _
    have := yy (fAt k 2); have := yy (fAt k 3); have := yy (fAt k 4); have := yy (fAt k 5)
    omega
theorem extendS_bd (n : Int) (h0 : 0 ≤ n) (h1 : n < 256) : 0 ≤ zQ n ∧ zQ n < 65536 := by unfold zQ; split <;> omega
theorem ok_byte (n : Int) (h0 : 0 ≤ n) (h1 : n < 256) : i64ok n := ⟨by omega, by omega⟩
theorem rdStep_ok (s : ByteArray) (f : Int) (k : Nat) (i : Ins) (h : i.Ok) : (zO (byt s) f k i).2.Ok := by
  obtain ⟨b00, b01⟩ := ys s k
  obtain ⟨b10, b11⟩ := ys s (k + 1)
  have he := extendS_bd _ b00 b01
  have hw : 0 ≤ byt s k + 256 * byt s (k + 1) ∧ byt s k + 256 * byt s (k + 1) < 65536 := ⟨by omega, by omega⟩
  have hb : 0 ≤ byt s k ∧ byt s k < 65536 := ⟨by omega, by omega⟩
  have o1 := ok_byte _ b00 b01
  have o2 := ok_byte (byt s k / 16) (by omega) (by omega)
  have o3 := ok_byte (byt s k % 16) (by omega) (by omega)
  obtain ⟨p0, p1, p2, p3, p4, p5, p6⟩ := h
  unfold zO
  split
  · exact ⟨p0, o2, o3, p3, p4, p5, p6⟩
  split
  · exact ⟨p0, o1, p2, p3, p4, p5, p6⟩
  split
  · exact ⟨p0, p1, o1, p3, p4, p5, p6⟩
  split
  · exact { op := p0, d := p1, s := p2, imm := hb, aux := p4, bank := p5, size := p6 }
  split
  · refine ⟨p0, p1, p2, ?_, p4, p5, p6⟩
    simpa using he
  split
  · refine ⟨p0, p1, p2, ?_, p4, p5, p6⟩
    exact hw
  split
  · exact ⟨p0, p1, p2, p3, hw, p5, p6⟩
  split
  · exact ⟨p0, p1, p2, p3, p4, o1, p6⟩
  · exact ⟨p0, p1, p2, p3, p4, p5, p6⟩
theorem rdTo_ok (s : ByteArray) (F : Nat → Int) (j : Nat) : (yt (byt s) F (yd s) j).2.Ok := by
  induction j with
  | zero =>
    have b0 := ys s 0
    have b1 := sizeS_bd (byt s 0)
    have z : i64ok 0 := ok_byte 0 (by omega) (by omega)
    exact ⟨ok_byte _ b0.1 b0.2, z, z, ⟨by show (0 : Int) ≤ 0; omega, by show (0 : Int) < 65536; omega⟩, ⟨by show (0 : Int) ≤ 0; omega, by show (0 : Int) < 65536; omega⟩, z, ok_byte _ b1.1 (by show zm (byt s 0) < 256; omega)⟩
  | succ j ih => exact rdStep_ok s _ _ _ ih
/-- The instruction that the bytes of a string say, whether valid or not. -/
def yR (s : ByteArray) : Ins := (yt (byt s) (zJ (byt s 0)) (yd s) 4).2
def ya : Ins := ⟨0, 0, 0, 0, 0, 0, 0⟩
def decE (s : ByteArray) : Int := if s.size = 0 then 10 else if (fOf (byt s 0)).isSome then (if (s.size : Int) < zm (byt s 0) then 10 else if zl (yR s) then 0 else 11) else 11
def decI (s : ByteArray) : Ins := if decE s = 0 then yR s else ya
end Go.Proofs.YteofmaiojepdkaaGreat
namespace Go.Proofs.YteofmaiojepdkaaGreat
open Go.RowKit
def fmtTab : List Int := [
  1, 1, 1, 1, 1, 1, 0, 0, 0, 0, 0, 0, 0, 0, 0, 0,  2, 2, 2, 2, 3, 3, 0, 0, 0, 0, 0, 0, 0, 0, 0, 0,
  4, 4, 4, 4, 4, 4, 4, 4, 4, 4, 4, 4, 4, 4, 4, 0,  5, 5, 5, 5, 5, 5, 5, 5, 5, 5, 5, 5, 5, 5, 5, 0,
  6, 6, 6, 6, 6, 6, 6, 6, 6, 6, 6, 6, 6, 6, 6, 0,  7, 7, 7, 7, 9, 9, 9, 9, 8, 8, 8, 8, 0, 0, 0, 0,
  10, 10, 10, 10, 10, 10, 10, 10, 10, 10, 10, 10, 10, 10, 0, 0,  11, 11, 11, 11, 11, 11, 11, 11, 11, 11, 11, 11, 11, 11, 0, 0,
  10, 11, 11, 12, 12, 13, 14, 0, 0, 0, 0, 0, 0, 0, 0, 0,  15, 15, 16, 16, 0, 0, 17, 0, 0, 0, 0, 0, 0, 0, 0, 0,
  15, 15, 18, 18]
/-- The kind of the format of an operation, 0 if there is none. -/
def zx (op : Int) : Int := if 0 ≤ op ∧ op ≤ 163 then fmtTab.getD op.toNat 0 else 0
end Go.Proofs.YteofmaiojepdkaaGreat
namespace Go.Proofs.YteofmaiojepdkaaGreat
open Go.RowKit
def yH : List Int := [0, 1, 2, 2, 2, 3, 4, 3, 4, 4, 2, 3, 4, 7, 4, 3, 5, 6, 3]
def zu (op : Int) : Int := yH.getD (zx op).toNat 0
theorem fmtTab_bd : ∀ n, n < 164 → 0 ≤ fmtTab.getD n 0 ∧ fmtTab.getD n 0 ≤ 18 := by decide +kernel
theorem fmtS_bd (op : Int) : 0 ≤ zx op ∧ zx op ≤ 18 := by
  unfold zx
  split
  · exact fmtTab_bd _ (by omega)
  · omega
def yo (n : Int) : Bool := decide (n < 128) || decide (65408 ≤ n)
end Go.Proofs.YteofmaiojepdkaaGreat
namespace Go.Proofs.YteofmaiojepdkaaGreat
open Go.RowKit
def zM (f : Int) (i : Ins) : Bool :=
  if f = 1 then (i.d == 0) && (i.s == 0) && (i.imm == 0) && (i.aux == 0) && (i.bank == 0)
  else if f = 2 then zH i.d && (i.s == 0) && (i.imm == 0) && (i.aux == 0) && (i.bank == 0)
  else if f = 3 then (i.d == 0) && (i.s == 0) && decide (i.imm < 256) && (i.aux == 0) && (i.bank == 0)
  else if f = 4 then zH i.d && zH i.s && (i.imm == 0) && (i.aux == 0) && (i.bank == 0)
  else if f = 5 ∨ f = 18 then zH i.d && (i.s == 0) && yo i.imm && (i.aux == 0) && (i.bank == 0)
  else if f = 6 ∨ f = 9 ∨ f = 14 then zH i.d && (i.s == 0) && (i.aux == 0) && (i.bank == 0)
  else if f = 7 then zH i.d && zH i.s && yo i.imm && (i.aux == 0) && (i.bank == 0)
  else if f = 8 then zH i.d && zH i.s && (i.aux == 0) && (i.bank == 0)
  else if f = 10 then (i.d == 0) && (i.s == 0) && yo i.imm && (i.aux == 0) && (i.bank == 0)
  else if f = 11 then (i.d == 0) && (i.s == 0) && (i.aux == 0) && (i.bank == 0)
  else if f = 12 then (i.d == 0) && (i.s == 0) && (i.aux == 0) && (decide (0 ≤ i.bank) && decide (i.bank < 64))
  else if f = 13 then zH i.d && (i.s == 0) && decide (1 ≤ i.bank) && decide (i.bank < 256)
  else if f = 15 then zH i.d && (i.s == 0) && decide (i.imm < 256) && (i.aux == 0) && (i.bank == 0)
  else if f = 16 then zH i.d && zH i.s && (i.aux == 0) && (decide (0 ≤ i.bank) && decide (i.bank < 64))
  else (i.d == 0) && zH i.s && (i.bank == 0)
def zq (i : Ins) : Bool := !(zx i.op == 0) && (i.size == zu i.op) && zM (zx i.op) i
theorem op_of_fmt {op : Int} (hf : zx op ≠ 0) : 0 ≤ op ∧ op ≤ 163 := by
  by_cases h : 0 ≤ op ∧ op ≤ 163
  · exact h
  · unfold zx at hf; rw [if_neg h] at hf; exact absurd rfl hf
end Go.Proofs.YteofmaiojepdkaaGreat
