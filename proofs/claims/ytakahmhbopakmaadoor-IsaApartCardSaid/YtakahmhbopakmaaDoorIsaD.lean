/- fits and put of package isa. -/
import Derived.Test.YtakahmhbopakmaaDoorIsaC
import Derived.Test.YtakahmhbopakmaaDoorLaws
import Derived.Deep.QuietTactic
import Derived.BigQuiet
set_option linter.all false
namespace Go.Proofs.YtakahmhbopakmaaDoor
open Go.RowKit

def regB (n : Int) : Bool := decide (0 ≤ n) && decide (n < 8)
def fitsS (f : Int) (i : Ins) : Bool :=
  if f = 1 then regB i.d && regB i.s else if f = 2 then regB i.d else if f = 3 then regB i.s
  else if f = 4 then decide (i.imm < 256) else if f = 5 then decide (extendS (i.imm % 256) = i.imm)
  else if f = 8 then decide (0 ≤ i.bank) && decide (i.bank < 64) else if f = 9 then decide (1 ≤ i.bank) && decide (i.bank < 256) else true

set_option maxHeartbeats 400000 in
theorem reg_any (n : Int) (w : World) :
    Calls Tryd.prog 56 #[.int .i64 n] w fun e w' => e = .returned (.bool (regB n)) ∧ w = w' := by
  go_enter Tryd.func56, Tryd.ntmps56
  go_wp2
  all_goals (go_ret; exact ⟨by congr 2; unfold regB; first | (simp_all; done) | (simp_all; omega), rfl⟩)

set_option maxHeartbeats 1000000 in
theorem fits_any (f : Int) (i : Ins) (hi : i.Ok) (w : World) :
    Calls Tryd.prog 38 #[.int .i64 f, .agg #[.int .i64 (i).op, .int .i64 (i).d, .int .i64 (i).s, .int .u16 (i).imm, .int .u16 (i).aux, .int .i64 (i).bank, .int .i64 (i).size]] w fun e w' => e = .returned (.bool (fitsS f i)) ∧ Below w.heap.size w w' := by
  obtain ⟨m0, m1⟩ := hi.imm
  have ex := fun W => extend_any (i.imm % 256) (by omega) (by omega) W
  have EX := Lib.hid ex
  clear ex
  go_enter Tryd.func38, Tryd.ntmps38
  go_wp2_with (first | (go_at_call 56; refine (reg_any _ _).mono ?_; rintro e w1 ⟨rfl, rfl⟩))
  all_goals first
    | (go_ret; refine ⟨?_, (Below.refl _ _).alloc (Nat.le_refl _) _⟩; congr 2; unfold fitsS; first | (simp_all; done) | (simp_all; omega))
    | skip
  go_quiet ((go_at_call 57; exact Calls.quiet_of_same ((EX.out _).mono fun _ _ h => ⟨h.1, h.2.symm⟩)))
  go_wp2
  go_ret
  refine ⟨?_, ?_⟩
  · congr 2; unfold fitsS; simp_all; rfl
  · exact below_drewN ((Below.refl _ _).alloc (Nat.le_refl _) _) _

/-- The bytes of a field. -/
def putS (f : Int) (i : Ins) : List Int :=
  if f = 1 then [16 * i.d + i.s] else if f = 2 then [i.d] else if f = 3 then [i.s]
  else if f = 4 then [i.imm % 256] else if f = 5 then [i.imm % 256] else if f = 6 then [i.imm % 256, i.imm / 256]
  else if f = 7 then [i.aux % 256, i.aux / 256] else if f = 8 then [i.bank] else if f = 9 then [i.bank] else []

def PutPost (f : Int) (i : Ins) (w : World) (e : Ending) (w' : World) : Prop :=
  ∃ v, e = .returned v ∧ w'.ownsRow w.heap.size 5 1 v (putS f i).length (bv (putS f i)) ∧ Below w.heap.size w w'

theorem own_lit (w : World) (o : Obj) (l : List Int) (n : Nat) (hn : n = l.length) (hm : n ≤ 8) :
    ((w.alloc o).alloc (.cells (bv l).toArray 5)).ownsRow w.heap.size 5 1 (.slice (some ⟨w.heap.size + 1, 0, none⟩) n n) n (bv l) := by
  have h := World.ownsRow_lit (base := w.heap.size) (size := 1) (e := 5) (w.alloc o) (bv l).toArray n (by simp) (by unfold maxLen; omega) (by simp [bv, hn])
  simpa using h

set_option maxHeartbeats 1000000 in
theorem put_1 (i : Ins) (hi : i.Ok) (hf : fitsS 1 i = true) (w : World) :
    Calls Tryd.prog 36 #[.int .i64 1, .agg #[.int .i64 (i).op, .int .i64 (i).d, .int .i64 (i).s, .int .u16 (i).imm, .int .u16 (i).aux, .int .i64 (i).bank, .int .i64 (i).size]] w (PutPost 1 i w) := by
  obtain ⟨m0, m1⟩ := hi.imm
  obtain ⟨a0, a1⟩ := hi.aux
  simp [fitsS, regB] at hf
  have e : putS 1 i = [16 * i.d + i.s] := by simp [putS]
  have E := Lib.hid e
  clear e
  obtain ⟨⟨d0, d1⟩, s0, s1⟩ := hf
  go_enter Tryd.func36, Tryd.ntmps36
  go_wp2
  go_ret
  refine ⟨_, rfl, ?_, ((Below.refl _ _).alloc (Nat.le_refl _) _).alloc (by simp) _⟩
  rw [E.out]
  exact own_lit w _ [16 * i.d + i.s] 1 rfl (by decide)

set_option maxHeartbeats 1000000 in
theorem put_2 (i : Ins) (hi : i.Ok) (hf : fitsS 2 i = true) (w : World) :
    Calls Tryd.prog 36 #[.int .i64 2, .agg #[.int .i64 (i).op, .int .i64 (i).d, .int .i64 (i).s, .int .u16 (i).imm, .int .u16 (i).aux, .int .i64 (i).bank, .int .i64 (i).size]] w (PutPost 2 i w) := by
  obtain ⟨m0, m1⟩ := hi.imm
  obtain ⟨a0, a1⟩ := hi.aux
  simp [fitsS, regB] at hf
  have e : putS 2 i = [i.d] := by simp [putS]
  have E := Lib.hid e
  clear e
  obtain ⟨d0, d1⟩ := hf
  go_enter Tryd.func36, Tryd.ntmps36
  go_wp2
  go_ret
  refine ⟨_, rfl, ?_, ((Below.refl _ _).alloc (Nat.le_refl _) _).alloc (by simp) _⟩
  rw [E.out]
  exact own_lit w _ [i.d] 1 rfl (by decide)

set_option maxHeartbeats 1000000 in
theorem put_3 (i : Ins) (hi : i.Ok) (hf : fitsS 3 i = true) (w : World) :
    Calls Tryd.prog 36 #[.int .i64 3, .agg #[.int .i64 (i).op, .int .i64 (i).d, .int .i64 (i).s, .int .u16 (i).imm, .int .u16 (i).aux, .int .i64 (i).bank, .int .i64 (i).size]] w (PutPost 3 i w) := by
  obtain ⟨m0, m1⟩ := hi.imm
  obtain ⟨a0, a1⟩ := hi.aux
  simp [fitsS, regB] at hf
  have e : putS 3 i = [i.s] := by simp [putS]
  have E := Lib.hid e
  clear e
  obtain ⟨d0, d1⟩ := hf
  go_enter Tryd.func36, Tryd.ntmps36
  go_wp2
  go_ret
  refine ⟨_, rfl, ?_, ((Below.refl _ _).alloc (Nat.le_refl _) _).alloc (by simp) _⟩
  rw [E.out]
  exact own_lit w _ [i.s] 1 rfl (by decide)

set_option maxHeartbeats 1000000 in
theorem put_4 (i : Ins) (hi : i.Ok) (hf : fitsS 4 i = true) (w : World) :
    Calls Tryd.prog 36 #[.int .i64 4, .agg #[.int .i64 (i).op, .int .i64 (i).d, .int .i64 (i).s, .int .u16 (i).imm, .int .u16 (i).aux, .int .i64 (i).bank, .int .i64 (i).size]] w (PutPost 4 i w) := by
  obtain ⟨m0, m1⟩ := hi.imm
  obtain ⟨a0, a1⟩ := hi.aux
  simp [fitsS, regB] at hf
  have e : putS 4 i = [i.imm % 256] := by simp [putS]
  have E := Lib.hid e
  clear e
  clear hf
  go_enter Tryd.func36, Tryd.ntmps36
  go_wp2
  go_ret
  refine ⟨_, rfl, ?_, ((Below.refl _ _).alloc (Nat.le_refl _) _).alloc (by simp) _⟩
  rw [E.out]
  exact own_lit w _ [i.imm % 256] 1 rfl (by decide)

set_option maxHeartbeats 1000000 in
theorem put_5 (i : Ins) (hi : i.Ok) (hf : fitsS 5 i = true) (w : World) :
    Calls Tryd.prog 36 #[.int .i64 5, .agg #[.int .i64 (i).op, .int .i64 (i).d, .int .i64 (i).s, .int .u16 (i).imm, .int .u16 (i).aux, .int .i64 (i).bank, .int .i64 (i).size]] w (PutPost 5 i w) := by
  obtain ⟨m0, m1⟩ := hi.imm
  obtain ⟨a0, a1⟩ := hi.aux
  simp [fitsS, regB] at hf
  have e : putS 5 i = [i.imm % 256] := by simp [putS]
  have E := Lib.hid e
  clear e
  clear hf
  go_enter Tryd.func36, Tryd.ntmps36
  go_wp2
  go_ret
  refine ⟨_, rfl, ?_, ((Below.refl _ _).alloc (Nat.le_refl _) _).alloc (by simp) _⟩
  rw [E.out]
  exact own_lit w _ [i.imm % 256] 1 rfl (by decide)

set_option maxHeartbeats 1000000 in
theorem put_6 (i : Ins) (hi : i.Ok) (hf : fitsS 6 i = true) (w : World) :
    Calls Tryd.prog 36 #[.int .i64 6, .agg #[.int .i64 (i).op, .int .i64 (i).d, .int .i64 (i).s, .int .u16 (i).imm, .int .u16 (i).aux, .int .i64 (i).bank, .int .i64 (i).size]] w (PutPost 6 i w) := by
  obtain ⟨m0, m1⟩ := hi.imm
  obtain ⟨a0, a1⟩ := hi.aux
  simp [fitsS, regB] at hf
  have e : putS 6 i = [i.imm % 256, i.imm / 256] := by simp [putS]
  have E := Lib.hid e
  clear e
  go_enter Tryd.func36, Tryd.ntmps36
  go_wp2
  go_ret
  refine ⟨_, rfl, ?_, ((Below.refl _ _).alloc (Nat.le_refl _) _).alloc (by simp) _⟩
  rw [E.out]
  exact own_lit w _ [i.imm % 256, i.imm / 256] 2 rfl (by decide)

set_option maxHeartbeats 1000000 in
theorem put_7 (i : Ins) (hi : i.Ok) (hf : fitsS 7 i = true) (w : World) :
    Calls Tryd.prog 36 #[.int .i64 7, .agg #[.int .i64 (i).op, .int .i64 (i).d, .int .i64 (i).s, .int .u16 (i).imm, .int .u16 (i).aux, .int .i64 (i).bank, .int .i64 (i).size]] w (PutPost 7 i w) := by
  obtain ⟨m0, m1⟩ := hi.imm
  obtain ⟨a0, a1⟩ := hi.aux
  simp [fitsS, regB] at hf
  have e : putS 7 i = [i.aux % 256, i.aux / 256] := by simp [putS]
  have E := Lib.hid e
  clear e
  go_enter Tryd.func36, Tryd.ntmps36
  go_wp2
  go_ret
  refine ⟨_, rfl, ?_, ((Below.refl _ _).alloc (Nat.le_refl _) _).alloc (by simp) _⟩
  rw [E.out]
  exact own_lit w _ [i.aux % 256, i.aux / 256] 2 rfl (by decide)

set_option maxHeartbeats 1000000 in
theorem put_8 (i : Ins) (hi : i.Ok) (hf : fitsS 8 i = true) (w : World) :
    Calls Tryd.prog 36 #[.int .i64 8, .agg #[.int .i64 (i).op, .int .i64 (i).d, .int .i64 (i).s, .int .u16 (i).imm, .int .u16 (i).aux, .int .i64 (i).bank, .int .i64 (i).size]] w (PutPost 8 i w) := by
  obtain ⟨m0, m1⟩ := hi.imm
  obtain ⟨a0, a1⟩ := hi.aux
  simp [fitsS, regB] at hf
  have e : putS 8 i = [i.bank] := by simp [putS]
  have E := Lib.hid e
  clear e
  obtain ⟨d0, d1⟩ := hf
  go_enter Tryd.func36, Tryd.ntmps36
  go_wp2
  go_ret
  refine ⟨_, rfl, ?_, ((Below.refl _ _).alloc (Nat.le_refl _) _).alloc (by simp) _⟩
  rw [E.out]
  exact own_lit w _ [i.bank] 1 rfl (by decide)

set_option maxHeartbeats 1000000 in
theorem put_9 (i : Ins) (hi : i.Ok) (hf : fitsS 9 i = true) (w : World) :
    Calls Tryd.prog 36 #[.int .i64 9, .agg #[.int .i64 (i).op, .int .i64 (i).d, .int .i64 (i).s, .int .u16 (i).imm, .int .u16 (i).aux, .int .i64 (i).bank, .int .i64 (i).size]] w (PutPost 9 i w) := by
  obtain ⟨m0, m1⟩ := hi.imm
  obtain ⟨a0, a1⟩ := hi.aux
  simp [fitsS, regB] at hf
  have e : putS 9 i = [i.bank] := by simp [putS]
  have E := Lib.hid e
  clear e
  obtain ⟨d0, d1⟩ := hf
  go_enter Tryd.func36, Tryd.ntmps36
  go_wp2
  go_ret
  refine ⟨_, rfl, ?_, ((Below.refl _ _).alloc (Nat.le_refl _) _).alloc (by simp) _⟩
  rw [E.out]
  exact own_lit w _ [i.bank] 1 rfl (by decide)

set_option maxHeartbeats 1000000 in
theorem put_any (f : Int) (i : Ins) (hi : i.Ok) (hf : fitsS f i = true) (w : World) :
    Calls Tryd.prog 36 #[.int .i64 f, .agg #[.int .i64 (i).op, .int .i64 (i).d, .int .i64 (i).s, .int .u16 (i).imm, .int .u16 (i).aux, .int .i64 (i).bank, .int .i64 (i).size]] w (PutPost f i w) := by
  by_cases f1 : f = 1
  · subst f1; exact put_1 i hi hf w
  by_cases f2 : f = 2
  · subst f2; exact put_2 i hi hf w
  by_cases f3 : f = 3
  · subst f3; exact put_3 i hi hf w
  by_cases f4 : f = 4
  · subst f4; exact put_4 i hi hf w
  by_cases f5 : f = 5
  · subst f5; exact put_5 i hi hf w
  by_cases f6 : f = 6
  · subst f6; exact put_6 i hi hf w
  by_cases f7 : f = 7
  · subst f7; exact put_7 i hi hf w
  by_cases f8 : f = 8
  · subst f8; exact put_8 i hi hf w
  by_cases f9 : f = 9
  · subst f9; exact put_9 i hi hf w
  have e : putS f i = [] := by simp [putS, f1, f2, f3, f4, f5, f6, f7, f8, f9]
  have E := Lib.hid e
  clear e
  go_enter Tryd.func36, Tryd.ntmps36
  go_wp2
  go_ret
  refine ⟨_, rfl, ?_, (Below.refl _ _).alloc (Nat.le_refl _) _⟩
  rw [E.out]
  exact World.ownsRow_nil _ _ _ _

end Go.Proofs.YtakahmhbopakmaaDoor
