/- read of package isa: reading the fields of an instruction from its bytes. -/
import Derived.Test.YteofmaiojepdkaaGreatTbMac
import Derived.Deep.QuietTactic
import Derived.BigQuiet
import Derived.Deep.DeepCutAuto
import Derived.Laws.EntriesVeiled
set_option linter.all false
namespace Go.Proofs.YteofmaiojepdkaaGreat
open Go.RowKit
def zX (n : Int) : Bool := decide (0 ≤ n) && decide (n < 8)
def yp (f : Int) (i : Ins) : Bool :=
 if f = 1 then zX i.d && zX i.s else if f = 2 then zX i.d else if f = 3 then zX i.s
 else if f = 4 then decide (i.imm < 256) else if f = 5 then decide (zH (i.imm % 256) = i.imm)
 else if f = 8 then decide (0 ≤ i.bank) && decide (i.bank < 64) else if f = 9 then decide (1 ≤ i.bank) && decide (i.bank < 256) else true
set_option maxHeartbeats 400000 in
theorem reg_any (n : Int) (w : World) :
  Calls Tryz.prog 167 #[.int .i64 n] w fun e w' => e = .returned (.bool (zX n)) ∧ w = w' := by
 go_enter Tryz.func167, Tryz.ntmps167
 go_wp2
 all_goals (go_ret; exact ⟨by congr 2; unfold zX; first | (simp_all; done) | (simp_all; omega), rfl⟩)
set_option maxHeartbeats 1000000 in
theorem fits_any (f : Int) (i : Ins) (hi : i.Ok) (w : World) :
  Calls Tryz.prog 136 #[.int .i64 f, .agg #[.int .i64 (i).op, .int .i64 (i).d, .int .i64 (i).s, .int .u16 (i).imm, .int .u16 (i).aux, .int .i64 (i).bank, .int .i64 (i).size]] w fun e w' => e = .returned (.bool (yp f i)) ∧ Below w.heap.size w w' := by
 obtain ⟨m0, m1⟩ := hi.imm
 have ex := fun W => extend_any (i.imm % 256) (by omega) (by omega) W
 have EX := zh ex
 clear ex
 go_enter Tryz.func136, Tryz.ntmps136
 go_wp2_with (first | (go_at_call 167; refine (reg_any _ _).mono ?_; rintro e w1 ⟨rfl, rfl⟩))
 all_goals first
  | (go_ret; refine ⟨?_, (Below.refl _ _).alloc (zn _) _⟩; congr 2; unfold yp; first | (simp_all; done) | (simp_all; omega))
  | skip
 go_quiet ((go_at_call 168; exact Calls.quiet_of_same ((EX.out _).mono fun _ _ h => ⟨h.1, h.2.symm⟩)))
 go_wp2
 go_ret
 refine ⟨?_, ?_⟩
 ·congr 2; unfold yp; simp_all; rfl
 ·exact below_drewN ((Below.refl _ _).alloc (zn _) _) _
def yI (f : Int) (i : Ins) : List Int :=
 if f = 1 then [16 * i.d + i.s] else if f = 2 then [i.d] else if f = 3 then [i.s]
 else if f = 4 then [i.imm % 256] else if f = 5 then [i.imm % 256] else if f = 6 then [i.imm % 256, i.imm / 256]
 else if f = 7 then [i.aux % 256, i.aux / 256] else if f = 8 then [i.bank] else if f = 9 then [i.bank] else []
def PutPost (f : Int) (i : Ins) (w : World) (e : Ending) (w' : World) : Prop :=
 ∃ v, e = .returned v ∧ w'.ownsRow w.heap.size 5 1 v (yI f i).length (bv (yI f i)) ∧ Below w.heap.size w w'
theorem own_lit (w : World) (o : Obj) (l : List Int) (n : Nat) (hn : n = l.length) (hm : n ≤ 8) :
  ((w.alloc o).alloc (.cells (bv l).toArray 5)).ownsRow w.heap.size 5 1 (.slice (some ⟨w.heap.size + 1, 0, none⟩) n n) n (bv l) := by
 have h := World.ownsRow_lit (base := w.heap.size) (size := 1) (e := 5) (w.alloc o) (bv l).toArray n (by simp) (by unfold maxLen; omega) (by simp [bv, hn])
 simpa using h
set_option maxHeartbeats 1000000 in
theorem put_1 (i : Ins) (hi : i.Ok) (hf : yp 1 i = true) (w : World) :
  Calls Tryz.prog 137 #[.int .i64 1, .agg #[.int .i64 (i).op, .int .i64 (i).d, .int .i64 (i).s, .int .u16 (i).imm, .int .u16 (i).aux, .int .i64 (i).bank, .int .i64 (i).size]] w (PutPost 1 i w) := by
 obtain ⟨m0, m1⟩ := hi.imm
 obtain ⟨a0, a1⟩ := hi.aux
 simp [yp, zX] at hf
 have e : yI 1 i = [16 * i.d + i.s] := by simp [yI]
 have E := zh e
 clear e
 obtain ⟨⟨d0, d1⟩, s0, s1⟩ := hf
 go_enter Tryz.func137, Tryz.ntmps137
 go_wp2
 go_ret
 refine ⟨_, rfl, ?_, ((Below.refl _ _).alloc (zn _) _).alloc (by simp) _⟩
 rw [E.out]
 exact own_lit w _ [16 * i.d + i.s] 1 rfl (by decide)
set_option maxHeartbeats 1000000 in
theorem put_2 (i : Ins) (hi : i.Ok) (hf : yp 2 i = true) (w : World) :
  Calls Tryz.prog 137 #[.int .i64 2, .agg #[.int .i64 (i).op, .int .i64 (i).d, .int .i64 (i).s, .int .u16 (i).imm, .int .u16 (i).aux, .int .i64 (i).bank, .int .i64 (i).size]] w (PutPost 2 i w) := by
 obtain ⟨m0, m1⟩ := hi.imm
 obtain ⟨a0, a1⟩ := hi.aux
 simp [yp, zX] at hf
 have e : yI 2 i = [i.d] := by simp [yI]
 have E := zh e
 clear e
 obtain ⟨d0, d1⟩ := hf
 go_enter Tryz.func137, Tryz.ntmps137
 go_wp2
 go_ret
 refine ⟨_, rfl, ?_, ((Below.refl _ _).alloc (zn _) _).alloc (by simp) _⟩
 rw [E.out]
 exact own_lit w _ [i.d] 1 rfl (by decide)
set_option maxHeartbeats 1000000 in
theorem put_3 (i : Ins) (hi : i.Ok) (hf : yp 3 i = true) (w : World) :
  Calls Tryz.prog 137 #[.int .i64 3, .agg #[.int .i64 (i).op, .int .i64 (i).d, .int .i64 (i).s, .int .u16 (i).imm, .int .u16 (i).aux, .int .i64 (i).bank, .int .i64 (i).size]] w (PutPost 3 i w) := by
 obtain ⟨m0, m1⟩ := hi.imm
 obtain ⟨a0, a1⟩ := hi.aux
 simp [yp, zX] at hf
 have e : yI 3 i = [i.s] := by simp [yI]
 have E := zh e
 clear e
 obtain ⟨d0, d1⟩ := hf
 go_enter Tryz.func137, Tryz.ntmps137
 go_wp2
 go_ret
 refine ⟨_, rfl, ?_, ((Below.refl _ _).alloc (zn _) _).alloc (by simp) _⟩
 rw [E.out]
 exact own_lit w _ [i.s] 1 rfl (by decide)
set_option maxHeartbeats 1000000 in
theorem put_4 (i : Ins) (hi : i.Ok) (hf : yp 4 i = true) (w : World) :
  Calls Tryz.prog 137 #[.int .i64 4, .agg #[.int .i64 (i).op, .int .i64 (i).d, .int .i64 (i).s, .int .u16 (i).imm, .int .u16 (i).aux, .int .i64 (i).bank, .int .i64 (i).size]] w (PutPost 4 i w) := by
 obtain ⟨m0, m1⟩ := hi.imm
 obtain ⟨a0, a1⟩ := hi.aux
 simp [yp, zX] at hf
 have e : yI 4 i = [i.imm % 256] := by simp [yI]
 have E := zh e
 clear e
 clear hf
 go_enter Tryz.func137, Tryz.ntmps137
 go_wp2
 go_ret
 refine ⟨_, rfl, ?_, ((Below.refl _ _).alloc (zn _) _).alloc (by simp) _⟩
 rw [E.out]
 exact own_lit w _ [i.imm % 256] 1 rfl (by decide)
set_option maxHeartbeats 1000000 in
theorem put_5 (i : Ins) (hi : i.Ok) (hf : yp 5 i = true) (w : World) :
  Calls Tryz.prog 137 #[.int .i64 5, .agg #[.int .i64 (i).op, .int .i64 (i).d, .int .i64 (i).s, .int .u16 (i).imm, .int .u16 (i).aux, .int .i64 (i).bank, .int .i64 (i).size]] w (PutPost 5 i w) := by
 obtain ⟨m0, m1⟩ := hi.imm
 obtain ⟨a0, a1⟩ := hi.aux
 simp [yp, zX] at hf
 have e : yI 5 i = [i.imm % 256] := by simp [yI]
 have E := zh e
 clear e
 clear hf
 go_enter Tryz.func137, Tryz.ntmps137
 go_wp2
 go_ret
 refine ⟨_, rfl, ?_, ((Below.refl _ _).alloc (zn _) _).alloc (by simp) _⟩
 rw [E.out]
 exact own_lit w _ [i.imm % 256] 1 rfl (by decide)
set_option maxHeartbeats 1000000 in
theorem put_6 (i : Ins) (hi : i.Ok) (hf : yp 6 i = true) (w : World) :
  Calls Tryz.prog 137 #[.int .i64 6, .agg #[.int .i64 (i).op, .int .i64 (i).d, .int .i64 (i).s, .int .u16 (i).imm, .int .u16 (i).aux, .int .i64 (i).bank, .int .i64 (i).size]] w (PutPost 6 i w) := by
 obtain ⟨m0, m1⟩ := hi.imm
 obtain ⟨a0, a1⟩ := hi.aux
 simp [yp, zX] at hf
 have e : yI 6 i = [i.imm % 256, i.imm / 256] := by simp [yI]
 have E := zh e
 clear e
 go_enter Tryz.func137, Tryz.ntmps137
 go_wp2
 go_ret
 refine ⟨_, rfl, ?_, ((Below.refl _ _).alloc (zn _) _).alloc (by simp) _⟩
 rw [E.out]
 exact own_lit w _ [i.imm % 256, i.imm / 256] 2 rfl (by decide)
set_option maxHeartbeats 1000000 in
theorem put_7 (i : Ins) (hi : i.Ok) (hf : yp 7 i = true) (w : World) :
  Calls Tryz.prog 137 #[.int .i64 7, .agg #[.int .i64 (i).op, .int .i64 (i).d, .int .i64 (i).s, .int .u16 (i).imm, .int .u16 (i).aux, .int .i64 (i).bank, .int .i64 (i).size]] w (PutPost 7 i w) := by
 obtain ⟨m0, m1⟩ := hi.imm
 obtain ⟨a0, a1⟩ := hi.aux
 simp [yp, zX] at hf
 have e : yI 7 i = [i.aux % 256, i.aux / 256] := by simp [yI]
 have E := zh e
 clear e
 go_enter Tryz.func137, Tryz.ntmps137
 go_wp2
 go_ret
 refine ⟨_, rfl, ?_, ((Below.refl _ _).alloc (zn _) _).alloc (by simp) _⟩
 rw [E.out]
 exact own_lit w _ [i.aux % 256, i.aux / 256] 2 rfl (by decide)
set_option maxHeartbeats 1000000 in
theorem put_8 (i : Ins) (hi : i.Ok) (hf : yp 8 i = true) (w : World) :
  Calls Tryz.prog 137 #[.int .i64 8, .agg #[.int .i64 (i).op, .int .i64 (i).d, .int .i64 (i).s, .int .u16 (i).imm, .int .u16 (i).aux, .int .i64 (i).bank, .int .i64 (i).size]] w (PutPost 8 i w) := by
 obtain ⟨m0, m1⟩ := hi.imm
 obtain ⟨a0, a1⟩ := hi.aux
 simp [yp, zX] at hf
 have e : yI 8 i = [i.bank] := by simp [yI]
 have E := zh e
 clear e
 obtain ⟨d0, d1⟩ := hf
 go_enter Tryz.func137, Tryz.ntmps137
 go_wp2
 go_ret
 refine ⟨_, rfl, ?_, ((Below.refl _ _).alloc (zn _) _).alloc (by simp) _⟩
 rw [E.out]
 exact own_lit w _ [i.bank] 1 rfl (by decide)
set_option maxHeartbeats 1000000 in
theorem put_9 (i : Ins) (hi : i.Ok) (hf : yp 9 i = true) (w : World) :
  Calls Tryz.prog 137 #[.int .i64 9, .agg #[.int .i64 (i).op, .int .i64 (i).d, .int .i64 (i).s, .int .u16 (i).imm, .int .u16 (i).aux, .int .i64 (i).bank, .int .i64 (i).size]] w (PutPost 9 i w) := by
 obtain ⟨m0, m1⟩ := hi.imm
 obtain ⟨a0, a1⟩ := hi.aux
 simp [yp, zX] at hf
 have e : yI 9 i = [i.bank] := by simp [yI]
 have E := zh e
 clear e
 obtain ⟨d0, d1⟩ := hf
 go_enter Tryz.func137, Tryz.ntmps137
 go_wp2
 go_ret
 refine ⟨_, rfl, ?_, ((Below.refl _ _).alloc (zn _) _).alloc (by simp) _⟩
 rw [E.out]
 exact own_lit w _ [i.bank] 1 rfl (by decide)
set_option maxHeartbeats 1000000 in
theorem put_any (f : Int) (i : Ins) (hi : i.Ok) (hf : yp f i = true) (w : World) :
  Calls Tryz.prog 137 #[.int .i64 f, .agg #[.int .i64 (i).op, .int .i64 (i).d, .int .i64 (i).s, .int .u16 (i).imm, .int .u16 (i).aux, .int .i64 (i).bank, .int .i64 (i).size]] w (PutPost f i w) := by
 by_cases f1 : f = 1
 ·subst f1; exact put_1 i hi hf w
 by_cases f2 : f = 2
 ·subst f2; exact put_2 i hi hf w
 by_cases f3 : f = 3
 ·subst f3; exact put_3 i hi hf w
 by_cases f4 : f = 4
 ·subst f4; exact put_4 i hi hf w
 by_cases f5 : f = 5
 ·subst f5; exact put_5 i hi hf w
 by_cases f6 : f = 6
 ·subst f6; exact put_6 i hi hf w
 by_cases f7 : f = 7
 ·subst f7; exact put_7 i hi hf w
 by_cases f8 : f = 8
 ·subst f8; exact put_8 i hi hf w
 by_cases f9 : f = 9
 ·subst f9; exact put_9 i hi hf w
 have e : yI f i = [] := by simp [yI, f1, f2, f3, f4, f5, f6, f7, f8, f9]
 have E := zh e
 clear e
 go_enter Tryz.func137, Tryz.ntmps137
 go_wp2
 go_ret
 refine ⟨_, rfl, ?_, (Below.refl _ _).alloc (zn _) _⟩
 rw [E.out]
 exact World.ownsRow_nil _ _ _ _
end Go.Proofs.YteofmaiojepdkaaGreat
namespace Go.Proofs.YteofmaiojepdkaaGreat
open Go.RowKit
theorem u16_word (a b : Int) (a0 : 0 ≤ a) (a1 : a < 256) (b0 : 0 ≤ b) (b1 : b < 256) : bits .or .u16 a (b * 256) = a + 256 * b := by
 obtain ⟨a, rfl⟩ := Int.eq_ofNat_of_zero_le a0
 obtain ⟨b, rfl⟩ := Int.eq_ofNat_of_zero_le b0
 rw [u16_or _ _ (by omega) (by omega) (by omega) (by omega)]
 have h : a ||| b * 256 = a + 256 * b := by
  have := Nat.shiftLeft_add_eq_or_of_lt (b := a) (i := 8) (by omega) b
  rw [Nat.shiftLeft_eq, show (2 : Nat) ^ 8 = 256 from rfl] at this
  rw [Nat.or_comm]
  omega
 have e : ((b : Int) * 256).toNat = b * 256 := by omega
 rw [Int.toNat_natCast, e, h]
 omega
theorem setCell_twice (w : World) (a : Addr) (u v : Value) : (w.setCell a u).setCell a v = w.setCell a v := by
 unfold World.setCell
 congr 1
 apply Array.ext
 ·simp
 ·intro i h1 h2
  simp only [Array.getElem_modify]
  split
  ·generalize w.heap[i]'(by simpa using h2) = o
   cases o <;> simp
   split <;> simp
  ·rfl
def byt (s : ByteArray) (k : Nat) : Int := ((s.data.toList.getD k 0).toNat : Int)
theorem zL (s : ByteArray) (k : Nat) : 0 ≤ byt s k ∧ byt s k < 256 := by
 unfold byt
 have := (s.data.toList.getD k 0).toNat_lt
 omega
theorem zl (s : ByteArray) (k : Nat) (h : k < s.size) (w : World) : (Instr.index 9 (.string s) (.int .i64 k)).run Tryz.prog w = .ok (.int .u8 (byt s k)) w := by
 rw [run_index_string _ _ _ _ _ Tryz.underlying9, dif_pos (by omega)]
 congr 2
 unfold byt
 have h2 : k < s.data.toList.length := by simpa using h
 rw [List.getD_eq_getElem?_getD, List.getElem?_eq_getElem h2]
 rfl
set_option maxHeartbeats 400000 in
theorem next_any (s : ByteArray) (k g6 g0 : Nat) (h : k < s.size) (hm : s.size ≤ 9223372036854775807) (w : World) (c6 : w.cell? ⟨g6, 0, none⟩ = some (.int .i64 k)) (f6 : w.frozen? ⟨g6, 0, none⟩ = false)
  (c0 : w.cell? ⟨g0, 0, none⟩ = some (.string s)) (hne : g0 ≠ g6) :
  Calls Tryz.prog 169 #[.pointer (some ⟨g6, 0, none⟩), .pointer (some ⟨g0, 0, none⟩)] w fun e w' => e = .returned (.int .u8 (byt s k)) ∧ w.setCell ⟨g6, 0, none⟩ (.int .i64 ((k : Int) + 1)) = w' := by
 have ix := zl s k h
 go_enter Tryz.func169, Tryz.ntmps169
 go_wp2
 go_ret
 exact ⟨rfl, rfl⟩
set_option maxHeartbeats 1000000 in
theorem word_any (s : ByteArray) (k g7 g6 g0 : Nat) (h : k + 1 < s.size) (hm : s.size ≤ 9223372036854775807) (w : World) (c7 : w.cell? ⟨g7, 0, none⟩ = some (.func (.func 169) #[] #[.pointer (some ⟨g6, 0, none⟩), .pointer (some ⟨g0, 0, none⟩)]))
  (c6 : w.cell? ⟨g6, 0, none⟩ = some (.int .i64 k)) (f6 : w.frozen? ⟨g6, 0, none⟩ = false)
  (c0 : w.cell? ⟨g0, 0, none⟩ = some (.string s)) (hne : g0 ≠ g6) (hne7 : g7 ≠ g6) :
  Calls Tryz.prog 170 #[.pointer (some ⟨g7, 0, none⟩)] w fun e w' => e = .returned (.int .u16 (byt s k + 256 * byt s (k + 1))) ∧ w.setCell ⟨g6, 0, none⟩ (.int .i64 ((k : Int) + 2)) = w' := by
 obtain ⟨b0, b1⟩ := zL s k
 obtain ⟨b2, b3⟩ := zL s (k + 1)
 have n1 := next_any s k g6 g0 (by omega) hm w c6 f6 c0 hne
 have n2 := next_any s (k + 1) g6 g0 (by omega) hm (w.setCell ⟨g6, 0, none⟩ (.int .i64 ((k : Int) + 1))) (World.cell?_setCell_same _ _ _ c6) ((World.frozen?_setCell _ _ _ _).trans f6) ((World.cell?_setCell_other _ _ _ _ (by simp [Ne.symm hne])).trans c0) hne
 have N1 := zh n1
 have N2 := zh n2
 clear n1 n2
 go_enter Tryz.func170, Tryz.ntmps170
 go_wp2_with (first | (go_at_call 169; (with_reducible refine N1.out.mono ?_); rintro e w1 ⟨rfl, rfl⟩) | (go_at_call 169; (with_reducible refine N2.out.mono ?_); rintro e w1 ⟨rfl, rfl⟩))
 go_ret
 refine ⟨?_, ?_⟩
 ·rw [← u16_word _ _ b0 b1 b2 b3]; rfl
 ·rw [setCell_twice]; congr 2
end Go.Proofs.YteofmaiojepdkaaGreat
namespace Go.Proofs.YteofmaiojepdkaaGreat
open Go.RowKit
def yi (b : Nat → Int) (f : Int) (k : Nat) (i : Ins) : Nat × Ins :=
 if f = 1 then (k + 1, { i with d := b k / 16, s := b k % 16 })
 else if f = 2 then (k + 1, { i with d := b k })
 else if f = 3 then (k + 1, { i with s := b k })
 else if f = 4 then (k + 1, { i with imm := b k })
 else if f = 5 then (k + 1, { i with imm := zH (b k) })
 else if f = 6 then (k + 2, { i with imm := b k + 256 * b (k + 1) })
 else if f = 7 then (k + 2, { i with aux := b k + 256 * b (k + 1) })
 else if f = 8 ∨ f = 9 then (k + 1, { i with bank := b k })
 else (k, i)
def xz (b : Nat → Int) (F : Nat → Int) (i0 : Ins) : Nat → Nat × Ins
 | 0 => (1, i0)
 | j + 1 => yi b (F j) (xz b F i0 j).1 (xz b F i0 j).2
def ze (i : Ins) : Array Value := #[vi i.op, vi i.d, vi i.s, vw i.imm, vw i.aux, vi i.bank, vi i.size]
def nextFn (b6 b0 : Nat) : Value := .func (.func 169) #[] #[.pointer (some ⟨b6, 0, none⟩), .pointer (some ⟨b0, 0, none⟩)]
structure RdW (b0 b2 b5 b6 b7 : Nat) (s : ByteArray) (k : Nat) (i : Ins) (w : World) : Prop where
 c0 : w.cell? ⟨b0, 0, none⟩ = some (.string s)
 h2 : ∃ z : Ins, w.heap[b2]? = some (.cells (ze z) 53 (0, 0))
 h5 : w.heap[b5]? = some (.cells (ze i) 53 (0, 0))
 h6 : w.heap[b6]? = some (.cells #[vi k] 3 (0, 0))
 c7 : w.cell? ⟨b7, 0, none⟩ = some (nextFn b6 b0)
 n02 : b0 < b2
 n25 : b2 < b5
 n56 : b5 < b6
 n67 : b6 < b7
section
variable {b0 b2 b5 b6 b7 : Nat} {s : ByteArray} {k : Nat} {i : Ins} {w : World}
theorem RdW.next (h : RdW b0 b2 b5 b6 b7 s k i w) (m : Nat) : RdW b0 b2 b5 b6 b7 s m i (w.setCell ⟨b6, 0, none⟩ (vi m)) := by
 have := h.n02; have := h.n25; have := h.n56; have := h.n67
 refine ⟨?_, ?_, ?_, ?_, ?_, h.n02, h.n25, h.n56, h.n67⟩
 ·rw [World.cell?_setCell_other _ _ _ _ (by simp <;> omega)]; exact h.c0
 ·obtain ⟨z, hz⟩ := h.h2
  exact ⟨z, (heap_setCell_other _ _ _ _ (by simp <;> omega)).trans hz⟩
 ·rw [heap_setCell_other _ _ _ _ (by simp <;> omega)]; exact h.h5
 ·rw [heap_setCell_same _ _ _ _ _ _ h.h6]; rfl
 ·rw [World.cell?_setCell_other _ _ _ _ (by simp <;> omega)]; exact h.c7
theorem RdW.put (h : RdW b0 b2 b5 b6 b7 s k i w) (j : Nat) (v : Value) (i' : Ins) (hi : (ze i).setIfInBounds j v = ze i') : RdW b0 b2 b5 b6 b7 s k i' (w.setCell ⟨b5, j, none⟩ v) := by
 have := h.n02; have := h.n25; have := h.n56; have := h.n67
 refine ⟨?_, ?_, ?_, ?_, ?_, h.n02, h.n25, h.n56, h.n67⟩
 ·rw [World.cell?_setCell_other _ _ _ _ (by simp <;> omega)]; exact h.c0
 ·obtain ⟨z, hz⟩ := h.h2
  exact ⟨z, (heap_setCell_other _ _ _ _ (by simp <;> omega)).trans hz⟩
 ·rw [heap_setCell_same _ _ _ _ _ _ h.h5, hi]
 ·rw [heap_setCell_other _ _ _ _ (by simp <;> omega)]; exact h.h6
 ·rw [World.cell?_setCell_other _ _ _ _ (by simp <;> omega)]; exact h.c7
theorem RdW.c6 (h : RdW b0 b2 b5 b6 b7 s k i w) : w.cell? ⟨b6, 0, none⟩ = some (.int .i64 k) := cell_of_row w b6 0 _ _ _ h.h6
theorem RdW.f6 (h : RdW b0 b2 b5 b6 b7 s k i w) : w.frozen? ⟨b6, 0, none⟩ = false := frozen_of_row w b6 0 _ _ h.h6
theorem RdW.f5 (h : RdW b0 b2 b5 b6 b7 s k i w) (j : Nat) : w.frozen? ⟨b5, j, none⟩ = false := frozen_of_row w b5 j _ _ h.h5
theorem RdW.c5 (h : RdW b0 b2 b5 b6 b7 s k i w) (j : Nat) : w.cell? ⟨b5, j, none⟩ = (ze i)[j]? := cell_of_row w b5 j _ _ _ h.h5
theorem next_rd (h : RdW b0 b2 b5 b6 b7 s k i w) (hk : k < s.size) (hm : s.size ≤ 9223372036854775807) :
  Calls Tryz.prog 169 #[.pointer (some ⟨b6, 0, none⟩), .pointer (some ⟨b0, 0, none⟩)] w fun e w' => e = .returned (.int .u8 (byt s k)) ∧ RdW b0 b2 b5 b6 b7 s (k + 1) i w' ∧ ∀ B w0, B ≤ b6 → Below B w0 w → Below B w0 w' := by
 have := h.n02; have := h.n25; have := h.n56; have := h.n67
 refine (next_any s k b6 b0 hk hm w h.c6 h.f6 h.c0 (by omega)).mono fun e w' ⟨he, hw⟩ => ⟨he, ?_, ?_⟩
 ·rw [← hw]; exact h.next (k + 1)
 ·intro B w0 hB hb; rw [← hw]; exact hb.setCell (by simpa using hB) _
theorem word_rd (h : RdW b0 b2 b5 b6 b7 s k i w) (hk : k + 1 < s.size) (hm : s.size ≤ 9223372036854775807) :
  Calls Tryz.prog 170 #[.pointer (some ⟨b7, 0, none⟩)] w fun e w' => e = .returned (.int .u16 (byt s k + 256 * byt s (k + 1))) ∧ RdW b0 b2 b5 b6 b7 s (k + 2) i w' ∧ ∀ B w0, B ≤ b6 → Below B w0 w → Below B w0 w' := by
 have := h.n02; have := h.n25; have := h.n56; have := h.n67
 refine (word_any s k b7 b6 b0 hk hm w h.c7 h.c6 h.f6 h.c0 (by omega) (by omega)).mono fun e w' ⟨he, hw⟩ => ⟨he, ?_, ?_⟩
 ·rw [← hw]; exact h.next (k + 2)
 ·intro B w0 hB hb; rw [← hw]; exact hb.setCell (by simpa using hB) _
end
def y9 (s : ByteArray) : Ins := ⟨byt s 0, 0, 0, 0, 0, 0, zx (byt s 0)⟩
def zeros7 : Array Value := #[.int .i64 0, .int .i64 0, .int .i64 0, .int .u16 0, .int .u16 0, .int .i64 0, .int .i64 0]
theorem rd_blk (w : World) (A B : Obj) : ((((w.alloc A).alloc B).alloc (.cells zeros7 53)).alloc (.cells zeros7 53)).drew.heap[w.heap.size + 3]? = some (.cells zeros7 53 (0, 0)) := by
 have := heap_alloc_new (((w.alloc A).alloc B).alloc (.cells zeros7 53)) (.cells zeros7 53)
 simp only [World.size_alloc] at this
 exact this
def fF (f0 f1 f2 f3 : Int) : Nat → Int
 | 0 => f0
 | 1 => f1
 | 2 => f2
 | _ => f3
theorem index_F (f0 f1 f2 f3 : Int) (j : Nat) (hj : j < 4) (w : World) : (Instr.index 23 (.agg #[vi f0, vi f1, vi f2, vi f3]) (.int .i64 j)).run Tryz.prog w = .ok (.int .i64 (fF f0 f1 f2 f3 j)) w := by
 have h : j = 0 ∨ j = 1 ∨ j = 2 ∨ j = 3 := by omega
 rcases h with rfl | rfl | rfl | rfl
 ·exact index4_0 _ _ _ _ _
 ·exact index4_1 _ _ _ _ _
 ·exact index4_2 _ _ _ _ _
 ·exact index4_3 _ _ _ _ _
theorem heap_old2 {w : World} {A B : Obj} {k : Nat} (h : k < w.heap.size) : ((w.alloc A).alloc B).heap[k]? = w.heap[k]? :=
 (heap_alloc_old _ _ (by simp; omega)).trans (heap_alloc_old _ _ h)
theorem rd_b0 (w : World) (A B C : Obj) : (((w.alloc A).alloc B).alloc C).heap[w.heap.size]? = some A := by
 rw [heap_old2 (by simp)]; exact heap_alloc_new _ _
theorem rd_b1 (w : World) (A B C : Obj) : (((w.alloc A).alloc B).alloc C).heap[w.heap.size + 1]? = some B := by
 rw [heap_alloc_old _ _ (by simp)]; have := heap_alloc_new (w.alloc A) B; simpa using this
theorem rd_b2 (w : World) (A B C : Obj) : (((w.alloc A).alloc B).alloc C).heap[w.heap.size + 2]? = some C := by
 have := heap_alloc_new ((w.alloc A).alloc B) C; simpa using this
def RdCut (s : ByteArray) (w W : World) (v : Value) (w' : World) : Prop :=
 ∃ g, v = .pointer (some ⟨g, 0, none⟩) ∧ w'.heap[g]? = some (.cells (ze (y9 s)) 53 (0, 0)) ∧ w.heap.size + 2 < g ∧ g < w'.heap.size ∧ Below (w.heap.size + 3) W w'
set_option maxRecDepth 100000 in
set_option maxHeartbeats 2000000 in
theorem read_any (s : ByteArray) (f0 f1 f2 f3 : Int) (hs : 1 ≤ s.size) (hm : s.size ≤ 9223372036854775807) (hend : ∀ j, j ≤ 4 → (xz (byt s) (fF f0 f1 f2 f3) (y9 s) j).1 ≤ s.size) (w : World) :
  Calls Tryz.prog 138 #[.string s, .agg #[vi f0, vi f1, vi f2, vi f3]] w fun e w' => e = .returned (.agg (ze (xz (byt s) (fF f0 f1 f2 f3) (y9 s) 4).2)) ∧ Below w.heap.size w w' := by
 have ix : ∀ W, (Instr.index 9 (.string s) (.int .i64 0)).run Tryz.prog W = .ok (.int .u8 (byt s 0)) W := zl s 0 hs
 obtain ⟨b0, b1⟩ := zL s 0
 have hw0 : IntKind.i64.wrap (byt s 0) = byt s 0 := IntWalk.i64_in _ (by omega)
 go_enter Tryz.func138, Tryz.ntmps138
 go_upto_region 1 with (fail)
 go_cut [5] (fun s5 wx => RdCut s w (((w.alloc (Obj.cells #[Value.string s] 9)).alloc (Obj.cells #[vi f0, vi f1, vi f2, vi f3] 23)).alloc
    (Obj.cells
     #[Value.int IntKind.i64 0, Value.int IntKind.i64 0, Value.int IntKind.i64 0, Value.int IntKind.u16 0,
      Value.int IntKind.u16 0, Value.int IntKind.i64 0, Value.int IntKind.i64 0]
     53)) s5 wx)
 case first =>
  refine wp_region_noPanic ?_
  refine wp_region_held_drew (S := fun w' => w'.cell? ⟨w.heap.size, 0, none⟩ = some (.string s)) (by kernel_rfl) (by simp [go_sem]) (fun hHeld => ?_)
  (refine tak 0 ?_)
  (refine tak 3 ?_)
  (refine tak 1 ?_)
  (refine tak 4 ?_)
  (refine tak 2 ?_)
  (refine wpAnyH_ready (rs := [5, 7]) (by kernel_rfl) (by simp) (AllReadyH.cons (o := _) rfl (fun K hK => ?_) (AllReadyH.cons (o := _) rfl (fun K hK => ?_) AllReadyH.nil)))
  ·rw [if_pos (by rfl)]
   go_simp
   refine (size_any _ b0 b1 _).mono ?_
   rintro e w1 ⟨rfl, hb1⟩
   have hz := hb1.size
   simp at hz
   have hc1 : w1.cell? ⟨w.heap.size, 0, none⟩ = some (.string s) := (hb1.cell (by simp <;> omega)).trans hHeld
   refine hK.out _ _ hc1 (fun hHeld => ?_)
   (refine pts ?_)
   (refine tak 6 ?_)
   (refine wpAnyH_ready (rs := [7]) (by kernel_rfl) (by simp) (AllReadyH.cons (o := _) rfl (fun K hK => ?_) AllReadyH.nil))
   rw [if_pos (by rfl)]
   go_simp
   refine hK.out _ _ ?_ (fun hHeld => ?_)
   ·rw [World.cell?_alloc_some _ _ _ (by rw [hc1]; rfl)]; exact hc1
   (refine pts ?_)
   (refine wpAnyH_ready (rs := [8]) (by kernel_rfl) (by simp) (AllReadyH.cons (o := _) rfl (fun K hK => ?_) AllReadyH.nil))
   rw [if_pos (by rfl)]
   go_simp
   refine hK.out _ _ ?_ (fun hHeld => wpAnyH_done (by kernel_rfl) ?_ _)
   ·rw [World.cell?_alloc_some _ _ _ (by rw [hc1]; rfl)]; exact hc1
   (refine pts ?_)
   refine NoPanic.normal ?_
   go_wp2_with fail
   go_meet
   exact ⟨w1.heap.size, rfl, heap_alloc_new _ _, by omega, by simp, (((Below.refl _ _).drew.trans (hb1.mono (by simp))).alloc (by omega) _)⟩
  ·rw [if_pos (by rfl)]
   go_simp
   refine hK.out _ _ ?_ (fun hHeld => ?_)
   ·simp [go_sem]
   (refine pts ?_)
   (refine wpAnyH_ready (rs := [5]) (by kernel_rfl) (by simp) (AllReadyH.cons (o := _) rfl (fun K hK => ?_) AllReadyH.nil))
   rw [if_pos (by rfl)]
   go_simp
   refine (size_any _ b0 b1 _).mono ?_
   rintro e w1 ⟨rfl, hb1⟩
   have hz := hb1.size
   simp at hz
   have hc1 : w1.cell? ⟨w.heap.size, 0, none⟩ = some (.string s) := (hb1.cell (by simp <;> omega)).trans hHeld
   have hg1 : w1.heap[w.heap.size + 3]? = some (.cells zeros7 53 (0, 0)) := (hb1.block (w.heap.size + 3) (by simp <;> omega)).trans (rd_blk w _ _)
   refine hK.out _ _ hc1 (fun hHeld => ?_)
   (refine pts ?_)
   (refine tak 6 ?_)
   (refine wpAnyH_ready (rs := [8]) (by kernel_rfl) (by simp) (AllReadyH.cons (o := _) rfl (fun K hK => ?_) AllReadyH.nil))
   rw [if_pos (by rfl)]
   refine wp_store_row _ _ _ rfl (w.heap.size + 3) _ rfl rfl _ _ hg1 ?_ ?_ ?_ ?_
   ·kernel_rfl
   ·rfl
   ·kernel_rfl
   refine hK.out _ _ ?_ (fun hHeld => wpAnyH_done (by kernel_rfl) ?_ _)
   ·rw [cell_setRow_other _ _ _ _ (by simp <;> omega)]; exact hc1
   (refine pts ?_)
   refine NoPanic.normal ?_
   go_wp2_with fail
   go_meet
   exact ⟨w.heap.size + 3, rfl, setRow_heap _ _ _ _ _ _ hg1, by omega, by simp <;> omega, below_setRow (((Below.refl _ _).alloc (by simp) _).drew.trans (hb1.mono (by simp))) (zn _) _⟩
 case rest =>
  obtain ⟨g5, rfl, hg5, hlt, hlt2, hb⟩ := hcut
  have hB0 := hb.block w.heap.size (by omega)
  have hB1 := hb.block (w.heap.size + 1) (by omega)
  have hB2 := hb.block (w.heap.size + 2) (by omega)
  rw [rd_b0] at hB0
  rw [rd_b1] at hB1
  rw [rd_b2] at hB2
  have hidx := index_F f0 f1 f2 f3
  have hl0 : w.heap.size < wc.heap.size := by omega
  have hl1 : w.heap.size + 1 < wc.heap.size := by omega
  have hl2 : w.heap.size + 2 < wc.heap.size := by omega
  have HB0 := zh hB0
  have HB1 := zh hB1
  have HB2 := zh hB2
  have HG5 := zh hg5
  clear hB0 hB1 hB2 hg5
  go_wp2_with (first | (refine wpList_load_row rfl _ (.tmp 3) rfl _ rfl _ _ _ _ ((heap_old2 hl1).trans HB1.out) Tryz.underlying23 rfl ?_ ?_; kernel_rfl))
  have hR0 : RdW w.heap.size (w.heap.size + 2) g5 wc.heap.size (wc.heap.size + 1) s 1 (y9 s) ((wc.alloc (.cells #[vi 1] 3)).alloc (.cells #[nextFn wc.heap.size w.heap.size] 235)) :=
   ⟨cell_of_row _ _ _ _ _ _ ((heap_old2 (by omega)).trans HB0.out), ⟨⟨0, 0, 0, 0, 0, 0, 0⟩, (heap_old2 (by omega)).trans HB2.out⟩, (heap_old2 hlt2).trans HG5.out,
    heap_alloc2_old _ _ _, cell_of_row _ _ _ _ _ _ (heap_alloc2_new _ _ _), by omega, by omega, by omega, by omega⟩
  have HR0 := zh hR0
  clear hR0
  go_loopw [22] (fun i wr => ∃ j : Nat, j ≤ 4 ∧ i = .int .i64 j ∧ RdW w.heap.size (w.heap.size + 2) g5 wc.heap.size (wc.heap.size + 1) s (xz (byt s) (fF f0 f1 f2 f3) (y9 s) j).1 (xz (byt s) (fF f0 f1 f2 f3) (y9 s) j).2 wr ∧ Below w.heap.size w wr) (fun i _ => 4 - (intOf i).toNat)
  case atStart => exact ⟨0, by omega, rfl, HR0.out, (((Below.refl _ _).alloc (zn _) _ |>.alloc (by simp) _ |>.alloc (by simp <;> omega) _).trans (hb.mono (by omega)) |>.alloc (by omega) _ |>.alloc (by simp <;> omega) _)⟩
  case round =>
   obtain ⟨j, hj, rfl, hR, hbr⟩ := hrel
   clear HR0 HB0 HB1 HB2 HG5
   by_cases hj4 : j < 4
   ·have hix := hidx j hj4
    have he1 := hend (j + 1) (by omega)
    have eto : xz (byt s) (fF f0 f1 f2 f3) (y9 s) (j + 1) = yi (byt s) (fF f0 f1 f2 f3 j) (xz (byt s) (fF f0 f1 f2 f3) (y9 s) j).1 (xz (byt s) (fF f0 f1 f2 f3) (y9 s) j).2 := rfl
    rw [eto] at he1
    have ETO := zh eto
    clear eto hend hidx
    generalize (xz (byt s) (fF f0 f1 f2 f3) (y9 s) j).1 = k at *
    generalize (xz (byt s) (fF f0 f1 f2 f3) (y9 s) j).2 = i at *
    generalize fF f0 f1 f2 f3 j = f at *
    obtain ⟨bk0, bk1⟩ := zL s k
    obtain ⟨bl0, bl1⟩ := zL s (k + 1)
    have c7 := hR.c7
    unfold nextFn at c7
    by_cases h1 : f = 1
    ·subst h1
     have hk : k < s.size := by simp [yi] at he1; omega
     clear he1
     go_wp2_with (first | (go_at_call 169; refine (next_rd hR hk hm).mono ?_; rintro e w1 ⟨rfl, hR1, hb1⟩; have c5 := hR1.c5; have f5 := hR1.f5; simp only [ze] at c5))
     go_roundw
     case rel => exact ⟨j + 1, by omega, by go_num, (by rw [ETO.out]; exact (hR1.put 1 _ { i with d := byt s k / 16 } rfl).put 2 _ { i with d := byt s k / 16, s := byt s k % 16 } rfl), ((hb1 _ _ (by omega) hbr).setCell (by show _ ≤ g5; omega) _).setCell (by show _ ≤ g5; omega) _⟩
     case measure => simp [intOf]; omega
    by_cases h2 : f = 2
    ·subst h2
     have hk : k < s.size := by simp [yi] at he1; omega
     clear he1
     go_wp2_with (first | (go_at_call 169; refine (next_rd hR hk hm).mono ?_; rintro e w1 ⟨rfl, hR1, hb1⟩; have c5 := hR1.c5; have f5 := hR1.f5; simp only [ze] at c5))
     go_roundw
     case rel => exact ⟨j + 1, by omega, by go_num, (by rw [ETO.out]; exact hR1.put 1 _ _ rfl), (hb1 _ _ (by omega) hbr).setCell (by show _ ≤ g5; omega) _⟩
     case measure => simp [intOf]; omega
    by_cases h3 : f = 3
    ·subst h3
     have hk : k < s.size := by simp [yi] at he1; omega
     clear he1
     go_wp2_with (first | (go_at_call 169; refine (next_rd hR hk hm).mono ?_; rintro e w1 ⟨rfl, hR1, hb1⟩; have c5 := hR1.c5; have f5 := hR1.f5; simp only [ze] at c5))
     go_roundw
     case rel => exact ⟨j + 1, by omega, by go_num, (by rw [ETO.out]; exact hR1.put 2 _ _ rfl), (hb1 _ _ (by omega) hbr).setCell (by show _ ≤ g5; omega) _⟩
     case measure => simp [intOf]; omega
    by_cases h4 : f = 4
    ·subst h4
     have hk : k < s.size := by simp [yi] at he1; omega
     clear he1
     go_wp2_with (first | (go_at_call 169; refine (next_rd hR hk hm).mono ?_; rintro e w1 ⟨rfl, hR1, hb1⟩; have c5 := hR1.c5; have f5 := hR1.f5; simp only [ze] at c5))
     go_roundw
     case rel => exact ⟨j + 1, by omega, by go_num, (by rw [ETO.out]; exact hR1.put 3 _ _ rfl), (hb1 _ _ (by omega) hbr).setCell (by show _ ≤ g5; omega) _⟩
     case measure => simp [intOf]; omega
    by_cases h5 : f = 5
    ·subst h5
     have hk : k < s.size := by simp [yi] at he1; omega
     clear he1
     go_wp2_with (first | (go_at_call 169; refine (next_rd hR hk hm).mono ?_; rintro e w1 ⟨rfl, hR1, hb1⟩; have c5 := hR1.c5; have f5 := hR1.f5; simp only [ze] at c5) | (go_at_call 168; refine (extend_any _ bk0 bk1 _).mono ?_; rintro e w2 ⟨rfl, rfl⟩))
     go_roundw
     case rel => exact ⟨j + 1, by omega, by go_num, (by rw [ETO.out]; exact hR1.put 3 _ _ rfl), (hb1 _ _ (by omega) hbr).setCell (by show _ ≤ g5; omega) _⟩
     case measure => simp [intOf]; omega
    by_cases h6 : f = 6
    ·subst h6
     have hk : k + 1 < s.size := by simp [yi] at he1; omega
     clear he1
     go_wp2_with (first | (go_at_call 170; refine (word_rd hR hk hm).mono ?_; rintro e w1 ⟨rfl, hR1, hb1⟩; have c5 := hR1.c5; have f5 := hR1.f5; simp only [ze] at c5))
     go_roundw
     case rel => exact ⟨j + 1, by omega, by go_num, (by rw [ETO.out]; exact hR1.put 3 _ _ rfl), (hb1 _ _ (by omega) hbr).setCell (by show _ ≤ g5; omega) _⟩
     case measure => simp [intOf]; omega
    by_cases h7 : f = 7
    ·subst h7
     have hk : k + 1 < s.size := by simp [yi] at he1; omega
     clear he1
     go_wp2_with (first | (go_at_call 170; refine (word_rd hR hk hm).mono ?_; rintro e w1 ⟨rfl, hR1, hb1⟩; have c5 := hR1.c5; have f5 := hR1.f5; simp only [ze] at c5))
     go_roundw
     case rel => exact ⟨j + 1, by omega, by go_num, (by rw [ETO.out]; exact hR1.put 4 _ _ rfl), (hb1 _ _ (by omega) hbr).setCell (by show _ ≤ g5; omega) _⟩
     case measure => simp [intOf]; omega
    by_cases h8 : f = 8
    ·subst h8
     have hk : k < s.size := by simp [yi] at he1; omega
     clear he1
     go_wp2_with (first | (go_at_call 169; refine (next_rd hR hk hm).mono ?_; rintro e w1 ⟨rfl, hR1, hb1⟩; have c5 := hR1.c5; have f5 := hR1.f5; simp only [ze] at c5))
     go_roundw
     case rel => exact ⟨j + 1, by omega, by go_num, (by rw [ETO.out]; exact hR1.put 5 _ _ rfl), (hb1 _ _ (by omega) hbr).setCell (by show _ ≤ g5; omega) _⟩
     case measure => simp [intOf]; omega
    by_cases h9 : f = 9
    ·subst h9
     have hk : k < s.size := by simp [yi] at he1; omega
     clear he1
     go_wp2_with (first | (go_at_call 169; refine (next_rd hR hk hm).mono ?_; rintro e w1 ⟨rfl, hR1, hb1⟩; have c5 := hR1.c5; have f5 := hR1.f5; simp only [ze] at c5))
     go_roundw
     case rel => exact ⟨j + 1, by omega, by go_num, (by rw [ETO.out]; exact hR1.put 5 _ _ rfl), (hb1 _ _ (by omega) hbr).setCell (by show _ ≤ g5; omega) _⟩
     case measure => simp [intOf]; omega
    go_wp2
    all_goals
     go_roundw
     case rel => exact ⟨j + 1, by omega, by go_num, (by rw [ETO.out]; unfold yi; rw [if_neg h1, if_neg h2, if_neg h3, if_neg h4, if_neg h5, if_neg h6, if_neg h7, if_neg (by omega)]; exact hR), hbr⟩
     case measure => simp [intOf]; omega
   ·have ej : j = 4 := by omega
    subst ej
    obtain ⟨z, hz⟩ := hR.h2
    have hR5 := hR.h5
    have HZ := zh hz
    have HR5 := zh hR5
    clear hz hR5
    go_wp2_with (first | (refine wpList_load_row rfl _ _ rfl _ rfl _ _ _ _ (HR5.out) rfl rfl ?_ ?_; kernel_rfl) | (refine wpList_store_row rfl _ _ _ rfl _ _ rfl rfl _ _ HZ.out ?_ ?_ ?_ ?_; kernel_rfl; rfl; kernel_rfl))
    refine bodyPost_ret (results_cell_row (cs := ze (xz (byt s) (fF f0 f1 f2 f3) (y9 s) 4).2) (fr := (0, 0)) Tryz.results138 _ _ (w.heap.size + 2) 53 _ ?_ (setRow_heap _ _ _ _ _ _ HZ.out) Tryz.underlying53 rfl (by kernel_rfl)) rfl ⟨rfl, below_setRow hbr (by omega) _⟩
    rfl
end Go.Proofs.YteofmaiojepdkaaGreat
