/- read of package isa. -/
import Derived.Test.YteofmaiojepdkaaGreatSaKit
import Derived.Deep.QuietTactic
import Derived.BigQuiet
set_option linter.all false
namespace Go.Proofs.YteofmaiojepdkaaGreat
open Go.RowKit
theorem index4_0 (a b c d : Value) (w : World) : (Instr.index 23 (.agg #[a, b, c, d]) (.int .i64 0)).run Tryz.prog w = .ok a w := by kernel_rfl
theorem index4_1 (a b c d : Value) (w : World) : (Instr.index 23 (.agg #[a, b, c, d]) (.int .i64 1)).run Tryz.prog w = .ok b w := by kernel_rfl
theorem index4_2 (a b c d : Value) (w : World) : (Instr.index 23 (.agg #[a, b, c, d]) (.int .i64 2)).run Tryz.prog w = .ok c w := by kernel_rfl
theorem index4_3 (a b c d : Value) (w : World) : (Instr.index 23 (.agg #[a, b, c, d]) (.int .i64 3)).run Tryz.prog w = .ok d w := by kernel_rfl
def yz (n : Int) : Int := if n = 0 then 0 else if n = 6 ∨ n = 7 then 2 else 1
theorem yy (n : Int) : 0 ≤ yz n ∧ yz n ≤ 2 := by unfold yz; split; omega; split <;> omega
set_option maxHeartbeats 400000 in
theorem width_any (n : Int) (w : World) :
    Calls Tryz.prog 165 #[.int .i64 n] w fun e w' => e = .returned (.int .i64 (yz n)) ∧ w = w' := by
  go_enter Tryz.func165, Tryz.ntmps165
  go_wp2
  all_goals (go_ret; exact ⟨by congr 2; unfold yz; simp_all, rfl⟩)
def zQ (n : Int) : Int := if n < 128 then n else n + 65280
set_option maxHeartbeats 400000 in
theorem extend_any (n : Int) (h0 : 0 ≤ n) (h1 : n < 256) (w : World) :
    Calls Tryz.prog 168 #[.int .u8 n] w fun e w' => e = .returned (.int .u16 (zQ n)) ∧ w = w' := by
  go_enter Tryz.func168, Tryz.ntmps168
  go_wp2
  go_ret
  refine ⟨?_, rfl⟩
  show Ending.returned (.int .u16 _) = _
  congr 2
  unfold zQ IntKind.wrap
  simp [IntKind.bits, IntKind.signed]
  split <;> split <;> omega
def zm (op : Int) : Int := match fOf op with
  | none => 0
  | some k => 1 + yz (fAt k 2) + yz (fAt k 3) + yz (fAt k 4) + yz (fAt k 5)
def accS (k : Nat) : Nat → Int
  | 0 => 1
  | 1 => 1 + yz (fAt k 2)
  | 2 => 1 + yz (fAt k 2) + yz (fAt k 3)
  | 3 => 1 + yz (fAt k 2) + yz (fAt k 3) + yz (fAt k 4)
  | _ => 1 + yz (fAt k 2) + yz (fAt k 3) + yz (fAt k 4) + yz (fAt k 5)
set_option maxHeartbeats 1000000 in
theorem size_any (n : Int) (h0 : 0 ≤ n) (h1 : n < 256) (w : World) :
    Calls Tryz.prog 133 #[.int .u8 n] w fun e w' => e = .returned (.int .i64 (zm n)) ∧ Below w.heap.size w w' := by
  cases hf : fOf n with
  | none =>
    have HF := zh hf
    clear hf
    go_enter Tryz.func133, Tryz.ntmps133
    go_wp2_with (first | (refine wpList_store_row rfl _ _ _ rfl _ _ rfl rfl _ _ (heap_alloc_new _ _) ?_ ?_ ?_ ?_; kernel_rfl; rfl; kernel_rfl; rw [World.setRow_alloc_new]) | (go_at_call 135; refine (yk _ _).mono ?_; rintro e w1 ⟨rfl, hb1⟩; rw [HF.out, Option.isSome_none]))
    go_ret
    exact ⟨by unfold zm; rw [HF.out]; rfl, hb1.alloc hb1.size _⟩
  | some k =>
    have HF := zh hf
    have HS := zh hf
    have b0 := yy (fAt k 2)
    have b1 := yy (fAt k 3)
    have b2 := yy (fAt k 4)
    have b3 := yy (fAt k 5)
    clear hf
    have i0 := index4_0
    have i1 := index4_1
    have i2 := index4_2
    have i3 := index4_3
    go_enter Tryz.func133, Tryz.ntmps133
    go_wp2_with (first | (refine wpList_store_row rfl _ _ _ rfl _ _ rfl rfl _ _ (heap_alloc_new _ _) ?_ ?_ ?_ ?_; kernel_rfl; rfl; kernel_rfl; rw [World.setRow_alloc_new]) | (go_at_call 135; refine (yk _ _).mono ?_; rintro e w1 ⟨rfl, hb1⟩; rw [HF.out, Option.isSome_some, zd HF.out, zd HF.out, zd HF.out, zd HF.out]))
    clear HF
    go_loop [5, 17] (fun acc i => ∃ j : Nat, j ≤ 4 ∧ i = .int .i64 j ∧ acc = .int .i64 (accS k j)) (fun _ i => 4 - (intOf i).toNat)
    case atStart => exact ⟨0, by omega, rfl, rfl⟩
    case round =>
      obtain ⟨j, hj, rfl, rfl⟩ := hrel
      have hj5 : j = 0 ∨ j = 1 ∨ j = 2 ∨ j = 3 ∨ j = 4 := by omega
      rcases hj5 with rfl | rfl | rfl | rfl | rfl
      all_goals
        simp only [accS]
        go_wp2_with (go_at_call 165; refine (width_any _ _).mono ?_; rintro e w2 ⟨rfl, rfl⟩)
      · go_round
        case rel => exact ⟨1, by omega, by go_num, rfl⟩
        case measure => simp [intOf]
      · go_round
        case rel => exact ⟨2, by omega, by go_num, rfl⟩
        case measure => simp [intOf]
      · go_round
        case rel => exact ⟨3, by omega, by go_num, rfl⟩
        case measure => simp [intOf]
      · go_round
        case rel => exact ⟨4, by omega, by go_num, rfl⟩
        case measure => simp [intOf]
      · go_ret
        exact ⟨by unfold zm; rw [HS.out]; rfl, hb1.alloc hb1.size _⟩
end Go.Proofs.YteofmaiojepdkaaGreat
namespace Go.Proofs.YteofmaiojepdkaaGreat
open Go.RowKit
def zH (n : Int) : Bool := decide (0 ≤ n) && decide (n < 8)
def zR (f : Int) (i : Ins) : Bool :=
  if f = 1 then zH i.d && zH i.s else if f = 2 then zH i.d else if f = 3 then zH i.s
  else if f = 4 then decide (i.imm < 256) else if f = 5 then decide (zQ (i.imm % 256) = i.imm)
  else if f = 8 then decide (0 ≤ i.bank) && decide (i.bank < 64) else if f = 9 then decide (1 ≤ i.bank) && decide (i.bank < 256) else true
set_option maxHeartbeats 400000 in
theorem reg_any (n : Int) (w : World) :
    Calls Tryz.prog 167 #[.int .i64 n] w fun e w' => e = .returned (.bool (zH n)) ∧ w = w' := by
  go_enter Tryz.func167, Tryz.ntmps167
  go_wp2
  all_goals (go_ret; exact ⟨by congr 2; unfold zH; first | (simp_all; done) | (simp_all; omega), rfl⟩)
set_option maxHeartbeats 1000000 in
theorem fits_any (f : Int) (i : Ins) (hi : i.Ok) (w : World) :
    Calls Tryz.prog 136 #[.int .i64 f, .agg #[.int .i64 (i).op, .int .i64 (i).d, .int .i64 (i).s, .int .u16 (i).imm, .int .u16 (i).aux, .int .i64 (i).bank, .int .i64 (i).size]] w fun e w' => e = .returned (.bool (zR f i)) ∧ Below w.heap.size w w' := by
  obtain ⟨m0, m1⟩ := hi.imm
  have ex := fun W => extend_any (i.imm % 256) (by omega) (by omega) W
  have EX := zh ex
  clear ex
  go_enter Tryz.func136, Tryz.ntmps136
  go_wp2_with (first | (go_at_call 167; refine (reg_any _ _).mono ?_; rintro e w1 ⟨rfl, rfl⟩))
  all_goals first
    | (go_ret; refine ⟨?_, (Below.refl _ _).alloc (zn _) _⟩; congr 2; unfold zR; first | (simp_all; done) | (simp_all; omega))
    | skip
  go_quiet ((go_at_call 168; exact Calls.quiet_of_same ((EX.out _).mono fun _ _ h => ⟨h.1, h.2.symm⟩)))
  go_wp2
  go_ret
  refine ⟨?_, ?_⟩
  · congr 2; unfold zR; simp_all; rfl
  · exact below_drewN ((Below.refl _ _).alloc (zn _) _) _
/-- The bytes of a field. -/
def zY (f : Int) (i : Ins) : List Int :=
  if f = 1 then [16 * i.d + i.s] else if f = 2 then [i.d] else if f = 3 then [i.s]
  else if f = 4 then [i.imm % 256] else if f = 5 then [i.imm % 256] else if f = 6 then [i.imm % 256, i.imm / 256]
  else if f = 7 then [i.aux % 256, i.aux / 256] else if f = 8 then [i.bank] else if f = 9 then [i.bank] else []
def PutPost (f : Int) (i : Ins) (w : World) (e : Ending) (w' : World) : Prop :=
  ∃ v, e = .returned v ∧ w'.ownsRow w.heap.size 5 1 v (zY f i).length (bv (zY f i)) ∧ Below w.heap.size w w'
theorem own_lit (w : World) (o : Obj) (l : List Int) (n : Nat) (hn : n = l.length) (hm : n ≤ 8) :
    ((w.alloc o).alloc (.cells (bv l).toArray 5)).ownsRow w.heap.size 5 1 (.slice (some ⟨w.heap.size + 1, 0, none⟩) n n) n (bv l) := by
  have h := World.ownsRow_lit (base := w.heap.size) (size := 1) (e := 5) (w.alloc o) (bv l).toArray n (by simp) (by unfold maxLen; omega) (by simp [bv, hn])
  simpa using h
set_option maxHeartbeats 1000000 in
theorem put_1 (i : Ins) (hi : i.Ok) (hf : zR 1 i = true) (w : World) :
    Calls Tryz.prog 137 #[.int .i64 1, .agg #[.int .i64 (i).op, .int .i64 (i).d, .int .i64 (i).s, .int .u16 (i).imm, .int .u16 (i).aux, .int .i64 (i).bank, .int .i64 (i).size]] w (PutPost 1 i w) := by
  obtain ⟨m0, m1⟩ := hi.imm
  obtain ⟨a0, a1⟩ := hi.aux
  simp [zR, zH] at hf
  have e : zY 1 i = [16 * i.d + i.s] := by simp [zY]
  have E := zh e
  clear e
  obtain ⟨⟨d0, d1⟩, s0, s1⟩ := hf
  go_enter Tryz.func137, Tryz.ntmps137
  go_wp2
  go_ret
  refine ⟨_, rfl, ?_, ((Below.refl _ _).alloc (zn _) _).alloc (by simp) _⟩
  rw [E.out]
  exact own_lit w _ [16 * i.d + i.s] 1 rfl (by decide)
set_option maxHeartbeats 1000000 in
theorem put_2 (i : Ins) (hi : i.Ok) (hf : zR 2 i = true) (w : World) :
    Calls Tryz.prog 137 #[.int .i64 2, .agg #[.int .i64 (i).op, .int .i64 (i).d, .int .i64 (i).s, .int .u16 (i).imm, .int .u16 (i).aux, .int .i64 (i).bank, .int .i64 (i).size]] w (PutPost 2 i w) := by
  obtain ⟨m0, m1⟩ := hi.imm
  obtain ⟨a0, a1⟩ := hi.aux
  simp [zR, zH] at hf
  have e : zY 2 i = [i.d] := by simp [zY]
  have E := zh e
  clear e
  obtain ⟨d0, d1⟩ := hf
  go_enter Tryz.func137, Tryz.ntmps137
  go_wp2
  go_ret
  refine ⟨_, rfl, ?_, ((Below.refl _ _).alloc (zn _) _).alloc (by simp) _⟩
  rw [E.out]
  exact own_lit w _ [i.d] 1 rfl (by decide)
set_option maxHeartbeats 1000000 in
theorem put_3 (i : Ins) (hi : i.Ok) (hf : zR 3 i = true) (w : World) :
    Calls Tryz.prog 137 #[.int .i64 3, .agg #[.int .i64 (i).op, .int .i64 (i).d, .int .i64 (i).s, .int .u16 (i).imm, .int .u16 (i).aux, .int .i64 (i).bank, .int .i64 (i).size]] w (PutPost 3 i w) := by
  obtain ⟨m0, m1⟩ := hi.imm
  obtain ⟨a0, a1⟩ := hi.aux
  simp [zR, zH] at hf
  have e : zY 3 i = [i.s] := by simp [zY]
  have E := zh e
  clear e
  obtain ⟨d0, d1⟩ := hf
  go_enter Tryz.func137, Tryz.ntmps137
  go_wp2
  go_ret
  refine ⟨_, rfl, ?_, ((Below.refl _ _).alloc (zn _) _).alloc (by simp) _⟩
  rw [E.out]
  exact own_lit w _ [i.s] 1 rfl (by decide)
set_option maxHeartbeats 1000000 in
theorem put_4 (i : Ins) (hi : i.Ok) (hf : zR 4 i = true) (w : World) :
    Calls Tryz.prog 137 #[.int .i64 4, .agg #[.int .i64 (i).op, .int .i64 (i).d, .int .i64 (i).s, .int .u16 (i).imm, .int .u16 (i).aux, .int .i64 (i).bank, .int .i64 (i).size]] w (PutPost 4 i w) := by
  obtain ⟨m0, m1⟩ := hi.imm
  obtain ⟨a0, a1⟩ := hi.aux
  simp [zR, zH] at hf
  have e : zY 4 i = [i.imm % 256] := by simp [zY]
  have E := zh e
  clear e
  clear hf
  go_enter Tryz.func137, Tryz.ntmps137
  go_wp2
  go_ret
  refine ⟨_, rfl, ?_, ((Below.refl _ _).alloc (zn _) _).alloc (by simp) _⟩
  rw [E.out]
  exact own_lit w _ [i.imm % 256] 1 rfl (by decide)
set_option maxHeartbeats 1000000 in
theorem put_5 (i : Ins) (hi : i.Ok) (hf : zR 5 i = true) (w : World) :
    Calls Tryz.prog 137 #[.int .i64 5, .agg #[.int .i64 (i).op, .int .i64 (i).d, .int .i64 (i).s, .int .u16 (i).imm, .int .u16 (i).aux, .int .i64 (i).bank, .int .i64 (i).size]] w (PutPost 5 i w) := by
  obtain ⟨m0, m1⟩ := hi.imm
  obtain ⟨a0, a1⟩ := hi.aux
  simp [zR, zH] at hf
  have e : zY 5 i = [i.imm % 256] := by simp [zY]
  have E := zh e
  clear e
  clear hf
  go_enter Tryz.func137, Tryz.ntmps137
  go_wp2
  go_ret
  refine ⟨_, rfl, ?_, ((Below.refl _ _).alloc (zn _) _).alloc (by simp) _⟩
  rw [E.out]
  exact own_lit w _ [i.imm % 256] 1 rfl (by decide)
set_option maxHeartbeats 1000000 in
theorem put_6 (i : Ins) (hi : i.Ok) (hf : zR 6 i = true) (w : World) :
    Calls Tryz.prog 137 #[.int .i64 6, .agg #[.int .i64 (i).op, .int .i64 (i).d, .int .i64 (i).s, .int .u16 (i).imm, .int .u16 (i).aux, .int .i64 (i).bank, .int .i64 (i).size]] w (PutPost 6 i w) := by
  obtain ⟨m0, m1⟩ := hi.imm
  obtain ⟨a0, a1⟩ := hi.aux
  simp [zR, zH] at hf
  have e : zY 6 i = [i.imm % 256, i.imm / 256] := by simp [zY]
  have E := zh e
  clear e
  go_enter Tryz.func137, Tryz.ntmps137
  go_wp2
  go_ret
  refine ⟨_, rfl, ?_, ((Below.refl _ _).alloc (zn _) _).alloc (by simp) _⟩
  rw [E.out]
  exact own_lit w _ [i.imm % 256, i.imm / 256] 2 rfl (by decide)
set_option maxHeartbeats 1000000 in
theorem put_7 (i : Ins) (hi : i.Ok) (hf : zR 7 i = true) (w : World) :
    Calls Tryz.prog 137 #[.int .i64 7, .agg #[.int .i64 (i).op, .int .i64 (i).d, .int .i64 (i).s, .int .u16 (i).imm, .int .u16 (i).aux, .int .i64 (i).bank, .int .i64 (i).size]] w (PutPost 7 i w) := by
  obtain ⟨m0, m1⟩ := hi.imm
  obtain ⟨a0, a1⟩ := hi.aux
  simp [zR, zH] at hf
  have e : zY 7 i = [i.aux % 256, i.aux / 256] := by simp [zY]
  have E := zh e
  clear e
  go_enter Tryz.func137, Tryz.ntmps137
  go_wp2
  go_ret
  refine ⟨_, rfl, ?_, ((Below.refl _ _).alloc (zn _) _).alloc (by simp) _⟩
  rw [E.out]
  exact own_lit w _ [i.aux % 256, i.aux / 256] 2 rfl (by decide)
set_option maxHeartbeats 1000000 in
theorem put_8 (i : Ins) (hi : i.Ok) (hf : zR 8 i = true) (w : World) :
    Calls Tryz.prog 137 #[.int .i64 8, .agg #[.int .i64 (i).op, .int .i64 (i).d, .int .i64 (i).s, .int .u16 (i).imm, .int .u16 (i).aux, .int .i64 (i).bank, .int .i64 (i).size]] w (PutPost 8 i w) := by
  obtain ⟨m0, m1⟩ := hi.imm
  obtain ⟨a0, a1⟩ := hi.aux
  simp [zR, zH] at hf
  have e : zY 8 i = [i.bank] := by simp [zY]
  have E := zh e
  clear e
  obtain ⟨d0, d1⟩ := hf
  go_enter Tryz.func137, Tryz.ntmps137
  go_wp2
  go_ret
  refine ⟨_, rfl, ?_, ((Below.refl _ _).alloc (zn _) _).alloc (by simp) _⟩
  rw [E.out]
  exact own_lit w _ [i.bank] 1 rfl (by decide)
set_option maxHeartbeats 1000000 in
theorem put_9 (i : Ins) (hi : i.Ok) (hf : zR 9 i = true) (w : World) :
    Calls Tryz.prog 137 #[.int .i64 9, .agg #[.int .i64 (i).op, .int .i64 (i).d, .int .i64 (i).s, .int .u16 (i).imm, .int .u16 (i).aux, .int .i64 (i).bank, .int .i64 (i).size]] w (PutPost 9 i w) := by
  obtain ⟨m0, m1⟩ := hi.imm
  obtain ⟨a0, a1⟩ := hi.aux
  simp [zR, zH] at hf
  have e : zY 9 i = [i.bank] := by simp [zY]
  have E := zh e
  clear e
  obtain ⟨d0, d1⟩ := hf
  go_enter Tryz.func137, Tryz.ntmps137
  go_wp2
  go_ret
  refine ⟨_, rfl, ?_, ((Below.refl _ _).alloc (zn _) _).alloc (by simp) _⟩
  rw [E.out]
  exact own_lit w _ [i.bank] 1 rfl (by decide)
set_option maxHeartbeats 1000000 in
theorem put_any (f : Int) (i : Ins) (hi : i.Ok) (hf : zR f i = true) (w : World) :
    Calls Tryz.prog 137 #[.int .i64 f, .agg #[.int .i64 (i).op, .int .i64 (i).d, .int .i64 (i).s, .int .u16 (i).imm, .int .u16 (i).aux, .int .i64 (i).bank, .int .i64 (i).size]] w (PutPost f i w) := by
  by_cases f1 : f = 1
  · subst f1; exact put_1 i hi hf w
  by_cases f2 : f = 2
  · subst f2; exact put_2 i hi hf w
  by_cases f3 : f = 3
  · subst f3; exact put_3 i hi hf w
  by_cases f4 : f = 4
  · subst f4; exact put_4 i hi hf w
  by_cases f5 : f = 5
  · subst f5; exact put_5 i hi hf w
  by_cases f6 : f = 6
  · subst f6; exact put_6 i hi hf w
  by_cases f7 : f = 7
  · subst f7; exact put_7 i hi hf w
  by_cases f8 : f = 8
  · subst f8; exact put_8 i hi hf w
  by_cases f9 : f = 9
  · subst f9; exact put_9 i hi hf w
  have e : zY f i = [] := by simp [zY, f1, f2, f3, f4, f5, f6, f7, f8, f9]
  have E := zh e
  clear e
  go_enter Tryz.func137, Tryz.ntmps137
  go_wp2
  go_ret
  refine ⟨_, rfl, ?_, (Below.refl _ _).alloc (zn _) _⟩
  rw [E.out]
  exact World.ownsRow_nil _ _ _ _
end Go.Proofs.YteofmaiojepdkaaGreat
namespace Go.Proofs.YteofmaiojepdkaaGreat
open Go.RowKit
theorem u16_word (a b : Int) (a0 : 0 ≤ a) (a1 : a < 256) (b0 : 0 ≤ b) (b1 : b < 256) : bits .or .u16 a (b * 256) = a + 256 * b := by
  obtain ⟨a, rfl⟩ := Int.eq_ofNat_of_zero_le a0
  obtain ⟨b, rfl⟩ := Int.eq_ofNat_of_zero_le b0
  rw [u16_or _ _ (by omega) (by omega) (by omega) (by omega)]
  have h : a ||| b * 256 = a + 256 * b := by
    have := Nat.shiftLeft_add_eq_or_of_lt (b := a) (i := 8) (by omega) b
    rw [Nat.shiftLeft_eq, show (2 : Nat) ^ 8 = 256 from rfl] at this
    rw [Nat.or_comm]
    omega
  have e : ((b : Int) * 256).toNat = b * 256 := by omega
  rw [Int.toNat_natCast, e, h]
  omega
theorem setCell_twice (w : World) (a : Addr) (u v : Value) : (w.setCell a u).setCell a v = w.setCell a v := by
  unfold World.setCell
  congr 1
  apply Array.ext
  · simp
  · intro i h1 h2
    simp only [Array.getElem_modify]
    split
    · generalize w.heap[i]'(by simpa using h2) = o
      cases o <;> simp
      split <;> simp
    · rfl
/-- Byte number k of a string, 0 beyond its end. -/
def byt (s : ByteArray) (k : Nat) : Int := ((s.data.toList.getD k 0).toNat : Int)
theorem ys (s : ByteArray) (k : Nat) : 0 ≤ byt s k ∧ byt s k < 256 := by
  unfold byt
  have := (s.data.toList.getD k 0).toNat_lt
  omega
theorem yN (s : ByteArray) (k : Nat) (h : k < s.size) (w : World) : (Instr.index 9 (.string s) (.int .i64 k)).run Tryz.prog w = .ok (.int .u8 (byt s k)) w := by
  rw [run_index_string _ _ _ _ _ Tryz.underlying9, dif_pos (by omega)]
  congr 2
  unfold byt
  have h2 : k < s.data.toList.length := by simpa using h
  rw [List.getD_eq_getElem?_getD, List.getElem?_eq_getElem h2]
  rfl
set_option maxHeartbeats 400000 in
theorem next_any (s : ByteArray) (k g6 g0 : Nat) (h : k < s.size) (hm : s.size ≤ 9223372036854775807) (w : World) (c6 : w.cell? ⟨g6, 0, none⟩ = some (.int .i64 k)) (f6 : w.frozen? ⟨g6, 0, none⟩ = false)
    (c0 : w.cell? ⟨g0, 0, none⟩ = some (.string s)) (hne : g0 ≠ g6) :
    Calls Tryz.prog 169 #[.pointer (some ⟨g6, 0, none⟩), .pointer (some ⟨g0, 0, none⟩)] w fun e w' => e = .returned (.int .u8 (byt s k)) ∧ w.setCell ⟨g6, 0, none⟩ (.int .i64 ((k : Int) + 1)) = w' := by
  have ix := yN s k h
  go_enter Tryz.func169, Tryz.ntmps169
  go_wp2
  go_ret
  exact ⟨rfl, rfl⟩
set_option maxHeartbeats 1000000 in
theorem word_any (s : ByteArray) (k g7 g6 g0 : Nat) (h : k + 1 < s.size) (hm : s.size ≤ 9223372036854775807) (w : World) (c7 : w.cell? ⟨g7, 0, none⟩ = some (.func (.func 169) #[] #[.pointer (some ⟨g6, 0, none⟩), .pointer (some ⟨g0, 0, none⟩)]))
    (c6 : w.cell? ⟨g6, 0, none⟩ = some (.int .i64 k)) (f6 : w.frozen? ⟨g6, 0, none⟩ = false)
    (c0 : w.cell? ⟨g0, 0, none⟩ = some (.string s)) (hne : g0 ≠ g6) (hne7 : g7 ≠ g6) :
    Calls Tryz.prog 170 #[.pointer (some ⟨g7, 0, none⟩)] w fun e w' => e = .returned (.int .u16 (byt s k + 256 * byt s (k + 1))) ∧ w.setCell ⟨g6, 0, none⟩ (.int .i64 ((k : Int) + 2)) = w' := by
  obtain ⟨b0, b1⟩ := ys s k
  obtain ⟨b2, b3⟩ := ys s (k + 1)
  have n1 := next_any s k g6 g0 (by omega) hm w c6 f6 c0 hne
  have n2 := next_any s (k + 1) g6 g0 (by omega) hm (w.setCell ⟨g6, 0, none⟩ (.int .i64 ((k : Int) + 1))) (World.cell?_setCell_same _ _ _ c6) ((World.frozen?_setCell _ _ _ _).trans f6) ((World.cell?_setCell_other _ _ _ _ (by simp [Ne.symm hne])).trans c0) hne
  have N1 := zh n1
  have N2 := zh n2
  clear n1 n2
  go_enter Tryz.func170, Tryz.ntmps170
  go_wp2_with (first | (go_at_call 169; (with_reducible refine N1.out.mono ?_); rintro e w1 ⟨rfl, rfl⟩) | (go_at_call 169; (with_reducible refine N2.out.mono ?_); rintro e w1 ⟨rfl, rfl⟩))
  go_ret
  refine ⟨?_, ?_⟩
  · rw [← u16_word _ _ b0 b1 b2 b3]; rfl
  · rw [setCell_twice]; congr 2
end Go.Proofs.YteofmaiojepdkaaGreat
