/- A queue: a slice that starts somewhere in its block; append to it, and what is left behind its first. No condition. -/
import Derived.Test.YteofmaiojepdkaaGreatSdSkH
import Derived.Sort.Grow
import Derived.Lib.Small
import Derived.Handy
import Derived.ArgAppend
import Derived.Deep.Upon
set_option linter.all false
namespace Go.Proofs.YteofmaiojepdkaaGreat
open Go Go.RowKit Go.Maps Go.Sort
def Grw (w w' : World) : Prop := ∃ q os', w' = grow (w.drewN q) os'
theorem Grw.refl (w : World) : Grw w w := ⟨0, #[], by simp [grow, World.drewN]⟩
theorem Grw.alloc {w w' : World} (h : Grw w w') (o : Obj) : Grw w (w'.alloc o) := by
 obtain ⟨q, os, rfl⟩ := h
 exact ⟨q, os ++ #[o], by rw [alloc_eq_grow, grow_grow]⟩
theorem Grw.drew {w w' : World} (h : Grw w w') : Grw w w'.drew := by
 obtain ⟨q, os, rfl⟩ := h
 exact ⟨q + 1, os, rfl⟩
theorem Grw.trans {a b c : World} (h : Grw a b) (k : Grw b c) : Grw a c := by
 obtain ⟨q, os, rfl⟩ := h
 obtain ⟨r, os', rfl⟩ := k
 exact ⟨q + r, os ++ os', by simp [grow, World.drewN, Nat.add_assoc]⟩
theorem Grw.below {w w' : World} (h : Grw w w') : Below w.heap.size w w' := by
 obtain ⟨q, os, rfl⟩ := h
 exact ⟨rfl, rfl, rfl, by simp, fun k hk => by
  show (w.heap ++ os)[k]? = _
  rw [Array.getElem?_append_left hk]⟩
set_option maxRecDepth 100000 in
theorem nan_int (x : Int) (w : World) : Calls Tryz.prog 129 #[.int .i64 x] w fun e w' => e = .returned (.bool false) ∧ w' = w := by
 have e1 : (x != x) = false := by simp
 go_enter Tryz.func129, Tryz.ntmps129
 go_wp2
 go_ret
 exact ⟨rfl, rfl⟩
set_option maxRecDepth 100000 in
theorem nan_word (x : Int) (w : World) : Calls Tryz.prog 130 #[.int .u16 x] w fun e w' => e = .returned (.bool false) ∧ w' = w := by
 have e1 : (x != x) = false := by simp
 go_enter Tryz.func130, Tryz.ntmps130
 go_wp2
 go_ret
 exact ⟨rfl, rfl⟩
set_option maxRecDepth 100000 in
theorem nan_err (x : Int) (w : World) : Calls Tryz.prog 125 #[.int .i64 x] w fun e w' => e = .returned (.bool false) ∧ w' = w := by
 have e1 : (x != x) = false := by simp
 go_enter Tryz.func125, Tryz.ntmps125
 go_wp2
 go_ret
 exact ⟨rfl, rfl⟩
set_option maxRecDepth 100000 in
theorem cmp_int (x y : Int) (w : World) : Calls Tryz.prog 106 #[.int .i64 x, .int .i64 y] w fun e w' => e = .returned (.int .i64 (Lib.compareInt x y)) ∧ w' = w := by
 have HN := zh (fun x W => nan_int x W)
 unfold Lib.compareInt
 by_cases h1 : x < y
 ·rw [if_pos h1]
  go_enter Tryz.func106, Tryz.ntmps106
  go_wp2_with (go_at_call 129; refine (HN.out _ _).mono ?_; rintro e w' ⟨rfl, rfl⟩)
  go_ret
  exact ⟨rfl, rfl⟩
 ·rw [if_neg h1]
  by_cases h2 : x > y
  ·rw [if_pos h2]
   go_enter Tryz.func106, Tryz.ntmps106
   go_wp2_with (go_at_call 129; refine (HN.out _ _).mono ?_; rintro e w' ⟨rfl, rfl⟩)
   go_ret
   exact ⟨rfl, rfl⟩
  ·rw [if_neg h2]
   go_enter Tryz.func106, Tryz.ntmps106
   go_wp2_with (go_at_call 129; refine (HN.out _ _).mono ?_; rintro e w' ⟨rfl, rfl⟩)
   go_ret
   exact ⟨rfl, rfl⟩
set_option maxRecDepth 100000 in
theorem cmp_word (x y : Int) (w : World) : Calls Tryz.prog 107 #[.int .u16 x, .int .u16 y] w fun e w' => e = .returned (.int .i64 (Lib.compareInt x y)) ∧ w' = w := by
 have HN := zh (fun x W => nan_word x W)
 unfold Lib.compareInt
 by_cases h1 : x < y
 ·rw [if_pos h1]
  go_enter Tryz.func107, Tryz.ntmps107
  go_wp2_with (go_at_call 130; refine (HN.out _ _).mono ?_; rintro e w' ⟨rfl, rfl⟩)
  go_ret
  exact ⟨rfl, rfl⟩
 ·rw [if_neg h1]
  by_cases h2 : x > y
  ·rw [if_pos h2]
   go_enter Tryz.func107, Tryz.ntmps107
   go_wp2_with (go_at_call 130; refine (HN.out _ _).mono ?_; rintro e w' ⟨rfl, rfl⟩)
   go_ret
   exact ⟨rfl, rfl⟩
  ·rw [if_neg h2]
   go_enter Tryz.func107, Tryz.ntmps107
   go_wp2_with (go_at_call 130; refine (HN.out _ _).mono ?_; rintro e w' ⟨rfl, rfl⟩)
   go_ret
   exact ⟨rfl, rfl⟩
set_option maxRecDepth 100000 in
theorem cmp_err (x y : Int) (w : World) : Calls Tryz.prog 101 #[.int .i64 x, .int .i64 y] w fun e w' => e = .returned (.int .i64 (Lib.compareInt x y)) ∧ w' = w := by
 have HN := zh (fun x W => nan_err x W)
 unfold Lib.compareInt
 by_cases h1 : x < y
 ·rw [if_pos h1]
  go_enter Tryz.func101, Tryz.ntmps101
  go_wp2_with (go_at_call 125; refine (HN.out _ _).mono ?_; rintro e w' ⟨rfl, rfl⟩)
  go_ret
  exact ⟨rfl, rfl⟩
 ·rw [if_neg h1]
  by_cases h2 : x > y
  ·rw [if_pos h2]
   go_enter Tryz.func101, Tryz.ntmps101
   go_wp2_with (go_at_call 125; refine (HN.out _ _).mono ?_; rintro e w' ⟨rfl, rfl⟩)
   go_ret
   exact ⟨rfl, rfl⟩
  ·rw [if_neg h2]
   go_enter Tryz.func101, Tryz.ntmps101
   go_wp2_with (go_at_call 125; refine (HN.out _ _).mono ?_; rintro e w' ⟨rfl, rfl⟩)
   go_ret
   exact ⟨rfl, rfl⟩
def orS (x y : Int) : Int := if x = 0 then y else x
set_option maxRecDepth 100000 in
set_option maxHeartbeats 1000000 in
theorem or_two (x y : Int) (g : Nat) (w : World) (hg : w.heap[g]? = some (.cells #[.int .i64 x, .int .i64 y] 3 (0, 0))) :
  Calls Tryz.prog 100 #[.slice (some ⟨g, 0, none⟩) 2 2] w fun e w' => e = .returned (.int .i64 (orS x y)) ∧ w' = w := by
 have hc := fun o => cell_of_row w g o _ _ _ hg
 unfold orS
 by_cases h1 : x = 0
 ·rw [if_pos h1]
  have e1 : (x != 0) = false := by simp [h1]
  by_cases h2 : y = 0
  ·have e2 : (y != 0) = false := by simp [h2]
   have HY := zh h2
   clear h1 h2
   go_enter Tryz.func100, Tryz.ntmps100
   go_wp2_with fail
   go_rounds 3
   go_ret
   exact ⟨by rw [HY.out]; rfl, rfl⟩
  ·have e2 : (y != 0) = true := by simp [h2]
   clear h1
   go_enter Tryz.func100, Tryz.ntmps100
   go_wp2_with fail
   go_rounds 3
   go_ret
   exact ⟨rfl, rfl⟩
 ·rw [if_neg h1]
  have e1 : (x != 0) = true := by simp [h1]
  go_enter Tryz.func100, Tryz.ntmps100
  go_wp2_with fail
  go_rounds 3
  go_ret
  exact ⟨rfl, rfl⟩
def cmpP (a b : zc) : Int := orS (Lib.compareInt a.bank b.bank) (Lib.compareInt a.addr b.addr)
set_option maxRecDepth 100000 in
set_option maxHeartbeats 1000000 in
theorem compare_any (a b : zc) (w : World) : Calls Tryz.prog 74 #[.agg #[.int .i64 a.bank, .int .u16 a.addr], .agg #[.int .i64 b.bank, .int .u16 b.addr]] w fun e w' => e = .returned (.int .i64 (cmpP a b)) ∧ Grw w w' := by
 have HC1 := zh (fun W => cmp_int a.bank b.bank W)
 have HC2 := zh (fun W => cmp_word a.addr b.addr W)
 unfold cmpP
 generalize Lib.compareInt a.bank b.bank = c1 at *
 generalize Lib.compareInt a.addr b.addr = c2 at *
 have HO := zh (fun W hg => or_two c1 c2 (w.heap.size + 2) W hg)
 have hA := Bx.two w (zr a) (zr b)
 have HA := zh (hA.stay (Below.refl _ _).drew)
 have HG := zh ((((Grw.refl w).alloc (zr a)).alloc (zr b)).drew)
 clear hA
 go_enter Tryz.func74, Tryz.ntmps74
 go_wp2_with fail
 refine zm (S := fun W => (∀ o, W.cell? ⟨w.heap.size, o, none⟩ = (#[.int .i64 a.bank, .int .u16 a.addr] : Array Value)[o]?) ∧ (∀ o, W.cell? ⟨w.heap.size + 1, o, none⟩ = (#[.int .i64 b.bank, .int .u16 b.addr] : Array Value)[o]?)) [11, 12] (by kernel_rfl) ⟨fun o => cell_of_row _ _ _ _ _ _ HA.out.b0, fun o => cell_of_row _ _ _ _ _ _ HA.out.b1⟩ (fun hHeld => ?_)
 (refine tkZ 0 (v := ?_) rfl (by assumption) ?_ ?_; rotate_left; (focus (intro w hSw; (try dsimp only at hSw); go_simp; try with_reducible rfl)); (try simp only [zA, zB, zC, Act.put, zD, zE, zF]))
 (refine tkZ 1 (v := ?_) rfl (by assumption) ?_ ?_; rotate_left; (focus (intro w hSw; (try dsimp only at hSw); go_simp; try with_reducible rfl)); (try simp only [zA, zB, zC, Act.put, zD, zE, zF]))
 (refine tkZ 2 (v := ?_) rfl (by assumption) ?_ ?_; rotate_left; (focus (intro w hSw; (try dsimp only at hSw); go_simp; try with_reducible rfl)); (try simp only [zA, zB, zC, Act.put, zD, zE, zF]))
 (refine tkZ 3 (v := ?_) rfl (by assumption) ?_ ?_; rotate_left; (focus (intro w hSw; (try dsimp only at hSw); go_simp; try with_reducible rfl)); (try simp only [zA, zB, zC, Act.put, zD, zE, zF]))
 (refine tkZ 5 (v := ?_) rfl (by assumption) ?_ ?_; rotate_left; (focus (intro w hSw; (try dsimp only at hSw); go_simp; try with_reducible rfl)); (try simp only [zA, zB, zC, Act.put, zD, zE, zF]))
 (refine tkZ 6 (v := ?_) rfl (by assumption) ?_ ?_; rotate_left; (focus (intro w hSw; (try dsimp only at hSw); go_simp; try with_reducible rfl)); (try simp only [zA, zB, zC, Act.put, zD, zE, zF]))
 (refine tkZ 7 (v := ?_) rfl (by assumption) ?_ ?_; rotate_left; (focus (intro w hSw; (try dsimp only at hSw); go_simp; try with_reducible rfl)); (try simp only [zA, zB, zC, Act.put, zD, zE, zF]))
 (refine tkZ 8 (v := ?_) rfl (by assumption) ?_ ?_; rotate_left; (focus (intro w hSw; (try dsimp only at hSw); go_simp; try with_reducible rfl)); (try simp only [zA, zB, zC, Act.put, zD, zE, zF]))
 refine yk 4 rfl (fun K hK => ?_)
 go_simp
 refine (HC1.out _).mono ?_
 rintro e w1 ⟨rfl, rfl⟩
 go_simp
 refine hK.out _ _ (.inr hHeld) ?_
 (try simp only [zA, zB, zC, Act.put, zD, zE, zF])
 clear hK K
 refine yk 9 rfl (fun K hK => ?_)
 go_simp
 refine (HC2.out _).mono ?_
 rintro e w2 ⟨rfl, rfl⟩
 go_simp
 refine hK.out _ _ (.inr hHeld) ?_
 (try simp only [zA, zB, zC, Act.put, zD, zE, zF])
 clear hK K
 refine yk 10 rfl (fun K hK => ?_)
 go_simp
 have HA2 := zh (HA.out.alloc (.cells #[.int .i64 c1, .int .i64 c2] 3))
 refine hK.out _ _ (.inr ⟨fun o => cell_of_row _ _ _ _ _ _ HA2.out.b0, fun o => cell_of_row _ _ _ _ _ _ HA2.out.b1⟩) ?_
 (try simp only [zA, zB, zC, Act.put, zD, zE, zF])
 clear hK K hHeld
 refine ya 11 ?_
 simp only [List.drop_succ_cons, List.drop_zero]
 have hn : ((((w.alloc (zr a)).alloc (zr b)).drew).alloc (.cells #[.int .i64 c1, .int .i64 c2] 3)).heap[w.heap.size + 2]? = some (.cells #[.int .i64 c1, .int .i64 c2] 3 (0, 0)) := by
  have := heap_alloc_new (((w.alloc (zr a)).alloc (zr b)).drew) (.cells #[.int .i64 c1, .int .i64 c2] 3)
  simpa using this
 have HO2 := zh (HO.out _ hn)
 have HG2 := zh (HG.out.alloc (.cells #[.int .i64 c1, .int .i64 c2] 3))
 clear hn
 go_wp2_with (go_at_call 100; refine HO2.out.mono ?_; rintro e w4 ⟨rfl, rfl⟩)
 go_ret
 exact ⟨rfl, HG2.out⟩
abbrev itmB (p : zc) (x : Ins) : Obj := .cells #[.int .i64 p.bank, .int .u16 p.addr, .int .i64 x.op, .int .i64 x.d, .int .i64 x.s, .int .u16 x.imm, .int .u16 x.aux, .int .i64 x.bank, .int .i64 x.size] 55
abbrev issB (x : yi) : Obj := .cells #[.int .i64 x.kind, .int .i64 x.at_.bank, .int .u16 x.at_.addr] 58
set_option maxRecDepth 100000 in
set_option maxHeartbeats 1000000 in
theorem cmpItem_any (a b : zc) (x y : Ins) (w : World) : Calls Tryz.prog 97 #[.agg #[.int .i64 a.bank, .int .u16 a.addr, .int .i64 x.op, .int .i64 x.d, .int .i64 x.s, .int .u16 x.imm, .int .u16 x.aux, .int .i64 x.bank, .int .i64 x.size], .agg #[.int .i64 b.bank, .int .u16 b.addr, .int .i64 y.op, .int .i64 y.d, .int .i64 y.s, .int .u16 y.imm, .int .u16 y.aux, .int .i64 y.bank, .int .i64 y.size]] w fun e w' => e = .returned (.int .i64 (cmpP a b)) ∧ Grw w w' := by
 have HC := zh (fun W => compare_any a b W)
 have HA := zh (Bx.two w (itmB a x) (itmB b y))
 have HG := zh (((Grw.refl w).alloc (itmB a x)).alloc (itmB b y))
 have hc1 := fun o => cell_of_row _ (w.heap.size) o _ _ _ HA.out.b0
 have hc2 := fun o => cell_of_row _ (w.heap.size + 1) o _ _ _ HA.out.b1
 go_enter Tryz.func97, Tryz.ntmps97
 go_wp2_with (go_at_call 74; refine (HC.out _).mono ?_; rintro e w4 ⟨rfl, hg⟩)
 go_ret
 exact ⟨rfl, HG.out.trans hg⟩
def cmpI (a b : yi) : Int := orS (cmpP a.at_ b.at_) (Lib.compareInt a.kind b.kind)
set_option maxRecDepth 100000 in
set_option maxHeartbeats 1000000 in
theorem cmpIssue_any (a b : yi) (w : World) : Calls Tryz.prog 99 #[.agg #[.int .i64 a.kind, .int .i64 a.at_.bank, .int .u16 a.at_.addr], .agg #[.int .i64 b.kind, .int .i64 b.at_.bank, .int .u16 b.at_.addr]] w fun e w' => e = .returned (.int .i64 (cmpI a b)) ∧ Grw w w' := by
 have HC1 := zh (fun W => compare_any a.at_ b.at_ W)
 have HC2 := zh (fun W => cmp_err a.kind b.kind W)
 unfold cmpI
 generalize cmpP a.at_ b.at_ = c1 at *
 generalize Lib.compareInt a.kind b.kind = c2 at *
 have HO := zh (fun W g hg => or_two c1 c2 g W hg)
 have hA := Bx.two w (issB a) (issB b)
 have HA := zh (hA.stay (Below.refl _ _).drew)
 have HG := zh ((((Grw.refl w).alloc (issB a)).alloc (issB b)).drew)
 clear hA
 go_enter Tryz.func99, Tryz.ntmps99
 go_wp2_with fail
 refine zm (S := fun W => (∀ o, W.cell? ⟨w.heap.size, o, none⟩ = (#[.int .i64 a.kind, .int .i64 a.at_.bank, .int .u16 a.at_.addr] : Array Value)[o]?) ∧ (∀ o, W.cell? ⟨w.heap.size + 1, o, none⟩ = (#[.int .i64 b.kind, .int .i64 b.at_.bank, .int .u16 b.at_.addr] : Array Value)[o]?)) [11, 12] (by kernel_rfl) ⟨fun o => cell_of_row _ _ _ _ _ _ HA.out.b0, fun o => cell_of_row _ _ _ _ _ _ HA.out.b1⟩ (fun hHeld => ?_)
 (refine tkZ 0 (v := ?_) rfl (by assumption) ?_ ?_; rotate_left; (focus (intro w hSw; (try dsimp only at hSw); go_simp; try with_reducible rfl)); (try simp only [zA, zB, zC, Act.put, zD, zE, zF]))
 (refine tkZ 1 (v := ?_) rfl (by assumption) ?_ ?_; rotate_left; (focus (intro w hSw; (try dsimp only at hSw); go_simp; try with_reducible rfl)); (try simp only [zA, zB, zC, Act.put, zD, zE, zF]))
 (refine tkZ 2 (v := ?_) rfl (by assumption) ?_ ?_; rotate_left; (focus (intro w hSw; (try dsimp only at hSw); go_simp; try with_reducible rfl)); (try simp only [zA, zB, zC, Act.put, zD, zE, zF]))
 (refine tkZ 3 (v := ?_) rfl (by assumption) ?_ ?_; rotate_left; (focus (intro w hSw; (try dsimp only at hSw); go_simp; try with_reducible rfl)); (try simp only [zA, zB, zC, Act.put, zD, zE, zF]))
 (refine tkZ 5 (v := ?_) rfl (by assumption) ?_ ?_; rotate_left; (focus (intro w hSw; (try dsimp only at hSw); go_simp; try with_reducible rfl)); (try simp only [zA, zB, zC, Act.put, zD, zE, zF]))
 (refine tkZ 6 (v := ?_) rfl (by assumption) ?_ ?_; rotate_left; (focus (intro w hSw; (try dsimp only at hSw); go_simp; try with_reducible rfl)); (try simp only [zA, zB, zC, Act.put, zD, zE, zF]))
 (refine tkZ 7 (v := ?_) rfl (by assumption) ?_ ?_; rotate_left; (focus (intro w hSw; (try dsimp only at hSw); go_simp; try with_reducible rfl)); (try simp only [zA, zB, zC, Act.put, zD, zE, zF]))
 (refine tkZ 8 (v := ?_) rfl (by assumption) ?_ ?_; rotate_left; (focus (intro w hSw; (try dsimp only at hSw); go_simp; try with_reducible rfl)); (try simp only [zA, zB, zC, Act.put, zD, zE, zF]))
 refine yk 4 rfl (fun K hK => ?_)
 go_simp
 refine (HC1.out _).mono ?_
 rintro e w1 ⟨rfl, hg1⟩
 have HA1 := zh (HA.out.stay hg1.below)
 have HG1 := zh (HG.out.trans hg1)
 clear hg1 hHeld
 go_simp
 have hHeld : (∀ o, w1.cell? ⟨w.heap.size, o, none⟩ = (#[.int .i64 a.kind, .int .i64 a.at_.bank, .int .u16 a.at_.addr] : Array Value)[o]?) ∧ (∀ o, w1.cell? ⟨w.heap.size + 1, o, none⟩ = (#[.int .i64 b.kind, .int .i64 b.at_.bank, .int .u16 b.at_.addr] : Array Value)[o]?) := ⟨fun o => cell_of_row _ _ _ _ _ _ HA1.out.b0, fun o => cell_of_row _ _ _ _ _ _ HA1.out.b1⟩
 refine hK.out _ _ (.inr hHeld) ?_
 (try simp only [zA, zB, zC, Act.put, zD, zE, zF])
 clear hK K
 refine yk 9 rfl (fun K hK => ?_)
 go_simp
 refine (HC2.out _).mono ?_
 rintro e w2 ⟨rfl, rfl⟩
 go_simp
 refine hK.out _ _ (.inr hHeld) ?_
 (try simp only [zA, zB, zC, Act.put, zD, zE, zF])
 clear hK K
 refine yk 10 rfl (fun K hK => ?_)
 go_simp
 have HA2 := zh (HA1.out.alloc (.cells #[.int .i64 c1, .int .i64 c2] 3))
 refine hK.out _ _ (.inr ⟨fun o => cell_of_row _ _ _ _ _ _ HA2.out.b0, fun o => cell_of_row _ _ _ _ _ _ HA2.out.b1⟩) ?_
 (try simp only [zA, zB, zC, Act.put, zD, zE, zF])
 clear hK K hHeld
 refine ya 11 ?_
 simp only [List.drop_succ_cons, List.drop_zero]
 have HO2 := zh (HO.out _ _ (heap_alloc_new w2 (.cells #[.int .i64 c1, .int .i64 c2] 3)))
 have HG2 := zh (HG1.out.alloc (.cells #[.int .i64 c1, .int .i64 c2] 3))
 go_wp2_with (go_at_call 100; refine HO2.out.mono ?_; rintro e w4 ⟨rfl, rfl⟩)
 go_ret
 exact ⟨rfl, HG2.out⟩
end Go.Proofs.YteofmaiojepdkaaGreat
namespace Go.Proofs.YteofmaiojepdkaaGreat
open Go Go.RowKit Go.Maps Go.Sort
def jp (w : World) (B : Nat) (T : TypeId) (s : Nat) (v : Value) (n : Nat) (xs : List Value) : Prop :=
 xs.length = n * s ∧ ∃ g off cap cur, v = .slice (some ⟨g, off, none⟩) n cap ∧ B ≤ g ∧ w.heap[g]? = some (.cells cur T (0, 0)) ∧ n ≤ cap ∧ cap ≤ maxLen ∧ off + cap * s ≤ cur.size ∧ ∀ j, j < n * s → cur[off + j]? = xs[j]?
theorem jp.ofRow {w : World} {B : Nat} {T : TypeId} {s n : Nat} {v : Value} {xs : List Value} (h : w.ownsRow B T s v n xs) (hn : 0 < n) : jp w B T s v n xs := by
 refine ⟨h.1, ?_⟩
 rcases h.2 with ⟨-, h0⟩ | ⟨g, cap, cur, rfl, hB, hg, hnc, hcm, hcs, ht⟩
 ·omega
 ·refine ⟨g, 0, cap, cur, rfl, hB, hg, hnc, hcm, by omega, fun j hj => ?_⟩
  rw [Nat.zero_add, ← ht, List.getElem?_take, if_pos hj, Array.getElem?_toList]
theorem jp.mono {w : World} {B B' : Nat} {T : TypeId} {s n : Nat} {v : Value} {xs : List Value} (h : jp w B T s v n xs) (hB : B' ≤ B) : jp w B' T s v n xs := by
 obtain ⟨hl, g, off, cap, cur, hv, hg, h2⟩ := h
 exact ⟨hl, g, off, cap, cur, hv, Nat.le_trans hB hg, h2⟩
theorem jp.lt {w : World} {B : Nat} {T : TypeId} {s n : Nat} {v : Value} {xs : List Value} (h : jp w B T s v n xs) : ∀ k, v.ownBlock = some k → B ≤ k ∧ k < w.heap.size := by
 obtain ⟨hl, g, off, cap, cur, rfl, hg, h2, -⟩ := h
 intro k hk
 simp only [Value.ownBlock, Option.some.injEq] at hk
 subst hk
 exact ⟨hg, (Array.getElem?_eq_some_iff.1 h2).1⟩
theorem jp.turn {w w' : World} {bs : Nat → Prop} {B : Nat} {T : TypeId} {s n : Nat} {v : Value} {xs : List Value} (h : jp w B T s v n xs) (t : zl bs w w') (hb : ∀ k, v.ownBlock = some k → ¬ bs k) : jp w' B T s v n xs := by
 obtain ⟨hl, g, off, cap, cur, rfl, hg, h2, h3⟩ := h
 exact ⟨hl, g, off, cap, cur, rfl, hg, t.heap h2 (hb g rfl), h3⟩
theorem jp.tail {w : World} {B : Nat} {T : TypeId} {s n cap g off : Nat} {xs : List Value} (h : jp w B T s (.slice (some ⟨g, off, none⟩) (n + 1) cap) (n + 1) xs) : jp w B T s (.slice (some ⟨g, off + s, none⟩) n (cap - 1)) n (xs.drop s) ∧ jp w B T s (.slice (some ⟨g, off, none⟩) n (cap - 1)) n (xs.take (n * s)) := by
 obtain ⟨hl, g', off', cap', cur, hv, hg, h2, h3, h4, h5, h6⟩ := h
 simp only [Value.slice.injEq, Option.some.injEq, Addr.mk.injEq] at hv
 obtain ⟨⟨rfl, rfl, -⟩, -, rfl⟩ := hv
 rw [Nat.succ_mul] at hl
 have hc : (cap - 1) * s + s = cap * s := by rw [← Nat.succ_mul]; congr 1; omega
 refine ⟨⟨by rw [List.length_drop]; omega, g, off + s, cap - 1, cur, rfl, hg, h2, by omega, by omega, by omega, fun j hj => ?_⟩, ⟨by rw [List.length_take]; omega, g, off, cap - 1, cur, rfl, hg, h2, by omega, by omega, by omega, fun j hj => ?_⟩⟩
 ·rw [List.getElem?_drop, ← h6 (s + j) (by rw [Nat.succ_mul]; omega)]
  congr 1
  omega
 ·rw [List.getElem?_take, if_pos hj, h6 j (by rw [Nat.succ_mul]; omega)]
theorem setCells_block {g : Nat} {T : TypeId} {fr : Nat × Nat} : ∀ (vs : List Value) (o : Nat) (w : World) (cur : Array Value), w.heap[g]? = some (.cells cur T fr) → o + vs.length ≤ cur.size →
  ∃ cur', (w.setCells g o vs).heap[g]? = some (.cells cur' T fr) ∧ cur'.size = cur.size ∧ (∀ j, j < o → cur'[j]? = cur[j]?) ∧ ∀ j, j < vs.length → cur'[o + j]? = vs[j]?
 | [], o, w, cur, h, _ => ⟨cur, h, rfl, fun _ _ => rfl, fun j hj => by simp at hj⟩
 | v :: r, o, w, cur, h, hs => by
  have hs' : o + (r.length + 1) ≤ cur.size := by simpa using hs
  obtain ⟨cur', h1, h2, h3, h4⟩ := setCells_block r (o + 1) _ _ (heap_setCell_same h (i := o) v) (by simp; omega)
  refine ⟨cur', h1, by simpa using h2, fun j hj => ?_, fun j hj => ?_⟩
  ·rw [h3 j (by omega), Array.getElem?_setIfInBounds_ne (by omega)]
  ·cases j with
   | zero =>
    rw [Nat.add_zero, h3 o (by omega), Array.getElem?_setIfInBounds_self_of_lt (by omega)]
    rfl
   | succ j =>
    rw [show o + (j + 1) = o + 1 + j by omega, h4 j (by simpa using hj)]
    simp
theorem tape_setCells (g : Nat) : ∀ (vs : List Value) (o : Nat) (w : World), (w.setCells g o vs).tape = w.tape
 | [], _, _ => rfl
 | v :: r, o, w => by rw [World.setCells, tape_setCells g r]; rfl
theorem size_setCells' (g : Nat) : ∀ (vs : List Value) (o : Nat) (w : World), (w.setCells g o vs).heap.size = w.heap.size
 | [], _, _ => rfl
 | v :: r, o, w => by rw [World.setCells, size_setCells' g r]; simp
theorem grown_setCells (w : World) (g o : Nat) (vs : List Value) : w.grownBy (w.setCells g o vs) (some g) :=
 ⟨World.os_setCells _ _ _ _, tape_setCells _ _ _ _, World.output_setCells _ _ _ _, by rw [size_setCells' g]; exact zn _, fun k hk hne => World.heap_setCells_other _ _ _ _ hk (fun e => hne (by rw [e]))⟩
theorem cell_add {w : World} {g off j : Nat} {cur : Array Value} {T : TypeId} {fr : Nat × Nat} (hg : w.heap[g]? = some (.cells cur T fr)) : w.cell? ((⟨g, off, none⟩ : Addr).add j) = cur[off + j]? := by
 have e : (⟨g, off, none⟩ : Addr).add j = ⟨g, off + j, none⟩ := by unfold Addr.add; split <;> simp_all
 rw [e]
 exact cell_of_row _ _ _ _ _ _ hg
section
variable {P : Program} (w : World)
theorem run_append_q (base : Nat) (t ty e : TypeId) (i : TypeInfo) (z : Value) (size bytes : Nat) (ht : P.underlying t = some (.slice e)) (hi : P.info? e = some i) (hz : i.zero = some z)
  (hsize : i.size = size) (hby : i.bytes = bytes) (hzs : z.cells.size = size) (hsz : 0 < size) (v : Value) (n : Nat) (xs : List Value) (hown : jp w base e size v n xs)
  (A : Option Addr) (m c : Nat) (hc0 : A = none → c = 0) (news : List Value) (hr : SrcW w size A m news) (h1 : ∀ u ∈ news, u.oneCell' = true) (h63 : n + m ≤ maxLen) (hbytes : (n + m) * bytes ≤ 140737488355328) (hbase : base ≤ w.heap.size) :
  ∃ v' w', (Builtin.append_ #[t, t] ty #[v, .slice A m c]).run P w = .ok v' w' ∧ jp w' base e size v' (n + m) (xs ++ news) ∧ w.grownBy w' v.ownBlock ∧ (v'.ownBlock = v.ownBlock ∨ ∃ k, v'.ownBlock = some k ∧ w.heap.size ≤ k) := by
 obtain ⟨hl, g, off, cap, cur, rfl, hB, hg, hnc, hcm, hle, hat⟩ := hown
 have hmul : n * size ≤ cap * size := Nat.mul_le_mul_right _ hnc
 cases A with
 | none =>
  have hm : m = 0 := Nat.eq_zero_of_not_pos fun h0 => by obtain ⟨ad, h, _⟩ := hr.2 h0; cases h
  subst hm
  have hn : news = [] := List.eq_nil_of_length_eq_zero (by simpa using hr.1)
  subst hn
  have h0 := hc0 rfl
  subst h0
  refine ⟨_, w, ?_, ⟨by simpa using hl, g, off, cap, cur, rfl, hB, hg, hnc, hcm, hle, by simpa using hat⟩, ⟨rfl, rfl, rfl, zn _, fun _ _ _ => rfl⟩, .inl rfl⟩
  simp [Builtin.append_, run_underlying ht, sizeOf, typeInfo, hi, Builtin.lenOf, Builtin.firstCells, hnc, storeCells]
 | some ad =>
  have hc : ∀ j u, news[j]? = some u → w.cell? (ad.add j) = some u := fun j u hu => by
   have h0 : 0 < m := Nat.pos_of_ne_zero fun h0 => by
    subst h0
    have hn : news = [] := List.eq_nil_of_length_eq_zero (by simpa using hr.1)
    subst hn; simp at hu
   obtain ⟨ad', h, hc⟩ := hr.2 h0
   cases h
   exact hc j u hu
  by_cases hroom : n + m ≤ cap
  ·have hm2 : n * size + m * size ≤ cap * size := by rw [← Nat.add_mul]; exact Nat.mul_le_mul_right _ hroom
   have hfit : off + n * size + news.length ≤ cur.size := by rw [hr.1]; omega
   subst hsize
   have hrun := run_append_room_cells (P := P) w t ty e i ht hi g off n cap ad m c news hr.1 hc h1 hroom (fun j hj => by
    rw [cell_of_row _ _ _ _ _ _ hg, Array.getElem?_eq_getElem (by omega)]; rfl) (fun j hj => frozen_of_row _ _ _ _ _ hg)
   obtain ⟨cur', k1, k2, k3, k4⟩ := setCells_block news (off + n * i.size) w cur hg hfit
   refine ⟨_, _, hrun, ⟨by rw [List.length_append, hl, hr.1, Nat.add_mul], g, off, cap, cur', rfl, hB, k1, hroom, hcm, by omega, fun j hj => ?_⟩, grown_setCells _ _ _ _, .inl rfl⟩
   by_cases hj2 : j < n * i.size
   ·rw [k3 _ (by omega), hat j hj2, List.getElem?_append_left (by omega)]
   ·rw [Nat.add_mul] at hj
    have := k4 (j - n * i.size) (by rw [hr.1]; omega)
    rw [show off + n * i.size + (j - n * i.size) = off + j by omega] at this
    rw [this, List.getElem?_append_right (by omega), hl]
  ·have holds : ∀ j u, xs[j]? = some u → w.cell? ((⟨g, off, none⟩ : Addr).add j) = some u := fun j u hu => by
    have hj := (List.getElem?_eq_some_iff.1 hu).1
    rw [cell_add hg, hat j (by omega), hu]
   obtain ⟨v', w', hrun, h2, h3⟩ := run_append_arg_grows (P := P) w t ty e i z size bytes ht hi hz hsize hby hzs hsz ⟨g, off, none⟩ n cap xs hl holds ad m c news hr.1 hc (by omega) h63 hbytes
   have hb2 : ∃ k, v'.ownBlock = some k ∧ w.heap.size ≤ k := by
    rcases h2.2 with ⟨rfl, h0⟩ | ⟨k, cp, cu, rfl, hk, -⟩
    ·omega
    ·exact ⟨k, rfl, hk⟩
   exact ⟨v', w', hrun, (jp.ofRow h2 (by omega)).mono hbase, ⟨h3.os, h3.tape, h3.output, h3.size, fun k hk _ => h3.block k hk (by simp)⟩, .inr hb2⟩
theorem wp_append_q {o : Oper} {a : Act} {K : Act → World → Prop} {Q : Exit → Act → World → Prop} (s x : Operand) (t : TypeId)
  (ho : o.op = .call { callee := .builtin .append, args := #[s, x], argTypes := #[t, t] })
  (base : Nat) (e : TypeId) (i : TypeInfo) (z : Value) (size bytes : Nat) (ht : P.underlying t = some (.slice e)) (hi : P.info? e = some i) (hz : i.zero = some z)
  (hsize : i.size = size) (hby : i.bytes = bytes) (hzs : z.cells.size = size) (hsz : 0 < size) (v : Value) (n : Nat) (xs : List Value) (hs : a.eval s = v) (hown : jp w base e size v n xs)
  (A : Option Addr) (m c : Nat) (hc0 : A = none → c = 0) (news : List Value) (hx : a.eval x = .slice A m c) (hr : SrcW w size A m news) (h1 : ∀ u ∈ news, u.oneCell' = true) (h63 : n + m ≤ maxLen) (hbytes : (n + m) * bytes ≤ 140737488355328) (hbase : base ≤ w.heap.size)
  (h : ∀ v' w', jp w' base e size v' (n + m) (xs ++ news) → w.grownBy w' v.ownBlock → (v'.ownBlock = v.ownBlock ∨ ∃ k, v'.ownBlock = some k ∧ w.heap.size ≤ k) → K (a.put o.dst v') w') : o.wp P a w K Q := by
 obtain ⟨v', w', hrun, h2, h3, h4⟩ := run_append_q (P := P) w base t o.type e i z size bytes ht hi hz hsize hby hzs hsz v n xs hown A m c hc0 news hr h1 h63 hbytes hbase
 unfold Oper.wp execOp
 simp only [ho, resolve, invoke, builtin, Sem.run_bind, Sem.run_pure, Result.andThen_ok, List.map_toArray, List.map_cons, List.map_nil, hs, hx, hrun]
 exact h v' w' h2 h3 h4
end
end Go.Proofs.YteofmaiojepdkaaGreat
