/- package scan: what compares (cmp.Compare, cmp.Or, compare), walked. No condition. -/
import Derived.Test.YteofmaiojepdkaaGreatSaSkH
import Derived.Sort.Grow
import Derived.Lib.Small
import Derived.Handy
set_option linter.all false
namespace Go.Proofs.YteofmaiojepdkaaGreat
open Go Go.RowKit Go.Maps Go.Sort
/-- Draws and new blocks alone. -/
def Grw (w w' : World) : Prop := ∃ q os', w' = grow (w.drewN q) os'
theorem Grw.refl (w : World) : Grw w w := ⟨0, #[], by simp [grow, World.drewN]⟩
theorem Grw.alloc {w w' : World} (h : Grw w w') (o : Obj) : Grw w (w'.alloc o) := by
  obtain ⟨q, os, rfl⟩ := h
  exact ⟨q, os ++ #[o], by rw [alloc_eq_grow, grow_grow]⟩
theorem Grw.drew {w w' : World} (h : Grw w w') : Grw w w'.drew := by
  obtain ⟨q, os, rfl⟩ := h
  exact ⟨q + 1, os, rfl⟩
theorem Grw.trans {a b c : World} (h : Grw a b) (k : Grw b c) : Grw a c := by
  obtain ⟨q, os, rfl⟩ := h
  obtain ⟨r, os', rfl⟩ := k
  exact ⟨q + r, os ++ os', by simp [grow, World.drewN, Nat.add_assoc]⟩
theorem Grw.below {w w' : World} (h : Grw w w') : Below w.heap.size w w' := by
  obtain ⟨q, os, rfl⟩ := h
  exact ⟨rfl, rfl, rfl, by simp, fun k hk => by
    show (w.heap ++ os)[k]? = _
    rw [Array.getElem?_append_left hk]⟩
set_option maxRecDepth 100000 in
theorem nan_int (x : Int) (w : World) : Calls Tryz.prog 129 #[.int .i64 x] w fun e w' => e = .returned (.bool false) ∧ w' = w := by
  have e1 : (x != x) = false := by simp
  go_enter Tryz.func129, Tryz.ntmps129
  go_wp2
  go_ret
  exact ⟨rfl, rfl⟩
set_option maxRecDepth 100000 in
theorem nan_word (x : Int) (w : World) : Calls Tryz.prog 130 #[.int .u16 x] w fun e w' => e = .returned (.bool false) ∧ w' = w := by
  have e1 : (x != x) = false := by simp
  go_enter Tryz.func130, Tryz.ntmps130
  go_wp2
  go_ret
  exact ⟨rfl, rfl⟩
set_option maxRecDepth 100000 in
theorem nan_err (x : Int) (w : World) : Calls Tryz.prog 125 #[.int .i64 x] w fun e w' => e = .returned (.bool false) ∧ w' = w := by
  have e1 : (x != x) = false := by simp
  go_enter Tryz.func125, Tryz.ntmps125
  go_wp2
  go_ret
  exact ⟨rfl, rfl⟩
set_option maxRecDepth 100000 in
theorem cmp_int (x y : Int) (w : World) : Calls Tryz.prog 106 #[.int .i64 x, .int .i64 y] w fun e w' => e = .returned (.int .i64 (Lib.compareInt x y)) ∧ w' = w := by
  have HN := zh (fun x W => nan_int x W)
  unfold Lib.compareInt
  by_cases h1 : x < y
  · rw [if_pos h1]
    go_enter Tryz.func106, Tryz.ntmps106
    go_wp2_with (go_at_call 129; refine (HN.out _ _).mono ?_; rintro e w' ⟨rfl, rfl⟩)
    go_ret
    exact ⟨rfl, rfl⟩
  · rw [if_neg h1]
    by_cases h2 : x > y
    · rw [if_pos h2]
      go_enter Tryz.func106, Tryz.ntmps106
      go_wp2_with (go_at_call 129; refine (HN.out _ _).mono ?_; rintro e w' ⟨rfl, rfl⟩)
      go_ret
      exact ⟨rfl, rfl⟩
    · rw [if_neg h2]
      go_enter Tryz.func106, Tryz.ntmps106
      go_wp2_with (go_at_call 129; refine (HN.out _ _).mono ?_; rintro e w' ⟨rfl, rfl⟩)
      go_ret
      exact ⟨rfl, rfl⟩
set_option maxRecDepth 100000 in
theorem cmp_word (x y : Int) (w : World) : Calls Tryz.prog 107 #[.int .u16 x, .int .u16 y] w fun e w' => e = .returned (.int .i64 (Lib.compareInt x y)) ∧ w' = w := by
  have HN := zh (fun x W => nan_word x W)
  unfold Lib.compareInt
  by_cases h1 : x < y
  · rw [if_pos h1]
    go_enter Tryz.func107, Tryz.ntmps107
    go_wp2_with (go_at_call 130; refine (HN.out _ _).mono ?_; rintro e w' ⟨rfl, rfl⟩)
    go_ret
    exact ⟨rfl, rfl⟩
  · rw [if_neg h1]
    by_cases h2 : x > y
    · rw [if_pos h2]
      go_enter Tryz.func107, Tryz.ntmps107
      go_wp2_with (go_at_call 130; refine (HN.out _ _).mono ?_; rintro e w' ⟨rfl, rfl⟩)
      go_ret
      exact ⟨rfl, rfl⟩
    · rw [if_neg h2]
      go_enter Tryz.func107, Tryz.ntmps107
      go_wp2_with (go_at_call 130; refine (HN.out _ _).mono ?_; rintro e w' ⟨rfl, rfl⟩)
      go_ret
      exact ⟨rfl, rfl⟩
set_option maxRecDepth 100000 in
theorem cmp_err (x y : Int) (w : World) : Calls Tryz.prog 101 #[.int .i64 x, .int .i64 y] w fun e w' => e = .returned (.int .i64 (Lib.compareInt x y)) ∧ w' = w := by
  have HN := zh (fun x W => nan_err x W)
  unfold Lib.compareInt
  by_cases h1 : x < y
  · rw [if_pos h1]
    go_enter Tryz.func101, Tryz.ntmps101
    go_wp2_with (go_at_call 125; refine (HN.out _ _).mono ?_; rintro e w' ⟨rfl, rfl⟩)
    go_ret
    exact ⟨rfl, rfl⟩
  · rw [if_neg h1]
    by_cases h2 : x > y
    · rw [if_pos h2]
      go_enter Tryz.func101, Tryz.ntmps101
      go_wp2_with (go_at_call 125; refine (HN.out _ _).mono ?_; rintro e w' ⟨rfl, rfl⟩)
      go_ret
      exact ⟨rfl, rfl⟩
    · rw [if_neg h2]
      go_enter Tryz.func101, Tryz.ntmps101
      go_wp2_with (go_at_call 125; refine (HN.out _ _).mono ?_; rintro e w' ⟨rfl, rfl⟩)
      go_ret
      exact ⟨rfl, rfl⟩
/-- The first that is not 0. -/
def orS (x y : Int) : Int := if x = 0 then y else x
set_option maxRecDepth 100000 in
set_option maxHeartbeats 1000000 in
theorem or_two (x y : Int) (g : Nat) (w : World) (hg : w.heap[g]? = some (.cells #[.int .i64 x, .int .i64 y] 3 (0, 0))) :
    Calls Tryz.prog 100 #[.slice (some ⟨g, 0, none⟩) 2 2] w fun e w' => e = .returned (.int .i64 (orS x y)) ∧ w' = w := by
  have hc := fun o => cell_of_row w g o _ _ _ hg
  unfold orS
  by_cases h1 : x = 0
  · rw [if_pos h1]
    have e1 : (x != 0) = false := by simp [h1]
    by_cases h2 : y = 0
    · have e2 : (y != 0) = false := by simp [h2]
      have HY := zh h2
      clear h1 h2
      go_enter Tryz.func100, Tryz.ntmps100
      go_wp2_with fail
      go_rounds 3
      go_ret
      exact ⟨by rw [HY.out]; rfl, rfl⟩
    · have e2 : (y != 0) = true := by simp [h2]
      clear h1
      go_enter Tryz.func100, Tryz.ntmps100
      go_wp2_with fail
      go_rounds 3
      go_ret
      exact ⟨rfl, rfl⟩
  · rw [if_neg h1]
    have e1 : (x != 0) = true := by simp [h1]
    go_enter Tryz.func100, Tryz.ntmps100
    go_wp2_with fail
    go_rounds 3
    go_ret
    exact ⟨rfl, rfl⟩
/-- What compare answers. -/
def cmpP (a b : zc) : Int := orS (Lib.compareInt a.bank b.bank) (Lib.compareInt a.addr b.addr)
set_option maxRecDepth 100000 in
set_option maxHeartbeats 1000000 in
theorem compare_any (a b : zc) (w : World) : Calls Tryz.prog 74 #[.agg #[.int .i64 a.bank, .int .u16 a.addr], .agg #[.int .i64 b.bank, .int .u16 b.addr]] w fun e w' => e = .returned (.int .i64 (cmpP a b)) ∧ Grw w w' := by
  have HC1 := zh (fun W => cmp_int a.bank b.bank W)
  have HC2 := zh (fun W => cmp_word a.addr b.addr W)
  unfold cmpP
  generalize Lib.compareInt a.bank b.bank = c1 at *
  generalize Lib.compareInt a.addr b.addr = c2 at *
  have HO := zh (fun W hg => or_two c1 c2 (w.heap.size + 2) W hg)
  have hA := Bx.two w (zo a) (zo b)
  have HA := zh (hA.stay (Below.refl _ _).drew)
  have HG := zh ((((Grw.refl w).alloc (zo a)).alloc (zo b)).drew)
  clear hA
  go_enter Tryz.func74, Tryz.ntmps74
  go_wp2_with fail
  refine zK (S := fun W => (∀ o, W.cell? ⟨w.heap.size, o, none⟩ = (#[.int .i64 a.bank, .int .u16 a.addr] : Array Value)[o]?) ∧ (∀ o, W.cell? ⟨w.heap.size + 1, o, none⟩ = (#[.int .i64 b.bank, .int .u16 b.addr] : Array Value)[o]?)) [11, 12] (by kernel_rfl) ⟨fun o => cell_of_row _ _ _ _ _ _ HA.out.b0, fun o => cell_of_row _ _ _ _ _ _ HA.out.b1⟩ (fun hHeld => ?_)
  (refine tkZ 0 (v := ?_) rfl (by assumption) ?_ ?_; rotate_left; (focus (intro w hSw; (try dsimp only at hSw); go_simp; try with_reducible rfl)); (try simp only [zA, zB, zC, Act.put, zD, zE, zF]))
  (refine tkZ 1 (v := ?_) rfl (by assumption) ?_ ?_; rotate_left; (focus (intro w hSw; (try dsimp only at hSw); go_simp; try with_reducible rfl)); (try simp only [zA, zB, zC, Act.put, zD, zE, zF]))
  (refine tkZ 2 (v := ?_) rfl (by assumption) ?_ ?_; rotate_left; (focus (intro w hSw; (try dsimp only at hSw); go_simp; try with_reducible rfl)); (try simp only [zA, zB, zC, Act.put, zD, zE, zF]))
  (refine tkZ 3 (v := ?_) rfl (by assumption) ?_ ?_; rotate_left; (focus (intro w hSw; (try dsimp only at hSw); go_simp; try with_reducible rfl)); (try simp only [zA, zB, zC, Act.put, zD, zE, zF]))
  (refine tkZ 5 (v := ?_) rfl (by assumption) ?_ ?_; rotate_left; (focus (intro w hSw; (try dsimp only at hSw); go_simp; try with_reducible rfl)); (try simp only [zA, zB, zC, Act.put, zD, zE, zF]))
  (refine tkZ 6 (v := ?_) rfl (by assumption) ?_ ?_; rotate_left; (focus (intro w hSw; (try dsimp only at hSw); go_simp; try with_reducible rfl)); (try simp only [zA, zB, zC, Act.put, zD, zE, zF]))
  (refine tkZ 7 (v := ?_) rfl (by assumption) ?_ ?_; rotate_left; (focus (intro w hSw; (try dsimp only at hSw); go_simp; try with_reducible rfl)); (try simp only [zA, zB, zC, Act.put, zD, zE, zF]))
  (refine tkZ 8 (v := ?_) rfl (by assumption) ?_ ?_; rotate_left; (focus (intro w hSw; (try dsimp only at hSw); go_simp; try with_reducible rfl)); (try simp only [zA, zB, zC, Act.put, zD, zE, zF]))
  refine oneZ 4 rfl (fun K hK => ?_)
  go_simp
  refine (HC1.out _).mono ?_
  rintro e w1 ⟨rfl, rfl⟩
  go_simp
  refine hK.out _ _ (.inr hHeld) ?_
  (try simp only [zA, zB, zC, Act.put, zD, zE, zF])
  clear hK K
  refine oneZ 9 rfl (fun K hK => ?_)
  go_simp
  refine (HC2.out _).mono ?_
  rintro e w2 ⟨rfl, rfl⟩
  go_simp
  refine hK.out _ _ (.inr hHeld) ?_
  (try simp only [zA, zB, zC, Act.put, zD, zE, zF])
  clear hK K
  refine oneZ 10 rfl (fun K hK => ?_)
  go_simp
  have HA2 := zh (HA.out.alloc (.cells #[.int .i64 c1, .int .i64 c2] 3))
  refine hK.out _ _ (.inr ⟨fun o => cell_of_row _ _ _ _ _ _ HA2.out.b0, fun o => cell_of_row _ _ _ _ _ _ HA2.out.b1⟩) ?_
  (try simp only [zA, zB, zC, Act.put, zD, zE, zF])
  clear hK K hHeld
  refine tailZ 11 ?_
  simp only [List.drop_succ_cons, List.drop_zero]
  have hn : ((((w.alloc (zo a)).alloc (zo b)).drew).alloc (.cells #[.int .i64 c1, .int .i64 c2] 3)).heap[w.heap.size + 2]? = some (.cells #[.int .i64 c1, .int .i64 c2] 3 (0, 0)) := by
    have := heap_alloc_new (((w.alloc (zo a)).alloc (zo b)).drew) (.cells #[.int .i64 c1, .int .i64 c2] 3)
    simpa using this
  have HO2 := zh (HO.out _ hn)
  have HG2 := zh (HG.out.alloc (.cells #[.int .i64 c1, .int .i64 c2] 3))
  clear hn
  go_wp2_with (go_at_call 100; refine HO2.out.mono ?_; rintro e w4 ⟨rfl, rfl⟩)
  go_ret
  exact ⟨rfl, HG2.out⟩
abbrev itmB (p : zc) (x : Ins) : Obj := .cells #[.int .i64 p.bank, .int .u16 p.addr, .int .i64 x.op, .int .i64 x.d, .int .i64 x.s, .int .u16 x.imm, .int .u16 x.aux, .int .i64 x.bank, .int .i64 x.size] 55
abbrev yZ (x : zP) : Obj := .cells #[.int .i64 x.kind, .int .i64 x.at_.bank, .int .u16 x.at_.addr] 58
set_option maxRecDepth 100000 in
set_option maxHeartbeats 1000000 in
theorem cmpItem_any (a b : zc) (x y : Ins) (w : World) : Calls Tryz.prog 97 #[.agg #[.int .i64 a.bank, .int .u16 a.addr, .int .i64 x.op, .int .i64 x.d, .int .i64 x.s, .int .u16 x.imm, .int .u16 x.aux, .int .i64 x.bank, .int .i64 x.size], .agg #[.int .i64 b.bank, .int .u16 b.addr, .int .i64 y.op, .int .i64 y.d, .int .i64 y.s, .int .u16 y.imm, .int .u16 y.aux, .int .i64 y.bank, .int .i64 y.size]] w fun e w' => e = .returned (.int .i64 (cmpP a b)) ∧ Grw w w' := by
  have HC := zh (fun W => compare_any a b W)
  have HA := zh (Bx.two w (itmB a x) (itmB b y))
  have HG := zh (((Grw.refl w).alloc (itmB a x)).alloc (itmB b y))
  have hc1 := fun o => cell_of_row _ (w.heap.size) o _ _ _ HA.out.b0
  have hc2 := fun o => cell_of_row _ (w.heap.size + 1) o _ _ _ HA.out.b1
  go_enter Tryz.func97, Tryz.ntmps97
  go_wp2_with (go_at_call 74; refine (HC.out _).mono ?_; rintro e w4 ⟨rfl, hg⟩)
  go_ret
  exact ⟨rfl, HG.out.trans hg⟩
def cmpI (a b : zP) : Int := orS (cmpP a.at_ b.at_) (Lib.compareInt a.kind b.kind)
set_option maxRecDepth 100000 in
set_option maxHeartbeats 1000000 in
theorem cmpIssue_any (a b : zP) (w : World) : Calls Tryz.prog 99 #[.agg #[.int .i64 a.kind, .int .i64 a.at_.bank, .int .u16 a.at_.addr], .agg #[.int .i64 b.kind, .int .i64 b.at_.bank, .int .u16 b.at_.addr]] w fun e w' => e = .returned (.int .i64 (cmpI a b)) ∧ Grw w w' := by
  have HC1 := zh (fun W => compare_any a.at_ b.at_ W)
  have HC2 := zh (fun W => cmp_err a.kind b.kind W)
  unfold cmpI
  generalize cmpP a.at_ b.at_ = c1 at *
  generalize Lib.compareInt a.kind b.kind = c2 at *
  have HO := zh (fun W g hg => or_two c1 c2 g W hg)
  have hA := Bx.two w (yZ a) (yZ b)
  have HA := zh (hA.stay (Below.refl _ _).drew)
  have HG := zh ((((Grw.refl w).alloc (yZ a)).alloc (yZ b)).drew)
  clear hA
  go_enter Tryz.func99, Tryz.ntmps99
  go_wp2_with fail
  refine zK (S := fun W => (∀ o, W.cell? ⟨w.heap.size, o, none⟩ = (#[.int .i64 a.kind, .int .i64 a.at_.bank, .int .u16 a.at_.addr] : Array Value)[o]?) ∧ (∀ o, W.cell? ⟨w.heap.size + 1, o, none⟩ = (#[.int .i64 b.kind, .int .i64 b.at_.bank, .int .u16 b.at_.addr] : Array Value)[o]?)) [11, 12] (by kernel_rfl) ⟨fun o => cell_of_row _ _ _ _ _ _ HA.out.b0, fun o => cell_of_row _ _ _ _ _ _ HA.out.b1⟩ (fun hHeld => ?_)
  (refine tkZ 0 (v := ?_) rfl (by assumption) ?_ ?_; rotate_left; (focus (intro w hSw; (try dsimp only at hSw); go_simp; try with_reducible rfl)); (try simp only [zA, zB, zC, Act.put, zD, zE, zF]))
  (refine tkZ 1 (v := ?_) rfl (by assumption) ?_ ?_; rotate_left; (focus (intro w hSw; (try dsimp only at hSw); go_simp; try with_reducible rfl)); (try simp only [zA, zB, zC, Act.put, zD, zE, zF]))
  (refine tkZ 2 (v := ?_) rfl (by assumption) ?_ ?_; rotate_left; (focus (intro w hSw; (try dsimp only at hSw); go_simp; try with_reducible rfl)); (try simp only [zA, zB, zC, Act.put, zD, zE, zF]))
  (refine tkZ 3 (v := ?_) rfl (by assumption) ?_ ?_; rotate_left; (focus (intro w hSw; (try dsimp only at hSw); go_simp; try with_reducible rfl)); (try simp only [zA, zB, zC, Act.put, zD, zE, zF]))
  (refine tkZ 5 (v := ?_) rfl (by assumption) ?_ ?_; rotate_left; (focus (intro w hSw; (try dsimp only at hSw); go_simp; try with_reducible rfl)); (try simp only [zA, zB, zC, Act.put, zD, zE, zF]))
  (refine tkZ 6 (v := ?_) rfl (by assumption) ?_ ?_; rotate_left; (focus (intro w hSw; (try dsimp only at hSw); go_simp; try with_reducible rfl)); (try simp only [zA, zB, zC, Act.put, zD, zE, zF]))
  (refine tkZ 7 (v := ?_) rfl (by assumption) ?_ ?_; rotate_left; (focus (intro w hSw; (try dsimp only at hSw); go_simp; try with_reducible rfl)); (try simp only [zA, zB, zC, Act.put, zD, zE, zF]))
  (refine tkZ 8 (v := ?_) rfl (by assumption) ?_ ?_; rotate_left; (focus (intro w hSw; (try dsimp only at hSw); go_simp; try with_reducible rfl)); (try simp only [zA, zB, zC, Act.put, zD, zE, zF]))
  refine oneZ 4 rfl (fun K hK => ?_)
  go_simp
  refine (HC1.out _).mono ?_
  rintro e w1 ⟨rfl, hg1⟩
  have HA1 := zh (HA.out.stay hg1.below)
  have HG1 := zh (HG.out.trans hg1)
  clear hg1 hHeld
  go_simp
  have hHeld : (∀ o, w1.cell? ⟨w.heap.size, o, none⟩ = (#[.int .i64 a.kind, .int .i64 a.at_.bank, .int .u16 a.at_.addr] : Array Value)[o]?) ∧ (∀ o, w1.cell? ⟨w.heap.size + 1, o, none⟩ = (#[.int .i64 b.kind, .int .i64 b.at_.bank, .int .u16 b.at_.addr] : Array Value)[o]?) := ⟨fun o => cell_of_row _ _ _ _ _ _ HA1.out.b0, fun o => cell_of_row _ _ _ _ _ _ HA1.out.b1⟩
  refine hK.out _ _ (.inr hHeld) ?_
  (try simp only [zA, zB, zC, Act.put, zD, zE, zF])
  clear hK K
  refine oneZ 9 rfl (fun K hK => ?_)
  go_simp
  refine (HC2.out _).mono ?_
  rintro e w2 ⟨rfl, rfl⟩
  go_simp
  refine hK.out _ _ (.inr hHeld) ?_
  (try simp only [zA, zB, zC, Act.put, zD, zE, zF])
  clear hK K
  refine oneZ 10 rfl (fun K hK => ?_)
  go_simp
  have HA2 := zh (HA1.out.alloc (.cells #[.int .i64 c1, .int .i64 c2] 3))
  refine hK.out _ _ (.inr ⟨fun o => cell_of_row _ _ _ _ _ _ HA2.out.b0, fun o => cell_of_row _ _ _ _ _ _ HA2.out.b1⟩) ?_
  (try simp only [zA, zB, zC, Act.put, zD, zE, zF])
  clear hK K hHeld
  refine tailZ 11 ?_
  simp only [List.drop_succ_cons, List.drop_zero]
  have HO2 := zh (HO.out _ _ (heap_alloc_new w2 (.cells #[.int .i64 c1, .int .i64 c2] 3)))
  have HG2 := zh (HG1.out.alloc (.cells #[.int .i64 c1, .int .i64 c2] 3))
  go_wp2_with (go_at_call 100; refine HO2.out.mono ?_; rintro e w4 ⟨rfl, rfl⟩)
  go_ret
  exact ⟨rfl, HG2.out⟩
end Go.Proofs.YteofmaiojepdkaaGreat
