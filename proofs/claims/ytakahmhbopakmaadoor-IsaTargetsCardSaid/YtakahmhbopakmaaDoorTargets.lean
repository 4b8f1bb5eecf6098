/- IsaTargets: walked. Condition: the library's tables read as the text lays them. -/
import Derived.Test.YtakahmhbopakmaaDoorSane
import Derived.Test.YtakahmhbopakmaaDoorRTgt
import Derived.Test.YtakahmhbopakmaaDoorMadeC
import Derived.Test.YtakahmhbopakmaaDoorRely
import Derived.Deep.DeepCutAuto
import Derived.Deep.MidRow
set_option linter.all false
namespace Go.Proofs.YtakahmhbopakmaaDoor
open Go.RowKit

theorem exec_load_mid {P : Program} {o : Oper} {a : Act} {w : World} (ty : TypeId) (x : Operand) (ho : o.op = .load ty x) (b off : Nat) (hx : a.eval x = .pointer (some ⟨b, off, none⟩)) (cs : List Value) (d : TypeDesc) (hc : w.rangeAt b off cs)
    (hu : P.underlying ty = some d) (hd : d.isRow = true) (hi : (P.info? ty).map (·.size) = some cs.length) : (execOp a.eval o).run P w = .ok (.value (.agg cs.toArray)) w := by
  unfold execOp
  simp only [ho, hx, Sem.run_bind, run_loadAt_mid w b off ty cs d hc hu hd hi, Sem.run_pure, Result.andThen_ok]
def two7 (i j : Ins) : Array Value := #[.int .i64 i.op, .int .i64 i.d, .int .i64 i.s, .int .u16 i.imm, .int .u16 i.aux, .int .i64 i.bank, .int .i64 i.size, .int .i64 j.op, .int .i64 j.d, .int .i64 j.s, .int .u16 j.imm, .int .u16 j.aux, .int .i64 j.bank, .int .i64 j.size]
/-- Behind the statement that lays the two instructions. -/
def TgCut (i j : Ins) (p : Place) (w : World) (v : Value) (w' : World) : Prop :=
  ∃ g, v = .pointer (some ⟨g, 0, none⟩) ∧ w'.heap[g]? = some (.cells (two7 i j) 59 (0, 0)) ∧ w'.heap[w.heap.size + 2]? = some (.cells (plcCells p) 47 (0, 0)) ∧ w.heap.size + 2 < g ∧ g < w'.heap.size ∧ Below w.heap.size w w'

set_option maxRecDepth 100000 in
set_option maxHeartbeats 4000000 in
theorem targets_any (i : Ins) (hi : i.Ok) (q0 q1 q2 q3 q4 : Int) (p : Place) (p0 : 0 ≤ p.addr) (p1 : p.addr < 65536) (w : World) (hT : Tabs w) :
    Calls Tryd.prog 14 #[.agg #[.int .i64 (i).op, .int .i64 (i).d, .int .i64 (i).s, .int .u16 (i).imm, .int .u16 (i).aux, .int .i64 (i).bank, .int .i64 (i).size], .agg #[.int .i64 q0, .int .i64 q1, .int .i64 q2, .int .i64 q3, .int .i64 q4], .agg #[.int .i64 p.bank, .int .u16 p.addr]] w fun e w' => e = .returned (.bool true) ∧ Below w.heap.size w w' := by
  have hj := made_ok q0 q1 q2 q3 q4
  have HMj := Lib.hid (fun W => made_any q0 q1 q2 q3 q4 W)
  generalize madeS q0 q1 q2 q3 q4 = j at *
  have HT := Lib.hid hT
  clear hT
  go_enter Tryd.func14, Tryd.ntmps14
  have HB := Lib.hid ((((Below.refl w.heap.size w).alloc (Nat.le_refl _) (.cells #[.int .i64 i.op, .int .i64 i.d, .int .i64 i.s, .int .u16 i.imm, .int .u16 i.aux, .int .i64 i.bank, .int .i64 i.size] 24)).alloc (by simp) (.cells #[.int .i64 q0, .int .i64 q1, .int .i64 q2, .int .i64 q3, .int .i64 q4] 25)).alloc (by simp <;> omega) (.cells #[.int .i64 p.bank, .int .u16 p.addr] 47))
  have B0 := Lib.hid ((heap_alloc_old ((w.alloc (.cells #[.int .i64 i.op, .int .i64 i.d, .int .i64 i.s, .int .u16 i.imm, .int .u16 i.aux, .int .i64 i.bank, .int .i64 i.size] 24)).alloc (.cells #[.int .i64 q0, .int .i64 q1, .int .i64 q2, .int .i64 q3, .int .i64 q4] 25)) (.cells #[.int .i64 p.bank, .int .u16 p.addr] 47) (by simp <;> omega : w.heap.size < _)).trans ((heap_alloc_old (w.alloc (.cells #[.int .i64 i.op, .int .i64 i.d, .int .i64 i.s, .int .u16 i.imm, .int .u16 i.aux, .int .i64 i.bank, .int .i64 i.size] 24)) (.cells #[.int .i64 q0, .int .i64 q1, .int .i64 q2, .int .i64 q3, .int .i64 q4] 25) (by simp : w.heap.size < _)).trans (heap_alloc_new w _)))
  have B1 := Lib.hid ((heap_alloc_old ((w.alloc (.cells #[.int .i64 i.op, .int .i64 i.d, .int .i64 i.s, .int .u16 i.imm, .int .u16 i.aux, .int .i64 i.bank, .int .i64 i.size] 24)).alloc (.cells #[.int .i64 q0, .int .i64 q1, .int .i64 q2, .int .i64 q3, .int .i64 q4] 25)) (.cells #[.int .i64 p.bank, .int .u16 p.addr] 47) (by simp : w.heap.size + 1 < _)).trans (news_row (w.alloc (.cells #[.int .i64 i.op, .int .i64 i.d, .int .i64 i.s, .int .u16 i.imm, .int .u16 i.aux, .int .i64 i.bank, .int .i64 i.size] 24)) (.cells #[.int .i64 q0, .int .i64 q1, .int .i64 q2, .int .i64 q3, .int .i64 q4] 25) (by simp)))
  have B2 := Lib.hid (news_row ((w.alloc (.cells #[.int .i64 i.op, .int .i64 i.d, .int .i64 i.s, .int .u16 i.imm, .int .u16 i.aux, .int .i64 i.bank, .int .i64 i.size] 24)).alloc (.cells #[.int .i64 q0, .int .i64 q1, .int .i64 q2, .int .i64 q3, .int .i64 q4] 25)) (.cells #[.int .i64 p.bank, .int .u16 p.addr] 47) (by simp : _ = w.heap.size + 2))
  have hz : w.heap.size + 2 < (((w.alloc (.cells #[.int .i64 i.op, .int .i64 i.d, .int .i64 i.s, .int .u16 i.imm, .int .u16 i.aux, .int .i64 i.bank, .int .i64 i.size] 24)).alloc (.cells #[.int .i64 q0, .int .i64 q1, .int .i64 q2, .int .i64 q3, .int .i64 q4] 25)).alloc (.cells #[.int .i64 p.bank, .int .u16 p.addr] 47)).heap.size := by simp
  go_upto_region 2 with (go_at_call 15; refine (sanity_any _ (HT.out.stay HB.out)).mono ?_; rintro e w1 ⟨rfl, hb1⟩; replace B0 := Lib.hid ((hb1.block _ (by omega)).trans B0.out); replace B1 := Lib.hid ((hb1.block _ (by omega)).trans B1.out); replace B2 := Lib.hid ((hb1.block _ hz).trans B2.out); replace HB := Lib.hid (HB.out.trans (hb1.mono HB.out.size)); have hz1 := Nat.lt_of_lt_of_le hz hb1.size; clear hb1)
  clear hz
  go_cut [8] (fun s8 wx => TgCut i j p w s8 wx)
  case first =>
    refine wp_region_noPanic ?_
    refine wp_region_rely (factOf [isV (.agg (insCells i)), isV (.agg #[.int .i64 q0, .int .i64 q1, .int .i64 q2, .int .i64 q3, .int .i64 q4]), isV (.agg #[.int .i64 (j).op, .int .i64 (j).d, .int .i64 (j).s, .int .u16 (j).imm, .int .u16 (j).aux, .int .i64 (j).bank, .int .i64 (j).size]), isV (.agg (two7 i j)), newR w1.heap.size 59 14, newV w1.heap.size (.cells (two7 i j) 59 (0, 0))]) (nth [[0], [1], [2], [3], [4], [4]]) (nth [[], [], [], [], [], [4]]) (nth [[], [], [1], [0, 2], [], [4, 3, 2, 0, 1]]) [5] (Kept w.heap.size w w1.heap.size [(w.heap.size, .cells #[Value.int .i64 i.op, .int .i64 i.d, .int .i64 i.s, .int .u16 i.imm, .int .u16 i.aux, .int .i64 i.bank, .int .i64 i.size] 24 (0, 0)), (w.heap.size + 1, .cells #[Value.int .i64 q0, .int .i64 q1, .int .i64 q2, .int .i64 q3, .int .i64 q4] 25 (0, 0)), (w.heap.size + 2, .cells #[Value.int .i64 p.bank, .int .u16 p.addr] 47 (0, 0))]) (by kernel_rfl) (by kernel_rfl) (⟨HB.out.drew, HB.out.size, Nat.le_refl _, by intro x hx; simp at hx; rcases hx with rfl | rfl | rfl <;> (show _ < _; omega), B0.out, B1.out, B2.out, trivial⟩) (Kept.grow) (GrowsAll.of ((GrowsAll.cons (Grows.isV _)  (GrowsAll.cons (Grows.isV _)  (GrowsAll.cons (Grows.isV _)  (GrowsAll.cons (Grows.isV _)  (GrowsAll.cons (Grows.newR _ _ _)  (GrowsAll.cons (Grows.newV _ _) GrowsAll.nil)))))))) (fun f F hF => ?_)
    simp only [fullGo, Act.put, List.setIfInBounds_toArray, List.set_cons_zero, List.set_cons_succ, Nat.reduceAdd] at hF
    subst hF
    refine ⟨StepObs.cons ?_ (StepObs.cons ?_ (StepObs.cons ?_ (StepObs.cons ?_ (StepObs.cons ?_ (StepObs.cons ?_ (StepObs.nil)))))), ?_⟩
    · intro w2 hS hF K hK
      rw [if_pos (by rfl)]
      exact wp_load_rowB _ _ rfl _ rfl _ _ _ (hS.2.2.2.2.1) (by kernel_rfl) (hK.out _ _ rfl (After.lit rfl rfl (by first | rfl | kernel_rfl)))
    · intro w2 hS hF K hK
      rw [if_pos (by rfl)]
      exact wp_load_rowB _ _ rfl _ rfl _ _ _ (hS.2.2.2.2.2.1) (by kernel_rfl) (hK.out _ _ rfl (After.lit rfl rfl (by first | rfl | kernel_rfl)))
    · intro w2 hS hF K hK
      obtain ⟨e1, -⟩ := hF
      replace e1 : f 1 = _ := e1
      try simp only [e1]
      rw [if_pos (by rfl)]
      go_simp
      refine (HMj.out _).mono ?_; rintro e w3 ⟨rfl, hbelow⟩; go_simp
      refine hK.out _ _ rfl (After.litB rfl rfl hbelow ?_)
      first | rfl | kernel_rfl
    · intro w2 hS hF K hK
      obtain ⟨e0, e2, -⟩ := hF
      replace e0 : f 0 = _ := e0
      replace e2 : f 2 = _ := e2
      try simp only [e0, e2]
      rw [if_pos (by rfl)]
      refine wp_of_quiet (v := .agg (two7 i j)) (by (show _ = _); kernel_rfl) (hK.out _ _ rfl (After.lit rfl rfl ?_))
      first | rfl | kernel_rfl
    · intro w2 hS hF K hK
      rw [if_pos (by rfl)]
      go_simp
      refine hK.out _ _ rfl (After.new rfl rfl hS.2.2.1 rfl ?_)
      first | rfl | kernel_rfl
    · intro w2 hS hF K hK
      obtain ⟨e4, e3, e2, e0, e1, -⟩ := hF
      obtain ⟨g4, c4, e4, hB4, hg4, hn4⟩ := e4
      replace e4 : f 4 = _ := e4
      replace e3 : f 3 = _ := e3
      replace e2 : f 2 = _ := e2
      replace e0 : f 0 = _ := e0
      replace e1 : f 1 = _ := e1
      try simp only [e4, e3, e2, e0, e1]
      rw [if_pos (by rfl)]
      refine wp_store_row _ _ _ rfl g4 _ rfl rfl _ _ hg4 (by kernel_rfl) hn4 (by kernel_rfl) ?_
      exact hK.out _ _ rfl (After.set rfl rfl rfl rfl e4 hB4 hB4 hg4 hS (StaysAll.isV (StaysAll.isV (StaysAll.isV (StaysAll.isV (StaysAll.out (by rfl) (StaysAll.out (by rfl) StaysAll.nil)))))))
    intro w2 hS hF
    obtain ⟨e5, -⟩ := hF
    obtain ⟨g4, e5, hB4, hg4⟩ := e5
    replace e5 : f 4 = _ := e5
    try simp only [e5]
    refine NoPanic.normal ?_
    go_wp2_with fail
    go_meet
    exact ⟨g4, rfl, hg4, hS.2.2.2.2.2.2.1, Nat.lt_of_lt_of_le hz1 hB4, (Array.getElem?_eq_some_iff.1 hg4).1, hS.1⟩
  case rest =>
    obtain ⟨g, rfl, hg, hpl, hlt, hlt2, hb⟩ := hcut
    replace HB := Lib.hid hb
    have HG := Lib.hid hg
    have HP := Lib.hid hpl
    clear hg hpl hb B0 B1 B2
    go_wp2_with fail
    go_loopw [9] (fun x wr => ∃ k : Nat, k ≤ 2 ∧ x = .int .i64 k ∧ Hid (Below w.heap.size w wr) ∧ Hid (wr.heap[g]? = some (.cells (two7 i j) 59 (0, 0))) ∧ Hid (wr.heap[w.heap.size + 2]? = some (.cells (plcCells p) 47 (0, 0))) ∧ g < wr.heap.size) (fun x _ => 2 - (intOf x).toNat)
    case atStart => exact ⟨0, by omega, rfl, HB, HG, HP, hlt2⟩
    case round =>
      obtain ⟨k, hk, rfl, HB, HG, HP, hz⟩ := hrel
      have hks : k = 0 ∨ k = 1 ∨ k = 2 := by omega
      rcases hks with rfl | rfl | rfl
      · go_upto_region 6 with fail
        refine wp_region_noPanic ?_
        refine wp_region_rely (factOf [isV (.int .i64 0), isV (.pointer (some ⟨g, 0, none⟩)), isV (.agg (insCells i)), isV (.agg (plcCells p)), isV (.tuple #[.agg #[.int .i64 (targetS i p).1.bank, .int .u16 (targetS i p).1.addr], .bool (targetS i p).2]), isV (.tuple #[.agg #[.int .i64 (targetS i p).1.bank, .int .u16 (targetS i p).1.addr], .bool (targetS i p).2]), isV (.agg #[.int .i64 (targetS i p).1.bank, .int .u16 (targetS i p).1.addr]), isV (.bool (targetS i p).2), newR wr.heap.size 47 2, newV wr.heap.size (.cells (plcCells (targetS i p).1) 47 (0, 0)), isV (.bool (targetS i p).2)]) (nth [[0], [1], [2], [3], [4], [5], [6], [7], [8], [8], [10]]) (nth [[], [], [], [], [], [], [], [], [], [8], []]) (nth [[], [0], [1], [], [2, 3], [4], [5], [5], [], [8, 6, 4, 0, 1, 2, 3, 5], [7, 9, 0, 1, 2, 3, 4, 5, 6]]) [9, 10] (Kept w.heap.size w wr.heap.size [(g, .cells (two7 i j) 59 (0, 0)), (w.heap.size + 2, .cells (plcCells p) 47 (0, 0))]) (by kernel_rfl) (by kernel_rfl) (⟨HB.out.drew, HB.out.size, Nat.le_refl _, by intro x hx; simp at hx; rcases hx with rfl | rfl <;> (show _ < _; omega), HG.out, HP.out, trivial⟩) (Kept.grow) (GrowsAll.of ((GrowsAll.cons (Grows.isV _)  (GrowsAll.cons (Grows.isV _)  (GrowsAll.cons (Grows.isV _)  (GrowsAll.cons (Grows.isV _)  (GrowsAll.cons (Grows.isV _)  (GrowsAll.cons (Grows.isV _)  (GrowsAll.cons (Grows.isV _)  (GrowsAll.cons (Grows.isV _)  (GrowsAll.cons (Grows.newR _ _ _)  (GrowsAll.cons (Grows.newV _ _)  (GrowsAll.cons (Grows.isV _) GrowsAll.nil))))))))))))) (fun f F hF => ?_)
        simp only [fullGo, Act.put, List.setIfInBounds_toArray, List.set_cons_zero, List.set_cons_succ, Nat.reduceAdd] at hF
        subst hF
        refine ⟨StepObs.cons ?_ (StepObs.cons ?_ (StepObs.cons ?_ (StepObs.cons ?_ (StepObs.cons ?_ (StepObs.cons ?_ (StepObs.cons ?_ (StepObs.cons ?_ (StepObs.cons ?_ (StepObs.cons ?_ (StepObs.cons ?_ (StepObs.nil))))))))))), ?_⟩
        · intro w2 hS hF K hK
          rw [if_pos (by rfl)]
          refine wp_of_quiet (v := .int .i64 0) (by (show _ = _); kernel_rfl) (hK.out _ _ rfl (After.lit rfl rfl ?_))
          first | rfl | kernel_rfl
        · intro w2 hS hF K hK
          obtain ⟨e0, -⟩ := hF
          replace e0 : f 0 = _ := e0
          try simp only [e0]
          rw [if_pos (by rfl)]
          refine wp_of_quiet (v := .pointer (some ⟨g, 0, none⟩)) (by (show _ = _); kernel_rfl) (hK.out _ _ rfl (After.lit rfl rfl ?_))
          first | rfl | kernel_rfl
        · intro w2 hS hF K hK
          obtain ⟨e1, -⟩ := hF
          replace e1 : f 1 = _ := e1
          try simp only [e1]
          rw [if_pos (by rfl)]
          exact wp_of_quiet (exec_load_mid _ _ rfl g 0 rfl (insCells i).toList _ (World.rangeAt_of_block hS.2.2.2.2.1 0 7) Tryd.underlying24 rfl (by kernel_rfl)) (hK.out _ _ rfl (After.lit rfl rfl (by first | rfl | kernel_rfl)))
        · intro w2 hS hF K hK
          rw [if_pos (by rfl)]
          exact wp_load_rowB _ _ rfl _ rfl _ _ _ (hS.2.2.2.2.2.1) (by kernel_rfl) (hK.out _ _ rfl (After.lit rfl rfl (by first | rfl | kernel_rfl)))
        · intro w2 hS hF K hK
          obtain ⟨e2, e3, -⟩ := hF
          replace e2 : f 2 = _ := e2
          replace e3 : f 3 = _ := e3
          try simp only [e2, e3]
          rw [if_pos (by rfl)]
          go_simp
          refine (target_any i hi p _).mono ?_; rintro e w3 ⟨rfl, hbelow⟩; go_simp
          refine hK.out _ _ rfl (After.litB rfl rfl hbelow ?_)
          first | rfl | kernel_rfl
        · intro w2 hS hF K hK
          obtain ⟨e4, -⟩ := hF
          replace e4 : f 4 = _ := e4
          try simp only [e4]
          rw [if_pos (by rfl)]
          refine wp_of_quiet (v := .tuple #[.agg #[.int .i64 (targetS i p).1.bank, .int .u16 (targetS i p).1.addr], .bool (targetS i p).2]) (by (show _ = _); kernel_rfl) (hK.out _ _ rfl (After.lit rfl rfl ?_))
          first | rfl | kernel_rfl
        · intro w2 hS hF K hK
          obtain ⟨e5, -⟩ := hF
          replace e5 : f 5 = _ := e5
          try simp only [e5]
          rw [if_pos (by rfl)]
          refine wp_of_quiet (v := .agg #[.int .i64 (targetS i p).1.bank, .int .u16 (targetS i p).1.addr]) (by (show _ = _); kernel_rfl) (hK.out _ _ rfl (After.lit rfl rfl ?_))
          first | rfl | kernel_rfl
        · intro w2 hS hF K hK
          obtain ⟨e5, -⟩ := hF
          replace e5 : f 5 = _ := e5
          try simp only [e5]
          rw [if_pos (by rfl)]
          refine wp_of_quiet (v := .bool (targetS i p).2) (by (show _ = _); kernel_rfl) (hK.out _ _ rfl (After.lit rfl rfl ?_))
          first | rfl | kernel_rfl
        · intro w2 hS hF K hK
          rw [if_pos (by rfl)]
          go_simp
          refine hK.out _ _ rfl (After.new rfl rfl hS.2.2.1 rfl ?_)
          first | rfl | kernel_rfl
        · intro w2 hS hF K hK
          obtain ⟨e8, e6, e4, e0, e1, e2, e3, e5, -⟩ := hF
          obtain ⟨g8, c8, e8, hB8, hg8, hn8⟩ := e8
          replace e8 : f 8 = _ := e8
          replace e6 : f 6 = _ := e6
          replace e4 : f 4 = _ := e4
          replace e0 : f 0 = _ := e0
          replace e1 : f 1 = _ := e1
          replace e2 : f 2 = _ := e2
          replace e3 : f 3 = _ := e3
          replace e5 : f 5 = _ := e5
          try simp only [e8, e6, e4, e0, e1, e2, e3, e5]
          rw [if_pos (by rfl)]
          refine wp_store_row _ _ _ rfl g8 _ rfl rfl _ _ hg8 (by kernel_rfl) hn8 (by kernel_rfl) ?_
          exact hK.out _ _ rfl (After.set rfl rfl rfl rfl e8 hB8 hB8 hg8 hS (StaysAll.isV (StaysAll.isV (StaysAll.isV (StaysAll.isV (StaysAll.isV (StaysAll.isV (StaysAll.isV (StaysAll.isV (StaysAll.out (by rfl) (StaysAll.out (by rfl) (StaysAll.isV StaysAll.nil))))))))))))
        · intro w2 hS hF K hK
          obtain ⟨e7, e9, e0, e1, e2, e3, e4, e5, e6, -⟩ := hF
          replace e7 : f 7 = _ := e7
          obtain ⟨g8, e9, hB8, hg8⟩ := e9
          replace e9 : f 8 = _ := e9
          replace e0 : f 0 = _ := e0
          replace e1 : f 1 = _ := e1
          replace e2 : f 2 = _ := e2
          replace e3 : f 3 = _ := e3
          replace e4 : f 4 = _ := e4
          replace e5 : f 5 = _ := e5
          replace e6 : f 6 = _ := e6
          try simp only [e7, e9, e0, e1, e2, e3, e4, e5, e6]
          rw [if_pos (by rfl)]
          refine wp_of_quiet (v := .bool (targetS i p).2) (by (show _ = _); kernel_rfl) (hK.out _ _ rfl (After.lit rfl rfl ?_))
          first | rfl | kernel_rfl
        intro w2 hS hF
        obtain ⟨e9, e10, -⟩ := hF
        obtain ⟨g8, e9, hB8, hg8⟩ := e9
        replace e9 : f 8 = _ := e9
        replace e10 : f 10 = _ := e10
        try simp only [e9, e10]
        refine NoPanic.normal ?_
        have HS := Lib.hid hS
        have H9 := Lib.hid hg8
        have hz8 := (Array.getElem?_eq_some_iff.1 hg8).1
        have hn : wr.heap.size ≤ w2.heap.size := hS.2.2.1
        clear hS hg8
        obtain ⟨wa, rfl⟩ : ∃ wa : World, wa = w2 := ⟨_, rfl⟩
        obtain ⟨ga, rfl⟩ : ∃ ga : Nat, ga = g8 := ⟨_, rfl⟩
        go_upto_region 7 with fail
        refine wp_region_noPanic ?_
        refine wp_region_rely (factOf [isV (.int .i64 0), isV (.pointer (some ⟨g, 0, none⟩)), isV (.agg (insCells i)), isV (.agg (plcCells p)), isV (.tuple #[.agg #[.int .i64 (targetS i p).1.bank, .int .u16 (targetS i p).1.addr], .bool (targetS i p).2]), isV (.tuple #[.agg #[.int .i64 (targetS i p).1.bank, .int .u16 (targetS i p).1.addr], .bool (targetS i p).2]), isV (.agg #[.int .i64 (targetS i p).1.bank, .int .u16 (targetS i p).1.addr]), isV (.bool (targetS i p).2), newR wa.heap.size 47 2, newV wa.heap.size (.cells (plcCells (targetS i p).1) 47 (0, 0)), isV (.bool (targetS i p).2)]) (nth [[0], [1], [2], [3], [4], [5], [6], [7], [8], [8], [10]]) (nth [[], [], [], [], [], [], [], [], [], [8], []]) (nth [[], [0], [1], [], [2, 3], [4], [5], [5], [], [8, 6, 4, 0, 1, 2, 3, 5], [7, 9, 0, 1, 2, 3, 4, 5, 6]]) [9, 10] (Kept w.heap.size w wa.heap.size [(g, .cells (two7 i j) 59 (0, 0)), (w.heap.size + 2, .cells (plcCells p) 47 (0, 0)), (ga, .cells (plcCells (targetS i p).1) 47 (0, 0))]) (by kernel_rfl) (by kernel_rfl) (⟨HS.out.1.drew, HS.out.1.size, Nat.le_refl _, by intro x hx; simp at hx; rcases hx with rfl | rfl | rfl <;> (show _ < _; omega), HS.out.2.2.2.2.1, HS.out.2.2.2.2.2.1, H9.out, trivial⟩) (Kept.grow) (GrowsAll.of ((GrowsAll.cons (Grows.isV _)  (GrowsAll.cons (Grows.isV _)  (GrowsAll.cons (Grows.isV _)  (GrowsAll.cons (Grows.isV _)  (GrowsAll.cons (Grows.isV _)  (GrowsAll.cons (Grows.isV _)  (GrowsAll.cons (Grows.isV _)  (GrowsAll.cons (Grows.isV _)  (GrowsAll.cons (Grows.newR _ _ _)  (GrowsAll.cons (Grows.newV _ _)  (GrowsAll.cons (Grows.isV _) GrowsAll.nil))))))))))))) (fun f F hF => ?_)
        simp only [fullGo, Act.put, List.setIfInBounds_toArray, List.set_cons_zero, List.set_cons_succ, Nat.reduceAdd] at hF
        subst hF
        refine ⟨StepObs.cons ?_ (StepObs.cons ?_ (StepObs.cons ?_ (StepObs.cons ?_ (StepObs.cons ?_ (StepObs.cons ?_ (StepObs.cons ?_ (StepObs.cons ?_ (StepObs.cons ?_ (StepObs.cons ?_ (StepObs.cons ?_ (StepObs.nil))))))))))), ?_⟩
        · intro w2 hS hF K hK
          rw [if_pos (by rfl)]
          refine wp_of_quiet (v := .int .i64 0) (by (show _ = _); kernel_rfl) (hK.out _ _ rfl (After.lit rfl rfl ?_))
          first | rfl | kernel_rfl
        · intro w2 hS hF K hK
          obtain ⟨e0, -⟩ := hF
          replace e0 : f 0 = _ := e0
          try simp only [e0]
          rw [if_pos (by rfl)]
          refine wp_of_quiet (v := .pointer (some ⟨g, 0, none⟩)) (by (show _ = _); kernel_rfl) (hK.out _ _ rfl (After.lit rfl rfl ?_))
          first | rfl | kernel_rfl
        · intro w2 hS hF K hK
          obtain ⟨e1, -⟩ := hF
          replace e1 : f 1 = _ := e1
          try simp only [e1]
          rw [if_pos (by rfl)]
          exact wp_of_quiet (exec_load_mid _ _ rfl g 0 rfl (insCells i).toList _ (World.rangeAt_of_block hS.2.2.2.2.1 0 7) Tryd.underlying24 rfl (by kernel_rfl)) (hK.out _ _ rfl (After.lit rfl rfl (by first | rfl | kernel_rfl)))
        · intro w2 hS hF K hK
          rw [if_pos (by rfl)]
          exact wp_load_rowB _ _ rfl _ rfl _ _ _ (hS.2.2.2.2.2.1) (by kernel_rfl) (hK.out _ _ rfl (After.lit rfl rfl (by first | rfl | kernel_rfl)))
        · intro w2 hS hF K hK
          obtain ⟨e2, e3, -⟩ := hF
          replace e2 : f 2 = _ := e2
          replace e3 : f 3 = _ := e3
          try simp only [e2, e3]
          rw [if_pos (by rfl)]
          go_simp
          refine (rtarget_any i hi p p0 p1 _).mono ?_; rintro e w3 ⟨rfl, hbelow⟩; go_simp
          refine hK.out _ _ rfl (After.litB rfl rfl hbelow ?_)
          first | rfl | kernel_rfl
        · intro w2 hS hF K hK
          obtain ⟨e4, -⟩ := hF
          replace e4 : f 4 = _ := e4
          try simp only [e4]
          rw [if_pos (by rfl)]
          refine wp_of_quiet (v := .tuple #[.agg #[.int .i64 (targetS i p).1.bank, .int .u16 (targetS i p).1.addr], .bool (targetS i p).2]) (by (show _ = _); kernel_rfl) (hK.out _ _ rfl (After.lit rfl rfl ?_))
          first | rfl | kernel_rfl
        · intro w2 hS hF K hK
          obtain ⟨e5, -⟩ := hF
          replace e5 : f 5 = _ := e5
          try simp only [e5]
          rw [if_pos (by rfl)]
          refine wp_of_quiet (v := .agg #[.int .i64 (targetS i p).1.bank, .int .u16 (targetS i p).1.addr]) (by (show _ = _); kernel_rfl) (hK.out _ _ rfl (After.lit rfl rfl ?_))
          first | rfl | kernel_rfl
        · intro w2 hS hF K hK
          obtain ⟨e5, -⟩ := hF
          replace e5 : f 5 = _ := e5
          try simp only [e5]
          rw [if_pos (by rfl)]
          refine wp_of_quiet (v := .bool (targetS i p).2) (by (show _ = _); kernel_rfl) (hK.out _ _ rfl (After.lit rfl rfl ?_))
          first | rfl | kernel_rfl
        · intro w2 hS hF K hK
          rw [if_pos (by rfl)]
          go_simp
          refine hK.out _ _ rfl (After.new rfl rfl hS.2.2.1 rfl ?_)
          first | rfl | kernel_rfl
        · intro w2 hS hF K hK
          obtain ⟨e8, e6, e4, e0, e1, e2, e3, e5, -⟩ := hF
          obtain ⟨g8, c8, e8, hB8, hg8, hn8⟩ := e8
          replace e8 : f 8 = _ := e8
          replace e6 : f 6 = _ := e6
          replace e4 : f 4 = _ := e4
          replace e0 : f 0 = _ := e0
          replace e1 : f 1 = _ := e1
          replace e2 : f 2 = _ := e2
          replace e3 : f 3 = _ := e3
          replace e5 : f 5 = _ := e5
          try simp only [e8, e6, e4, e0, e1, e2, e3, e5]
          rw [if_pos (by rfl)]
          refine wp_store_row _ _ _ rfl g8 _ rfl rfl _ _ hg8 (by kernel_rfl) hn8 (by kernel_rfl) ?_
          exact hK.out _ _ rfl (After.set rfl rfl rfl rfl e8 hB8 hB8 hg8 hS (StaysAll.isV (StaysAll.isV (StaysAll.isV (StaysAll.isV (StaysAll.isV (StaysAll.isV (StaysAll.isV (StaysAll.isV (StaysAll.out (by rfl) (StaysAll.out (by rfl) (StaysAll.isV StaysAll.nil))))))))))))
        · intro w2 hS hF K hK
          obtain ⟨e7, e9, e0, e1, e2, e3, e4, e5, e6, -⟩ := hF
          replace e7 : f 7 = _ := e7
          obtain ⟨g8, e9, hB8, hg8⟩ := e9
          replace e9 : f 8 = _ := e9
          replace e0 : f 0 = _ := e0
          replace e1 : f 1 = _ := e1
          replace e2 : f 2 = _ := e2
          replace e3 : f 3 = _ := e3
          replace e4 : f 4 = _ := e4
          replace e5 : f 5 = _ := e5
          replace e6 : f 6 = _ := e6
          try simp only [e7, e9, e0, e1, e2, e3, e4, e5, e6]
          rw [if_pos (by rfl)]
          refine wp_of_quiet (v := .bool (targetS i p).2) (by (show _ = _); kernel_rfl) (hK.out _ _ rfl (After.lit rfl rfl ?_))
          first | rfl | kernel_rfl
        intro w2 hS hF
        obtain ⟨e9, e10, -⟩ := hF
        obtain ⟨g8, e9, hB8, hg8⟩ := e9
        replace e9 : f 8 = _ := e9
        replace e10 : f 10 = _ := e10
        try simp only [e9, e10]
        refine NoPanic.normal ?_
        have HS2 := Lib.hid hS
        have H9b := Lib.hid hg8
        have hz8b := (Array.getElem?_eq_some_iff.1 hg8).1
        have hnb : wa.heap.size ≤ w2.heap.size := hS.2.2.1
        clear hS hg8 HS H9
        obtain ⟨wb, rfl⟩ : ∃ wb : World, wb = w2 := ⟨_, rfl⟩
        obtain ⟨gb, rfl⟩ : ∃ gb : Nat, gb = g8 := ⟨_, rfl⟩
        go_upto_region 8 with fail
        refine wp_region_noPanic ?_
        refine wp_region_rely (factOf [isV (.agg #[.int .i64 (targetS i p).1.bank, .int .u16 (targetS i p).1.addr]), isV (.agg #[.int .i64 (targetS i p).1.bank, .int .u16 (targetS i p).1.addr]), isV (.bool false), isV (.bool false), isV (.bool (targetS i p).2), isV (.bool (targetS i p).2), isV (.bool false), isV (.bool false), isV (.bool false), isV (.int .i64 0), isV (.pointer (some ⟨g, 0, none⟩)), isV (.agg (insCells i)), isV (.bool (fallsS i)), isV (.int .i64 0), isV (.pointer (some ⟨g, 0, none⟩)), isV (.agg (insCells i)), isV (.bool (fallsS i)), isV (.bool false), isV (.bool false)]) (nth [[0], [1], [2], [3], [4], [5], [6], [7], [8], [9], [10], [11], [12], [13], [14], [15], [16], [17], [18]]) (nth [[], [], [], [], [], [], [], [], [], [], [], [], [], [], [], [], [], [], []]) (nth [[], [], [0, 1], [2], [3], [3], [4, 5, 3], [3, 6], [7, 3], [8], [9, 8], [10, 8], [11, 8], [8], [13, 8], [14, 8], [15, 12, 8], [12, 16, 8], [8, 17]]) [18] (Kept w.heap.size w wb.heap.size [(g, .cells (two7 i j) 59 (0, 0)), (w.heap.size + 2, .cells (plcCells p) 47 (0, 0)), (ga, .cells (plcCells (targetS i p).1) 47 (0, 0)), (gb, .cells (plcCells (targetS i p).1) 47 (0, 0))]) (by kernel_rfl) (by kernel_rfl) (⟨HS2.out.1.drew, HS2.out.1.size, Nat.le_refl _, by intro x hx; simp at hx; rcases hx with rfl | rfl | rfl | rfl <;> (show _ < _; omega), HS2.out.2.2.2.2.1, HS2.out.2.2.2.2.2.1, HS2.out.2.2.2.2.2.2.1, H9b.out, trivial⟩) (Kept.grow) (GrowsAll.of ((GrowsAll.cons (Grows.isV _)  (GrowsAll.cons (Grows.isV _)  (GrowsAll.cons (Grows.isV _)  (GrowsAll.cons (Grows.isV _)  (GrowsAll.cons (Grows.isV _)  (GrowsAll.cons (Grows.isV _)  (GrowsAll.cons (Grows.isV _)  (GrowsAll.cons (Grows.isV _)  (GrowsAll.cons (Grows.isV _)  (GrowsAll.cons (Grows.isV _)  (GrowsAll.cons (Grows.isV _)  (GrowsAll.cons (Grows.isV _)  (GrowsAll.cons (Grows.isV _)  (GrowsAll.cons (Grows.isV _)  (GrowsAll.cons (Grows.isV _)  (GrowsAll.cons (Grows.isV _)  (GrowsAll.cons (Grows.isV _)  (GrowsAll.cons (Grows.isV _)  (GrowsAll.cons (Grows.isV _) GrowsAll.nil))))))))))))))))))))) (fun f F hF => ?_)
        simp only [fullGo, Act.put, List.setIfInBounds_toArray, List.set_cons_zero, List.set_cons_succ, Nat.reduceAdd] at hF
        subst hF
        refine ⟨StepObs.cons ?_ (StepObs.cons ?_ (StepObs.cons ?_ (StepObs.cons ?_ (StepObs.cons ?_ (StepObs.cons ?_ (StepObs.cons ?_ (StepObs.cons ?_ (StepObs.cons ?_ (StepObs.cons ?_ (StepObs.cons ?_ (StepObs.cons ?_ (StepObs.cons ?_ (StepObs.cons ?_ (StepObs.cons ?_ (StepObs.cons ?_ (StepObs.cons ?_ (StepObs.cons ?_ (StepObs.cons ?_ (StepObs.nil))))))))))))))))))), ?_⟩
        · intro w2 hS hF K hK
          rw [if_pos (by rfl)]
          exact wp_load_rowB _ _ rfl _ rfl _ _ _ (hS.2.2.2.2.2.2.1) (by kernel_rfl) (hK.out _ _ rfl (After.lit rfl rfl (by first | rfl | kernel_rfl)))
        · intro w2 hS hF K hK
          rw [if_pos (by rfl)]
          exact wp_load_rowB _ _ rfl _ rfl _ _ _ (hS.2.2.2.2.2.2.2.1) (by kernel_rfl) (hK.out _ _ rfl (After.lit rfl rfl (by first | rfl | kernel_rfl)))
        · intro w2 hS hF K hK
          obtain ⟨e0, e1, -⟩ := hF
          replace e0 : f 0 = _ := e0
          replace e1 : f 1 = _ := e1
          try simp only [e0, e1]
          rw [if_pos (by rfl)]
          go_simp
          refine hK.out _ _ rfl (After.lit rfl rfl ?_)
          first | rfl | kernel_rfl
        · intro w2 hS hF K hK
          obtain ⟨e2, -⟩ := hF
          replace e2 : f 2 = _ := e2
          try simp only [e2]
          rw [if_pos (by rfl)]
          refine wp_of_quiet (v := .bool false) (by (show _ = _); kernel_rfl) (hK.out _ _ rfl (After.lit rfl rfl ?_))
          first | rfl | kernel_rfl
        · intro w2 hS hF K hK
          obtain ⟨e3, -⟩ := hF
          replace e3 : f 3 = _ := e3
          try simp only [e3]
          rw [if_pos (by rfl)]
          refine wp_of_quiet (v := .bool (targetS i p).2) (by (show _ = _); kernel_rfl) (hK.out _ _ rfl (After.lit rfl rfl ?_))
          first | rfl | kernel_rfl
        · intro w2 hS hF K hK
          obtain ⟨e3, -⟩ := hF
          replace e3 : f 3 = _ := e3
          try simp only [e3]
          rw [if_pos (by rfl)]
          refine wp_of_quiet (v := .bool (targetS i p).2) (by (show _ = _); kernel_rfl) (hK.out _ _ rfl (After.lit rfl rfl ?_))
          first | rfl | kernel_rfl
        · intro w2 hS hF K hK
          obtain ⟨e4, e5, e3, -⟩ := hF
          replace e4 : f 4 = _ := e4
          replace e5 : f 5 = _ := e5
          replace e3 : f 3 = _ := e3
          try simp only [e4, e5, e3]
          rw [if_pos (by rfl)]
          go_simp
          refine hK.out _ _ rfl (After.lit rfl rfl ?_)
          first | rfl | kernel_rfl
        · intro w2 hS hF K hK
          obtain ⟨e3, e6, -⟩ := hF
          replace e3 : f 3 = _ := e3
          replace e6 : f 6 = _ := e6
          try simp only [e3, e6]
          rw [if_pos (by rfl)]
          refine wp_of_quiet (v := .bool false) (by (show _ = _); kernel_rfl) (hK.out _ _ rfl (After.lit rfl rfl ?_))
          first | rfl | kernel_rfl
        · intro w2 hS hF K hK
          obtain ⟨e7, e3, -⟩ := hF
          replace e7 : f 7 = _ := e7
          replace e3 : f 3 = _ := e3
          try simp only [e7, e3]
          rw [if_pos (by rfl)]
          refine wp_of_quiet (v := .bool false) (by (show _ = _); kernel_rfl) (hK.out _ _ rfl (After.lit rfl rfl ?_))
          first | rfl | kernel_rfl
        · intro w2 hS hF K hK
          obtain ⟨e8, -⟩ := hF
          replace e8 : f 8 = _ := e8
          try simp only [e8]
          rw [if_pos (by rfl)]
          refine wp_of_quiet (v := .int .i64 0) (by (show _ = _); kernel_rfl) (hK.out _ _ rfl (After.lit rfl rfl ?_))
          first | rfl | kernel_rfl
        · intro w2 hS hF K hK
          obtain ⟨e9, e8, -⟩ := hF
          replace e9 : f 9 = _ := e9
          replace e8 : f 8 = _ := e8
          try simp only [e9, e8]
          rw [if_pos (by rfl)]
          refine wp_of_quiet (v := .pointer (some ⟨g, 0, none⟩)) (by (show _ = _); kernel_rfl) (hK.out _ _ rfl (After.lit rfl rfl ?_))
          first | rfl | kernel_rfl
        · intro w2 hS hF K hK
          obtain ⟨e10, e8, -⟩ := hF
          replace e10 : f 10 = _ := e10
          replace e8 : f 8 = _ := e8
          try simp only [e10, e8]
          rw [if_pos (by rfl)]
          exact wp_of_quiet (exec_load_mid _ _ rfl g 0 rfl (insCells i).toList _ (World.rangeAt_of_block hS.2.2.2.2.1 0 7) Tryd.underlying24 rfl (by kernel_rfl)) (hK.out _ _ rfl (After.lit rfl rfl (by first | rfl | kernel_rfl)))
        · intro w2 hS hF K hK
          obtain ⟨e11, e8, -⟩ := hF
          replace e11 : f 11 = _ := e11
          replace e8 : f 8 = _ := e8
          try simp only [e11, e8]
          rw [if_pos (by rfl)]
          go_simp
          refine (falls_any i hi _).mono ?_; rintro e w3 ⟨rfl, hbelow⟩; go_simp
          refine hK.out _ _ rfl (After.litB rfl rfl hbelow ?_)
          first | rfl | kernel_rfl
        · intro w2 hS hF K hK
          obtain ⟨e8, -⟩ := hF
          replace e8 : f 8 = _ := e8
          try simp only [e8]
          rw [if_pos (by rfl)]
          refine wp_of_quiet (v := .int .i64 0) (by (show _ = _); kernel_rfl) (hK.out _ _ rfl (After.lit rfl rfl ?_))
          first | rfl | kernel_rfl
        · intro w2 hS hF K hK
          obtain ⟨e13, e8, -⟩ := hF
          replace e13 : f 13 = _ := e13
          replace e8 : f 8 = _ := e8
          try simp only [e13, e8]
          rw [if_pos (by rfl)]
          refine wp_of_quiet (v := .pointer (some ⟨g, 0, none⟩)) (by (show _ = _); kernel_rfl) (hK.out _ _ rfl (After.lit rfl rfl ?_))
          first | rfl | kernel_rfl
        · intro w2 hS hF K hK
          obtain ⟨e14, e8, -⟩ := hF
          replace e14 : f 14 = _ := e14
          replace e8 : f 8 = _ := e8
          try simp only [e14, e8]
          rw [if_pos (by rfl)]
          exact wp_of_quiet (exec_load_mid _ _ rfl g 0 rfl (insCells i).toList _ (World.rangeAt_of_block hS.2.2.2.2.1 0 7) Tryd.underlying24 rfl (by kernel_rfl)) (hK.out _ _ rfl (After.lit rfl rfl (by first | rfl | kernel_rfl)))
        · intro w2 hS hF K hK
          obtain ⟨e15, e12, e8, -⟩ := hF
          replace e15 : f 15 = _ := e15
          replace e12 : f 12 = _ := e12
          replace e8 : f 8 = _ := e8
          try simp only [e15, e12, e8]
          rw [if_pos (by rfl)]
          go_simp
          refine (rfalls_any i hi _).mono ?_; rintro e w3 ⟨rfl, hbelow⟩; go_simp
          refine hK.out _ _ rfl (After.litB rfl rfl hbelow ?_)
          first | rfl | kernel_rfl
        · intro w2 hS hF K hK
          obtain ⟨e12, e16, e8, -⟩ := hF
          replace e12 : f 12 = _ := e12
          replace e16 : f 16 = _ := e16
          replace e8 : f 8 = _ := e8
          try simp only [e12, e16, e8]
          rw [if_pos (by rfl)]
          go_simp
          refine hK.out _ _ rfl (After.lit rfl rfl ?_)
          first | rfl | kernel_rfl
        · intro w2 hS hF K hK
          obtain ⟨e8, e17, -⟩ := hF
          replace e8 : f 8 = _ := e8
          replace e17 : f 17 = _ := e17
          try simp only [e8, e17]
          rw [if_pos (by rfl)]
          refine wp_of_quiet (v := .bool false) (by (show _ = _); kernel_rfl) (hK.out _ _ rfl (After.lit rfl rfl ?_))
          first | rfl | kernel_rfl
        intro w2 hS hF
        obtain ⟨e18, -⟩ := hF
        replace e18 : f 18 = _ := e18
        try simp only [e18]
        refine NoPanic.normal ?_
        go_wp2_with fail
        go_roundw
        case rel => exact ⟨1, by omega, rfl, Lib.hid hS.1, Lib.hid hS.2.2.2.2.1, Lib.hid hS.2.2.2.2.2.1, (Array.getElem?_eq_some_iff.1 hS.2.2.2.2.1).1⟩
        case measure => simp [intOf]
      · go_upto_region 6 with fail
        refine wp_region_noPanic ?_
        refine wp_region_rely (factOf [isV (.int .i64 1), isV (.pointer (some ⟨g, 7, none⟩)), isV (.agg (insCells j)), isV (.agg (plcCells p)), isV (.tuple #[.agg #[.int .i64 (targetS j p).1.bank, .int .u16 (targetS j p).1.addr], .bool (targetS j p).2]), isV (.tuple #[.agg #[.int .i64 (targetS j p).1.bank, .int .u16 (targetS j p).1.addr], .bool (targetS j p).2]), isV (.agg #[.int .i64 (targetS j p).1.bank, .int .u16 (targetS j p).1.addr]), isV (.bool (targetS j p).2), newR wr.heap.size 47 2, newV wr.heap.size (.cells (plcCells (targetS j p).1) 47 (0, 0)), isV (.bool (targetS j p).2)]) (nth [[0], [1], [2], [3], [4], [5], [6], [7], [8], [8], [10]]) (nth [[], [], [], [], [], [], [], [], [], [8], []]) (nth [[], [0], [1], [], [2, 3], [4], [5], [5], [], [8, 6, 4, 0, 1, 2, 3, 5], [7, 9, 0, 1, 2, 3, 4, 5, 6]]) [9, 10] (Kept w.heap.size w wr.heap.size [(g, .cells (two7 i j) 59 (0, 0)), (w.heap.size + 2, .cells (plcCells p) 47 (0, 0))]) (by kernel_rfl) (by kernel_rfl) (⟨HB.out.drew, HB.out.size, Nat.le_refl _, by intro x hx; simp at hx; rcases hx with rfl | rfl <;> (show _ < _; omega), HG.out, HP.out, trivial⟩) (Kept.grow) (GrowsAll.of ((GrowsAll.cons (Grows.isV _)  (GrowsAll.cons (Grows.isV _)  (GrowsAll.cons (Grows.isV _)  (GrowsAll.cons (Grows.isV _)  (GrowsAll.cons (Grows.isV _)  (GrowsAll.cons (Grows.isV _)  (GrowsAll.cons (Grows.isV _)  (GrowsAll.cons (Grows.isV _)  (GrowsAll.cons (Grows.newR _ _ _)  (GrowsAll.cons (Grows.newV _ _)  (GrowsAll.cons (Grows.isV _) GrowsAll.nil))))))))))))) (fun f F hF => ?_)
        simp only [fullGo, Act.put, List.setIfInBounds_toArray, List.set_cons_zero, List.set_cons_succ, Nat.reduceAdd] at hF
        subst hF
        refine ⟨StepObs.cons ?_ (StepObs.cons ?_ (StepObs.cons ?_ (StepObs.cons ?_ (StepObs.cons ?_ (StepObs.cons ?_ (StepObs.cons ?_ (StepObs.cons ?_ (StepObs.cons ?_ (StepObs.cons ?_ (StepObs.cons ?_ (StepObs.nil))))))))))), ?_⟩
        · intro w2 hS hF K hK
          rw [if_pos (by rfl)]
          refine wp_of_quiet (v := .int .i64 1) (by (show _ = _); kernel_rfl) (hK.out _ _ rfl (After.lit rfl rfl ?_))
          first | rfl | kernel_rfl
        · intro w2 hS hF K hK
          obtain ⟨e0, -⟩ := hF
          replace e0 : f 0 = _ := e0
          try simp only [e0]
          rw [if_pos (by rfl)]
          refine wp_of_quiet (v := .pointer (some ⟨g, 7, none⟩)) (by (show _ = _); kernel_rfl) (hK.out _ _ rfl (After.lit rfl rfl ?_))
          first | rfl | kernel_rfl
        · intro w2 hS hF K hK
          obtain ⟨e1, -⟩ := hF
          replace e1 : f 1 = _ := e1
          try simp only [e1]
          rw [if_pos (by rfl)]
          exact wp_of_quiet (exec_load_mid _ _ rfl g 7 rfl (insCells j).toList _ (World.rangeAt_of_block hS.2.2.2.2.1 7 7) Tryd.underlying24 rfl (by kernel_rfl)) (hK.out _ _ rfl (After.lit rfl rfl (by first | rfl | kernel_rfl)))
        · intro w2 hS hF K hK
          rw [if_pos (by rfl)]
          exact wp_load_rowB _ _ rfl _ rfl _ _ _ (hS.2.2.2.2.2.1) (by kernel_rfl) (hK.out _ _ rfl (After.lit rfl rfl (by first | rfl | kernel_rfl)))
        · intro w2 hS hF K hK
          obtain ⟨e2, e3, -⟩ := hF
          replace e2 : f 2 = _ := e2
          replace e3 : f 3 = _ := e3
          try simp only [e2, e3]
          rw [if_pos (by rfl)]
          go_simp
          refine (target_any j hj p _).mono ?_; rintro e w3 ⟨rfl, hbelow⟩; go_simp
          refine hK.out _ _ rfl (After.litB rfl rfl hbelow ?_)
          first | rfl | kernel_rfl
        · intro w2 hS hF K hK
          obtain ⟨e4, -⟩ := hF
          replace e4 : f 4 = _ := e4
          try simp only [e4]
          rw [if_pos (by rfl)]
          refine wp_of_quiet (v := .tuple #[.agg #[.int .i64 (targetS j p).1.bank, .int .u16 (targetS j p).1.addr], .bool (targetS j p).2]) (by (show _ = _); kernel_rfl) (hK.out _ _ rfl (After.lit rfl rfl ?_))
          first | rfl | kernel_rfl
        · intro w2 hS hF K hK
          obtain ⟨e5, -⟩ := hF
          replace e5 : f 5 = _ := e5
          try simp only [e5]
          rw [if_pos (by rfl)]
          refine wp_of_quiet (v := .agg #[.int .i64 (targetS j p).1.bank, .int .u16 (targetS j p).1.addr]) (by (show _ = _); kernel_rfl) (hK.out _ _ rfl (After.lit rfl rfl ?_))
          first | rfl | kernel_rfl
        · intro w2 hS hF K hK
          obtain ⟨e5, -⟩ := hF
          replace e5 : f 5 = _ := e5
          try simp only [e5]
          rw [if_pos (by rfl)]
          refine wp_of_quiet (v := .bool (targetS j p).2) (by (show _ = _); kernel_rfl) (hK.out _ _ rfl (After.lit rfl rfl ?_))
          first | rfl | kernel_rfl
        · intro w2 hS hF K hK
          rw [if_pos (by rfl)]
          go_simp
          refine hK.out _ _ rfl (After.new rfl rfl hS.2.2.1 rfl ?_)
          first | rfl | kernel_rfl
        · intro w2 hS hF K hK
          obtain ⟨e8, e6, e4, e0, e1, e2, e3, e5, -⟩ := hF
          obtain ⟨g8, c8, e8, hB8, hg8, hn8⟩ := e8
          replace e8 : f 8 = _ := e8
          replace e6 : f 6 = _ := e6
          replace e4 : f 4 = _ := e4
          replace e0 : f 0 = _ := e0
          replace e1 : f 1 = _ := e1
          replace e2 : f 2 = _ := e2
          replace e3 : f 3 = _ := e3
          replace e5 : f 5 = _ := e5
          try simp only [e8, e6, e4, e0, e1, e2, e3, e5]
          rw [if_pos (by rfl)]
          refine wp_store_row _ _ _ rfl g8 _ rfl rfl _ _ hg8 (by kernel_rfl) hn8 (by kernel_rfl) ?_
          exact hK.out _ _ rfl (After.set rfl rfl rfl rfl e8 hB8 hB8 hg8 hS (StaysAll.isV (StaysAll.isV (StaysAll.isV (StaysAll.isV (StaysAll.isV (StaysAll.isV (StaysAll.isV (StaysAll.isV (StaysAll.out (by rfl) (StaysAll.out (by rfl) (StaysAll.isV StaysAll.nil))))))))))))
        · intro w2 hS hF K hK
          obtain ⟨e7, e9, e0, e1, e2, e3, e4, e5, e6, -⟩ := hF
          replace e7 : f 7 = _ := e7
          obtain ⟨g8, e9, hB8, hg8⟩ := e9
          replace e9 : f 8 = _ := e9
          replace e0 : f 0 = _ := e0
          replace e1 : f 1 = _ := e1
          replace e2 : f 2 = _ := e2
          replace e3 : f 3 = _ := e3
          replace e4 : f 4 = _ := e4
          replace e5 : f 5 = _ := e5
          replace e6 : f 6 = _ := e6
          try simp only [e7, e9, e0, e1, e2, e3, e4, e5, e6]
          rw [if_pos (by rfl)]
          refine wp_of_quiet (v := .bool (targetS j p).2) (by (show _ = _); kernel_rfl) (hK.out _ _ rfl (After.lit rfl rfl ?_))
          first | rfl | kernel_rfl
        intro w2 hS hF
        obtain ⟨e9, e10, -⟩ := hF
        obtain ⟨g8, e9, hB8, hg8⟩ := e9
        replace e9 : f 8 = _ := e9
        replace e10 : f 10 = _ := e10
        try simp only [e9, e10]
        refine NoPanic.normal ?_
        have HS := Lib.hid hS
        have H9 := Lib.hid hg8
        have hz8 := (Array.getElem?_eq_some_iff.1 hg8).1
        have hn : wr.heap.size ≤ w2.heap.size := hS.2.2.1
        clear hS hg8
        obtain ⟨wa, rfl⟩ : ∃ wa : World, wa = w2 := ⟨_, rfl⟩
        obtain ⟨ga, rfl⟩ : ∃ ga : Nat, ga = g8 := ⟨_, rfl⟩
        go_upto_region 7 with fail
        refine wp_region_noPanic ?_
        refine wp_region_rely (factOf [isV (.int .i64 1), isV (.pointer (some ⟨g, 7, none⟩)), isV (.agg (insCells j)), isV (.agg (plcCells p)), isV (.tuple #[.agg #[.int .i64 (targetS j p).1.bank, .int .u16 (targetS j p).1.addr], .bool (targetS j p).2]), isV (.tuple #[.agg #[.int .i64 (targetS j p).1.bank, .int .u16 (targetS j p).1.addr], .bool (targetS j p).2]), isV (.agg #[.int .i64 (targetS j p).1.bank, .int .u16 (targetS j p).1.addr]), isV (.bool (targetS j p).2), newR wa.heap.size 47 2, newV wa.heap.size (.cells (plcCells (targetS j p).1) 47 (0, 0)), isV (.bool (targetS j p).2)]) (nth [[0], [1], [2], [3], [4], [5], [6], [7], [8], [8], [10]]) (nth [[], [], [], [], [], [], [], [], [], [8], []]) (nth [[], [0], [1], [], [2, 3], [4], [5], [5], [], [8, 6, 4, 0, 1, 2, 3, 5], [7, 9, 0, 1, 2, 3, 4, 5, 6]]) [9, 10] (Kept w.heap.size w wa.heap.size [(g, .cells (two7 i j) 59 (0, 0)), (w.heap.size + 2, .cells (plcCells p) 47 (0, 0)), (ga, .cells (plcCells (targetS j p).1) 47 (0, 0))]) (by kernel_rfl) (by kernel_rfl) (⟨HS.out.1.drew, HS.out.1.size, Nat.le_refl _, by intro x hx; simp at hx; rcases hx with rfl | rfl | rfl <;> (show _ < _; omega), HS.out.2.2.2.2.1, HS.out.2.2.2.2.2.1, H9.out, trivial⟩) (Kept.grow) (GrowsAll.of ((GrowsAll.cons (Grows.isV _)  (GrowsAll.cons (Grows.isV _)  (GrowsAll.cons (Grows.isV _)  (GrowsAll.cons (Grows.isV _)  (GrowsAll.cons (Grows.isV _)  (GrowsAll.cons (Grows.isV _)  (GrowsAll.cons (Grows.isV _)  (GrowsAll.cons (Grows.isV _)  (GrowsAll.cons (Grows.newR _ _ _)  (GrowsAll.cons (Grows.newV _ _)  (GrowsAll.cons (Grows.isV _) GrowsAll.nil))))))))))))) (fun f F hF => ?_)
        simp only [fullGo, Act.put, List.setIfInBounds_toArray, List.set_cons_zero, List.set_cons_succ, Nat.reduceAdd] at hF
        subst hF
        refine ⟨StepObs.cons ?_ (StepObs.cons ?_ (StepObs.cons ?_ (StepObs.cons ?_ (StepObs.cons ?_ (StepObs.cons ?_ (StepObs.cons ?_ (StepObs.cons ?_ (StepObs.cons ?_ (StepObs.cons ?_ (StepObs.cons ?_ (StepObs.nil))))))))))), ?_⟩
        · intro w2 hS hF K hK
          rw [if_pos (by rfl)]
          refine wp_of_quiet (v := .int .i64 1) (by (show _ = _); kernel_rfl) (hK.out _ _ rfl (After.lit rfl rfl ?_))
          first | rfl | kernel_rfl
        · intro w2 hS hF K hK
          obtain ⟨e0, -⟩ := hF
          replace e0 : f 0 = _ := e0
          try simp only [e0]
          rw [if_pos (by rfl)]
          refine wp_of_quiet (v := .pointer (some ⟨g, 7, none⟩)) (by (show _ = _); kernel_rfl) (hK.out _ _ rfl (After.lit rfl rfl ?_))
          first | rfl | kernel_rfl
        · intro w2 hS hF K hK
          obtain ⟨e1, -⟩ := hF
          replace e1 : f 1 = _ := e1
          try simp only [e1]
          rw [if_pos (by rfl)]
          exact wp_of_quiet (exec_load_mid _ _ rfl g 7 rfl (insCells j).toList _ (World.rangeAt_of_block hS.2.2.2.2.1 7 7) Tryd.underlying24 rfl (by kernel_rfl)) (hK.out _ _ rfl (After.lit rfl rfl (by first | rfl | kernel_rfl)))
        · intro w2 hS hF K hK
          rw [if_pos (by rfl)]
          exact wp_load_rowB _ _ rfl _ rfl _ _ _ (hS.2.2.2.2.2.1) (by kernel_rfl) (hK.out _ _ rfl (After.lit rfl rfl (by first | rfl | kernel_rfl)))
        · intro w2 hS hF K hK
          obtain ⟨e2, e3, -⟩ := hF
          replace e2 : f 2 = _ := e2
          replace e3 : f 3 = _ := e3
          try simp only [e2, e3]
          rw [if_pos (by rfl)]
          go_simp
          refine (rtarget_any j hj p p0 p1 _).mono ?_; rintro e w3 ⟨rfl, hbelow⟩; go_simp
          refine hK.out _ _ rfl (After.litB rfl rfl hbelow ?_)
          first | rfl | kernel_rfl
        · intro w2 hS hF K hK
          obtain ⟨e4, -⟩ := hF
          replace e4 : f 4 = _ := e4
          try simp only [e4]
          rw [if_pos (by rfl)]
          refine wp_of_quiet (v := .tuple #[.agg #[.int .i64 (targetS j p).1.bank, .int .u16 (targetS j p).1.addr], .bool (targetS j p).2]) (by (show _ = _); kernel_rfl) (hK.out _ _ rfl (After.lit rfl rfl ?_))
          first | rfl | kernel_rfl
        · intro w2 hS hF K hK
          obtain ⟨e5, -⟩ := hF
          replace e5 : f 5 = _ := e5
          try simp only [e5]
          rw [if_pos (by rfl)]
          refine wp_of_quiet (v := .agg #[.int .i64 (targetS j p).1.bank, .int .u16 (targetS j p).1.addr]) (by (show _ = _); kernel_rfl) (hK.out _ _ rfl (After.lit rfl rfl ?_))
          first | rfl | kernel_rfl
        · intro w2 hS hF K hK
          obtain ⟨e5, -⟩ := hF
          replace e5 : f 5 = _ := e5
          try simp only [e5]
          rw [if_pos (by rfl)]
          refine wp_of_quiet (v := .bool (targetS j p).2) (by (show _ = _); kernel_rfl) (hK.out _ _ rfl (After.lit rfl rfl ?_))
          first | rfl | kernel_rfl
        · intro w2 hS hF K hK
          rw [if_pos (by rfl)]
          go_simp
          refine hK.out _ _ rfl (After.new rfl rfl hS.2.2.1 rfl ?_)
          first | rfl | kernel_rfl
        · intro w2 hS hF K hK
          obtain ⟨e8, e6, e4, e0, e1, e2, e3, e5, -⟩ := hF
          obtain ⟨g8, c8, e8, hB8, hg8, hn8⟩ := e8
          replace e8 : f 8 = _ := e8
          replace e6 : f 6 = _ := e6
          replace e4 : f 4 = _ := e4
          replace e0 : f 0 = _ := e0
          replace e1 : f 1 = _ := e1
          replace e2 : f 2 = _ := e2
          replace e3 : f 3 = _ := e3
          replace e5 : f 5 = _ := e5
          try simp only [e8, e6, e4, e0, e1, e2, e3, e5]
          rw [if_pos (by rfl)]
          refine wp_store_row _ _ _ rfl g8 _ rfl rfl _ _ hg8 (by kernel_rfl) hn8 (by kernel_rfl) ?_
          exact hK.out _ _ rfl (After.set rfl rfl rfl rfl e8 hB8 hB8 hg8 hS (StaysAll.isV (StaysAll.isV (StaysAll.isV (StaysAll.isV (StaysAll.isV (StaysAll.isV (StaysAll.isV (StaysAll.isV (StaysAll.out (by rfl) (StaysAll.out (by rfl) (StaysAll.isV StaysAll.nil))))))))))))
        · intro w2 hS hF K hK
          obtain ⟨e7, e9, e0, e1, e2, e3, e4, e5, e6, -⟩ := hF
          replace e7 : f 7 = _ := e7
          obtain ⟨g8, e9, hB8, hg8⟩ := e9
          replace e9 : f 8 = _ := e9
          replace e0 : f 0 = _ := e0
          replace e1 : f 1 = _ := e1
          replace e2 : f 2 = _ := e2
          replace e3 : f 3 = _ := e3
          replace e4 : f 4 = _ := e4
          replace e5 : f 5 = _ := e5
          replace e6 : f 6 = _ := e6
          try simp only [e7, e9, e0, e1, e2, e3, e4, e5, e6]
          rw [if_pos (by rfl)]
          refine wp_of_quiet (v := .bool (targetS j p).2) (by (show _ = _); kernel_rfl) (hK.out _ _ rfl (After.lit rfl rfl ?_))
          first | rfl | kernel_rfl
        intro w2 hS hF
        obtain ⟨e9, e10, -⟩ := hF
        obtain ⟨g8, e9, hB8, hg8⟩ := e9
        replace e9 : f 8 = _ := e9
        replace e10 : f 10 = _ := e10
        try simp only [e9, e10]
        refine NoPanic.normal ?_
        have HS2 := Lib.hid hS
        have H9b := Lib.hid hg8
        have hz8b := (Array.getElem?_eq_some_iff.1 hg8).1
        have hnb : wa.heap.size ≤ w2.heap.size := hS.2.2.1
        clear hS hg8 HS H9
        obtain ⟨wb, rfl⟩ : ∃ wb : World, wb = w2 := ⟨_, rfl⟩
        obtain ⟨gb, rfl⟩ : ∃ gb : Nat, gb = g8 := ⟨_, rfl⟩
        go_upto_region 8 with fail
        refine wp_region_noPanic ?_
        refine wp_region_rely (factOf [isV (.agg #[.int .i64 (targetS j p).1.bank, .int .u16 (targetS j p).1.addr]), isV (.agg #[.int .i64 (targetS j p).1.bank, .int .u16 (targetS j p).1.addr]), isV (.bool false), isV (.bool false), isV (.bool (targetS j p).2), isV (.bool (targetS j p).2), isV (.bool false), isV (.bool false), isV (.bool false), isV (.int .i64 1), isV (.pointer (some ⟨g, 7, none⟩)), isV (.agg (insCells j)), isV (.bool (fallsS j)), isV (.int .i64 1), isV (.pointer (some ⟨g, 7, none⟩)), isV (.agg (insCells j)), isV (.bool (fallsS j)), isV (.bool false), isV (.bool false)]) (nth [[0], [1], [2], [3], [4], [5], [6], [7], [8], [9], [10], [11], [12], [13], [14], [15], [16], [17], [18]]) (nth [[], [], [], [], [], [], [], [], [], [], [], [], [], [], [], [], [], [], []]) (nth [[], [], [0, 1], [2], [3], [3], [4, 5, 3], [3, 6], [7, 3], [8], [9, 8], [10, 8], [11, 8], [8], [13, 8], [14, 8], [15, 12, 8], [12, 16, 8], [8, 17]]) [18] (Kept w.heap.size w wb.heap.size [(g, .cells (two7 i j) 59 (0, 0)), (w.heap.size + 2, .cells (plcCells p) 47 (0, 0)), (ga, .cells (plcCells (targetS j p).1) 47 (0, 0)), (gb, .cells (plcCells (targetS j p).1) 47 (0, 0))]) (by kernel_rfl) (by kernel_rfl) (⟨HS2.out.1.drew, HS2.out.1.size, Nat.le_refl _, by intro x hx; simp at hx; rcases hx with rfl | rfl | rfl | rfl <;> (show _ < _; omega), HS2.out.2.2.2.2.1, HS2.out.2.2.2.2.2.1, HS2.out.2.2.2.2.2.2.1, H9b.out, trivial⟩) (Kept.grow) (GrowsAll.of ((GrowsAll.cons (Grows.isV _)  (GrowsAll.cons (Grows.isV _)  (GrowsAll.cons (Grows.isV _)  (GrowsAll.cons (Grows.isV _)  (GrowsAll.cons (Grows.isV _)  (GrowsAll.cons (Grows.isV _)  (GrowsAll.cons (Grows.isV _)  (GrowsAll.cons (Grows.isV _)  (GrowsAll.cons (Grows.isV _)  (GrowsAll.cons (Grows.isV _)  (GrowsAll.cons (Grows.isV _)  (GrowsAll.cons (Grows.isV _)  (GrowsAll.cons (Grows.isV _)  (GrowsAll.cons (Grows.isV _)  (GrowsAll.cons (Grows.isV _)  (GrowsAll.cons (Grows.isV _)  (GrowsAll.cons (Grows.isV _)  (GrowsAll.cons (Grows.isV _)  (GrowsAll.cons (Grows.isV _) GrowsAll.nil))))))))))))))))))))) (fun f F hF => ?_)
        simp only [fullGo, Act.put, List.setIfInBounds_toArray, List.set_cons_zero, List.set_cons_succ, Nat.reduceAdd] at hF
        subst hF
        refine ⟨StepObs.cons ?_ (StepObs.cons ?_ (StepObs.cons ?_ (StepObs.cons ?_ (StepObs.cons ?_ (StepObs.cons ?_ (StepObs.cons ?_ (StepObs.cons ?_ (StepObs.cons ?_ (StepObs.cons ?_ (StepObs.cons ?_ (StepObs.cons ?_ (StepObs.cons ?_ (StepObs.cons ?_ (StepObs.cons ?_ (StepObs.cons ?_ (StepObs.cons ?_ (StepObs.cons ?_ (StepObs.cons ?_ (StepObs.nil))))))))))))))))))), ?_⟩
        · intro w2 hS hF K hK
          rw [if_pos (by rfl)]
          exact wp_load_rowB _ _ rfl _ rfl _ _ _ (hS.2.2.2.2.2.2.1) (by kernel_rfl) (hK.out _ _ rfl (After.lit rfl rfl (by first | rfl | kernel_rfl)))
        · intro w2 hS hF K hK
          rw [if_pos (by rfl)]
          exact wp_load_rowB _ _ rfl _ rfl _ _ _ (hS.2.2.2.2.2.2.2.1) (by kernel_rfl) (hK.out _ _ rfl (After.lit rfl rfl (by first | rfl | kernel_rfl)))
        · intro w2 hS hF K hK
          obtain ⟨e0, e1, -⟩ := hF
          replace e0 : f 0 = _ := e0
          replace e1 : f 1 = _ := e1
          try simp only [e0, e1]
          rw [if_pos (by rfl)]
          go_simp
          refine hK.out _ _ rfl (After.lit rfl rfl ?_)
          first | rfl | kernel_rfl
        · intro w2 hS hF K hK
          obtain ⟨e2, -⟩ := hF
          replace e2 : f 2 = _ := e2
          try simp only [e2]
          rw [if_pos (by rfl)]
          refine wp_of_quiet (v := .bool false) (by (show _ = _); kernel_rfl) (hK.out _ _ rfl (After.lit rfl rfl ?_))
          first | rfl | kernel_rfl
        · intro w2 hS hF K hK
          obtain ⟨e3, -⟩ := hF
          replace e3 : f 3 = _ := e3
          try simp only [e3]
          rw [if_pos (by rfl)]
          refine wp_of_quiet (v := .bool (targetS j p).2) (by (show _ = _); kernel_rfl) (hK.out _ _ rfl (After.lit rfl rfl ?_))
          first | rfl | kernel_rfl
        · intro w2 hS hF K hK
          obtain ⟨e3, -⟩ := hF
          replace e3 : f 3 = _ := e3
          try simp only [e3]
          rw [if_pos (by rfl)]
          refine wp_of_quiet (v := .bool (targetS j p).2) (by (show _ = _); kernel_rfl) (hK.out _ _ rfl (After.lit rfl rfl ?_))
          first | rfl | kernel_rfl
        · intro w2 hS hF K hK
          obtain ⟨e4, e5, e3, -⟩ := hF
          replace e4 : f 4 = _ := e4
          replace e5 : f 5 = _ := e5
          replace e3 : f 3 = _ := e3
          try simp only [e4, e5, e3]
          rw [if_pos (by rfl)]
          go_simp
          refine hK.out _ _ rfl (After.lit rfl rfl ?_)
          first | rfl | kernel_rfl
        · intro w2 hS hF K hK
          obtain ⟨e3, e6, -⟩ := hF
          replace e3 : f 3 = _ := e3
          replace e6 : f 6 = _ := e6
          try simp only [e3, e6]
          rw [if_pos (by rfl)]
          refine wp_of_quiet (v := .bool false) (by (show _ = _); kernel_rfl) (hK.out _ _ rfl (After.lit rfl rfl ?_))
          first | rfl | kernel_rfl
        · intro w2 hS hF K hK
          obtain ⟨e7, e3, -⟩ := hF
          replace e7 : f 7 = _ := e7
          replace e3 : f 3 = _ := e3
          try simp only [e7, e3]
          rw [if_pos (by rfl)]
          refine wp_of_quiet (v := .bool false) (by (show _ = _); kernel_rfl) (hK.out _ _ rfl (After.lit rfl rfl ?_))
          first | rfl | kernel_rfl
        · intro w2 hS hF K hK
          obtain ⟨e8, -⟩ := hF
          replace e8 : f 8 = _ := e8
          try simp only [e8]
          rw [if_pos (by rfl)]
          refine wp_of_quiet (v := .int .i64 1) (by (show _ = _); kernel_rfl) (hK.out _ _ rfl (After.lit rfl rfl ?_))
          first | rfl | kernel_rfl
        · intro w2 hS hF K hK
          obtain ⟨e9, e8, -⟩ := hF
          replace e9 : f 9 = _ := e9
          replace e8 : f 8 = _ := e8
          try simp only [e9, e8]
          rw [if_pos (by rfl)]
          refine wp_of_quiet (v := .pointer (some ⟨g, 7, none⟩)) (by (show _ = _); kernel_rfl) (hK.out _ _ rfl (After.lit rfl rfl ?_))
          first | rfl | kernel_rfl
        · intro w2 hS hF K hK
          obtain ⟨e10, e8, -⟩ := hF
          replace e10 : f 10 = _ := e10
          replace e8 : f 8 = _ := e8
          try simp only [e10, e8]
          rw [if_pos (by rfl)]
          exact wp_of_quiet (exec_load_mid _ _ rfl g 7 rfl (insCells j).toList _ (World.rangeAt_of_block hS.2.2.2.2.1 7 7) Tryd.underlying24 rfl (by kernel_rfl)) (hK.out _ _ rfl (After.lit rfl rfl (by first | rfl | kernel_rfl)))
        · intro w2 hS hF K hK
          obtain ⟨e11, e8, -⟩ := hF
          replace e11 : f 11 = _ := e11
          replace e8 : f 8 = _ := e8
          try simp only [e11, e8]
          rw [if_pos (by rfl)]
          go_simp
          refine (falls_any j hj _).mono ?_; rintro e w3 ⟨rfl, hbelow⟩; go_simp
          refine hK.out _ _ rfl (After.litB rfl rfl hbelow ?_)
          first | rfl | kernel_rfl
        · intro w2 hS hF K hK
          obtain ⟨e8, -⟩ := hF
          replace e8 : f 8 = _ := e8
          try simp only [e8]
          rw [if_pos (by rfl)]
          refine wp_of_quiet (v := .int .i64 1) (by (show _ = _); kernel_rfl) (hK.out _ _ rfl (After.lit rfl rfl ?_))
          first | rfl | kernel_rfl
        · intro w2 hS hF K hK
          obtain ⟨e13, e8, -⟩ := hF
          replace e13 : f 13 = _ := e13
          replace e8 : f 8 = _ := e8
          try simp only [e13, e8]
          rw [if_pos (by rfl)]
          refine wp_of_quiet (v := .pointer (some ⟨g, 7, none⟩)) (by (show _ = _); kernel_rfl) (hK.out _ _ rfl (After.lit rfl rfl ?_))
          first | rfl | kernel_rfl
        · intro w2 hS hF K hK
          obtain ⟨e14, e8, -⟩ := hF
          replace e14 : f 14 = _ := e14
          replace e8 : f 8 = _ := e8
          try simp only [e14, e8]
          rw [if_pos (by rfl)]
          exact wp_of_quiet (exec_load_mid _ _ rfl g 7 rfl (insCells j).toList _ (World.rangeAt_of_block hS.2.2.2.2.1 7 7) Tryd.underlying24 rfl (by kernel_rfl)) (hK.out _ _ rfl (After.lit rfl rfl (by first | rfl | kernel_rfl)))
        · intro w2 hS hF K hK
          obtain ⟨e15, e12, e8, -⟩ := hF
          replace e15 : f 15 = _ := e15
          replace e12 : f 12 = _ := e12
          replace e8 : f 8 = _ := e8
          try simp only [e15, e12, e8]
          rw [if_pos (by rfl)]
          go_simp
          refine (rfalls_any j hj _).mono ?_; rintro e w3 ⟨rfl, hbelow⟩; go_simp
          refine hK.out _ _ rfl (After.litB rfl rfl hbelow ?_)
          first | rfl | kernel_rfl
        · intro w2 hS hF K hK
          obtain ⟨e12, e16, e8, -⟩ := hF
          replace e12 : f 12 = _ := e12
          replace e16 : f 16 = _ := e16
          replace e8 : f 8 = _ := e8
          try simp only [e12, e16, e8]
          rw [if_pos (by rfl)]
          go_simp
          refine hK.out _ _ rfl (After.lit rfl rfl ?_)
          first | rfl | kernel_rfl
        · intro w2 hS hF K hK
          obtain ⟨e8, e17, -⟩ := hF
          replace e8 : f 8 = _ := e8
          replace e17 : f 17 = _ := e17
          try simp only [e8, e17]
          rw [if_pos (by rfl)]
          refine wp_of_quiet (v := .bool false) (by (show _ = _); kernel_rfl) (hK.out _ _ rfl (After.lit rfl rfl ?_))
          first | rfl | kernel_rfl
        intro w2 hS hF
        obtain ⟨e18, -⟩ := hF
        replace e18 : f 18 = _ := e18
        try simp only [e18]
        refine NoPanic.normal ?_
        go_wp2_with fail
        go_roundw
        case rel => exact ⟨2, by omega, rfl, Lib.hid hS.1, Lib.hid hS.2.2.2.2.1, Lib.hid hS.2.2.2.2.2.1, (Array.getElem?_eq_some_iff.1 hS.2.2.2.2.1).1⟩
        case measure => simp [intOf]
      · go_wp2
        go_ret
        exact ⟨rfl, HB.out⟩

end Go.Proofs.YtakahmhbopakmaaDoor
