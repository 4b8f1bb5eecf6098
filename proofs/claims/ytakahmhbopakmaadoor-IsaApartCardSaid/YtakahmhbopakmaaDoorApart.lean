/- IsaApart: walked. Condition: the library's tables read as the text lays them. -/
import Derived.Test.YtakahmhbopakmaaDoorSane
import Derived.Test.YtakahmhbopakmaaDoorApartB
import Derived.Test.YtakahmhbopakmaaDoorMadeC
import Derived.Test.YtakahmhbopakmaaDoorRely
import Derived.Deep.DeepCutAuto
set_option linter.all false
namespace Go.Proofs.YtakahmhbopakmaaDoor
open Go.RowKit

theorem exec_eql_ins {o : Oper} {a : Act} {w : World} (x y : Operand) (ho : o.op = .binOp .eql 24 x y 24) (i j : Ins) (hx : a.eval x = .agg #[.int .i64 (i).op, .int .i64 (i).d, .int .i64 (i).s, .int .u16 (i).imm, .int .u16 (i).aux, .int .i64 (i).bank, .int .i64 (i).size]) (hy : a.eval y = .agg #[.int .i64 (j).op, .int .i64 (j).d, .int .i64 (j).s, .int .u16 (j).imm, .int .u16 (j).aux, .int .i64 (j).bank, .int .i64 (j).size]) : (execOp a.eval o).run Tryd.prog w = .ok (.value (.bool (decide (i = j)))) w := by
  unfold execOp
  simp only [ho, hx, hy]
  by_cases h1 : i.op = j.op
  · by_cases h2 : i.d = j.d
    · by_cases h3 : i.s = j.s
      · by_cases h4 : i.imm = j.imm
        · by_cases h5 : i.aux = j.aux
          · by_cases h6 : i.bank = j.bank
            · by_cases h7 : i.size = j.size
              · have h := ins_ext i j h1 h2 h3 h4 h5 h6 h7
                subst h
                simp [go_sem]
              · have h : ¬ i = j := by rintro rfl; exact h7 rfl
                simp [go_sem, h1, h2, h3, h4, h5, h6, h7, h]
            · have h : ¬ i = j := by rintro rfl; exact h6 rfl
              simp [go_sem, h1, h2, h3, h4, h5, h6, h]
          · have h : ¬ i = j := by rintro rfl; exact h5 rfl
            simp [go_sem, h1, h2, h3, h4, h5, h]
        · have h : ¬ i = j := by rintro rfl; exact h4 rfl
          simp [go_sem, h1, h2, h3, h4, h]
      · have h : ¬ i = j := by rintro rfl; exact h3 rfl
        simp [go_sem, h1, h2, h3, h]
    · have h : ¬ i = j := by rintro rfl; exact h2 rfl
      simp [go_sem, h1, h2, h]
  · have h : ¬ i = j := by rintro rfl; exact h1 rfl
    simp [go_sem, h1, h]
theorem line_cmp (i j : Ins) (hi : i.Ok) (hj : j.Ok) (hv : validS i = true) (hu : validS j = true) (p : Place) : ((⟨(lineS i p).toArray⟩ : ByteArray).toList == (⟨(lineS j p).toArray⟩ : ByteArray).toList) = decide (i = j) := by
  rw [ByteArray.toList_eq, ByteArray.toList_eq]
  show (lineS i p == lineS j p) = _
  by_cases h : i = j
  · subst h; simp
  · have : lineS i p ≠ lineS j p := fun e => h (lineS_inj i j hi hj hv hu p e)
    simp [h, this]
theorem line_empty (i : Ins) (hi : i.Ok) (hv : validS i = true) (p : Place) : (!((⟨(lineS i p).toArray⟩ : ByteArray).toList == (⟨#[]⟩ : ByteArray).toList)) = true := by
  rw [ByteArray.toList_eq, ByteArray.toList_eq]
  show (!(lineS i p == [])) = true
  have := lineS_ne i hi hv p
  simp [this]

set_option maxRecDepth 100000 in
set_option maxHeartbeats 8000000 in
theorem apart_any (q0 q1 q2 q3 q4 r0 r1 r2 r3 r4 c : Int) (c0 : 0 ≤ c) (c1 : c < 256) (w : World) (hT : Tabs w) :
    Calls Tryd.prog 11 #[.agg #[Value.int .i64 q0, .int .i64 q1, .int .i64 q2, .int .i64 q3, .int .i64 q4], .agg #[Value.int .i64 r0, .int .i64 r1, .int .i64 r2, .int .i64 r3, .int .i64 r4], .int .u8 c] w fun e w' => e = .returned (.bool true) ∧ Below w.heap.size w w' := by
  have hi := made_ok q0 q1 q2 q3 q4
  have hv := made_valid q0 q1 q2 q3 q4
  have HMi := Lib.hid (fun W => made_any q0 q1 q2 q3 q4 W)
  have ha := made_ok r0 r1 r2 r3 r4
  have hva := made_valid r0 r1 r2 r3 r4
  have HMa := Lib.hid (fun W => made_any r0 r1 r2 r3 r4 W)
  generalize madeS q0 q1 q2 q3 q4 = i at *
  generalize madeS r0 r1 r2 r3 r4 = a at *
  have HT := Lib.hid hT
  have HV := Lib.hid hv
  have HVa := Lib.hid hva
  clear hT hv hva
  obtain ⟨m, hm⟩ : ∃ m, c % 5 = m := ⟨_, rfl⟩
  have hms : m = 0 ∨ m = 1 ∨ m = 2 ∨ m = 3 ∨ m = 4 := by omega
  go_enter Tryd.func11, Tryd.ntmps11
  have HB := Lib.hid (((Below.refl w.heap.size w).alloc (Nat.le_refl _) (.cells #[Value.int .i64 q0, .int .i64 q1, .int .i64 q2, .int .i64 q3, .int .i64 q4] 25)).alloc (by simp) (.cells #[Value.int .i64 r0, .int .i64 r1, .int .i64 r2, .int .i64 r3, .int .i64 r4] 25))
  have B0 := Lib.hid ((heap_alloc_old (w.alloc (.cells #[Value.int .i64 q0, .int .i64 q1, .int .i64 q2, .int .i64 q3, .int .i64 q4] 25)) (.cells #[Value.int .i64 r0, .int .i64 r1, .int .i64 r2, .int .i64 r3, .int .i64 r4] 25) (by simp : w.heap.size < _)).trans (heap_alloc_new w _))
  have B1 := Lib.hid (newsN (w.alloc (.cells #[Value.int .i64 q0, .int .i64 q1, .int .i64 q2, .int .i64 q3, .int .i64 q4] 25)) (.cells #[Value.int .i64 r0, .int .i64 r1, .int .i64 r2, .int .i64 r3, .int .i64 r4] 25) (by simp : _ = w.heap.size + 1))
  have hz : w.heap.size + 1 < ((w.alloc (.cells #[Value.int .i64 q0, .int .i64 q1, .int .i64 q2, .int .i64 q3, .int .i64 q4] 25)).alloc (.cells #[Value.int .i64 r0, .int .i64 r1, .int .i64 r2, .int .i64 r3, .int .i64 r4] 25)).heap.size := by simp
  go_upto_region 2 with (go_at_call 15; refine (sanity_any _ (HT.out.stay HB.out)).mono ?_; rintro e w1 ⟨rfl, hb1⟩; replace B0 := Lib.hid ((hb1.block _ (by omega)).trans B0.out); replace B1 := Lib.hid ((hb1.block _ hz).trans B1.out); replace HB := Lib.hid (HB.out.trans (hb1.mono HB.out.size)); have hz1 := Nat.lt_of_lt_of_le hz hb1.size; clear hb1)
  clear hz
  go_upto_region 3 with (first
    | (refine wpList_load_row rfl _ (.tmp 3) rfl _ rfl _ _ _ _ B0.out Tryd.underlying25 rfl ?_ ?_; kernel_rfl)
    | (go_at_call 16; refine (HMi.out _).mono ?_; rintro e w2 ⟨rfl, hb2⟩; replace B0 := Lib.hid (below_keep hb2 B0.out); replace B1 := Lib.hid (below_keep hb2 B1.out); replace HB := Lib.hid (HB.out.trans (hb2.mono HB.out.size)); clear hb2)
    | (refine wpList_store_row rfl _ _ _ rfl _ _ rfl rfl _ _ (heap_alloc_new _ _) ?_ ?_ ?_ ?_; kernel_rfl; rfl; kernel_rfl; rw [World.setRow_alloc_new]))
  have HI := Lib.hid (heap_alloc_new w2 (.cells (insCells i) 24))
  have hb3 : Below w2.heap.size w2 (w2.alloc (.cells (insCells i) 24)) := (Below.refl _ _).alloc (Nat.le_refl _) _
  replace B0 := Lib.hid (below_keep hb3 B0.out)
  replace B1 := Lib.hid (below_keep hb3 B1.out)
  replace HB := Lib.hid (HB.out.trans (hb3.mono HB.out.size))
  clear hb3
  obtain ⟨w3, hw3⟩ : ∃ w3 : World, w2.alloc (.cells (insCells i) 24) = w3 := ⟨_, rfl⟩
  rw [hw3] at HI B0 B1 HB ⊢
  clear hw3
  obtain ⟨gi, hgi⟩ : ∃ gi : Nat, w2.heap.size = gi := ⟨_, rfl⟩
  rw [hgi] at HI ⊢
  clear hgi hz1
  go_upto_region 4 with (first
    | (refine wpList_load_row rfl _ (.tmp 3) rfl _ rfl _ _ _ _ B0.out Tryd.underlying25 rfl ?_ ?_; kernel_rfl)
    | (refine wpList_store_row rfl _ _ _ rfl _ _ rfl rfl _ _ (heap_alloc_new _ _) ?_ ?_ ?_ ?_; kernel_rfl; rfl; kernel_rfl; rw [World.setRow_alloc_new]))
  have HL := Lib.hid (heap_alloc_new w3 (.cells #[Value.int .i64 q0, .int .i64 q1, .int .i64 q2, .int .i64 q3, .int .i64 q4] 25))
  have hb3 : Below w3.heap.size w3 (w3.alloc (.cells #[Value.int .i64 q0, .int .i64 q1, .int .i64 q2, .int .i64 q3, .int .i64 q4] 25)) := (Below.refl _ _).alloc (Nat.le_refl _) _
  have hz3 := HB.out.size
  have hgi3 := (Array.getElem?_eq_some_iff.1 HI.out).1
  have hr3 := (Array.getElem?_eq_some_iff.1 B1.out).1
  replace HI := Lib.hid (below_keep hb3 HI.out)
  replace B1 := Lib.hid (below_keep hb3 B1.out)
  replace HB := Lib.hid (HB.out.trans (hb3.mono HB.out.size))
  clear hb3 B0
  obtain ⟨w4, hw4⟩ : ∃ w4 : World, w3.alloc (.cells #[Value.int .i64 q0, .int .i64 q1, .int .i64 q2, .int .i64 q3, .int .i64 q4] 25) = w4 := ⟨_, rfl⟩
  rw [hw4] at HI B1 HB HL ⊢
  clear hw4
  obtain ⟨gl, hgl⟩ : ∃ gl : Nat, w3.heap.size = gl := ⟨_, rfl⟩
  rw [hgl] at HL hz3 hgi3 hr3 ⊢
  clear hgl
  simp only [Act.put]
  go_cut [] (fun wx => ∃ l0 l1 l2 l3 l4 : Int, Hid (wx.heap[gl]? = some (.cells #[Value.int .i64 l0, .int .i64 l1, .int .i64 l2, .int .i64 l3, .int .i64 l4] 25 (0, 0))) ∧ Hid (wx.heap[gi]? = some (.cells (insCells i) 24 (0, 0))) ∧ Hid (wx.heap[w.heap.size + 1]? = some (.cells #[Value.int .i64 r0, .int .i64 r1, .int .i64 r2, .int .i64 r3, .int .i64 r4] 25 (0, 0))) ∧ Hid (Below w.heap.size w wx))
  case first =>
    have hcr : ∀ o : Nat, w4.cell? ⟨w.heap.size + 1, o, none⟩ = (#[Value.int .i64 r0, .int .i64 r1, .int .i64 r2, .int .i64 r3, .int .i64 r4] : Array Value)[o]? := fun o => cell_of_row _ _ o _ _ _ B1.out
    rcases hms with rfl | rfl | rfl | rfl | rfl
    · go_wp2_with (refine wpList_store_at rfl _ _ _ rfl _ _ (by rfl) _ (by rfl) _ _ (HL.out) _ (by rfl) ?_ ?_ ?_ (#[Value.int .i64 r0, .int .i64 q1, .int .i64 q2, .int .i64 q3, .int .i64 q4]) (by rfl) ?_; rfl; kernel_rfl; kernel_rfl)
      go_meet
      exact ⟨r0, q1, q2, q3, q4, Lib.hid (setRow_heap w4 gl _ #[Value.int .i64 r0, .int .i64 q1, .int .i64 q2, .int .i64 q3, .int .i64 q4] _ _ HL.out), Lib.hid ((setRow_other w4 gl gi #[Value.int .i64 r0, .int .i64 q1, .int .i64 q2, .int .i64 q3, .int .i64 q4] (by omega)).trans HI.out), Lib.hid ((setRow_other w4 gl (w.heap.size + 1) #[Value.int .i64 r0, .int .i64 q1, .int .i64 q2, .int .i64 q3, .int .i64 q4] (by omega)).trans B1.out), Lib.hid (below_setRow HB.out hz3 _)⟩
    · go_wp2_with (refine wpList_store_at rfl _ _ _ rfl _ _ (by rfl) _ (by rfl) _ _ (HL.out) _ (by rfl) ?_ ?_ ?_ (#[.int .i64 q0, .int .i64 r1, .int .i64 q2, .int .i64 q3, .int .i64 q4]) (by rfl) ?_; rfl; kernel_rfl; kernel_rfl)
      go_meet
      exact ⟨q0, r1, q2, q3, q4, Lib.hid (setRow_heap w4 gl _ #[.int .i64 q0, .int .i64 r1, .int .i64 q2, .int .i64 q3, .int .i64 q4] _ _ HL.out), Lib.hid ((setRow_other w4 gl gi #[.int .i64 q0, .int .i64 r1, .int .i64 q2, .int .i64 q3, .int .i64 q4] (by omega)).trans HI.out), Lib.hid ((setRow_other w4 gl (w.heap.size + 1) #[.int .i64 q0, .int .i64 r1, .int .i64 q2, .int .i64 q3, .int .i64 q4] (by omega)).trans B1.out), Lib.hid (below_setRow HB.out hz3 _)⟩
    · go_wp2_with (refine wpList_store_at rfl _ _ _ rfl _ _ (by rfl) _ (by rfl) _ _ (HL.out) _ (by rfl) ?_ ?_ ?_ (#[.int .i64 q0, .int .i64 q1, .int .i64 r2, .int .i64 q3, .int .i64 q4]) (by rfl) ?_; rfl; kernel_rfl; kernel_rfl)
      go_meet
      exact ⟨q0, q1, r2, q3, q4, Lib.hid (setRow_heap w4 gl _ #[.int .i64 q0, .int .i64 q1, .int .i64 r2, .int .i64 q3, .int .i64 q4] _ _ HL.out), Lib.hid ((setRow_other w4 gl gi #[.int .i64 q0, .int .i64 q1, .int .i64 r2, .int .i64 q3, .int .i64 q4] (by omega)).trans HI.out), Lib.hid ((setRow_other w4 gl (w.heap.size + 1) #[.int .i64 q0, .int .i64 q1, .int .i64 r2, .int .i64 q3, .int .i64 q4] (by omega)).trans B1.out), Lib.hid (below_setRow HB.out hz3 _)⟩
    · go_wp2_with (refine wpList_store_at rfl _ _ _ rfl _ _ (by rfl) _ (by rfl) _ _ (HL.out) _ (by rfl) ?_ ?_ ?_ (#[.int .i64 q0, .int .i64 q1, .int .i64 q2, .int .i64 r3, .int .i64 q4]) (by rfl) ?_; rfl; kernel_rfl; kernel_rfl)
      go_meet
      exact ⟨q0, q1, q2, r3, q4, Lib.hid (setRow_heap w4 gl _ #[.int .i64 q0, .int .i64 q1, .int .i64 q2, .int .i64 r3, .int .i64 q4] _ _ HL.out), Lib.hid ((setRow_other w4 gl gi #[.int .i64 q0, .int .i64 q1, .int .i64 q2, .int .i64 r3, .int .i64 q4] (by omega)).trans HI.out), Lib.hid ((setRow_other w4 gl (w.heap.size + 1) #[.int .i64 q0, .int .i64 q1, .int .i64 q2, .int .i64 r3, .int .i64 q4] (by omega)).trans B1.out), Lib.hid (below_setRow HB.out hz3 _)⟩
    · go_wp2_with (refine wpList_store_at rfl _ _ _ rfl _ _ (by rfl) _ (by rfl) _ _ (HL.out) _ (by rfl) ?_ ?_ ?_ (#[.int .i64 q0, .int .i64 q1, .int .i64 q2, .int .i64 q3, .int .i64 r4]) (by rfl) ?_; rfl; kernel_rfl; kernel_rfl)
      go_meet
      exact ⟨q0, q1, q2, q3, r4, Lib.hid (setRow_heap w4 gl _ #[.int .i64 q0, .int .i64 q1, .int .i64 q2, .int .i64 q3, .int .i64 r4] _ _ HL.out), Lib.hid ((setRow_other w4 gl gi #[.int .i64 q0, .int .i64 q1, .int .i64 q2, .int .i64 q3, .int .i64 r4] (by omega)).trans HI.out), Lib.hid ((setRow_other w4 gl (w.heap.size + 1) #[.int .i64 q0, .int .i64 q1, .int .i64 q2, .int .i64 q3, .int .i64 r4] (by omega)).trans B1.out), Lib.hid (below_setRow HB.out hz3 _)⟩
  case rest =>
    obtain ⟨l0, l1, l2, l3, l4, HL, HI, B1, HB⟩ := hcut
    have hb := made_ok l0 l1 l2 l3 l4
    have HVb := Lib.hid (made_valid l0 l1 l2 l3 l4)
    have HMb := Lib.hid (fun W => made_any l0 l1 l2 l3 l4 W)
    generalize madeS l0 l1 l2 l3 l4 = b at *
    obtain ⟨w5, rfl⟩ : ∃ w5 : World, w5 = wc := ⟨_, rfl⟩
    have z1 := (Array.getElem?_eq_some_iff.1 HL.out).1
    have z2 := (Array.getElem?_eq_some_iff.1 HI.out).1
    have z3 := (Array.getElem?_eq_some_iff.1 B1.out).1
    go_upto_region 5 with fail
    refine wp_region_relyF [4, 5] 8 (factOf [isV (.agg #[Value.int .i64 r0, .int .i64 r1, .int .i64 r2, .int .i64 r3, .int .i64 r4]), isV (.agg (insCells a)), isV (.agg #[Value.int .i64 l0, .int .i64 l1, .int .i64 l2, .int .i64 l3, .int .i64 l4]), isV (.agg (insCells b)), newR w5.heap.size 24 7, newR w5.heap.size 24 7, newV w5.heap.size (.cells (insCells a) 24 (0, 0)), newV w5.heap.size (.cells (insCells b) 24 (0, 0))]) (nth [[0], [1], [2], [3], [4], [5], [4], [5]]) (nth [[], [], [], [], [], [], [4], [5]]) (nth [[], [0], [], [2, 1], [], [], [4, 1, 3, 0], [5, 3, 6, 0, 1, 2]]) [6, 7] (Kept w.heap.size w w5.heap.size [(w.heap.size + 1, .cells #[Value.int .i64 r0, .int .i64 r1, .int .i64 r2, .int .i64 r3, .int .i64 r4] 25 (0, 0)), (gl, .cells #[Value.int .i64 l0, .int .i64 l1, .int .i64 l2, .int .i64 l3, .int .i64 l4] 25 (0, 0)), (gi, .cells (insCells i) 24 (0, 0))]) (by kernel_rfl) (by kernel_rfl) (⟨HB.out.drew, HB.out.size, Nat.le_refl _, by intro x hx; simp at hx; rcases hx with rfl | rfl | rfl <;> (show _ < _; omega), B1.out, HL.out, HI.out, trivial⟩) (Kept.grow) (GrowsAll.of ((GrowsAll.cons (Grows.isV _)  (GrowsAll.cons (Grows.isV _)  (GrowsAll.cons (Grows.isV _)  (GrowsAll.cons (Grows.isV _)  (GrowsAll.cons (Grows.newR _ _ _)  (GrowsAll.cons (Grows.newR _ _ _)  (GrowsAll.cons (Grows.newV _ _)  (GrowsAll.cons (Grows.newV _ _) GrowsAll.nil)))))))))) (fun f F hF => ?_)
    simp only [List.take_succ_cons, List.take_zero, fullGo, Act.put, List.setIfInBounds_toArray, List.set_cons_zero, List.set_cons_succ, Nat.reduceAdd] at hF
    subst hF
    refine ⟨StepObs.cons ?_ (StepObs.cons ?_ (StepObs.cons ?_ (StepObs.cons ?_ (StepObs.cons ?_ (StepObs.cons ?_ (StepObs.cons ?_ (StepObs.cons ?_ (StepObs.nil)))))))), ?_⟩
    · intro w6 hS hF hD K hK
      rw [if_pos (by rfl)]
      exact wp_load_rowB _ _ rfl _ rfl _ _ _ (hS.2.2.2.2.1) (by kernel_rfl) (hK.out _ _ rfl (After.lit rfl rfl rfl (by first | rfl | kernel_rfl)))
    · intro w6 hS hF hD K hK
      obtain ⟨e0, -⟩ := hF
      replace e0 : f 0 = _ := e0
      try simp only [e0]
      rw [if_pos (by rfl)]
      go_simp
      refine (HMa.out _).mono ?_; rintro e w9 ⟨rfl, hbelow⟩; go_simp
      refine hK.out _ _ rfl (After.litB rfl rfl rfl hbelow ?_)
      first | rfl | kernel_rfl
    · intro w6 hS hF hD K hK
      rw [if_pos (by rfl)]
      exact wp_load_rowB _ _ rfl _ rfl _ _ _ (hS.2.2.2.2.2.1) (by kernel_rfl) (hK.out _ _ rfl (After.lit rfl rfl rfl (by first | rfl | kernel_rfl)))
    · intro w6 hS hF hD K hK
      obtain ⟨e2, e1, -⟩ := hF
      replace e2 : f 2 = _ := e2
      replace e1 : f 1 = _ := e1
      try simp only [e2, e1]
      rw [if_pos (by rfl)]
      go_simp
      refine (HMb.out _).mono ?_; rintro e w9 ⟨rfl, hbelow⟩; go_simp
      refine hK.out _ _ rfl (After.litB rfl rfl rfl hbelow ?_)
      first | rfl | kernel_rfl
    · intro w6 hS hF hD K hK
      rw [if_pos (by rfl)]
      go_simp
      refine hK.out _ _ rfl (After.new rfl rfl hS.2.2.1 rfl ?_)
      first | rfl | kernel_rfl
    · intro w6 hS hF hD K hK
      rw [if_pos (by rfl)]
      go_simp
      refine hK.out _ _ rfl (After.new rfl rfl hS.2.2.1 rfl ?_)
      first | rfl | kernel_rfl
    · intro w6 hS hF hD K hK
      obtain ⟨e4, e1, e3, e0, -⟩ := hF
      obtain ⟨g4, c4, e4, hB4, hg4, hn4⟩ := e4
      replace e4 : f 4 = _ := e4
      replace e1 : f 1 = _ := e1
      replace e3 : f 3 = _ := e3
      replace e0 : f 0 = _ := e0
      try simp only [e4, e1, e3, e0]
      rw [if_pos (by rfl)]
      refine wp_store_row _ _ _ rfl g4 _ rfl rfl _ _ hg4 (by kernel_rfl) hn4 (by kernel_rfl) ?_
      exact hK.out _ _ rfl (After.set rfl rfl rfl rfl rfl e4 hB4 hB4 hg4 hS (StaysAt.isV (StaysAt.isV (StaysAt.isV (StaysAt.isV (StaysAt.out (by rfl) (StaysAt.farR rfl (fun e9 => hD 5 4 (by kernel_rfl) (by kernel_rfl) rfl rfl (by decide) (e9.trans e4.symm)) (StaysAt.out (by rfl) (StaysAt.far rfl (fun e9 => hD 5 4 (by kernel_rfl) (by kernel_rfl) rfl rfl (by decide) (e9.trans e4.symm)) StaysAt.nil)))))))))
    · intro w6 hS hF hD K hK
      obtain ⟨e5, e3, e6, e0, e1, e2, -⟩ := hF
      obtain ⟨g5, c5, e5, hB5, hg5, hn5⟩ := e5
      replace e5 : f 5 = _ := e5
      replace e3 : f 3 = _ := e3
      obtain ⟨g4, e6, hB4, hg4⟩ := e6
      replace e6 : f 4 = _ := e6
      replace e0 : f 0 = _ := e0
      replace e1 : f 1 = _ := e1
      replace e2 : f 2 = _ := e2
      try simp only [e5, e3, e6, e0, e1, e2]
      rw [if_pos (by rfl)]
      refine wp_store_row _ _ _ rfl g5 _ rfl rfl _ _ hg5 (by kernel_rfl) hn5 (by kernel_rfl) ?_
      exact hK.out _ _ rfl (After.set rfl rfl rfl rfl rfl e5 hB5 hB5 hg5 hS (StaysAt.isV (StaysAt.isV (StaysAt.isV (StaysAt.isV (StaysAt.farR rfl (fun e9 => hD 4 5 (by kernel_rfl) (by kernel_rfl) rfl rfl (by decide) (e9.trans e5.symm)) (StaysAt.out (by rfl) (StaysAt.far rfl (fun e9 => hD 4 5 (by kernel_rfl) (by kernel_rfl) rfl rfl (by decide) (e9.trans e5.symm)) (StaysAt.out (by rfl) StaysAt.nil)))))))))
    intro w6 hS hF
    obtain ⟨e6, e7, -⟩ := hF
    obtain ⟨g4, e6, hB4, hg4⟩ := e6
    replace e6 : f 4 = _ := e6
    obtain ⟨g5, e7, hB5, hg5⟩ := e7
    replace e7 : f 5 = _ := e7
    try simp only [e6, e7]
    refine Fin.done (by kernel_rfl) ?_
    replace HI := Lib.hid hS.2.2.2.2.2.2.1
    have HA := Lib.hid hg4
    have HBb := Lib.hid hg5
    replace HB := Lib.hid hS.1
    clear HL B1 z1 z2 z3 hS hg4 hg5
    obtain ⟨ga, rfl⟩ : ∃ ga : Nat, ga = g4 := ⟨_, rfl⟩
    obtain ⟨gb, rfl⟩ : ∃ gb : Nat, gb = g5 := ⟨_, rfl⟩
    go_upto_region 7 with (refine wpList_store_row rfl _ _ _ rfl _ _ rfl rfl _ _ (heap_alloc_new _ _) ?_ ?_ ?_ ?_; kernel_rfl; rfl; kernel_rfl; rw [World.setRow_alloc_new])
    have HP := Lib.hid (heap_alloc_new w6 (.cells #[Value.int .i64 0, .int .u16 256] 47))
    have hb7 : Below w6.heap.size w6 (w6.alloc (.cells #[Value.int .i64 0, .int .u16 256] 47)) := (Below.refl _ _).alloc (Nat.le_refl _) _
    replace HI := Lib.hid (below_keep hb7 HI.out)
    replace HA := Lib.hid (below_keep hb7 HA.out)
    replace HBb := Lib.hid (below_keep hb7 HBb.out)
    replace HB := Lib.hid (HB.out.trans (hb7.mono HB.out.size))
    clear hb7
    obtain ⟨w7, hw7⟩ : ∃ w7 : World, w6.alloc (.cells #[Value.int .i64 0, .int .u16 256] 47) = w7 := ⟨_, rfl⟩
    rw [hw7] at HI HA HBb HB HP ⊢
    clear hw7
    obtain ⟨gp, hgp⟩ : ∃ gp : Nat, w6.heap.size = gp := ⟨_, rfl⟩
    rw [hgp] at HP ⊢
    clear hgp hB4 hB5
    go_upto_region 8 with (first
      | (refine wpList_load_row rfl _ (.tmp 8) rfl _ rfl _ _ _ _ HI.out Tryd.underlying24 rfl ?_ ?_; kernel_rfl)
      | (refine wpList_load_row rfl _ (.tmp 12) rfl _ rfl _ _ _ _ HP.out Tryd.underlying47 rfl ?_ ?_; kernel_rfl)
      | (go_at_call 27; refine (line_any i hi ⟨0, 256⟩ _ (HT.out.stay HB.out)).mono ?_; rintro e w8 ⟨rfl, hb8⟩; replace HI := Lib.hid (below_keep hb8 HI.out); replace HA := Lib.hid (below_keep hb8 HA.out); replace HBb := Lib.hid (below_keep hb8 HBb.out); replace HP := Lib.hid (below_keep hb8 HP.out); replace HB := Lib.hid (HB.out.trans (hb8.mono HB.out.size)); clear hb8))
    have z1 := (Array.getElem?_eq_some_iff.1 HI.out).1
    have z2 := (Array.getElem?_eq_some_iff.1 HA.out).1
    have z3 := (Array.getElem?_eq_some_iff.1 HBb.out).1
    have z4 := (Array.getElem?_eq_some_iff.1 HP.out).1
    have HNE := Lib.hid (line_empty i hi HV.out ⟨0, 256⟩)
    have HEA := Lib.hid (line_cmp i a hi ha HV.out HVa.out ⟨0, 256⟩)
    have HEB := Lib.hid (line_cmp i b hi hb HV.out HVb.out ⟨0, 256⟩)
    refine wp_region_relyF [] 28 (factOf [isV (.bool true), isV (.bool true), isV (.string ⟨(lineS i ⟨0, 256⟩).toArray⟩), isV (.bool true), isV (.bool true), isV (.bool true), isV (.string ⟨(lineS i ⟨0, 256⟩).toArray⟩), isV (.agg (insCells a)), isV (.agg #[Value.int .i64 0, .int .u16 256]), isV (.string ⟨(lineS a ⟨0, 256⟩).toArray⟩), isV (.bool (decide (i = a))), isV (.agg (insCells i)), isV (.agg (insCells a)), isV (.bool (decide (i = a))), isV (.bool true), isV (.bool true), isV (.bool true), isV (.string ⟨(lineS i ⟨0, 256⟩).toArray⟩), isV (.agg (insCells b)), isV (.agg #[Value.int .i64 0, .int .u16 256]), isV (.string ⟨(lineS b ⟨0, 256⟩).toArray⟩), isV (.bool (decide (i = b))), isV (.agg (insCells i)), isV (.agg (insCells b)), isV (.bool (decide (i = b))), isV (.bool true), isV (.bool true), isV (.bool true)]) (nth [[0], [1], [2], [3], [4], [5], [6], [7], [8], [9], [10], [11], [12], [13], [14], [15], [16], [17], [18], [19], [20], [21], [22], [23], [24], [25], [26], [27]]) (nth [[], [], [], [], [], [], [], [], [], [], [], [], [], [], [], [], [], [], [], [], [], [], [], [], [], [], [], []]) (nth [[], [0], [1], [2, 1], [1, 3], [4, 1], [5], [5], [5], [7, 8, 5], [6, 9, 5], [5], [5], [11, 12, 5], [10, 13, 5], [5, 14], [15, 9], [16], [16], [16], [18, 19, 16], [17, 20, 16], [16], [16], [22, 23, 16], [21, 24, 16], [16, 25], [26, 20, 0, 1, 2, 3, 4, 5, 6, 7, 8, 9, 10, 11, 12, 13, 14, 15, 16, 17, 18, 19, 21, 22, 23, 24, 25]]) [27] (Kept w.heap.size w w8.heap.size [(gi, .cells (insCells i) 24 (0, 0)), (ga, .cells (insCells a) 24 (0, 0)), (gb, .cells (insCells b) 24 (0, 0)), (gp, .cells #[Value.int .i64 0, .int .u16 256] 47 (0, 0))]) (by kernel_rfl) (by kernel_rfl) (⟨HB.out.drew, HB.out.size, Nat.le_refl _, by intro x hx; simp at hx; rcases hx with rfl | rfl | rfl | rfl <;> (show _ < _; assumption), HI.out, HA.out, HBb.out, HP.out, trivial⟩) (Kept.grow) (GrowsAll.of ((GrowsAll.cons (Grows.isV _)  (GrowsAll.cons (Grows.isV _)  (GrowsAll.cons (Grows.isV _)  (GrowsAll.cons (Grows.isV _)  (GrowsAll.cons (Grows.isV _)  (GrowsAll.cons (Grows.isV _)  (GrowsAll.cons (Grows.isV _)  (GrowsAll.cons (Grows.isV _)  (GrowsAll.cons (Grows.isV _)  (GrowsAll.cons (Grows.isV _)  (GrowsAll.cons (Grows.isV _)  (GrowsAll.cons (Grows.isV _)  (GrowsAll.cons (Grows.isV _)  (GrowsAll.cons (Grows.isV _)  (GrowsAll.cons (Grows.isV _)  (GrowsAll.cons (Grows.isV _)  (GrowsAll.cons (Grows.isV _)  (GrowsAll.cons (Grows.isV _)  (GrowsAll.cons (Grows.isV _)  (GrowsAll.cons (Grows.isV _)  (GrowsAll.cons (Grows.isV _)  (GrowsAll.cons (Grows.isV _)  (GrowsAll.cons (Grows.isV _)  (GrowsAll.cons (Grows.isV _)  (GrowsAll.cons (Grows.isV _)  (GrowsAll.cons (Grows.isV _)  (GrowsAll.cons (Grows.isV _)  (GrowsAll.cons (Grows.isV _) GrowsAll.nil)))))))))))))))))))))))))))))) (fun f F hF => ?_)
    simp only [List.take_succ_cons, List.take_zero, fullGo, Act.put, List.setIfInBounds_toArray, List.set_cons_zero, List.set_cons_succ, Nat.reduceAdd] at hF
    subst hF
    refine ⟨StepObs.cons ?_ (StepObs.cons ?_ (StepObs.cons ?_ (StepObs.cons ?_ (StepObs.cons ?_ (StepObs.cons ?_ (StepObs.cons ?_ (StepObs.cons ?_ (StepObs.cons ?_ (StepObs.cons ?_ (StepObs.cons ?_ (StepObs.cons ?_ (StepObs.cons ?_ (StepObs.cons ?_ (StepObs.cons ?_ (StepObs.cons ?_ (StepObs.cons ?_ (StepObs.cons ?_ (StepObs.cons ?_ (StepObs.cons ?_ (StepObs.cons ?_ (StepObs.cons ?_ (StepObs.cons ?_ (StepObs.cons ?_ (StepObs.cons ?_ (StepObs.cons ?_ (StepObs.cons ?_ (StepObs.cons ?_ (StepObs.nil)))))))))))))))))))))))))))), ?_⟩
    · intro wz hS hF hD K hK
      rw [if_pos (by rfl)]
      refine wp_of_quiet (v := .bool true) (by (show _ = _); kernel_rfl) (hK.out _ _ rfl (After.lit rfl rfl rfl ?_))
      first | rfl | kernel_rfl
    · intro wz hS hF hD K hK
      obtain ⟨e0, -⟩ := hF
      replace e0 : f 0 = _ := e0
      try simp only [e0]
      rw [if_pos (by rfl)]
      refine wp_of_quiet (v := .bool true) (by (show _ = _); kernel_rfl) (hK.out _ _ rfl (After.lit rfl rfl rfl ?_))
      first | rfl | kernel_rfl
    · intro wz hS hF hD K hK
      obtain ⟨e1, -⟩ := hF
      replace e1 : f 1 = _ := e1
      try simp only [e1]
      rw [if_pos (by rfl)]
      refine wp_of_quiet (v := .string ⟨(lineS i ⟨0, 256⟩).toArray⟩) (by (show _ = _); kernel_rfl) (hK.out _ _ rfl (After.lit rfl rfl rfl ?_))
      first | rfl | kernel_rfl
    · intro wz hS hF hD K hK
      obtain ⟨e2, e1, -⟩ := hF
      replace e2 : f 2 = _ := e2
      replace e1 : f 1 = _ := e1
      try simp only [e2, e1]
      rw [if_pos (by rfl)]
      exact wp_of_quiet (v := .bool (!((⟨(lineS i ⟨0, 256⟩).toArray⟩ : ByteArray).toList == (⟨#[]⟩ : ByteArray).toList))) (by (show _ = _); kernel_rfl) (hK.out _ _ rfl (After.lit rfl rfl rfl (congrArg Value.bool HNE.out)))
    · intro wz hS hF hD K hK
      obtain ⟨e1, e3, -⟩ := hF
      replace e1 : f 1 = _ := e1
      replace e3 : f 3 = _ := e3
      try simp only [e1, e3]
      rw [if_pos (by rfl)]
      refine wp_of_quiet (v := .bool true) (by (show _ = _); kernel_rfl) (hK.out _ _ rfl (After.lit rfl rfl rfl ?_))
      first | rfl | kernel_rfl
    · intro wz hS hF hD K hK
      obtain ⟨e4, e1, -⟩ := hF
      replace e4 : f 4 = _ := e4
      replace e1 : f 1 = _ := e1
      try simp only [e4, e1]
      rw [if_pos (by rfl)]
      refine wp_of_quiet (v := .bool true) (by (show _ = _); kernel_rfl) (hK.out _ _ rfl (After.lit rfl rfl rfl ?_))
      first | rfl | kernel_rfl
    · intro wz hS hF hD K hK
      obtain ⟨e5, -⟩ := hF
      replace e5 : f 5 = _ := e5
      try simp only [e5]
      rw [if_pos (by rfl)]
      refine wp_of_quiet (v := .string ⟨(lineS i ⟨0, 256⟩).toArray⟩) (by (show _ = _); kernel_rfl) (hK.out _ _ rfl (After.lit rfl rfl rfl ?_))
      first | rfl | kernel_rfl
    · intro wz hS hF hD K hK
      obtain ⟨e5, -⟩ := hF
      replace e5 : f 5 = _ := e5
      try simp only [e5]
      rw [if_pos (by rfl)]
      exact wp_load_rowB _ _ rfl _ rfl _ _ _ (hS.2.2.2.2.2.1) (by kernel_rfl) (hK.out _ _ rfl (After.lit rfl rfl rfl (by first | rfl | kernel_rfl)))
    · intro wz hS hF hD K hK
      obtain ⟨e5, -⟩ := hF
      replace e5 : f 5 = _ := e5
      try simp only [e5]
      rw [if_pos (by rfl)]
      exact wp_load_rowB _ _ rfl _ rfl _ _ _ (hS.2.2.2.2.2.2.2.1) (by kernel_rfl) (hK.out _ _ rfl (After.lit rfl rfl rfl (by first | rfl | kernel_rfl)))
    · intro wz hS hF hD K hK
      obtain ⟨e7, e8, e5, -⟩ := hF
      replace e7 : f 7 = _ := e7
      replace e8 : f 8 = _ := e8
      replace e5 : f 5 = _ := e5
      try simp only [e7, e8, e5]
      rw [if_pos (by rfl)]
      go_simp
      refine (line_any a ha ⟨0, 256⟩ _ (HT.out.stay hS.1)).mono ?_; rintro e w9 ⟨rfl, hbelow⟩; go_simp
      refine hK.out _ _ rfl (After.litB rfl rfl rfl hbelow ?_)
      first | rfl | kernel_rfl
    · intro wz hS hF hD K hK
      obtain ⟨e6, e9, e5, -⟩ := hF
      replace e6 : f 6 = _ := e6
      replace e9 : f 9 = _ := e9
      replace e5 : f 5 = _ := e5
      try simp only [e6, e9, e5]
      rw [if_pos (by rfl)]
      exact wp_of_quiet (v := .bool ((⟨(lineS i ⟨0, 256⟩).toArray⟩ : ByteArray).toList == (⟨(lineS a ⟨0, 256⟩).toArray⟩ : ByteArray).toList)) (by (show _ = _); kernel_rfl) (hK.out _ _ rfl (After.lit rfl rfl rfl (congrArg Value.bool HEA.out)))
    · intro wz hS hF hD K hK
      obtain ⟨e5, -⟩ := hF
      replace e5 : f 5 = _ := e5
      try simp only [e5]
      rw [if_pos (by rfl)]
      exact wp_load_rowB _ _ rfl _ rfl _ _ _ (hS.2.2.2.2.1) (by kernel_rfl) (hK.out _ _ rfl (After.lit rfl rfl rfl (by first | rfl | kernel_rfl)))
    · intro wz hS hF hD K hK
      obtain ⟨e5, -⟩ := hF
      replace e5 : f 5 = _ := e5
      try simp only [e5]
      rw [if_pos (by rfl)]
      exact wp_load_rowB _ _ rfl _ rfl _ _ _ (hS.2.2.2.2.2.1) (by kernel_rfl) (hK.out _ _ rfl (After.lit rfl rfl rfl (by first | rfl | kernel_rfl)))
    · intro wz hS hF hD K hK
      obtain ⟨e11, e12, e5, -⟩ := hF
      replace e11 : f 11 = _ := e11
      replace e12 : f 12 = _ := e12
      replace e5 : f 5 = _ := e5
      try simp only [e11, e12, e5]
      rw [if_pos (by rfl)]
      exact wp_of_quiet (exec_eql_ins _ _ rfl i a rfl rfl) (hK.out _ _ rfl (After.lit rfl rfl rfl (by first | rfl | kernel_rfl)))
    · intro wz hS hF hD K hK
      obtain ⟨e10, e13, e5, -⟩ := hF
      replace e10 : f 10 = _ := e10
      replace e13 : f 13 = _ := e13
      replace e5 : f 5 = _ := e5
      try simp only [e10, e13, e5]
      rw [if_pos (by rfl)]
      exact wp_of_quiet (v := .bool (decide (i = a) == decide (i = a))) (by (show _ = _); kernel_rfl) (hK.out _ _ rfl (After.lit rfl rfl rfl (congrArg Value.bool (by simp))))
    · intro wz hS hF hD K hK
      obtain ⟨e5, e14, -⟩ := hF
      replace e5 : f 5 = _ := e5
      replace e14 : f 14 = _ := e14
      try simp only [e5, e14]
      rw [if_pos (by rfl)]
      refine wp_of_quiet (v := .bool true) (by (show _ = _); kernel_rfl) (hK.out _ _ rfl (After.lit rfl rfl rfl ?_))
      first | rfl | kernel_rfl
    · intro wz hS hF hD K hK
      obtain ⟨e15, e9, -⟩ := hF
      replace e15 : f 15 = _ := e15
      replace e9 : f 9 = _ := e9
      try simp only [e15, e9]
      rw [if_pos (by rfl)]
      refine wp_of_quiet (v := .bool true) (by (show _ = _); kernel_rfl) (hK.out _ _ rfl (After.lit rfl rfl rfl ?_))
      first | rfl | kernel_rfl
    · intro wz hS hF hD K hK
      obtain ⟨e16, -⟩ := hF
      replace e16 : f 16 = _ := e16
      try simp only [e16]
      rw [if_pos (by rfl)]
      refine wp_of_quiet (v := .string ⟨(lineS i ⟨0, 256⟩).toArray⟩) (by (show _ = _); kernel_rfl) (hK.out _ _ rfl (After.lit rfl rfl rfl ?_))
      first | rfl | kernel_rfl
    · intro wz hS hF hD K hK
      obtain ⟨e16, -⟩ := hF
      replace e16 : f 16 = _ := e16
      try simp only [e16]
      rw [if_pos (by rfl)]
      exact wp_load_rowB _ _ rfl _ rfl _ _ _ (hS.2.2.2.2.2.2.1) (by kernel_rfl) (hK.out _ _ rfl (After.lit rfl rfl rfl (by first | rfl | kernel_rfl)))
    · intro wz hS hF hD K hK
      obtain ⟨e16, -⟩ := hF
      replace e16 : f 16 = _ := e16
      try simp only [e16]
      rw [if_pos (by rfl)]
      exact wp_load_rowB _ _ rfl _ rfl _ _ _ (hS.2.2.2.2.2.2.2.1) (by kernel_rfl) (hK.out _ _ rfl (After.lit rfl rfl rfl (by first | rfl | kernel_rfl)))
    · intro wz hS hF hD K hK
      obtain ⟨e18, e19, e16, -⟩ := hF
      replace e18 : f 18 = _ := e18
      replace e19 : f 19 = _ := e19
      replace e16 : f 16 = _ := e16
      try simp only [e18, e19, e16]
      rw [if_pos (by rfl)]
      go_simp
      refine (line_any b hb ⟨0, 256⟩ _ (HT.out.stay hS.1)).mono ?_; rintro e w9 ⟨rfl, hbelow⟩; go_simp
      refine hK.out _ _ rfl (After.litB rfl rfl rfl hbelow ?_)
      first | rfl | kernel_rfl
    · intro wz hS hF hD K hK
      obtain ⟨e17, e20, e16, -⟩ := hF
      replace e17 : f 17 = _ := e17
      replace e20 : f 20 = _ := e20
      replace e16 : f 16 = _ := e16
      try simp only [e17, e20, e16]
      rw [if_pos (by rfl)]
      exact wp_of_quiet (v := .bool ((⟨(lineS i ⟨0, 256⟩).toArray⟩ : ByteArray).toList == (⟨(lineS b ⟨0, 256⟩).toArray⟩ : ByteArray).toList)) (by (show _ = _); kernel_rfl) (hK.out _ _ rfl (After.lit rfl rfl rfl (congrArg Value.bool HEB.out)))
    · intro wz hS hF hD K hK
      obtain ⟨e16, -⟩ := hF
      replace e16 : f 16 = _ := e16
      try simp only [e16]
      rw [if_pos (by rfl)]
      exact wp_load_rowB _ _ rfl _ rfl _ _ _ (hS.2.2.2.2.1) (by kernel_rfl) (hK.out _ _ rfl (After.lit rfl rfl rfl (by first | rfl | kernel_rfl)))
    · intro wz hS hF hD K hK
      obtain ⟨e16, -⟩ := hF
      replace e16 : f 16 = _ := e16
      try simp only [e16]
      rw [if_pos (by rfl)]
      exact wp_load_rowB _ _ rfl _ rfl _ _ _ (hS.2.2.2.2.2.2.1) (by kernel_rfl) (hK.out _ _ rfl (After.lit rfl rfl rfl (by first | rfl | kernel_rfl)))
    · intro wz hS hF hD K hK
      obtain ⟨e22, e23, e16, -⟩ := hF
      replace e22 : f 22 = _ := e22
      replace e23 : f 23 = _ := e23
      replace e16 : f 16 = _ := e16
      try simp only [e22, e23, e16]
      rw [if_pos (by rfl)]
      exact wp_of_quiet (exec_eql_ins _ _ rfl i b rfl rfl) (hK.out _ _ rfl (After.lit rfl rfl rfl (by first | rfl | kernel_rfl)))
    · intro wz hS hF hD K hK
      obtain ⟨e21, e24, e16, -⟩ := hF
      replace e21 : f 21 = _ := e21
      replace e24 : f 24 = _ := e24
      replace e16 : f 16 = _ := e16
      try simp only [e21, e24, e16]
      rw [if_pos (by rfl)]
      exact wp_of_quiet (v := .bool (decide (i = b) == decide (i = b))) (by (show _ = _); kernel_rfl) (hK.out _ _ rfl (After.lit rfl rfl rfl (congrArg Value.bool (by simp))))
    · intro wz hS hF hD K hK
      obtain ⟨e16, e25, -⟩ := hF
      replace e16 : f 16 = _ := e16
      replace e25 : f 25 = _ := e25
      try simp only [e16, e25]
      rw [if_pos (by rfl)]
      refine wp_of_quiet (v := .bool true) (by (show _ = _); kernel_rfl) (hK.out _ _ rfl (After.lit rfl rfl rfl ?_))
      first | rfl | kernel_rfl
    · intro wz hS hF hD K hK
      obtain ⟨e26, e20, e0, e1, e2, e3, e4, e5, e6, e7, e8, e9, e10, e11, e12, e13, e14, e15, e16, e17, e18, e19, e21, e22, e23, e24, e25, -⟩ := hF
      replace e26 : f 26 = _ := e26
      replace e20 : f 20 = _ := e20
      replace e0 : f 0 = _ := e0
      replace e1 : f 1 = _ := e1
      replace e2 : f 2 = _ := e2
      replace e3 : f 3 = _ := e3
      replace e4 : f 4 = _ := e4
      replace e5 : f 5 = _ := e5
      replace e6 : f 6 = _ := e6
      replace e7 : f 7 = _ := e7
      replace e8 : f 8 = _ := e8
      replace e9 : f 9 = _ := e9
      replace e10 : f 10 = _ := e10
      replace e11 : f 11 = _ := e11
      replace e12 : f 12 = _ := e12
      replace e13 : f 13 = _ := e13
      replace e14 : f 14 = _ := e14
      replace e15 : f 15 = _ := e15
      replace e16 : f 16 = _ := e16
      replace e17 : f 17 = _ := e17
      replace e18 : f 18 = _ := e18
      replace e19 : f 19 = _ := e19
      replace e21 : f 21 = _ := e21
      replace e22 : f 22 = _ := e22
      replace e23 : f 23 = _ := e23
      replace e24 : f 24 = _ := e24
      replace e25 : f 25 = _ := e25
      try simp only [e26, e20, e0, e1, e2, e3, e4, e5, e6, e7, e8, e9, e10, e11, e12, e13, e14, e15, e16, e17, e18, e19, e21, e22, e23, e24, e25]
      rw [if_pos (by rfl)]
      refine wp_of_quiet (v := .bool true) (by (show _ = _); kernel_rfl) (hK.out _ _ rfl (After.lit rfl rfl rfl ?_))
      first | rfl | kernel_rfl
    intro wz hS hF
    obtain ⟨e27, -⟩ := hF
    replace e27 : f 27 = _ := e27
    try simp only [e27]
    refine Fin.done (by kernel_rfl) ?_
    go_wp2_with fail
    go_ret
    exact ⟨rfl, hS.1⟩

end Go.Proofs.YtakahmhbopakmaaDoor
