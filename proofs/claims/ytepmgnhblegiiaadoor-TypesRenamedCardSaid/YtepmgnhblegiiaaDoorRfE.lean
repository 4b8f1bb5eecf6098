/- The reference: Same, Prefix; agrees. No condition beyond what each states. -/
import Derived.Test.YtepmgnhblegiiaaDoorMd
set_option linter.all false
namespace Go.Proofs.YtepmgnhblegiiaaDoor
open Go Go.RowKit Go.Maps

def SamPost (ra rb : List Row) (w : World) (e : Ending) (w' : World) : Prop := ∃ b : Bool, e = .returned (.bool b) ∧ Below w.heap.size w w' ∧ (b = true ↔ ra = rb)
theorem RowsV.at {w : World} {v : Value} {rows : List Row} (h : RowsV w v rows) : ∃ ao cap, v = .slice ao rows.length cap ∧ rows.length ≤ cap ∧ (0 < rows.length → ∃ g off c, ao = some ⟨g, off, none⟩ ∧ w.heap[g]? = some (.cells c 44 (0, 0)) ∧ ∀ i r, rows[i]? = some r → ∃ am cm, (am = none → r.fields.length = 0) ∧ (0 < r.fields.length → ∃ g2 off2 c2 T2, am = some ⟨g2, off2, none⟩ ∧ w.heap[g2]? = some (.cells c2 T2 (0, 0)) ∧ ∀ j p, r.fields[j]? = some p → c2[off2 + j * 2]? = some (.int .i64 p.1) ∧ c2[off2 + (j * 2 + 1)]? = some (.int .i64 p.2)) ∧ r.fields.length ≤ 65536 ∧ (c.extract (off + i * 7) (off + i * 7 + (rowCells r (.slice am r.fields.length cm)).length)).toList = rowCells r (.slice am r.fields.length cm)) := by
  obtain ⟨ao, cap, e, hc, h⟩ := h
  refine ⟨ao, cap, e, hc, fun h0 => ?_⟩
  obtain ⟨g, off, c, e, hg, hr⟩ := h h0
  refine ⟨g, off, c, e, hg, fun i r hir => ?_⟩
  obtain ⟨fv, ⟨am, cm, rfl, hm⟩, hl, hx⟩ := hr i r hir
  refine ⟨am, cm, fun e => ?_, hm, hl, ext_at (fun j hj => hx j hj)⟩
  rcases Nat.eq_zero_or_pos r.fields.length with h | h
  · exact h
  · obtain ⟨g2, o2, c2, T2, e2, -⟩ := hm h
    rw [e] at e2; cases e2

set_option maxRecDepth 100000 in
set_option maxHeartbeats 4000000 in
theorem rsame_any (ra rb : List Row) (va vb : Value) (w : World) (ha : RowsV w va ra) (hb : RowsV w vb rb) (hla : ra.length ≤ 100000) (hlb : rb.length ≤ 100000) :
    Calls Tryd.prog 22 #[va, vb] w (SamPost ra rb w) := by
  obtain ⟨ao, ca, rfl, hca, hga⟩ := ha.at
  obtain ⟨bo, cb, rfl, hcb, hgb⟩ := hb.at
  have HA := Lib.hid hga
  have HBB := Lib.hid hgb
  clear ha hb hga hgb
  go_enter Tryd.func22, Tryd.ntmps22
  by_cases hl : ra.length = rb.length
  rotate_left
  · have hl2 : ((ra.length : Int) != (rb.length : Int)) = true := by simp; omega
    have hl3 : ¬ ((ra.length : Int) = (rb.length : Int)) := by omega
    have HL := Lib.hid hl
    clear hl
    go_wp2_with fail
    go_ret
    exact ⟨false, rfl, Below.refl _ _, ⟨fun h => (by cases h), fun h => absurd (by rw [h]) HL.out⟩⟩
  have HL := Lib.hid hl
  rw [← hl] at hcb hlb ⊢
  clear hl hlb
  go_wp2_with fail
  go_loopw [5] (fun s5 wr => ∃ k : Nat, k ≤ ra.length ∧ s5 = .int .i64 k ∧ Hid (∀ j, j < k → ra[j]? = rb[j]?) ∧ Hid (Below w.heap.size w wr)) (fun s5 _ => ra.length - (intOf s5).toNat)
  case atStart => exact ⟨0, Nat.zero_le _, rfl, Lib.hid (fun j hj => absurd hj (by omega)), Lib.hid (Below.refl _ _)⟩
  case round =>
    obtain ⟨k, hk, rfl, HEQ, HB⟩ := hrel
    by_cases hlt : k < ra.length
    · obtain ⟨x, hx⟩ : ∃ x, ra[k]? = some x := ⟨ra[k], by simp [hlt]⟩
      obtain ⟨y, hy⟩ : ∃ y, rb[k]? = some y := ⟨rb[k]'(by rw [← HL.out]; exact hlt), by simp⟩
      obtain ⟨g1, o1, c1, rfl, hg1, hr1⟩ := HA.out (by omega)
      obtain ⟨g2, o2, c2, rfl, hg2, hr2⟩ := HBB.out (by rw [← HL.out]; omega)
      obtain ⟨m1, n1, -, hm1, hf1, he1⟩ := hr1 k x hx
      obtain ⟨m2, n2, -, hm2, hf2, he2⟩ := hr2 k y hy
      have HG1 := Lib.hid (below_keep HB.out hg1)
      have hb1 : Below wr.heap.size wr (wr.alloc (.cells #[.int .i64 x.cls, .int .i64 x.size, .int .i64 x.sign, .int .i64 x.ptr, .int .i64 x.elem, .int .i64 x.count, .slice m1 x.fields.length n1] 44)) := (Below.refl _ _).alloc (Nat.le_refl _) _
      have HG2 := Lib.hid (below_keep hb1 (below_keep HB.out hg2))
      have HE1 := Lib.hid he1
      have HE2 := Lib.hid he2
      have HX := Lib.hid (And.intro hx hy)
      obtain ⟨W, hW⟩ : ∃ W, W = (wr.alloc (.cells #[.int .i64 x.cls, .int .i64 x.size, .int .i64 x.sign, .int .i64 x.ptr, .int .i64 x.elem, .int .i64 x.count, .slice m1 x.fields.length n1] 44)).alloc (.cells #[.int .i64 y.cls, .int .i64 y.size, .int .i64 y.sign, .int .i64 y.ptr, .int .i64 y.elem, .int .i64 y.count, .slice m2 y.fields.length n2] 44) := ⟨_, rfl⟩
      have hbW : Below wr.heap.size wr W := by rw [hW]; exact ((Below.refl _ _).alloc (Nat.le_refl _) _).alloc (by simp) _
      have hxb : W.heap[wr.heap.size]? = some (.cells #[.int .i64 x.cls, .int .i64 x.size, .int .i64 x.sign, .int .i64 x.ptr, .int .i64 x.elem, .int .i64 x.count, .slice m1 x.fields.length n1] 44 (0, 0)) := by rw [hW, alloc_other _ _ (by simp)]; exact heap_alloc_new _ _
      have hyb : W.heap[wr.heap.size + 1]? = some (.cells #[.int .i64 y.cls, .int .i64 y.size, .int .i64 y.sign, .int .i64 y.ptr, .int .i64 y.elem, .int .i64 y.count, .slice m2 y.fields.length n2] 44 (0, 0)) := by
        have h9 := heap_alloc_new (wr.alloc (.cells #[.int .i64 x.cls, .int .i64 x.size, .int .i64 x.sign, .int .i64 x.ptr, .int .i64 x.elem, .int .i64 x.count, .slice m1 x.fields.length n1] 44)) (.cells #[.int .i64 y.cls, .int .i64 y.size, .int .i64 y.sign, .int .i64 y.ptr, .int .i64 y.elem, .int .i64 y.count, .slice m2 y.fields.length n2] 44)
        rw [hW]; simpa using h9
      have HM1 := Lib.hid (fun h0 => by
        obtain ⟨g, o, c, T, e, hg, hc⟩ := hm1 h0
        exact (⟨g, o, c, T, e, below_keep hbW (below_keep HB.out hg), hc⟩ : ∃ g2 off2 c2 T2, m1 = some ⟨g2, off2, none⟩ ∧ W.heap[g2]? = some (.cells c2 T2 (0, 0)) ∧ ∀ j p, x.fields[j]? = some p → c2[off2 + j * 2]? = some (.int .i64 p.1) ∧ c2[off2 + (j * 2 + 1)]? = some (.int .i64 p.2)))
      have HM2 := Lib.hid (fun h0 => by
        obtain ⟨g, o, c, T, e, hg, hc⟩ := hm2 h0
        exact (⟨g, o, c, T, e, below_keep hbW (below_keep HB.out hg), hc⟩ : ∃ g2 off2 c2 T2, m2 = some ⟨g2, off2, none⟩ ∧ W.heap[g2]? = some (.cells c2 T2 (0, 0)) ∧ ∀ j p, y.fields[j]? = some p → c2[off2 + j * 2]? = some (.int .i64 p.1) ∧ c2[off2 + (j * 2 + 1)]? = some (.int .i64 p.2)))
      have HXB := Lib.hid hxb
      have HYB := Lib.hid hyb
      have HBW := Lib.hid (HB.out.trans (hbW.mono HB.out.size))
      have HNE := Lib.hid (fun (h : x ≠ y) (e : ra = rb) => by
        have h9 := HX.out.1
        rw [e, HX.out.2] at h9
        exact h (Option.some.inj h9).symm)
      clear hx hy hg1 hg2 hr1 hr2 hm1 hm2 he1 he2 hb1 hbW hxb hyb
      have HSZ := Lib.hid (show ∀ o : Obj, (wr.alloc o).heap.size = wr.heap.size + 1 from fun o => by simp)
      have HN2 := Lib.hid (show ∀ X Y : Obj, ((wr.alloc X).alloc Y).heap[wr.heap.size + 1]? = some Y from fun X Y => by rw [← HSZ.out X]; exact heap_alloc_new _ _)
      have HSR := Lib.hid (show ∀ (X : Obj) (c d : Array Value) (t : TypeId) , ((wr.alloc X).alloc (.cells c t)).setRow (wr.heap.size + 1) d = (wr.alloc X).alloc (.cells d t) from fun X c d t => by rw [← HSZ.out X]; exact World.setRow_alloc_new _ _ _ _)
      go_upto_region 8 with (first | (refine wpList_val (by rfl) (exec_load_midB 44 _ rfl g1 (o1 + k * 7) rfl c1 44 (0, 0) HG1.out (rowCells x (.slice m1 x.fields.length n1)) HE1.out (by kernel_rfl)) ?_) | (refine wpList_val (by rfl) (exec_load_midB 44 _ rfl g2 (o2 + k * 7) rfl c2 44 (0, 0) HG2.out (rowCells y (.slice m2 y.fields.length n2)) HE2.out (by kernel_rfl)) ?_) | (refine wpList_store_row rfl _ _ _ rfl _ _ rfl rfl _ _ (heap_alloc_new _ _) ?_ ?_ ?_ ?_; kernel_rfl; rfl; kernel_rfl; rw [World.setRow_alloc_new]) | (refine wpList_store_row rfl _ _ _ rfl _ _ rfl rfl _ _ (HN2.out _ _) ?_ ?_ ?_ ?_; kernel_rfl; rfl; kernel_rfl; rw [HSR.out]))
      change Code.wp _ _ _ _ ((wr.alloc (.cells #[.int .i64 x.cls, .int .i64 x.size, .int .i64 x.sign, .int .i64 x.ptr, .int .i64 x.elem, .int .i64 x.count, .slice m1 x.fields.length n1] 44)).alloc (.cells #[.int .i64 y.cls, .int .i64 y.size, .int .i64 y.sign, .int .i64 y.ptr, .int .i64 y.elem, .int .i64 y.count, .slice m2 y.fields.length n2] 44))
      rw [← hW]
      clear hW HG1 HG2 HE1 HE2
      have k0 : W.cell? ⟨wr.heap.size, 0, none⟩ = some (.int .i64 x.cls) := by rw [cell_of_row _ _ _ _ _ _ HXB.out]; rfl
      have k1 : W.cell? ⟨wr.heap.size, 1, none⟩ = some (.int .i64 x.size) := by rw [cell_of_row _ _ _ _ _ _ HXB.out]; rfl
      have k2 : W.cell? ⟨wr.heap.size, 2, none⟩ = some (.int .i64 x.sign) := by rw [cell_of_row _ _ _ _ _ _ HXB.out]; rfl
      have k3 : W.cell? ⟨wr.heap.size, 3, none⟩ = some (.int .i64 x.ptr) := by rw [cell_of_row _ _ _ _ _ _ HXB.out]; rfl
      have k4 : W.cell? ⟨wr.heap.size, 4, none⟩ = some (.int .i64 x.elem) := by rw [cell_of_row _ _ _ _ _ _ HXB.out]; rfl
      have k5 : W.cell? ⟨wr.heap.size, 5, none⟩ = some (.int .i64 x.count) := by rw [cell_of_row _ _ _ _ _ _ HXB.out]; rfl
      have k6 : W.cell? ⟨wr.heap.size, 6, none⟩ = some (.slice m1 x.fields.length n1) := by rw [cell_of_row _ _ _ _ _ _ HXB.out]; rfl
      have q0 : W.cell? ⟨wr.heap.size + 1, 0, none⟩ = some (.int .i64 y.cls) := by rw [cell_of_row _ _ _ _ _ _ HYB.out]; rfl
      by_cases h0 : x.cls = y.cls
      rotate_left
      · have b0 : (x.cls != y.cls) = true := by simpa using h0
        have HN := Lib.hid (HNE.out (fun e => h0 (by rw [e])))
        clear h0
        go_wp2_with fail
        go_ret
        exact ⟨false, rfl, HBW.out, ⟨fun h => (by cases h), fun h => absurd h HN.out⟩⟩
      rw [← h0] at q0
      have J0 := Lib.hid h0
      clear h0
      have q1 : W.cell? ⟨wr.heap.size + 1, 1, none⟩ = some (.int .i64 y.size) := by rw [cell_of_row _ _ _ _ _ _ HYB.out]; rfl
      by_cases h1 : x.size = y.size
      rotate_left
      · have b1 : (x.size != y.size) = true := by simpa using h1
        have HN := Lib.hid (HNE.out (fun e => h1 (by rw [e])))
        clear h1
        go_wp2_with fail
        go_ret
        exact ⟨false, rfl, HBW.out, ⟨fun h => (by cases h), fun h => absurd h HN.out⟩⟩
      rw [← h1] at q1
      have J1 := Lib.hid h1
      clear h1
      have q2 : W.cell? ⟨wr.heap.size + 1, 2, none⟩ = some (.int .i64 y.sign) := by rw [cell_of_row _ _ _ _ _ _ HYB.out]; rfl
      by_cases h2 : x.sign = y.sign
      rotate_left
      · have b2 : (x.sign != y.sign) = true := by simpa using h2
        have HN := Lib.hid (HNE.out (fun e => h2 (by rw [e])))
        clear h2
        go_wp2_with fail
        go_ret
        exact ⟨false, rfl, HBW.out, ⟨fun h => (by cases h), fun h => absurd h HN.out⟩⟩
      rw [← h2] at q2
      have J2 := Lib.hid h2
      clear h2
      have q3 : W.cell? ⟨wr.heap.size + 1, 3, none⟩ = some (.int .i64 y.ptr) := by rw [cell_of_row _ _ _ _ _ _ HYB.out]; rfl
      by_cases h3 : x.ptr = y.ptr
      rotate_left
      · have b3 : (x.ptr != y.ptr) = true := by simpa using h3
        have HN := Lib.hid (HNE.out (fun e => h3 (by rw [e])))
        clear h3
        go_wp2_with fail
        go_ret
        exact ⟨false, rfl, HBW.out, ⟨fun h => (by cases h), fun h => absurd h HN.out⟩⟩
      rw [← h3] at q3
      have J3 := Lib.hid h3
      clear h3
      have q4 : W.cell? ⟨wr.heap.size + 1, 4, none⟩ = some (.int .i64 y.elem) := by rw [cell_of_row _ _ _ _ _ _ HYB.out]; rfl
      by_cases h4 : x.elem = y.elem
      rotate_left
      · have b4 : (x.elem != y.elem) = true := by simpa using h4
        have HN := Lib.hid (HNE.out (fun e => h4 (by rw [e])))
        clear h4
        go_wp2_with fail
        go_ret
        exact ⟨false, rfl, HBW.out, ⟨fun h => (by cases h), fun h => absurd h HN.out⟩⟩
      rw [← h4] at q4
      have J4 := Lib.hid h4
      clear h4
      have q5 : W.cell? ⟨wr.heap.size + 1, 5, none⟩ = some (.int .i64 y.count) := by rw [cell_of_row _ _ _ _ _ _ HYB.out]; rfl
      by_cases h5 : x.count = y.count
      rotate_left
      · have b5 : (x.count != y.count) = true := by simpa using h5
        have HN := Lib.hid (HNE.out (fun e => h5 (by rw [e])))
        clear h5
        go_wp2_with fail
        go_ret
        exact ⟨false, rfl, HBW.out, ⟨fun h => (by cases h), fun h => absurd h HN.out⟩⟩
      rw [← h5] at q5
      have J5 := Lib.hid h5
      clear h5
      have q6 : W.cell? ⟨wr.heap.size + 1, 6, none⟩ = some (.slice m2 y.fields.length n2) := by rw [cell_of_row _ _ _ _ _ _ HYB.out]; rfl
      by_cases h6 : x.fields.length = y.fields.length
      rotate_left
      · have b6 : ((x.fields.length : Int) != (y.fields.length : Int)) = true := by simp; omega
        have b6' : ¬ (x.fields.length = y.fields.length) := h6
        have HN := Lib.hid (HNE.out (fun e => h6 (by rw [e])))
        clear h6
        go_wp2_with fail
        go_ret
        exact ⟨false, rfl, HBW.out, ⟨fun h => (by cases h), fun h => absurd h HN.out⟩⟩
      rw [← h6] at q6
      have J6 := Lib.hid h6
      clear h6
      go_upto_block 2 with fail
      obtain ⟨bx, hbx⟩ : ∃ bx, bx = wr.heap.size := ⟨_, rfl⟩
      rw [← hbx] at HXB HYB ⊢
      have HBX := Lib.hid hbx
      clear k0 k1 k2 k3 k4 k5 k6 q0 q1 q2 q3 q4 q5 q6 hbx
      go_wp2_with fail
      go_loopw [8] (fun s8 wx => ∃ i : Nat, i ≤ x.fields.length ∧ s8 = .int .i64 i ∧ Hid (∀ j, j < i → x.fields[j]? = y.fields[j]?) ∧ Hid (Turn (fun _ => False) W wx)) (fun s8 _ => x.fields.length - (intOf s8).toNat)
      case atStart => exact ⟨0, Nat.zero_le _, rfl, Lib.hid (fun j hj => absurd hj (by omega)), Lib.hid (Turn.refl _ _)⟩
      case round =>
        obtain ⟨i, hi, rfl, HEI, HT⟩ := hrel
        have k6 : wr.cell? ⟨bx, 6, none⟩ = some (.slice m1 x.fields.length n1) := by rw [cell_of_row _ _ _ _ _ _ (HT.out.heap HXB.out (fun h => h))]; rfl
        by_cases hil : i < x.fields.length
        · obtain ⟨ga, oa, cma, Ta, rfl, hga, hma⟩ := HM1.out (by omega)
          obtain ⟨gb, ob, cmb, Tb, rfl, hgb, hmb⟩ := HM2.out (by rw [← J6.out]; omega)
          obtain ⟨p, hp⟩ : ∃ p, x.fields[i]? = some p := ⟨x.fields[i], by simp [hil]⟩
          obtain ⟨q, hq⟩ : ∃ q, y.fields[i]? = some q := ⟨y.fields[i]'(by rw [← J6.out]; exact hil), by simp⟩
          obtain ⟨p1, p2⟩ := p
          obtain ⟨q1, q2⟩ := q
          have hpp := hma i _ hp
          have hqq := hmb i _ hq
          have HEA := Lib.hid (ext_at (c := cma) (o := oa + i * 2) (L := [.int .i64 p1, .int .i64 p2]) (fun j hj => by
            match j, hj with
            | 0, _ => exact hpp.1
            | 1, _ => rw [Nat.add_assoc]; exact hpp.2))
          have HEB := Lib.hid (ext_at (c := cmb) (o := ob + i * 2) (L := [.int .i64 q1, .int .i64 q2]) (fun j hj => by
            match j, hj with
            | 0, _ => exact hqq.1
            | 1, _ => rw [Nat.add_assoc]; exact hqq.2))
          have HGA := Lib.hid hga
          have HGB := Lib.hid hgb
          have HPQ := Lib.hid (And.intro hp hq)
          have hyl : i < y.fields.length := by rw [← J6.out]; exact hil
          clear hga hgb hma hmb hp hq hpp hqq
          go_upto_region 13 with fail

          by_cases hpq : p1 = q1 ∧ p2 = q2
          · obtain ⟨hq1, hq2⟩ := hpq
            subst hq1 hq2
            refine wp_region_relyT [] 11 (factOf [isV ((.pointer (some ⟨bx, 6, none⟩))), isV ((.slice (some ⟨ga, oa, none⟩) x.fields.length n1)), isV ((.int .i64 (i : Int))), isV ((.pointer (some ⟨ga, oa + i * 2, none⟩))), isV ((.agg #[.int .i64 p1, .int .i64 p2])), isV ((.pointer (some ⟨bx + 1, 6, none⟩))), isV ((.slice (some ⟨gb, ob, none⟩) y.fields.length n2)), isV ((.int .i64 (i : Int))), isV ((.pointer (some ⟨gb, ob + i * 2, none⟩))), isV ((.agg #[.int .i64 p1, .int .i64 p2])), isV ((.bool false))]) (nth [[0], [1], [2], [3], [4], [5], [6], [7], [8], [9], [10]]) (nth [[], [], [], [], [], [], [], [], [], [], []]) (nth [[], [0], [], [1, 2], [3], [], [5], [], [6, 7], [8], [4, 9]]) [10] (fun w5 => Turn (fun _ => False) W w5) (by kernel_rfl) (by kernel_rfl) (HT.out.drew) (fun w w' h hb => h.trans (Turn.ofBelow (bs := fun _ => False) hb) (fun _ _ h => h.elim)) (GrowsAll.of ((GrowsAll.cons (Grows.isV _)  (GrowsAll.cons (Grows.isV _)  (GrowsAll.cons (Grows.isV _)  (GrowsAll.cons (Grows.isV _)  (GrowsAll.cons (Grows.isV _)  (GrowsAll.cons (Grows.isV _)  (GrowsAll.cons (Grows.isV _)  (GrowsAll.cons (Grows.isV _)  (GrowsAll.cons (Grows.isV _)  (GrowsAll.cons (Grows.isV _)  (GrowsAll.cons (Grows.isV _) GrowsAll.nil))))))))))))) (fun f F hF => ?_)
            simp only [List.take_succ_cons, List.take_zero, fullGo, Act.put, List.setIfInBounds_toArray, List.set_cons_zero, List.set_cons_succ, Nat.reduceAdd] at hF
            subst hF
            refine ⟨StepObsF.cons ?_ (StepObsF.cons ?_ (StepObsF.cons ?_ (StepObsF.cons ?_ (StepObsF.cons ?_ (StepObsF.cons ?_ (StepObsF.cons ?_ (StepObsF.cons ?_ (StepObsF.cons ?_ (StepObsF.cons ?_ (StepObsF.cons ?_ (StepObsF.nil))))))))))), ?_⟩
            · intro w5 hS hF hD K hK
              rw [if_pos (by rfl)]
              refine wp_of_quiet (v := (.pointer (some ⟨bx, 6, none⟩))) (by (show _ = _); kernel_rfl) (hK.out _ _ rfl (After.lit rfl rfl rfl ?_))
              first | rfl | kernel_rfl
            · intro w5 hS hF hD K hK
              obtain ⟨e0, -⟩ := hF
              replace e0 : f 0 = _ := e0
              try simp only [e0]
              rw [if_pos (by rfl)]
              exact wp_of_quiet (exec_load_at _ _ rfl _ _ rfl _ _ _ (hS.heap HXB.out (fun h => h)) ((.slice (some ⟨ga, oa, none⟩) x.fields.length n1)) (by kernel_rfl) (fun _ => by kernel_rfl)) (hK.out _ _ rfl (After.lit rfl rfl rfl (by first | rfl | kernel_rfl)))
            · intro w5 hS hF hD K hK
              rw [if_pos (by rfl)]
              refine wp_of_quiet (v := (.int .i64 (i : Int))) (by (show _ = _); kernel_rfl) (hK.out _ _ rfl (After.lit rfl rfl rfl ?_))
              first | rfl | kernel_rfl
            · intro w5 hS hF hD K hK
              obtain ⟨e1, e2, -⟩ := hF
              replace e1 : f 1 = _ := e1
              replace e2 : f 2 = _ := e2
              try simp only [e1, e2]
              rw [if_pos (by rfl)]
              go_simp
              refine hK.out _ _ rfl (After.lit rfl rfl rfl ?_)
              first | rfl | kernel_rfl
            · intro w5 hS hF hD K hK
              obtain ⟨e3, -⟩ := hF
              replace e3 : f 3 = _ := e3
              try simp only [e3]
              rw [if_pos (by rfl)]
              exact wp_of_quiet (exec_load_midB _ _ rfl _ _ rfl _ _ _ (hS.heap HGA.out (fun h => h)) [.int .i64 p1, .int .i64 p2] HEA.out (by kernel_rfl)) (hK.out _ _ rfl (After.lit rfl rfl rfl (by first | rfl | kernel_rfl)))
            · intro w5 hS hF hD K hK
              rw [if_pos (by rfl)]
              refine wp_of_quiet (v := (.pointer (some ⟨bx + 1, 6, none⟩))) (by (show _ = _); kernel_rfl) (hK.out _ _ rfl (After.lit rfl rfl rfl ?_))
              first | rfl | kernel_rfl
            · intro w5 hS hF hD K hK
              obtain ⟨e5, -⟩ := hF
              replace e5 : f 5 = _ := e5
              try simp only [e5]
              rw [if_pos (by rfl)]
              exact wp_of_quiet (exec_load_at _ _ rfl _ _ rfl _ _ _ (hS.heap HYB.out (fun h => h)) ((.slice (some ⟨gb, ob, none⟩) y.fields.length n2)) (by kernel_rfl) (fun _ => by kernel_rfl)) (hK.out _ _ rfl (After.lit rfl rfl rfl (by first | rfl | kernel_rfl)))
            · intro w5 hS hF hD K hK
              rw [if_pos (by rfl)]
              refine wp_of_quiet (v := (.int .i64 (i : Int))) (by (show _ = _); kernel_rfl) (hK.out _ _ rfl (After.lit rfl rfl rfl ?_))
              first | rfl | kernel_rfl
            · intro w5 hS hF hD K hK
              obtain ⟨e6, e7, -⟩ := hF
              replace e6 : f 6 = _ := e6
              replace e7 : f 7 = _ := e7
              try simp only [e6, e7]
              rw [if_pos (by rfl)]
              go_simp
              refine hK.out _ _ rfl (After.lit rfl rfl rfl ?_)
              first | rfl | kernel_rfl
            · intro w5 hS hF hD K hK
              obtain ⟨e8, -⟩ := hF
              replace e8 : f 8 = _ := e8
              try simp only [e8]
              rw [if_pos (by rfl)]
              exact wp_of_quiet (exec_load_midB _ _ rfl _ _ rfl _ _ _ (hS.heap HGB.out (fun h => h)) [.int .i64 p1, .int .i64 p2] HEB.out (by kernel_rfl)) (hK.out _ _ rfl (After.lit rfl rfl rfl (by first | rfl | kernel_rfl)))
            · intro w5 hS hF hD K hK
              obtain ⟨e4, e9, -⟩ := hF
              replace e4 : f 4 = _ := e4
              replace e9 : f 9 = _ := e9
              try simp only [e4, e9]
              rw [if_pos (by rfl)]
              go_simp
              refine hK.out _ _ rfl (After.lit rfl rfl rfl ?_)
              first | rfl | kernel_rfl
            intro w5 hS hF
            obtain ⟨e10, -⟩ := hF
            replace e10 : f 10 = _ := e10
            try simp only [e10]
            simp only [List.drop_succ_cons, List.drop_zero]
            have HS := Lib.hid hS
            clear hS
            go_wp2_with fail
            exact ⟨⟨i + 1, by omega, by go_num, Lib.hid (fun j hj => by
              by_cases e : j = i
              · subst e; rw [HPQ.out.1, HPQ.out.2]
              · exact HEI.out j (by omega)), HS⟩, by simp [intOf]; omega⟩
          · have bpq : (p1 == q1 && p2 == q2) = false := by rw [Bool.and_eq_false_iff]; rcases Decidable.not_and_iff_or_not.1 hpq with h | h; exact .inl (by simpa using h); exact .inr (by simpa using h)
            have hpq2 : p1 = q1 → ¬ p2 = q2 := fun h1 h2 => hpq ⟨h1, h2⟩
            refine wp_region_relyT [] 11 (factOf [isV ((.pointer (some ⟨bx, 6, none⟩))), isV ((.slice (some ⟨ga, oa, none⟩) x.fields.length n1)), isV ((.int .i64 (i : Int))), isV ((.pointer (some ⟨ga, oa + i * 2, none⟩))), isV ((.agg #[.int .i64 p1, .int .i64 p2])), isV ((.pointer (some ⟨bx + 1, 6, none⟩))), isV ((.slice (some ⟨gb, ob, none⟩) y.fields.length n2)), isV ((.int .i64 (i : Int))), isV ((.pointer (some ⟨gb, ob + i * 2, none⟩))), isV ((.agg #[.int .i64 q1, .int .i64 q2])), isV ((.bool true))]) (nth [[0], [1], [2], [3], [4], [5], [6], [7], [8], [9], [10]]) (nth [[], [], [], [], [], [], [], [], [], [], []]) (nth [[], [0], [], [1, 2], [3], [], [5], [], [6, 7], [8], [4, 9]]) [10] (fun w5 => Turn (fun _ => False) W w5) (by kernel_rfl) (by kernel_rfl) (HT.out.drew) (fun w w' h hb => h.trans (Turn.ofBelow (bs := fun _ => False) hb) (fun _ _ h => h.elim)) (GrowsAll.of ((GrowsAll.cons (Grows.isV _)  (GrowsAll.cons (Grows.isV _)  (GrowsAll.cons (Grows.isV _)  (GrowsAll.cons (Grows.isV _)  (GrowsAll.cons (Grows.isV _)  (GrowsAll.cons (Grows.isV _)  (GrowsAll.cons (Grows.isV _)  (GrowsAll.cons (Grows.isV _)  (GrowsAll.cons (Grows.isV _)  (GrowsAll.cons (Grows.isV _)  (GrowsAll.cons (Grows.isV _) GrowsAll.nil))))))))))))) (fun f F hF => ?_)
            simp only [List.take_succ_cons, List.take_zero, fullGo, Act.put, List.setIfInBounds_toArray, List.set_cons_zero, List.set_cons_succ, Nat.reduceAdd] at hF
            subst hF
            refine ⟨StepObsF.cons ?_ (StepObsF.cons ?_ (StepObsF.cons ?_ (StepObsF.cons ?_ (StepObsF.cons ?_ (StepObsF.cons ?_ (StepObsF.cons ?_ (StepObsF.cons ?_ (StepObsF.cons ?_ (StepObsF.cons ?_ (StepObsF.cons ?_ (StepObsF.nil))))))))))), ?_⟩
            · intro w5 hS hF hD K hK
              rw [if_pos (by rfl)]
              refine wp_of_quiet (v := (.pointer (some ⟨bx, 6, none⟩))) (by (show _ = _); kernel_rfl) (hK.out _ _ rfl (After.lit rfl rfl rfl ?_))
              first | rfl | kernel_rfl
            · intro w5 hS hF hD K hK
              obtain ⟨e0, -⟩ := hF
              replace e0 : f 0 = _ := e0
              try simp only [e0]
              rw [if_pos (by rfl)]
              exact wp_of_quiet (exec_load_at _ _ rfl _ _ rfl _ _ _ (hS.heap HXB.out (fun h => h)) ((.slice (some ⟨ga, oa, none⟩) x.fields.length n1)) (by kernel_rfl) (fun _ => by kernel_rfl)) (hK.out _ _ rfl (After.lit rfl rfl rfl (by first | rfl | kernel_rfl)))
            · intro w5 hS hF hD K hK
              rw [if_pos (by rfl)]
              refine wp_of_quiet (v := (.int .i64 (i : Int))) (by (show _ = _); kernel_rfl) (hK.out _ _ rfl (After.lit rfl rfl rfl ?_))
              first | rfl | kernel_rfl
            · intro w5 hS hF hD K hK
              obtain ⟨e1, e2, -⟩ := hF
              replace e1 : f 1 = _ := e1
              replace e2 : f 2 = _ := e2
              try simp only [e1, e2]
              rw [if_pos (by rfl)]
              go_simp
              refine hK.out _ _ rfl (After.lit rfl rfl rfl ?_)
              first | rfl | kernel_rfl
            · intro w5 hS hF hD K hK
              obtain ⟨e3, -⟩ := hF
              replace e3 : f 3 = _ := e3
              try simp only [e3]
              rw [if_pos (by rfl)]
              exact wp_of_quiet (exec_load_midB _ _ rfl _ _ rfl _ _ _ (hS.heap HGA.out (fun h => h)) [.int .i64 p1, .int .i64 p2] HEA.out (by kernel_rfl)) (hK.out _ _ rfl (After.lit rfl rfl rfl (by first | rfl | kernel_rfl)))
            · intro w5 hS hF hD K hK
              rw [if_pos (by rfl)]
              refine wp_of_quiet (v := (.pointer (some ⟨bx + 1, 6, none⟩))) (by (show _ = _); kernel_rfl) (hK.out _ _ rfl (After.lit rfl rfl rfl ?_))
              first | rfl | kernel_rfl
            · intro w5 hS hF hD K hK
              obtain ⟨e5, -⟩ := hF
              replace e5 : f 5 = _ := e5
              try simp only [e5]
              rw [if_pos (by rfl)]
              exact wp_of_quiet (exec_load_at _ _ rfl _ _ rfl _ _ _ (hS.heap HYB.out (fun h => h)) ((.slice (some ⟨gb, ob, none⟩) y.fields.length n2)) (by kernel_rfl) (fun _ => by kernel_rfl)) (hK.out _ _ rfl (After.lit rfl rfl rfl (by first | rfl | kernel_rfl)))
            · intro w5 hS hF hD K hK
              rw [if_pos (by rfl)]
              refine wp_of_quiet (v := (.int .i64 (i : Int))) (by (show _ = _); kernel_rfl) (hK.out _ _ rfl (After.lit rfl rfl rfl ?_))
              first | rfl | kernel_rfl
            · intro w5 hS hF hD K hK
              obtain ⟨e6, e7, -⟩ := hF
              replace e6 : f 6 = _ := e6
              replace e7 : f 7 = _ := e7
              try simp only [e6, e7]
              rw [if_pos (by rfl)]
              go_simp
              refine hK.out _ _ rfl (After.lit rfl rfl rfl ?_)
              first | rfl | kernel_rfl
            · intro w5 hS hF hD K hK
              obtain ⟨e8, -⟩ := hF
              replace e8 : f 8 = _ := e8
              try simp only [e8]
              rw [if_pos (by rfl)]
              exact wp_of_quiet (exec_load_midB _ _ rfl _ _ rfl _ _ _ (hS.heap HGB.out (fun h => h)) [.int .i64 q1, .int .i64 q2] HEB.out (by kernel_rfl)) (hK.out _ _ rfl (After.lit rfl rfl rfl (by first | rfl | kernel_rfl)))
            · intro w5 hS hF hD K hK
              obtain ⟨e4, e9, -⟩ := hF
              replace e4 : f 4 = _ := e4
              replace e9 : f 9 = _ := e9
              try simp only [e4, e9]
              rw [if_pos (by rfl)]
              go_simp; by_cases g1 : p1 = q1; (focus (rw [if_pos g1, if_neg (hpq2 g1)]; go_simp; refine hK.out _ _ rfl (After.lit rfl rfl rfl ?_); first | rfl | kernel_rfl)); rw [if_neg g1]; go_simp; refine hK.out _ _ rfl (After.lit rfl rfl rfl ?_); first | rfl | kernel_rfl
            intro w5 hS hF
            obtain ⟨e10, -⟩ := hF
            replace e10 : f 10 = _ := e10
            try simp only [e10]
            simp only [List.drop_succ_cons, List.drop_zero]
            have HBS := Lib.hid (HBW.out.trans (hS.toBelow HBW.out.size (fun _ h => h.elim)))
            clear hS
            have HN := Lib.hid (HNE.out (fun e => by
              have h9 := HPQ.out.1
              rw [e, HPQ.out.2] at h9
              have h8 := Option.some.inj h9
              exact hpq ⟨(congrArg Prod.fst h8).symm, (congrArg Prod.snd h8).symm⟩))
            go_wp2_with fail
            go_ret
            exact ⟨false, rfl, HBS.out, ⟨fun h => (by cases h), fun h => absurd h HN.out⟩⟩
        · have hin : i = x.fields.length := by omega
          subst hin
          go_wp2_with fail
          have hfe : x.fields = y.fields := List.ext_getElem? fun j => by
            rcases Nat.lt_or_ge j x.fields.length with h | h
            · exact HEI.out j h
            · rw [List.getElem?_eq_none h, List.getElem?_eq_none (by rw [← J6.out]; exact h)]
          have hxy : x = y := by
            have h0 := J0.out; have h1 := J1.out; have h2 := J2.out; have h3 := J3.out; have h4 := J4.out; have h5 := J5.out
            cases x; cases y; simp_all
          exact ⟨⟨k + 1, by omega, by go_num, Lib.hid (fun j hj => by
            by_cases e : j = k
            · subst e; rw [HX.out.1, HX.out.2, hxy]
            · exact HEQ.out j (by omega)), Lib.hid (HBW.out.trans (HT.out.toBelow HBW.out.size (fun _ h => h.elim)))⟩, by simp [intOf]; omega⟩
    · have hkn : k = ra.length := by omega
      subst hkn
      go_wp2_with fail
      go_ret
      exact ⟨true, rfl, HB.out, ⟨fun _ => List.ext_getElem? fun j => by
        rcases Nat.lt_or_ge j ra.length with h | h
        · exact HEQ.out j h
        · rw [List.getElem?_eq_none h, List.getElem?_eq_none (by rw [← HL.out]; exact h)], fun _ => rfl⟩⟩
end Go.Proofs.YtepmgnhblegiiaaDoor
