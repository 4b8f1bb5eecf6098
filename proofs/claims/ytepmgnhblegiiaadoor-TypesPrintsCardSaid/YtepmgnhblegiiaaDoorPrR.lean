/- Print of the reference. Condition: the table of powers of ten reads as the text lays it; the numbers are no int's least. -/
import Derived.Test.YtepmgnhblegiiaaDoorPrP
set_option linter.all false
namespace Go.Proofs.YtepmgnhblegiiaaDoor
open Go Go.RowKit Go.Maps

set_option maxRecDepth 100000 in
set_option maxHeartbeats 2000000 in
theorem rprint_any (rows : List Row) (v : Value) (w : World) (i : Int) (hi : n64 i) (h : RowsV w v rows) (hN : ∀ r ∈ rows, RowN r) (hl : rows.length ≤ 100000) :
    Calls Tryd.prog 24 #[v, .int .i64 i] w fun e w' => e = .returned (.string (strB (printB rows i))) ∧ Below w.heap.size w w' := by
  unfold n64 at hi
  obtain ⟨ao, cap, rfl, hcap, h⟩ := h
  have H := Lib.hid h
  have HN := Lib.hid hN
  clear h hN
  by_cases h0 : i < 0
  · have HI := Lib.hid h0
    go_enter Tryd.func24, Tryd.ntmps24
    go_wp2_with fail
    go_ret
    exact ⟨by unfold printB; rw [if_pos HI.out]; rfl, Below.refl _ _⟩
  obtain ⟨k, rfl⟩ := Int.eq_ofNat_of_zero_le (show 0 ≤ i by omega)
  by_cases hk : k < rows.length
  rotate_left
  · go_enter Tryd.func24, Tryd.ntmps24
    go_wp2_with fail
    go_ret
    refine ⟨?_, Below.refl _ _⟩
    unfold printB
    rw [if_neg (by omega)]
    simp only [Int.toNat_natCast]
    rw [List.getElem?_eq_none (by omega)]; rfl
  obtain ⟨r, hr⟩ : ∃ r, rows[k]? = some r := ⟨rows[k], by simp [hk]⟩
  obtain ⟨g, off, c, rfl, hg, hc⟩ := H.out (by omega)
  obtain ⟨fv, hmv, hml, hcells⟩ := hc k r hr
  have HRN := Lib.hid (HN.out r (List.mem_of_getElem? hr))
  have HPB := Lib.hid (show printB rows (k : Int) = rowT r by unfold printB; rw [if_neg (by omega), Int.toNat_natCast, hr])
  have HEX := Lib.hid (ext_at (L := rowCells r fv) hcells)
  have HG := Lib.hid hg
  obtain ⟨am, capm, hfv, hmc⟩ := hmv
  subst hfv
  have HMC := Lib.hid hmc
  clear hr hg hc hcells hmc H HN h0 hi
  go_enter Tryd.func24, Tryd.ntmps24
  go_upto_region 4 with (first | (refine wpList_val (by rfl) (exec_load_midB 44 _ rfl g (off + k * 7) rfl c 44 (0, 0) HG.out (rowCells r (.slice am r.fields.length capm)) HEX.out (by kernel_rfl)) ?_) | (refine wpList_store_row rfl _ _ _ rfl _ _ rfl rfl _ _ (heap_alloc_new _ _) ?_ ?_ ?_ ?_; kernel_rfl; rfl; kernel_rfl; rw [World.setRow_alloc_new]))
  obtain ⟨W, hW⟩ : ∃ W, W = w.alloc (.cells (rowCells r (.slice am r.fields.length capm)).toArray 44) := ⟨_, rfl⟩
  have hbx : W.heap[w.heap.size]? = some (.cells #[.int .i64 r.cls, .int .i64 r.size, .int .i64 r.sign, .int .i64 r.ptr, .int .i64 r.elem, .int .i64 r.count, .slice am r.fields.length capm] 44 (0, 0)) := by rw [hW]; exact heap_alloc_new _ _
  have hbl : Below w.heap.size w W := by rw [hW]; exact (Below.refl _ _).alloc (Nat.le_refl _) _
  change Code.wp _ _ _ _ (w.alloc (.cells (rowCells r (.slice am r.fields.length capm)).toArray 44))
  rw [← hW]
  have HW := Lib.hid hW
  have HBX := Lib.hid hbx
  have HBL := Lib.hid hbl
  have k3 : W.cell? ⟨w.heap.size, 3, none⟩ = some (.int .i64 r.ptr) := by rw [cell_of_row _ _ _ _ _ _ hbx]; rfl
  have k6 : W.cell? ⟨w.heap.size, 6, none⟩ = some (.slice am r.fields.length capm) := by rw [cell_of_row _ _ _ _ _ _ hbx]; rfl
  have k4 : W.cell? ⟨w.heap.size, 4, none⟩ = some (.int .i64 r.elem) := by rw [cell_of_row _ _ _ _ _ _ hbx]; rfl
  have k2 : W.cell? ⟨w.heap.size, 2, none⟩ = some (.int .i64 r.sign) := by rw [cell_of_row _ _ _ _ _ _ hbx]; rfl
  have hszz : ∀ x y : ByteArray, (x ++ y).size = x.size + y.size := fun _ _ => ByteArray.size_append
  clear hW hbx hbl HEX
  by_cases hp : r.ptr = -1
  rotate_left
  · have ep : (r.ptr != -1) = true := by simpa using hp
    have HI := Lib.hid (fun W => rdecimal_any r.ptr HRN.out.ptr W)
    have hsl := itoa_len _ HRN.out.ptr
    obtain ⟨s, hs⟩ : ∃ s, strB (Lib.itoa r.ptr) = s := ⟨_, rfl⟩
    have hz : s.size ≤ 21 := by rw [← hs, strB_size]; exact hsl
    rw [hs] at HI
    have HS := Lib.hid hs
    have HP := Lib.hid hp
    clear hs hsl hp
    go_wp2_with (go_at_call 34; refine (HI.out _).mono ?_; rintro e w1 ⟨rfl, hb1⟩)
    go_ret
    refine ⟨?_, HBL.out.trans (hb1.mono HBL.out.size)⟩
    rw [HPB.out, rowT, if_pos HP.out, ← strB_app, HS.out]; rfl
  · have ep : (r.ptr != -1) = false := by simpa using hp
    have HP := Lib.hid hp
    clear hp
    go_upto_block 0 with fail
    go_cut [6] (fun s7 wx => ∃ s, s7 = .string s ∧ s = strB (bodyB r) ∧ s.size ≤ 4000000 ∧ Hid (Turn (fun _ => False) W wx))
    case first =>
      by_cases hf : r.fields = []
      · have el : r.fields.length = 0 := by rw [hf]; rfl
        rw [el] at k6
        have HF := Lib.hid hf
        clear hf el
        by_cases he : r.elem = -1
        · have ee : (r.elem != -1) = false := by simpa using he
          have HE := Lib.hid he
          clear he
          by_cases hs3 : r.sign = 3
          · have es : (r.sign == 3) = true := by simpa using hs3
            have HS := Lib.hid hs3
            clear hs3
            go_wp2_with fail
            go_meet
            case rel => exact ⟨_, rfl, by unfold bodyB; rw [if_neg (by simp [HF.out]), if_neg (by simp [HE.out]), if_pos HS.out]; rfl, by decide, Lib.hid (Turn.refl _ _)⟩
          by_cases hs4 : r.sign = 4
          · have es : (r.sign == 3) = false := by simpa using hs3
            have es4 : (r.sign == 4) = true := by simpa using hs4
            have HS := Lib.hid (And.intro hs3 hs4)
            clear hs3 hs4
            go_wp2_with fail
            go_meet
            case rel => exact ⟨_, rfl, by unfold bodyB; rw [if_neg (by simp [HF.out]), if_neg (by simp [HE.out]), if_neg HS.out.1, if_pos HS.out.2]; rfl, by decide, Lib.hid (Turn.refl _ _)⟩
          · have es : (r.sign == 3) = false := by simpa using hs3
            have es4 : (r.sign == 4) = false := by simpa using hs4
            have HS := Lib.hid (And.intro hs3 hs4)
            clear hs3 hs4
            go_wp2_with fail
            go_meet
            case rel => exact ⟨_, rfl, by unfold bodyB; rw [if_neg (by simp [HF.out]), if_neg (by simp [HE.out]), if_neg HS.out.1, if_neg HS.out.2]; rfl, by decide, Lib.hid (Turn.refl _ _)⟩
        · have ee : (r.elem != -1) = true := by simpa using he
          have HE := Lib.hid he
          have HI1 := Lib.hid (fun W => rdecimal_any r.count HRN.out.count W)
          have HI2 := Lib.hid (fun W => rdecimal_any r.elem HRN.out.elem W)
          have hl1 := itoa_len _ HRN.out.count
          have hl2 := itoa_len _ HRN.out.elem
          obtain ⟨s1, hs1⟩ : ∃ s, strB (Lib.itoa r.count) = s := ⟨_, rfl⟩
          obtain ⟨s2, hs2⟩ : ∃ s, strB (Lib.itoa r.elem) = s := ⟨_, rfl⟩
          have hz1 : s1.size ≤ 21 := by rw [← hs1, strB_size]; exact hl1
          have hz2 : s2.size ≤ 21 := by rw [← hs2, strB_size]; exact hl2
          rw [hs1] at HI1
          rw [hs2] at HI2
          have HS := Lib.hid (And.intro hs1 hs2)
          clear hs1 hs2 hl1 hl2 he
          go_upto_region 17 with fail
          refine wp_region_relyT [] 9 (factOf [isV ((.pointer (some ⟨w.heap.size, 5, none⟩))), isV ((.int .i64 r.count)), isV ((.string s1)), isV ((.string ((⟨#[91]⟩ : ByteArray) ++ s1))), isV ((.string (((⟨#[91]⟩ : ByteArray) ++ s1) ++ (⟨#[93, 99]⟩ : ByteArray)))), isV ((.pointer (some ⟨w.heap.size, 4, none⟩))), isV ((.int .i64 r.elem)), isV ((.string s2)), isV ((.string ((((⟨#[91]⟩ : ByteArray) ++ s1) ++ (⟨#[93, 99]⟩ : ByteArray)) ++ s2)))]) (nth [[0], [1], [2], [3], [4], [5], [6], [7], [8]]) (nth [[], [], [], [], [], [], [], [], []]) (nth [[], [0], [1], [2], [3], [], [5], [6, 2], [4, 7]]) [8] (fun w5 => Turn (fun _ => False) W w5) (by kernel_rfl) (by kernel_rfl) ((Turn.refl _ _).drew) (fun w w' h hb => h.trans (Turn.ofBelow (bs := fun _ => False) hb) (fun _ _ h => h.elim)) (GrowsAll.of ((GrowsAll.cons (Grows.isV _)  (GrowsAll.cons (Grows.isV _)  (GrowsAll.cons (Grows.isV _)  (GrowsAll.cons (Grows.isV _)  (GrowsAll.cons (Grows.isV _)  (GrowsAll.cons (Grows.isV _)  (GrowsAll.cons (Grows.isV _)  (GrowsAll.cons (Grows.isV _)  (GrowsAll.cons (Grows.isV _) GrowsAll.nil))))))))))) (fun f F hF => ?_)
          simp only [List.take_succ_cons, List.take_zero, fullGo, Act.put, List.setIfInBounds_toArray, List.set_cons_zero, List.set_cons_succ, Nat.reduceAdd] at hF
          subst hF
          refine ⟨StepObsF.cons ?_ (StepObsF.cons ?_ (StepObsF.cons ?_ (StepObsF.cons ?_ (StepObsF.cons ?_ (StepObsF.cons ?_ (StepObsF.cons ?_ (StepObsF.cons ?_ (StepObsF.cons ?_ (StepObsF.nil))))))))), ?_⟩
          · intro w5 hS hF hD K hK
            rw [if_pos (by rfl)]
            refine wp_of_quiet (v := (.pointer (some ⟨w.heap.size, 5, none⟩))) (by (show _ = _); kernel_rfl) (hK.out _ _ rfl (After.lit rfl rfl rfl ?_))
            first | rfl | kernel_rfl
          · intro w5 hS hF hD K hK
            obtain ⟨e0, -⟩ := hF
            replace e0 : f 0 = _ := e0
            try simp only [e0]
            rw [if_pos (by rfl)]
            exact wp_of_quiet (exec_load_at _ _ rfl _ _ rfl _ _ _ (hS.heap HBX.out (fun h => h)) ((.int .i64 r.count)) (by kernel_rfl) (fun _ => by kernel_rfl)) (hK.out _ _ rfl (After.lit rfl rfl rfl (by first | rfl | kernel_rfl)))
          · intro w5 hS hF hD K hK
            obtain ⟨e1, -⟩ := hF
            replace e1 : f 1 = _ := e1
            try simp only [e1]
            rw [if_pos (by rfl)]
            go_simp
            refine (HI1.out _).mono ?_; rintro e w3 ⟨rfl, hbelow⟩; go_simp
            refine hK.out _ _ rfl (After.litB rfl rfl rfl hbelow ?_)
            first | rfl | kernel_rfl
          · intro w5 hS hF hD K hK
            obtain ⟨e2, -⟩ := hF
            replace e2 : f 2 = _ := e2
            try simp only [e2]
            rw [if_pos (by rfl)]
            go_simp
            rw [if_neg (by omega)]
            go_simp
            refine hK.out _ _ rfl (After.lit rfl rfl rfl ?_)
            first | rfl | kernel_rfl
          · intro w5 hS hF hD K hK
            obtain ⟨e3, -⟩ := hF
            replace e3 : f 3 = _ := e3
            try simp only [e3]
            rw [if_pos (by rfl)]
            go_simp
            rw [if_neg (by omega)]
            go_simp
            refine hK.out _ _ rfl (After.lit rfl rfl rfl ?_)
            first | rfl | kernel_rfl
          · intro w5 hS hF hD K hK
            rw [if_pos (by rfl)]
            refine wp_of_quiet (v := (.pointer (some ⟨w.heap.size, 4, none⟩))) (by (show _ = _); kernel_rfl) (hK.out _ _ rfl (After.lit rfl rfl rfl ?_))
            first | rfl | kernel_rfl
          · intro w5 hS hF hD K hK
            obtain ⟨e5, -⟩ := hF
            replace e5 : f 5 = _ := e5
            try simp only [e5]
            rw [if_pos (by rfl)]
            exact wp_of_quiet (exec_load_at _ _ rfl _ _ rfl _ _ _ (hS.heap HBX.out (fun h => h)) ((.int .i64 r.elem)) (by kernel_rfl) (fun _ => by kernel_rfl)) (hK.out _ _ rfl (After.lit rfl rfl rfl (by first | rfl | kernel_rfl)))
          · intro w5 hS hF hD K hK
            obtain ⟨e6, e2, -⟩ := hF
            replace e6 : f 6 = _ := e6
            replace e2 : f 2 = _ := e2
            try simp only [e6, e2]
            rw [if_pos (by rfl)]
            go_simp
            refine (HI2.out _).mono ?_; rintro e w3 ⟨rfl, hbelow⟩; go_simp
            refine hK.out _ _ rfl (After.litB rfl rfl rfl hbelow ?_)
            first | rfl | kernel_rfl
          · intro w5 hS hF hD K hK
            obtain ⟨e4, e7, -⟩ := hF
            replace e4 : f 4 = _ := e4
            replace e7 : f 7 = _ := e7
            try simp only [e4, e7]
            rw [if_pos (by rfl)]
            go_simp
            rw [if_neg (by omega)]
            go_simp
            refine hK.out _ _ rfl (After.lit rfl rfl rfl ?_)
            first | rfl | kernel_rfl
          intro w5 hS hF
          obtain ⟨e8, -⟩ := hF
          replace e8 : f 8 = _ := e8
          try simp only [e8]
          simp only [List.drop_succ_cons, List.drop_zero]
          have HS5 := Lib.hid hS
          clear hS
          go_wp2_with fail
          go_meet
          case rel =>
            refine ⟨_, rfl, ?_, by simp only [hszz]; have e1 : (⟨#[91]⟩ : ByteArray).size = 1 := rfl; have e2 : (⟨#[93, 99]⟩ : ByteArray).size = 2 := rfl; omega, HS5⟩
            unfold bodyB
            rw [if_neg (by simp [HF.out]), if_pos HE.out, ← strB_app, ← strB_app, ← strB_app, HS.out.1, HS.out.2]; rfl
      · have hlen : 0 < r.fields.length := List.length_pos_iff.2 hf
        obtain ⟨gm, om, cm, Tm, rfl, hgm, hcm⟩ := HMC.out hlen
        have HGM := Lib.hid (below_keep HBL.out hgm)
        have HCM := Lib.hid hcm
        have HF := Lib.hid hf
        clear hf hgm hcm
        go_wp2_with fail
        go_loopw [6, 7] (fun s6 s7 wr => ∃ (k : Nat) (s : ByteArray), s6 = .string s ∧ k ≤ r.fields.length ∧ s7 = .int .i64 k ∧ Hid (s = strB ([123] ++ memsB (r.fields.take k))) ∧ s.size ≤ 1 + k * 47 ∧ Hid (Turn (fun _ => False) W wr)) (fun _ s7 _ => r.fields.length - (intOf s7).toNat)
        case atStart => exact ⟨0, _, rfl, Nat.zero_le _, rfl, Lib.hid rfl, by decide, Lib.hid (Turn.refl _ _)⟩
        case round =>
          obtain ⟨k, s, rfl, hk, rfl, HSE, hz9, HT9⟩ := hrel
          have k6 : wr.cell? ⟨w.heap.size, 6, none⟩ = some (.slice (some ⟨gm, om, none⟩) r.fields.length capm) := by rw [cell_of_row _ _ _ _ _ _ (HT9.out.heap HBX.out (fun h => h))]; rfl
          by_cases hlt : k < r.fields.length
          · obtain ⟨p, hp⟩ : ∃ p, r.fields[k]? = some p := ⟨r.fields[k], by simp [hlt]⟩
            have hcc := HCM.out k p hp
            have hpn := HRN.out.flds p (List.mem_of_getElem? hp)
            have HI1 := Lib.hid (fun W => rdecimal_any p.1 hpn.1 W)
            have HI2 := Lib.hid (fun W => rdecimal_any p.2 hpn.2 W)
            have hl1 := itoa_len _ hpn.1
            have hl2 := itoa_len _ hpn.2
            obtain ⟨s1, hs1⟩ : ∃ s, strB (Lib.itoa p.1) = s := ⟨_, rfl⟩
            obtain ⟨s2, hs2⟩ : ∃ s, strB (Lib.itoa p.2) = s := ⟨_, rfl⟩
            have hz3 : s1.size ≤ 21 := by rw [← hs1, strB_size]; exact hl1
            have hz4 : s2.size ≤ 21 := by rw [← hs2, strB_size]; exact hl2
            rw [hs1] at HI1
            rw [hs2] at HI2
            have HS := Lib.hid (And.intro hs1 hs2)
            have HTK := Lib.hid (show r.fields.take (k + 1) = r.fields.take k ++ [p] by rw [List.take_add_one, hp]; simp)
            have HCC := Lib.hid (show cm[om + k * 2]? = some (.int .i64 p.1) ∧ cm[om + k * 2 + 1]? = some (.int .i64 p.2) from ⟨hcc.1, by rw [Nat.add_assoc]; exact hcc.2⟩)
            clear hcc hp hpn hl1 hl2 hs1 hs2
            go_upto_if 40 with fail
            go_cut [6] (fun s6 wx => ∃ s' : ByteArray, s6 = .string s' ∧ Hid (s' ++ strB (memB p) = strB ([123] ++ memsB (r.fields.take (k + 1)))) ∧ s'.size ≤ 3 + k * 47 ∧ wx = wr)
            case first =>
              by_cases hk0 : 0 < k
              · go_wp2_with fail
                go_meet
                case rel =>
                  refine ⟨_, rfl, Lib.hid ?_, by simp only [hszz]; have e1 : (⟨#[44, 32]⟩ : ByteArray).size = 2 := rfl; omega, rfl⟩
                  rw [HTK.out, memsB_snoc, if_neg (by intro h; have h7 := congrArg List.length h; rw [List.length_take] at h7; simp only [List.length_nil] at h7; omega), HSE.out]
                  rw [show (⟨#[44, 32]⟩ : ByteArray) = strB [44, 32] from rfl, strB_app, strB_app]; simp
              · have hkz : k ≤ 0 := by omega
                have HZ := Lib.hid (And.intro (show s.size ≤ 3 + k * 47 by omega) (show r.fields.take k = [] by rw [show k = 0 by omega]; rfl))
                go_wp2_with fail
                go_meet
                case rel =>
                  refine ⟨s, rfl, Lib.hid ?_, HZ.out.1, rfl⟩
                  have e0 := HZ.out.2
                  rw [HTK.out, memsB_snoc, e0, if_pos rfl, HSE.out, e0, strB_app]; rfl
            case rest =>
              obtain ⟨s', rfl, HSP, hz5, hw⟩ := hcut
              subst hw
              go_upto_region 14 with fail
              refine wp_region_relyT [] 18 (factOf [isV ((.string s')), isV ((.pointer (some ⟨w.heap.size, 6, none⟩))), isV ((.slice (some ⟨gm, om, none⟩) r.fields.length capm)), isV ((.int .i64 (k : Int))), isV ((.pointer (some ⟨gm, om + k * 2, none⟩))), isV ((.pointer (some ⟨gm, om + k * 2, none⟩))), isV ((.int .i64 p.1)), isV ((.string s1)), isV ((.string (s' ++ s1))), isV ((.string ((s' ++ s1) ++ (⟨#[58, 32, 99]⟩ : ByteArray)))), isV ((.pointer (some ⟨w.heap.size, 6, none⟩))), isV ((.slice (some ⟨gm, om, none⟩) r.fields.length capm)), isV ((.int .i64 (k : Int))), isV ((.pointer (some ⟨gm, om + k * 2, none⟩))), isV ((.pointer (some ⟨gm, om + k * 2 + 1, none⟩))), isV ((.int .i64 p.2)), isV ((.string s2)), isV ((.string (((s' ++ s1) ++ (⟨#[58, 32, 99]⟩ : ByteArray)) ++ s2)))]) (nth [[0], [1], [2], [3], [4], [5], [6], [7], [8], [9], [10], [11], [12], [13], [14], [15], [16], [17]]) (nth [[], [], [], [], [], [], [], [], [], [], [], [], [], [], [], [], [], []]) (nth [[], [], [1], [], [2, 3], [4], [5], [6], [0, 7], [8], [], [10], [], [11, 12], [13], [14], [15, 7], [9, 16]]) [17] (fun w5 => Turn (fun _ => False) W w5) (by kernel_rfl) (by kernel_rfl) (HT9.out.drew) (fun w w' h hb => h.trans (Turn.ofBelow (bs := fun _ => False) hb) (fun _ _ h => h.elim)) (GrowsAll.of ((GrowsAll.cons (Grows.isV _)  (GrowsAll.cons (Grows.isV _)  (GrowsAll.cons (Grows.isV _)  (GrowsAll.cons (Grows.isV _)  (GrowsAll.cons (Grows.isV _)  (GrowsAll.cons (Grows.isV _)  (GrowsAll.cons (Grows.isV _)  (GrowsAll.cons (Grows.isV _)  (GrowsAll.cons (Grows.isV _)  (GrowsAll.cons (Grows.isV _)  (GrowsAll.cons (Grows.isV _)  (GrowsAll.cons (Grows.isV _)  (GrowsAll.cons (Grows.isV _)  (GrowsAll.cons (Grows.isV _)  (GrowsAll.cons (Grows.isV _)  (GrowsAll.cons (Grows.isV _)  (GrowsAll.cons (Grows.isV _)  (GrowsAll.cons (Grows.isV _) GrowsAll.nil)))))))))))))))))))) (fun f F hF => ?_)
              simp only [List.take_succ_cons, List.take_zero, fullGo, Act.put, List.setIfInBounds_toArray, List.set_cons_zero, List.set_cons_succ, Nat.reduceAdd] at hF
              subst hF
              refine ⟨StepObsF.cons ?_ (StepObsF.cons ?_ (StepObsF.cons ?_ (StepObsF.cons ?_ (StepObsF.cons ?_ (StepObsF.cons ?_ (StepObsF.cons ?_ (StepObsF.cons ?_ (StepObsF.cons ?_ (StepObsF.cons ?_ (StepObsF.cons ?_ (StepObsF.cons ?_ (StepObsF.cons ?_ (StepObsF.cons ?_ (StepObsF.cons ?_ (StepObsF.cons ?_ (StepObsF.cons ?_ (StepObsF.cons ?_ (StepObsF.nil)))))))))))))))))), ?_⟩
              · intro w5 hS hF hD K hK
                rw [if_pos (by rfl)]
                refine wp_of_quiet (v := (.string s')) (by (show _ = _); kernel_rfl) (hK.out _ _ rfl (After.lit rfl rfl rfl ?_))
                first | rfl | kernel_rfl
              · intro w5 hS hF hD K hK
                rw [if_pos (by rfl)]
                refine wp_of_quiet (v := (.pointer (some ⟨w.heap.size, 6, none⟩))) (by (show _ = _); kernel_rfl) (hK.out _ _ rfl (After.lit rfl rfl rfl ?_))
                first | rfl | kernel_rfl
              · intro w5 hS hF hD K hK
                obtain ⟨e1, -⟩ := hF
                replace e1 : f 1 = _ := e1
                try simp only [e1]
                rw [if_pos (by rfl)]
                exact wp_of_quiet (exec_load_at _ _ rfl _ _ rfl _ _ _ (hS.heap HBX.out (fun h => h)) ((.slice (some ⟨gm, om, none⟩) r.fields.length capm)) (by kernel_rfl) (fun _ => by kernel_rfl)) (hK.out _ _ rfl (After.lit rfl rfl rfl (by first | rfl | kernel_rfl)))
              · intro w5 hS hF hD K hK
                rw [if_pos (by rfl)]
                refine wp_of_quiet (v := (.int .i64 (k : Int))) (by (show _ = _); kernel_rfl) (hK.out _ _ rfl (After.lit rfl rfl rfl ?_))
                first | rfl | kernel_rfl
              · intro w5 hS hF hD K hK
                obtain ⟨e2, e3, -⟩ := hF
                replace e2 : f 2 = _ := e2
                replace e3 : f 3 = _ := e3
                try simp only [e2, e3]
                rw [if_pos (by rfl)]
                go_simp
                refine hK.out _ _ rfl (After.lit rfl rfl rfl ?_)
                first | rfl | kernel_rfl
              · intro w5 hS hF hD K hK
                obtain ⟨e4, -⟩ := hF
                replace e4 : f 4 = _ := e4
                try simp only [e4]
                rw [if_pos (by rfl)]
                refine wp_of_quiet (v := (.pointer (some ⟨gm, om + k * 2, none⟩))) (by (show _ = _); kernel_rfl) (hK.out _ _ rfl (After.lit rfl rfl rfl ?_))
                first | rfl | kernel_rfl
              · intro w5 hS hF hD K hK
                obtain ⟨e5, -⟩ := hF
                replace e5 : f 5 = _ := e5
                try simp only [e5]
                rw [if_pos (by rfl)]
                exact wp_of_quiet (exec_load_at _ _ rfl _ _ rfl _ _ _ (hS.heap HGM.out (fun h => h)) ((.int .i64 p.1)) (HCC.out.1) (fun _ => by kernel_rfl)) (hK.out _ _ rfl (After.lit rfl rfl rfl (by first | rfl | kernel_rfl)))
              · intro w5 hS hF hD K hK
                obtain ⟨e6, -⟩ := hF
                replace e6 : f 6 = _ := e6
                try simp only [e6]
                rw [if_pos (by rfl)]
                go_simp
                refine (HI1.out _).mono ?_; rintro e w3 ⟨rfl, hbelow⟩; go_simp
                refine hK.out _ _ rfl (After.litB rfl rfl rfl hbelow ?_)
                first | rfl | kernel_rfl
              · intro w5 hS hF hD K hK
                obtain ⟨e0, e7, -⟩ := hF
                replace e0 : f 0 = _ := e0
                replace e7 : f 7 = _ := e7
                try simp only [e0, e7]
                rw [if_pos (by rfl)]
                go_simp
                rw [if_neg (by omega)]
                go_simp
                refine hK.out _ _ rfl (After.lit rfl rfl rfl ?_)
                first | rfl | kernel_rfl
              · intro w5 hS hF hD K hK
                obtain ⟨e8, -⟩ := hF
                replace e8 : f 8 = _ := e8
                try simp only [e8]
                rw [if_pos (by rfl)]
                go_simp
                rw [if_neg (by omega)]
                go_simp
                refine hK.out _ _ rfl (After.lit rfl rfl rfl ?_)
                first | rfl | kernel_rfl
              · intro w5 hS hF hD K hK
                rw [if_pos (by rfl)]
                refine wp_of_quiet (v := (.pointer (some ⟨w.heap.size, 6, none⟩))) (by (show _ = _); kernel_rfl) (hK.out _ _ rfl (After.lit rfl rfl rfl ?_))
                first | rfl | kernel_rfl
              · intro w5 hS hF hD K hK
                obtain ⟨e10, -⟩ := hF
                replace e10 : f 10 = _ := e10
                try simp only [e10]
                rw [if_pos (by rfl)]
                exact wp_of_quiet (exec_load_at _ _ rfl _ _ rfl _ _ _ (hS.heap HBX.out (fun h => h)) ((.slice (some ⟨gm, om, none⟩) r.fields.length capm)) (by kernel_rfl) (fun _ => by kernel_rfl)) (hK.out _ _ rfl (After.lit rfl rfl rfl (by first | rfl | kernel_rfl)))
              · intro w5 hS hF hD K hK
                rw [if_pos (by rfl)]
                refine wp_of_quiet (v := (.int .i64 (k : Int))) (by (show _ = _); kernel_rfl) (hK.out _ _ rfl (After.lit rfl rfl rfl ?_))
                first | rfl | kernel_rfl
              · intro w5 hS hF hD K hK
                obtain ⟨e11, e12, -⟩ := hF
                replace e11 : f 11 = _ := e11
                replace e12 : f 12 = _ := e12
                try simp only [e11, e12]
                rw [if_pos (by rfl)]
                go_simp
                refine hK.out _ _ rfl (After.lit rfl rfl rfl ?_)
                first | rfl | kernel_rfl
              · intro w5 hS hF hD K hK
                obtain ⟨e13, -⟩ := hF
                replace e13 : f 13 = _ := e13
                try simp only [e13]
                rw [if_pos (by rfl)]
                refine wp_of_quiet (v := (.pointer (some ⟨gm, om + k * 2 + 1, none⟩))) (by (show _ = _); kernel_rfl) (hK.out _ _ rfl (After.lit rfl rfl rfl ?_))
                first | rfl | kernel_rfl
              · intro w5 hS hF hD K hK
                obtain ⟨e14, -⟩ := hF
                replace e14 : f 14 = _ := e14
                try simp only [e14]
                rw [if_pos (by rfl)]
                exact wp_of_quiet (exec_load_at _ _ rfl _ _ rfl _ _ _ (hS.heap HGM.out (fun h => h)) ((.int .i64 p.2)) (HCC.out.2) (fun _ => by kernel_rfl)) (hK.out _ _ rfl (After.lit rfl rfl rfl (by first | rfl | kernel_rfl)))
              · intro w5 hS hF hD K hK
                obtain ⟨e15, e7, -⟩ := hF
                replace e15 : f 15 = _ := e15
                replace e7 : f 7 = _ := e7
                try simp only [e15, e7]
                rw [if_pos (by rfl)]
                go_simp
                refine (HI2.out _).mono ?_; rintro e w3 ⟨rfl, hbelow⟩; go_simp
                refine hK.out _ _ rfl (After.litB rfl rfl rfl hbelow ?_)
                first | rfl | kernel_rfl
              · intro w5 hS hF hD K hK
                obtain ⟨e9, e16, -⟩ := hF
                replace e9 : f 9 = _ := e9
                replace e16 : f 16 = _ := e16
                try simp only [e9, e16]
                rw [if_pos (by rfl)]
                go_simp
                rw [if_neg (by omega)]
                go_simp
                refine hK.out _ _ rfl (After.lit rfl rfl rfl ?_)
                first | rfl | kernel_rfl
              intro w5 hS hF
              obtain ⟨e17, -⟩ := hF
              replace e17 : f 17 = _ := e17
              try simp only [e17]
              simp only [List.drop_succ_cons, List.drop_zero]
              have HS5 := Lib.hid hS
              clear hS
              go_wp2_with fail
              refine ⟨⟨k + 1, _, rfl, by omega, by go_num, Lib.hid ?_, ?_, HS5⟩, by simp [intOf]; omega⟩
              · rw [← HSP.out, memB, ← strB_app, ← strB_app, HS.out.1, HS.out.2]
                simp only [ByteArray.append_assoc]; rfl
              · simp only [hszz]; have e1 : (⟨#[58, 32, 99]⟩ : ByteArray).size = 3 := rfl; omega
          · have hkn : k = r.fields.length := by omega
            subst hkn
            have hsz2 : s.size + 1 ≤ 4000000 := by omega
            go_wp2_with fail
            go_meet
            case rel =>
              refine ⟨_, rfl, ?_, by simp only [hszz]; have e1 : (⟨#[125]⟩ : ByteArray).size = 1 := rfl; omega, HT9⟩
              have h9 := HSE.out
              rw [List.take_length] at h9
              unfold bodyB
              rw [if_pos HF.out, ← strB_app, h9]; rfl
    case rest =>
      obtain ⟨s, rfl, hs, hz, HB⟩ := hcut
      have HSS := Lib.hid hs
      have k1 : wc.cell? ⟨w.heap.size, 1, none⟩ = some (.int .i64 r.size) := by rw [cell_of_row _ _ _ _ _ _ (HB.out.heap HBX.out (fun h => h))]; rfl
      clear hs
      by_cases hq : r.size = 0
      · have eq : (r.size != 0) = false := by simpa using hq
        have HQ := Lib.hid hq
        clear hq
        go_wp2_with fail
        go_ret
        refine ⟨?_, HBL.out.trans (HB.out.toBelow HBL.out.size (fun _ h => h.elim))⟩
        rw [HPB.out, rowT, if_neg (by simp [HP.out]), if_neg (by simp [HQ.out]), ← HSS.out]; rfl
      · have eq : (r.size != 0) = true := by simpa using hq
        have HQ := Lib.hid hq
        have HI := Lib.hid (fun W => rdecimal_any r.size HRN.out.size W)
        have hsl := itoa_len _ HRN.out.size
        obtain ⟨s1, hs1⟩ : ∃ s, strB (Lib.itoa r.size) = s := ⟨_, rfl⟩
        have hz1 : s1.size ≤ 21 := by rw [← hs1, strB_size]; exact hsl
        rw [hs1] at HI
        have HS := Lib.hid hs1
        clear hs1 hsl hq
        go_wp2_with (go_at_call 34; refine (HI.out _).mono ?_; rintro e w1 ⟨rfl, hb1⟩)
        go_ret
        refine ⟨?_, HBL.out.trans ((HB.out.toBelow HBL.out.size (fun _ h => h.elim)).trans (hb1.mono (Nat.le_trans HBL.out.size HB.out.size)))⟩
        rw [HPB.out, rowT, if_neg (by simp [HP.out]), if_pos HQ.out, ← strB_app, ← strB_app, ← HSS.out, HS.out, ← ByteArray.append_assoc]; rfl
end Go.Proofs.YtepmgnhblegiiaaDoor
