/- Print of the program. Condition: the table of powers of ten reads as the text lays it; the numbers are no int's least. -/
import Derived.Test.YtepmgnhblegiiaaDoorPrA
import Derived.Test.YtepmgnhblegiiaaDoorOwnX
set_option linter.all false
namespace Go.Proofs.YtepmgnhblegiiaaDoor
open Go Go.RowKit Go.Maps

theorem infoStr : (Tryd.prog.info? 9).map (fun i => (i.zero, i.size, i.bytes)) = some (some (.string ⟨#[]⟩), 1, 16) := by kernel_rfl
def sv (l : List (List UInt8)) : List Value := l.map fun b => .string (strB b)
theorem sv_len (l : List (List UInt8)) : (sv l).length = l.length * 1 := by simp [sv]
theorem sv_snoc (l : List (List UInt8)) (x : List UInt8) : sv (l ++ [x]) = sv l ++ [.string (strB x)] := by simp [sv]

set_option maxRecDepth 100000 in
set_option maxHeartbeats 2000000 in
theorem print_any (rows : List Row) (v : Value) (w : World) (i : Int) (hi : n64 i) (hT : TabP w) (h : RowsV w v rows) (hN : ∀ r ∈ rows, RowN r) (hl : rows.length ≤ 100000) :
    Calls Tryd.prog 23 #[v, .int .i64 i] w fun e w' => e = .returned (.string (strB (printB rows i))) ∧ Below w.heap.size w w' := by
  unfold n64 at hi
  obtain ⟨ao, cap, rfl, hcap, h⟩ := h
  have HT := Lib.hid hT
  have H := Lib.hid h
  have HN := Lib.hid hN
  clear hT h hN
  by_cases h0 : i < 0
  · have HI := Lib.hid h0
    go_enter Tryd.func23, Tryd.ntmps23
    go_wp2_with fail
    go_ret
    exact ⟨by unfold printB; rw [if_pos HI.out]; rfl, Below.refl _ _⟩
  obtain ⟨k, rfl⟩ := Int.eq_ofNat_of_zero_le (show 0 ≤ i by omega)
  by_cases hk : k < rows.length
  rotate_left
  · go_enter Tryd.func23, Tryd.ntmps23
    go_wp2_with fail
    go_ret
    refine ⟨?_, Below.refl _ _⟩
    unfold printB
    rw [if_neg (by omega)]
    simp only [Int.toNat_natCast]
    rw [List.getElem?_eq_none (by omega)]; rfl
  obtain ⟨r, hr⟩ : ∃ r, rows[k]? = some r := ⟨rows[k], by simp [hk]⟩
  obtain ⟨g, off, c, rfl, hg, hc⟩ := H.out (by omega)
  obtain ⟨fv, hmv, hml, hcells⟩ := hc k r hr
  have HRN := Lib.hid (HN.out r (List.mem_of_getElem? hr))
  have HPB := Lib.hid (show printB rows (k : Int) = rowT r by unfold printB; rw [if_neg (by omega), Int.toNat_natCast, hr])
  have HEX := Lib.hid (ext_at (L := rowCells r fv) hcells)
  have HG := Lib.hid hg
  obtain ⟨am, capm, hfv, hmc⟩ := hmv
  subst hfv
  have HMC := Lib.hid hmc
  clear hr hg hc hcells hmc H HN h0 hi
  go_enter Tryd.func23, Tryd.ntmps23
  go_upto_block 0 with (first | (refine wpList_val (by rfl) (exec_load_midB 44 _ rfl g (off + k * 7) rfl c 44 (0, 0) HG.out (rowCells r (.slice am r.fields.length capm)) HEX.out (by kernel_rfl)) ?_) | (refine wpList_store_row rfl _ _ _ rfl _ _ rfl rfl _ _ (heap_alloc_new _ _) ?_ ?_ ?_ ?_; kernel_rfl; rfl; kernel_rfl; rw [World.setRow_alloc_new]))
  obtain ⟨W, hW⟩ : ∃ W, W = w.alloc (.cells (rowCells r (.slice am r.fields.length capm)).toArray 44) := ⟨_, rfl⟩
  have hbx : W.heap[w.heap.size]? = some (.cells #[.int .i64 r.cls, .int .i64 r.size, .int .i64 r.sign, .int .i64 r.ptr, .int .i64 r.elem, .int .i64 r.count, .slice am r.fields.length capm] 44 (0, 0)) := by rw [hW]; exact heap_alloc_new _ _
  have hbl : Below w.heap.size w W := by rw [hW]; exact (Below.refl _ _).alloc (Nat.le_refl _) _
  change Code.wp _ _ _ _ (w.alloc (.cells (rowCells r (.slice am r.fields.length capm)).toArray 44))
  rw [← hW]
  have HW := Lib.hid hW
  have HBX := Lib.hid hbx
  have HBL := Lib.hid hbl
  have HTW := Lib.hid (HT.out.stay hbl)
  have k3 : W.cell? ⟨w.heap.size, 3, none⟩ = some (.int .i64 r.ptr) := by rw [cell_of_row _ _ _ _ _ _ hbx]; rfl
  have k6 : W.cell? ⟨w.heap.size, 6, none⟩ = some (.slice am r.fields.length capm) := by rw [cell_of_row _ _ _ _ _ _ hbx]; rfl
  have k4 : W.cell? ⟨w.heap.size, 4, none⟩ = some (.int .i64 r.elem) := by rw [cell_of_row _ _ _ _ _ _ hbx]; rfl
  have k2 : W.cell? ⟨w.heap.size, 2, none⟩ = some (.int .i64 r.sign) := by rw [cell_of_row _ _ _ _ _ _ hbx]; rfl
  have hszz : ∀ x y : ByteArray, (x ++ y).size = x.size + y.size := fun _ _ => ByteArray.size_append
  clear hW hbx hbl HEX
  by_cases hp : r.ptr = -1
  rotate_left
  · have ep : (r.ptr != -1) = true := by simpa using hp
    have HI := Lib.hid (fun W hT => itoa_any r.ptr HRN.out.ptr W hT)
    have hsl := itoa_len _ HRN.out.ptr
    obtain ⟨s, hs⟩ : ∃ s, strB (Lib.itoa r.ptr) = s := ⟨_, rfl⟩
    have hz : s.size ≤ 21 := by rw [← hs, strB_size]; exact hsl
    rw [hs] at HI
    have HS := Lib.hid hs
    have HP := Lib.hid hp
    clear hs hsl hp
    go_wp2_with (go_at_call 32; refine (HI.out _ HTW.out).mono ?_; rintro e w1 ⟨rfl, hb1⟩)
    go_ret
    refine ⟨?_, HBL.out.trans (hb1.mono HBL.out.size)⟩
    rw [HPB.out, rowT, if_pos HP.out, ← strB_app, HS.out]; rfl
  · have ep : (r.ptr != -1) = false := by simpa using hp
    have HP := Lib.hid hp
    clear hp
    go_cut [7] (fun s7 wx => ∃ s, s7 = .string s ∧ s = strB (bodyB r) ∧ s.size ≤ 4000000 ∧ Hid (Turn (fun _ => False) W wx))
    case first =>
      by_cases hf : r.fields = []
      · have el : r.fields.length = 0 := by rw [hf]; rfl
        rw [el] at k6
        have HF := Lib.hid hf
        clear hf el
        by_cases he : r.elem = -1
        · have ee : (r.elem != -1) = false := by simpa using he
          have HE := Lib.hid he
          clear he
          by_cases hs3 : r.sign = 3
          · have es : (r.sign == 3) = true := by simpa using hs3
            have HS := Lib.hid hs3
            clear hs3
            go_wp2_with fail
            go_meet
            case rel => exact ⟨_, rfl, by unfold bodyB; rw [if_neg (by simp [HF.out]), if_neg (by simp [HE.out]), if_pos HS.out]; rfl, by decide, Lib.hid (Turn.refl _ _)⟩
          by_cases hs4 : r.sign = 4
          · have es : (r.sign == 3) = false := by simpa using hs3
            have es4 : (r.sign == 4) = true := by simpa using hs4
            have HS := Lib.hid (And.intro hs3 hs4)
            clear hs3 hs4
            go_wp2_with fail
            go_meet
            case rel => exact ⟨_, rfl, by unfold bodyB; rw [if_neg (by simp [HF.out]), if_neg (by simp [HE.out]), if_neg HS.out.1, if_pos HS.out.2]; rfl, by decide, Lib.hid (Turn.refl _ _)⟩
          · have es : (r.sign == 3) = false := by simpa using hs3
            have es4 : (r.sign == 4) = false := by simpa using hs4
            have HS := Lib.hid (And.intro hs3 hs4)
            clear hs3 hs4
            go_wp2_with fail
            go_meet
            case rel => exact ⟨_, rfl, by unfold bodyB; rw [if_neg (by simp [HF.out]), if_neg (by simp [HE.out]), if_neg HS.out.1, if_neg HS.out.2]; rfl, by decide, Lib.hid (Turn.refl _ _)⟩
        · have ee : (r.elem != -1) = true := by simpa using he
          have HE := Lib.hid he
          have HI1 := Lib.hid (fun W hT => itoa_any r.count HRN.out.count W hT)
          have HI2 := Lib.hid (fun W hT => itoa_any r.elem HRN.out.elem W hT)
          have hl1 := itoa_len _ HRN.out.count
          have hl2 := itoa_len _ HRN.out.elem
          obtain ⟨s1, hs1⟩ : ∃ s, strB (Lib.itoa r.count) = s := ⟨_, rfl⟩
          obtain ⟨s2, hs2⟩ : ∃ s, strB (Lib.itoa r.elem) = s := ⟨_, rfl⟩
          have hz1 : s1.size ≤ 21 := by rw [← hs1, strB_size]; exact hl1
          have hz2 : s2.size ≤ 21 := by rw [← hs2, strB_size]; exact hl2
          rw [hs1] at HI1
          rw [hs2] at HI2
          have HS := Lib.hid (And.intro hs1 hs2)
          clear hs1 hs2 hl1 hl2 he
          go_upto_region 17 with fail
          refine wp_region_relyT [] 11 (factOf [isV ((.func (.func 32) #[] #[])), isV ((.pointer (some ⟨w.heap.size, 5, none⟩))), isV ((.int .i64 r.count)), isV ((.string s1)), isV ((.string ((⟨#[91]⟩ : ByteArray) ++ s1))), isV ((.string (((⟨#[91]⟩ : ByteArray) ++ s1) ++ (⟨#[93, 99]⟩ : ByteArray)))), isV ((.func (.func 32) #[] #[])), isV ((.pointer (some ⟨w.heap.size, 4, none⟩))), isV ((.int .i64 r.elem)), isV ((.string s2)), isV ((.string ((((⟨#[91]⟩ : ByteArray) ++ s1) ++ (⟨#[93, 99]⟩ : ByteArray)) ++ s2)))]) (nth [[0], [1], [2], [3], [4], [5], [6], [7], [8], [9], [10]]) (nth [[], [], [], [], [], [], [], [], [], [], []]) (nth [[], [], [1], [0, 2], [3], [4], [], [], [7], [6, 8, 3], [5, 9]]) [10] (fun w5 => Turn (fun _ => False) W w5) (by kernel_rfl) (by kernel_rfl) ((Turn.refl _ _).drew) (fun w w' h hb => h.trans (Turn.ofBelow (bs := fun _ => False) hb) (fun _ _ h => h.elim)) (GrowsAll.of ((GrowsAll.cons (Grows.isV _)  (GrowsAll.cons (Grows.isV _)  (GrowsAll.cons (Grows.isV _)  (GrowsAll.cons (Grows.isV _)  (GrowsAll.cons (Grows.isV _)  (GrowsAll.cons (Grows.isV _)  (GrowsAll.cons (Grows.isV _)  (GrowsAll.cons (Grows.isV _)  (GrowsAll.cons (Grows.isV _)  (GrowsAll.cons (Grows.isV _)  (GrowsAll.cons (Grows.isV _) GrowsAll.nil))))))))))))) (fun f F hF => ?_)
          simp only [List.take_succ_cons, List.take_zero, fullGo, Act.put, List.setIfInBounds_toArray, List.set_cons_zero, List.set_cons_succ, Nat.reduceAdd] at hF
          subst hF
          refine ⟨StepObsF.cons ?_ (StepObsF.cons ?_ (StepObsF.cons ?_ (StepObsF.cons ?_ (StepObsF.cons ?_ (StepObsF.cons ?_ (StepObsF.cons ?_ (StepObsF.cons ?_ (StepObsF.cons ?_ (StepObsF.cons ?_ (StepObsF.cons ?_ (StepObsF.nil))))))))))), ?_⟩
          · intro w5 hS hF hD K hK
            rw [if_pos (by rfl)]
            refine wp_of_quiet (v := (.func (.func 32) #[] #[])) (by (show _ = _); kernel_rfl) (hK.out _ _ rfl (After.lit rfl rfl rfl ?_))
            first | rfl | kernel_rfl
          · intro w5 hS hF hD K hK
            rw [if_pos (by rfl)]
            refine wp_of_quiet (v := (.pointer (some ⟨w.heap.size, 5, none⟩))) (by (show _ = _); kernel_rfl) (hK.out _ _ rfl (After.lit rfl rfl rfl ?_))
            first | rfl | kernel_rfl
          · intro w5 hS hF hD K hK
            obtain ⟨e1, -⟩ := hF
            replace e1 : f 1 = _ := e1
            try simp only [e1]
            rw [if_pos (by rfl)]
            exact wp_of_quiet (exec_load_at _ _ rfl _ _ rfl _ _ _ (hS.heap HBX.out (fun h => h)) ((.int .i64 r.count)) (by kernel_rfl) (fun _ => by kernel_rfl)) (hK.out _ _ rfl (After.lit rfl rfl rfl (by first | rfl | kernel_rfl)))
          · intro w5 hS hF hD K hK
            obtain ⟨e0, e2, -⟩ := hF
            replace e0 : f 0 = _ := e0
            replace e2 : f 2 = _ := e2
            try simp only [e0, e2]
            rw [if_pos (by rfl)]
            go_simp
            refine (HI1.out _ (HTW.out.turn hS)).mono ?_; rintro e w3 ⟨rfl, hbelow⟩; go_simp
            refine hK.out _ _ rfl (After.litB rfl rfl rfl hbelow ?_)
            first | rfl | kernel_rfl
          · intro w5 hS hF hD K hK
            obtain ⟨e3, -⟩ := hF
            replace e3 : f 3 = _ := e3
            try simp only [e3]
            rw [if_pos (by rfl)]
            go_simp
            rw [if_neg (by omega)]
            go_simp
            refine hK.out _ _ rfl (After.lit rfl rfl rfl ?_)
            first | rfl | kernel_rfl
          · intro w5 hS hF hD K hK
            obtain ⟨e4, -⟩ := hF
            replace e4 : f 4 = _ := e4
            try simp only [e4]
            rw [if_pos (by rfl)]
            go_simp
            rw [if_neg (by omega)]
            go_simp
            refine hK.out _ _ rfl (After.lit rfl rfl rfl ?_)
            first | rfl | kernel_rfl
          · intro w5 hS hF hD K hK
            rw [if_pos (by rfl)]
            refine wp_of_quiet (v := (.func (.func 32) #[] #[])) (by (show _ = _); kernel_rfl) (hK.out _ _ rfl (After.lit rfl rfl rfl ?_))
            first | rfl | kernel_rfl
          · intro w5 hS hF hD K hK
            rw [if_pos (by rfl)]
            refine wp_of_quiet (v := (.pointer (some ⟨w.heap.size, 4, none⟩))) (by (show _ = _); kernel_rfl) (hK.out _ _ rfl (After.lit rfl rfl rfl ?_))
            first | rfl | kernel_rfl
          · intro w5 hS hF hD K hK
            obtain ⟨e7, -⟩ := hF
            replace e7 : f 7 = _ := e7
            try simp only [e7]
            rw [if_pos (by rfl)]
            exact wp_of_quiet (exec_load_at _ _ rfl _ _ rfl _ _ _ (hS.heap HBX.out (fun h => h)) ((.int .i64 r.elem)) (by kernel_rfl) (fun _ => by kernel_rfl)) (hK.out _ _ rfl (After.lit rfl rfl rfl (by first | rfl | kernel_rfl)))
          · intro w5 hS hF hD K hK
            obtain ⟨e6, e8, e3, -⟩ := hF
            replace e6 : f 6 = _ := e6
            replace e8 : f 8 = _ := e8
            replace e3 : f 3 = _ := e3
            try simp only [e6, e8, e3]
            rw [if_pos (by rfl)]
            go_simp
            refine (HI2.out _ (HTW.out.turn hS)).mono ?_; rintro e w3 ⟨rfl, hbelow⟩; go_simp
            refine hK.out _ _ rfl (After.litB rfl rfl rfl hbelow ?_)
            first | rfl | kernel_rfl
          · intro w5 hS hF hD K hK
            obtain ⟨e5, e9, -⟩ := hF
            replace e5 : f 5 = _ := e5
            replace e9 : f 9 = _ := e9
            try simp only [e5, e9]
            rw [if_pos (by rfl)]
            go_simp
            rw [if_neg (by omega)]
            go_simp
            refine hK.out _ _ rfl (After.lit rfl rfl rfl ?_)
            first | rfl | kernel_rfl
          intro w5 hS hF
          obtain ⟨e10, -⟩ := hF
          replace e10 : f 10 = _ := e10
          try simp only [e10]
          simp only [List.drop_succ_cons, List.drop_zero]
          have HS5 := Lib.hid hS
          clear hS
          go_wp2_with fail
          go_meet
          case rel =>
            refine ⟨_, rfl, ?_, by simp only [hszz]; have e1 : (⟨#[91]⟩ : ByteArray).size = 1 := rfl; have e2 : (⟨#[93, 99]⟩ : ByteArray).size = 2 := rfl; omega, HS5⟩
            unfold bodyB
            rw [if_neg (by simp [HF.out]), if_pos HE.out, ← strB_app, ← strB_app, ← strB_app, HS.out.1, HS.out.2]; rfl
      · have hlen : 0 < r.fields.length := List.length_pos_iff.2 hf
        obtain ⟨gm, om, cm, Tm, rfl, hgm, hcm⟩ := HMC.out hlen
        have HGM := Lib.hid (below_keep HBL.out hgm)
        have HCM := Lib.hid hcm
        have HF := Lib.hid hf
        obtain ⟨i0, hi, hz0, hz1, hz2⟩ := info_parts infoStr
        clear hf hgm hcm
        go_upto_block 1 with fail
        go_cut [8] (fun s8 wx => ∃ v8, s8 = v8 ∧ Hid (wx.ownsRow W.heap.size 9 1 v8 r.fields.length (sv (r.fields.map memB))) ∧ Hid (Turn (fun _ => False) W wx))
        case first =>
          go_wp2_with fail
          go_loopw [8, 40] (fun s8 s40 wr => ∃ (k : Nat) (v8 : Value), s8 = v8 ∧ k ≤ r.fields.length ∧ s40 = .int .i64 k ∧ Hid (wr.ownsRow W.heap.size 9 1 v8 k (sv ((r.fields.take k).map memB))) ∧ Hid (Turn (fun _ => False) W wr)) (fun _ s40 _ => r.fields.length - (intOf s40).toNat)
          case atStart => exact ⟨0, _, rfl, Nat.zero_le _, rfl, Lib.hid ⟨rfl, .inl ⟨rfl, rfl⟩⟩, Lib.hid (Turn.refl _ _)⟩
          case round =>
            obtain ⟨k, v8, h8, hk, rfl, HOW, HT9⟩ := hrel
            have h8' := h8.symm
            subst h8'
            by_cases hlt : k < r.fields.length
            · obtain ⟨p, hp⟩ : ∃ p, r.fields[k]? = some p := ⟨r.fields[k], by simp [hlt]⟩
              have hcc := HCM.out k p hp
              have hpn := HRN.out.flds p (List.mem_of_getElem? hp)
              have HEM := Lib.hid (ext_at (c := cm) (o := om + k * 2) (L := [.int .i64 p.1, .int .i64 p.2]) (fun j hj => by
                match j, hj with
                | 0, _ => exact hcc.1
                | 1, _ => rw [Nat.add_assoc]; exact hcc.2))
              have HP2 := Lib.hid hp
              have HI1 := Lib.hid (fun W hT => itoa_any p.1 hpn.1 W hT)
              have HI2 := Lib.hid (fun W hT => itoa_any p.2 hpn.2 W hT)
              have hl1 := itoa_len _ hpn.1
              have hl2 := itoa_len _ hpn.2
              obtain ⟨s1, hs1⟩ : ∃ s, strB (Lib.itoa p.1) = s := ⟨_, rfl⟩
              obtain ⟨s2, hs2⟩ : ∃ s, strB (Lib.itoa p.2) = s := ⟨_, rfl⟩
              have hz3 : s1.size ≤ 21 := by rw [← hs1, strB_size]; exact hl1
              have hz4 : s2.size ≤ 21 := by rw [← hs2, strB_size]; exact hl2
              rw [hs1] at HI1
              rw [hs2] at HI2
              have HS := Lib.hid (And.intro hs1 hs2)
              have HTK := Lib.hid (show (r.fields.take (k + 1)).map memB = (r.fields.take k).map memB ++ [memB p] by rw [List.take_add_one, hp]; simp)
              clear hcc hp hpn hl1 hl2 hs1 hs2
              have HGW := Lib.hid (HT9.out.heap HGM.out (fun h => h))
              have HSV := Lib.hid (sv_len ((r.fields.take k).map memB))
              go_upto_region 13 with (first | (refine wpList_val (by rfl) (exec_load_midB 46 _ rfl gm (om + k * 2) rfl cm Tm (0, 0) HGW.out [.int .i64 p.1, .int .i64 p.2] HEM.out (by kernel_rfl)) ?_) | (refine wpList_store_row rfl _ _ _ rfl _ _ rfl rfl _ _ (heap_alloc_new _ _) ?_ ?_ ?_ ?_; kernel_rfl; rfl; kernel_rfl; rw [World.setRow_alloc_new]))
              have HB2 := Lib.hid (heap_alloc_new wr (.cells #[.int .i64 p.1, .int .i64 p.2] 46))
              have HT2 := Lib.hid (HT9.out.alloc (.cells #[.int .i64 p.1, .int .i64 p.2] 46))
              change Code.wp _ _ _ _ (wr.alloc (.cells #[.int .i64 p.1, .int .i64 p.2] 46))
              have hszw : W.heap.size ≤ wr.heap.size := HT9.out.size
              refine wp_region_relyU 0 _ (v8) [] 11 (factOf [isV (v8), isV ((.func (.func 32) #[] #[])), isV ((.pointer (some ⟨wr.heap.size, 0, none⟩))), isV ((.int .i64 p.1)), isV ((.string s1)), isV ((.string (s1 ++ (⟨#[58, 32, 99]⟩ : ByteArray)))), isV ((.func (.func 32) #[] #[])), isV ((.pointer (some ⟨wr.heap.size, 1, none⟩))), isV ((.int .i64 p.2)), isV ((.string s2)), isV ((.string ((s1 ++ (⟨#[58, 32, 99]⟩ : ByteArray)) ++ s2)))]) (nth [[0], [1], [2], [3], [4], [5], [6], [7], [8], [9], [10]]) (nth [[], [], [], [], [], [], [], [], [], [], []]) (nth [[], [], [], [2], [1, 3], [4], [], [], [7], [6, 8, 4], [5, 9]]) [0, 10] (fun w5 => Turn (fun _ => False) (wr.alloc (.cells #[.int .i64 p.1, .int .i64 p.2] 46)) w5) (by kernel_rfl) (by kernel_rfl) rfl (by kernel_rfl) (by kernel_rfl) (by kernel_rfl) (fun _ _ _ h => h) ⟨by rfl, fun w => by rfl⟩ (by rfl) ((Turn.refl _ _).drew) (fun w w' h hb => h.trans (Turn.ofBelow (bs := fun _ => False) hb) (fun _ _ h => h.elim)) (GrowsAll.of ((GrowsAll.cons (Grows.isV _)  (GrowsAll.cons (Grows.isV _)  (GrowsAll.cons (Grows.isV _)  (GrowsAll.cons (Grows.isV _)  (GrowsAll.cons (Grows.isV _)  (GrowsAll.cons (Grows.isV _)  (GrowsAll.cons (Grows.isV _)  (GrowsAll.cons (Grows.isV _)  (GrowsAll.cons (Grows.isV _)  (GrowsAll.cons (Grows.isV _)  (GrowsAll.cons (Grows.isV _) GrowsAll.nil))))))))))))) (fun f F hF => ?_)
              simp only [List.take_succ_cons, List.take_zero, fullGo, Act.put, List.setIfInBounds_toArray, List.set_cons_zero, List.set_cons_succ, Nat.reduceAdd] at hF
              subst hF
              refine ⟨StepObsF.skip (by rfl) (StepObsF.cons ?_ (StepObsF.cons ?_ (StepObsF.cons ?_ (StepObsF.cons ?_ (StepObsF.cons ?_ (StepObsF.cons ?_ (StepObsF.cons ?_ (StepObsF.cons ?_ (StepObsF.cons ?_ (StepObsF.cons ?_ (StepObsF.nil))))))))))), ?_⟩
              · intro w5 hS hF hD K hK
                rw [if_pos (by rfl)]
                refine wp_of_quiet (v := (.func (.func 32) #[] #[])) (by (show _ = _); kernel_rfl) (hK.out _ _ rfl (After.lit rfl rfl rfl ?_))
                first | rfl | kernel_rfl
              · intro w5 hS hF hD K hK
                rw [if_pos (by rfl)]
                refine wp_of_quiet (v := (.pointer (some ⟨wr.heap.size, 0, none⟩))) (by (show _ = _); kernel_rfl) (hK.out _ _ rfl (After.lit rfl rfl rfl ?_))
                first | rfl | kernel_rfl
              · intro w5 hS hF hD K hK
                obtain ⟨e2, -⟩ := hF
                replace e2 : f 2 = _ := e2
                try simp only [e2]
                rw [if_pos (by rfl)]
                exact wp_of_quiet (exec_load_at _ _ rfl _ _ rfl _ _ _ (hS.heap HB2.out (fun h => h)) ((.int .i64 p.1)) (by kernel_rfl) (fun _ => by kernel_rfl)) (hK.out _ _ rfl (After.lit rfl rfl rfl (by first | rfl | kernel_rfl)))
              · intro w5 hS hF hD K hK
                obtain ⟨e1, e3, -⟩ := hF
                replace e1 : f 1 = _ := e1
                replace e3 : f 3 = _ := e3
                try simp only [e1, e3]
                rw [if_pos (by rfl)]
                go_simp
                refine (HI1.out _ (HTW.out.turn (HT2.out.trans hS (fun _ _ h => h)))).mono ?_; rintro e w3 ⟨rfl, hbelow⟩; go_simp
                refine hK.out _ _ rfl (After.litB rfl rfl rfl hbelow ?_)
                first | rfl | kernel_rfl
              · intro w5 hS hF hD K hK
                obtain ⟨e4, -⟩ := hF
                replace e4 : f 4 = _ := e4
                try simp only [e4]
                rw [if_pos (by rfl)]
                go_simp
                rw [if_neg (by omega)]
                go_simp
                refine hK.out _ _ rfl (After.lit rfl rfl rfl ?_)
                first | rfl | kernel_rfl
              · intro w5 hS hF hD K hK
                rw [if_pos (by rfl)]
                refine wp_of_quiet (v := (.func (.func 32) #[] #[])) (by (show _ = _); kernel_rfl) (hK.out _ _ rfl (After.lit rfl rfl rfl ?_))
                first | rfl | kernel_rfl
              · intro w5 hS hF hD K hK
                rw [if_pos (by rfl)]
                refine wp_of_quiet (v := (.pointer (some ⟨wr.heap.size, 1, none⟩))) (by (show _ = _); kernel_rfl) (hK.out _ _ rfl (After.lit rfl rfl rfl ?_))
                first | rfl | kernel_rfl
              · intro w5 hS hF hD K hK
                obtain ⟨e7, -⟩ := hF
                replace e7 : f 7 = _ := e7
                try simp only [e7]
                rw [if_pos (by rfl)]
                exact wp_of_quiet (exec_load_at _ _ rfl _ _ rfl _ _ _ (hS.heap HB2.out (fun h => h)) ((.int .i64 p.2)) (by kernel_rfl) (fun _ => by kernel_rfl)) (hK.out _ _ rfl (After.lit rfl rfl rfl (by first | rfl | kernel_rfl)))
              · intro w5 hS hF hD K hK
                obtain ⟨e6, e8, e4, -⟩ := hF
                replace e6 : f 6 = _ := e6
                replace e8 : f 8 = _ := e8
                replace e4 : f 4 = _ := e4
                try simp only [e6, e8, e4]
                rw [if_pos (by rfl)]
                go_simp
                refine (HI2.out _ (HTW.out.turn (HT2.out.trans hS (fun _ _ h => h)))).mono ?_; rintro e w3 ⟨rfl, hbelow⟩; go_simp
                refine hK.out _ _ rfl (After.litB rfl rfl rfl hbelow ?_)
                first | rfl | kernel_rfl
              · intro w5 hS hF hD K hK
                obtain ⟨e5, e9, -⟩ := hF
                replace e5 : f 5 = _ := e5
                replace e9 : f 9 = _ := e9
                try simp only [e5, e9]
                rw [if_pos (by rfl)]
                go_simp
                rw [if_neg (by omega)]
                go_simp
                refine hK.out _ _ rfl (After.lit rfl rfl rfl ?_)
                first | rfl | kernel_rfl
              intro w5 hS hF
              obtain ⟨e0, e10, -⟩ := hF
              replace e0 : f 0 = _ := e0
              replace e10 : f 10 = _ := e10
              try simp only [e0, e10]
              simp only [List.drop_succ_cons, List.drop_zero]
              have HS5 := Lib.hid (HT2.out.trans hS (fun _ _ h => h))
              have HS6 := Lib.hid ((HT9.out.alloc (.cells #[.int .i64 p.1, .int .i64 p.2] 46)).size)
              have HO5 := Lib.hid (own_turn (own_turn HOW.out ((Turn.refl (fun _ => False) wr).alloc _) (fun _ _ h => h)) hS (fun _ _ h => h))
              have hz5 := HS5.out.size
              have hcat : strB (memB p) = (s1 ++ (⟨#[58, 32, 99]⟩ : ByteArray)) ++ s2 := by rw [memB, ← strB_app, ← strB_app, HS.out.1, HS.out.2]; rfl
              have HCAT := Lib.hid hcat
              clear hS hcat
              go_wp2_with (at_builtin; refine wpList_append_own _ rfl _ _ 60 rfl W.heap.size 9 i0 (.string ⟨#[]⟩) 1 16 Tryd.underlying60 hi hz0 hz1 hz2 rfl (by decide) _ k (sv ((r.fields.take k).map memB)) rfl (own_turn HO5.out ((Turn.refl (fun _ => False) _).alloc _) (fun _ _ h => h)) ⟨w5.heap.size, 0, none⟩ 1 1 [.string ((s1 ++ (⟨#[58, 32, 99]⟩ : ByteArray)) ++ s2)] rfl rfl (cells_new _ _ _ _ rfl) (by intro u hu; simp at hu; rcases hu with rfl; rfl) (by unfold maxLen; omega) (by omega) (Nat.le_trans hz5 (by simp)) ?_; intro v9 w9 hown9 hgrow9 _)
              go_roundw
              case rel =>
                refine ⟨k + 1, _, rfl, by omega, by go_num, Lib.hid (by rw [HTK.out, sv_snoc, HCAT.out]; exact hown9), Lib.hid (HS5.out.trans (((Turn.refl (fun k => W.heap.size ≤ k) w5).alloc _).grown hgrow9 (fun k e _ => (own_cells HO5.out k e).1)) (fun k hk h => by omega))⟩
              case measure => simp [intOf]; omega
            · have hkn : k = r.fields.length := by omega
              subst hkn
              go_wp2_with fail
              go_meet
              case rel => exact ⟨_, rfl, Lib.hid (by have h9 := HOW.out; rw [List.take_length] at h9; exact h9), HT9⟩
        case rest =>
          obtain ⟨v8, h8, HOW, HT9⟩ := hcut
          have h8' := h8.symm
          subst h8'
          obtain ⟨gs, curs, hao, hgB, hgs, hcs⟩ : ∃ g cur, (∃ cap, v8 = .slice (some ⟨g, 0, none⟩) r.fields.length cap ∧ r.fields.length ≤ cap) ∧ W.heap.size ≤ g ∧ wc.heap[g]? = some (.cells cur 9 (0, 0)) ∧ ∀ j, j < r.fields.length → cur[j]? = (sv (r.fields.map memB))[j]? := by
            obtain ⟨sp, sc, rfl⟩ := own_slice HOW.out
            obtain ⟨g, cur, rfl, h1, h2, h3⟩ := own_ptr HOW.out hlen
            exact ⟨g, cur, ⟨sc, rfl, (own_cap HOW.out).1⟩, h1, h2, fun j hj => h3 j (by omega)⟩
          obtain ⟨sc, rfl, hsc⟩ := hao
          have hml2 := memsB_len r.fields HRN.out.flds
          obtain ⟨sj, hsj⟩ : ∃ s, strB (memsB r.fields) = s := ⟨_, rfl⟩
          have hzj : sj.size ≤ 3200000 := by rw [← hsj, strB_size]; omega
          have hxs : (r.fields.map (fun p => strB (memB p))).map (·.data.toList) = r.fields.map memB := by rw [List.map_map]; congr 1
          have HJ := Lib.hid (by
            have h9 := Tryd.strings_Join gs 0 sc (r.fields.map fun p => strB (memB p)) (⟨#[44, 32]⟩ : ByteArray) wc (fun j x hx => by
              have hj : j < r.fields.length := by
                have := (List.getElem?_eq_some_iff.1 hx).1
                simpa using this
              rw [Nat.zero_add, cell_of_row _ _ _ _ _ _ hgs, hcs j hj]
              simp only [sv, List.map_map, List.getElem?_map] at hx ⊢
              cases hq : r.fields[j]? with
              | none => rw [hq] at hx; cases hx
              | some p => rw [hq] at hx; cases hx; rfl) (Array.getElem?_eq_some_iff.1 hgs).1 (by simp; omega) (by simpa using hsc) (by rw [hxs]; exact Nat.le_trans hml2 (by omega))
            rw [hxs, List.length_map] at h9
            exact h9)
          have HSJ := Lib.hid hsj
          clear hgs hcs hml2 hxs HOW hsj
          go_wp2_with (go_at_call 33; refine (HJ.out).mono ?_; rintro e w9 ⟨rfl, hb9⟩; rw [show (⟨(Lib.join (r.fields.map memB) (⟨#[44, 32]⟩ : ByteArray).data.toList).toArray⟩ : ByteArray) = sj from HSJ.out])
          go_meet
          case rel =>
            refine ⟨_, rfl, ?_, by simp only [hszz]; have e1 : (⟨#[123]⟩ : ByteArray).size = 1 := rfl; have e2 : (⟨#[125]⟩ : ByteArray).size = 1 := rfl; omega, Lib.hid (HT9.out.trans (Turn.ofBelow (bs := fun _ => False) hb9) (fun _ _ h => h))⟩
            unfold bodyB
            rw [if_pos HF.out, ← strB_app, ← strB_app, HSJ.out]; rfl
    case rest =>
      obtain ⟨s, rfl, hs, hz, HB⟩ := hcut
      have HSS := Lib.hid hs
      have k1 : wc.cell? ⟨w.heap.size, 1, none⟩ = some (.int .i64 r.size) := by rw [cell_of_row _ _ _ _ _ _ (HB.out.heap HBX.out (fun h => h))]; rfl
      clear hs
      by_cases hq : r.size = 0
      · have eq : (r.size != 0) = false := by simpa using hq
        have HQ := Lib.hid hq
        clear hq
        go_wp2_with fail
        go_ret
        refine ⟨?_, HBL.out.trans (HB.out.toBelow HBL.out.size (fun _ h => h.elim))⟩
        rw [HPB.out, rowT, if_neg (by simp [HP.out]), if_neg (by simp [HQ.out]), ← HSS.out]; rfl
      · have eq : (r.size != 0) = true := by simpa using hq
        have HQ := Lib.hid hq
        have HI := Lib.hid (fun W hT => itoa_any r.size HRN.out.size W hT)
        have hsl := itoa_len _ HRN.out.size
        obtain ⟨s1, hs1⟩ : ∃ s, strB (Lib.itoa r.size) = s := ⟨_, rfl⟩
        have hz1 : s1.size ≤ 21 := by rw [← hs1, strB_size]; exact hsl
        rw [hs1] at HI
        have HS := Lib.hid hs1
        clear hs1 hsl hq
        go_wp2_with (go_at_call 32; refine (HI.out _ (HTW.out.turn HB.out)).mono ?_; rintro e w1 ⟨rfl, hb1⟩)
        go_ret
        refine ⟨?_, HBL.out.trans ((HB.out.toBelow HBL.out.size (fun _ h => h.elim)).trans (hb1.mono (Nat.le_trans HBL.out.size HB.out.size)))⟩
        rw [HPB.out, rowT, if_neg (by simp [HP.out]), if_pos HQ.out, ← strB_app, ← strB_app, ← HSS.out, HS.out]; rfl
end Go.Proofs.YtepmgnhblegiiaaDoor
