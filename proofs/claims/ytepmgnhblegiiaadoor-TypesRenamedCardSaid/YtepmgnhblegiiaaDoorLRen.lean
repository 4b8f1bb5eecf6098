/- TypesRenamed walked. Condition: the table of powers of ten reads as the text lays it. -/
import Derived.Test.YtepmgnhblegiiaaDoorLImp
import Derived.Test.YtepmgnhblegiiaaDoorPlL
set_option linter.all false
namespace Go.Proofs.YtepmgnhblegiiaaDoor
open Go Go.RowKit Go.Maps

def rotF (n : Nat) (b : Int) (v : Int) : Int := (v + b) % n
theorem rot_range {n : Nat} (hn : 0 < n) (b v : Int) : 0 ≤ rotF n b v ∧ rotF n b v < n := ⟨Int.emod_nonneg _ (by omega), Int.emod_lt_of_pos _ (by omega)⟩
theorem rot_back {n : Nat} (b : Int) {v : Int} (h0 : 0 ≤ v) (h1 : v < n) : rotF n (-b) (rotF n b v) = v := by
  unfold rotF
  rw [Int.add_emod, Int.emod_emod, ← Int.add_emod, show v + b + -b = v by omega]
  exact Int.emod_eq_of_lt h0 h1
theorem rot_ren {n : Nat} (hn : 0 < n) (b : Int) {cs : List Con} (hR : ∀ c ∈ cs, rightS n c = true) : Ren n (rotF n b) (rotF n (-b)) cs (cs.map (renC (rotF n b))) :=
  ⟨hR, fun v _ _ => rot_range hn b v, fun v _ _ => rot_range hn (-b) v, fun v h0 h1 => rot_back b h0 h1, fun v h0 h1 => by have := rot_back (n := n) (-b) h0 h1; rwa [Int.neg_neg] at this, rfl⟩

set_option maxRecDepth 100000 in
set_option maxHeartbeats 8000000 in
theorem typesRenamed_any (z : Int) (hz : i64ok z) (ao : Option Addr) (len cap : Nat) (hlen : len ≤ 9223372036854775807) (bY : Int) (hbY : i64ok bY) (w : World) (h : ArrW ao len w) (hT : TabP w) :
    Calls Tryd.prog 9 #[.int .i64 z, .slice ao len cap, .int .i64 bY] w fun e w' => e = .returned (.bool true) ∧ Below w.heap.size w w' := by
  have HSN := Lib.hid (sanity_any w hT)
  have H := Lib.hid h
  have HSZ := Lib.hid (fun W => size_any z hz W)
  obtain ⟨n, hn⟩ := Int.eq_ofNat_of_zero_le (show 0 ≤ 1 + z % 14 by have := Int.emod_nonneg z (show (14 : Int) ≠ 0 by omega); omega)
  have hn1 : 0 < n := by have := Int.emod_nonneg z (show (14 : Int) ≠ 0 by omega); omega
  have hn2 : n ≤ 14 := by have := Int.emod_lt_of_pos z (show (0 : Int) < 14 by omega); omega
  rw [hn] at HSZ
  obtain ⟨j0, hj0, hy0, hy1, hy2⟩ := info_parts infoCon
  clear hn h hT
  go_enter Tryd.func9, Tryd.ntmps9
  go_upto_region 2 with (go_at_call 14; refine (HSN.out).mono ?_; rintro e w1 ⟨rfl, hb1⟩)
  have HB1 := Lib.hid hb1
  have HMD := Lib.hid (made_any n hn1 (by omega) w1 ao len cap hlen (H.out.below hb1))
  clear hb1
  go_upto_region 4 with (first | (go_at_call 16; refine (HSZ.out _).mono ?_; rintro e wz ⟨rfl, rfl⟩) | (go_at_call 15; refine (HMD.out).mono ?_; rintro e w2 ⟨v, cs0, rfl, hown, hR, hl, hb2⟩; obtain ⟨co, cp, rfl, hcp, hcw⟩ := made_own (n := n) hown; have HB2 := Lib.hid (HB1.out.trans (hb2.mono HB1.out.size)); have HCW := Lib.hid (And.intro hcw hown); have HR := Lib.hid hR; have HPF := Lib.hid (prefix_any n hn1 (by omega) cs0 hR (by omega) w2 co cp hcp hcw); clear hown hR hb2 hcw) | (go_at_call 18; refine (HPF.out).mono ?_; rintro e w3 ⟨m, hm, rfl, hnc, hb3⟩))
  have hown : w3.ownsRow w1.heap.size 37 4 (.slice co m cp) m (consV (cs0.take m)) := by
    have h9 := own_cut (own_turn HCW.out.2 (Turn.ofBelow (bs := fun _ => False) hb3) (fun _ _ h => h)) hm
    rw [consV_take] at h9; exact h9
  have hlm : (cs0.take m).length = m := by rw [List.length_take]; omega
  have HOW := Lib.hid hown
  have HNC := Lib.hid hnc
  have HB3 := Lib.hid (HB2.out.trans (hb3.mono HB2.out.size))
  have HCS := Lib.hid (show ∀ c ∈ cs0.take m, rightS n c = true from fun c hc => HR.out c (List.mem_of_mem_take hc))
  have hm60 : m ≤ 60 := by omega
  clear hb3 hown hnc HCW HPF HMD HR
  generalize cs0.take m = cs at *
  subst hlm
  obtain ⟨hmc1, hmc2⟩ := own_cap HOW.out
  have hc0 : co = none → cp = 0 := fun e => by
    rcases own_form HOW.out with ⟨-, h, -⟩ | ⟨g, h, -⟩
    · exact h
    · rw [e] at h; cases h
  have HC0 := Lib.hid hc0
  clear hc0 hmc2
  obtain ⟨bt, hbt⟩ : ∃ bt, bY.tmod (n : Int) = bt := ⟨_, rfl⟩
  have hbt2 : -14 ≤ bt ∧ bt ≤ 14 := by
    have h1 := Int.tmod_lt_of_pos bY (show (0 : Int) < n by omega)
    have h2 : -(n : Int) < bY.tmod (n : Int) := by
      have := Int.tmod_lt_of_pos (-bY) (show (0 : Int) < n by omega)
      rw [Int.neg_tmod] at this; omega
    omega
  have hn0 : ¬ n = 0 := by omega
  have HRN := Lib.hid (rot_ren hn1 bt HCS.out)
  have HMD := Lib.hid (fun (v : Int) (hv : -100 ≤ v ∧ v ≤ 100) W => (show Calls _ _ _ _ (fun e w' => e = .returned (.int .i64 (rotF n bt v)) ∧ W = w') from mod_any (v + bt) n ⟨by omega, by omega⟩ (by omega) W))
  go_upto_block 0 with fail
  go_cut [10, 11, 12] (fun s10 _ _ wx => ∃ v10 : Value, s10 = v10 ∧ Hid (wx.ownsRow w3.heap.size 37 4 v10 cs.length (consV (cs.map (renC (rotF n bt))))) ∧ Hid (Turn (fun q => w3.heap.size ≤ q) w3 wx))
  case first =>
    go_wp2_with fail
    go_loopw [10, 11, 12] (fun s10 s11 _ wr => ∃ (v10 : Value) (i : Nat), s10 = v10 ∧ s11 = .int .i64 i ∧ i ≤ cs.length ∧ Hid (wr.ownsRow w3.heap.size 37 4 v10 i (consV ((cs.take i).map (renC (rotF n bt))))) ∧ Hid (Turn (fun q => w3.heap.size ≤ q) w3 wr)) (fun _ s11 _ _ => cs.length - (intOf s11).toNat)
    case atStart => exact ⟨_, 0, rfl, rfl, Nat.zero_le _, Lib.hid (World.ownsRow_nil w3 _ _ _), Lib.hid (Turn.refl _ _)⟩
    case round =>
      obtain ⟨v10, i, h10, rfl, hi, HOW9, HT9⟩ := hrel
      have h10' := h10.symm
      subst h10'
      clear h10
      by_cases hlt : i < cs.length
      · obtain ⟨x, hx⟩ : ∃ x, cs[i]? = some x := ⟨cs[i], by simp [hlt]⟩
        obtain ⟨g, cur, hoo, hBg, hg, hcur⟩ := own_ptr HOW.out (by omega)
        subst hoo
        have hgz : g < w3.heap.size := (Array.getElem?_eq_some_iff.1 hg).1
        have HG := Lib.hid (HT9.out.heap hg (fun h => by omega))
        have HEX := Lib.hid (con_extract (c := cur) (i := i) (k := x) (fun j hj => by rw [hcur _ (by omega)]; exact consV_at hx hj))
        have hxr := HCS.out x (List.mem_of_getElem? hx)
        have hsn : (cs.take (i + 1)).map (renC (rotF n bt)) = (cs.take i).map (renC (rotF n bt)) ++ [renC (rotF n bt) x] := by
          rw [List.take_succ, hx]; simp
        have HSN := Lib.hid hsn
        have hszw : w3.heap.size ≤ wr.heap.size := HT9.out.size
        obtain ⟨xk, xa, xb, xn⟩ := x
        have hxa : 0 ≤ xa ∧ xa < 14 := by
          simp only [rightS, Bool.and_eq_true, Bool.or_eq_true, decide_eq_true_eq] at hxr; omega
        have hxk : (xk = 1 ∨ xk = 5 ∨ xk = 6 ∨ xk = 7) → 0 ≤ xb ∧ xb < 14 := fun hk => by
          simp only [rightS, Bool.and_eq_true, Bool.or_eq_true, decide_eq_true_eq] at hxr; omega
        have HXK := Lib.hid hxk
        clear hx hg hcur hxr hsn hxk
        go_upto_region 9 with (first | (refine wpList_val (by rfl) (exec_load_midB 37 _ rfl g (i * 4) rfl cur 37 (0, 0) HG.out (conCells ⟨xk, xa, xb, xn⟩).toList HEX.out (by kernel_rfl)) ?_) | (refine wpList_store_row rfl _ _ _ rfl _ _ rfl rfl _ _ (heap_alloc_new _ _) ?_ ?_ ?_ ?_; kernel_rfl; rfl; kernel_rfl; rw [World.setRow_alloc_new]))
        have hA := heap_alloc_new wr (.cells #[.int .i64 xk, .int .i64 xa, .int .i64 xb, .int .i64 xn] 37)
        obtain ⟨W, hW⟩ : ∃ W, W = wr.alloc (.cells #[.int .i64 xk, .int .i64 xa, .int .i64 xb, .int .i64 xn] 37) := ⟨_, rfl⟩
        have t1 : Turn (fun _ => False) wr W := by rw [hW]; exact (Turn.refl _ _).alloc _
        change Code.wp _ _ _ _ (wr.alloc (.cells #[.int .i64 xk, .int .i64 xa, .int .i64 xb, .int .i64 xn] 37))
        rw [← hW] at hA ⊢
        clear hW
        have HBX := Lib.hid hA
        have hwa : IntKind.i64.wrap (xa + bt) = xa + bt := IntWalk.i64_in _ (by omega)
        refine wp_region_relyT [] 8 (factOf [isV ((.pointer (some ⟨wr.heap.size, 1, none⟩))), isV ((.int .i64 xa)), isV ((.int .i64 bY)), isV ((.int .i64 (n : Int))), isV ((.int .i64 bt)), isV ((.int .i64 (xa + bt))), isV ((.int .i64 (n : Int))), isV ((.int .i64 (rotF n bt xa)))]) (nth [[0], [1], [2], [3], [4], [5], [6], [7]]) (nth [[], [], [], [], [], [], [], []]) (nth [[], [0], [], [], [2, 3], [1, 4], [], [5, 6]]) [7] (fun w5 => Turn (fun _ => False) W w5) (by kernel_rfl) (by kernel_rfl) ((Turn.refl _ _).drew) (fun w w' h hb => h.trans (Turn.ofBelow (bs := fun _ => False) hb) (fun _ _ h => h.elim)) (GrowsAll.of ((GrowsAll.cons (Grows.isV _)  (GrowsAll.cons (Grows.isV _)  (GrowsAll.cons (Grows.isV _)  (GrowsAll.cons (Grows.isV _)  (GrowsAll.cons (Grows.isV _)  (GrowsAll.cons (Grows.isV _)  (GrowsAll.cons (Grows.isV _)  (GrowsAll.cons (Grows.isV _) GrowsAll.nil)))))))))) (fun f F hF => ?_)
        simp only [List.take_succ_cons, List.take_zero, fullGo, Act.put, List.setIfInBounds_toArray, List.set_cons_zero, List.set_cons_succ, Nat.reduceAdd] at hF
        subst hF
        refine ⟨StepObsF.cons ?_ (StepObsF.cons ?_ (StepObsF.cons ?_ (StepObsF.cons ?_ (StepObsF.cons ?_ (StepObsF.cons ?_ (StepObsF.cons ?_ (StepObsF.cons ?_ (StepObsF.nil)))))))), ?_⟩
        · intro w5 hS hF hD K hK
          rw [if_pos (by rfl)]
          refine wp_of_quiet (v := (.pointer (some ⟨wr.heap.size, 1, none⟩))) (by (show _ = _); kernel_rfl) (hK.out _ _ rfl (After.lit rfl rfl rfl ?_))
          first | rfl | kernel_rfl
        · intro w5 hS hF hD K hK
          obtain ⟨e0, -⟩ := hF
          replace e0 : f 0 = _ := e0
          try simp only [e0]
          rw [if_pos (by rfl)]
          exact wp_of_quiet (exec_load_at _ _ rfl _ _ rfl _ _ _ (hS.heap HBX.out (fun h => h)) ((.int .i64 xa)) (by kernel_rfl) (fun _ => by kernel_rfl)) (hK.out _ _ rfl (After.lit rfl rfl rfl (by first | rfl | kernel_rfl)))
        · intro w5 hS hF hD K hK
          rw [if_pos (by rfl)]
          refine wp_of_quiet (v := (.int .i64 bY)) (by (show _ = _); kernel_rfl) (hK.out _ _ rfl (After.lit rfl rfl rfl ?_))
          first | rfl | kernel_rfl
        · intro w5 hS hF hD K hK
          rw [if_pos (by rfl)]
          refine wp_of_quiet (v := (.int .i64 (n : Int))) (by (show _ = _); kernel_rfl) (hK.out _ _ rfl (After.lit rfl rfl rfl ?_))
          first | rfl | kernel_rfl
        · intro w5 hS hF hD K hK
          obtain ⟨e2, e3, -⟩ := hF
          replace e2 : f 2 = _ := e2
          replace e3 : f 3 = _ := e3
          try simp only [e2, e3]
          rw [if_pos (by rfl)]
          go_simp
          refine hK.out _ _ rfl (After.lit rfl rfl rfl ?_)
          first | rfl | kernel_rfl
        · intro w5 hS hF hD K hK
          obtain ⟨e1, e4, -⟩ := hF
          replace e1 : f 1 = _ := e1
          replace e4 : f 4 = _ := e4
          try simp only [e1, e4]
          rw [if_pos (by rfl)]
          go_simp
          refine hK.out _ _ rfl (After.lit rfl rfl rfl ?_)
          first | rfl | kernel_rfl
        · intro w5 hS hF hD K hK
          rw [if_pos (by rfl)]
          refine wp_of_quiet (v := (.int .i64 (n : Int))) (by (show _ = _); kernel_rfl) (hK.out _ _ rfl (After.lit rfl rfl rfl ?_))
          first | rfl | kernel_rfl
        · intro w5 hS hF hD K hK
          obtain ⟨e5, e6, -⟩ := hF
          replace e5 : f 5 = _ := e5
          replace e6 : f 6 = _ := e6
          try simp only [e5, e6]
          rw [if_pos (by rfl)]
          go_simp
          refine (HMD.out xa (by omega) _).mono ?_; rintro e w9 ⟨rfl, rfl⟩; have hbelow := Below.refl w5.heap.size w5; go_simp
          refine hK.out _ _ rfl (After.litB rfl rfl rfl hbelow ?_)
          first | rfl | kernel_rfl
        intro w5 hS hF
        obtain ⟨e7, -⟩ := hF
        replace e7 : f 7 = _ := e7
        try simp only [e7]
        simp only [List.drop_succ_cons, List.drop_zero]
        have hb5 := hS.heap HBX.out (fun h => h)
        have f1 : w5.frozen? ⟨wr.heap.size, 1, none⟩ = false := frozen_of_row _ _ _ _ _ hb5
        have c1 : w5.cell? ⟨wr.heap.size, 1, none⟩ = some (.int .i64 xa) := by rw [cell_of_row _ _ _ _ _ _ hb5]; rfl
        have HS5 := Lib.hid (t1.trans hS (fun _ _ h => h))
        have HB5 := Lib.hid hb5
        clear hS hb5 hwa t1 hA
        go_upto_region 10 with fail
        obtain ⟨W6, hW6⟩ : ∃ W6, W6 = w5.setCell ⟨wr.heap.size, 1, none⟩ (.int .i64 (rotF n bt xa)) := ⟨_, rfl⟩
        have hb6 : W6.heap[wr.heap.size]? = some (.cells #[.int .i64 xk, .int .i64 (rotF n bt xa), .int .i64 xb, .int .i64 xn] 37 (0, 0)) := by rw [hW6]; exact (heap_setCell_same HB5.out _).trans rfl
        have ht6 : Turn (fun q => wr.heap.size ≤ q) wr W6 := by rw [hW6]; exact (HS5.out.mono (fun _ _ h => h.elim)).setCell _ (fun _ => Nat.le_refl _)
        rw [← hW6]
        have HB6 := Lib.hid hb6
        have HT6 := Lib.hid ht6
        have d0 : W6.cell? ⟨wr.heap.size, 0, none⟩ = some (.int .i64 xk) := by rw [cell_of_row _ _ _ _ _ _ hb6]; rfl
        have hrg := rot_range hn1 bt xa
        clear hW6 ht6 hb6 HB5 HS5 f1 c1 e7
        go_cut [68] (fun s68 wx => ∃ b : Bool, s68 = .bool b ∧ Hid (b = true ↔ (xk = 1 ∨ xk = 5 ∨ xk = 6 ∨ xk = 7)) ∧ wx = W6)
        case first =>
          by_cases hk : xk = 1 ∨ xk = 5 ∨ xk = 6 ∨ xk = 7
          · rcases hk with hk | hk | hk | hk
            all_goals
              subst hk
              go_wp2_with fail
              go_meet
              case rel => exact ⟨true, rfl, Lib.hid (by simp), rfl⟩
          · have HK := Lib.hid hk
            have e1 : (xk == 1) = false := by simp; omega
            have e5 : (xk == 5) = false := by simp; omega
            have e6 : (xk == 6) = false := by simp; omega
            have e7 : (xk == 7) = false := by simp; omega
            clear hk
            go_wp2_with fail
            go_meet
            case rel => exact ⟨false, rfl, Lib.hid ⟨fun h => (by cases h), fun h => absurd h HK.out⟩, rfl⟩
        case rest =>
        obtain ⟨b68, rfl, HB68, hw68⟩ := hcut
        subst hw68
        obtain ⟨W6, rfl⟩ : ∃ W : World, W = wc := ⟨_, rfl⟩
        go_upto_if 68 with fail
        go_cut [] (fun wx => Hid (wx.heap[wr.heap.size]? = some (.cells (conCells (renC (rotF n bt) ⟨xk, xa, xb, xn⟩)) 37 (0, 0))) ∧ Hid (Turn (fun q => q = wr.heap.size) W6 wx))
        case first =>
          cases b68
          · have hk : ¬ (xk = 1 ∨ xk = 5 ∨ xk = 6 ∨ xk = 7) := fun h => by have h9 := HB68.out.2 h; cases h9
            have HR2 := Lib.hid (show renC (rotF n bt) ⟨xk, xa, xb, xn⟩ = ⟨xk, rotF n bt xa, xb, xn⟩ by unfold renC; rw [if_neg hk])
            clear hk
            go_wp2_with fail
            go_meet
            case rel => exact ⟨Lib.hid (by rw [HR2.out]; exact HB6.out), Lib.hid (Turn.refl _ _)⟩
          · have hk := HB68.out.1 rfl
            have hxb := HXK.out hk
            have hwb : IntKind.i64.wrap (xb + bt) = xb + bt := IntWalk.i64_in _ (by omega)
            have HR2 := Lib.hid (show renC (rotF n bt) ⟨xk, xa, xb, xn⟩ = ⟨xk, rotF n bt xa, rotF n bt xb, xn⟩ by unfold renC; rw [if_pos hk])
            clear hk
            go_upto_region 11 with fail
            refine wp_region_relyT [] 8 (factOf [isV ((.pointer (some ⟨wr.heap.size, 2, none⟩))), isV ((.int .i64 xb)), isV ((.int .i64 bY)), isV ((.int .i64 (n : Int))), isV ((.int .i64 bt)), isV ((.int .i64 (xb + bt))), isV ((.int .i64 (n : Int))), isV ((.int .i64 (rotF n bt xb)))]) (nth [[0], [1], [2], [3], [4], [5], [6], [7]]) (nth [[], [], [], [], [], [], [], []]) (nth [[], [0], [], [], [2, 3], [1, 4], [], [5, 6]]) [7] (fun w5 => Turn (fun _ => False) W6 w5) (by kernel_rfl) (by kernel_rfl) ((Turn.refl _ _).drew) (fun w w' h hb => h.trans (Turn.ofBelow (bs := fun _ => False) hb) (fun _ _ h => h.elim)) (GrowsAll.of ((GrowsAll.cons (Grows.isV _)  (GrowsAll.cons (Grows.isV _)  (GrowsAll.cons (Grows.isV _)  (GrowsAll.cons (Grows.isV _)  (GrowsAll.cons (Grows.isV _)  (GrowsAll.cons (Grows.isV _)  (GrowsAll.cons (Grows.isV _)  (GrowsAll.cons (Grows.isV _) GrowsAll.nil)))))))))) (fun f F hF => ?_)
            simp only [List.take_succ_cons, List.take_zero, fullGo, Act.put, List.setIfInBounds_toArray, List.set_cons_zero, List.set_cons_succ, Nat.reduceAdd] at hF
            subst hF
            refine ⟨StepObsF.cons ?_ (StepObsF.cons ?_ (StepObsF.cons ?_ (StepObsF.cons ?_ (StepObsF.cons ?_ (StepObsF.cons ?_ (StepObsF.cons ?_ (StepObsF.cons ?_ (StepObsF.nil)))))))), ?_⟩
            · intro w7 hS hF hD K hK
              rw [if_pos (by rfl)]
              refine wp_of_quiet (v := (.pointer (some ⟨wr.heap.size, 2, none⟩))) (by (show _ = _); kernel_rfl) (hK.out _ _ rfl (After.lit rfl rfl rfl ?_))
              first | rfl | kernel_rfl
            · intro w7 hS hF hD K hK
              obtain ⟨e0, -⟩ := hF
              replace e0 : f 0 = _ := e0
              try simp only [e0]
              rw [if_pos (by rfl)]
              exact wp_of_quiet (exec_load_at _ _ rfl _ _ rfl _ _ _ (hS.heap HB6.out (fun h => h)) ((.int .i64 xb)) (by kernel_rfl) (fun _ => by kernel_rfl)) (hK.out _ _ rfl (After.lit rfl rfl rfl (by first | rfl | kernel_rfl)))
            · intro w7 hS hF hD K hK
              rw [if_pos (by rfl)]
              refine wp_of_quiet (v := (.int .i64 bY)) (by (show _ = _); kernel_rfl) (hK.out _ _ rfl (After.lit rfl rfl rfl ?_))
              first | rfl | kernel_rfl
            · intro w7 hS hF hD K hK
              rw [if_pos (by rfl)]
              refine wp_of_quiet (v := (.int .i64 (n : Int))) (by (show _ = _); kernel_rfl) (hK.out _ _ rfl (After.lit rfl rfl rfl ?_))
              first | rfl | kernel_rfl
            · intro w7 hS hF hD K hK
              obtain ⟨e2, e3, -⟩ := hF
              replace e2 : f 2 = _ := e2
              replace e3 : f 3 = _ := e3
              try simp only [e2, e3]
              rw [if_pos (by rfl)]
              go_simp
              refine hK.out _ _ rfl (After.lit rfl rfl rfl ?_)
              first | rfl | kernel_rfl
            · intro w7 hS hF hD K hK
              obtain ⟨e1, e4, -⟩ := hF
              replace e1 : f 1 = _ := e1
              replace e4 : f 4 = _ := e4
              try simp only [e1, e4]
              rw [if_pos (by rfl)]
              go_simp
              refine hK.out _ _ rfl (After.lit rfl rfl rfl ?_)
              first | rfl | kernel_rfl
            · intro w7 hS hF hD K hK
              rw [if_pos (by rfl)]
              refine wp_of_quiet (v := (.int .i64 (n : Int))) (by (show _ = _); kernel_rfl) (hK.out _ _ rfl (After.lit rfl rfl rfl ?_))
              first | rfl | kernel_rfl
            · intro w7 hS hF hD K hK
              obtain ⟨e5, e6, -⟩ := hF
              replace e5 : f 5 = _ := e5
              replace e6 : f 6 = _ := e6
              try simp only [e5, e6]
              rw [if_pos (by rfl)]
              go_simp
              refine (HMD.out xb (by omega) _).mono ?_; rintro e w9 ⟨rfl, rfl⟩; have hbelow := Below.refl w7.heap.size w7; go_simp
              refine hK.out _ _ rfl (After.litB rfl rfl rfl hbelow ?_)
              first | rfl | kernel_rfl
            intro w7 hS hF
            obtain ⟨e7, -⟩ := hF
            replace e7 : f 7 = _ := e7
            try simp only [e7]
            simp only [List.drop_succ_cons, List.drop_zero]
            have hb7 := hS.heap HB6.out (fun h => h)
            have f2 : w7.frozen? ⟨wr.heap.size, 2, none⟩ = false := frozen_of_row _ _ _ _ _ hb7
            have c2 : w7.cell? ⟨wr.heap.size, 2, none⟩ = some (.int .i64 xb) := by rw [cell_of_row _ _ _ _ _ _ hb7]; rfl
            have HS7 := Lib.hid hS
            have HB7 := Lib.hid hb7
            clear hS hb7 hwb
            go_wp2_with fail
            go_meet
            case rel => exact ⟨Lib.hid (by rw [HR2.out]; exact (heap_setCell_same HB7.out _).trans rfl), Lib.hid ((HS7.out.mono (fun _ _ h => h.elim)).setCell _ (fun _ => rfl))⟩
        case rest =>
          obtain ⟨HC1, HT1⟩ := hcut
          have HTT := Lib.hid (HT6.out.trans HT1.out (fun q _ h => by have h : q = wr.heap.size := h; omega))
          obtain ⟨c', hc'⟩ : ∃ c', c' = renC (rotF n bt) ⟨xk, xa, xb, xn⟩ := ⟨_, rfl⟩
          rw [← hc'] at HC1 HSN
          obtain ⟨ck, ca, cb, cn⟩ := c'
          have HC2 := Lib.hid (show wc.heap[wr.heap.size]? = some (.cells #[.int .i64 ck, .int .i64 ca, .int .i64 cb, .int .i64 cn] 37 (0, 0)) from HC1.out)
          have hszc : wr.heap.size ≤ wc.heap.size := HTT.out.size
          have HOC := Lib.hid (own_turn HOW9.out HTT.out (fun q hq h => by have h1 := (HOW9.out.lt q hq).2; have h : wr.heap.size ≤ q := h; omega))
          clear hc' HC1 d0 HT6 HT1 HB6
          go_wp2_with (first | (refine wpList_load_row rfl _ _ rfl _ rfl _ _ _ _ (HC2.out) rfl rfl ?_ ?_; kernel_rfl) | (at_builtin; refine wpList_append_own _ rfl _ _ 24 rfl w3.heap.size 37 j0 (.agg #[.int .i64 0, .int .i64 0, .int .i64 0, .int .i64 0]) 4 32 Tryd.underlying24 hj0 hy0 hy1 hy2 rfl (by decide) _ i (consV ((cs.take i).map (renC (rotF n bt)))) rfl (own_turn HOC.out ((Turn.refl (fun _ => False) _).alloc _) (fun _ _ h => h)) ⟨wc.heap.size, 0, none⟩ 1 1 [.int .i64 ck, .int .i64 ca, .int .i64 cb, .int .i64 cn] rfl rfl (cells_new _ _ _ _ rfl) (by intro u hu; simp at hu; rcases hu with rfl | rfl | rfl | rfl <;> rfl) (by unfold maxLen; omega) (by omega) (Nat.le_trans hszw (Nat.le_trans hszc (by simp))) ?_; intro v9 w9 hown9 hgrow9 _))
          have hT9 : Turn (fun q => w3.heap.size ≤ q) wr w9 := (HTT.out.mono (fun q _ h => Nat.le_trans hszw h)).trans (((Turn.refl (fun q => w3.heap.size ≤ q) wc).alloc _).grown hgrow9 (fun q e _ => (own_cells HOC.out q e).1)) (fun _ _ h => h)
          refine ⟨⟨_, i + 1, rfl, by go_num, by omega, Lib.hid ?_, Lib.hid (HT9.out.trans hT9 (fun _ _ h => h))⟩, by simp [intOf]; omega⟩
          rw [HSN.out, consV_snoc]
          exact hown9
      · have hin : i = cs.length := by omega
        subst hin
        go_wp2_with fail
        go_meet
        case rel => exact ⟨_, rfl, by rw [List.take_length] at HOW9; exact HOW9, HT9⟩
  case rest =>
    obtain ⟨v10, h10, HOW9, HT9⟩ := hcut
    obtain ⟨ox, cx, rfl⟩ := own_slice HOW9.out
    subst h10
    have hld : (cs.map (renC (rotF n bt))).length = cs.length := by simp
    have hnd : ¬ Clash (cs.map (renC (rotF n bt))) := fun h => HNC.out (HRN.out.clash.1 h)
    have HS1 := Lib.hid (solve_any n cs (by omega) wc co cp hmc1 ((own_cons HOW.out).2.below (HT9.out.toBelow (Nat.le_refl _) (fun _ h => h))))
    have HS2 := Lib.hid (fun W (hb : Below wc.heap.size wc W) => by
      have h9 := solve_any n (cs.map (renC (rotF n bt))) (by omega) W ox cx (by rw [hld]; exact (own_cap HOW9.out).1) ((own_cons HOW9.out).2.below hb)
      rw [hld] at h9; exact h9)
    have HBC := Lib.hid (HB3.out.trans ((HT9.out.toBelow (Nat.le_refl _) (fun _ h => h)).mono HB3.out.size))
    have hszc : w.heap.size ≤ wc.heap.size := HBC.out.size
    have HND := Lib.hid hnd
    clear HOW9 HT9 hnd
    go_upto_region 14 with (go_at_call 19; refine (HS1.out).mono ?_; rintro e w4 ⟨va, ra, ka, ea, rfl, hsa, hba, hra⟩)
    have HDA := Lib.hid (hsa.ok_rows (by omega) (by omega) HCS.out HNC.out)
    obtain ⟨rfl, hla, -⟩ := HDA.out
    have HBA := Lib.hid hba
    have HVA := Lib.hid hra.view
    clear hsa hba hra HS1
    go_upto_region 15 with (go_at_call 19; refine (HS2.out _ HBA.out).mono ?_; rintro e w5 ⟨vb, rb, kb, eb, rfl, hsb, hbb, hrb⟩)
    have HDB := Lib.hid (hsb.ok_rows (by omega) (by omega) HRN.out.right' HND.out)
    obtain ⟨rfl, hlb, -⟩ := HDB.out
    have HB5 := Lib.hid (HBA.out.trans (hbb.mono HBA.out.size))
    obtain ⟨aa, ca, rfl, hcaa, hga⟩ := HVA.out.below hbb
    obtain ⟨ga, oa, cca, rfl, hgh, hgc⟩ := hga (by omega)
    obtain ⟨ab, cb, rfl, hcab, hgb⟩ := hrb.view
    obtain ⟨gb, ob, ccb, rfl, hbh, hbc⟩ := hgb (by omega)
    have HGA := Lib.hid (And.intro hgh hgc)
    have HGB := Lib.hid (And.intro hbh hbc)
    have HL := Lib.hid (And.intro hla hlb)
    rw [hla] at hcaa ⊢
    rw [hlb] at hcab ⊢
    have hgl : ga < w5.heap.size := (Array.getElem?_eq_some_iff.1 hgh).1
    have hbl : gb < w5.heap.size := (Array.getElem?_eq_some_iff.1 hbh).1
    clear hsb hbb hrb hga hgb hgh hgc hbh hbc hla hlb HVA HS2 HBA hld
    go_upto_block 2 with fail
    go_wp2_with fail
    go_loopw [19, 20, 21, 22, 23] (fun s19 _ _ _ _ wr => ∃ k : Nat, s19 = .int .i64 k ∧ k ≤ n ∧ Hid (Turn (fun _ => False) w5 wr)) (fun s19 _ _ _ _ _ => n - (intOf s19).toNat)
    case atStart => exact ⟨0, rfl, Nat.zero_le _, Lib.hid (Turn.refl _ _)⟩
    case round =>
      obtain ⟨k, rfl, hk, HT9⟩ := hrel
      obtain ⟨wo, rfl⟩ : ∃ wo : World, wo = wr := ⟨_, rfl⟩
      by_cases hlt : k < n
      · obtain ⟨hla, hlb⟩ := HL.out
        have hfk := rot_range hn1 bt (k : Int)
        obtain ⟨fk, hfk2⟩ := Int.eq_ofNat_of_zero_le hfk.1
        have hfn : fk < n := by omega
        obtain ⟨r, hr⟩ : ∃ r, ra[k]? = some r := ⟨ra[k]'(by omega), List.getElem?_eq_getElem (by omega)⟩
        obtain ⟨y, hy⟩ : ∃ y, rb[fk]? = some y := ⟨rb[fk]'(by omega), List.getElem?_eq_getElem (by omega)⟩
        have dr := HDA.out.2.2 k r hr
        have dy := HDB.out.2.2 fk y hy
        rw [← hfk2] at dy
        have hlaw := HRN.out.desc HNC.out (v := (k : Int)) (by omega) dr dy
        have HDD := Lib.hid (And.intro dr dy)
        have HMD2 := Lib.hid (show ∀ W, Calls Tryd.prog 20 #[.int .i64 ((k : Int) + bt), .int .i64 (n : Int)] W (fun e w' => e = .returned (.int .i64 (fk : Int)) ∧ W = w') from fun W => by have h9 := HMD.out (k : Int) (by omega) W; rw [hfk2] at h9; exact h9)
        obtain ⟨am, cm, hmA, hfA, hxA, hcA⟩ := rows_row HGA.out.2 hr
        obtain ⟨bm, dm, hmB, hfB, hxB, hcB⟩ := rows_row HGB.out.2 hy
        have HXA := Lib.hid hxA
        have HXB := Lib.hid hxB
        have HMA := Lib.hid hmA
        have HMB := Lib.hid hmB
        have HGH := Lib.hid (HT9.out.heap HGA.out.1 (fun h => h))
        have HBH := Lib.hid (HT9.out.heap HGB.out.1 (fun h => h))
        clear hfk hfk2 hr hy dr dy hmA hxA hcA hmB hxB hcB hla hlb
        obtain ⟨rc, rs, rg, rp, re, rn, rf⟩ := r
        obtain ⟨yc, ys, yg, yp, ye, yn, yf⟩ := y
        obtain ⟨l1, l2, l3, l4, l5, l6⟩ := hlaw
        simp only at l1 l2 l3 l4 l5 l6 hfA hfB
        subst l1
        subst l2
        subst l3
        have HLL := Lib.hid (show rf.length = yf.length by have := congrArg List.length l6; simpa using this)
        have HL6 := Lib.hid l6
        clear l6
        go_upto_region 21 with (first | (refine wpList_val (by rfl) (exec_load_midB 44 _ rfl ga (oa + k * 7) rfl cca 44 (0, 0) HGH.out (rowCells ⟨rc, rs, rg, rp, re, rn, rf⟩ (.slice am rf.length cm)) HXA.out (by kernel_rfl)) ?_) | (refine wpList_store_row rfl _ _ _ rfl _ _ rfl rfl _ _ (heap_alloc_new _ _) ?_ ?_ ?_ ?_; kernel_rfl; rfl; kernel_rfl; rw [World.setRow_alloc_new]))
        obtain ⟨W, hW⟩ : ∃ W, W = wo.alloc (.cells #[.int .i64 rc, .int .i64 rs, .int .i64 rg, .int .i64 rp, .int .i64 re, .int .i64 rn, .slice am rf.length cm] 44) := ⟨_, rfl⟩
        change Code.wp _ _ _ _ (wo.alloc (.cells #[.int .i64 rc, .int .i64 rs, .int .i64 rg, .int .i64 rp, .int .i64 re, .int .i64 rn, .slice am rf.length cm] 44))
        rw [← hW]
        have t1 : Turn (fun _ => False) wo W := by rw [hW]; exact (Turn.refl _ _).alloc _
        have HBX1 := Lib.hid (show W.heap[wo.heap.size]? = some (.cells #[.int .i64 rc, .int .i64 rs, .int .i64 rg, .int .i64 rp, .int .i64 re, .int .i64 rn, .slice am rf.length cm] 44 (0, 0)) by rw [hW]; exact heap_alloc_new _ _)
        have hws : W.heap.size = wo.heap.size + 1 := by rw [hW]; simp
        have HWS := Lib.hid hws
        have HT1 := Lib.hid t1
        have HBH1 := Lib.hid (t1.heap HBH.out (fun h => h))
        clear hW t1 hws
        go_upto_region 22 with (first | (go_at_call 20; (with_reducible refine (HMD2.out _).mono ?_); rintro e w2 ⟨rfl, rfl⟩) | (refine wpList_val (by rfl) (exec_load_midB 44 _ rfl gb (ob + fk * 7) rfl ccb 44 (0, 0) HBH1.out (rowCells ⟨yc, rs, rg, yp, ye, rn, yf⟩ (.slice bm yf.length dm)) HXB.out (by kernel_rfl)) ?_) | (refine wpList_store_row rfl _ _ _ rfl _ _ rfl rfl _ _ (heap_alloc_new _ _) ?_ ?_ ?_ ?_; kernel_rfl; rfl; kernel_rfl; rw [World.setRow_alloc_new]))
        obtain ⟨W2, hW2⟩ : ∃ W2, W2 = W.alloc (.cells #[.int .i64 yc, .int .i64 rs, .int .i64 rg, .int .i64 yp, .int .i64 ye, .int .i64 rn, .slice bm yf.length dm] 44) := ⟨_, rfl⟩
        change Code.wp _ _ _ _ (W.alloc (.cells #[.int .i64 yc, .int .i64 rs, .int .i64 rg, .int .i64 yp, .int .i64 ye, .int .i64 rn, .slice bm yf.length dm] 44))
        rw [← hW2]
        have t2 : Turn (fun _ => False) wo W2 := by rw [hW2]; exact HT1.out.trans ((Turn.refl _ _).alloc _) (fun _ _ h => h)
        have hbx : W2.heap[wo.heap.size]? = some (.cells #[.int .i64 rc, .int .i64 rs, .int .i64 rg, .int .i64 rp, .int .i64 re, .int .i64 rn, .slice am rf.length cm] 44 (0, 0)) := by rw [hW2]; exact (((Turn.refl (fun _ => False) W).alloc _)).heap HBX1.out (fun h => h)
        have hby : W2.heap[W.heap.size]? = some (.cells #[.int .i64 yc, .int .i64 rs, .int .i64 rg, .int .i64 yp, .int .i64 ye, .int .i64 rn, .slice bm yf.length dm] 44 (0, 0)) := by rw [hW2]; exact heap_alloc_new _ _
        have hll := HLL.out
        have HT2 := Lib.hid t2
        have HBX := Lib.hid hbx
        have HBY := Lib.hid hby
        have x1 : W2.cell? ⟨wo.heap.size, 1, none⟩ = some (.int .i64 rs) := by rw [cell_of_row _ _ _ _ _ _ hbx]; rfl
        have x2 : W2.cell? ⟨wo.heap.size, 2, none⟩ = some (.int .i64 rg) := by rw [cell_of_row _ _ _ _ _ _ hbx]; rfl
        have x3 : W2.cell? ⟨wo.heap.size, 3, none⟩ = some (.int .i64 rp) := by rw [cell_of_row _ _ _ _ _ _ hbx]; rfl
        have x4 : W2.cell? ⟨wo.heap.size, 4, none⟩ = some (.int .i64 re) := by rw [cell_of_row _ _ _ _ _ _ hbx]; rfl
        have x5 : W2.cell? ⟨wo.heap.size, 5, none⟩ = some (.int .i64 rn) := by rw [cell_of_row _ _ _ _ _ _ hbx]; rfl
        have x6 : W2.cell? ⟨wo.heap.size, 6, none⟩ = some (.slice am rf.length cm) := by rw [cell_of_row _ _ _ _ _ _ hbx]; rfl
        have y1 : W2.cell? ⟨W.heap.size, 1, none⟩ = some (.int .i64 rs) := by rw [cell_of_row _ _ _ _ _ _ hby]; rfl
        have y2 : W2.cell? ⟨W.heap.size, 2, none⟩ = some (.int .i64 rg) := by rw [cell_of_row _ _ _ _ _ _ hby]; rfl
        have y3 : W2.cell? ⟨W.heap.size, 3, none⟩ = some (.int .i64 yp) := by rw [cell_of_row _ _ _ _ _ _ hby]; rfl
        have y4 : W2.cell? ⟨W.heap.size, 4, none⟩ = some (.int .i64 ye) := by rw [cell_of_row _ _ _ _ _ _ hby]; rfl
        have y5 : W2.cell? ⟨W.heap.size, 5, none⟩ = some (.int .i64 rn) := by rw [cell_of_row _ _ _ _ _ _ hby]; rfl
        have y6 : W2.cell? ⟨W.heap.size, 6, none⟩ = some (.slice bm yf.length dm) := by rw [cell_of_row _ _ _ _ _ _ hby]; rfl
        clear hW2 t2 hbx hby HGH HBH HXA HXB HBX1 HT1 HBH1
        simp only [Act.put]
        go_cut [178] (fun s178 wx => s178 = .bool false ∧ wx = W2)
        case first =>
          by_cases hp : rp < 0
          · have hp2 := l4.1 hp
            by_cases he : re < 0
            · have he2 := l5.1 he
              go_wp2_with fail
              go_meet
              case rel => exact ⟨rfl, rfl⟩
            · have he2 : ¬ ye < 0 := fun h => he (l5.2 h)
              go_wp2_with fail
              go_meet
              case rel => exact ⟨rfl, rfl⟩
          · have hp2 : ¬ yp < 0 := fun h => hp (l4.2 h)
            by_cases he : re < 0
            · have he2 := l5.1 he
              go_wp2_with fail
              go_meet
              case rel => exact ⟨rfl, rfl⟩
            · have he2 : ¬ ye < 0 := fun h => he (l5.2 h)
              go_wp2_with fail
              go_meet
              case rel => exact ⟨rfl, rfl⟩
        case rest =>
          obtain ⟨rfl, hw2⟩ := hcut
          subst hw2
          obtain ⟨W2, rfl⟩ : ∃ W : World, W = wc := ⟨_, rfl⟩
          clear x1 x2 x3 x4 x5 x6 y1 y2 y3 y4 y5 y6 l4 l5 hll
          go_upto_block 4 with fail
          go_cut [22] (fun _ wx => Hid (Turn (fun _ => False) W2 wx))
          case first =>
            go_wp2_with fail
            go_loopw [22] (fun s22 wr => ∃ j : Nat, s22 = .int .i64 j ∧ j ≤ n ∧ Hid (Turn (fun _ => False) W2 wr)) (fun s22 _ => n - (intOf s22).toNat)
            case atStart => exact ⟨0, rfl, Nat.zero_le _, Lib.hid (Turn.refl _ _)⟩
            case round =>
              obtain ⟨j, rfl, hj, HTj⟩ := hrel
              by_cases hjn : j < n
              · obtain ⟨hla, hlb⟩ := HL.out
                have hfj := rot_range hn1 bt (j : Int)
                obtain ⟨fj, hfj2⟩ := Int.eq_ofNat_of_zero_le hfj.1
                have hfjn : fj < n := by omega
                obtain ⟨q, hq⟩ : ∃ q, ra[j]? = some q := ⟨ra[j]'(by omega), List.getElem?_eq_getElem (by omega)⟩
                obtain ⟨zz, hzz⟩ : ∃ q, rb[fj]? = some q := ⟨rb[fj]'(by omega), List.getElem?_eq_getElem (by omega)⟩
                have dq := HDA.out.2.2 j q hq
                have dz := HDB.out.2.2 fj zz hzz
                rw [← hfj2] at dz
                have hcl := HRN.out.cls (u := (k : Int)) (v := (j : Int)) (by omega) (by omega) HDD.out.1 dq HDD.out.2 dz
                have HMD3 := Lib.hid (show ∀ W, Calls Tryd.prog 20 #[.int .i64 ((j : Int) + bt), .int .i64 (n : Int)] W (fun e w' => e = .returned (.int .i64 (fj : Int)) ∧ W = w') from fun W => by have h9 := HMD.out (j : Int) (by omega) W; rw [hfj2] at h9; exact h9)
                have HQ := Lib.hid (show cca[oa + j * 7]? = some (.int .i64 q.cls) by obtain ⟨_, _, -, -, -, h4⟩ := rows_row HGA.out.2 hq; exact h4 0 (by omega))
                have HZ := Lib.hid (show ccb[ob + fj * 7]? = some (.int .i64 zz.cls) by obtain ⟨_, _, -, -, -, h4⟩ := rows_row HGB.out.2 hzz; exact h4 0 (by omega))
                have HGAj := Lib.hid (((HT9.out.trans HT2.out (fun _ _ h => h)).trans HTj.out (fun _ _ h => h)).heap HGA.out.1 (fun h => h))
                have HGBj := Lib.hid (((HT9.out.trans HT2.out (fun _ _ h => h)).trans HTj.out (fun _ _ h => h)).heap HGB.out.1 (fun h => h))
                have HBXj := Lib.hid (HTj.out.heap HBX.out (fun h => h))
                have HBYj := Lib.hid (HTj.out.heap HBY.out (fun h => h))
                obtain ⟨qc, hqc⟩ : ∃ qc, qc = q.cls := ⟨_, rfl⟩
                obtain ⟨zc, hzc⟩ : ∃ zc, zc = zz.cls := ⟨_, rfl⟩
                rw [← hqc] at HQ hcl
                rw [← hzc] at HZ hcl
                have hwj : IntKind.i64.wrap ((j : Int) + bt) = (j : Int) + bt := IntWalk.i64_in _ (by omega)
                clear hfj hfj2 hq hzz dq dz hla hlb hqc hzc
                go_upto_region 27 with fail
                by_cases heq : rc = qc
                · have heq2 := hcl.1 heq
                  subst heq
                  subst heq2
                  clear hcl
                  refine wp_region_relyT [] 23 (factOf [isV ((.pointer (some ⟨wo.heap.size, 0, none⟩))), isV ((.int .i64 rc)), isV ((.slice (some ⟨ga, oa, none⟩) n ca)), isV ((.int .i64 (j : Int))), isV ((.pointer (some ⟨ga, oa + j * 7, none⟩))), isV ((.pointer (some ⟨ga, oa + j * 7, none⟩))), isV ((.int .i64 rc)), isV ((.bool true)), isV ((.pointer (some ⟨W.heap.size, 0, none⟩))), isV ((.int .i64 yc)), isV ((.slice (some ⟨gb, ob, none⟩) n cb)), isV ((.int .i64 (j : Int))), isV ((.int .i64 bY)), isV ((.int .i64 (n : Int))), isV ((.int .i64 bt)), isV ((.int .i64 ((j : Int) + bt))), isV ((.int .i64 (n : Int))), isV ((.int .i64 (fj : Int))), isV ((.pointer (some ⟨gb, ob + fj * 7, none⟩))), isV ((.pointer (some ⟨gb, ob + fj * 7, none⟩))), isV ((.int .i64 yc)), isV ((.bool true)), isV ((.bool false))]) (nth [[0], [1], [2], [3], [4], [5], [6], [7], [8], [9], [10], [11], [12], [13], [14], [15], [16], [17], [18], [19], [20], [21], [22]]) (nth [[], [], [], [], [], [], [], [], [], [], [], [], [], [], [], [], [], [], [], [], [], [], []]) (nth [[], [0], [], [], [2, 3], [4], [5], [1, 6], [], [8], [], [], [], [], [12, 13], [11, 14], [], [15, 16], [10, 17], [18], [19], [9, 20], [7, 21]]) [22] (fun w5 => Turn (fun _ => False) wr w5) (by kernel_rfl) (by kernel_rfl) ((Turn.refl _ _).drew) (fun w w' h hb => h.trans (Turn.ofBelow (bs := fun _ => False) hb) (fun _ _ h => h.elim)) (GrowsAll.of ((GrowsAll.cons (Grows.isV _)  (GrowsAll.cons (Grows.isV _)  (GrowsAll.cons (Grows.isV _)  (GrowsAll.cons (Grows.isV _)  (GrowsAll.cons (Grows.isV _)  (GrowsAll.cons (Grows.isV _)  (GrowsAll.cons (Grows.isV _)  (GrowsAll.cons (Grows.isV _)  (GrowsAll.cons (Grows.isV _)  (GrowsAll.cons (Grows.isV _)  (GrowsAll.cons (Grows.isV _)  (GrowsAll.cons (Grows.isV _)  (GrowsAll.cons (Grows.isV _)  (GrowsAll.cons (Grows.isV _)  (GrowsAll.cons (Grows.isV _)  (GrowsAll.cons (Grows.isV _)  (GrowsAll.cons (Grows.isV _)  (GrowsAll.cons (Grows.isV _)  (GrowsAll.cons (Grows.isV _)  (GrowsAll.cons (Grows.isV _)  (GrowsAll.cons (Grows.isV _)  (GrowsAll.cons (Grows.isV _)  (GrowsAll.cons (Grows.isV _) GrowsAll.nil))))))))))))))))))))))))) (fun f F hF => ?_)
                  simp only [List.take_succ_cons, List.take_zero, fullGo, Act.put, List.setIfInBounds_toArray, List.set_cons_zero, List.set_cons_succ, Nat.reduceAdd] at hF
                  subst hF
                  refine ⟨StepObsF.cons ?_ (StepObsF.cons ?_ (StepObsF.cons ?_ (StepObsF.cons ?_ (StepObsF.cons ?_ (StepObsF.cons ?_ (StepObsF.cons ?_ (StepObsF.cons ?_ (StepObsF.cons ?_ (StepObsF.cons ?_ (StepObsF.cons ?_ (StepObsF.cons ?_ (StepObsF.cons ?_ (StepObsF.cons ?_ (StepObsF.cons ?_ (StepObsF.cons ?_ (StepObsF.cons ?_ (StepObsF.cons ?_ (StepObsF.cons ?_ (StepObsF.cons ?_ (StepObsF.cons ?_ (StepObsF.cons ?_ (StepObsF.cons ?_ (StepObsF.nil))))))))))))))))))))))), ?_⟩
                  · intro w6 hS hF hD K hK
                    rw [if_pos (by rfl)]
                    refine wp_of_quiet (v := (.pointer (some ⟨wo.heap.size, 0, none⟩))) (by (show _ = _); kernel_rfl) (hK.out _ _ rfl (After.lit rfl rfl rfl ?_))
                    first | rfl | kernel_rfl
                  · intro w6 hS hF hD K hK
                    obtain ⟨e0, -⟩ := hF
                    replace e0 : f 0 = _ := e0
                    try simp only [e0]
                    rw [if_pos (by rfl)]
                    exact wp_of_quiet (exec_load_at _ _ rfl _ _ rfl _ _ _ (hS.heap HBXj.out (fun h => h)) ((.int .i64 rc)) (by kernel_rfl) (fun _ => by kernel_rfl)) (hK.out _ _ rfl (After.lit rfl rfl rfl (by first | rfl | kernel_rfl)))
                  · intro w6 hS hF hD K hK
                    rw [if_pos (by rfl)]
                    refine wp_of_quiet (v := (.slice (some ⟨ga, oa, none⟩) n ca)) (by (show _ = _); kernel_rfl) (hK.out _ _ rfl (After.lit rfl rfl rfl ?_))
                    first | rfl | kernel_rfl
                  · intro w6 hS hF hD K hK
                    rw [if_pos (by rfl)]
                    refine wp_of_quiet (v := (.int .i64 (j : Int))) (by (show _ = _); kernel_rfl) (hK.out _ _ rfl (After.lit rfl rfl rfl ?_))
                    first | rfl | kernel_rfl
                  · intro w6 hS hF hD K hK
                    obtain ⟨e2, e3, -⟩ := hF
                    replace e2 : f 2 = _ := e2
                    replace e3 : f 3 = _ := e3
                    try simp only [e2, e3]
                    rw [if_pos (by rfl)]
                    go_simp
                    refine hK.out _ _ rfl (After.lit rfl rfl rfl ?_)
                    first | rfl | kernel_rfl
                  · intro w6 hS hF hD K hK
                    obtain ⟨e4, -⟩ := hF
                    replace e4 : f 4 = _ := e4
                    try simp only [e4]
                    rw [if_pos (by rfl)]
                    refine wp_of_quiet (v := (.pointer (some ⟨ga, oa + j * 7, none⟩))) (by (show _ = _); kernel_rfl) (hK.out _ _ rfl (After.lit rfl rfl rfl ?_))
                    first | rfl | kernel_rfl
                  · intro w6 hS hF hD K hK
                    obtain ⟨e5, -⟩ := hF
                    replace e5 : f 5 = _ := e5
                    try simp only [e5]
                    rw [if_pos (by rfl)]
                    exact wp_of_quiet (exec_load_at _ _ rfl _ _ rfl _ _ _ (hS.heap HGAj.out (fun h => h)) ((.int .i64 rc)) (HQ.out) (fun _ => by kernel_rfl)) (hK.out _ _ rfl (After.lit rfl rfl rfl (by first | rfl | kernel_rfl)))
                  · intro w6 hS hF hD K hK
                    obtain ⟨e1, e6, -⟩ := hF
                    replace e1 : f 1 = _ := e1
                    replace e6 : f 6 = _ := e6
                    try simp only [e1, e6]
                    rw [if_pos (by rfl)]
                    go_simp
                    refine hK.out _ _ rfl (After.lit rfl rfl rfl ?_)
                    first | rfl | kernel_rfl
                  · intro w6 hS hF hD K hK
                    rw [if_pos (by rfl)]
                    refine wp_of_quiet (v := (.pointer (some ⟨W.heap.size, 0, none⟩))) (by (show _ = _); kernel_rfl) (hK.out _ _ rfl (After.lit rfl rfl rfl ?_))
                    first | rfl | kernel_rfl
                  · intro w6 hS hF hD K hK
                    obtain ⟨e8, -⟩ := hF
                    replace e8 : f 8 = _ := e8
                    try simp only [e8]
                    rw [if_pos (by rfl)]
                    exact wp_of_quiet (exec_load_at _ _ rfl _ _ rfl _ _ _ (hS.heap HBYj.out (fun h => h)) ((.int .i64 yc)) (by kernel_rfl) (fun _ => by kernel_rfl)) (hK.out _ _ rfl (After.lit rfl rfl rfl (by first | rfl | kernel_rfl)))
                  · intro w6 hS hF hD K hK
                    rw [if_pos (by rfl)]
                    refine wp_of_quiet (v := (.slice (some ⟨gb, ob, none⟩) n cb)) (by (show _ = _); kernel_rfl) (hK.out _ _ rfl (After.lit rfl rfl rfl ?_))
                    first | rfl | kernel_rfl
                  · intro w6 hS hF hD K hK
                    rw [if_pos (by rfl)]
                    refine wp_of_quiet (v := (.int .i64 (j : Int))) (by (show _ = _); kernel_rfl) (hK.out _ _ rfl (After.lit rfl rfl rfl ?_))
                    first | rfl | kernel_rfl
                  · intro w6 hS hF hD K hK
                    rw [if_pos (by rfl)]
                    refine wp_of_quiet (v := (.int .i64 bY)) (by (show _ = _); kernel_rfl) (hK.out _ _ rfl (After.lit rfl rfl rfl ?_))
                    first | rfl | kernel_rfl
                  · intro w6 hS hF hD K hK
                    rw [if_pos (by rfl)]
                    refine wp_of_quiet (v := (.int .i64 (n : Int))) (by (show _ = _); kernel_rfl) (hK.out _ _ rfl (After.lit rfl rfl rfl ?_))
                    first | rfl | kernel_rfl
                  · intro w6 hS hF hD K hK
                    obtain ⟨e12, e13, -⟩ := hF
                    replace e12 : f 12 = _ := e12
                    replace e13 : f 13 = _ := e13
                    try simp only [e12, e13]
                    rw [if_pos (by rfl)]
                    go_simp
                    refine hK.out _ _ rfl (After.lit rfl rfl rfl ?_)
                    first | rfl | kernel_rfl
                  · intro w6 hS hF hD K hK
                    obtain ⟨e11, e14, -⟩ := hF
                    replace e11 : f 11 = _ := e11
                    replace e14 : f 14 = _ := e14
                    try simp only [e11, e14]
                    rw [if_pos (by rfl)]
                    go_simp
                    refine hK.out _ _ rfl (After.lit rfl rfl rfl ?_)
                    first | rfl | kernel_rfl
                  · intro w6 hS hF hD K hK
                    rw [if_pos (by rfl)]
                    refine wp_of_quiet (v := (.int .i64 (n : Int))) (by (show _ = _); kernel_rfl) (hK.out _ _ rfl (After.lit rfl rfl rfl ?_))
                    first | rfl | kernel_rfl
                  · intro w6 hS hF hD K hK
                    obtain ⟨e15, e16, -⟩ := hF
                    replace e15 : f 15 = _ := e15
                    replace e16 : f 16 = _ := e16
                    try simp only [e15, e16]
                    rw [if_pos (by rfl)]
                    go_simp
                    refine (HMD3.out _).mono ?_; rintro e w9 ⟨rfl, rfl⟩; have hbelow := Below.refl w6.heap.size w6; go_simp
                    refine hK.out _ _ rfl (After.litB rfl rfl rfl hbelow ?_)
                    first | rfl | kernel_rfl
                  · intro w6 hS hF hD K hK
                    obtain ⟨e10, e17, -⟩ := hF
                    replace e10 : f 10 = _ := e10
                    replace e17 : f 17 = _ := e17
                    try simp only [e10, e17]
                    rw [if_pos (by rfl)]
                    go_simp
                    refine hK.out _ _ rfl (After.lit rfl rfl rfl ?_)
                    first | rfl | kernel_rfl
                  · intro w6 hS hF hD K hK
                    obtain ⟨e18, -⟩ := hF
                    replace e18 : f 18 = _ := e18
                    try simp only [e18]
                    rw [if_pos (by rfl)]
                    refine wp_of_quiet (v := (.pointer (some ⟨gb, ob + fj * 7, none⟩))) (by (show _ = _); kernel_rfl) (hK.out _ _ rfl (After.lit rfl rfl rfl ?_))
                    first | rfl | kernel_rfl
                  · intro w6 hS hF hD K hK
                    obtain ⟨e19, -⟩ := hF
                    replace e19 : f 19 = _ := e19
                    try simp only [e19]
                    rw [if_pos (by rfl)]
                    exact wp_of_quiet (exec_load_at _ _ rfl _ _ rfl _ _ _ (hS.heap HGBj.out (fun h => h)) ((.int .i64 yc)) (HZ.out) (fun _ => by kernel_rfl)) (hK.out _ _ rfl (After.lit rfl rfl rfl (by first | rfl | kernel_rfl)))
                  · intro w6 hS hF hD K hK
                    obtain ⟨e9, e20, -⟩ := hF
                    replace e9 : f 9 = _ := e9
                    replace e20 : f 20 = _ := e20
                    try simp only [e9, e20]
                    rw [if_pos (by rfl)]
                    go_simp
                    refine hK.out _ _ rfl (After.lit rfl rfl rfl ?_)
                    first | rfl | kernel_rfl
                  · intro w6 hS hF hD K hK
                    obtain ⟨e7, e21, -⟩ := hF
                    replace e7 : f 7 = _ := e7
                    replace e21 : f 21 = _ := e21
                    try simp only [e7, e21]
                    rw [if_pos (by rfl)]
                    refine wp_of_quiet (v := (.bool false)) (by (show _ = _); kernel_rfl) (hK.out _ _ rfl (After.lit rfl rfl rfl ?_))
                    first | rfl | kernel_rfl
                  intro w6 hS hF
                  obtain ⟨e22, -⟩ := hF
                  replace e22 : f 22 = _ := e22
                  try simp only [e22]
                  simp only [List.drop_succ_cons, List.drop_zero]
                  have HSj := Lib.hid hS
                  clear hS
                  go_wp2_with fail
                  exact ⟨⟨j + 1, by go_num, by omega, Lib.hid (HTj.out.trans HSj.out (fun _ _ h => h))⟩, by simp [intOf]; omega⟩
                · have heq2 : ¬ yc = zc := fun h => heq (hcl.2 h)
                  have b1 : (rc == qc) = false := by simpa using heq
                  have b2 : (yc == zc) = false := by simpa using heq2
                  clear hcl
                  refine wp_region_relyT [] 23 (factOf [isV ((.pointer (some ⟨wo.heap.size, 0, none⟩))), isV ((.int .i64 rc)), isV ((.slice (some ⟨ga, oa, none⟩) n ca)), isV ((.int .i64 (j : Int))), isV ((.pointer (some ⟨ga, oa + j * 7, none⟩))), isV ((.pointer (some ⟨ga, oa + j * 7, none⟩))), isV ((.int .i64 qc)), isV ((.bool false)), isV ((.pointer (some ⟨W.heap.size, 0, none⟩))), isV ((.int .i64 yc)), isV ((.slice (some ⟨gb, ob, none⟩) n cb)), isV ((.int .i64 (j : Int))), isV ((.int .i64 bY)), isV ((.int .i64 (n : Int))), isV ((.int .i64 bt)), isV ((.int .i64 ((j : Int) + bt))), isV ((.int .i64 (n : Int))), isV ((.int .i64 (fj : Int))), isV ((.pointer (some ⟨gb, ob + fj * 7, none⟩))), isV ((.pointer (some ⟨gb, ob + fj * 7, none⟩))), isV ((.int .i64 zc)), isV ((.bool false)), isV ((.bool false))]) (nth [[0], [1], [2], [3], [4], [5], [6], [7], [8], [9], [10], [11], [12], [13], [14], [15], [16], [17], [18], [19], [20], [21], [22]]) (nth [[], [], [], [], [], [], [], [], [], [], [], [], [], [], [], [], [], [], [], [], [], [], []]) (nth [[], [0], [], [], [2, 3], [4], [5], [1, 6], [], [8], [], [], [], [], [12, 13], [11, 14], [], [15, 16], [10, 17], [18], [19], [9, 20], [7, 21]]) [22] (fun w5 => Turn (fun _ => False) wr w5) (by kernel_rfl) (by kernel_rfl) ((Turn.refl _ _).drew) (fun w w' h hb => h.trans (Turn.ofBelow (bs := fun _ => False) hb) (fun _ _ h => h.elim)) (GrowsAll.of ((GrowsAll.cons (Grows.isV _)  (GrowsAll.cons (Grows.isV _)  (GrowsAll.cons (Grows.isV _)  (GrowsAll.cons (Grows.isV _)  (GrowsAll.cons (Grows.isV _)  (GrowsAll.cons (Grows.isV _)  (GrowsAll.cons (Grows.isV _)  (GrowsAll.cons (Grows.isV _)  (GrowsAll.cons (Grows.isV _)  (GrowsAll.cons (Grows.isV _)  (GrowsAll.cons (Grows.isV _)  (GrowsAll.cons (Grows.isV _)  (GrowsAll.cons (Grows.isV _)  (GrowsAll.cons (Grows.isV _)  (GrowsAll.cons (Grows.isV _)  (GrowsAll.cons (Grows.isV _)  (GrowsAll.cons (Grows.isV _)  (GrowsAll.cons (Grows.isV _)  (GrowsAll.cons (Grows.isV _)  (GrowsAll.cons (Grows.isV _)  (GrowsAll.cons (Grows.isV _)  (GrowsAll.cons (Grows.isV _)  (GrowsAll.cons (Grows.isV _) GrowsAll.nil))))))))))))))))))))))))) (fun f F hF => ?_)
                  simp only [List.take_succ_cons, List.take_zero, fullGo, Act.put, List.setIfInBounds_toArray, List.set_cons_zero, List.set_cons_succ, Nat.reduceAdd] at hF
                  subst hF
                  refine ⟨StepObsF.cons ?_ (StepObsF.cons ?_ (StepObsF.cons ?_ (StepObsF.cons ?_ (StepObsF.cons ?_ (StepObsF.cons ?_ (StepObsF.cons ?_ (StepObsF.cons ?_ (StepObsF.cons ?_ (StepObsF.cons ?_ (StepObsF.cons ?_ (StepObsF.cons ?_ (StepObsF.cons ?_ (StepObsF.cons ?_ (StepObsF.cons ?_ (StepObsF.cons ?_ (StepObsF.cons ?_ (StepObsF.cons ?_ (StepObsF.cons ?_ (StepObsF.cons ?_ (StepObsF.cons ?_ (StepObsF.cons ?_ (StepObsF.cons ?_ (StepObsF.nil))))))))))))))))))))))), ?_⟩
                  · intro w6 hS hF hD K hK
                    rw [if_pos (by rfl)]
                    refine wp_of_quiet (v := (.pointer (some ⟨wo.heap.size, 0, none⟩))) (by (show _ = _); kernel_rfl) (hK.out _ _ rfl (After.lit rfl rfl rfl ?_))
                    first | rfl | kernel_rfl
                  · intro w6 hS hF hD K hK
                    obtain ⟨e0, -⟩ := hF
                    replace e0 : f 0 = _ := e0
                    try simp only [e0]
                    rw [if_pos (by rfl)]
                    exact wp_of_quiet (exec_load_at _ _ rfl _ _ rfl _ _ _ (hS.heap HBXj.out (fun h => h)) ((.int .i64 rc)) (by kernel_rfl) (fun _ => by kernel_rfl)) (hK.out _ _ rfl (After.lit rfl rfl rfl (by first | rfl | kernel_rfl)))
                  · intro w6 hS hF hD K hK
                    rw [if_pos (by rfl)]
                    refine wp_of_quiet (v := (.slice (some ⟨ga, oa, none⟩) n ca)) (by (show _ = _); kernel_rfl) (hK.out _ _ rfl (After.lit rfl rfl rfl ?_))
                    first | rfl | kernel_rfl
                  · intro w6 hS hF hD K hK
                    rw [if_pos (by rfl)]
                    refine wp_of_quiet (v := (.int .i64 (j : Int))) (by (show _ = _); kernel_rfl) (hK.out _ _ rfl (After.lit rfl rfl rfl ?_))
                    first | rfl | kernel_rfl
                  · intro w6 hS hF hD K hK
                    obtain ⟨e2, e3, -⟩ := hF
                    replace e2 : f 2 = _ := e2
                    replace e3 : f 3 = _ := e3
                    try simp only [e2, e3]
                    rw [if_pos (by rfl)]
                    go_simp
                    refine hK.out _ _ rfl (After.lit rfl rfl rfl ?_)
                    first | rfl | kernel_rfl
                  · intro w6 hS hF hD K hK
                    obtain ⟨e4, -⟩ := hF
                    replace e4 : f 4 = _ := e4
                    try simp only [e4]
                    rw [if_pos (by rfl)]
                    refine wp_of_quiet (v := (.pointer (some ⟨ga, oa + j * 7, none⟩))) (by (show _ = _); kernel_rfl) (hK.out _ _ rfl (After.lit rfl rfl rfl ?_))
                    first | rfl | kernel_rfl
                  · intro w6 hS hF hD K hK
                    obtain ⟨e5, -⟩ := hF
                    replace e5 : f 5 = _ := e5
                    try simp only [e5]
                    rw [if_pos (by rfl)]
                    exact wp_of_quiet (exec_load_at _ _ rfl _ _ rfl _ _ _ (hS.heap HGAj.out (fun h => h)) ((.int .i64 qc)) (HQ.out) (fun _ => by kernel_rfl)) (hK.out _ _ rfl (After.lit rfl rfl rfl (by first | rfl | kernel_rfl)))
                  · intro w6 hS hF hD K hK
                    obtain ⟨e1, e6, -⟩ := hF
                    replace e1 : f 1 = _ := e1
                    replace e6 : f 6 = _ := e6
                    try simp only [e1, e6]
                    rw [if_pos (by rfl)]
                    go_simp
                    refine hK.out _ _ rfl (After.lit rfl rfl rfl ?_)
                    first | rfl | kernel_rfl
                  · intro w6 hS hF hD K hK
                    rw [if_pos (by rfl)]
                    refine wp_of_quiet (v := (.pointer (some ⟨W.heap.size, 0, none⟩))) (by (show _ = _); kernel_rfl) (hK.out _ _ rfl (After.lit rfl rfl rfl ?_))
                    first | rfl | kernel_rfl
                  · intro w6 hS hF hD K hK
                    obtain ⟨e8, -⟩ := hF
                    replace e8 : f 8 = _ := e8
                    try simp only [e8]
                    rw [if_pos (by rfl)]
                    exact wp_of_quiet (exec_load_at _ _ rfl _ _ rfl _ _ _ (hS.heap HBYj.out (fun h => h)) ((.int .i64 yc)) (by kernel_rfl) (fun _ => by kernel_rfl)) (hK.out _ _ rfl (After.lit rfl rfl rfl (by first | rfl | kernel_rfl)))
                  · intro w6 hS hF hD K hK
                    rw [if_pos (by rfl)]
                    refine wp_of_quiet (v := (.slice (some ⟨gb, ob, none⟩) n cb)) (by (show _ = _); kernel_rfl) (hK.out _ _ rfl (After.lit rfl rfl rfl ?_))
                    first | rfl | kernel_rfl
                  · intro w6 hS hF hD K hK
                    rw [if_pos (by rfl)]
                    refine wp_of_quiet (v := (.int .i64 (j : Int))) (by (show _ = _); kernel_rfl) (hK.out _ _ rfl (After.lit rfl rfl rfl ?_))
                    first | rfl | kernel_rfl
                  · intro w6 hS hF hD K hK
                    rw [if_pos (by rfl)]
                    refine wp_of_quiet (v := (.int .i64 bY)) (by (show _ = _); kernel_rfl) (hK.out _ _ rfl (After.lit rfl rfl rfl ?_))
                    first | rfl | kernel_rfl
                  · intro w6 hS hF hD K hK
                    rw [if_pos (by rfl)]
                    refine wp_of_quiet (v := (.int .i64 (n : Int))) (by (show _ = _); kernel_rfl) (hK.out _ _ rfl (After.lit rfl rfl rfl ?_))
                    first | rfl | kernel_rfl
                  · intro w6 hS hF hD K hK
                    obtain ⟨e12, e13, -⟩ := hF
                    replace e12 : f 12 = _ := e12
                    replace e13 : f 13 = _ := e13
                    try simp only [e12, e13]
                    rw [if_pos (by rfl)]
                    go_simp
                    refine hK.out _ _ rfl (After.lit rfl rfl rfl ?_)
                    first | rfl | kernel_rfl
                  · intro w6 hS hF hD K hK
                    obtain ⟨e11, e14, -⟩ := hF
                    replace e11 : f 11 = _ := e11
                    replace e14 : f 14 = _ := e14
                    try simp only [e11, e14]
                    rw [if_pos (by rfl)]
                    go_simp
                    refine hK.out _ _ rfl (After.lit rfl rfl rfl ?_)
                    first | rfl | kernel_rfl
                  · intro w6 hS hF hD K hK
                    rw [if_pos (by rfl)]
                    refine wp_of_quiet (v := (.int .i64 (n : Int))) (by (show _ = _); kernel_rfl) (hK.out _ _ rfl (After.lit rfl rfl rfl ?_))
                    first | rfl | kernel_rfl
                  · intro w6 hS hF hD K hK
                    obtain ⟨e15, e16, -⟩ := hF
                    replace e15 : f 15 = _ := e15
                    replace e16 : f 16 = _ := e16
                    try simp only [e15, e16]
                    rw [if_pos (by rfl)]
                    go_simp
                    refine (HMD3.out _).mono ?_; rintro e w9 ⟨rfl, rfl⟩; have hbelow := Below.refl w6.heap.size w6; go_simp
                    refine hK.out _ _ rfl (After.litB rfl rfl rfl hbelow ?_)
                    first | rfl | kernel_rfl
                  · intro w6 hS hF hD K hK
                    obtain ⟨e10, e17, -⟩ := hF
                    replace e10 : f 10 = _ := e10
                    replace e17 : f 17 = _ := e17
                    try simp only [e10, e17]
                    rw [if_pos (by rfl)]
                    go_simp
                    refine hK.out _ _ rfl (After.lit rfl rfl rfl ?_)
                    first | rfl | kernel_rfl
                  · intro w6 hS hF hD K hK
                    obtain ⟨e18, -⟩ := hF
                    replace e18 : f 18 = _ := e18
                    try simp only [e18]
                    rw [if_pos (by rfl)]
                    refine wp_of_quiet (v := (.pointer (some ⟨gb, ob + fj * 7, none⟩))) (by (show _ = _); kernel_rfl) (hK.out _ _ rfl (After.lit rfl rfl rfl ?_))
                    first | rfl | kernel_rfl
                  · intro w6 hS hF hD K hK
                    obtain ⟨e19, -⟩ := hF
                    replace e19 : f 19 = _ := e19
                    try simp only [e19]
                    rw [if_pos (by rfl)]
                    exact wp_of_quiet (exec_load_at _ _ rfl _ _ rfl _ _ _ (hS.heap HGBj.out (fun h => h)) ((.int .i64 zc)) (HZ.out) (fun _ => by kernel_rfl)) (hK.out _ _ rfl (After.lit rfl rfl rfl (by first | rfl | kernel_rfl)))
                  · intro w6 hS hF hD K hK
                    obtain ⟨e9, e20, -⟩ := hF
                    replace e9 : f 9 = _ := e9
                    replace e20 : f 20 = _ := e20
                    try simp only [e9, e20]
                    rw [if_pos (by rfl)]
                    go_simp
                    refine hK.out _ _ rfl (After.lit rfl rfl rfl ?_)
                    first | rfl | kernel_rfl
                  · intro w6 hS hF hD K hK
                    obtain ⟨e7, e21, -⟩ := hF
                    replace e7 : f 7 = _ := e7
                    replace e21 : f 21 = _ := e21
                    try simp only [e7, e21]
                    rw [if_pos (by rfl)]
                    refine wp_of_quiet (v := (.bool false)) (by (show _ = _); kernel_rfl) (hK.out _ _ rfl (After.lit rfl rfl rfl ?_))
                    first | rfl | kernel_rfl
                  intro w6 hS hF
                  obtain ⟨e22, -⟩ := hF
                  replace e22 : f 22 = _ := e22
                  try simp only [e22]
                  simp only [List.drop_succ_cons, List.drop_zero]
                  have HSj := Lib.hid hS
                  clear hS
                  go_wp2_with fail
                  exact ⟨⟨j + 1, by go_num, by omega, Lib.hid (HTj.out.trans HSj.out (fun _ _ h => h))⟩, by simp [intOf]; omega⟩
              · have hjn2 : j = n := by omega
                subst hjn2
                go_wp2_with fail
                go_meet
                case rel => exact HTj
          case rest =>
            have HT4 := hcut
            clear hcut
            have HTX := Lib.hid (HT2.out.trans HT4.out (fun _ _ h => h))
            have HBX4 := Lib.hid (HT4.out.heap HBX.out (fun h => h))
            have HBY4 := Lib.hid (HT4.out.heap HBY.out (fun h => h))
            clear HT2 HT4 HBX HBY
            go_upto_block 6 with fail
            go_wp2_with fail
            go_loopw [23] (fun s23 wr => ∃ j : Nat, s23 = .int .i64 j ∧ j ≤ rf.length ∧ Hid (Turn (fun _ => False) wc wr)) (fun s23 _ => rf.length - (intOf s23).toNat)
            case atStart => exact ⟨0, rfl, Nat.zero_le _, Lib.hid (Turn.refl _ _)⟩
            case round =>
              obtain ⟨j, rfl, hj, HTj⟩ := hrel
              have HBXj := Lib.hid (HTj.out.heap HBX4.out (fun h => h))
              have HBYj := Lib.hid (HTj.out.heap HBY4.out (fun h => h))
              have k6 : wr.cell? ⟨wo.heap.size, 6, none⟩ = some (.slice am rf.length cm) := by rw [cell_of_row _ _ _ _ _ _ HBXj.out]; rfl
              by_cases hjn : j < rf.length
              · have hll := HLL.out
                obtain ⟨am', cm', e1, hA⟩ := HMA.out
                obtain ⟨bm', dm', e2, hB⟩ := HMB.out
                simp only [Value.slice.injEq, true_and] at e1 e2
                obtain ⟨rfl, rfl⟩ := e1
                obtain ⟨rfl, rfl⟩ := e2
                obtain ⟨gm, om, cma, Tm, rfl, hgm, hcm⟩ := hA (by show 0 < rf.length; omega)
                obtain ⟨gn, on, cna, Tn, rfl, hgn, hcn⟩ := hB (by show 0 < yf.length; omega)
                obtain ⟨p, hp⟩ : ∃ p, rf[j]? = some p := ⟨rf[j], by simp [hjn]⟩
                obtain ⟨q, hq⟩ : ∃ q, yf[j]? = some q := ⟨yf[j]'(by omega), List.getElem?_eq_getElem (by omega)⟩
                have hpq : p.1 = q.1 := by
                  have h9 := congrArg (fun l => l[j]?) HL6.out
                  simp only [List.getElem?_map, hp, hq, Option.map_some, Option.some.injEq] at h9
                  exact h9
                obtain ⟨off, hoff⟩ : ∃ off, off = p.1 := ⟨_, rfl⟩
                have HTT := (HT9.out.trans HTX.out (fun _ _ h => h)).trans HTj.out (fun _ _ h => h)
                have HGM := Lib.hid (And.intro (HTT.heap hgm (fun h => h)) (show cma[om + j * 2]? = some (.int .i64 off) by rw [hoff]; exact (hcm j p hp).1))
                have HGN := Lib.hid (And.intro (HTT.heap hgn (fun h => h)) (show cna[on + j * 2]? = some (.int .i64 off) by rw [hoff, hpq]; exact (hcn j q hq).1))
                have hjy : j < yf.length := by omega
                clear hll hA hB hgm hcm hgn hcn hp hq hpq hoff HTT
                go_upto_region 32 with fail
                refine wp_region_relyT [] 13 (factOf [isV ((.pointer (some ⟨wo.heap.size, 6, none⟩))), isV ((.slice (some ⟨gm, om, none⟩) rf.length cm)), isV ((.int .i64 (j : Int))), isV ((.pointer (some ⟨gm, om + j * 2, none⟩))), isV ((.pointer (some ⟨gm, om + j * 2, none⟩))), isV ((.int .i64 off)), isV ((.pointer (some ⟨W.heap.size, 6, none⟩))), isV ((.slice (some ⟨gn, on, none⟩) yf.length dm)), isV ((.int .i64 (j : Int))), isV ((.pointer (some ⟨gn, on + j * 2, none⟩))), isV ((.pointer (some ⟨gn, on + j * 2, none⟩))), isV ((.int .i64 off)), isV ((.bool false))]) (nth [[0], [1], [2], [3], [4], [5], [6], [7], [8], [9], [10], [11], [12]]) (nth [[], [], [], [], [], [], [], [], [], [], [], [], []]) (nth [[], [0], [], [1, 2], [3], [4], [], [6], [], [7, 8], [9], [10], [5, 11]]) [12] (fun w5 => Turn (fun _ => False) wr w5) (by kernel_rfl) (by kernel_rfl) ((Turn.refl _ _).drew) (fun w w' h hb => h.trans (Turn.ofBelow (bs := fun _ => False) hb) (fun _ _ h => h.elim)) (GrowsAll.of ((GrowsAll.cons (Grows.isV _)  (GrowsAll.cons (Grows.isV _)  (GrowsAll.cons (Grows.isV _)  (GrowsAll.cons (Grows.isV _)  (GrowsAll.cons (Grows.isV _)  (GrowsAll.cons (Grows.isV _)  (GrowsAll.cons (Grows.isV _)  (GrowsAll.cons (Grows.isV _)  (GrowsAll.cons (Grows.isV _)  (GrowsAll.cons (Grows.isV _)  (GrowsAll.cons (Grows.isV _)  (GrowsAll.cons (Grows.isV _)  (GrowsAll.cons (Grows.isV _) GrowsAll.nil))))))))))))))) (fun f F hF => ?_)
                simp only [List.take_succ_cons, List.take_zero, fullGo, Act.put, List.setIfInBounds_toArray, List.set_cons_zero, List.set_cons_succ, Nat.reduceAdd] at hF
                subst hF
                refine ⟨StepObsF.cons ?_ (StepObsF.cons ?_ (StepObsF.cons ?_ (StepObsF.cons ?_ (StepObsF.cons ?_ (StepObsF.cons ?_ (StepObsF.cons ?_ (StepObsF.cons ?_ (StepObsF.cons ?_ (StepObsF.cons ?_ (StepObsF.cons ?_ (StepObsF.cons ?_ (StepObsF.cons ?_ (StepObsF.nil))))))))))))), ?_⟩
                · intro w6 hS hF hD K hK
                  rw [if_pos (by rfl)]
                  refine wp_of_quiet (v := (.pointer (some ⟨wo.heap.size, 6, none⟩))) (by (show _ = _); kernel_rfl) (hK.out _ _ rfl (After.lit rfl rfl rfl ?_))
                  first | rfl | kernel_rfl
                · intro w6 hS hF hD K hK
                  obtain ⟨e0, -⟩ := hF
                  replace e0 : f 0 = _ := e0
                  try simp only [e0]
                  rw [if_pos (by rfl)]
                  exact wp_of_quiet (exec_load_at _ _ rfl _ _ rfl _ _ _ (hS.heap HBXj.out (fun h => h)) ((.slice (some ⟨gm, om, none⟩) rf.length cm)) (by kernel_rfl) (fun _ => by kernel_rfl)) (hK.out _ _ rfl (After.lit rfl rfl rfl (by first | rfl | kernel_rfl)))
                · intro w6 hS hF hD K hK
                  rw [if_pos (by rfl)]
                  refine wp_of_quiet (v := (.int .i64 (j : Int))) (by (show _ = _); kernel_rfl) (hK.out _ _ rfl (After.lit rfl rfl rfl ?_))
                  first | rfl | kernel_rfl
                · intro w6 hS hF hD K hK
                  obtain ⟨e1, e2, -⟩ := hF
                  replace e1 : f 1 = _ := e1
                  replace e2 : f 2 = _ := e2
                  try simp only [e1, e2]
                  rw [if_pos (by rfl)]
                  go_simp
                  refine hK.out _ _ rfl (After.lit rfl rfl rfl ?_)
                  first | rfl | kernel_rfl
                · intro w6 hS hF hD K hK
                  obtain ⟨e3, -⟩ := hF
                  replace e3 : f 3 = _ := e3
                  try simp only [e3]
                  rw [if_pos (by rfl)]
                  refine wp_of_quiet (v := (.pointer (some ⟨gm, om + j * 2, none⟩))) (by (show _ = _); kernel_rfl) (hK.out _ _ rfl (After.lit rfl rfl rfl ?_))
                  first | rfl | kernel_rfl
                · intro w6 hS hF hD K hK
                  obtain ⟨e4, -⟩ := hF
                  replace e4 : f 4 = _ := e4
                  try simp only [e4]
                  rw [if_pos (by rfl)]
                  exact wp_of_quiet (exec_load_at _ _ rfl _ _ rfl _ _ _ (hS.heap HGM.out.1 (fun h => h)) ((.int .i64 off)) (HGM.out.2) (fun _ => by kernel_rfl)) (hK.out _ _ rfl (After.lit rfl rfl rfl (by first | rfl | kernel_rfl)))
                · intro w6 hS hF hD K hK
                  rw [if_pos (by rfl)]
                  refine wp_of_quiet (v := (.pointer (some ⟨W.heap.size, 6, none⟩))) (by (show _ = _); kernel_rfl) (hK.out _ _ rfl (After.lit rfl rfl rfl ?_))
                  first | rfl | kernel_rfl
                · intro w6 hS hF hD K hK
                  obtain ⟨e6, -⟩ := hF
                  replace e6 : f 6 = _ := e6
                  try simp only [e6]
                  rw [if_pos (by rfl)]
                  exact wp_of_quiet (exec_load_at _ _ rfl _ _ rfl _ _ _ (hS.heap HBYj.out (fun h => h)) ((.slice (some ⟨gn, on, none⟩) yf.length dm)) (by kernel_rfl) (fun _ => by kernel_rfl)) (hK.out _ _ rfl (After.lit rfl rfl rfl (by first | rfl | kernel_rfl)))
                · intro w6 hS hF hD K hK
                  rw [if_pos (by rfl)]
                  refine wp_of_quiet (v := (.int .i64 (j : Int))) (by (show _ = _); kernel_rfl) (hK.out _ _ rfl (After.lit rfl rfl rfl ?_))
                  first | rfl | kernel_rfl
                · intro w6 hS hF hD K hK
                  obtain ⟨e7, e8, -⟩ := hF
                  replace e7 : f 7 = _ := e7
                  replace e8 : f 8 = _ := e8
                  try simp only [e7, e8]
                  rw [if_pos (by rfl)]
                  go_simp
                  refine hK.out _ _ rfl (After.lit rfl rfl rfl ?_)
                  first | rfl | kernel_rfl
                · intro w6 hS hF hD K hK
                  obtain ⟨e9, -⟩ := hF
                  replace e9 : f 9 = _ := e9
                  try simp only [e9]
                  rw [if_pos (by rfl)]
                  refine wp_of_quiet (v := (.pointer (some ⟨gn, on + j * 2, none⟩))) (by (show _ = _); kernel_rfl) (hK.out _ _ rfl (After.lit rfl rfl rfl ?_))
                  first | rfl | kernel_rfl
                · intro w6 hS hF hD K hK
                  obtain ⟨e10, -⟩ := hF
                  replace e10 : f 10 = _ := e10
                  try simp only [e10]
                  rw [if_pos (by rfl)]
                  exact wp_of_quiet (exec_load_at _ _ rfl _ _ rfl _ _ _ (hS.heap HGN.out.1 (fun h => h)) ((.int .i64 off)) (HGN.out.2) (fun _ => by kernel_rfl)) (hK.out _ _ rfl (After.lit rfl rfl rfl (by first | rfl | kernel_rfl)))
                · intro w6 hS hF hD K hK
                  obtain ⟨e5, e11, -⟩ := hF
                  replace e5 : f 5 = _ := e5
                  replace e11 : f 11 = _ := e11
                  try simp only [e5, e11]
                  rw [if_pos (by rfl)]
                  go_simp
                  refine hK.out _ _ rfl (After.lit rfl rfl rfl ?_)
                  first | rfl | kernel_rfl
                intro w6 hS hF
                obtain ⟨e12, -⟩ := hF
                replace e12 : f 12 = _ := e12
                try simp only [e12]
                simp only [List.drop_succ_cons, List.drop_zero]
                have HSj := Lib.hid hS
                clear hS
                go_wp2_with fail
                exact ⟨⟨j + 1, by go_num, by omega, Lib.hid (HTj.out.trans HSj.out (fun _ _ h => h))⟩, by simp [intOf]; omega⟩
              · have hjn2 : rf.length ≤ j := by omega
                go_wp2_with fail
                exact ⟨⟨k + 1, by go_num, by omega, Lib.hid ((HT9.out.trans HTX.out (fun _ _ h => h)).trans HTj.out (fun _ _ h => h))⟩, by simp [intOf]; omega⟩
      · have hkn : k = n := by omega
        subst hkn
        go_wp2_with fail
        go_ret
        exact ⟨rfl, HBC.out.trans ((HB5.out.trans (HT9.out.toBelow HB5.out.size (fun _ h => h.elim))).mono hszc)⟩
end Go.Proofs.YtepmgnhblegiiaaDoor
