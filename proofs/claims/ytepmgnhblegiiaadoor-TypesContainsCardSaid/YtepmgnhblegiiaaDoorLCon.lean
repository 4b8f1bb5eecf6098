/- TypesContains walked. Condition: the table of powers of ten reads as the text lays it. -/
import Derived.Test.YtepmgnhblegiiaaDoorLnk
set_option linter.all false
namespace Go.Proofs.YtepmgnhblegiiaaDoor
open Go Go.RowKit Go.Maps

def tabCon : Array Value := #[.int .i64 6, .int .i64 7]
set_option maxRecDepth 100000 in
set_option maxHeartbeats 4000000 in
theorem typesContains_any (z a : Int) (hz : i64ok z) (ha : i64ok a) (ao : Option Addr) (len cap : Nat) (hlen : len ≤ 9223372036854775807) (w : World) (h : LnkW ao len w) (hT : TabP w) :
    Calls Tryd.prog 11 #[.int .i64 z, .slice ao len cap, .int .i64 a] w fun e w' => e = .returned (.bool true) ∧ Below w.heap.size w w' := by
  have HSN := Lib.hid (sanity_any w hT)
  have H := Lib.hid h
  have HM0 := Lib.hid (fun W => mod_any z 20 hz (by omega) W)
  have HMA := Lib.hid (fun W => mod_any a 40 ha (by omega) W)
  obtain ⟨n0, hn⟩ := Int.eq_ofNat_of_zero_le (Int.emod_nonneg z (show (20 : Int) ≠ 0 by omega))
  obtain ⟨at0, hat⟩ := Int.eq_ofNat_of_zero_le (Int.emod_nonneg a (show (40 : Int) ≠ 0 by omega))
  have ln : n0 < 20 := by have := Int.emod_lt_of_pos z (show (0 : Int) < 20 by omega); omega
  have la : at0 < 40 := by have := Int.emod_lt_of_pos a (show (0 : Int) < 40 by omega); omega
  rw [hn] at HM0
  rw [hat] at HMA
  obtain ⟨n, hn1⟩ : ∃ n, n = n0 + 1 := ⟨_, rfl⟩
  have hnn : (1 : Int) + (n0 : Int) = (n : Int) := by omega
  have hn0 : 0 < n := by omega
  have hn20 : n ≤ 20 := by omega
  have hwr : IntKind.i64.wrap (1 + (n0 : Int)) = (n : Int) := by rw [hnn]; exact IntWalk.i64_in _ (by omega)
  have HNN := Lib.hid hnn
  obtain ⟨j0, hj0, hy0, hy1, hy2⟩ := info_parts infoCon
  clear hn hat h hT hn1 hnn
  go_enter Tryd.func11, Tryd.ntmps11
  go_upto_region 2 with (go_at_call 14; refine (HSN.out).mono ?_; rintro e w1 ⟨rfl, hb1⟩)
  have HB1 := Lib.hid hb1
  have HL1 := Lib.hid (H.out.below hb1)
  clear hb1
  go_upto_block 0 with (first | (go_at_call 20; (with_reducible refine (HM0.out _).mono ?_); rintro e w2 ⟨rfl, rfl⟩) | (go_at_call 20; (with_reducible refine (HMA.out _).mono ?_); rintro e w2 ⟨rfl, rfl⟩))
  have hszw : w.heap.size ≤ w1.heap.size := HB1.out.size
  go_cut [10, 11, 12, 13] (fun s10 _ _ _ wx => ∃ (v10 : Value) (kd nn : Nat → Int), s10 = v10 ∧ Hid ((∀ i, kd i = 6 ∨ kd i = 7) ∧ ∀ i, 1 ≤ nn i ∧ nn i ≤ 65535) ∧ Hid (wx.ownsRow w1.heap.size 37 4 v10 n (consV (circC n at0 kd nn n))) ∧ Hid (Turn (fun q => w1.heap.size ≤ q) w1 wx))
  case first =>
    go_wp2_with fail
    go_loopw [10, 11, 12, 13] (fun s10 s11 _ _ wr => ∃ (v10 : Value) (i : Nat) (kd nn : Nat → Int), s10 = v10 ∧ s11 = .int .i64 i ∧ i ≤ n ∧ Hid ((∀ i, kd i = 6 ∨ kd i = 7) ∧ ∀ i, 1 ≤ nn i ∧ nn i ≤ 65535) ∧ Hid (wr.ownsRow w1.heap.size 37 4 v10 i (consV (circC n at0 kd nn i))) ∧ Hid (Turn (fun q => w1.heap.size ≤ q) w1 wr)) (fun _ s11 _ _ _ => n - (intOf s11).toNat)
    case atStart => exact ⟨_, 0, fun _ => 6, fun _ => 1, rfl, rfl, Nat.zero_le _, Lib.hid ⟨fun _ => .inl rfl, fun _ => show (1 : Int) ≤ 1 ∧ (1 : Int) ≤ 65535 by omega⟩, Lib.hid (World.ownsRow_nil w1 _ _ _), Lib.hid (Turn.refl _ _)⟩
    case round =>
      obtain ⟨v10, i, kd, nn, h10, rfl, hi, HKD, HOW9, HT9⟩ := hrel
      have h10' := h10.symm
      subst h10'
      clear h10
      have hszr : w1.heap.size ≤ wr.heap.size := HT9.out.size
      by_cases hlt : i < n
      · go_upto_if 31 with fail
        go_cut [12] (fun s12 wx => ∃ zl : Int, Hid (i64ok zl) ∧ s12 = .int .i64 zl ∧ wx = wr)
        case first =>
          by_cases hl : i < len
          · obtain ⟨b, off, c, t, fr, rfl, hg, hc⟩ := HL1.out (by omega)
            obtain ⟨zl, hzl, hzk⟩ := hc i hl
            have kl : wr.cell? ⟨b, off + i, none⟩ = some (.int .i64 zl) := by rw [cell_of_row _ _ _ _ _ _ (HT9.out.heap hg (fun h => by have h8 := (Array.getElem?_eq_some_iff.1 hg).1; have h9 : w1.heap.size ≤ b := h; omega))]; exact hzl
            have HZK := Lib.hid hzk
            clear hg hc hzl hzk
            go_wp2_with fail
            go_meet
            case rel => exact ⟨zl, HZK, rfl, rfl⟩
          · have hl2 : len ≤ i := by omega
            go_wp2_with fail
            go_meet
            case rel => exact ⟨0, Lib.hid (by unfold i64ok; omega), rfl, rfl⟩
        case rest =>
          obtain ⟨zl, HZK, rfl, hw1⟩ := hcut
          subst hw1
          obtain ⟨wo, rfl⟩ : ∃ wo : World, wo = wc := ⟨_, rfl⟩
          have HMk := Lib.hid (fun W => mod_any zl 2 HZK.out (by omega) W)
          have HM2 := Lib.hid (fun W => mod_any (zl.tdiv 2) 4 (i64_div HZK.out 2 (by omega)) (by omega) W)
          obtain ⟨m0, hm0⟩ := Int.eq_ofNat_of_zero_le (Int.emod_nonneg zl (show (2 : Int) ≠ 0 by omega))
          obtain ⟨m1, hm1⟩ := Int.eq_ofNat_of_zero_le (Int.emod_nonneg (zl.tdiv 2) (show (4 : Int) ≠ 0 by omega))
          have l0 : m0 < 2 := by have := Int.emod_lt_of_pos zl (show (0 : Int) < 2 by omega); omega
          have l1 : m1 < 4 := by have := Int.emod_lt_of_pos (zl.tdiv 2) (show (0 : Int) < 4 by omega); omega
          rw [hm0] at HMk
          rw [hm1] at HM2
          clear hm0 hm1
          obtain ⟨bI, hbI⟩ : ∃ bI, bI = (i + 1) % n := ⟨_, rfl⟩
          have hrem : ((i : Int) + 1).tmod (n : Int) = (bI : Int) := by rw [hbI, Int.tmod_eq_emod_of_nonneg (by omega)]; simp
          have HBI := Lib.hid hbI
          have htab : tabCon[m0]? = some (.int .i64 (6 + (m0 : Int))) := by
            rcases (show m0 = 0 ∨ m0 = 1 by omega) with rfl | rfl <;> rfl
          have HTAB := Lib.hid htab
          obtain ⟨K1, hK1⟩ : ∃ K1 : Int, K1 = 6 + (m0 : Int) := ⟨_, rfl⟩
          rw [← hK1] at HTAB
          have hKK : K1 = 6 ∨ K1 = 7 := by omega
          have hwi : IntKind.i64.wrap ((i : Int) + 1) = (i : Int) + 1 := IntWalk.i64_in _ (by omega)
          have hwn : IntKind.i64.wrap (1 + (m1 : Int)) = 1 + (m1 : Int) := IntWalk.i64_in _ (by omega)
          have hnz : ¬ n = 0 := by omega
          have hwt : IntKind.i64.wrap (zl.tdiv 2) = zl.tdiv 2 := wrap_i64_tdiv zl 2 (HZK.out).1 (HZK.out).2 (by omega)
          have hm0i : (m0 : Int) < 2 := by omega
          clear hbI htab hK1
          go_upto_region 11 with fail
          refine wp_region_relyT [] 16 (factOf [isVT ((fun _ => False)) (TabQ wo.heap.size tabCon 2), isV ((.int .i64 zl)), isV ((.int .i64 (m0 : Int))), isVT ((fun _ => False)) (TatQ wo.heap.size tabCon m0), isV ((.int .i64 K1)), isV ((.int .i64 (i : Int))), isV ((.int .i64 (i : Int))), isV ((.int .i64 ((i : Int) + 1))), isV ((.int .i64 (n : Int))), isV ((.int .i64 (bI : Int))), isV ((.int .i64 zl)), isV ((.int .i64 (zl.tdiv 2))), isV ((.int .i64 (m1 : Int))), isV ((.int .i64 (1 + (m1 : Int)))), isV ((.agg #[.int .i64 K1, .int .i64 (i : Int), .int .i64 (bI : Int), .int .i64 (1 + (m1 : Int))])), isVT ((fun _ => False)) (NewC wo.heap.size)]) (nth [[0], [1], [2], [3], [4], [5], [6], [7], [8], [9], [10], [11], [12], [13], [14], [15]]) (nth [[], [], [], [], [], [], [], [], [], [], [], [], [], [], [], []]) (nth [[], [], [1], [0, 2], [3], [], [], [6], [], [7, 8], [], [10], [11, 2], [12], [4, 5, 9, 13], []]) [14, 15] (fun w5 => Turn (fun _ => False) wo w5) (by kernel_rfl) (by kernel_rfl) ((Turn.refl _ _).drew) (fun w w' h hb => h.trans (Turn.ofBelow (bs := fun _ => False) hb) (fun _ _ h => h.elim)) (GrowsAll.of ((GrowsAll.cons (Grows.isVT _ _)  (GrowsAll.cons (Grows.isV _)  (GrowsAll.cons (Grows.isV _)  (GrowsAll.cons (Grows.isVT _ _)  (GrowsAll.cons (Grows.isV _)  (GrowsAll.cons (Grows.isV _)  (GrowsAll.cons (Grows.isV _)  (GrowsAll.cons (Grows.isV _)  (GrowsAll.cons (Grows.isV _)  (GrowsAll.cons (Grows.isV _)  (GrowsAll.cons (Grows.isV _)  (GrowsAll.cons (Grows.isV _)  (GrowsAll.cons (Grows.isV _)  (GrowsAll.cons (Grows.isV _)  (GrowsAll.cons (Grows.isV _)  (GrowsAll.cons (Grows.isVT _ _) GrowsAll.nil)))))))))))))))))) (fun f F hF => ?_)
          simp only [List.take_succ_cons, List.take_zero, fullGo, Act.put, List.setIfInBounds_toArray, List.set_cons_zero, List.set_cons_succ, Nat.reduceAdd] at hF
          subst hF
          refine ⟨StepObsF.cons ?_ (StepObsF.cons ?_ (StepObsF.cons ?_ (StepObsF.cons ?_ (StepObsF.cons ?_ (StepObsF.cons ?_ (StepObsF.cons ?_ (StepObsF.cons ?_ (StepObsF.cons ?_ (StepObsF.cons ?_ (StepObsF.cons ?_ (StepObsF.cons ?_ (StepObsF.cons ?_ (StepObsF.cons ?_ (StepObsF.cons ?_ (StepObsF.cons ?_ (StepObsF.nil)))))))))))))))), ?_⟩
          · intro w5 hS hF hD K hK
            rw [if_pos (by rfl)]
            go_simp
            exact hK.out _ _ rfl (After.litD rfl rfl rfl rfl ((by simp)) (hS.alloc _) (StaysE.out (by rfl) (StaysE.isV (StaysE.isV (StaysE.isVT ((Turn.refl _ _).alloc _) (StaysE.isV (StaysE.isV (StaysE.isV (StaysE.isV (StaysE.isV (StaysE.isV (StaysE.isV (StaysE.isV (StaysE.isV (StaysE.isV (StaysE.isV (StaysE.isVT ((Turn.refl _ _).alloc _) StaysE.nil)))))))))))))))) (⟨_, rfl, hS.size, heap_alloc_new _ _⟩))
          · intro w5 hS hF hD K hK
            rw [if_pos (by rfl)]
            refine wp_of_quiet (v := (.int .i64 zl)) (by (show _ = _); kernel_rfl) (hK.out _ _ rfl (After.lit rfl rfl rfl ?_))
            first | rfl | kernel_rfl
          · intro w5 hS hF hD K hK
            obtain ⟨e1, -⟩ := hF
            replace e1 : f 1 = _ := e1
            try simp only [e1]
            rw [if_pos (by rfl)]
            go_simp
            refine (HMk.out _).mono ?_; rintro e w3 ⟨rfl, rfl⟩; have hbelow := Below.refl w5.heap.size w5; go_simp
            refine hK.out _ _ rfl (After.litB rfl rfl rfl hbelow ?_)
            first | rfl | kernel_rfl
          · intro w5 hS hF hD K hK
            obtain ⟨e0, e2, -⟩ := hF
            obtain ⟨y0, p0, t0⟩ := e0
            replace e2 : f 2 = _ := e2
            try simp only [e2]
            rw [if_pos (by rfl)]
            obtain ⟨g0, e0, hB0, hg0⟩ := p0; simp only [e0]; show Oper.wp _ _ _ _ _ _; go_simp
            exact hK.out _ _ rfl (After.litD rfl rfl rfl rfl (Nat.le_refl _) (hS) (StaysE.isVT (Turn.refl _ _) (StaysE.isV (StaysE.isV (StaysE.out (by rfl) (StaysE.isV (StaysE.isV (StaysE.isV (StaysE.isV (StaysE.isV (StaysE.isV (StaysE.isV (StaysE.isV (StaysE.isV (StaysE.isV (StaysE.isV (StaysE.isVT (Turn.refl _ _) StaysE.nil)))))))))))))))) (⟨g0, rfl, hB0, t0.heap hg0 (fun h => h)⟩))
          · intro w5 hS hF hD K hK
            obtain ⟨e3, -⟩ := hF
            obtain ⟨y3, p3, t3⟩ := e3
            rw [if_pos (by rfl)]
            obtain ⟨g3, e3, hB3, hg3⟩ := p3; simp only [e3]; exact wp_of_quiet (exec_load_at _ _ rfl _ _ rfl _ _ _ (t3.heap hg3 (fun h => h)) (.int .i64 K1) HTAB.out (fun _ => by kernel_rfl)) (hK.out _ _ rfl (After.lit rfl rfl rfl (by first | rfl | kernel_rfl)))
          · intro w5 hS hF hD K hK
            rw [if_pos (by rfl)]
            refine wp_of_quiet (v := (.int .i64 (i : Int))) (by (show _ = _); kernel_rfl) (hK.out _ _ rfl (After.lit rfl rfl rfl ?_))
            first | rfl | kernel_rfl
          · intro w5 hS hF hD K hK
            rw [if_pos (by rfl)]
            refine wp_of_quiet (v := (.int .i64 (i : Int))) (by (show _ = _); kernel_rfl) (hK.out _ _ rfl (After.lit rfl rfl rfl ?_))
            first | rfl | kernel_rfl
          · intro w5 hS hF hD K hK
            obtain ⟨e6, -⟩ := hF
            replace e6 : f 6 = _ := e6
            try simp only [e6]
            rw [if_pos (by rfl)]
            go_simp
            refine hK.out _ _ rfl (After.lit rfl rfl rfl ?_)
            first | rfl | kernel_rfl
          · intro w5 hS hF hD K hK
            rw [if_pos (by rfl)]
            refine wp_of_quiet (v := (.int .i64 (n : Int))) (by (show _ = _); kernel_rfl) (hK.out _ _ rfl (After.lit rfl rfl rfl ?_))
            first | rfl | kernel_rfl
          · intro w5 hS hF hD K hK
            obtain ⟨e7, e8, -⟩ := hF
            replace e7 : f 7 = _ := e7
            replace e8 : f 8 = _ := e8
            try simp only [e7, e8]
            rw [if_pos (by rfl)]
            go_simp
            refine hK.out _ _ rfl (After.lit rfl rfl rfl ?_)
            first | rfl | kernel_rfl
          · intro w5 hS hF hD K hK
            rw [if_pos (by rfl)]
            refine wp_of_quiet (v := (.int .i64 zl)) (by (show _ = _); kernel_rfl) (hK.out _ _ rfl (After.lit rfl rfl rfl ?_))
            first | rfl | kernel_rfl
          · intro w5 hS hF hD K hK
            obtain ⟨e10, -⟩ := hF
            replace e10 : f 10 = _ := e10
            try simp only [e10]
            rw [if_pos (by rfl)]
            go_simp
            refine hK.out _ _ rfl (After.lit rfl rfl rfl ?_)
            first | rfl | kernel_rfl
          · intro w5 hS hF hD K hK
            obtain ⟨e11, e2, -⟩ := hF
            replace e11 : f 11 = _ := e11
            replace e2 : f 2 = _ := e2
            try simp only [e11, e2]
            rw [if_pos (by rfl)]
            go_simp
            refine (HM2.out _).mono ?_; rintro e w3 ⟨rfl, rfl⟩; have hbelow := Below.refl w5.heap.size w5; go_simp
            refine hK.out _ _ rfl (After.litB rfl rfl rfl hbelow ?_)
            first | rfl | kernel_rfl
          · intro w5 hS hF hD K hK
            obtain ⟨e12, -⟩ := hF
            replace e12 : f 12 = _ := e12
            try simp only [e12]
            rw [if_pos (by rfl)]
            go_simp
            refine hK.out _ _ rfl (After.lit rfl rfl rfl ?_)
            first | rfl | kernel_rfl
          · intro w5 hS hF hD K hK
            obtain ⟨e4, e5, e9, e13, -⟩ := hF
            replace e4 : f 4 = _ := e4
            replace e5 : f 5 = _ := e5
            replace e9 : f 9 = _ := e9
            replace e13 : f 13 = _ := e13
            try simp only [e4, e5, e9, e13]
            rw [if_pos (by rfl)]
            refine wp_of_quiet (v := (.agg #[.int .i64 K1, .int .i64 (i : Int), .int .i64 (bI : Int), .int .i64 (1 + (m1 : Int))])) (by (show _ = _); kernel_rfl) (hK.out _ _ rfl (After.lit rfl rfl rfl ?_))
            first | rfl | kernel_rfl
          · intro w5 hS hF hD K hK
            rw [if_pos (by rfl)]
            go_simp
            exact hK.out _ _ rfl (After.litD rfl rfl rfl rfl ((by simp)) (hS.alloc _) (StaysE.isVT ((Turn.refl _ _).alloc _) (StaysE.isV (StaysE.isV (StaysE.isVT ((Turn.refl _ _).alloc _) (StaysE.isV (StaysE.isV (StaysE.isV (StaysE.isV (StaysE.isV (StaysE.isV (StaysE.isV (StaysE.isV (StaysE.isV (StaysE.isV (StaysE.isV (StaysE.out (by rfl) StaysE.nil)))))))))))))))) (⟨_, _, rfl, hS.size, heap_alloc_new _ _, rfl⟩))
          intro w5 hS hF
          obtain ⟨e14, e15, -⟩ := hF
          replace e14 : f 14 = _ := e14
          obtain ⟨y15, p15, t15⟩ := e15
          try simp only [e14]
          simp only [List.drop_succ_cons, List.drop_zero]
          obtain ⟨g5, c5, hf5, hB5, hcs5, hsz5⟩ := p15
          have hblk5 := t15.heap hcs5 (fun h => h)
          have HS5 := Lib.hid hS
          have HK5 := Lib.hid hblk5
          have HZ5 := Lib.hid hsz5
          simp only [hf5]
          clear hS t15 hcs5 hblk5 hsz5 hf5 e14 hwi hwn hwt hrem
          have hm1i : (0 : Int) ≤ 1 + (m1 : Int) := by omega
          obtain ⟨N1, hN1⟩ : ∃ N1 : Int, N1 = 1 + (m1 : Int) := ⟨_, rfl⟩
          rw [← hN1]
          have hNN : 1 ≤ N1 ∧ N1 ≤ 65535 := by omega
          clear hN1 hm1i
          go_upto_region 12 with (refine wpList_store_row rfl _ _ _ rfl _ _ rfl rfl _ _ (HK5.out) ?_ ?_ ?_ ?_; kernel_rfl; (rw [HZ5.out]; rfl); kernel_rfl)
          obtain ⟨W6, hW6⟩ : ∃ W6, W6 = w5.setRow g5 #[.int .i64 K1, .int .i64 (i : Int), .int .i64 (bI : Int), .int .i64 N1] := ⟨_, rfl⟩
          have ht6 : Turn (fun q => q = g5) w5 W6 := by rw [hW6]; exact (Turn.refl (fun q => q = g5) w5).setRow _ (fun _ => rfl)
          have hb6 : W6.heap[g5]? = some (.cells #[.int .i64 K1, .int .i64 (i : Int), .int .i64 (bI : Int), .int .i64 N1] 37 (0, 0)) := by rw [hW6]; exact setRow_heap _ _ _ _ _ _ HK5.out
          rw [← hW6]
          have HBLK := Lib.hid hb6
          have HTW := Lib.hid (show Turn (fun q => wo.heap.size ≤ q) wo W6 from (HS5.out.mono (fun _ _ h => h.elim)).trans ht6 (fun q _ h => by omega))
          have f0 : W6.frozen? ⟨g5, 0, none⟩ = false := frozen_of_row _ _ _ _ _ hb6
          have c0 : W6.cell? ⟨g5, 0, none⟩ = some (.int .i64 K1) := by rw [cell_of_row _ _ _ _ _ _ hb6]; rfl
          clear hW6 ht6 hb6 HK5 HZ5 HS5
          go_upto_if 53 with fail
          go_cut [] (fun wx => Hid (wx.heap[g5]? = some (.cells (conCells ⟨if i = at0 then 5 else K1, (i : Nat), (bI : Nat), N1⟩) 37 (0, 0))) ∧ Hid (Turn (fun q => q = g5) W6 wx))
          case first =>
            by_cases hia : i = at0
            · have HIA := Lib.hid hia
              have e1 : ((i : Int) == (at0 : Int)) = true := by simp [hia]
              have e2 : (i == at0) = true := by simp [hia]
              have e3 : decide ((i : Int) = (at0 : Int)) = true := by simp [hia]
              clear hia
              go_wp2_with fail
              go_meet
              case rel => exact ⟨Lib.hid (by rw [if_pos HIA.out]; exact (heap_setCell_same HBLK.out _).trans rfl), Lib.hid ((Turn.refl (fun q => q = g5) _).setCell _ (fun _ => rfl))⟩
            · have HIA := Lib.hid hia
              have e1 : ((i : Int) == (at0 : Int)) = false := by simp; omega
              go_wp2_with fail
              go_meet
              case rel => exact ⟨Lib.hid (by rw [if_neg HIA.out]; exact HBLK.out), Lib.hid (Turn.refl _ _)⟩
          case rest =>
            obtain ⟨HC1, HT1⟩ := hcut
            clear f0 c0
            obtain ⟨KK, hKK2⟩ : ∃ KK : Int, (if i = at0 then 5 else K1) = KK := ⟨_, rfl⟩
            rw [hKK2] at HC1
            have HKK := Lib.hid hKK2
            have HOC := Lib.hid (own_turn (own_turn HOW9.out HTW.out (fun q hq h => by have := (HOW9.out.lt q hq).2; omega)) HT1.out (fun q hq h => by have := (HOW9.out.lt q hq).2; omega))
            have hT2 : Turn (fun q => wo.heap.size ≤ q) wo wc := HTW.out.trans HT1.out (fun q _ h => by omega)
            have HT2 := Lib.hid hT2
            have hsz2 := hT2.size
            have HC2 := Lib.hid (show wc.heap[g5]? = some (.cells #[.int .i64 KK, .int .i64 (i : Int), .int .i64 (bI : Int), .int .i64 N1] 37 (0, 0)) from HC1.out)
            clear hT2 HC1 hKK2
            go_wp2_with (first | (refine wpList_load_row rfl _ _ rfl _ rfl _ _ _ _ (HC2.out) rfl rfl ?_ ?_; kernel_rfl) | (at_builtin; refine wpList_append_own _ rfl _ _ 24 rfl w1.heap.size 37 j0 (.agg #[.int .i64 0, .int .i64 0, .int .i64 0, .int .i64 0]) 4 32 Tryd.underlying24 hj0 hy0 hy1 hy2 rfl (by decide) _ i (consV (circC n at0 kd nn i)) rfl (own_turn HOC.out ((Turn.refl (fun _ => False) _).alloc _) (fun _ _ h => h)) ⟨wc.heap.size, 0, none⟩ 1 1 [.int .i64 KK, .int .i64 (i : Int), .int .i64 (bI : Int), .int .i64 N1] rfl rfl (cells_new _ _ _ _ rfl) (by intro u hu; simp at hu; rcases hu with rfl | rfl | rfl | rfl <;> rfl) (by unfold maxLen; omega) (by omega) (Nat.le_trans hszr (Nat.le_trans hsz2 (by simp))) ?_; intro v9 w9 hown9 hgrow9 _))
            have hT9 : Turn (fun q => w1.heap.size ≤ q) wo w9 := (HT2.out.mono (fun q _ h => Nat.le_trans hszr h)).trans (((Turn.refl (fun q => w1.heap.size ≤ q) wc).alloc _).grown hgrow9 (fun q e _ => (own_cells HOC.out q e).1)) (fun _ _ h => h)
            refine ⟨⟨_, i + 1, fun j => if j = i then K1 else kd j, fun j => if j = i then N1 else nn j, rfl, by go_num, by omega, Lib.hid ⟨fun j => ?_, fun j => ?_⟩, Lib.hid ?_, Lib.hid (HT9.out.trans hT9 (fun _ _ h => h))⟩, by simp [intOf]; omega⟩
            · show (if j = i then K1 else kd j) = 6 ∨ (if j = i then K1 else kd j) = 7
              split
              · exact hKK
              · exact HKD.out.1 j
            · show 1 ≤ (if j = i then N1 else nn j) ∧ (if j = i then N1 else nn j) ≤ 65535
              split
              · exact hNN
              · exact HKD.out.2 j
            · rw [circ_succ, ← circ_congr (kd := kd) (nn := nn) (fun j hj => by rw [if_neg (by omega), if_neg (by omega)]; exact ⟨rfl, rfl⟩), if_pos rfl, if_pos rfl, HKK.out, ← HBI.out, consV_snoc]
              exact hown9
      · have hin : i = n := by omega
        subst hin
        go_wp2_with fail
        go_meet
        case rel => exact ⟨_, kd, nn, rfl, HKD, HOW9, HT9⟩
  case rest =>
    obtain ⟨v10, kd, nn, h10, HKD, HOW9, HT9⟩ := hcut
    obtain ⟨ox, cx, rfl⟩ := own_slice HOW9.out
    subst h10
    have hlc := circ_len n at0 kd nn n
    have HS2 := Lib.hid (by
      have h9 := solve_any n (circC n at0 kd nn n) (by omega) wc ox cx (by rw [hlc]; exact (own_cap HOW9.out).1) (own_cons HOW9.out).2
      rw [hlc] at h9; exact h9)
    have HBC := Lib.hid (HB1.out.trans ((HT9.out.toBelow (Nat.le_refl _) (fun _ h => h)).mono HB1.out.size))
    have hszc : w.heap.size ≤ wc.heap.size := HBC.out.size
    clear HOW9 HT9 hlc
    go_upto_if 68 with (go_at_call 19; refine (HS2.out).mono ?_; rintro e w6 ⟨vb, rb, kb, eb, rfl, hsb, hbb, hrb⟩)
    have hlaw := contains_law HKD.out.1 hn0 (by omega) HKD.out.2 hsb
    have HBB := Lib.hid (HBC.out.trans (hbb.mono hszc))
    obtain ⟨ab, cb, rfl, hcab, hgb⟩ := hrb.view
    clear hbb hsb hrb
    by_cases hge : n ≤ at0
    · obtain ⟨rfl, rfl, rfl⟩ := hlaw.1 hge
      have hw1 : ((n - 1 : Nat) : Int) = (n : Int) - 1 := by omega
      rw [hw1]
      clear hlaw hgb
      go_wp2_with fail
      go_ret
      exact ⟨rfl, HBB.out⟩
    · obtain ⟨rfl, hlb, hpt⟩ := hlaw.2 (by omega)
      obtain ⟨gb, ob, ccb, rfl, hbh, hbc⟩ := hgb (by omega)
      obtain ⟨bI, hbI⟩ : ∃ bI, bI = (at0 + 1) % n := ⟨_, rfl⟩
      have hrem : ((at0 : Int) + 1).tmod (n : Int) = (bI : Int) := by rw [hbI, Int.tmod_eq_emod_of_nonneg (by omega)]; simp
      have hal : at0 < n := by omega
      obtain ⟨r, hr⟩ : ∃ r, rb[at0]? = some r := ⟨rb[at0]'(by omega), List.getElem?_eq_getElem (by omega)⟩
      have kr : w6.cell? ⟨gb, ob + at0 * 7 + 3, none⟩ = some (.int .i64 (bI : Int)) := by
        obtain ⟨_, -, -, h3⟩ := hbc at0 r hr
        rw [cell_of_row _ _ _ _ _ _ hbh, h3 3 (by omega), hbI, ← hpt r hr]; rfl
      have hwi : IntKind.i64.wrap ((at0 : Int) + 1) = (at0 : Int) + 1 := IntWalk.i64_in _ (by omega)
      have hnz : ¬ n = 0 := by omega
      rw [hlb] at hcab ⊢
      clear hlaw hgb hbh hbc hr hlb hpt hbI
      go_upto_region 18 with fail
      go_quiet (fail)
      go_wp2_with fail
      go_ret
      exact ⟨rfl, below_drewN HBB.out _⟩
end Go.Proofs.YtepmgnhblegiiaaDoor
