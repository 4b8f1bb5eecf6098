/- TypesChains walked. Condition: the table of powers of ten reads as the text lays it. -/
import Derived.Test.YtepmgnhblegiiaaDoorLnk
set_option linter.all false
namespace Go.Proofs.YtepmgnhblegiiaaDoor
open Go Go.RowKit Go.Maps

def tabChn : Array Value := #[.int .i64 5, .int .i64 6, .int .i64 7]
theorem chn_congr {n : Nat} {kd nn kd' nn' : Nat → Int} {k : Nat} (h : ∀ i, i < k → kd i = kd' i ∧ nn i = nn' i) : chnC n kd nn k = chnC n kd' nn' k := by
  induction k with
  | zero => rfl
  | succ k ih => rw [chn_succ, chn_succ, ih (fun i hi => h i (by omega)), (h k (by omega)).1, (h k (by omega)).2]
set_option maxRecDepth 100000 in
set_option maxHeartbeats 8000000 in
theorem typesChains_any (z a : Int) (hz : i64ok z) (ha : i64ok a) (ao : Option Addr) (len cap : Nat) (hlen : len ≤ 9223372036854775807) (w : World) (h : LnkW ao len w) (hT : TabP w) :
    Calls Tryd.prog 10 #[.int .i64 z, .slice ao len cap, .int .i64 a] w fun e w' => e = .returned (.bool true) ∧ Below w.heap.size w w' := by
  have HSN := Lib.hid (sanity_any w hT)
  have H := Lib.hid h
  have HM0 := Lib.hid (fun W => mod_any z 30 hz (by omega) W)
  have HMA := Lib.hid (fun W => mod_any a 2 ha (by omega) W)
  obtain ⟨n0, hn⟩ := Int.eq_ofNat_of_zero_le (Int.emod_nonneg z (show (30 : Int) ≠ 0 by omega))
  obtain ⟨a0, hat⟩ := Int.eq_ofNat_of_zero_le (Int.emod_nonneg a (show (2 : Int) ≠ 0 by omega))
  have ln : n0 < 30 := by have := Int.emod_lt_of_pos z (show (0 : Int) < 30 by omega); omega
  have la : a0 < 2 := by have := Int.emod_lt_of_pos a (show (0 : Int) < 2 by omega); omega
  rw [hn] at HM0
  rw [hat] at HMA
  obtain ⟨n, hn1⟩ : ∃ n, n = n0 + 1 := ⟨_, rfl⟩
  have hnn : (1 : Int) + (n0 : Int) = (n : Int) := by omega
  have hn0 : 0 < n := by omega
  have hn30 : n ≤ 30 := by omega
  have hwr : IntKind.i64.wrap (1 + (n0 : Int)) = (n : Int) := by rw [hnn]; exact IntWalk.i64_in _ (by omega)
  have HNN := Lib.hid hnn
  obtain ⟨j0, hj0, hy0, hy1, hy2⟩ := info_parts infoCon
  clear hn hat h hT hn1 hnn
  go_enter Tryd.func10, Tryd.ntmps10
  go_upto_region 2 with (go_at_call 14; refine (HSN.out).mono ?_; rintro e w1 ⟨rfl, hb1⟩)
  have HB1 := Lib.hid hb1
  have HL1 := Lib.hid (H.out.below hb1)
  clear hb1
  go_upto_block 0 with (go_at_call 20; (with_reducible refine (HM0.out _).mono ?_); rintro e w2 ⟨rfl, rfl⟩)
  have hszw : w.heap.size ≤ w1.heap.size := HB1.out.size
  go_cut [9, 10, 11, 12, 13] (fun s9 _ _ _ _ wx => ∃ (v9 : Value) (kd nn : Nat → Int), s9 = v9 ∧ Hid ((∀ i, kd i = 5 ∨ kd i = 6 ∨ kd i = 7) ∧ ∀ i, 1 ≤ nn i ∧ nn i ≤ 65535) ∧ Hid (wx.ownsRow w1.heap.size 37 4 v9 (2 * n) (consV (chnC n kd nn n))) ∧ Hid (Turn (fun q => w1.heap.size ≤ q) w1 wx))
  case first =>
    go_wp2_with fail
    go_loopw [9, 10, 11, 12, 13] (fun s9 s10 _ _ _ wr => ∃ (v9 : Value) (i : Nat) (kd nn : Nat → Int), s9 = v9 ∧ s10 = .int .i64 i ∧ i ≤ n ∧ Hid ((∀ i, kd i = 5 ∨ kd i = 6 ∨ kd i = 7) ∧ ∀ i, 1 ≤ nn i ∧ nn i ≤ 65535) ∧ Hid (wr.ownsRow w1.heap.size 37 4 v9 (2 * i) (consV (chnC n kd nn i))) ∧ Hid (Turn (fun q => w1.heap.size ≤ q) w1 wr)) (fun _ s10 _ _ _ _ => n - (intOf s10).toNat)
    case atStart => exact ⟨_, 0, fun _ => 6, fun _ => 1, rfl, rfl, Nat.zero_le _, Lib.hid ⟨fun _ => .inr (.inl rfl), fun _ => show (1 : Int) ≤ 1 ∧ (1 : Int) ≤ 65535 by omega⟩, Lib.hid (World.ownsRow_nil w1 _ _ _), Lib.hid (Turn.refl _ _)⟩
    case round =>
      obtain ⟨v9, i, kd, nn, h9, rfl, hi, HKD, HOW9, HT9⟩ := hrel
      have h9' := h9.symm
      subst h9'
      clear h9
      have hszr : w1.heap.size ≤ wr.heap.size := HT9.out.size
      by_cases hlt : i < n
      · go_upto_if 34 with fail
        go_cut [11] (fun s11 wx => ∃ zl : Int, Hid (i64ok zl) ∧ s11 = .int .i64 zl ∧ wx = wr)
        case first =>
          by_cases hl : i < len
          · obtain ⟨b, off, c, t, fr, rfl, hg, hc⟩ := HL1.out (by omega)
            obtain ⟨zl, hzl, hzk⟩ := hc i hl
            have kl : wr.cell? ⟨b, off + i, none⟩ = some (.int .i64 zl) := by rw [cell_of_row _ _ _ _ _ _ (HT9.out.heap hg (fun h => by have h8 := (Array.getElem?_eq_some_iff.1 hg).1; have h9 : w1.heap.size ≤ b := h; omega))]; exact hzl
            have HZK := Lib.hid hzk
            clear hg hc hzl hzk
            go_wp2_with fail
            go_meet
            case rel => exact ⟨zl, HZK, rfl, rfl⟩
          · have hl2 : len ≤ i := by omega
            go_wp2_with fail
            go_meet
            case rel => exact ⟨0, Lib.hid (by unfold i64ok; omega), rfl, rfl⟩
        case rest =>
          obtain ⟨zl, HZK, rfl, hw1⟩ := hcut
          subst hw1
          obtain ⟨wo, rfl⟩ : ∃ wo : World, wo = wc := ⟨_, rfl⟩
          have HMk := Lib.hid (fun W => mod_any zl 3 HZK.out (by omega) W)
          have HM2 := Lib.hid (fun W => mod_any (zl.tdiv 3) 3 (i64_div HZK.out 3 (by omega)) (by omega) W)
          obtain ⟨m0, hm0⟩ := Int.eq_ofNat_of_zero_le (Int.emod_nonneg zl (show (3 : Int) ≠ 0 by omega))
          obtain ⟨m1, hm1⟩ := Int.eq_ofNat_of_zero_le (Int.emod_nonneg (zl.tdiv 3) (show (3 : Int) ≠ 0 by omega))
          have l0 : m0 < 3 := by have := Int.emod_lt_of_pos zl (show (0 : Int) < 3 by omega); omega
          have l1 : m1 < 3 := by have := Int.emod_lt_of_pos (zl.tdiv 3) (show (0 : Int) < 3 by omega); omega
          rw [hm0] at HMk
          rw [hm1] at HM2
          clear hm0 hm1
          have htab : tabChn[m0]? = some (.int .i64 (5 + (m0 : Int))) := by
            rcases (show m0 = 0 ∨ m0 = 1 ∨ m0 = 2 by omega) with rfl | rfl | rfl <;> rfl
          have HTAB := Lib.hid htab
          obtain ⟨K1, hK1⟩ : ∃ K1 : Int, K1 = 5 + (m0 : Int) := ⟨_, rfl⟩
          rw [← hK1] at HTAB
          have hKK : K1 = 5 ∨ K1 = 6 ∨ K1 = 7 := by omega
          have hwi : IntKind.i64.wrap ((i : Int) + 1) = (i : Int) + 1 := IntWalk.i64_in _ (by omega)
          have hwn : IntKind.i64.wrap (1 + (m1 : Int)) = 1 + (m1 : Int) := IntWalk.i64_in _ (by omega)
          have hwt : IntKind.i64.wrap (zl.tdiv 3) = zl.tdiv 3 := wrap_i64_tdiv zl 3 (HZK.out).1 (HZK.out).2 (by omega)
          have hm0i : (m0 : Int) < 3 := by omega
          clear htab hK1
          go_upto_region 10 with fail
          refine wp_region_relyT [] 14 (factOf [isVT ((fun _ => False)) (TabQ wo.heap.size tabChn 3), isV ((.int .i64 zl)), isV ((.int .i64 (m0 : Int))), isVT ((fun _ => False)) (TatQ wo.heap.size tabChn m0), isV ((.int .i64 K1)), isV ((.int .i64 (i : Int))), isV ((.int .i64 (i : Int))), isV ((.int .i64 ((i : Int) + 1))), isV ((.int .i64 zl)), isV ((.int .i64 (zl.tdiv 3))), isV ((.int .i64 (m1 : Int))), isV ((.int .i64 (1 + (m1 : Int)))), isV ((.agg #[.int .i64 K1, .int .i64 (i : Int), .int .i64 ((i : Int) + 1), .int .i64 (1 + (m1 : Int))])), isVT ((fun _ => False)) (NewC wo.heap.size)]) (nth [[0], [1], [2], [3], [4], [5], [6], [7], [8], [9], [10], [11], [12], [13]]) (nth [[], [], [], [], [], [], [], [], [], [], [], [], [], []]) (nth [[], [], [1], [0, 2], [3], [], [], [6], [], [8], [9, 2], [10], [4, 5, 7, 11], []]) [12, 13] (fun w5 => Turn (fun _ => False) wo w5) (by kernel_rfl) (by kernel_rfl) ((Turn.refl _ _).drew) (fun w w' h hb => h.trans (Turn.ofBelow (bs := fun _ => False) hb) (fun _ _ h => h.elim)) (GrowsAll.of ((GrowsAll.cons (Grows.isVT _ _)  (GrowsAll.cons (Grows.isV _)  (GrowsAll.cons (Grows.isV _)  (GrowsAll.cons (Grows.isVT _ _)  (GrowsAll.cons (Grows.isV _)  (GrowsAll.cons (Grows.isV _)  (GrowsAll.cons (Grows.isV _)  (GrowsAll.cons (Grows.isV _)  (GrowsAll.cons (Grows.isV _)  (GrowsAll.cons (Grows.isV _)  (GrowsAll.cons (Grows.isV _)  (GrowsAll.cons (Grows.isV _)  (GrowsAll.cons (Grows.isV _)  (GrowsAll.cons (Grows.isVT _ _) GrowsAll.nil)))))))))))))))) (fun f F hF => ?_)
          simp only [List.take_succ_cons, List.take_zero, fullGo, Act.put, List.setIfInBounds_toArray, List.set_cons_zero, List.set_cons_succ, Nat.reduceAdd] at hF
          subst hF
          refine ⟨StepObsF.cons ?_ (StepObsF.cons ?_ (StepObsF.cons ?_ (StepObsF.cons ?_ (StepObsF.cons ?_ (StepObsF.cons ?_ (StepObsF.cons ?_ (StepObsF.cons ?_ (StepObsF.cons ?_ (StepObsF.cons ?_ (StepObsF.cons ?_ (StepObsF.cons ?_ (StepObsF.cons ?_ (StepObsF.cons ?_ (StepObsF.nil)))))))))))))), ?_⟩
          · intro w5 hS hF hD K hK
            rw [if_pos (by rfl)]
            go_simp
            exact hK.out _ _ rfl (After.litD rfl rfl rfl rfl ((by simp)) (hS.alloc _) (StaysE.out (by rfl) (StaysE.isV (StaysE.isV (StaysE.isVT ((Turn.refl _ _).alloc _) (StaysE.isV (StaysE.isV (StaysE.isV (StaysE.isV (StaysE.isV (StaysE.isV (StaysE.isV (StaysE.isV (StaysE.isV (StaysE.isVT ((Turn.refl _ _).alloc _) StaysE.nil)))))))))))))) (⟨_, rfl, hS.size, heap_alloc_new _ _⟩))
          · intro w5 hS hF hD K hK
            rw [if_pos (by rfl)]
            refine wp_of_quiet (v := (.int .i64 zl)) (by (show _ = _); kernel_rfl) (hK.out _ _ rfl (After.lit rfl rfl rfl ?_))
            first | rfl | kernel_rfl
          · intro w5 hS hF hD K hK
            obtain ⟨e1, -⟩ := hF
            replace e1 : f 1 = _ := e1
            try simp only [e1]
            rw [if_pos (by rfl)]
            go_simp
            refine (HMk.out _).mono ?_; rintro e w3 ⟨rfl, rfl⟩; have hbelow := Below.refl w5.heap.size w5; go_simp
            refine hK.out _ _ rfl (After.litB rfl rfl rfl hbelow ?_)
            first | rfl | kernel_rfl
          · intro w5 hS hF hD K hK
            obtain ⟨e0, e2, -⟩ := hF
            obtain ⟨y0, p0, t0⟩ := e0
            replace e2 : f 2 = _ := e2
            try simp only [e2]
            rw [if_pos (by rfl)]
            obtain ⟨g0, e0, hB0, hg0⟩ := p0; simp only [e0]; show Oper.wp _ _ _ _ _ _; go_simp
            exact hK.out _ _ rfl (After.litD rfl rfl rfl rfl (Nat.le_refl _) (hS) (StaysE.isVT (Turn.refl _ _) (StaysE.isV (StaysE.isV (StaysE.out (by rfl) (StaysE.isV (StaysE.isV (StaysE.isV (StaysE.isV (StaysE.isV (StaysE.isV (StaysE.isV (StaysE.isV (StaysE.isV (StaysE.isVT (Turn.refl _ _) StaysE.nil)))))))))))))) (⟨g0, rfl, hB0, t0.heap hg0 (fun h => h)⟩))
          · intro w5 hS hF hD K hK
            obtain ⟨e3, -⟩ := hF
            obtain ⟨y3, p3, t3⟩ := e3
            rw [if_pos (by rfl)]
            obtain ⟨g3, e3, hB3, hg3⟩ := p3; simp only [e3]; exact wp_of_quiet (exec_load_at _ _ rfl _ _ rfl _ _ _ (t3.heap hg3 (fun h => h)) (.int .i64 K1) HTAB.out (fun _ => by kernel_rfl)) (hK.out _ _ rfl (After.lit rfl rfl rfl (by first | rfl | kernel_rfl)))
          · intro w5 hS hF hD K hK
            rw [if_pos (by rfl)]
            refine wp_of_quiet (v := (.int .i64 (i : Int))) (by (show _ = _); kernel_rfl) (hK.out _ _ rfl (After.lit rfl rfl rfl ?_))
            first | rfl | kernel_rfl
          · intro w5 hS hF hD K hK
            rw [if_pos (by rfl)]
            refine wp_of_quiet (v := (.int .i64 (i : Int))) (by (show _ = _); kernel_rfl) (hK.out _ _ rfl (After.lit rfl rfl rfl ?_))
            first | rfl | kernel_rfl
          · intro w5 hS hF hD K hK
            obtain ⟨e6, -⟩ := hF
            replace e6 : f 6 = _ := e6
            try simp only [e6]
            rw [if_pos (by rfl)]
            go_simp
            refine hK.out _ _ rfl (After.lit rfl rfl rfl ?_)
            first | rfl | kernel_rfl
          · intro w5 hS hF hD K hK
            rw [if_pos (by rfl)]
            refine wp_of_quiet (v := (.int .i64 zl)) (by (show _ = _); kernel_rfl) (hK.out _ _ rfl (After.lit rfl rfl rfl ?_))
            first | rfl | kernel_rfl
          · intro w5 hS hF hD K hK
            obtain ⟨e8, -⟩ := hF
            replace e8 : f 8 = _ := e8
            try simp only [e8]
            rw [if_pos (by rfl)]
            go_simp
            refine hK.out _ _ rfl (After.lit rfl rfl rfl ?_)
            first | rfl | kernel_rfl
          · intro w5 hS hF hD K hK
            obtain ⟨e9, e2, -⟩ := hF
            replace e9 : f 9 = _ := e9
            replace e2 : f 2 = _ := e2
            try simp only [e9, e2]
            rw [if_pos (by rfl)]
            go_simp
            refine (HM2.out _).mono ?_; rintro e w3 ⟨rfl, rfl⟩; have hbelow := Below.refl w5.heap.size w5; go_simp
            refine hK.out _ _ rfl (After.litB rfl rfl rfl hbelow ?_)
            first | rfl | kernel_rfl
          · intro w5 hS hF hD K hK
            obtain ⟨e10, -⟩ := hF
            replace e10 : f 10 = _ := e10
            try simp only [e10]
            rw [if_pos (by rfl)]
            go_simp
            refine hK.out _ _ rfl (After.lit rfl rfl rfl ?_)
            first | rfl | kernel_rfl
          · intro w5 hS hF hD K hK
            obtain ⟨e4, e5, e7, e11, -⟩ := hF
            replace e4 : f 4 = _ := e4
            replace e5 : f 5 = _ := e5
            replace e7 : f 7 = _ := e7
            replace e11 : f 11 = _ := e11
            try simp only [e4, e5, e7, e11]
            rw [if_pos (by rfl)]
            refine wp_of_quiet (v := (.agg #[.int .i64 K1, .int .i64 (i : Int), .int .i64 ((i : Int) + 1), .int .i64 (1 + (m1 : Int))])) (by (show _ = _); kernel_rfl) (hK.out _ _ rfl (After.lit rfl rfl rfl ?_))
            first | rfl | kernel_rfl
          · intro w5 hS hF hD K hK
            rw [if_pos (by rfl)]
            go_simp
            exact hK.out _ _ rfl (After.litD rfl rfl rfl rfl ((by simp)) (hS.alloc _) (StaysE.isVT ((Turn.refl _ _).alloc _) (StaysE.isV (StaysE.isV (StaysE.isVT ((Turn.refl _ _).alloc _) (StaysE.isV (StaysE.isV (StaysE.isV (StaysE.isV (StaysE.isV (StaysE.isV (StaysE.isV (StaysE.isV (StaysE.isV (StaysE.out (by rfl) StaysE.nil)))))))))))))) (⟨_, _, rfl, hS.size, heap_alloc_new _ _, rfl⟩))
          intro w5 hS hF
          obtain ⟨e12, e13, -⟩ := hF
          replace e12 : f 12 = _ := e12
          obtain ⟨y13, p13, t13⟩ := e13
          try simp only [e12]
          simp only [List.drop_succ_cons, List.drop_zero]
          obtain ⟨g5, c5, hf5, hB5, hcs5, hsz5⟩ := p13
          have hblk5 := t13.heap hcs5 (fun h => h)
          have HS5 := Lib.hid hS
          have HK5 := Lib.hid hblk5
          have HZ5 := Lib.hid hsz5
          simp only [hf5]
          clear hS t13 hcs5 hblk5 hsz5 hf5 e12 hwi hwn hwt
          obtain ⟨N1, hN1⟩ : ∃ N1 : Int, N1 = 1 + (m1 : Int) := ⟨_, rfl⟩
          rw [← hN1]
          have hNN : 1 ≤ N1 ∧ N1 ≤ 65535 := by omega
          obtain ⟨B1, hB1⟩ : ∃ B1 : Int, B1 = (i : Int) + 1 := ⟨_, rfl⟩
          have hB1k : B1 = ((i + 1 : Nat) : Int) := by omega
          rw [← hB1]
          have HBB := Lib.hid hB1k
          clear hN1 hB1 hB1k
          go_upto_region 11 with (refine wpList_store_row rfl _ _ _ rfl _ _ rfl rfl _ _ (HK5.out) ?_ ?_ ?_ ?_; kernel_rfl; (rw [HZ5.out]; rfl); kernel_rfl)
          obtain ⟨W6, hW6⟩ : ∃ W6, W6 = w5.setRow g5 #[.int .i64 K1, .int .i64 (i : Int), .int .i64 B1, .int .i64 N1] := ⟨_, rfl⟩
          have ht6 : Turn (fun q => wo.heap.size ≤ q) wo W6 := by rw [hW6]; exact (HS5.out.mono (fun _ _ h => h.elim)).setRow _ (fun _ => hB5)
          have hb6 : W6.heap[g5]? = some (.cells #[.int .i64 K1, .int .i64 (i : Int), .int .i64 B1, .int .i64 N1] 37 (0, 0)) := by rw [hW6]; exact setRow_heap _ _ _ _ _ _ HK5.out
          rw [← hW6]
          have HBLK := Lib.hid hb6
          have HTW := Lib.hid ht6
          have hg6 : g5 < W6.heap.size := (Array.getElem?_eq_some_iff.1 hb6).1
          clear hW6 ht6 hb6 HK5 HZ5 HS5
          simp only [Act.put]
          go_upto_region 12 with (first | (refine wpList_load_row rfl _ _ rfl _ rfl _ _ _ _ (HBLK.out) rfl rfl ?_ ?_; kernel_rfl) | (refine wpList_store_row rfl _ _ _ rfl _ _ rfl rfl _ _ (heap_alloc_new _ _) ?_ ?_ ?_ ?_; kernel_rfl; rfl; kernel_rfl; rw [World.setRow_alloc_new]))
          obtain ⟨W7, hW7⟩ : ∃ W7, W7 = W6.alloc (.cells #[.int .i64 K1, .int .i64 (i : Int), .int .i64 B1, .int .i64 N1] 37) := ⟨_, rfl⟩
          change Code.wp _ _ _ _ (W6.alloc (.cells #[.int .i64 K1, .int .i64 (i : Int), .int .i64 B1, .int .i64 N1] 37))
          rw [← hW7]
          have ht7 : Turn (fun q => wo.heap.size ≤ q) wo W7 := by rw [hW7]; exact HTW.out.alloc _
          have hb7 : W7.heap[g5]? = some (.cells #[.int .i64 K1, .int .i64 (i : Int), .int .i64 B1, .int .i64 N1] 37 (0, 0)) := by rw [hW7]; exact (((Turn.refl (fun _ => False) W6).alloc _)).heap HBLK.out (fun h => h)
          have hd7 : W7.heap[W6.heap.size]? = some (.cells #[.int .i64 K1, .int .i64 (i : Int), .int .i64 B1, .int .i64 N1] 37 (0, 0)) := by rw [hW7]; exact heap_alloc_new _ _
          have HB7 := Lib.hid hb7
          have HD7 := Lib.hid hd7
          have HT7 := Lib.hid ht7
          have f1 : W7.frozen? ⟨W6.heap.size, 1, none⟩ = false := frozen_of_row _ _ _ _ _ hd7
          have c1 : W7.cell? ⟨W6.heap.size, 1, none⟩ = some (.int .i64 (i : Int)) := by rw [cell_of_row _ _ _ _ _ _ hd7]; rfl
          have hs67 : wo.heap.size ≤ W6.heap.size := HTW.out.size
          clear hW7 ht7 hb7 hd7 HTW HBLK
          simp only [Act.put]
          go_upto_if 54 with fail
          go_cut [] (fun wx => Hid (wx.heap[W6.heap.size]? = some (.cells #[.int .i64 K1, .int .i64 (if 0 < i then ((n + i : Nat) : Int) else (i : Nat)), .int .i64 B1, .int .i64 N1] 37 (0, 0))) ∧ Hid (Turn (fun q => q = W6.heap.size) W7 wx))
          case first =>
            by_cases hip : 0 < i
            · have HIP := Lib.hid hip
              go_wp2_with fail
              go_meet
              case rel => exact ⟨Lib.hid (by rw [if_pos HIP.out]; exact (heap_setCell_same HD7.out _).trans rfl), Lib.hid ((Turn.refl _ _).setCell _ (fun _ => rfl))⟩
            · have HIP := Lib.hid hip
              have hip2 : i ≤ 0 := by omega
              go_wp2_with fail
              go_meet
              case rel => exact ⟨Lib.hid (by rw [if_neg HIP.out]; exact HD7.out), Lib.hid (Turn.refl _ _)⟩
          case rest =>
            obtain ⟨HD8, HT8⟩ := hcut
            clear f1 c1 HD7
            have HB8 := Lib.hid (HT8.out.heap HB7.out (fun h => by have h : g5 = W6.heap.size := h; omega))
            obtain ⟨A2, hA2⟩ : ∃ A2 : Int, (if 0 < i then ((n + i : Nat) : Int) else (i : Nat)) = A2 := ⟨_, rfl⟩
            rw [hA2] at HD8
            have HA2 := Lib.hid hA2
            have f2 : wc.frozen? ⟨W6.heap.size, 2, none⟩ = false := frozen_of_row _ _ _ _ _ HD8.out
            have c2 : wc.cell? ⟨W6.heap.size, 2, none⟩ = some (.int .i64 B1) := by rw [cell_of_row _ _ _ _ _ _ HD8.out]; rfl
            obtain ⟨w8, rfl⟩ : ∃ W : World, W = wc := ⟨_, rfl⟩
            clear hA2 HB7
            go_upto_region 15 with fail
            obtain ⟨W9, hW9⟩ : ∃ W9, W9 = w8.setCell ⟨W6.heap.size, 2, none⟩ (.int .i64 ((n : Int) + (i : Int) + 1)) := ⟨_, rfl⟩
            have hd9 : W9.heap[W6.heap.size]? = some (.cells #[.int .i64 K1, .int .i64 A2, .int .i64 ((n : Int) + (i : Int) + 1), .int .i64 N1] 37 (0, 0)) := by rw [hW9]; exact (heap_setCell_same HD8.out _).trans rfl
            have ht9 : Turn (fun q => q = W6.heap.size) w8 W9 := by rw [hW9]; exact (Turn.refl _ _).setCell _ (fun _ => rfl)
            rw [← hW9]
            have HD9 := Lib.hid hd9
            have HB9 := Lib.hid (ht9.heap HB8.out (fun h => by have h : g5 = W6.heap.size := h; omega))
            have HT9' := Lib.hid ((HT7.out.trans HT8.out (fun q _ h => by have h : q = W6.heap.size := h; omega)).trans ht9 (fun q _ h => by have h : q = W6.heap.size := h; omega))
            clear hW9 hd9 ht9 f2 c2 HT7 HT8 HD8 HB8
            have HOC := Lib.hid (own_turn HOW9.out HT9'.out (fun q hq h => by have h1 := (HOW9.out.lt q hq).2; have h : wo.heap.size ≤ q := h; omega))
            have hsz2 := HT9'.out.size
            have HLN := Lib.hid (chn_len n kd nn i)
            go_wp2_with (first | (refine wpList_load_row rfl _ _ rfl _ rfl _ _ _ _ (HB9.out) rfl rfl ?_ ?_; kernel_rfl) | (refine wpList_load_row rfl _ _ rfl _ rfl _ _ _ _ (HD9.out) rfl rfl ?_ ?_; kernel_rfl) | (at_builtin; refine wpList_append_own _ rfl _ _ 24 rfl w1.heap.size 37 j0 (.agg #[.int .i64 0, .int .i64 0, .int .i64 0, .int .i64 0]) 4 32 Tryd.underlying24 hj0 hy0 hy1 hy2 rfl (by decide) _ (2 * i) (consV (chnC n kd nn i)) rfl (own_turn HOC.out ((Turn.refl (fun _ => False) _).alloc _) (fun _ _ h => h)) ⟨W9.heap.size, 0, none⟩ 2 2 [.int .i64 K1, .int .i64 (i : Int), .int .i64 B1, .int .i64 N1, .int .i64 K1, .int .i64 A2, .int .i64 ((n : Int) + (i : Int) + 1), .int .i64 N1] rfl rfl (cells_new _ _ _ _ rfl) (by exact consV_one [⟨K1, (i : Int), B1, N1⟩, ⟨K1, A2, (n : Int) + (i : Int) + 1, N1⟩]) (by unfold maxLen; omega) (by omega) (Nat.le_trans hszr (Nat.le_trans hsz2 (by simp))) ?_; intro v10 w10 hown10 hgrow10 _))
            have hT10 : Turn (fun q => w1.heap.size ≤ q) wo w10 := (HT9'.out.mono (fun q _ h => Nat.le_trans hszr h)).trans (((Turn.refl (fun q => w1.heap.size ≤ q) W9).alloc _).grown hgrow10 (fun q e _ => (own_cells HOC.out q e).1)) (fun _ _ h => h)
            refine ⟨⟨_, i + 1, fun j => if j = i then K1 else kd j, fun j => if j = i then N1 else nn j, rfl, by go_num, by omega, Lib.hid ⟨fun j => ?_, fun j => ?_⟩, Lib.hid ?_, Lib.hid (HT9.out.trans hT10 (fun _ _ h => h))⟩, by simp [intOf]; omega⟩
            · show (if j = i then K1 else kd j) = 5 ∨ (if j = i then K1 else kd j) = 6 ∨ (if j = i then K1 else kd j) = 7
              split
              · exact hKK
              · exact HKD.out.1 j
            · show 1 ≤ (if j = i then N1 else nn j) ∧ (if j = i then N1 else nn j) ≤ 65535
              split
              · exact hNN
              · exact HKD.out.2 j
            · rw [chn_succ, ← chn_congr (kd := kd) (nn := nn) (fun j hj => by rw [if_neg (by omega), if_neg (by omega)]; exact ⟨rfl, rfl⟩), if_pos rfl, if_pos rfl, HA2.out, ← HBB.out, consV_append, show 2 * (i + 1) = 2 * i + 2 by omega]
              exact hown10
      · have hin : i = n := by omega
        subst hin
        go_wp2_with fail
        go_meet
        case rel => exact ⟨_, kd, nn, rfl, HKD, HOW9, HT9⟩
  case rest =>
    obtain ⟨v9, kd, nn, h9, HKD, HOW9, HT9⟩ := hcut
    subst h9
    obtain ⟨sg, hsg⟩ : ∃ sg : Int, sg = 3 + (a0 : Int) := ⟨_, rfl⟩
    have hsgg : sg = 3 ∨ sg = 4 := by omega
    have hws : IntKind.i64.wrap (3 + (a0 : Int)) = sg := by rw [← hsg]; exact IntWalk.i64_in _ (by omega)
    have hsg2 : 3 + (a0 : Int) = sg := hsg.symm
    have hszc : w1.heap.size ≤ wc.heap.size := HT9.out.size
    have HLN := Lib.hid (chn_len n kd nn n)
    clear hsg
    go_upto_region 17 with (go_at_call 20; (with_reducible refine (HMA.out _).mono ?_); rintro e w2 ⟨rfl, rfl⟩)
    clear hsg2 hws
    go_upto_region 18 with (at_builtin; refine wpList_append_own _ rfl _ _ 24 rfl w1.heap.size 37 j0 (.agg #[.int .i64 0, .int .i64 0, .int .i64 0, .int .i64 0]) 4 32 Tryd.underlying24 hj0 hy0 hy1 hy2 rfl (by decide) _ (2 * n) (consV (chnC n kd nn n)) rfl (own_turn HOW9.out ((Turn.refl (fun _ => False) _).alloc _) (fun _ _ h => h)) ⟨wc.heap.size, 0, none⟩ 2 2 [.int .i64 sg, .int .i64 (n : Int), .int .i64 0, .int .i64 0, .int .i64 2, .int .i64 (2 * (n : Int)), .int .i64 0, .int .i64 2] rfl rfl (cells_new _ _ _ _ rfl) (by exact consV_one [⟨sg, (n : Int), 0, 0⟩, ⟨2, 2 * (n : Int), 0, 2⟩]) (by unfold maxLen; omega) (by omega) (Nat.le_trans hszc (by simp)) ?_; intro v10 w10 hown10 hgrow10 _)
    have hT10 : Turn (fun q => w1.heap.size ≤ q) w1 w10 := HT9.out.trans (((Turn.refl (fun q => w1.heap.size ≤ q) wc).alloc _).grown hgrow10 (fun q e _ => (own_cells HOW9.out q e).1)) (fun _ _ h => h)
    obtain ⟨cs, hcs⟩ : ∃ cs, cs = chnC n kd nn n ++ chnE n sg := ⟨_, rfl⟩
    have hlc : cs.length = 2 * n + 2 := by rw [hcs, List.length_append, HLN.out]; rfl
    have hown : w10.ownsRow w1.heap.size 37 4 v10 (2 * n + 2) (consV cs) := by
      rw [hcs, consV_append]
      exact hown10
    obtain ⟨ox, cx, rfl⟩ := own_slice hown
    have HOW := Lib.hid hown
    have HCS := Lib.hid hcs
    have HLC := Lib.hid hlc
    have HS1 := Lib.hid (by
      have h9 := solve_any ((2 * n + 1 : Nat) : Int) cs (by omega) w10 ox cx (by rw [hlc]; exact (own_cap hown).1) (own_cons hown).2
      rw [hlc, show ((2 * n + 1 : Nat) : Int) = 2 * (n : Int) + 1 by omega] at h9; exact h9)
    have HBC := Lib.hid (HB1.out.trans ((hT10.toBelow (Nat.le_refl _) (fun _ h => h)).mono HB1.out.size))
    have hs10 : w1.heap.size ≤ w10.heap.size := hT10.size
    have hcap : 2 * n + 2 ≤ cx := (own_cap hown).1
    clear hown hown10 hgrow10 hT10 hcs hlc HOW9 HT9
    go_upto_region 19 with (go_at_call 19; refine (HS1.out).mono ?_; rintro e w11 ⟨va, ra, ka, ea, rfl, hsa, hba, hra⟩)
    rw [HCS.out, show 2 * (n : Int) + 1 = ((2 * n + 1 : Nat) : Int) by omega] at hsa
    have hlaw := chains_law hn0 hn30 HKD.out.1 HKD.out.2 hsgg hsa
    obtain ⟨rfl, hla, hc1, hc2, hz1, hs1⟩ := hlaw
    have HB11 := Lib.hid (HBC.out.trans (hba.mono HBC.out.size))
    obtain ⟨aa, ca, rfl, hcaa, hga⟩ := hra.view
    obtain ⟨ga, oa, cca, rfl, hgh, hgc⟩ := hga (by omega)
    have HGH := Lib.hid hgh
    have cel : ∀ (j v : Nat) (r : Row), ra[v]? = some r → j < 7 → ∃ fv, cca[oa + v * 7 + j]? = (rowCells r fv)[j]? := fun j v r hr hj => by
      obtain ⟨fv, -, -, h3⟩ := hgc v r hr
      exact ⟨fv, h3 j hj⟩
    have at' : ∀ v, v < 2 * n + 1 → ∃ r, ra[v]? = some r := fun v hv => ⟨ra[v]'(by omega), List.getElem?_eq_getElem (by omega)⟩
    have HC1 := Lib.hid (show ∀ j, 1 ≤ j → j ≤ n → cca[oa + j * 7]? = some (.int .i64 (j : Int)) ∧ cca[oa + (n + j) * 7]? = some (.int .i64 (j : Int)) from fun j h1 h2 => by
      obtain ⟨r, hr⟩ := at' j (by omega)
      obtain ⟨q, hq⟩ := at' (n + j) (by omega)
      obtain ⟨fv, e1⟩ := cel 0 j r hr (by omega)
      obtain ⟨fw, e2⟩ := cel 0 (n + j) q hq (by omega)
      constructor
      · rw [Nat.add_zero] at e1; rw [e1]; show some (Value.int .i64 r.cls) = _; rw [hc1 j r h1 h2 hr]
      · rw [Nat.add_zero] at e2; rw [e2]; show some (Value.int .i64 q.cls) = _; rw [hc2 j q h1 h2 hq])
    have HZ1 := Lib.hid (show cca[oa + n * 7 + 1]? = some (.int .i64 2) by
      obtain ⟨r, hr⟩ := at' n (by omega)
      obtain ⟨fv, e1⟩ := cel 1 n r hr (by omega)
      rw [e1]; show some (Value.int .i64 r.size) = _; rw [hz1 r hr])
    have HG1 := Lib.hid (show cca[oa + (2 * n) * 7 + 2]? = some (.int .i64 sg) by
      obtain ⟨r, hr⟩ := at' (2 * n) (by omega)
      obtain ⟨fv, e1⟩ := cel 2 (2 * n) r hr (by omega)
      rw [e1]; show some (Value.int .i64 r.sign) = _; rw [hs1 r hr])
    have HOWb := Lib.hid (own_turn HOW.out (Turn.ofBelow (bs := fun _ => False) hba) (fun _ _ h => h))
    rw [hla] at hcaa ⊢
    have hs11 : w1.heap.size ≤ w11.heap.size := Nat.le_trans hs10 hba.size
    clear hsa hba hra hga hgh hgc hla hc1 hc2 hz1 hs1 cel at' HS1
    go_upto_block 2 with fail
    go_cut [18] (fun _ wx => wx = w11)
    case first =>
      go_wp2_with fail
      go_loopw [18] (fun s18 wr => ∃ j : Nat, s18 = .int .i64 j ∧ 1 ≤ j ∧ j ≤ n + 1 ∧ wr = w11) (fun s18 _ => n + 1 - (intOf s18).toNat)
      case atStart => exact ⟨1, by go_num, by omega, by omega, rfl⟩
      case round =>
        obtain ⟨j, rfl, hj1, hj2, hwj⟩ := hrel
        subst hwj
        by_cases hjn : j ≤ n
        · obtain ⟨e1, e2⟩ := HC1.out j hj1 hjn
          have kj : wr.cell? ⟨ga, oa + j * 7, none⟩ = some (.int .i64 (j : Int)) := by rw [cell_of_row _ _ _ _ _ _ HGH.out]; exact e1
          have kn : wr.cell? ⟨ga, oa + (n + j) * 7, none⟩ = some (.int .i64 (j : Int)) := by rw [cell_of_row _ _ _ _ _ _ HGH.out]; exact e2
          clear e1 e2
          go_wp2_with fail
          exact ⟨⟨j + 1, by go_num, by omega, by omega, trivial⟩, by simp [intOf]; omega⟩
        · have hjn2 : n < j := by omega
          go_wp2_with fail
          go_meet
          case rel => rfl
    case rest =>
      have hw11 : wc = w11 := hcut
      subst hw11
      clear hcut
      have HCL := Lib.hid (consV_len cs)
      have h7 : ∃ s7 : Int, s7 = 7 - sg := ⟨_, rfl⟩
      obtain ⟨s7, hs7⟩ := h7
      have hw7 : IntKind.i64.wrap (7 - sg) = s7 := by rw [← hs7]; exact IntWalk.i64_in _ (by omega)
      have h7b : 7 - sg = s7 := hs7.symm
      have HS7 := Lib.hid hs7
      clear hs7
      have hmore : ∀ (rows : List Row) (i err : Int), SolveR (2 * (n : Int) + 1) (cs ++ [⟨s7, 2 * (n : Int), 0, 0⟩]) rows i err → err = 60 ∧ i = ((2 * n + 2 : Nat) : Int) := fun rows i err h => by
        rw [show 2 * (n : Int) + 1 = ((2 * n + 1 : Nat) : Int) by omega, HCS.out, HS7.out, show 2 * (n : Int) = ((2 * n : Nat) : Int) by omega] at h
        exact chains_more hn0 hn30 HKD.out.1 HKD.out.2 hsgg h
      have HMO := Lib.hid hmore
      have hlen3 : (cs ++ [(⟨s7, 2 * (n : Int), 0, 0⟩ : Con)]).length = 2 * n + 2 + 1 := by rw [List.length_append, HLC.out]; rfl
      have HL3 := Lib.hid hlen3
      have HCN := Lib.hid (And.intro HZ1.out HG1.out)
      clear hmore hlen3
      go_upto_region 27 with (first | (at_builtin; refine wpList_append_own _ rfl _ _ 24 rfl w1.heap.size 37 j0 (.agg #[.int .i64 0, .int .i64 0, .int .i64 0, .int .i64 0]) 4 32 Tryd.underlying24 hj0 hy0 hy1 hy2 rfl (by decide) _ (2 * n + 2) (consV cs) rfl (own_turn HOWb.out ((Turn.refl (fun _ => False) _).alloc _) (fun _ _ h => h)) ⟨wc.heap.size, 0, none⟩ 1 1 [.int .i64 s7, .int .i64 (2 * (n : Int)), .int .i64 0, .int .i64 0] rfl rfl (cells_new _ _ _ _ rfl) (by exact consV_one [⟨s7, 2 * (n : Int), 0, 0⟩]) (by unfold maxLen; omega) (by omega) (Nat.le_trans hs11 (by simp)) ?_; intro v12 w12 hown12 hgrow12 _; obtain ⟨oy, cy, rfl⟩ := own_slice hown12; have HT12 := Lib.hid (((Turn.refl (fun q => w1.heap.size ≤ q ∧ (Value.slice ox (2 * n + 2) cx).ownBlock = some q) wc).alloc _).grown hgrow12 (fun q e _ => ⟨(own_cells HOWb.out q e).1, e⟩)); have HS2 := Lib.hid (show Calls _ _ _ _ (SolvePost (2 * (n : Int) + 1) (cs ++ [⟨s7, 2 * (n : Int), 0, 0⟩]) w12) from by (have h9 := solve_any ((2 * n + 1 : Nat) : Int) (cs ++ [⟨s7, 2 * (n : Int), 0, 0⟩]) (by omega) w12 oy cy (by rw [HL3.out]; exact (own_cap hown12).1) (own_cons (cs := cs ++ [⟨s7, 2 * (n : Int), 0, 0⟩]) (by rw [consV_snoc]; exact hown12)).2); rw [HL3.out, show ((2 * n + 1 : Nat) : Int) = 2 * (n : Int) + 1 by omega] at h9; exact h9); clear hown12 hgrow12) | (go_at_call 19; refine (HS2.out).mono ?_; rintro e w13 ⟨vb, rb, kb, eb, rfl, hsb, hbb, hrb⟩))
      obtain ⟨rfl, rfl⟩ := HMO.out _ _ _ hsb
      have HB12 := Lib.hid (HB11.out.trans ((HT12.out.toBelow hs11 (fun _ h => h.1)).mono hszw))
      have HB13 := Lib.hid (HB12.out.trans (hbb.mono HB12.out.size))
      have hg12 := HT12.out.heap HGH.out (fun h => by obtain ⟨-, c9, h9⟩ := own_cells HOWb.out ga h.2; rw [HGH.out] at h9; simp at h9)
      have hg13 := below_keep hbb hg12
      have kz : w13.cell? ⟨ga, oa + n * 7 + 1, none⟩ = some (.int .i64 2) := by rw [cell_of_row _ _ _ _ _ _ hg13]; exact HCN.out.1
      have kg : w13.cell? ⟨ga, oa + 2 * n * 7 + 2, none⟩ = some (.int .i64 sg) := by rw [cell_of_row _ _ _ _ _ _ hg13]; exact HCN.out.2
      clear hsb hbb hrb hg12 hg13 hw7 h7b
      go_wp2_with fail
      go_ret
      exact ⟨rfl, HB13.out⟩
end Go.Proofs.YtepmgnhblegiiaaDoor
