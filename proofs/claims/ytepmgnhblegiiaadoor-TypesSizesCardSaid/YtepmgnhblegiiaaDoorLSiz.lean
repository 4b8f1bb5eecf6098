/- TypesSizes walked. Condition: the table of powers of ten reads as the text lays it. -/
import Derived.Test.YtepmgnhblegiiaaDoorLSizA
import Derived.Test.YtepmgnhblegiiaaDoorCnv
set_option linter.all false
namespace Go.Proofs.YtepmgnhblegiiaaDoor
open Go Go.RowKit Go.Maps

def EmpQ (v : Value) (_w : World) : Prop := ∃ g, v = .slice (some ⟨g, 0, none⟩) 0 0
def OwnQ (B : Nat) (cs : List Con) (v : Value) (w : World) : Prop := w.ownsRow B 37 4 v cs.length (consV cs)
theorem siz_two {s kd f k : Int} (hkd : kd = 6 ∨ kd = 7) (hk : k = 0) : Siz [⟨2, 0, 0, s⟩, ⟨kd, 0, 1, f⟩] s kd f k :=
  ⟨hkd, fun c hc => by simp only [List.mem_cons, List.not_mem_nil, or_false] at hc; rcases hc with rfl | rfl <;> simp, by simp, by simp, fun h => by omega⟩
theorem siz_three {s kd f k : Int} (hkd : kd = 6 ∨ kd = 7) (hk : 0 < k) : Siz [⟨2, 0, 0, s⟩, ⟨kd, 0, 1, f⟩, ⟨2, 1, 0, k⟩] s kd f k :=
  ⟨hkd, fun c hc => by simp only [List.mem_cons, List.not_mem_nil, or_false] at hc; rcases hc with rfl | rfl | rfl <;> simp [hk], by simp, by simp, fun _ => by simp⟩

set_option maxRecDepth 100000 in
set_option maxHeartbeats 4000000 in
theorem typesSizes_any (q0 q1 p o : Int) (h0 : i64ok q0) (h1 : i64ok q1) (hp : i64ok p) (ho : i64ok o) (w : World) (hT : TabP w) :
    Calls Tryd.prog 12 #[.agg #[.int .i64 q0, .int .i64 q1], .int .i64 p, .int .i64 o] w fun e w' => e = .returned (.bool true) ∧ Below w.heap.size w w' := by
  have HT := Lib.hid hT
  have ho2 : i64ok (o.tdiv 2) := i64_div ho 2 (by omega)
  have HM0 := Lib.hid (fun W => mod_any q0 40 h0 (by omega) W)
  have HM1 := Lib.hid (fun W => mod_any q1 45 h1 (by omega) W)
  have HMP := Lib.hid (fun W => mod_any p 5 hp (by omega) W)
  have HMO := Lib.hid (fun W => mod_any (o.tdiv 2) 3 ho2 (by omega) W)
  obtain ⟨sz, hs⟩ := Int.eq_ofNat_of_zero_le (Int.emod_nonneg q0 (show (40 : Int) ≠ 0 by omega))
  obtain ⟨fo, hf⟩ := Int.eq_ofNat_of_zero_le (Int.emod_nonneg q1 (show (45 : Int) ≠ 0 by omega))
  obtain ⟨kk, hk⟩ := Int.eq_ofNat_of_zero_le (Int.emod_nonneg p (show (5 : Int) ≠ 0 by omega))
  obtain ⟨rr, hr⟩ := Int.eq_ofNat_of_zero_le (Int.emod_nonneg (o.tdiv 2) (show (3 : Int) ≠ 0 by omega))
  have ls : sz < 40 := by have := Int.emod_lt_of_pos q0 (show (0 : Int) < 40 by omega); omega
  have lf : fo < 45 := by have := Int.emod_lt_of_pos q1 (show (0 : Int) < 45 by omega); omega
  have lk : kk < 5 := by have := Int.emod_lt_of_pos p (show (0 : Int) < 5 by omega); omega
  have lr : rr < 3 := by have := Int.emod_lt_of_pos (o.tdiv 2) (show (0 : Int) < 3 by omega); omega
  rw [hs] at HM0
  rw [hf] at HM1
  rw [hk] at HMP
  rw [hr] at HMO
  obtain ⟨j0, hj0, hy0, hy1, hy2⟩ := info_parts infoCon
  unfold i64ok at ho
  clear hs hf hk hr hT ho2
  have HSN := Lib.hid (fun W (hb : Below w.heap.size w W) => sanity_any W (HT.out.stay hb))
  go_enter Tryd.func12, Tryd.ntmps12
  go_upto_region 2 with (go_at_call 14; refine (HSN.out _ ((Below.refl _ _).alloc (Nat.le_refl _) _)).mono ?_; rintro e w1 ⟨rfl, hb1⟩)
  have hcb := (hb1.block w.heap.size (by simp)).trans (heap_alloc_new w (.cells #[.int .i64 q0, .int .i64 q1] 49))
  have k0 : w1.cell? ⟨w.heap.size, 0, none⟩ = some (.int .i64 q0) := by rw [cell_of_row _ _ _ _ _ _ hcb]; rfl
  have k1 : w1.cell? ⟨w.heap.size, 1, none⟩ = some (.int .i64 q1) := by rw [cell_of_row _ _ _ _ _ _ hcb]; rfl
  have HB1 := Lib.hid (((Below.refl w.heap.size w).alloc (Nat.le_refl _) (.cells #[.int .i64 q0, .int .i64 q1] 49)).trans (hb1.mono (by simp)))
  have hs1 : w.heap.size ≤ w1.heap.size := HB1.out.size
  clear hb1 hcb HSN
  have hmb : max kk 1 ≤ 4 ∧ 1 ≤ max kk 1 := by omega
  have hwr : IntKind.i64.wrap (1 + (sz : Int)) = 1 + (sz : Int) := IntWalk.i64_in _ (by omega)
  go_upto_region 6 with (first | (go_at_call 20; (with_reducible refine (HM0.out _).mono ?_); rintro e w2 ⟨rfl, rfl⟩) | (go_at_call 20; (with_reducible refine (HMP.out _).mono ?_); rintro e w2 ⟨rfl, rfl⟩) | (go_at_call 20; (with_reducible refine (HM1.out _).mono ?_); rintro e w2 ⟨rfl, rfl⟩))
  clear k0 k1 hwr
  have hA := heap_alloc_new w1 (.cells #[.int .i64 2, .int .i64 0, .int .i64 0, .int .i64 (1 + (sz : Int)), .int .i64 6, .int .i64 0, .int .i64 1, .int .i64 (fo : Int)] 37)
  obtain ⟨W, hW⟩ : ∃ W, W = w1.alloc (.cells #[.int .i64 2, .int .i64 0, .int .i64 0, .int .i64 (1 + (sz : Int)), .int .i64 6, .int .i64 0, .int .i64 1, .int .i64 (fo : Int)] 37) := ⟨_, rfl⟩
  have hOW : W.ownsRow w1.heap.size 37 4 (.slice (some ⟨w1.heap.size, 0, none⟩) 2 2) 2 (consV [⟨2, 0, 0, 1 + (sz : Int)⟩, ⟨6, 0, 1, (fo : Int)⟩]) := by rw [hW]; exact World.ownsRow_lit w1 _ 2 (Nat.le_refl _) (by decide) rfl
  have hTW : Turn (fun q => w1.heap.size ≤ q) w1 W := by rw [hW]; exact (Turn.refl _ _).alloc _
  change Code.wp _ _ _ _ (w1.alloc (.cells #[.int .i64 2, .int .i64 0, .int .i64 0, .int .i64 (1 + (sz : Int)), .int .i64 6, .int .i64 0, .int .i64 1, .int .i64 (fo : Int)] 37))
  rw [← hW] at hA ⊢
  clear hW
  have HOW := Lib.hid hOW
  have HTW := Lib.hid hTW
  have HA := Lib.hid hA
  have k7 : W.cell? ⟨w1.heap.size, 7, none⟩ = some (.int .i64 (fo : Int)) := by rw [cell_of_row _ _ _ _ _ _ hA]; rfl
  have hsW : w1.heap.size ≤ W.heap.size := hTW.size
  clear hOW hTW hA
  obtain ⟨mm, hmm⟩ : ∃ mm : Nat, mm = max kk 1 := ⟨_, rfl⟩
  have hmx : max (kk : Int) 1 = (mm : Int) := by omega
  have hm4 : mm ≤ 4 ∧ 1 ≤ mm := by omega
  have hmx' : max (kk : Int) 1 = (mm : Int) := hmx
  have HMM := Lib.hid hmm
  clear hmb hmm
  go_upto_if 41 with fail
  go_cut [12] (fun s12 wx => ∃ (kd : Int) (fi : Nat), (kd = 6 ∨ kd = 7) ∧ fi ≤ 45 ∧ (kd = 7 → 1 ≤ fi) ∧ s12 = .int .i64 (endS kd fi kk) ∧ Hid (wx.ownsRow w1.heap.size 37 4 (.slice (some ⟨w1.heap.size, 0, none⟩) 2 2) 2 (consV [⟨2, 0, 0, 1 + (sz : Int)⟩, ⟨kd, 0, 1, (fi : Int)⟩])) ∧ Hid (Turn (fun q => w1.heap.size ≤ q) w1 wx))
  case first =>
    by_cases hpar : o.tmod 2 = 0
    · obtain ⟨f1, hf1⟩ : ∃ f1 : Nat, f1 = fo + 1 := ⟨_, rfl⟩
      have hff : (1 : Int) + (fo : Int) = (f1 : Int) := by omega
      obtain ⟨cur1, hg1, hble1, HO2⟩ := own_setC HOW.out rfl (i := 1) (by omega) ⟨7, 0, 1, (f1 : Int)⟩
      have HG1 := Lib.hid hg1
      have HBL1 := Lib.hid hble1
      have hpb : (o.tmod 2 == 0) = true := by simp [hpar]
      have hm0 : 0 ≤ (f1 : Int) * (mm : Int) := Int.mul_nonneg (by omega) (by omega)
      have hm1 : (f1 : Int) * (mm : Int) ≤ 45 * 4 := Int.mul_le_mul (by omega) (by omega) (by omega) (by omega)
      have HE := Lib.hid (show (f1 : Int) * (mm : Int) = endS 7 f1 kk by unfold endS; rw [if_neg (by omega), hmx' ])
      have hl1 : f1 ≤ 45 ∧ 1 ≤ f1 := by omega
      clear hg1 hble1 hpar hf1
      go_upto_region 9 with (first | (go_at_call 20; (with_reducible refine (HM1.out _).mono ?_); rintro e w2 ⟨rfl, rfl⟩) | (refine wpList_store_at rfl _ _ _ rfl w1.heap.size (1 * 4) (by rfl) (.agg (conCells ⟨7, 0, 1, (f1 : Int)⟩)) (by rfl) cur1 _ HG1.out (conCells ⟨7, 0, 1, (f1 : Int)⟩).toList (by rfl) HBL1.out (by kernel_rfl) (by rfl) _ rfl ?_))
      obtain ⟨W2, hW2⟩ : ∃ W2, W2 = W.setRow w1.heap.size (cur1.toList.take (1 * 4) ++ (conCells ⟨7, 0, 1, (f1 : Int)⟩).toList ++ cur1.toList.drop (1 * 4 + (conCells ⟨7, 0, 1, (f1 : Int)⟩).toList.length)).toArray := ⟨_, rfl⟩
      have t2 : Turn (fun q => w1.heap.size ≤ q) W W2 := by rw [hW2]; exact (Turn.refl _ _).setRow _ (fun _ => Nat.le_refl _)
      rw [← hW2] at HO2 ⊢
      have k7b : W2.cell? ⟨w1.heap.size, 7, none⟩ = some (.int .i64 (f1 : Int)) := by rw [HO2.cellAt 7 (by decide)]; rfl
      have HO3 := Lib.hid HO2
      have HT2 := Lib.hid (HTW.out.trans t2 (fun _ _ h => h))
      clear hW2 HO2 t2 HG1 HBL1 k7
      go_wp2_with fail
      go_meet
      case rel => exact ⟨7, f1, .inr rfl, hl1.1, fun _ => hl1.2, by rw [← HE.out], HO3, HT2⟩
    · have hpb : (o.tmod 2 == 0) = false := by simpa using hpar
      have HE := Lib.hid (show (fo : Int) + (mm : Int) = endS 6 fo kk by unfold endS; rw [if_pos rfl]; omega)
      clear hpar
      go_wp2_with fail
      go_meet
      case rel => exact ⟨6, fo, .inl rfl, by omega, by omega, by rw [← HE.out], HOW, HTW⟩
  case rest =>
    clear HTW HOW HA k7 HM0 HM1
    obtain ⟨kd, fi, hkd, hfi, hf7, rfl, HOW, HTW⟩ := hcut
    go_upto_if 56 with fail
    go_cut [11] (fun s11 wx => ∃ (cs : List Con) (A : Option Addr) (N cp : Nat), s11 = .slice A N cp ∧ cs.length = N ∧ 2 ≤ N ∧ N ≤ 3 ∧ Hid (Siz cs (1 + (sz : Int)) kd fi kk) ∧ Hid (wx.ownsRow w1.heap.size 37 4 (.slice A N cp) N (consV cs)) ∧ Hid (Turn (fun q => w1.heap.size ≤ q) w1 wx))
    case first =>
      by_cases hk0 : 0 < kk
      · have hszc : w1.heap.size ≤ wc.heap.size := HTW.out.size
        go_wp2_with (at_builtin; refine wpList_append_own _ rfl _ _ 24 rfl w1.heap.size 37 j0 (.agg #[.int .i64 0, .int .i64 0, .int .i64 0, .int .i64 0]) 4 32 Tryd.underlying24 hj0 hy0 hy1 hy2 rfl (by decide) _ 2 _ rfl (own_turn HOW.out ((Turn.refl (fun _ => False) _).alloc _) (fun _ _ h => h)) ⟨wc.heap.size, 0, none⟩ 1 1 [.int .i64 2, .int .i64 1, .int .i64 0, .int .i64 (kk : Int)] rfl rfl (cells_new _ _ _ _ rfl) (by intro u hu; simp at hu; rcases hu with rfl | rfl | rfl | rfl <;> rfl) (by unfold maxLen; omega) (by omega) (Nat.le_trans hszc (by simp)) ?_; intro v9 w9 hown9 hgrow9 _)
        obtain ⟨A9, c9, rfl⟩ := own_slice hown9
        go_meet
        case rel => exact ⟨[⟨2, 0, 0, 1 + (sz : Int)⟩, ⟨kd, 0, 1, (fi : Int)⟩, ⟨2, 1, 0, (kk : Int)⟩], A9, 3, c9, rfl, rfl, by omega, by omega, Lib.hid (siz_three hkd (by omega)), Lib.hid hown9, Lib.hid (HTW.out.trans (((Turn.refl (fun q => w1.heap.size ≤ q) wc).alloc _).grown hgrow9 (fun q e _ => (own_cells HOW.out q e).1)) (fun _ _ h => h))⟩
      · have hk0' : kk ≤ 0 := by omega
        go_wp2_with fail
        go_meet
        case rel => exact ⟨[⟨2, 0, 0, 1 + (sz : Int)⟩, ⟨kd, 0, 1, (fi : Int)⟩], _, 2, _, rfl, rfl, by omega, by omega, Lib.hid (siz_two hkd (by omega)), HOW, HTW⟩
    case rest =>
      clear HOW HTW
      obtain ⟨cs, A, N, cp, rfl, hN, hN2, hN3, HSZ, HOW, HTW⟩ := hcut
      go_upto_block 0 with fail
      go_cut [11, 13] (fun s11 _ wx => ∃ (cs : List Con) (A : Option Addr) (cp : Nat), s11 = .slice A N cp ∧ cs.length = N ∧ Hid (Siz cs (1 + (sz : Int)) kd fi kk) ∧ Hid (wx.ownsRow w1.heap.size 37 4 (.slice A N cp) N (consV cs)) ∧ Hid (Turn (fun q => w1.heap.size ≤ q) w1 wx))
      case first =>
        go_wp2_with fail
        go_loopw [11, 13] (fun s11 s13 wr => ∃ (cs : List Con) (A : Option Addr) (cp i : Nat), s11 = .slice A N cp ∧ s13 = .int .i64 i ∧ i ≤ 3 ∧ cs.length = N ∧ Hid (Siz cs (1 + (sz : Int)) kd fi kk) ∧ Hid (wr.ownsRow w1.heap.size 37 4 (.slice A N cp) N (consV cs)) ∧ Hid (Turn (fun q => w1.heap.size ≤ q) w1 wr)) (fun _ s13 _ => 3 - (intOf s13).toNat)
        case atStart => exact ⟨cs, A, cp, 0, rfl, rfl, by omega, hN, HSZ, HOW, HTW⟩
        case round =>
          clear HOW HTW HSZ hN
          obtain ⟨cs, A, cp, i, rfl, rfl, hi, hN, HSZ, HOW, HTW⟩ := hrel
          by_cases hlt : i < rr
          · obtain ⟨g, cur, hoo, hBg, hg, hcur⟩ := own_ptr HOW.out (by omega)
            subst hoo
            have hcpN := (own_cap HOW.out).1
            have hgz : g < wr.heap.size := (Array.getElem?_eq_some_iff.1 hg).1
            have hszr : w1.heap.size ≤ wr.heap.size := HTW.out.size
            have hsrc := own_tail HOW.out (k := 1) (by omega) hcpN
            cases cs with
            | nil => simp at hN; omega
            | cons c0 l =>
              have hll : l.length = N - 1 := by simp at hN; omega
              have hsrc2 : SrcW wr 4 (some ⟨g, 4, none⟩) (N - 1) (consV l) := by
                rw [if_neg (by omega)] at hsrc
                exact hsrc
              have HSRC := Lib.hid hsrc2
              have HG := Lib.hid hg
              have HEX := Lib.hid (show (cur.extract 0 (0 + (conCells c0).toList.length)).toList = (conCells c0).toList from by have h9 := con_extract (c := cur) (i := 0) (k := c0) (fun j hj => by rw [hcur _ (by omega)]; exact consV_at (l := c0 :: l) (i := 0) rfl hj); simpa using h9)
              have HLL := Lib.hid hll
              have hc1 : ¬ cp = 1 := by omega
              have hcp2 : 2 ≤ cp := by omega
              have h0N : 0 < N := by omega
              clear hsrc hsrc2 hg hcur hN hll
              go_upto_region 15 with (go_at_call 20; (with_reducible refine (HMO.out _).mono ?_); rintro e w2 ⟨rfl, rfl⟩)
              refine wp_region_relyT [] 9 (factOf [isVT ((fun _ => False)) (EmpQ), isV ((.slice (some ⟨g, 0, none⟩) N cp)), isV ((.slice (some ⟨g, 4, none⟩) (N - 1) (cp - 1))), isVT ((fun _ => False)) (OwnQ wr.heap.size l), isV ((.slice (some ⟨g, 0, none⟩) N cp)), isV ((.pointer (some ⟨g, 0, none⟩))), isV ((.agg (conCells c0))), isVT ((fun _ => False)) (OneC wr.heap.size c0), isVT ((fun _ => False)) (OwnQ wr.heap.size (l ++ [c0]))]) (nth [[0], [1], [2], [3], [4], [5], [6], [7], [8]]) (nth [[], [], [], [0], [], [], [], [], [0, 3, 7]]) (nth [[], [], [1], [0, 2], [], [4], [5], [6], [3, 7]]) [8] (fun w5 => Turn (fun _ => False) wr w5) (by kernel_rfl) (by kernel_rfl) ((Turn.refl _ _).drew) (fun w w' h hb => h.trans (Turn.ofBelow (bs := fun _ => False) hb) (fun _ _ h => h.elim)) (GrowsAll.of ((GrowsAll.cons (Grows.isVT _ _)  (GrowsAll.cons (Grows.isV _)  (GrowsAll.cons (Grows.isV _)  (GrowsAll.cons (Grows.isVT _ _)  (GrowsAll.cons (Grows.isV _)  (GrowsAll.cons (Grows.isV _)  (GrowsAll.cons (Grows.isV _)  (GrowsAll.cons (Grows.isVT _ _)  (GrowsAll.cons (Grows.isVT _ _) GrowsAll.nil))))))))))) (fun f F hF => ?_)
              simp only [List.take_succ_cons, List.take_zero, fullGo, Act.put, List.setIfInBounds_toArray, List.set_cons_zero, List.set_cons_succ, Nat.reduceAdd] at hF
              subst hF
              refine ⟨StepObsF.cons ?_ (StepObsF.cons ?_ (StepObsF.cons ?_ (StepObsF.cons ?_ (StepObsF.cons ?_ (StepObsF.cons ?_ (StepObsF.cons ?_ (StepObsF.cons ?_ (StepObsF.cons ?_ (StepObsF.nil))))))))), ?_⟩
              · intro w5 hS hF hD K hK
                rw [if_pos (by rfl)]
                go_simp
                exact hK.out _ _ rfl (After.litD rfl rfl rfl rfl ((by simp)) (hS.alloc _) (StaysE.out (by rfl) (StaysE.isV (StaysE.isV (StaysE.isVT ((Turn.refl _ _).alloc _) (StaysE.isV (StaysE.isV (StaysE.isV (StaysE.isVT ((Turn.refl _ _).alloc _) (StaysE.isVT ((Turn.refl _ _).alloc _) StaysE.nil))))))))) (⟨_, rfl⟩))
              · intro w5 hS hF hD K hK
                rw [if_pos (by rfl)]
                refine wp_of_quiet (v := (.slice (some ⟨g, 0, none⟩) N cp)) (by (show _ = _); kernel_rfl) (hK.out _ _ rfl (After.lit rfl rfl rfl ?_))
                first | rfl | kernel_rfl
              · intro w5 hS hF hD K hK
                obtain ⟨e1, -⟩ := hF
                replace e1 : f 1 = _ := e1
                try simp only [e1]
                rw [if_pos (by rfl)]
                go_simp; rw [if_pos (by omega)]; refine hK.out _ _ rfl (After.lit rfl rfl rfl ?_); first | rfl | kernel_rfl
              · intro w5 hS hF hD K hK
                obtain ⟨e0, e2, -⟩ := hF
                obtain ⟨y0, p0, t0⟩ := e0
                replace e2 : f 2 = _ := e2
                try simp only [e2]
                rw [if_pos (by rfl)]
                obtain ⟨g0, e0⟩ := p0; obtain ⟨ad, had, hac⟩ := (HSRC.out.turn hS (fun _ _ h => h)).2 (by omega); cases had; refine wp_append_grows _ (.tmp 69) (.tmp 71) 24 rfl 37 j0 (.agg #[.int .i64 0, .int .i64 0, .int .i64 0, .int .i64 0]) 4 32 Tryd.underlying24 hj0 hy0 hy1 hy2 rfl (by decide) ⟨g0, 0, none⟩ 0 0 [] (by simp only [e0]; rfl) rfl (fun j u h => by simp at h) ⟨g, 4, none⟩ (N - 1) (cp - 1) (consV l) rfl (by rw [consV_len, HLL.out]) hac (by omega) (by unfold maxLen; omega) (by omega) ?_; intro v6 w6 hown hgr
                exact hK.out _ _ rfl (After.litD rfl rfl rfl rfl (hgr.size) (hS.grown hgr (fun g e _ => by cases e)) (StaysE.out (by rfl) (StaysE.isV (StaysE.isV (StaysE.out (by rfl) (StaysE.isV (StaysE.isV (StaysE.isV (StaysE.isVT ((Turn.refl _ _).grown hgr (fun g e _ => by cases e)) (StaysE.isVT ((Turn.refl _ _).grown hgr (fun g e _ => by cases e)) StaysE.nil))))))))) ((by show World.ownsRow _ _ _ _ _ l.length _; rw [HLL.out]; rw [Nat.zero_add, List.nil_append] at hown; exact own_base hown hS.size)))
              · intro w5 hS hF hD K hK
                rw [if_pos (by rfl)]
                refine wp_of_quiet (v := (.slice (some ⟨g, 0, none⟩) N cp)) (by (show _ = _); kernel_rfl) (hK.out _ _ rfl (After.lit rfl rfl rfl ?_))
                first | rfl | kernel_rfl
              · intro w5 hS hF hD K hK
                obtain ⟨e4, -⟩ := hF
                replace e4 : f 4 = _ := e4
                try simp only [e4]
                rw [if_pos (by rfl)]
                go_simp
                refine hK.out _ _ rfl (After.lit rfl rfl rfl ?_)
                first | rfl | kernel_rfl
              · intro w5 hS hF hD K hK
                obtain ⟨e5, -⟩ := hF
                replace e5 : f 5 = _ := e5
                try simp only [e5]
                rw [if_pos (by rfl)]
                exact wp_of_quiet (exec_load_midB _ _ rfl _ _ rfl _ _ _ (hS.heap HG.out (fun h => h)) (conCells c0).toList HEX.out (by kernel_rfl)) (hK.out _ _ rfl (After.lit rfl rfl rfl (by first | rfl | kernel_rfl)))
              · intro w5 hS hF hD K hK
                obtain ⟨e6, -⟩ := hF
                replace e6 : f 6 = _ := e6
                try simp only [e6]
                rw [if_pos (by rfl)]
                go_simp
                exact hK.out _ _ rfl (After.litD rfl rfl rfl rfl ((by simp)) (hS.alloc _) (StaysE.isVT ((Turn.refl _ _).alloc _) (StaysE.isV (StaysE.isV (StaysE.isVT ((Turn.refl _ _).alloc _) (StaysE.isV (StaysE.isV (StaysE.isV (StaysE.out (by rfl) (StaysE.isVT ((Turn.refl _ _).alloc _) StaysE.nil))))))))) (⟨_, rfl, hS.size, heap_alloc_new _ _⟩))
              · intro w5 hS hF hD K hK
                obtain ⟨e3, e7, -⟩ := hF
                obtain ⟨y3, p3, t3⟩ := e3
                obtain ⟨y7, p7, t7⟩ := e7
                rw [if_pos (by rfl)]
                obtain ⟨ad, e7, hs7⟩ := p7.src t7 (fun _ _ h => h); refine wp_append_src _ (.tmp 72) (.tmp 76) 24 rfl wr.heap.size 37 j0 (.agg #[.int .i64 0, .int .i64 0, .int .i64 0, .int .i64 0]) 4 32 Tryd.underlying24 hj0 hy0 hy1 hy2 rfl (by decide) (f 3) l.length (consV l) rfl (own_turn p3 t3 (fun _ _ h => h)) (some ad) 1 1 (fun h => by cases h) (conCells c0).toList e7 hs7 (by intro u hu; simp [conCells] at hu; rcases hu with rfl | rfl | rfl | rfl <;> rfl) (by have := HLL.out; unfold maxLen; omega) (by have := HLL.out; omega) hS.size ?_; intro v6 w6 hown hgr _
                exact hK.out _ _ rfl (After.litD rfl rfl rfl rfl (hgr.size) (hS.grown hgr (fun g e h => by have h9 := (own_cells p3 g e).1; omega)) (StaysE.out (by rfl) (StaysE.isV (StaysE.isV (StaysE.out (by rfl) (StaysE.isV (StaysE.isV (StaysE.isV (StaysE.out (by rfl) (StaysE.out (by rfl) StaysE.nil))))))))) ((by show World.ownsRow _ _ _ _ _ (l ++ [c0]).length _; rw [consV_snoc, List.length_append]; exact hown)))
              intro w5 hS hF
              obtain ⟨e8, -⟩ := hF
              obtain ⟨y8, p8, t8⟩ := e8
              simp only [List.drop_succ_cons, List.drop_zero]
              have HS8 := Lib.hid hS
              have HP8 := Lib.hid (own_turn p8 t8 (fun _ _ h => h))
              obtain ⟨A8, c8, hv8⟩ := own_slice HP8.out
              have HP8' : Hid (w5.ownsRow w1.heap.size 37 4 (.slice A8 N c8) N (consV (l ++ [c0]))) := by
                have h9 := own_base HP8.out hszr
                have e9 : (l ++ [c0]).length = N := by rw [List.length_append, HLL.out]; simp; omega
                rw [e9] at h9 hv8
                rw [hv8] at h9
                exact Lib.hid h9
              have hv8' : f 8 = .slice A8 N c8 := by rw [hv8]; congr 1; rw [List.length_append, HLL.out]; simp; omega
              clear HP8 hv8 hS p8 t8
              go_wp2_with fail
              refine ⟨⟨l ++ [c0], A8, c8, i + 1, hv8', by go_num, by omega, by rw [List.length_append, HLL.out]; simp; omega, Lib.hid HSZ.out.turn, HP8', Lib.hid (HTW.out.trans (HS8.out.mono (fun _ _ h => h.elim)) (fun _ _ h => h))⟩, by simp [intOf]; omega⟩
          · go_wp2_with (go_at_call 20; (with_reducible refine (HMO.out _).mono ?_); rintro e w2 ⟨rfl, rfl⟩)
            go_meet
            case rel => exact ⟨cs, A, cp, rfl, hN, HSZ, HOW, HTW⟩
      case rest =>
        clear HOW HTW HSZ hN
        obtain ⟨cs, A, cp, rfl, hN, HSZ, HOW, HTW⟩ := hcut
        have HS2 := Lib.hid (by
          have h9 := solve_any 2 cs (by omega) wc A cp (by rw [hN]; exact (own_cap HOW.out).1) (own_cons HOW.out).2
          rw [hN] at h9; exact h9)
        have HBC := Lib.hid (HB1.out.trans ((HTW.out.toBelow (Nat.le_refl _) (fun _ h => h)).mono HB1.out.size))
        have hszc : w.heap.size ≤ wc.heap.size := HBC.out.size
        clear HOW HTW
        go_upto_if 86 with (go_at_call 19; refine (HS2.out).mono ?_; rintro e w6 ⟨vb, rb, kb, eb, rfl, hsb, hbb, hrb⟩)
        have hlaw := sizes_law HSZ.out (by omega) (by omega) (by omega) (by omega) (by omega) hsb
        have HBB := Lib.hid (HBC.out.trans (hbb.mono hszc))
        rw [hN] at hlaw
        clear hbb hsb hrb
        generalize endS kd fi kk = EN at *
        by_cases hle : EN ≤ 1 + (sz : Int)
        · have he := hlaw.1 hle
          subst he
          clear hlaw
          go_wp2_with fail
          go_ret
          exact ⟨rfl, HBB.out⟩
        · obtain ⟨he, hk1, hk2⟩ := hlaw.2 (by omega)
          subst he
          clear hlaw
          go_wp2_with fail
          go_ret
          exact ⟨rfl, HBB.out⟩
end Go.Proofs.YtepmgnhblegiiaaDoor
