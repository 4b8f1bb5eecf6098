/- TypesPrints walked. Condition: the table of powers of ten reads as the text lays it. -/
import Derived.Test.YtepmgnhblegiiaaDoorLImp
import Derived.Test.YtepmgnhblegiiaaDoorPrR
set_option linter.all false
namespace Go.Proofs.YtepmgnhblegiiaaDoor
open Go Go.RowKit Go.Maps

/-- The numbers of a row that describes a class are small. -/
theorem Desc.rowN {n : Nat} (hn : n ≤ 2000) {cs : List Con} (hR : ∀ c ∈ cs, rightS n c = true) {v : Nat} (hv : v < n) {r : Row} (h : Desc cs v r) : RowN r := by
  have hs := h.small hR hv
  have hb : ∀ c ∈ cs, c.kind = 6 ∨ c.kind = 7 ∨ c.kind = 2 → 0 ≤ c.n ∧ c.n ≤ 65535 := fun c hc hk => by
    have := hR c hc
    simp only [rightS, Bool.and_eq_true, Bool.or_eq_true, decide_eq_true_eq] at this
    omega
  refine ⟨by unfold n64; omega, ?_, ?_, by unfold n64; omega, by unfold n64; omega, ?_, fun q hq => ?_⟩
  · unfold n64
    rcases h.size with ⟨a, -⟩ | ⟨c, hc, -, a⟩
    · omega
    · have := hb c hc; omega
  · unfold n64
    rcases h.sign with ⟨a, -⟩ | ⟨c, hc, -, a, e⟩ <;> omega
  · unfold n64
    rcases h.count with ⟨a, -⟩ | ⟨⟨c, hc, hk, -, a⟩, -⟩
    · omega
    · have := hb c hc; omega
  · obtain ⟨c, hc, hk, -, ho, hr⟩ := (h.fields q.1 q.2).1 hq
    have h1 := hb c hc (.inl hk)
    have h2 := hR c hc
    simp only [rightS, Bool.and_eq_true, Bool.or_eq_true, decide_eq_true_eq] at h2
    have h3 := hr.2.2 c.b (by omega) (.refl _)
    have h4 := hr.2.1
    unfold n64
    omega
theorem RowsW.base {B B' : Nat} {val : Value} {rows : List Row} {w : World} (h : RowsW B' val rows w) (hb : B ≤ B') : RowsW B val rows w := by
  obtain ⟨l, h1, h2, h3⟩ := h
  exact ⟨l, h1, own_base h2 hb, fun p hp => ⟨own_base (h3 p hp).1 hb, (h3 p hp).2⟩⟩
theorem rowsCells_one (l : List (Row × Value)) (h : ∀ p ∈ l, p.2.oneCell' = true) : ∀ u ∈ rowsCells l, u.oneCell' = true := fun u hu => by
  obtain ⟨p, hp, hu⟩ := List.mem_flatMap.1 hu
  have := h p hp
  simp only [rowCells, List.mem_cons, List.not_mem_nil, or_false] at hu
  rcases hu with rfl | rfl | rfl | rfl | rfl | rfl | rfl <;> first | rfl | exact this
/-- The members of the law's own row. -/
def priF (x : Int) (k : Nat) : List (Int × Int) := (List.range k).map fun (i : Nat) => (3 * (i : Int) - 1, x + (i : Int))
theorem priF_len (x : Int) (k : Nat) : (priF x k).length = k := by simp [priF]
theorem priF_succ (x : Int) (k : Nat) : priF x (k + 1) = priF x k ++ [(3 * (k : Int) - 1, x + (k : Int))] := by simp [priF, List.range_succ]

set_option maxRecDepth 100000 in
set_option maxHeartbeats 8000000 in
theorem typesPrints_any (z : Int) (hz : i64ok z) (ao : Option Addr) (len cap : Nat) (hlen : len ≤ 9223372036854775807) (q0 q1 q2 q3 q4 q5 q6 : Int) (hq : i64ok q0 ∧ i64ok q1 ∧ i64ok q2 ∧ i64ok q3 ∧ i64ok q4 ∧ i64ok q5 ∧ i64ok q6) (w : World) (h : ArrW ao len w) (hT : TabP w) :
    Calls Tryd.prog 13 #[.int .i64 z, .slice ao len cap, .agg #[.int .i64 q0, .int .i64 q1, .int .i64 q2, .int .i64 q3, .int .i64 q4, .int .i64 q5, .int .i64 q6]] w fun e w' => e = .returned (.bool true) ∧ Below w.heap.size w w' := by
  have HT := Lib.hid hT
  have HSN := Lib.hid (fun W (hb : Below w.heap.size w W) => sanity_any W (HT.out.stay hb))
  have H := Lib.hid h
  have HSZ := Lib.hid (fun W => size_any z hz W)
  obtain ⟨n, hn⟩ := Int.eq_ofNat_of_zero_le (show 0 ≤ 1 + z % 14 by have := Int.emod_nonneg z (show (14 : Int) ≠ 0 by omega); omega)
  have hn1 : 0 < n := by have := Int.emod_nonneg z (show (14 : Int) ≠ 0 by omega); omega
  have hn2 : n ≤ 14 := by have := Int.emod_lt_of_pos z (show (0 : Int) < 14 by omega); omega
  rw [hn] at HSZ
  have HQ := Lib.hid hq
  clear hn h hT hq
  go_enter Tryd.func13, Tryd.ntmps13
  go_upto_region 2 with (go_at_call 14; refine (HSN.out _ ((Below.refl _ _).alloc (Nat.le_refl _) _)).mono ?_; rintro e w1 ⟨rfl, hb1⟩)
  have HQB := Lib.hid ((hb1.block w.heap.size (by simp)).trans (heap_alloc_new w (.cells #[.int .i64 q0, .int .i64 q1, .int .i64 q2, .int .i64 q3, .int .i64 q4, .int .i64 q5, .int .i64 q6] 51)))
  have HB1 := Lib.hid (((Below.refl w.heap.size w).alloc (Nat.le_refl _) (.cells #[.int .i64 q0, .int .i64 q1, .int .i64 q2, .int .i64 q3, .int .i64 q4, .int .i64 q5, .int .i64 q6] 51)).trans (hb1.mono (by simp)))
  have hs1 : w.heap.size < w1.heap.size := by have := hb1.size; simp at this; omega
  have HMD := Lib.hid (made_any n hn1 (by omega) w1 ao len cap hlen (H.out.below HB1.out))
  clear hb1 HSN
  go_upto_region 4 with (first | (go_at_call 16; refine (HSZ.out _).mono ?_; rintro e wz ⟨rfl, rfl⟩) | (go_at_call 15; refine (HMD.out).mono ?_; rintro e w2 ⟨v, cs0, rfl, hown, hR, hl, hb2⟩; obtain ⟨co, cp, rfl, hcp, hcw⟩ := made_own (n := n) hown; have HB2 := Lib.hid (HB1.out.trans (hb2.mono HB1.out.size)); have HQ2 := Lib.hid (below_keep hb2 HQB.out); have hs2 := hb2.size; have HCW := Lib.hid hcw; have HR := Lib.hid hR; have HPF := Lib.hid (prefix_any n hn1 (by omega) cs0 hR (by omega) w2 co cp hcp hcw); clear hown hR hb2 hcw) | (go_at_call 18; refine (HPF.out).mono ?_; rintro e w3 ⟨m, hm, rfl, hnc, hb3⟩; have HNC := Lib.hid hnc; have HB3 := Lib.hid (HB2.out.trans (hb3.mono HB2.out.size)); have HQ3 := Lib.hid (below_keep hb3 HQ2.out); have hs3 := hb3.size; have HSV := Lib.hid (show Calls _ _ _ _ (SolvePost n (cs0.take m) w3) from by (have h9 := solve_any n (cs0.take m) (by omega) w3 co cp (by rw [List.length_take]; omega) ((HCW.out.below hb3).take m)); rw [List.length_take, Nat.min_eq_left hm] at h9; exact h9); clear hnc hb3) | (go_at_call 19; refine (HSV.out).mono ?_; rintro e w4 ⟨va, ra, ka, ea, rfl, hsa, hba, hra⟩))
  have hlm : (cs0.take m).length = m := by rw [List.length_take]; omega
  have hok := hsa.ok_rows (by omega) (by rw [hlm]; omega) (fun c hc => HR.out c (List.mem_of_mem_take hc)) HNC.out
  obtain ⟨he0, hla, hDD⟩ := hok
  have HRN := Lib.hid (show ∀ r ∈ ra, RowN r from fun r hr => by
    obtain ⟨v, hv, rfl⟩ := List.mem_iff_getElem.1 hr
    exact (hDD v _ (List.getElem?_eq_getElem hv)).rowN (n := n) (by omega) (fun c hc => HR.out c (List.mem_of_mem_take hc)) (by omega))
  have HB4 := Lib.hid (HB3.out.trans (hba.mono HB3.out.size))
  have HQ4 := Lib.hid (below_keep hba HQ3.out)
  have hs4 := hba.size
  obtain ⟨l, hl1, hl2, hl3⟩ := hra
  have hln : l.length = n := by rw [← hla, ← hl1, List.length_map]
  have HL1 := Lib.hid hl1
  have HL2 := Lib.hid hl2
  have HL3 := Lib.hid hl3
  obtain ⟨aa, ca, rfl⟩ := own_slice hl2
  rw [hln] at HL2
  rw [hln]
  obtain ⟨jS, hjS, hyS0, hyS1, hyS2⟩ := info_parts infoSld
  obtain ⟨jM, hjM, hyM0, hyM1, hyM2⟩ := info_parts infoMem
  have hc0 : aa = none → ca = 0 := fun e => by
    rcases own_form HL2.out with ⟨-, h, -⟩ | ⟨g, h, -⟩
    · exact h
    · rw [e] at h; cases h
  have HC0 := Lib.hid hc0
  have HSC := Lib.hid ((own_src HL2.out).turn ((Turn.refl (fun _ => False) w4).alloc (.cells #[] 44)) (fun _ _ h => h))
  have HOE := Lib.hid (own_empty w4 w4.heap.size 44 7 (Nat.le_refl _))
  have hvs : ∀ p ∈ l, p.2.oneCell' = true := fun p hp => by
    obtain ⟨p', c', e⟩ := own_slice (hl3 p hp).1
    rw [e]; rfl
  have HON := Lib.hid (rowsCells_one l hvs)
  clear hsa hba hl1 hl2 hl3 hla hDD hc0 hvs he0 HSV HPF HMD HNC HR HCW
  go_upto_region 5 with (at_builtin; refine wpList_append_src _ rfl (.tmp 30) (.tmp 31) 30 rfl w4.heap.size 44 jS (.agg #[.int .i64 0, .int .i64 0, .int .i64 0, .int .i64 0, .int .i64 0, .int .i64 0, .slice none 0 0]) 7 72 Tryd.underlying30 hjS hyS0 hyS1 hyS2 rfl (by decide) (.slice (some ⟨w4.heap.size, 0, none⟩) 0 0) 0 [] rfl HOE.out aa n ca HC0.out (rowsCells l) rfl HSC.out HON.out (by unfold maxLen; omega) (by omega) (by simp) ?_; intro v5 w5 hown5 hgrow5 hat5)
  rw [Nat.zero_add, List.nil_append] at hown5
  have HT5 := Lib.hid (((Turn.refl (fun q => w4.heap.size ≤ q) w4).alloc (.cells #[] 44)).grown hgrow5 (fun q e _ => by cases e; exact Nat.le_refl _))
  have HO5 := Lib.hid hown5
  clear hown5 hgrow5 hat5 HOE HSC
  have HQ5 := Lib.hid (HT5.out.heap HQ4.out (fun h => by have h : w4.heap.size ≤ w.heap.size := h; omega))
  have kq0 : w5.cell? ⟨w.heap.size, 0, none⟩ = some (.int .i64 q0) := by rw [cell_of_row _ _ _ _ _ _ HQ5.out]; rfl
  have kq1 : w5.cell? ⟨w.heap.size, 1, none⟩ = some (.int .i64 q1) := by rw [cell_of_row _ _ _ _ _ _ HQ5.out]; rfl
  have kq2 : w5.cell? ⟨w.heap.size, 2, none⟩ = some (.int .i64 q2) := by rw [cell_of_row _ _ _ _ _ _ HQ5.out]; rfl
  have kq3 : w5.cell? ⟨w.heap.size, 3, none⟩ = some (.int .i64 q3) := by rw [cell_of_row _ _ _ _ _ _ HQ5.out]; rfl
  have kq4 : w5.cell? ⟨w.heap.size, 4, none⟩ = some (.int .i64 q4) := by rw [cell_of_row _ _ _ _ _ _ HQ5.out]; rfl
  have kq5 : w5.cell? ⟨w.heap.size, 5, none⟩ = some (.int .i64 q5) := by rw [cell_of_row _ _ _ _ _ _ HQ5.out]; rfl
  have rng : ∀ (q : Int) (M : Int), 0 < M → -M < q.tmod M ∧ q.tmod M < M := fun q M hM => by
    have h1 := Int.tmod_lt_of_pos q hM
    have h2 := Int.tmod_lt_of_pos (-q) hM
    rw [Int.neg_tmod] at h2
    omega
  obtain ⟨x0, hx0⟩ : ∃ x, q0.tmod 1000 = x := ⟨_, rfl⟩
  obtain ⟨x1, hx1⟩ : ∃ x, q1.tmod 100000 = x := ⟨_, rfl⟩
  obtain ⟨x2, hx2⟩ : ∃ x, q2.tmod 9 = x := ⟨_, rfl⟩
  obtain ⟨x3, hx3⟩ : ∃ x, q3.tmod 4 = x := ⟨_, rfl⟩
  obtain ⟨x4, hx4⟩ : ∃ x, q4.tmod 1000 = x := ⟨_, rfl⟩
  obtain ⟨x5, hx5⟩ : ∃ x, q5.tmod 100000 = x := ⟨_, rfl⟩
  have b0 := rng q0 1000 (by omega)
  have b1 := rng q1 100000 (by omega)
  have b2 := rng q2 9 (by omega)
  have b3 := rng q3 4 (by omega)
  have b4 := rng q4 1000 (by omega)
  have b5 := rng q5 100000 (by omega)
  rw [hx0] at b0
  rw [hx1] at b1
  rw [hx2] at b2
  rw [hx3] at b3
  rw [hx4] at b4
  rw [hx5] at b5
  clear rng
  go_upto_region 6 with (refine wpList_store_row rfl _ _ _ rfl _ _ rfl rfl _ _ (heap_alloc_new _ _) ?_ ?_ ?_ ?_; kernel_rfl; rfl; kernel_rfl; rw [World.setRow_alloc_new])
  obtain ⟨W, hW⟩ : ∃ W, W = w5.alloc (.cells #[.int .i64 x0, .int .i64 x1, .int .i64 x2, .int .i64 (x3 - 1), .int .i64 (x4 - 1), .int .i64 x5, .slice none 0 0] 44) := ⟨_, rfl⟩
  have hbx : W.heap[w5.heap.size]? = some (.cells #[.int .i64 x0, .int .i64 x1, .int .i64 x2, .int .i64 (x3 - 1), .int .i64 (x4 - 1), .int .i64 x5, .slice none 0 0] 44 (0, 0)) := by rw [hW]; exact heap_alloc_new _ _
  have t1 : Turn (fun _ => False) w5 W := by rw [hW]; exact (Turn.refl _ _).alloc _
  have hws : W.heap.size = w5.heap.size + 1 := by rw [hW]; simp
  change Code.wp _ _ _ _ (w5.alloc (.cells #[.int .i64 x0, .int .i64 x1, .int .i64 x2, .int .i64 (x3 - 1), .int .i64 (x4 - 1), .int .i64 x5, .slice none 0 0] 44))
  rw [← hW]
  have HBX := Lib.hid hbx
  have HT1 := Lib.hid t1
  have HWS := Lib.hid hws
  have hs5 : w4.heap.size ≤ w5.heap.size := HT5.out.size
  have kq3 : W.cell? ⟨w.heap.size, 3, none⟩ = some (.int .i64 q3) := by rw [cell_of_row _ _ _ _ _ _ (t1.heap HQ5.out (fun h => h))]; rfl
  have kx3 : W.cell? ⟨w5.heap.size, 3, none⟩ = some (.int .i64 (x3 - 1)) := by rw [cell_of_row _ _ _ _ _ _ hbx]; rfl
  have fx3 : W.frozen? ⟨w5.heap.size, 3, none⟩ = false := frozen_of_row _ _ _ _ _ hbx
  clear hW hbx t1 hws kq0 kq1 kq2 kq4 kq5 hx1 hx2 hx3 hx4 hx5
  simp only [Act.put]
  go_upto_if 57 with fail
  go_cut [] (fun wx => ∃ pp : Int, (-4 ≤ pp ∧ pp ≤ 4) ∧ Hid (wx.heap[w5.heap.size]? = some (.cells #[.int .i64 x0, .int .i64 x1, .int .i64 x2, .int .i64 pp, .int .i64 (x4 - 1), .int .i64 x5, .slice none 0 0] 44 (0, 0))) ∧ Hid (Turn (fun q => w5.heap.size ≤ q) w5 wx))
  case first =>
    by_cases hz : q3.tmod 5 = 0
    · have e1 : (q3.tmod 5 != 0) = false := by simp [hz]
      clear hz
      go_wp2_with fail
      go_meet
      case rel => exact ⟨_, by omega, HBX, Lib.hid (HT1.out.mono (fun _ _ h => h.elim))⟩
    · have e1 : (q3.tmod 5 != 0) = true := by simpa using hz
      clear hz
      go_wp2_with fail
      go_meet
      case rel => exact ⟨-1, by omega, Lib.hid ((heap_setCell_same HBX.out _).trans rfl), Lib.hid ((HT1.out.mono (fun _ _ h => h.elim)).setCell _ (fun _ => Nat.le_refl _))⟩
  case rest =>
    clear kq3 kx3 fx3 HT1 HBX
    obtain ⟨pp, hpp, HBX, HT1⟩ := hcut
    obtain ⟨w6, rfl⟩ : ∃ w6 : World, w6 = wc := ⟨_, rfl⟩
    have HM6 := Lib.hid (fun W => mod_any q6 4 HQ.out.2.2.2.2.2.2 (by omega) W)
    obtain ⟨m6, hm6⟩ := Int.eq_ofNat_of_zero_le (Int.emod_nonneg q6 (show (4 : Int) ≠ 0 by omega))
    have l6 : m6 < 4 := by have := Int.emod_lt_of_pos q6 (show (0 : Int) < 4 by omega); omega
    rw [hm6] at HM6
    clear hm6
    have hsw6 : w5.heap.size < w6.heap.size := (Array.getElem?_eq_some_iff.1 HBX.out).1
    go_upto_block 0 with fail
    go_cut [14] (fun _ wx => ∃ (k : Nat) (vF : Value), k ≤ 4 ∧ Hid (wx.ownsRow w6.heap.size 46 2 vF k (mv (priF x0 k))) ∧ Hid (wx.heap[w5.heap.size]? = some (.cells #[.int .i64 x0, .int .i64 x1, .int .i64 x2, .int .i64 pp, .int .i64 (x4 - 1), .int .i64 x5, vF] 44 (0, 0))) ∧ Hid (Turn (fun q => w5.heap.size ≤ q) w5 wx) ∧ w6.heap.size ≤ wx.heap.size)
    case first =>
      go_wp2_with fail
      go_loopw [14] (fun s14 wr => ∃ (k : Nat) (vF : Value), s14 = .int .i64 k ∧ k ≤ 4 ∧ Hid (wr.ownsRow w6.heap.size 46 2 vF k (mv (priF x0 k))) ∧ Hid (wr.heap[w5.heap.size]? = some (.cells #[.int .i64 x0, .int .i64 x1, .int .i64 x2, .int .i64 pp, .int .i64 (x4 - 1), .int .i64 x5, vF] 44 (0, 0))) ∧ Hid (Turn (fun q => w5.heap.size ≤ q) w5 wr) ∧ w6.heap.size ≤ wr.heap.size) (fun s14 _ => 4 - (intOf s14).toNat)
      case atStart => exact ⟨0, .slice none 0 0, rfl, by omega, Lib.hid (World.ownsRow_nil _ _ _ _), HBX, HT1, Nat.le_refl _⟩
      case round =>
        obtain ⟨k, vF, rfl, hk, HOW, HBk, HTk, hsz6⟩ := hrel
        have kq6 : wr.cell? ⟨w.heap.size, 6, none⟩ = some (.int .i64 q6) := by rw [cell_of_row _ _ _ _ _ _ (HTk.out.heap HQ5.out (fun h => by have h : w5.heap.size ≤ w.heap.size := h; omega))]; rfl
        have kq0 : wr.cell? ⟨w.heap.size, 0, none⟩ = some (.int .i64 q0) := by rw [cell_of_row _ _ _ _ _ _ (HTk.out.heap HQ5.out (fun h => by have h : w5.heap.size ≤ w.heap.size := h; omega))]; rfl
        have kx6 : wr.cell? ⟨w5.heap.size, 6, none⟩ = some vF := by rw [cell_of_row _ _ _ _ _ _ HBk.out]; rfl
        by_cases hlt : k < m6
        · have HNB := Lib.hid (fun q (e : vF.ownBlock = some q) => (own_cells HOW.out q e).1)
          have HFL := Lib.hid (show (mv (priF x0 k)).length = k * 2 from HOW.out.1)
          go_wp2_with (first | (go_at_call 20; (with_reducible refine (HM6.out _).mono ?_); rintro e w2 ⟨rfl, rfl⟩) | (at_builtin; refine wpList_append_own _ rfl _ _ 42 rfl w6.heap.size 46 jM (.agg #[.int .i64 0, .int .i64 0]) 2 16 Tryd.underlying42 hjM hyM0 hyM1 hyM2 rfl (by decide) _ k (mv (priF x0 k)) rfl (own_turn HOW.out ((Turn.refl (fun _ => False) _).alloc _) (fun _ _ h => h)) ⟨wr.heap.size, 0, none⟩ 1 1 [.int .i64 (3 * (k : Int) - 1), .int .i64 (x0 + (k : Int))] rfl rfl (cells_new _ _ _ _ rfl) (by intro u hu; simp at hu; rcases hu with rfl | rfl <;> rfl) (by unfold maxLen; omega) (by omega) (Nat.le_trans hsz6 (by simp)) ?_; intro v9 w9 hown9 hgrow9 _; obtain ⟨A9, c9, rfl⟩ := own_slice hown9; have HT9 := Lib.hid (((Turn.refl (fun q => w6.heap.size ≤ q) wr).alloc _).grown hgrow9 (fun q e _ => HNB.out q e)); have HB9 := Lib.hid (HT9.out.heap HBk.out (fun h => by have h : w6.heap.size ≤ w5.heap.size := h; omega)); have c6 : w9.cell? ⟨w5.heap.size, 6, none⟩ = some vF := (by rw [cell_of_row _ _ _ _ _ _ HB9.out]; rfl); have f6 : w9.frozen? ⟨w5.heap.size, 6, none⟩ = false := frozen_of_row _ _ _ _ _ HB9.out; have HO9 := Lib.hid hown9; clear hown9 hgrow9))
          refine ⟨⟨k + 1, _, by go_num, by omega, Lib.hid ?_, Lib.hid ((heap_setCell_same HB9.out _).trans rfl), Lib.hid ((HTk.out.trans HT9.out (fun q _ h => by have h : w6.heap.size ≤ q := h; omega)).setCell _ (fun _ => Nat.le_refl _)), ?_⟩, by simp [intOf]; omega⟩
          · rw [priF_succ, mv_snoc]
            exact own_turn HO9.out ((Turn.refl (fun q => q = w5.heap.size) w9).setCell _ (fun _ => rfl)) (fun q e h => by have h1 := (own_cells HO9.out q e).1; have h : q = w5.heap.size := h; omega)
          · have := HT9.out.size; simp [World.setCell]; omega
        · go_wp2_with (go_at_call 20; (with_reducible refine (HM6.out _).mono ?_); rintro e w2 ⟨rfl, rfl⟩)
          go_meet
          case rel => exact ⟨k, vF, hk, HOW, HBk, HTk, hsz6⟩
    case rest =>
      obtain ⟨k, vF, hk, HOW, HBk, HTk, hs56⟩ := hcut
      obtain ⟨AF, cF, rfl⟩ := own_slice HOW.out
      have hTT : Turn (fun q => w4.heap.size ≤ q) w4 wc := HT5.out.trans HTk.out (fun q _ h => by have h : w5.heap.size ≤ q := h; omega)
      have HTT := Lib.hid hTT
      have HO5c := Lib.hid (own_turn HO5.out HTk.out (fun q e h => by have h1 := (HO5.out.lt q e).2; have h : w5.heap.size ≤ q := h; omega))
      have hszc : w4.heap.size ≤ wc.heap.size := hTT.size
      have HLN := Lib.hid (rowsCells_len l)
      clear hTT
      go_upto_region 13 with (first | (refine wpList_load_row rfl _ _ rfl _ rfl _ _ _ _ (HBk.out) rfl rfl ?_ ?_; kernel_rfl) | (at_builtin; refine wpList_append_own _ rfl _ _ 30 rfl w4.heap.size 44 jS (.agg #[.int .i64 0, .int .i64 0, .int .i64 0, .int .i64 0, .int .i64 0, .int .i64 0, .slice none 0 0]) 7 72 Tryd.underlying30 hjS hyS0 hyS1 hyS2 rfl (by decide) _ n (rowsCells l) rfl (own_turn HO5c.out ((Turn.refl (fun _ => False) _).alloc _) (fun _ _ h => h)) ⟨wc.heap.size, 0, none⟩ 1 1 (rowCells ⟨x0, x1, x2, pp, x4 - 1, x5, priF x0 k⟩ (.slice AF k cF)) rfl rfl (cells_new _ _ _ _ rfl) (by intro u hu; simp only [rowCells, List.mem_cons, List.not_mem_nil, or_false] at hu; rcases hu with rfl | rfl | rfl | rfl | rfl | rfl | rfl <;> rfl) (by unfold maxLen; omega) (by omega) (Nat.le_trans hszc (by simp)) ?_; intro v12 w12 hown12 hgrow12 _))
      have ht12 : Turn (fun q => v5.ownBlock = some q) wc w12 := ((Turn.refl (fun q => v5.ownBlock = some q) wc).alloc _).grown hgrow12 (fun q e _ => e)
      obtain ⟨A12, c12, rfl⟩ := own_slice hown12
      have hRW : RowsW w3.heap.size (.slice A12 (n + 1) c12) (ra ++ [(⟨x0, x1, x2, pp, x4 - 1, x5, priF x0 k⟩ : Row)]) w12 := by
        refine ⟨l ++ [(⟨x0, x1, x2, pp, x4 - 1, x5, priF x0 k⟩, .slice AF k cF)], by rw [List.map_append, HL1.out]; rfl, ?_, fun p hp => ?_⟩
        · rw [rowsCells_snoc, List.length_append, hln]
          exact own_base hown12 hs4
        · rcases List.mem_append.1 hp with hp | hp
          · have h1 := HL3.out p hp
            exact ⟨own_turn (own_turn h1.1 HTT.out (fun q e h => by have h2 := (h1.1.lt q e).2; have h : w4.heap.size ≤ q := h; omega)) ht12 (fun q e h => by have h2 := (h1.1.lt q e).2; have h3 := (own_cells HO5.out q h).1; omega), h1.2⟩
          · simp only [List.mem_singleton] at hp
            subst hp
            have h1 := own_base (B := w3.heap.size) HOW.out (by omega)
            refine ⟨?_, by show (priF x0 k).length ≤ 65536; rw [priF_len]; omega⟩
            show World.ownsRow _ _ _ _ _ (priF x0 k).length _
            rw [priF_len]
            exact own_turn h1 ht12 (fun q e h => by have h2 := (own_cells HOW.out q e).1; have h3 := (HO5.out.lt q h).2; omega)
      have HRW := Lib.hid hRW.view
      have hlr : (ra ++ [(⟨x0, x1, x2, pp, x4 - 1, x5, priF x0 k⟩ : Row)]).length = n + 1 := by rw [List.length_append, ← HL1.out, List.length_map, hln]; rfl
      have HN2 := Lib.hid (show ∀ r ∈ ra ++ [(⟨x0, x1, x2, pp, x4 - 1, x5, priF x0 k⟩ : Row)], RowN r from fun r hr => by
        rcases List.mem_append.1 hr with hr | hr
        · exact HRN.out r hr
        · simp only [List.mem_singleton] at hr
          subst hr
          refine ⟨by unfold n64; show _ < x0 ∧ x0 ≤ _; omega, by unfold n64; show _ < x1 ∧ x1 ≤ _; omega, by unfold n64; show _ < x2 ∧ x2 ≤ _; omega, by unfold n64; show _ < pp ∧ pp ≤ _; omega, by unfold n64; show _ < x4 - 1 ∧ x4 - 1 ≤ _; omega, by unfold n64; show _ < x5 ∧ x5 ≤ _; omega, fun q hq => ?_⟩
          simp only [priF, List.mem_map, List.mem_range] at hq
          obtain ⟨i, hi, rfl⟩ := hq
          unfold n64
          simp only
          omega)
      have HBC := Lib.hid (HB4.out.trans (((HTT.out.trans (ht12.mono (fun q _ h => (own_cells HO5.out q h).1)) (fun _ _ h => h)).toBelow (Nat.le_refl _) (fun _ h => h)).mono HB4.out.size))
      have HPR := Lib.hid (fun (i : Int) (hi : n64 i) W (hb : Below w12.heap.size w12 W) => print_any (ra ++ [(⟨x0, x1, x2, pp, x4 - 1, x5, priF x0 k⟩ : Row)]) _ W i hi (HT.out.stay (HBC.out.trans (hb.mono HBC.out.size))) (HRW.out.below hb) HN2.out (by omega))
      have HRP := Lib.hid (fun (i : Int) (hi : n64 i) W (hb : Below w12.heap.size w12 W) => rprint_any (ra ++ [(⟨x0, x1, x2, pp, x4 - 1, x5, priF x0 k⟩ : Row)]) _ W i hi (HRW.out.below hb) HN2.out (by omega))
      clear ht12 hRW hown12 hgrow12 HTT HO5c HOW HBk HTk HLN HSZ hlr
      generalize ra ++ [(⟨x0, x1, x2, pp, x4 - 1, x5, priF x0 k⟩ : Row)] = rows at *
      go_upto_block 2 with fail
      go_wp2_with fail
      go_loopw [15] (fun s15 wr => ∃ i : Int, s15 = .int .i64 i ∧ -1 ≤ i ∧ i ≤ n + 2 ∧ Hid (Below w12.heap.size w12 wr)) (fun s15 _ => ((n : Int) + 2 - intOf s15).toNat)
      case atStart => exact ⟨-1, rfl, by omega, by omega, Lib.hid (Below.refl _ _)⟩
      case round =>
        obtain ⟨i, rfl, hi1, hi2, HBr⟩ := hrel
        have hin : n64 i := by unfold n64; omega
        have HIN := Lib.hid hin
        clear hin
        by_cases hle : i ≤ n + 1
        · go_wp2_with (first | (go_at_call 23; refine (HPR.out i HIN.out _ HBr.out).mono ?_; rintro e wa ⟨rfl, hba⟩; have HBa := Lib.hid (HBr.out.trans (hba.mono HBr.out.size)); clear hba) | (go_at_call 24; refine (HRP.out i HIN.out _ HBa.out).mono ?_; rintro e wb ⟨rfl, hbb⟩; have HBb := Lib.hid (HBa.out.trans (hbb.mono HBa.out.size)); clear hbb))
          refine ⟨⟨i + 1, rfl, by omega, by omega, HBb⟩, by simp [intOf]; omega⟩
        · go_wp2_with fail
          go_ret
          exact ⟨rfl, HBC.out.trans (HBr.out.mono HBC.out.size)⟩
end Go.Proofs.YtepmgnhblegiiaaDoor
