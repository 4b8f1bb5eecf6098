/- The reference: fine. No condition beyond what each states. -/
import Derived.Test.YtepmgnhblegiiaaDoorRfK
set_option linter.all false
namespace Go.Proofs.YtepmgnhblegiiaaDoor
open Go Go.RowKit Go.Maps

def FineP (n : Nat) (cl : Nat → Int) (rw : Nat → Row) (x : Nat) : Prop := kindsN (rw x) ≤ 1 ∧ FitR rw (rw x) ∧ ¬ Path (rtK n cl) (ofK n rw) x x
def FinPost (n : Nat) (cl : Nat → Int) (rw : Nat → Row) (x : Nat) (w : World) (e : Ending) (w' : World) : Prop := ∃ b : Bool, e = .returned (.bool b) ∧ Below w.heap.size w w' ∧ (b = true ↔ FineP n cl rw x)
theorem b2n_t {p : Prop} [Decidable p] (h : p) : b2n p = 1 := by unfold b2n; rw [if_pos h]
theorem b2n_f {p : Prop} [Decidable p] (h : ¬ p) : b2n p = 0 := by unfold b2n; rw [if_neg h]

set_option maxRecDepth 100000 in
set_option maxHeartbeats 4000000 in
theorem rfine_any (n : Nat) (hn2 : n ≤ 2000) (cs ps : List Con) (cl : Nat → Int) (rw rs : Nat → Row) (ok : Bool) (hd : DesI n cs ps cl rw ok) (hrs : RowsI n cl rw rs) (fv : Nat → Value) (g cap : Nat) (hcap : n ≤ cap) (x : Nat) (hxn : x < n) (hxr : cl x = x) (w : World) (h : ViewW g n rs fv w) :
    Calls Tryd.prog 51 #[.slice (some ⟨g, 0, none⟩) n cap, .int .i64 x] w (FinPost n cl rw x w) := by
  have HD := Lib.hid hd
  have HRS := Lib.hid hrs
  have H := Lib.hid h
  have HXR := Lib.hid hxr
  have hrx := hrs.same x hxn hxr
  obtain ⟨c, hg, hc⟩ := h.cel.c
  have hmx := h.mem x hxn
  rw [hrx] at hmx
  obtain ⟨am, cm0, hfv, hmc⟩ := hmx
  have HEX := Lib.hid (show (c.extract (x * 7) (x * 7 + (rowCells (rw x) (.slice am (rw x).fields.length cm0)).length)).toList = rowCells (rw x) (.slice am (rw x).fields.length cm0) from ext_at (fun j hj => by rw [hc x hxn j hj, hrx, hfv]))
  have HG := Lib.hid hg
  have HMC := Lib.hid hmc
  have hrow := hd.rows x hxn
  have hfew := hrow.few
  have hsz1 := hrow.size.1
  have hsz2 := hrow.size.2
  have hct1 := hrow.count.1
  have hct2 := hrow.count.2
  have HCON := Lib.hid (fun W hv => rcontains_any n hn2 cs ps cl rw rs ok hd hrs fv g cap hcap x x hxn hxr W hv)
  have HSP := Lib.hid (fun (p : Nat) (hp : p < n) (hc : cl p = p) => And.intro (hrs.same p hp hc) (hd.rows p hp).size)
  have HROW := Lib.hid hrow
  have hel : (rw x).elem = -1 ∨ RootN n cl (rw x).elem := hrow.elem
  have HEL := Lib.hid hel
  clear hd hrs h hxr hrx hg hc hfv hmc hrow hel
  go_enter Tryd.func51, Tryd.ntmps51
  go_upto_region 2 with (first | (refine wpList_val (by rfl) (exec_load_midB 44 _ rfl g (x * 7) rfl c 44 (0, 0) HG.out (rowCells (rw x) (.slice am (rw x).fields.length cm0)) HEX.out (by kernel_rfl)) ?_) | (refine wpList_store_row rfl _ _ _ rfl _ _ rfl rfl _ _ (heap_alloc_new _ _) ?_ ?_ ?_ ?_; kernel_rfl; rfl; kernel_rfl; rw [World.setRow_alloc_new]))
  obtain ⟨W, hW⟩ : ∃ W, W = w.alloc (.cells #[.int .i64 (rw x).cls, .int .i64 (rw x).size, .int .i64 (rw x).sign, .int .i64 (rw x).ptr, .int .i64 (rw x).elem, .int .i64 (rw x).count, .slice am (rw x).fields.length cm0] 44) := ⟨_, rfl⟩
  change Code.wp _ _ _ _ (w.alloc (.cells #[.int .i64 (rw x).cls, .int .i64 (rw x).size, .int .i64 (rw x).sign, .int .i64 (rw x).ptr, .int .i64 (rw x).elem, .int .i64 (rw x).count, .slice am (rw x).fields.length cm0] 44))
  rw [← hW]
  have htw : Turn (fun _ => False) w W := by rw [hW]; exact (Turn.refl _ _).alloc _
  have hbx : W.heap[w.heap.size]? = some (.cells #[.int .i64 (rw x).cls, .int .i64 (rw x).size, .int .i64 (rw x).sign, .int .i64 (rw x).ptr, .int .i64 (rw x).elem, .int .i64 (rw x).count, .slice am (rw x).fields.length cm0] 44 (0, 0)) := by rw [hW]; exact heap_alloc_new _ _
  have HMW := Lib.hid (show 0 < (rw x).fields.length → ∃ g off c T, am = some ⟨g, off, none⟩ ∧ W.heap[g]? = some (.cells c T (0, 0)) ∧ ∀ i p, (rw x).fields[i]? = some p → c[off + i * 2]? = some (.int .i64 p.1) ∧ c[off + (i * 2 + 1)]? = some (.int .i64 p.2) from fun h0 => by
    obtain ⟨g, off, c, T, e, hg, hc⟩ := HMC.out h0
    exact ⟨g, off, c, T, e, htw.heap hg (fun h => h), hc⟩)
  have HV := Lib.hid (H.out.keep (htw.toBelow (Nat.le_refl _) (fun _ h => h.elim)))
  have HBX := Lib.hid hbx
  have HTW := Lib.hid htw
  have k2 : W.cell? ⟨w.heap.size, 2, none⟩ = some (.int .i64 (rw x).sign) := by rw [cell_of_row _ _ _ _ _ _ hbx]; rfl
  have k3 : W.cell? ⟨w.heap.size, 3, none⟩ = some (.int .i64 (rw x).ptr) := by rw [cell_of_row _ _ _ _ _ _ hbx]; rfl
  have k4 : W.cell? ⟨w.heap.size, 4, none⟩ = some (.int .i64 (rw x).elem) := by rw [cell_of_row _ _ _ _ _ _ hbx]; rfl
  have k6 : W.cell? ⟨w.heap.size, 6, none⟩ = some (.slice am (rw x).fields.length cm0) := by rw [cell_of_row _ _ _ _ _ _ hbx]; rfl
  clear hW htw hbx HEX HMC H
  go_upto_if 15 with fail
  go_cut [6] (fun s6 wx => ∃ K : Nat, s6 = .int .i64 K ∧ Hid (K = b2n ((rw x).sign ≠ 0)) ∧ K ≤ 1 ∧ wx = W)
  case first =>
    by_cases hs : (rw x).sign = 0
    · have e1 : ((rw x).sign != 0) = false := by simp [hs]
      have HS := Lib.hid hs; clear hs
      go_wp2_with fail
      go_meet
      case rel => exact ⟨0, by simp, Lib.hid (by rw [b2n_f (by simp [HS.out])]), by omega, rfl⟩
    · have e1 : ((rw x).sign != 0) = true := by simpa using hs
      have HS := Lib.hid hs; clear hs
      go_wp2_with fail
      go_meet
      case rel => exact ⟨1, by simp, Lib.hid (by rw [b2n_t HS.out]), by omega, rfl⟩
  case rest =>
    obtain ⟨K1, rfl, HK1, hK1, hw1⟩ := hcut
    subst hw1
    go_upto_if 20 with fail
    go_cut [6] (fun s6 wx => ∃ K : Nat, s6 = .int .i64 K ∧ Hid (K = K1 + b2n (0 ≤ (rw x).ptr)) ∧ K ≤ 2 ∧ wx = wc)
    case first =>
      by_cases hs : 0 ≤ (rw x).ptr
      · have HS := Lib.hid hs
        go_wp2_with fail
        go_meet
        case rel => exact ⟨K1 + 1, by go_num, Lib.hid (by rw [b2n_t HS.out]), by omega, rfl⟩
      · have HS := Lib.hid (show ¬ 0 ≤ (rw x).ptr from hs)
        go_wp2_with fail
        go_meet
        case rel => exact ⟨K1, rfl, Lib.hid (by rw [b2n_f (by have h8 := HS.out; omega)]; rfl), by omega, rfl⟩
    case rest =>
      obtain ⟨K2, rfl, HK2, hK2, hw1⟩ := hcut
      subst hw1
      go_upto_if 25 with fail
      go_cut [6] (fun s6 wx => ∃ K : Nat, s6 = .int .i64 K ∧ Hid (K = K2 + b2n (0 ≤ (rw x).elem)) ∧ K ≤ 3 ∧ wx = wc)
      case first =>
        by_cases hs : 0 ≤ (rw x).elem
        · have HS := Lib.hid hs
          go_wp2_with fail
          go_meet
          case rel => exact ⟨K2 + 1, by go_num, Lib.hid (by rw [b2n_t HS.out]), by omega, rfl⟩
        · have HS := Lib.hid (show ¬ 0 ≤ (rw x).elem from hs)
          go_wp2_with fail
          go_meet
          case rel => exact ⟨K2, rfl, Lib.hid (by rw [b2n_f (by have h8 := HS.out; omega)]; rfl), by omega, rfl⟩
      case rest =>
        obtain ⟨K3, rfl, HK3, hK3, hw1⟩ := hcut
        subst hw1
        go_upto_if 31 with fail
        go_cut [6] (fun s6 wx => ∃ K : Nat, s6 = .int .i64 K ∧ Hid (K = K3 + b2n ((rw x).fields ≠ [])) ∧ K ≤ 4 ∧ wx = wc)
        case first =>
          by_cases hs : 0 < (rw x).fields.length
          · go_wp2_with fail
            go_meet
            case rel => exact ⟨K3 + 1, by go_num, Lib.hid (by rw [b2n_t (List.length_pos_iff.1 hs)]), by omega, rfl⟩
          · have HS := Lib.hid (show ¬ ((rw x).fields ≠ []) from fun h => hs (List.length_pos_iff.2 h))
            go_wp2_with fail
            go_meet
            case rel => exact ⟨K3, rfl, Lib.hid (by rw [b2n_f HS.out]; rfl), by omega, rfl⟩
        case rest =>
          obtain ⟨K4, rfl, HK4, hK4, hw1⟩ := hcut
          subst hw1
          have HKN := Lib.hid (show kindsN (rw x) = K4 by rw [HK4.out, HK3.out, HK2.out, HK1.out]; rfl)
          clear HK1 HK2 HK3 HK4 hK1 hK2 hK3 k2 k3 k4 k6
          by_cases hk : 1 < K4
          · have e1 : ((K4 : Int) > 1) := by omega
            go_wp2_with fail
            go_ret
            exact ⟨false, rfl, HTW.out.toBelow (Nat.le_refl _) (fun _ h => h.elim), ⟨fun h => (by cases h), fun h => by have h9 := h.1; rw [HKN.out] at h9; omega⟩⟩
          · have e1 : ¬ ((K4 : Int) > 1) := by omega
            go_upto_block 0 with fail
            go_cut [7] (fun s7 wx => Hid (∀ q ∈ (rw x).fields, 0 < (rw x).size → q.1 + max (rw q.2.toNat).size 1 ≤ (rw x).size) ∧ Hid (Turn (fun _ => False) wc wx))
            case first =>
              go_wp2_with fail
              go_loopw [7] (fun s7 wr => ∃ k : Nat, k ≤ (rw x).fields.length ∧ s7 = .int .i64 k ∧ Hid (∀ j q, j < k → (rw x).fields[j]? = some q → 0 < (rw x).size → q.1 + max (rw q.2.toNat).size 1 ≤ (rw x).size) ∧ Hid (Turn (fun _ => False) wc wr)) (fun s7 _ => (rw x).fields.length - (intOf s7).toNat)
              case atStart => exact ⟨0, Nat.zero_le _, rfl, Lib.hid (fun j q hj => absurd hj (by omega)), Lib.hid (Turn.refl _ _)⟩
              case round =>
                obtain ⟨k, hk2, rfl, HL, HT⟩ := hrel
                have k6 : wr.cell? ⟨w.heap.size, 6, none⟩ = some (.slice am (rw x).fields.length cm0) := by rw [cell_of_row _ _ _ _ _ _ (HT.out.heap HBX.out (fun h => h))]; rfl
                have k1 : wr.cell? ⟨w.heap.size, 1, none⟩ = some (.int .i64 (rw x).size) := by rw [cell_of_row _ _ _ _ _ _ (HT.out.heap HBX.out (fun h => h))]; rfl
                by_cases hlt : k < (rw x).fields.length
                · obtain ⟨gm, om, cmm, Tm, rfl, hgm, hcm⟩ := HMW.out (by omega)
                  obtain ⟨q, hq⟩ : ∃ q, (rw x).fields[k]? = some q := ⟨(rw x).fields[k], by simp [hlt]⟩
                  obtain ⟨q1, q2⟩ := q
                  have hqq := HROW.out.flds _ (List.mem_of_getElem? hq)
                  obtain ⟨⟨hq1, hq2⟩, p, hp, rfl, hpc⟩ := hqq
                  have km0 : wr.cell? ⟨gm, om + k * 2, none⟩ = some (.int .i64 q1) := by rw [cell_of_row _ _ _ _ _ _ (HT.out.heap hgm (fun h => h))]; exact (hcm k _ hq).1
                  have km1 : wr.cell? ⟨gm, om + k * 2 + 1, none⟩ = some (.int .i64 (p : Int)) := by rw [cell_of_row _ _ _ _ _ _ (HT.out.heap hgm (fun h => h)), Nat.add_assoc]; exact (hcm k _ hq).2
                  obtain ⟨hs1, hs2⟩ := HSP.out p hp hpc
                  have kp : wr.cell? ⟨g, p * 7 + 1, none⟩ = some (.int .i64 (rw p).size) := by
                    rw [((HV.out.cel.turn HT.out (fun h => h)).at hp (j := 1) (by omega)).1, hs1]; rfl
                  have hwr : IntKind.i64.wrap (q1 + max (rw p).size 1) = q1 + max (rw p).size 1 := IntWalk.i64_in _ (by simp only at hq1 hq2; omega)
                  have HQ := Lib.hid hq
                  have hs2a := hs2.1
                  have hs2b := hs2.2
                  clear hgm hcm hq hs1 hs2 hpc
                  go_upto_region 16 with fail
                  by_cases hz : (rw x).size > 0
                  · by_cases hx : q1 + max (rw p).size 1 > (rw x).size
                    · go_quiet (fail)
                      go_wp2_with fail
                      go_ret
                      refine ⟨false, rfl, ?_, ⟨fun h => (by cases h), fun h => ?_⟩⟩
                      · exact ((HTW.out.trans HT.out (fun _ _ h => h)).drewN _).toBelow (Nat.le_refl _) (fun _ h => h.elim)
                      · have h9 := h.2.1.1 _ (List.mem_of_getElem? HQ.out) hz
                        simp only [Int.toNat_natCast] at h9
                        omega
                    · go_quiet (fail)
                      go_wp2_with fail
                      exact ⟨⟨k + 1, by omega, by go_num, Lib.hid (fun j q hj hq hz => by
                        by_cases e : j = k
                        · subst e; rw [HQ.out] at hq; cases hq; simp only [Int.toNat_natCast]; omega
                        · exact HL.out j q (by omega) hq hz), Lib.hid (HT.out.drewN _)⟩, by simp [intOf]; omega⟩
                  · go_quiet (fail)
                    go_wp2_with fail
                    exact ⟨⟨k + 1, by omega, by go_num, Lib.hid (fun j q hj hq h0 => by omega), Lib.hid (HT.out.drewN _)⟩, by simp [intOf]; omega⟩
                · have hkn : k = (rw x).fields.length := by omega
                  subst hkn
                  go_wp2_with fail
                  go_meet
                  case rel => exact ⟨Lib.hid (fun q hq hz => by
                    obtain ⟨j, hj, rfl⟩ := List.mem_iff_getElem.1 hq
                    exact HL.out j _ hj (by simp [hj]) hz), HT⟩
            case rest =>
              obtain ⟨HF, HT2⟩ := hcut
              have k1 : wc.cell? ⟨w.heap.size, 1, none⟩ = some (.int .i64 (rw x).size) := by rw [cell_of_row _ _ _ _ _ _ (HT2.out.heap HBX.out (fun h => h))]; rfl
              have k4 : wc.cell? ⟨w.heap.size, 4, none⟩ = some (.int .i64 (rw x).elem) := by rw [cell_of_row _ _ _ _ _ _ (HT2.out.heap HBX.out (fun h => h))]; rfl
              have k5 : wc.cell? ⟨w.heap.size, 5, none⟩ = some (.int .i64 (rw x).count) := by rw [cell_of_row _ _ _ _ _ _ (HT2.out.heap HBX.out (fun h => h))]; rfl
              have HTC := Lib.hid (HTW.out.trans HT2.out (fun _ _ h => h))
              have HVC := Lib.hid (HV.out.keep (HT2.out.toBelow (Nat.le_refl _) (fun _ h => h.elim)))
              have hcv := HVC.out.cel
              have HCV := Lib.hid hcv
              clear hcv
              go_upto_region 18 with fail
              rcases HEL.out with he | ⟨p, hp, he, hpc⟩
              · have hlt : ¬ (rw x).elem ≥ 0 := by omega
                have hlt2 : (rw x).elem < 0 := by omega
                clear he
                have HFR := Lib.hid (show FitR rw (rw x) from ⟨HF.out, fun h0 _ => by omega⟩)
                go_quiet (fail)
                go_wp2_with (go_at_call 66; refine (HCON.out _ (HVC.out.keep (((Turn.refl (fun _ => False) _).drewN _).toBelow (Nat.le_refl _) (fun _ h => h.elim)))).mono ?_; rintro e w9 ⟨b, rfl, hb9, hbb⟩; cases b)
                · go_ret
                  exact ⟨true, rfl, ((HTC.out.drewN _).toBelow (Nat.le_refl _) (fun _ h => h.elim)).trans (hb9.mono (HTC.out.drewN _).size), ⟨fun _ => ⟨by rw [HKN.out]; omega, HFR.out, fun h => by have h8 := hbb.2 h; cases h8⟩, fun _ => rfl⟩⟩
                · go_ret
                  exact ⟨false, rfl, ((HTC.out.drewN _).toBelow (Nat.le_refl _) (fun _ h => h.elim)).trans (hb9.mono (HTC.out.drewN _).size), ⟨fun h => (by cases h), fun h => absurd (hbb.1 (by first | rfl | trivial)) h.2.2⟩⟩
              · have hge : (rw x).elem ≥ 0 := by omega
                have k4' : wc.cell? ⟨w.heap.size, 4, none⟩ = some (.int .i64 (p : Int)) := by rw [k4, he]
                obtain ⟨hs1, hs2⟩ := HSP.out p hp hpc
                have kp : wc.cell? ⟨g, p * 7 + 1, none⟩ = some (.int .i64 (rw p).size) := by
                  rw [(HCV.out.at hp (j := 1) (by omega)).1, hs1]; rfl
                have hs2a := hs2.1
                have hs2b := hs2.2
                obtain ⟨M, hM⟩ : ∃ M, M = max (rw p).size 1 := ⟨_, rfl⟩
                have hM1 : 1 ≤ M := by omega
                have hM2 : M ≤ 65535 := by omega
                have hmul1 : 0 ≤ (rw x).count * M := Int.mul_nonneg hct1 (by omega)
                have hmul2 : (rw x).count * M ≤ 65535 * 65535 := Int.mul_le_mul hct2 hM2 (by omega) (by omega)
                have HE := Lib.hid (And.intro he hM)
                have hmx : max (rw p).size 1 = M := hM.symm
                have hwr : IntKind.i64.wrap ((rw x).count * M) = (rw x).count * M := IntWalk.i64_in _ (by omega)
                clear he hs1 hs2 hpc hM k4 hge
                by_cases hz : (rw x).size > 0
                · by_cases hx : (rw x).count * M > (rw x).size
                  · go_quiet (fail)
                    go_wp2_with fail
                    go_ret
                    refine ⟨false, rfl, (HTC.out.drewN _).toBelow (Nat.le_refl _) (fun _ h => h.elim), ⟨fun h => (by cases h), fun h => ?_⟩⟩
                    have h9 := h.2.1.2 (by have := HE.out.1; omega) hz
                    rw [HE.out.1, Int.toNat_natCast, ← HE.out.2] at h9
                    omega
                  · have hx2 : (rw x).count * M ≤ (rw x).size := by omega
                    have HFR := Lib.hid (show FitR rw (rw x) from ⟨HF.out, fun _ _ => by rw [HE.out.1, Int.toNat_natCast, ← HE.out.2]; exact hx2⟩)
                    go_quiet (fail)
                    go_wp2_with (go_at_call 66; refine (HCON.out _ (HVC.out.keep (((Turn.refl (fun _ => False) _).drewN _).toBelow (Nat.le_refl _) (fun _ h => h.elim)))).mono ?_; rintro e w9 ⟨b, rfl, hb9, hbb⟩; cases b)
                    · go_ret
                      exact ⟨true, rfl, ((HTC.out.drewN _).toBelow (Nat.le_refl _) (fun _ h => h.elim)).trans (hb9.mono (HTC.out.drewN _).size), ⟨fun _ => ⟨by rw [HKN.out]; omega, HFR.out, fun h => by have h8 := hbb.2 h; cases h8⟩, fun _ => rfl⟩⟩
                    · go_ret
                      exact ⟨false, rfl, ((HTC.out.drewN _).toBelow (Nat.le_refl _) (fun _ h => h.elim)).trans (hb9.mono (HTC.out.drewN _).size), ⟨fun h => (by cases h), fun h => absurd (hbb.1 (by first | rfl | trivial)) h.2.2⟩⟩
                · have hz2 : (rw x).size ≤ 0 := by omega
                  have HFR := Lib.hid (show FitR rw (rw x) from ⟨HF.out, fun _ h0 => by omega⟩)
                  go_quiet (fail)
                  go_wp2_with (go_at_call 66; refine (HCON.out _ (HVC.out.keep (((Turn.refl (fun _ => False) _).drewN _).toBelow (Nat.le_refl _) (fun _ h => h.elim)))).mono ?_; rintro e w9 ⟨b, rfl, hb9, hbb⟩; cases b)
                  · go_ret
                    exact ⟨true, rfl, ((HTC.out.drewN _).toBelow (Nat.le_refl _) (fun _ h => h.elim)).trans (hb9.mono (HTC.out.drewN _).size), ⟨fun _ => ⟨by rw [HKN.out]; omega, HFR.out, fun h => by have h8 := hbb.2 h; cases h8⟩, fun _ => rfl⟩⟩
                  · go_ret
                    exact ⟨false, rfl, ((HTC.out.drewN _).toBelow (Nat.le_refl _) (fun _ h => h.elim)).trans (hb9.mono (HTC.out.drewN _).size), ⟨fun h => (by cases h), fun h => absurd (hbb.1 (by first | rfl | trivial)) h.2.2⟩⟩
end Go.Proofs.YtepmgnhblegiiaaDoor
