/- The reference: Clash, Solve. Condition: there is a variable or a constraint. -/
import Derived.Test.YtepmgnhblegiiaaDoorRfN
import Derived.Test.YtepmgnhblegiiaaDoorSlv
import Derived.Test.YtepmgnhblegiiaaDoorRfA
set_option linter.all false
namespace Go.Proofs.YtepmgnhblegiiaaDoor
open Go Go.RowKit Go.Maps

def ClhPost (cs : List Con) (w : World) (e : Ending) (w' : World) : Prop := ∃ b : Bool, e = .returned (.bool b) ∧ Below w.heap.size w w' ∧ (b = true ↔ Clash cs)
set_option maxRecDepth 100000 in
set_option maxHeartbeats 2000000 in
theorem rclash_any (n : Nat) (hn : 0 < n) (hn2 : n ≤ 2000) (cs : List Con) (hR : ∀ c ∈ cs, rightS n c = true) (hl : cs.length ≤ 5000) (w : World) (ao : Option Addr) (cap : Nat) (h : ConsW ao cs w) :
    Calls Tryd.prog 35 #[.int .i64 n, .slice ao cs.length cap] w (ClhPost cs w) := by
  have H := Lib.hid h
  have HC := Lib.hid (rclasses_any n hn hn2 cs hR hl w ao cap h)
  have HDS := Lib.hid (fun cl hI hS W hw gc capc hc => rdescribed_any n hn hn2 cs hR hl cl hI hS W ao cap hw gc capc hc)
  have HR := Lib.hid hR
  clear h hR
  go_enter Tryd.func35, Tryd.ntmps35
  go_upto_region 2 with (go_at_call 37; refine (HC.out).mono ?_; rintro e w1 ⟨hb1, gc, capc, cl, hgc, rfl, hcw, hci, hcs⟩)
  have HCI := Lib.hid (And.intro hci hcs)
  have HCW := Lib.hid hcw
  have HB1 := Lib.hid hb1
  clear hb1 hcw hci hcs HC
  go_upto_region 3 with (go_at_call 36; refine (HDS.out cl HCI.out.1 HCI.out.2 _ (H.out.below HB1.out) gc capc HCW.out).mono ?_; rintro e w2 ⟨hb2, g, cp, rw, fv, ok, rfl, hcp, hg, hdi, hdw⟩)
  have HDI := Lib.hid hdi
  have HV2 := Lib.hid hdw.view
  have HB2 := Lib.hid (HB1.out.trans (hb2.mono HB1.out.size))
  have HCW2 := Lib.hid (HCW.out.turn (Turn.ofBelow (bs := fun _ => False) hb2) (fun h => h))
  have HCR := Lib.hid (clash_rows hdi HR.out)
  clear hb2 hdi hdw HCW HDS
  cases ok
  · go_wp2_with fail
    go_ret
    exact ⟨true, rfl, HB2.out, ⟨fun _ => HCR.out.2 (by first | exact .inl rfl | simp), fun _ => rfl⟩⟩
  · go_wp2_with fail
    go_loopw [8] (fun s8 wr => ∃ k : Nat, k ≤ n ∧ s8 = .int .i64 k ∧ Hid (∀ x, x < k → cl x = x → FineP n cl rw x) ∧ Hid (Below w2.heap.size w2 wr)) (fun s8 _ => n - (intOf s8).toNat)
    case atStart => exact ⟨0, Nat.zero_le _, rfl, Lib.hid (fun x hx => absurd hx (by omega)), Lib.hid (Below.refl _ _)⟩
    case round =>
      obtain ⟨k, hk, rfl, HL, HB⟩ := hrel
      by_cases hlt : k < n
      · have ck : wr.cell? ⟨gc, k, none⟩ = some (.int .i64 (cl k)) := (HCW2.out.turn (Turn.ofBelow (bs := fun _ => False) HB.out) (fun h => h)).cell hlt
        by_cases hc : cl k = k
        · have ck' : wr.cell? ⟨gc, k, none⟩ = some (.int .i64 (k : Int)) := by rw [ck, hc]
          have HFN := Lib.hid (rfine_any n hn2 cs cs cl rw (fun v => rw (cl v).toNat) true HDI.out (RowsI.of n HCI.out.1 rw) fv g cp hcp k hlt hc wr (HV2.out.keep HB.out))
          have HCK := Lib.hid hc
          clear ck hc
          go_wp2_with (go_at_call 51; refine (HFN.out).mono ?_; rintro e w3 ⟨b, rfl, hb3, hbb⟩; cases b)
          · go_ret
            exact ⟨true, rfl, HB2.out.trans ((HB.out.mono HB2.out.size).trans (hb3.mono (Nat.le_trans HB2.out.size HB.out.size))), ⟨fun _ => HCR.out.2 (.inr ⟨k, hlt, HCK.out, fun h => by have h8 := hbb.2 h; cases h8⟩), fun _ => rfl⟩⟩
          · go_roundw
            case rel => exact ⟨k + 1, by omega, by go_num, Lib.hid (fun x hx hcx => by
              by_cases e : x = k
              · subst e; exact hbb.1 (by first | rfl | trivial)
              · exact HL.out x (by omega) hcx), Lib.hid (HB.out.trans (hb3.mono HB.out.size))⟩
            case measure => simp [intOf]; omega
        · have ec : (cl k != (k : Int)) = true := by simpa using hc
          have HCK := Lib.hid hc
          clear hc
          go_wp2_with fail
          exact ⟨⟨k + 1, by omega, by go_num, Lib.hid (fun x hx hcx => by
              by_cases e : x = k
              · subst e; exact absurd hcx HCK.out
              · exact HL.out x (by omega) hcx), HB⟩, by simp [intOf]; omega⟩
      · have hkn : k = n := by omega
        subst hkn
        go_wp2_with fail
        go_ret
        exact ⟨false, rfl, HB2.out.trans (HB.out.mono HB2.out.size), ⟨fun h => (by cases h), fun h => by
          rcases HCR.out.1 h with h | ⟨x, hx, hc, hq⟩
          · cases h
          · exact absurd (HL.out x hx hc) hq⟩⟩

/-- What the reference's Solve answers. -/
def RSolvePost (n : Int) (cs : List Con) (w : World) (e : Ending) (w' : World) : Prop :=
  ∃ val rows k err, e = .returned (.tuple #[val, .int .i64 k, .int .i64 err]) ∧ SolveR n cs rows k err ∧ Below w.heap.size w w' ∧ RowsV w' val rows
theorem RowsV.nil (w : World) : RowsV w (.slice none 0 0) [] := ⟨none, 0, rfl, Nat.le_refl _, fun h => absurd h (by simp)⟩
theorem des_view {B g n cp : Nat} {rs : Nat → Row} {fv : Nat → Value} {w : World} (h : DesW B g n rs fv w) (hcp : n ≤ cp) (hf : ∀ v, v < n → (rs v).fields.length ≤ 65536) : RowsV w (.slice (some ⟨g, 0, none⟩) n cp) ((List.range n).map rs) := by
  refine ⟨some ⟨g, 0, none⟩, cp, by simp, by simpa using hcp, fun _ => ?_⟩
  obtain ⟨c, hg, hc⟩ := h.cel.c
  refine ⟨g, 0, c, rfl, hg, fun i r hr => ?_⟩
  simp only [List.getElem?_map, List.getElem?_range] at hr
  have hi : i < n := by
    rcases Nat.lt_or_ge i n with h | h
    · exact h
    · simp [List.getElem?_eq_none, h] at hr
  have hr' : rs i = r := by simpa [hi] using hr
  subst hr'
  exact ⟨fv i, h.view.mem i hi, hf i hi, fun j hj => by rw [Nat.zero_add]; exact hc i hi j hj⟩

set_option maxRecDepth 100000 in
set_option maxHeartbeats 2000000 in
theorem rsolve_any (n : Int) (cs : List Con) (hn0 : n = 0 → cs ≠ []) (w : World) (ao : Option Addr) (cap : Nat) (hcap : cs.length ≤ cap) (h : ConsW ao cs w) :
    Calls Tryd.prog 25 #[.int .i64 n, .slice ao cs.length cap] w (RSolvePost n cs w) := by
  by_cases hneg : n < 0
  · clear h hn0 hcap
    go_enter Tryd.func25, Tryd.ntmps25
    go_wp2_with fail
    go_ret3
    exact ⟨_, [], 0, 1, rfl, .arg hneg, Below.refl _ _, RowsV.nil _⟩
  obtain ⟨N, rfl⟩ := Int.eq_ofNat_of_zero_le (show 0 ≤ n by omega)
  by_cases hbig : 2000 < N
  · clear h hn0 hcap
    go_enter Tryd.func25, Tryd.ntmps25
    go_wp2_with fail
    go_ret3
    exact ⟨_, [], 0, 2, rfl, .many (by omega) (.inl (by omega)), Below.refl _ _, RowsV.nil _⟩
  by_cases hmany : 5000 < cs.length
  · clear h hn0 hcap
    go_enter Tryd.func25, Tryd.ntmps25
    go_wp2_with fail
    go_ret3
    exact ⟨_, [], 0, 2, rfl, .many (by omega) (.inr hmany), Below.refl _ _, RowsV.nil _⟩
  have H := Lib.hid h
  have HN0 := Lib.hid hn0
  clear h hn0
  go_enter Tryd.func25, Tryd.ntmps25
  go_upto_block 0 with fail
  go_cut [] (fun wx => Hid (∀ c ∈ cs, rightS N c = true) ∧ Hid (Below w.heap.size w wx))
  case first =>
    go_wp2_with fail
    go_loopw [7] (fun s7 wr => ∃ k : Nat, k ≤ cs.length ∧ s7 = .int .i64 k ∧ Hid (∀ j d, j < k → cs[j]? = some d → rightS N d = true) ∧ Hid (Below w.heap.size w wr)) (fun s7 _ => cs.length - (intOf s7).toNat)
    case atStart => exact ⟨0, Nat.zero_le _, rfl, Lib.hid (fun j d hj => absurd hj (by omega)), Lib.hid (Below.refl _ _)⟩
    case round =>
      obtain ⟨k, hk, rfl, HL, HB⟩ := hrel
      by_cases hlt : k < cs.length
      · obtain ⟨x, hx⟩ : ∃ x, cs[k]? = some x := ⟨cs[k], by simp [hlt]⟩
        obtain ⟨ga, ca, rfl, hga, hca⟩ := H.out (by omega)
        have HEX := Lib.hid (con_extract (hca k x hx))
        have HGA := Lib.hid (below_keep HB.out hga)
        have HX := Lib.hid hx
        have HRR := Lib.hid (fun W => rright_any (N : Int) x W)
        clear hx hga hca
        cases hq : rightS N x
        · have HQ := Lib.hid hq
          rw [hq] at HRR
          clear hq
          go_wp2_with (first | (refine wpList_val (by rfl) (exec_load_midB 37 _ rfl ga (k * 4) rfl ca 37 (0, 0) HGA.out (conCells x).toList HEX.out (by kernel_rfl)) ?_) | (go_at_call 21; refine (HRR.out _).mono ?_; rintro e w1 ⟨rfl, hb1⟩))
          go_ret3
          exact ⟨_, [], k, 1, rfl, .wrong k x (by omega) (by omega) (by omega) HX.out HQ.out HL.out, HB.out.trans (hb1.mono HB.out.size), RowsV.nil _⟩
        · have HQ := Lib.hid hq
          rw [hq] at HRR
          clear hq
          go_wp2_with (first | (refine wpList_val (by rfl) (exec_load_midB 37 _ rfl ga (k * 4) rfl ca 37 (0, 0) HGA.out (conCells x).toList HEX.out (by kernel_rfl)) ?_) | (go_at_call 21; refine (HRR.out _).mono ?_; rintro e w1 ⟨rfl, hb1⟩))
          exact ⟨⟨k + 1, by omega, by go_num, Lib.hid (fun j d hj hd => by
            by_cases e : j = k
            · subst e; rw [HX.out] at hd; cases hd; exact HQ.out
            · exact HL.out j d (by omega) hd), Lib.hid (HB.out.trans (hb1.mono HB.out.size))⟩, by simp [intOf]; omega⟩
      · have hkn : k = cs.length := by omega
        subst hkn
        go_wp2_with fail
        go_meet
        case rel => exact ⟨Lib.hid (fun c hc => by
          obtain ⟨j, hj, rfl⟩ := List.mem_iff_getElem.1 hc
          exact HL.out j _ hj (by simp [hj])), HB⟩
  case rest =>
    obtain ⟨HALL, HB⟩ := hcut
    have hN : 0 < N := by
      rcases Nat.eq_zero_or_pos N with e | e
      · subst e
        obtain ⟨c, l, rfl⟩ := List.exists_cons_of_ne_nil (HN0.out rfl)
        have := HALL.out c (List.mem_cons_self)
        simp only [rightS, Bool.and_eq_true, decide_eq_true_eq] at this
        omega
      · exact e
    have HC := Lib.hid (rclash_any N hN (by omega) cs HALL.out (by omega) wc ao cap (H.out.below HB.out))
    go_upto_if 43 with (go_at_call 35; refine (HC.out).mono ?_; rintro e w1 ⟨b, rfl, hb1, hbb⟩; cases b)
    · have hC : ¬ Clash cs := fun hc => by have h8 := hbb.2 hc; cases h8
      have HNC := Lib.hid hC
      have HB1 := Lib.hid (HB.out.trans (hb1.mono HB.out.size))
      clear hC hb1 hbb HC
      have HCL := Lib.hid (rclasses_any N hN (by omega) cs HALL.out (by omega) w1 ao cap (H.out.below HB1.out))
      have HDS := Lib.hid (fun cl hI hS W hw gc capc hc => rdescribed_any N hN (by omega) cs HALL.out (by omega) cl hI hS W ao cap hw gc capc hc)
      go_wp2_with (first
        | (go_at_call 37; refine (HCL.out).mono ?_; rintro e w2 ⟨hb2, gc, capc, cl, hgc, rfl, hcw, hci, hcs⟩; have HCI := Lib.hid (And.intro hci hcs); have HCW := Lib.hid hcw; have HB2 := Lib.hid (HB1.out.trans (hb2.mono HB1.out.size)); clear hb2 hcw hci hcs)
        | (go_at_call 36; refine (HDS.out cl HCI.out.1 HCI.out.2 _ (H.out.below HB2.out) gc capc HCW.out).mono ?_; rintro e w3 ⟨hb3, g, cp, rw, fv, ok, rfl, hcp, hg, hdi, hdw⟩))
      go_ret3
      refine ⟨_, (List.range N).map (fun v => rw (cl v).toNat), 0, 0, rfl, .ok _ (by omega) (by omega) (by omega) HALL.out HNC.out (by simp) (fun v r hr => ?_), HB2.out.trans (hb3.mono HB2.out.size), des_view hdw hcp (fun v hv => ?_)⟩
      · have hv : v < N := by
          rcases Nat.lt_or_ge v N with h | h
          · exact h
          · simp [List.getElem?_eq_none, h] at hr
        have hr' : rw (cl v).toNat = r := by simpa [hv] using hr
        subst hr'
        exact desc_rows HCI.out.1 hdi HALL.out HNC.out hv
      · have h1 := HCI.out.1.nn v hv
        have h2 := HCI.out.1.le v hv
        exact (hdi.rows _ (by omega)).few
    · have hC : Clash cs := hbb.1 (by first | rfl | trivial)
      have hcl : 0 < cs.length := by
        rcases Nat.eq_zero_or_pos cs.length with e | e
        · rw [List.eq_nil_of_length_eq_zero e] at hC; exact absurd hC clash_nil
        · exact e
      obtain ⟨ga, ca, hao, hga, hca⟩ := H.out hcl
      subst hao
      have HCT := Lib.hid hC
      have HB1 := Lib.hid (HB.out.trans (hb1.mono HB.out.size))
      have HCN := Lib.hid clash_nil
      clear hC hb1 hbb hga hca HC
      go_wp2_with fail
      go_loopw [10, 11] (fun s10 s11 wr => ∃ lo hi : Nat, lo < hi ∧ hi ≤ cs.length ∧ s10 = .int .i64 lo ∧ s11 = .int .i64 hi ∧ Hid (¬ Clash (cs.take lo)) ∧ Hid (Clash (cs.take hi)) ∧ Hid (Below w.heap.size w wr)) (fun s10 s11 _ => (intOf s11).toNat - (intOf s10).toNat)
      case atStart => exact ⟨0, cs.length, hcl, Nat.le_refl _, rfl, rfl, Lib.hid (by rw [List.take_zero]; exact HCN.out), Lib.hid (by rw [List.take_length]; exact HCT.out), HB1⟩
      case round =>
        obtain ⟨lo, hi, hlh, hhl, rfl, rfl, HLC, HHC, HBR⟩ := hrel
        by_cases hgo : 1 < hi - lo
        · have e1 : ((hi : Int) - lo > 1) := by omega
          go_upto_region 17 with fail
          obtain ⟨half, hhf⟩ : ∃ half : Nat, half = (lo + hi) / 2 := ⟨_, rfl⟩
          have hint : ((lo : Int) + hi) / 2 = (half : Int) := by omega
          rw [hint]
          have hh1 : lo < half := by omega
          have hh2 : half < hi := by omega
          have hh3 : half ≤ cap := by omega
          have hall2 : ∀ c ∈ cs.take half, rightS N c = true := fun c hc => HALL.out c (List.mem_of_mem_take hc)
          have HCC := Lib.hid (by
            have h9 := rclash_any N hN (by omega) (cs.take half) hall2 (by rw [List.length_take]; omega) wr (some ⟨ga, 0, none⟩) cap ((H.out.below HBR.out).take half)
            rw [List.length_take, Nat.min_eq_left (by omega)] at h9
            exact h9)
          clear hhf hint hall2
          go_wp2_with (go_at_call 35; refine (HCC.out).mono ?_; rintro e w2 ⟨b, rfl, hb2, hbb⟩; cases b)
          · exact ⟨⟨half, hi, hh2, hhl, rfl, rfl, Lib.hid (fun hc => by have h8 := hbb.2 hc; cases h8), HHC, Lib.hid (HBR.out.trans (hb2.mono HBR.out.size))⟩, by simp [intOf]; omega⟩
          · exact ⟨⟨lo, half, hh1, by omega, rfl, rfl, HLC, Lib.hid (hbb.1 (by first | rfl | trivial)), Lib.hid (HBR.out.trans (hb2.mono HBR.out.size))⟩, by simp [intOf]; omega⟩
        · have hhi : hi = lo + 1 := by omega
          subst hhi
          go_wp2_with fail
          go_ret3
          refine ⟨_, [], lo, 60, ?_, .clash lo (by omega) (by omega) (by omega) HALL.out (by omega) HLC.out HHC.out, HBR.out, RowsV.nil _⟩
          go_num
end Go.Proofs.YtepmgnhblegiiaaDoor
