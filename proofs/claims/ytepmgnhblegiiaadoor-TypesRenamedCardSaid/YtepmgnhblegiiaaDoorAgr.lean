/- The reference: Prefix; agrees; TypesSolves walked. Condition: the table of powers of ten reads as the text lays it. -/
import Derived.Test.YtepmgnhblegiiaaDoorRfE
set_option linter.all false
namespace Go.Proofs.YtepmgnhblegiiaaDoor
open Go Go.RowKit Go.Maps

theorem SolveR.rows_le {n : Int} {cs : List Con} {rows : List Row} {k err : Int} (h : SolveR n cs rows k err) : rows.length ≤ 2000 := by
  cases h <;> (try simp) <;> omega
theorem RowsW.viewB {B : Nat} {val : Value} {rows : List Row} {w w' : World} (h : RowsW B val rows w) (hb : Below w.heap.size w w') : RowsV w' val rows := h.view.below hb
def PfxPost (cs : List Con) (ao : Option Addr) (cap : Nat) (w : World) (e : Ending) (w' : World) : Prop := ∃ m, m ≤ cs.length ∧ e = .returned (.slice ao m cap) ∧ ¬ Clash (cs.take m) ∧ Below w.heap.size w w'
set_option maxRecDepth 100000 in
set_option maxHeartbeats 1000000 in
theorem prefix_any (n : Nat) (hn : 0 < n) (hn2 : n ≤ 2000) (cs : List Con) (hR : ∀ c ∈ cs, rightS n c = true) (hl : cs.length ≤ 5000) (w : World) (ao : Option Addr) (cap : Nat) (hcap : cs.length ≤ cap) (h : ConsW ao cs w) :
    Calls Tryd.prog 18 #[.int .i64 n, .slice ao cs.length cap] w (PfxPost cs ao cap w) := by
  have HS := Lib.hid (rsolve_any n cs (by omega) w ao cap hcap h)
  have HR := Lib.hid hR
  have hao : ao = none → cs.length = 0 := fun e => by
    rcases Nat.eq_zero_or_pos cs.length with h0 | h0
    · exact h0
    · obtain ⟨g, c, e2, -⟩ := h h0
      rw [e] at e2; cases e2
  have HAO := Lib.hid hao
  clear h hR hao
  go_enter Tryd.func18, Tryd.ntmps18
  go_upto_if 16 with (go_at_call 25; refine (HS.out).mono ?_; rintro e w1 ⟨val, rows, k, err, rfl, hsr, hb, hrv⟩)
  have HB := Lib.hid hb
  clear hb hrv
  cases hsr with
  | arg h => omega
  | many h1 h2 => omega
  | wrong i c h1 h2 h3 h4 h5 h6 => rw [HR.out c (List.mem_of_getElem? h4)] at h5; cases h5
  | clash i h1 h2 h3 h4 h5 h6 h7 =>
    have HC := Lib.hid h6
    clear h4 h6 h7
    rcases ao with _ | ⟨b, o, s⟩
    · have := HAO.out rfl; omega
    have hic : i ≤ cap := by omega
    go_wp2_with fail
    go_ret
    exact ⟨i, by omega, rfl, HC.out, HB.out⟩
  | ok rows h1 h2 h3 h4 h5 h6 h7 =>
    have HC := Lib.hid h5
    clear h4 h5 h6 h7
    go_wp2_with fail
    go_ret
    exact ⟨cs.length, Nat.le_refl _, rfl, by rw [List.take_length]; exact HC.out, HB.out⟩

set_option maxRecDepth 100000 in
set_option maxHeartbeats 1000000 in
theorem agrees_any (n : Int) (cs : List Con) (hn0 : n = 0 → cs ≠ []) (w : World) (ao : Option Addr) (cap : Nat) (hcap : cs.length ≤ cap) (h : ConsW ao cs w) :
    Calls Tryd.prog 17 #[.int .i64 n, .slice ao cs.length cap] w fun e w' => e = .returned (.bool true) ∧ Below w.heap.size w w' := by
  have HA := Lib.hid (solve_any n cs hn0 w ao cap hcap h)
  have HBB := Lib.hid (fun W (hb : Below w.heap.size w W) => rsolve_any n cs hn0 W ao cap hcap (h.below hb))
  clear h hn0
  go_enter Tryd.func17, Tryd.ntmps17
  go_upto_region 2 with (go_at_call 19; refine (HA.out).mono ?_; rintro e w1 ⟨va, ra, k1, e1, rfl, hs1, hb1, hr1⟩)
  have HB1 := Lib.hid hb1
  have HS1 := Lib.hid hs1
  have HV1 := Lib.hid hr1.view
  clear hb1 hs1 hr1
  go_upto_region 3 with (go_at_call 25; refine (HBB.out _ HB1.out).mono ?_; rintro e w2 ⟨vb, rb, k2, e2, rfl, hs2, hb2, hr2⟩)
  have HB2 := Lib.hid (HB1.out.trans (hb2.mono HB1.out.size))
  have HSM := Lib.hid (rsame_any ra rb va vb w2 (HV1.out.below hb2) hr2 (Nat.le_trans HS1.out.rows_le (by omega)) (Nat.le_trans hs2.rows_le (by omega)))
  obtain ⟨hrr, hk, he⟩ := HS1.out.unique hs2
  subst hk
  subst he
  have HRR := Lib.hid hrr
  clear hb2 hr2 hs2 hrr
  go_upto_region 4 with (go_at_call 22; refine (HSM.out).mono ?_; rintro e w3 ⟨b, rfl, hb3, hbb⟩)
  have hbt : b = true := hbb.2 HRR.out
  subst hbt
  have HB3 := Lib.hid (HB2.out.trans (hb3.mono HB2.out.size))
  clear hb3 hbb
  go_wp2_with fail
  go_ret
  exact ⟨rfl, HB3.out⟩

/-- The constraints that a law makes. -/
theorem made_own {n : Nat} {w w' : World} {v : Value} {cs : List Con} (h : w'.ownsRow w.heap.size 37 4 v cs.length (consV cs)) : ∃ ao cap, v = .slice ao cs.length cap ∧ cs.length ≤ cap ∧ ConsW ao cs w' := by
  obtain ⟨ao, cap, rfl⟩ := own_slice h
  exact ⟨ao, cap, rfl, (own_cap h).1, (own_cons h).2⟩
set_option maxRecDepth 100000 in
set_option maxHeartbeats 1000000 in
theorem typesSolves_any (z : Int) (hz : i64ok z) (ao : Option Addr) (len cap : Nat) (hlen : len ≤ 9223372036854775807) (w : World) (h : ArrW ao len w) (hT : TabP w) :
    Calls Tryd.prog 3 #[.int .i64 z, .slice ao len cap] w fun e w' => e = .returned (.bool true) ∧ Below w.heap.size w w' := by
  have HSN := Lib.hid (sanity_any w hT)
  have H := Lib.hid h
  have HSZ := Lib.hid (fun W => size_any z hz W)
  obtain ⟨n, hn⟩ := Int.eq_ofNat_of_zero_le (show 0 ≤ 1 + z % 14 by have := Int.emod_nonneg z (show (14 : Int) ≠ 0 by omega); omega)
  have hn1 : 0 < n := by have := Int.emod_nonneg z (show (14 : Int) ≠ 0 by omega); omega
  have hn2 : n ≤ 2000 := by have := Int.emod_lt_of_pos z (show (0 : Int) < 14 by omega); omega
  rw [hn] at HSZ
  clear hn h hT
  go_enter Tryd.func3, Tryd.ntmps3
  go_upto_region 2 with (go_at_call 14; refine (HSN.out).mono ?_; rintro e w1 ⟨rfl, hb1⟩)
  have HB1 := Lib.hid hb1
  have HMD := Lib.hid (made_any n hn1 hn2 w1 ao len cap hlen (H.out.below hb1))
  clear hb1
  go_upto_region 3 with (first | (go_at_call 16; refine (HSZ.out _).mono ?_; rintro e wz ⟨rfl, rfl⟩) | (go_at_call 15; refine (HMD.out).mono ?_; rintro e w2 ⟨v, cs, rfl, hown, hR, hl, hb2⟩))
  obtain ⟨co, cp, rfl, hcp, hcw⟩ := made_own (n := n) hown
  have HB2 := Lib.hid (HB1.out.trans (hb2.mono HB1.out.size))
  have HCW := Lib.hid hcw
  have HR := Lib.hid hR
  have HAG := Lib.hid (agrees_any n cs (by omega) w2 co cp hcp hcw)
  have HPF := Lib.hid (fun W (hb : Below w2.heap.size w2 W) => prefix_any n hn1 hn2 cs hR (by omega) W co cp hcp (hcw.below hb))
  clear hown hR hb2 hcw
  go_upto_region 4 with (first | (go_at_call 16; refine (HSZ.out _).mono ?_; rintro e wz ⟨rfl, rfl⟩) | (go_at_call 17; refine (HAG.out).mono ?_; rintro e w3 ⟨rfl, hb3⟩))
  have HB3 := Lib.hid hb3
  have HAG2 := Lib.hid (fun W (hb : Below w2.heap.size w2 W) m (hm : m ≤ cs.length) => by
    have h9 := agrees_any n (cs.take m) (by omega) W co cp (by rw [List.length_take]; omega) ((HCW.out.below hb).take m)
    rw [List.length_take, Nat.min_eq_left hm] at h9
    exact h9)
  clear hb3
  go_wp2_with (first | (go_at_call 16; refine (HSZ.out _).mono ?_; rintro e wz ⟨rfl, rfl⟩) | (go_at_call 18; refine (HPF.out _ HB3.out).mono ?_; rintro e w4 ⟨m, hm, rfl, hnc, hb4⟩; have HNC := Lib.hid hnc; have HB4 := Lib.hid (HB3.out.trans (hb4.mono HB3.out.size)); clear hnc hb4) | (go_at_call 17; refine (HAG2.out _ HB4.out m hm).mono ?_; rintro e w5 ⟨rfl, hb5⟩))
  go_ret
  exact ⟨rfl, HB2.out.trans ((HB4.out.mono HB2.out.size).trans (hb5.mono (Nat.le_trans HB2.out.size HB4.out.size)))⟩
end Go.Proofs.YtepmgnhblegiiaaDoor
