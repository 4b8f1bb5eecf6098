/- contradictory: whether the constraints are. No condition beyond what each states. -/
import Derived.Test.YtepmgnhblegiiaaDoorEnd
import Derived.Test.YtepmgnhblegiiaaDoorFit
set_option linter.all false
namespace Go.Proofs.YtepmgnhblegiiaaDoor
open Go Go.RowKit Go.Maps

def ConPost (L : Lay) (rt : Int → Int) (of : Int → Cls) (clash : Bool) (w : World) (e : Ending) (w' : World) : Prop :=
  ∃ b : Bool, e = .returned (.bool b) ∧ SolW L rt of clash w' ∧ Turn (fun k => k = L.gu) w w' ∧ (b = true ↔ (clash = true ∨ Cyc L rt of ∨ ∃ v : Int, (0 ≤ v ∧ v < L.n) ∧ rt v = v ∧ ¬ Fits rt of v))

set_option maxRecDepth 100000 in
set_option maxHeartbeats 2000000 in
theorem contradictory_any (L : Lay) (rt : Int → Int) (of : Int → Cls) (clash : Bool) (w : World) (h : SolW L rt of clash w) (hG : RefsOk L rt of) (hB : Small L rt of) :
    Calls Tryd.prog 30 #[.pointer (some ⟨L.gs, 0, none⟩)] w (ConPost L rt of clash w) := by
  have hlim := L.lim
  have c2 := h.s2
  have H := Lib.hid h
  have HG := Lib.hid hG
  have HB := Lib.hid hB
  clear h hG hB
  cases clash with
  | true =>
    go_enter Tryd.func30, Tryd.ntmps30
    go_wp2_with fail
    go_ret
    exact ⟨true, rfl, H.out, Turn.refl _ _, ⟨fun _ => .inl rfl, fun _ => rfl⟩⟩
  | false =>
    have HEN := Lib.hid (endless_any L rt of false w H.out HG.out)
    go_enter Tryd.func30, Tryd.ntmps30
    go_upto_region 3 with (go_at_call 41; refine (HEN.out).mono ?_; rintro e w1 ⟨b, rfl, hs1, ht1, hb1⟩; have HS1 := Lib.hid hs1; have HT1 := Lib.hid ht1; have HB1 := Lib.hid hb1; clear hs1 ht1 hb1; cases b)
    · have s0 := HS1.out.s0
      clear c2
      go_upto_block 0 with (fail)
      go_wp2_with fail
      go_loopw [17] (fun s17 wr => ∃ k : Nat, k ≤ L.n ∧ s17 = .int .i64 k ∧ Hid (SolW L rt of false wr) ∧ Hid (Turn (fun k => k = L.gu) w wr) ∧ Hid (∀ u : Nat, u < k → rt u = u → Fits rt of u)) (fun s17 _ => L.n - (intOf s17).toNat)
      case atStart => exact ⟨0, by omega, rfl, HS1, HT1, Lib.hid (fun u hu => by omega)⟩
      case round =>
        obtain ⟨k, hk, rfl, HSR, HTR, HAR⟩ := hrel
        by_cases hlt : k < L.n
        · have HFD := Lib.hid (find_any L wr HSR.out k hlt)
          by_cases hr : rt k = k
          · have e1 : (rt (k : Int) == (k : Int)) = true := by simp [hr]
            have HRK := Lib.hid hr
            clear hr
            have HFI := Lib.hid (fun W hs => fits_any L rt of false W k hlt HRK.out hs HG.out HB.out)
            go_upto_region 8 with (first | (go_at_call 42; refine (HFD.out).mono ?_; rintro e w4 ⟨rfl, hs4, ht4⟩; have HH4 := Lib.hid (And.intro hs4 ht4); clear hs4 ht4) | (go_at_call 43; refine (HFI.out _ HH4.out.1).mono ?_; rintro e w5 ⟨b, rfl, hs5, ht5, hb5⟩; have HH5 := Lib.hid (And.intro hs5 (And.intro ht5 hb5)); clear hs5 ht5 hb5; cases b))
            · go_ret
              have hnf : ¬ Fits rt of k := fun hf => by have h9 := HH5.out.2.2; simp at h9; exact h9 hf
              exact ⟨true, rfl, HH5.out.1, (HTR.out.trans HH4.out.2 (fun _ _ e => e)).trans HH5.out.2.1 (fun _ _ e => e), ⟨fun _ => .inr (.inr ⟨k, ⟨by omega, by omega⟩, HRK.out, hnf⟩), fun _ => rfl⟩⟩
            · go_wp2_with fail
              go_roundw
              case rel =>
                have hyf : Fits rt of k := by have h9 := HH5.out.2.2; simpa using h9
                exact ⟨k + 1, by omega, by go_num, Lib.hid HH5.out.1, Lib.hid ((HTR.out.trans HH4.out.2 (fun _ _ e => e)).trans HH5.out.2.1 (fun _ _ e => e)), Lib.hid (fun u hu hru => by
                  by_cases h : u < k
                  · exact HAR.out u h hru
                  · have : u = k := by omega
                    subst this; exact hyf)⟩
              case measure => simp [intOf]; omega
          · have e1 : (rt (k : Int) == (k : Int)) = false := by simp [hr]
            have HRK := Lib.hid hr
            clear hr
            go_wp2_with (go_at_call 42; refine (HFD.out).mono ?_; rintro e w4 ⟨rfl, hs4, ht4⟩; have HH4 := Lib.hid (And.intro hs4 ht4); clear hs4 ht4)
            go_roundw
            case rel => exact ⟨k + 1, by omega, by go_num, Lib.hid HH4.out.1, Lib.hid (HTR.out.trans HH4.out.2 (fun _ _ e => e)), Lib.hid (fun u hu hru => by
              by_cases h : u < k
              · exact HAR.out u h hru
              · have : u = k := by omega
                subst this; exact absurd hru HRK.out)⟩
            case measure => simp [intOf]; omega
        · go_wp2_with fail
          go_ret
          refine ⟨false, rfl, HSR.out, HTR.out, ⟨(fun h => by cases h), ?_⟩⟩
          rintro (h | h | ⟨v, hv, hrv, hf⟩)
          · cases h
          · have h9 := HB1.out
            simp at h9
            exact absurd h h9
          · obtain ⟨vn, rfl⟩ := Int.eq_ofNat_of_zero_le hv.1
            exact absurd (HAR.out vn (by omega) hrv) hf
    · go_ret
      exact ⟨true, rfl, HS1.out, HT1.out, ⟨fun _ => .inr (.inl (by have h9 := HB1.out; simpa using h9)), fun _ => rfl⟩⟩
end Go.Proofs.YtepmgnhblegiiaaDoor
