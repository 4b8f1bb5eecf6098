/- IsaPrefix: walked. Condition: the library's tables read as the text lays them. -/
import Derived.Test.YtakahmhbopakmaaDoorSizes
import Derived.Test.YtakahmhbopakmaaDoorMadeC
import Derived.Test.YtakahmhbopakmaaDoorFormsA
import Derived.BigQuiet
import Derived.Deep.QuietTactic
set_option linter.all false
namespace Go.Proofs.YtakahmhbopakmaaDoor
open Go.RowKit

theorem toList_inj {x y : ByteArray} (h : x.toList = y.toList) : x = y := by
  rw [ByteArray.toList_eq, ByteArray.toList_eq] at h
  exact ByteArray.ext (Array.ext' h)
theorem str_ext (s t : ByteArray) (h : s.size = t.size) (hk : ∀ k, k < s.size → byt s k = byt t k) : s = t := by
  apply ByteArray.ext
  apply Array.ext'
  apply List.ext_getElem?
  intro k
  by_cases hlt : k < s.size
  · have h1 := hk k hlt
    unfold byt at h1
    have k1 : k < s.data.toList.length := by rw [Array.length_toList]; exact hlt
    have k2 : k < t.data.toList.length := by rw [Array.length_toList]; have : k < t.size := by omega
                                             exact this
    have a1 : s.data.toList[k]? = some (s.data.toList[k]'k1) := List.getElem?_eq_getElem k1
    have a2 : t.data.toList[k]? = some (t.data.toList[k]'k2) := List.getElem?_eq_getElem k2
    rw [List.getD_eq_getElem?_getD, List.getD_eq_getElem?_getD, a1, a2] at h1
    rw [a1, a2]
    simp only [Option.getD_some] at h1
    congr 1
    apply UInt8.toNat_inj.1
    omega
  · have e1 : s.data.toList[k]? = none := List.getElem?_eq_none (by rw [Array.length_toList]; exact Nat.le_of_not_lt hlt)
    have e2 : t.data.toList[k]? = none := List.getElem?_eq_none (by rw [Array.length_toList]; have : t.size ≤ k := by omega
                                                                    exact this)
    rw [e1, e2]
/-- No encoding is a proper prefix of another one. -/
theorem no_prefix (i j : Ins) (hi : i.Ok) (hj : j.Ok) (vi' : validS i = true) (vj : validS j = true) (n : Nat) (hn : n = min (strOf (encB i)).size (strOf (encB j)).size) (hne : (strOf (encB i)).size ≠ (strOf (encB j)).size) :
    (strOf (encB i)).extract 0 n ≠ (strOf (encB j)).extract 0 n := by
  intro he
  obtain ⟨-, -, li⟩ := enc_valid i hi vi'
  obtain ⟨-, -, lj⟩ := enc_valid j hj vj
  have si : (strOf (encB i)).size = (encB i).length := strOf_size _
  have sj : (strOf (encB j)).size = (encB j).length := strOf_size _
  have hb : ∀ k, k < n → byt (strOf (encB i)) k = byt (strOf (encB j)) k := fun k hk => by
    rw [← byt_extract _ n k hk, he, byt_extract _ n k hk]
  have e0 : ∀ x : ByteArray, x ++ ByteArray.empty = x := fun x => by simp
  rcases Nat.lt_or_ge (strOf (encB i)).size (strOf (encB j)).size with h | h
  · have hn' : n = (strOf (encB i)).size := by omega
    have h1 := (dec_short j hj vj (strOf (encB i)) (by omega) (fun k hk => hb k (by omega))).1
    have h2 := (dec_enc i hi vi' ByteArray.empty).1
    rw [e0, h1] at h2
    cases h2
  · have hn' : n = (strOf (encB j)).size := by omega
    have h1 := (dec_short i hi vi' (strOf (encB j)) (by omega) (fun k hk => (hb k (by omega)).symm)).1
    have h2 := (dec_enc j hj vj ByteArray.empty).1
    rw [e0, h1] at h2
    cases h2

set_option maxRecDepth 100000 in
set_option maxHeartbeats 4000000 in
theorem prefix_at (q0 q1 q2 q3 q4 r0 r1 r2 r3 r4 : Int) (hlen : Bool) (hl : ((strOf (encB (madeS q0 q1 q2 q3 q4))).size == (strOf (encB (madeS r0 r1 r2 r3 r4))).size) = hlen) (w : World) (hT : Tabs w) :
    Calls Tryd.prog 8 #[.agg #[.int .i64 q0, .int .i64 q1, .int .i64 q2, .int .i64 q3, .int .i64 q4], .agg #[.int .i64 r0, .int .i64 r1, .int .i64 r2, .int .i64 r3, .int .i64 r4]] w fun e w' => e = .returned (.bool true) ∧ Below w.heap.size w w' := by
  have hi := made_ok q0 q1 q2 q3 q4
  have hv := made_valid q0 q1 q2 q3 q4
  have hj := made_ok r0 r1 r2 r3 r4
  have hu := made_valid r0 r1 r2 r3 r4
  have HMi := Lib.hid (fun W => made_any q0 q1 q2 q3 q4 W)
  have HMj := Lib.hid (fun W => made_any r0 r1 r2 r3 r4 W)
  generalize madeS q0 q1 q2 q3 q4 = i at *
  generalize madeS r0 r1 r2 r3 r4 = j at *
  obtain ⟨-, ei, li⟩ := enc_valid i hi hv
  obtain ⟨-, ej, lj⟩ := enc_valid j hj hu
  have zi := valid_size_bd hi hv
  have zj := valid_size_bd hj hu
  have si : (strOf (encB i)).size = (encB i).length := strOf_size _
  have sj : (strOf (encB j)).size = (encB j).length := strOf_size _
  have hA : (strOf (encB i)).size ≤ 7 := by omega
  have hA2 : (strOf (encB j)).size ≤ 7 := by omega
  have hsi : ((strOf (encB i)).size : Int) = i.size := by omega
  have HD := Lib.hid (fun (k : Nat) (hk : k < (strOf (encB i)).size) => dec_short i hi hv ((strOf (encB i)).extract 0 k) (by rw [size_extract0 _ _ (by omega)]; omega) (fun m hm => by rw [size_extract0 _ _ (by omega)] at hm; exact byt_extract _ _ _ hm))
  have HEi := Lib.hid (fun W => encode_any i hi W)
  have HEj := Lib.hid (fun W => encode_any j hj W)
  have EI := Lib.hid ei
  have EJ := Lib.hid ej
  have HNP := Lib.hid (fun n hn hne => no_prefix i j hi hj hv hu n hn hne)
  have HT := Lib.hid hT
  have HLN := Lib.hid hl
  have hb0 : Below w.heap.size w ((w.alloc (.cells #[.int .i64 q0, .int .i64 q1, .int .i64 q2, .int .i64 q3, .int .i64 q4] 25)).alloc (.cells #[.int .i64 r0, .int .i64 r1, .int .i64 r2, .int .i64 r3, .int .i64 r4] 25)) := ((Below.refl _ _).alloc (Nat.le_refl _) _).alloc (by simp) _
  have HB := Lib.hid hb0
  have HQ := Lib.hid ((heap_alloc_old _ (.cells #[.int .i64 r0, .int .i64 r1, .int .i64 r2, .int .i64 r3, .int .i64 r4] 25) (by simp : w.heap.size < _)).trans (heap_alloc_new w (.cells #[.int .i64 q0, .int .i64 q1, .int .i64 q2, .int .i64 q3, .int .i64 q4] 25)))
  have HR := Lib.hid (news_row (w.alloc (.cells #[.int .i64 q0, .int .i64 q1, .int .i64 q2, .int .i64 q3, .int .i64 q4] 25)) (.cells #[.int .i64 r0, .int .i64 r1, .int .i64 r2, .int .i64 r3, .int .i64 r4] 25) (by simp : _ = w.heap.size + 1))
  clear hT hl ei ej li lj si sj hsi hi hj hv hu zi zj hb0
  generalize strOf (encB i) = s at *
  generalize strOf (encB j) = t at *
  have he := eql_ins
  go_enter Tryd.func8, Tryd.ntmps8
  go_upto_region 2 with (go_at_call 15; refine (sanity_any _ (HT.out.stay HB.out)).mono ?_; rintro e w1 ⟨rfl, hb1⟩; replace HQ := Lib.hid ((hb1.block _ (by simp <;> omega)).trans HQ.out); replace HR := Lib.hid ((hb1.block _ (by simp)).trans HR.out); replace HB := Lib.hid (HB.out.trans (hb1.mono HB.out.size)); have hz1 := hb1.size; simp at hz1; clear hb1)
  go_upto_region 3 with (first
    | (refine wpList_load_row rfl _ (.tmp 2) rfl _ rfl _ _ _ _ HQ.out Tryd.underlying25 rfl ?_ ?_; kernel_rfl)
    | (go_at_call 16; refine (HMi.out _).mono ?_; rintro e w2 ⟨rfl, hb2⟩; replace HR := Lib.hid ((hb2.block _ (by omega)).trans HR.out); replace HB := Lib.hid (HB.out.trans (hb2.mono HB.out.size)); have hz2 := hb2.size; clear hb2)
    | (go_at_call 18; refine (HEi.out _).mono ?_; rintro e w3 ⟨rfl, hb3⟩; rw [EI.out]; replace HR := Lib.hid ((hb3.block _ (by omega)).trans HR.out); replace HB := Lib.hid (HB.out.trans (hb3.mono HB.out.size)); clear hb3))
  go_upto_region 4 with (first
    | (refine wpList_load_row rfl _ (.tmp 3) rfl _ rfl _ _ _ _ HR.out Tryd.underlying25 rfl ?_ ?_; kernel_rfl)
    | (go_at_call 16; refine (HMj.out _).mono ?_; rintro e w4 ⟨rfl, hb4⟩; replace HB := Lib.hid (HB.out.trans (hb4.mono HB.out.size)); clear hb4)
    | (go_at_call 18; refine (HEj.out _).mono ?_; rintro e w5 ⟨rfl, hb5⟩; rw [EJ.out]; replace HB := Lib.hid (HB.out.trans (hb5.mono HB.out.size)); clear hb5))
  go_wp2_with fail
  go_loopw [10] (fun x wr => ∃ k : Nat, k ≤ s.size ∧ x = .int .i64 k ∧ Hid (Below w.heap.size w wr)) (fun x _ => s.size - (intOf x).toNat)
  case atStart => exact ⟨0, by omega, rfl, HB⟩
  case round =>
    obtain ⟨k, hk, rfl, HB⟩ := hrel
    by_cases hlt : k < s.size
    · obtain ⟨d1, d2⟩ := HD.out k hlt
      have D1 := Lib.hid d1
      have D2 := Lib.hid d2
      have hes : (s.extract 0 k).size ≤ 7 := by rw [size_extract0 _ _ (by omega)]; omega
      have HDE := Lib.hid (fun W => decode_any (s.extract 0 k) (by omega) W)
      clear d1 d2 hes
      go_upto_region 8 with (first
        | (go_at_call 22; refine (HDE.out _).mono ?_; rintro e w6 ⟨rfl, hb6⟩; rw [D1.out, D2.out]; replace HB := Lib.hid (HB.out.trans (hb6.mono HB.out.size)); clear hb6)
        | (refine wpList_store_row rfl _ _ _ rfl _ _ rfl rfl _ _ (heap_alloc_new _ _) ?_ ?_ ?_ ?_; kernel_rfl; rfl; kernel_rfl; rw [World.setRow_alloc_new]))
      have HJ := Lib.hid (heap_alloc_new w6 (.cells (insCells ins00) 24))
      have hcJ : ∀ o : Nat, (w6.alloc (.cells (insCells ins00) 24)).cell? ⟨w6.heap.size, o, none⟩ = (#[Value.int .i64 0, .int .i64 0, .int .i64 0, .int .u16 0, .int .u16 0, .int .i64 0, .int .i64 0] : Array Value)[o]? := fun o => cell_of_row _ w6.heap.size o _ _ _ HJ.out
      go_wp2_with fail
      go_roundw
      case rel => exact ⟨k + 1, by omega, by go_num, Lib.hid (HB.out.alloc HB.out.size _)⟩
      case measure => simp [intOf]; omega
    · have ek : k = s.size := by omega
      subst ek
      cases hlen with
      | true =>
        have hl : ((s.size : Int) == (t.size : Int)) = true := by have h := HLN.out; simp at h; simp [h]
        go_upto_region 11 with fail
        go_quiet (fail)
        go_wp2
        go_ret
        exact ⟨rfl, belowN HB.out _⟩
      | false =>
        have hl : ((s.size : Int) == (t.size : Int)) = false := by have h := HLN.out; simp at h; simp; omega
        have hne : s.size ≠ t.size := by have := HLN.out; simpa using this
        have hnp := HNP.out (min s.size t.size) rfl hne
        rcases Nat.lt_or_ge s.size t.size with hst | hst
        · have hmn : min (s.size : Int) (t.size : Int) = (s.size : Int) := by omega
          rw [Nat.min_eq_left (Nat.le_of_lt hst)] at hnp
          have hx : ¬ (s.extract 0 s.size).toList = (t.extract 0 s.size).toList := fun e => hnp (toList_inj e)
          have hx2 : ¬ s.toList = (t.extract 0 s.size).toList := by simpa using hx
          clear hne hnp
          go_upto_region 11 with fail
          go_quiet (fail)
          go_wp2
          go_ret
          exact ⟨by show Ending.returned (Value.bool (!(s.toList == (t.extract 0 s.size).toList))) = _; rw [beq_eq_false_iff_ne.2 hx2]; rfl, belowN HB.out _⟩
        · have hmn : min (s.size : Int) (t.size : Int) = (t.size : Int) := by omega
          rw [Nat.min_eq_right hst] at hnp
          have hx : ¬ (s.extract 0 t.size).toList = (t.extract 0 t.size).toList := fun e => hnp (toList_inj e)
          have hx2 : ¬ (s.extract 0 t.size).toList = t.toList := by simpa using hx
          clear hne hnp
          go_upto_region 11 with fail
          go_quiet (fail)
          go_wp2
          go_ret
          exact ⟨by show Ending.returned (Value.bool (!((s.extract 0 t.size).toList == t.toList))) = _; rw [beq_eq_false_iff_ne.2 hx2]; rfl, belowN HB.out _⟩

theorem prefix_any (q0 q1 q2 q3 q4 r0 r1 r2 r3 r4 : Int) (w : World) (hT : Tabs w) :
    Calls Tryd.prog 8 #[.agg #[.int .i64 q0, .int .i64 q1, .int .i64 q2, .int .i64 q3, .int .i64 q4], .agg #[.int .i64 r0, .int .i64 r1, .int .i64 r2, .int .i64 r3, .int .i64 r4]] w fun e w' => e = .returned (.bool true) ∧ Below w.heap.size w w' :=
  prefix_at q0 q1 q2 q3 q4 r0 r1 r2 r3 r4 _ rfl w hT

end Go.Proofs.YtakahmhbopakmaaDoor
