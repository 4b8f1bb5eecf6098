/- IsaSizes: walked. Condition: the library's tables read as the text lays them; the string is no longer than the form's reach. -/
import Derived.Test.YtakahmhbopakmaaDoorSane
import Derived.Test.YtakahmhbopakmaaDoorPlainA
set_option linter.all false
namespace Go.Proofs.YtakahmhbopakmaaDoor
open Go.RowKit

theorem rsize_zero' {op : Int} (h : fmtS op ≠ 0) : 1 ≤ rsizeS op := by
  have h2 := fmt_rng h
  rw [rsize_fmt]
  have : ∀ n : Nat, n ≤ 18 → 1 ≤ n → 1 ≤ rsizeTab.getD n 0 := by decide
  exact this _ (by omega) (by omega)
theorem rsizeS_le7 (op : Int) : sizeS op ≤ 7 := by
  rw [size_eq, rsize_fmt]
  have h := fmtS_bd op
  have : ∀ n : Nat, n ≤ 18 → rsizeTab.getD n 0 ≤ 7 := by decide
  exact this _ (by omega)
theorem byt_extract (t : ByteArray) (n k : Nat) (h : k < n) : byt (t.extract 0 n) k = byt t k := by
  unfold byt
  have e1 : (t.extract 0 n).data.toList = t.data.toList.take n := by rw [ByteArray.data_extract]; simp
  rw [e1, List.getD_eq_getElem?_getD, List.getD_eq_getElem?_getD, List.getElem?_take_of_lt h]
theorem size_extract0 (t : ByteArray) (n : Nat) (h : n ≤ t.size) : (t.extract 0 n).size = n := by simp [ByteArray.size_extract]; omega
def szn (k : Nat) : Nat := if sizeS (k : Int) < 1 then 1 else (sizeS (k : Int)).toNat
theorem szn_bd (k : Nat) : 1 ≤ szn k ∧ szn k ≤ 7 := by
  have := sizeS_bd (k : Int)
  have h2 := rsizeS_le7 (k : Int)
  unfold szn; split <;> omega
theorem sizes_law (k : Nat) (hk : k < 256) (M : ByteArray) (hM : 6 ≤ M.size) : (decE ((strOf [(k : Int)] ++ M).extract 0 (szn k)) == 10) = false ∧ (sizeS (k : Int) = 0 → decE ((strOf [(k : Int)] ++ M).extract 0 (szn k)) = 11) := by
  have hs1 : (strOf [(k : Int)]).size = 1 := strOf_size _
  have hb := szn_bd k
  have hsz : ((strOf [(k : Int)] ++ M).extract 0 (szn k)).size = szn k := size_extract0 _ _ (by rw [ByteArray.size_append, hs1]; omega)
  have hop : byt ((strOf [(k : Int)] ++ M).extract 0 (szn k)) 0 = (k : Int) := by
    rw [byt_extract _ _ _ (by omega), byt_append _ _ _ (by omega)]
    exact byt_in _ 0 _ rfl (by omega) (by omega)
  unfold decE
  rw [if_neg (by omega), hop, hsz]
  by_cases hf : fmtS (k : Int) = 0
  · rw [fOf_zero hf]
    exact ⟨rfl, fun _ => rfl⟩
  · rw [(fOf_some hf).1, if_pos rfl]
    have h1 := rsize_zero' hf
    have h2 := size_eq (k : Int)
    have : ¬ ((szn k : Int) < sizeS (k : Int)) := by unfold szn; split <;> omega
    rw [if_neg this]
    refine ⟨?_, fun h => by omega⟩
    split <;> rfl

set_option maxRecDepth 100000 in
set_option maxHeartbeats 4000000 in
theorem sizes_any (more : ByteArray) (hm : more.size ≤ 140737488351232) (w : World) (hT : Tabs w) :
    Calls Tryd.prog 7 #[.string more] w fun e w' => e = .returned (.bool true) ∧ Below w.heap.size w w' := by
  have HT := Lib.hid hT
  clear hT
  go_enter Tryd.func7, Tryd.ntmps7
  go_upto_region 2 with (go_at_call 15; refine (sanity_any _ HT.out).mono ?_; rintro e w1 ⟨rfl, hb1⟩; have HB := Lib.hid hb1; clear hb1)
  have hcat : (more ++ (⟨#[0, 0, 0, 0, 0, 0]⟩ : ByteArray)).size = more.size + 6 := ByteArray.size_append
  go_upto_region 3 with fail
  have hM : (more ++ (⟨#[0, 0, 0, 0, 0, 0]⟩ : ByteArray)).size ≤ 140737488351238 := by omega
  have hM6 : 6 ≤ (more ++ (⟨#[0, 0, 0, 0, 0, 0]⟩ : ByteArray)).size := by omega
  clear hcat
  generalize more ++ (⟨#[0, 0, 0, 0, 0, 0]⟩ : ByteArray) = M at *
  go_wp2_with fail
  go_loopw [4] (fun x wr => ∃ k : Nat, k ≤ 256 ∧ x = .int .i64 k ∧ Hid (Below w.heap.size w wr)) (fun x _ => 256 - (intOf x).toNat)
  case atStart => exact ⟨0, by omega, rfl, HB⟩
  case round =>
    obtain ⟨k, hk, rfl, HB⟩ := hrel
    by_cases hlt : k < 256
    · have hb8 := szn_bd k
      have hsb := sizeS_bd (k : Int)
      have hr7 := rsizeS_le7 (k : Int)
      have hse := size_eq (k : Int)
      obtain ⟨hl1, hl2⟩ := sizes_law k hlt M hM6
      have hs1 : (strOf [(k : Int)]).size = 1 := strOf_size _
      have hcat : (strOf [(k : Int)] ++ M).size = (strOf [(k : Int)]).size + M.size := ByteArray.size_append
      have hes : ((strOf [(k : Int)] ++ M).extract 0 (szn k)).size ≤ 7 := by rw [size_extract0 _ _ (by omega)]; omega
      have HD := Lib.hid (fun W => decode_any ((strOf [(k : Int)] ++ M).extract 0 (szn k)) (by omega) W)
      have hku : IntKind.u8.wrap (k : Int) = k := IntWalk.u8_in _ (by omega)
      have hcv := fun W : World => run_conv_row (P := Tryd.prog) (W.alloc (.cells #[.int .u8 k] 5)) 36 9 5 Tryd.underlying36 Tryd.underlying5 Tryd.underlying9 _ 1 W.heap.size [(k : Int)] (World.ownsRow_lit (base := W.heap.size) (size := 1) (e := 5) W #[.int .u8 k] 1 (Nat.le_refl _) (by decide) rfl)
      have HL1 := Lib.hid hl1
      have HL2 := Lib.hid hl2
      have HSE := Lib.hid hse
      have hmax : max (sizeS (k : Int)) 1 = (szn k : Int) := by unfold szn; split <;> omega
      have HMAX := Lib.hid hmax
      have hs1a : 1 ≤ (strOf [(k : Int)]).size := by omega
      have hs1b : (strOf [(k : Int)]).size ≤ 1 := by omega
      clear hl1 hl2 hse hs1 hmax
      go_upto_region 9 with (first
        | (go_at_call 24; refine (size_any (k : Int) (by omega) (by omega) _).mono ?_; rintro e w2 ⟨rfl, hb2⟩; replace HB := Lib.hid (HB.out.trans (hb2.mono HB.out.size)); clear hb2)
        | (go_at_call 25; refine (rsize_any (k : Int) (by omega) (by omega) _).mono ?_; rintro e w3 ⟨rfl, hb3⟩; rw [← HSE.out]; replace HB := Lib.hid (HB.out.trans (hb3.mono HB.out.size)); clear hb3))
      have hcw := hcv w3
      clear hcv
      have hmx := HMAX.out
      go_upto_region 10 with (first
        | (go_at_call 22; refine (HD.out _).mono ?_; rintro e w4 ⟨rfl, hb4⟩; replace HB := Lib.hid ((HB.out.alloc HB.out.size _).trans (hb4.mono (by have := HB.out.size; simp <;> omega))); clear hb4)
        | (refine wpList_store_row rfl _ _ _ rfl _ _ rfl rfl _ _ (heap_alloc_new _ _) ?_ ?_ ?_ ?_; kernel_rfl; rfl; kernel_rfl; rw [World.setRow_alloc_new]))
      clear hcw hmx hcat hes
      have hl1 := HL1.out
      by_cases hz : sizeS (k : Int) = 0
      · have h11 := HL2.out hz
        have hzb : (sizeS (k : Int) == 0) = true := by simp [hz]
        have h11b : (decE ((strOf [(k : Int)] ++ M).extract 0 (szn k)) != 11) = false := by simp [h11]
        clear h11 hz
        go_wp2
        go_roundw
        case rel => exact ⟨k + 1, by omega, by go_num, Lib.hid (HB.out.alloc HB.out.size _)⟩
        case measure => simp [intOf]; omega
      · have hzb : (sizeS (k : Int) == 0) = false := by simpa using hz
        clear hz
        go_wp2
        go_roundw
        case rel => exact ⟨k + 1, by omega, by go_num, Lib.hid (HB.out.alloc HB.out.size _)⟩
        case measure => simp [intOf]; omega
    · have ek : k = 256 := by omega
      subst ek
      go_wp2
      go_ret
      exact ⟨rfl, HB.out⟩

end Go.Proofs.YtakahmhbopakmaaDoor
