/- IsaDecodes: walked. Condition: the library's tables read as the text lays them; the string is no longer than the form's reach. -/
import Derived.Test.YtakahmhbopakmaaDoorSane
import Derived.Test.YtakahmhbopakmaaDoorRFldB
import Derived.Test.YtakahmhbopakmaaDoorSizes
set_option linter.all false
namespace Go.Proofs.YtakahmhbopakmaaDoor
open Go.RowKit

set_option maxRecDepth 100000 in
set_option maxHeartbeats 4000000 in
theorem decodes_any (s : ByteArray) (hs : s.size ≤ 140737488351232) (f : Int) (f0 : 0 ≤ f) (f1 : f < 256) (w : World) (hT : Tabs w) :
    Calls Tryd.prog 4 #[.string s, .int .u8 f] w fun e w' => e = .returned (.bool true) ∧ Below w.heap.size w w' := by
  obtain ⟨n, hn⟩ : ∃ n : Nat, min (s.size : Int) 9 = n := ⟨min s.size 9, by omega⟩
  have hn1 : n ≤ s.size := by omega
  have hn2 : n ≤ 9 := by omega
  have hSz : (s.extract 0 n).size = n := size_extract0 _ _ hn1
  have hs1 : (strOf [f]).size = 1 := strOf_size _
  have hcat : (strOf [f] ++ s.extract 0 n).size = (strOf [f]).size + (s.extract 0 n).size := ByteArray.size_append
  have hA : (strOf [f]).size ≤ 1 := by omega
  have hB' : (s.extract 0 n).size ≤ 9 := by omega
  have hC : (strOf [f] ++ s.extract 0 n).size ≤ 10 := by omega
  have hcv := fun W : World => run_conv_row (P := Tryd.prog) (W.alloc (.cells #[.int .u8 f] 5)) 36 9 5 Tryd.underlying36 Tryd.underlying5 Tryd.underlying9 _ 1 W.heap.size [f] (World.ownsRow_lit (base := W.heap.size) (size := 1) (e := 5) W #[.int .u8 f] 1 (Nat.le_refl _) (by decide) rfl)
  have HT := Lib.hid hT
  clear hT hSz hs1 hcat
  go_enter Tryd.func4, Tryd.ntmps4
  go_upto_region 2 with (go_at_call 15; refine (sanity_any _ HT.out).mono ?_; rintro e w1 ⟨rfl, hb1⟩; have HB := Lib.hid hb1; clear hb1)
  have hcw := hcv w1
  clear hcv
  go_upto_region 3 with fail
  clear hn hn1 hn2
  generalize s.extract 0 n = S at *
  go_upto_region 4 with (first | (refine wpList_store_row rfl _ _ _ rfl _ _ rfl rfl _ _ (heap_alloc_new _ _) ?_ ?_ ?_ ?_; kernel_rfl; rfl; kernel_rfl; rw [World.setRow_alloc_new]))
  clear hcw
  generalize strOf [f] ++ S = T at *
  have hbb := (HB.out.alloc HB.out.size (.cells #[.int .u8 f] 5)).alloc (by have := HB.out.size; simp <;> omega) (.cells #[.string S, .string T] 37)
  have HBB := Lib.hid hbb
  have HL := Lib.hid (news_row (w1.alloc (.cells #[.int .u8 f] 5)) (.cells #[.string S, .string T] 37) (by simp : _ = w1.heap.size + 1))
  clear hbb
  have hzl : w1.heap.size + 1 < ((w1.alloc (.cells #[.int .u8 f] 5)).alloc (.cells #[.string S, .string T] 37)).heap.size := by simp
  go_wp2_with fail
  go_loopw [7] (fun x wr => ∃ k : Nat, k ≤ 2 ∧ x = .int .i64 k ∧ Hid (Below w.heap.size w wr) ∧ Hid (wr.heap[w1.heap.size + 1]? = some (.cells #[.string S, .string T] 37 (0, 0))) ∧ w1.heap.size + 1 < wr.heap.size) (fun x _ => 2 - (intOf x).toNat)
  case atStart => exact ⟨0, by omega, rfl, HBB, HL, hzl⟩
  case round =>
    obtain ⟨k, hk, rfl, HB2, HL2, hz2⟩ := hrel
    clear HBB HL hzl HB
    have hcl := fun o : Nat => cell_of_row wr (w1.heap.size + 1) o _ _ _ HL2.out
    have hks : k = 0 ∨ k = 1 ∨ k = 2 := by omega
    rcases hks with rfl | rfl | rfl
    · have HD := Lib.hid (fun W => decode_any S (by omega) W)
      have HR := Lib.hid (fun W => rdecode_any S (by omega) W)
      go_upto_region 8 with (first
        | (go_at_call 22; refine (HD.out _).mono ?_; rintro e w2 ⟨rfl, hb2⟩; replace HB2 := Lib.hid (HB2.out.trans (hb2.mono HB2.out.size)); replace HL2 := Lib.hid ((hb2.block _ hz2).trans HL2.out); have hz3 := Nat.lt_of_lt_of_le hz2 hb2.size; clear hb2)
        | (refine wpList_store_row rfl _ _ _ rfl _ _ rfl rfl _ _ (heap_alloc_new _ _) ?_ ?_ ?_ ?_; kernel_rfl; rfl; kernel_rfl; rw [World.setRow_alloc_new]))
      have HI := Lib.hid (heap_alloc_new w2 (.cells (insCells (decI S)) 24))
      replace HL2 := Lib.hid ((heap_alloc_old w2 (.cells (insCells (decI S)) 24) hz3).trans HL2.out)
      replace HB2 := Lib.hid (HB2.out.alloc HB2.out.size (.cells (insCells (decI S)) 24))
      clear hcl
      have hcl := fun o : Nat => cell_of_row _ (w1.heap.size + 1) o _ _ _ HL2.out
      go_upto_region 9 with (first
        | (go_at_call 23; refine (HR.out _).mono ?_; rintro e w3 ⟨rfl, hb3⟩; replace HB2 := Lib.hid (HB2.out.trans (hb3.mono HB2.out.size)); replace HL2 := Lib.hid ((hb3.block _ (by simp <;> omega)).trans HL2.out); replace HI := Lib.hid ((hb3.block _ (by simp)).trans HI.out); have hz4 := hb3.size; simp at hz4; clear hb3)
        | (refine wpList_store_row rfl _ _ _ rfl _ _ rfl rfl _ _ (heap_alloc_new _ _) ?_ ?_ ?_ ?_; kernel_rfl; rfl; kernel_rfl; rw [World.setRow_alloc_new]))
      clear hcl
      have HJ := Lib.hid (heap_alloc_new w3 (.cells (insCells (decI S)) 24))
      replace HI := Lib.hid ((heap_alloc_old w3 (.cells (insCells (decI S)) 24) (by omega : w2.heap.size < w3.heap.size)).trans HI.out)
      replace HL2 := Lib.hid ((heap_alloc_old w3 (.cells (insCells (decI S)) 24) (by omega : w1.heap.size + 1 < w3.heap.size)).trans HL2.out)
      replace HB2 := Lib.hid (HB2.out.alloc HB2.out.size (.cells (insCells (decI S)) 24))
      have hcI : ∀ o : Nat, (w3.alloc (.cells (insCells (decI S)) 24)).cell? ⟨w2.heap.size, o, none⟩ = (#[Value.int .i64 (decI S).op, .int .i64 (decI S).d, .int .i64 (decI S).s, .int .u16 (decI S).imm, .int .u16 (decI S).aux, .int .i64 (decI S).bank, .int .i64 (decI S).size] : Array Value)[o]? := fun o => cell_of_row _ w2.heap.size o _ _ _ HI.out
      have hcJ : ∀ o : Nat, (w3.alloc (.cells (insCells (decI S)) 24)).cell? ⟨w3.heap.size, o, none⟩ = (#[Value.int .i64 (decI S).op, .int .i64 (decI S).d, .int .i64 (decI S).s, .int .u16 (decI S).imm, .int .u16 (decI S).aux, .int .i64 (decI S).bank, .int .i64 (decI S).size] : Array Value)[o]? := fun o => cell_of_row _ w3.heap.size o _ _ _ HJ.out
      go_wp2_with fail
      go_roundw
      case rel => exact ⟨1, by omega, by go_num, HB2, HL2, by simp <;> omega⟩
      case measure => simp [intOf]
    · have HD := Lib.hid (fun W => decode_any T (by omega) W)
      have HR := Lib.hid (fun W => rdecode_any T (by omega) W)
      go_upto_region 8 with (first
        | (go_at_call 22; refine (HD.out _).mono ?_; rintro e w2 ⟨rfl, hb2⟩; replace HB2 := Lib.hid (HB2.out.trans (hb2.mono HB2.out.size)); replace HL2 := Lib.hid ((hb2.block _ hz2).trans HL2.out); have hz3 := Nat.lt_of_lt_of_le hz2 hb2.size; clear hb2)
        | (refine wpList_store_row rfl _ _ _ rfl _ _ rfl rfl _ _ (heap_alloc_new _ _) ?_ ?_ ?_ ?_; kernel_rfl; rfl; kernel_rfl; rw [World.setRow_alloc_new]))
      have HI := Lib.hid (heap_alloc_new w2 (.cells (insCells (decI T)) 24))
      replace HL2 := Lib.hid ((heap_alloc_old w2 (.cells (insCells (decI T)) 24) hz3).trans HL2.out)
      replace HB2 := Lib.hid (HB2.out.alloc HB2.out.size (.cells (insCells (decI T)) 24))
      clear hcl
      have hcl := fun o : Nat => cell_of_row _ (w1.heap.size + 1) o _ _ _ HL2.out
      go_upto_region 9 with (first
        | (go_at_call 23; refine (HR.out _).mono ?_; rintro e w3 ⟨rfl, hb3⟩; replace HB2 := Lib.hid (HB2.out.trans (hb3.mono HB2.out.size)); replace HL2 := Lib.hid ((hb3.block _ (by simp <;> omega)).trans HL2.out); replace HI := Lib.hid ((hb3.block _ (by simp)).trans HI.out); have hz4 := hb3.size; simp at hz4; clear hb3)
        | (refine wpList_store_row rfl _ _ _ rfl _ _ rfl rfl _ _ (heap_alloc_new _ _) ?_ ?_ ?_ ?_; kernel_rfl; rfl; kernel_rfl; rw [World.setRow_alloc_new]))
      clear hcl
      have HJ := Lib.hid (heap_alloc_new w3 (.cells (insCells (decI T)) 24))
      replace HI := Lib.hid ((heap_alloc_old w3 (.cells (insCells (decI T)) 24) (by omega : w2.heap.size < w3.heap.size)).trans HI.out)
      replace HL2 := Lib.hid ((heap_alloc_old w3 (.cells (insCells (decI T)) 24) (by omega : w1.heap.size + 1 < w3.heap.size)).trans HL2.out)
      replace HB2 := Lib.hid (HB2.out.alloc HB2.out.size (.cells (insCells (decI T)) 24))
      have hcI : ∀ o : Nat, (w3.alloc (.cells (insCells (decI T)) 24)).cell? ⟨w2.heap.size, o, none⟩ = (#[Value.int .i64 (decI T).op, .int .i64 (decI T).d, .int .i64 (decI T).s, .int .u16 (decI T).imm, .int .u16 (decI T).aux, .int .i64 (decI T).bank, .int .i64 (decI T).size] : Array Value)[o]? := fun o => cell_of_row _ w2.heap.size o _ _ _ HI.out
      have hcJ : ∀ o : Nat, (w3.alloc (.cells (insCells (decI T)) 24)).cell? ⟨w3.heap.size, o, none⟩ = (#[Value.int .i64 (decI T).op, .int .i64 (decI T).d, .int .i64 (decI T).s, .int .u16 (decI T).imm, .int .u16 (decI T).aux, .int .i64 (decI T).bank, .int .i64 (decI T).size] : Array Value)[o]? := fun o => cell_of_row _ w3.heap.size o _ _ _ HJ.out
      go_wp2_with fail
      go_roundw
      case rel => exact ⟨2, by omega, by go_num, HB2, HL2, by simp <;> omega⟩
      case measure => simp [intOf]
    · go_wp2
      go_ret
      exact ⟨rfl, HB2.out⟩

end Go.Proofs.YtakahmhbopakmaaDoor
