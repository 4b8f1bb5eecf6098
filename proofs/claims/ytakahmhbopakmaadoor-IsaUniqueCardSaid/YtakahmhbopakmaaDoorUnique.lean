/- IsaUnique: walked. Condition: the library's tables read as the text lays them; the string is no longer than the form's reach. -/
import Derived.Test.YtakahmhbopakmaaDoorSane
import Derived.Test.YtakahmhbopakmaaDoorPlainA
set_option linter.all false
namespace Go.Proofs.YtakahmhbopakmaaDoor
open Go.RowKit

theorem str_pre (s t : ByteArray) (h : s.size ≤ t.size) (hk : ∀ k, k < s.size → byt s k = byt t k) : t.extract 0 s.size = s := by
  apply ByteArray.ext
  apply Array.ext'
  apply List.ext_getElem?
  intro k
  have e1 : (t.extract 0 s.size).data.toList = t.data.toList.take s.size := by rw [ByteArray.data_extract]; simp
  rw [e1, List.getElem?_take]
  by_cases hlt : k < s.size
  · rw [if_pos hlt]
    have h1 := hk k hlt
    unfold byt at h1
    have k1 : k < s.data.toList.length := by rw [Array.length_toList]; exact hlt
    have k2 : k < t.data.toList.length := by rw [Array.length_toList]; exact Nat.lt_of_lt_of_le hlt h
    have a1 : s.data.toList[k]? = some (s.data.toList[k]'k1) := List.getElem?_eq_getElem k1
    have a2 : t.data.toList[k]? = some (t.data.toList[k]'k2) := List.getElem?_eq_getElem k2
    rw [List.getD_eq_getElem?_getD, List.getD_eq_getElem?_getD, a1, a2] at h1
    rw [a1, a2]
    simp only [Option.getD_some] at h1
    congr 1
    apply UInt8.toNat_inj.1
    omega
  · rw [if_neg hlt]
    symm
    apply List.getElem?_eq_none
    simpa using Nat.le_of_not_lt hlt

set_option maxRecDepth 100000 in
set_option maxHeartbeats 2000000 in
theorem unique_bad (n : Int) (n0 : 0 ≤ n) (n1 : n < 256) (more : ByteArray) (hm : more.size ≤ 140737488351232) (c : Int) (hc : c = 10 ∨ c = 11) (hE : decE (strOf [n] ++ more) = c) (hI : decI (strOf [n] ++ more) = ins00) (w : World) (hT : Tabs w) :
    Calls Tryd.prog 6 #[.int .u8 n, .string more] w fun e w' => e = .returned (.bool true) ∧ Below w.heap.size w w' := by
  have hs1 : (strOf [n]).size = 1 := strOf_size _
  have hcat : (strOf [n] ++ more).size = (strOf [n]).size + more.size := ByteArray.size_append
  have HD := Lib.hid (fun W => decode_any (strOf [n] ++ more) (by omega) W)
  have hcv := fun W : World => run_conv_row (P := Tryd.prog) (W.alloc (.cells #[.int .u8 n] 5)) 36 9 5 Tryd.underlying36 Tryd.underlying5 Tryd.underlying9 _ 1 W.heap.size [n] (World.ownsRow_lit (base := W.heap.size) (size := 1) (e := 5) W #[.int .u8 n] 1 (Nat.le_refl _) (by decide) rfl)
  have D1 := Lib.hid hE
  have D2 := Lib.hid hI
  have HT := Lib.hid hT
  have hA : (strOf [n]).size ≤ 7 := by omega
  clear hT hE hI hs1 hcat
  have he := eql_ins
  rcases hc with rfl | rfl
  all_goals
    go_enter Tryd.func6, Tryd.ntmps6
    go_upto_region 2 with (go_at_call 15; refine (sanity_any _ HT.out).mono ?_; rintro e w1 ⟨rfl, hb1⟩; have HB := Lib.hid hb1; clear hb1)
    have hcw := hcv w1
    clear hcv
    go_upto_region 3 with fail
    clear hcw
    replace HB := Lib.hid (HB.out.alloc HB.out.size (.cells #[.int .u8 n] 5))
    generalize strOf [n] = s at *
    go_upto_region 4 with (first
      | (go_at_call 22; refine (HD.out _).mono ?_; rintro e w4 ⟨rfl, hb4⟩; rw [D1.out, D2.out]; replace HB := Lib.hid (HB.out.trans (hb4.mono HB.out.size)); clear hb4)
      | (refine wpList_store_row rfl _ _ _ rfl _ _ rfl rfl _ _ (heap_alloc_new _ _) ?_ ?_ ?_ ?_; kernel_rfl; rfl; kernel_rfl; rw [World.setRow_alloc_new]))
    have HJ := Lib.hid (heap_alloc_new w4 (.cells (insCells ins00) 24))
    replace HB := Lib.hid (HB.out.alloc HB.out.size (.cells (insCells ins00) 24))
    have hcJ : ∀ o : Nat, (w4.alloc (.cells (insCells ins00) 24)).cell? ⟨w4.heap.size, o, none⟩ = (#[Value.int .i64 0, .int .i64 0, .int .i64 0, .int .u16 0, .int .u16 0, .int .i64 0, .int .i64 0] : Array Value)[o]? := fun o => cell_of_row _ w4.heap.size o _ _ _ HJ.out
    go_wp2_with fail
    go_ret
    exact ⟨rfl, HB.out⟩

set_option maxRecDepth 100000 in
set_option maxHeartbeats 2000000 in
theorem unique_good (n : Int) (n0 : 0 ≤ n) (n1 : n < 256) (more : ByteArray) (hm : more.size ≤ 140737488351232) (hE : decE (strOf [n] ++ more) = 0) (w : World) (hT : Tabs w) :
    Calls Tryd.prog 6 #[.int .u8 n, .string more] w fun e w' => e = .returned (.bool true) ∧ Below w.heap.size w w' := by
  have hs1 : (strOf [n]).size = 1 := strOf_size _
  have hcat : (strOf [n] ++ more).size = (strOf [n]).size + more.size := ByteArray.size_append
  have HD := Lib.hid (fun W => decode_any (strOf [n] ++ more) (by omega) W)
  have hcv := fun W : World => run_conv_row (P := Tryd.prog) (W.alloc (.cells #[.int .u8 n] 5)) 36 9 5 Tryd.underlying36 Tryd.underlying5 Tryd.underlying9 _ 1 W.heap.size [n] (World.ownsRow_lit (base := W.heap.size) (size := 1) (e := 5) W #[.int .u8 n] 1 (Nat.le_refl _) (by decide) rfl)
  obtain ⟨hi, hv, hle, hk⟩ := dec_unique _ hE
  obtain ⟨-, e2, e3⟩ := enc_valid _ hi hv
  generalize hIg : decI (strOf [n] ++ more) = i at *
  have hsz : (strOf (encB i)).size = (encB i).length := strOf_size _
  have hpre := str_pre (strOf (encB i)) (strOf [n] ++ more) (by omega) (fun k hk' => hk k (by omega))
  have hcmp : (i.size == ((strOf (encB i)).size : Int)) = true := by rw [hsz, e3]; simp
  have hle' : (strOf (encB i)).size ≤ (strOf [n] ++ more).size := by omega
  have HE := Lib.hid (fun W => encode_any i hi W)
  have HVA := Lib.hid (fun W => valid_any i hi W)
  have HV := Lib.hid hv
  have E2 := Lib.hid e2
  have D1 := Lib.hid hE
  have HP := Lib.hid hpre
  have HT := Lib.hid hT
  have hA : (strOf [n]).size ≤ 7 := by omega
  have hzz := valid_size_bd hi hv
  have hEs : (strOf (encB i)).size ≤ 7 := by omega
  clear hT hE hIg hs1 hk hi hv hle e2 e3 hsz hpre hzz
  have he := eql_ins
  go_enter Tryd.func6, Tryd.ntmps6
  go_upto_region 2 with (go_at_call 15; refine (sanity_any _ HT.out).mono ?_; rintro e w1 ⟨rfl, hb1⟩; have HB := Lib.hid hb1; clear hb1)
  have hcw := hcv w1
  clear hcv
  go_upto_region 3 with fail
  clear hcw
  replace HB := Lib.hid (HB.out.alloc HB.out.size (.cells #[.int .u8 n] 5))
  generalize strOf [n] ++ more = t at *
  generalize strOf (encB i) = s at *
  go_upto_region 4 with (first
    | (go_at_call 22; refine (HD.out _).mono ?_; rintro e w4 ⟨rfl, hb4⟩; rw [D1.out]; replace HB := Lib.hid (HB.out.trans (hb4.mono HB.out.size)); clear hb4)
    | (refine wpList_store_row rfl _ _ _ rfl _ _ rfl rfl _ _ (heap_alloc_new _ _) ?_ ?_ ?_ ?_; kernel_rfl; rfl; kernel_rfl; rw [World.setRow_alloc_new]))
  have HJ := Lib.hid (heap_alloc_new w4 (.cells (insCells i) 24))
  replace HB := Lib.hid (HB.out.alloc HB.out.size (.cells (insCells i) 24))
  go_upto_region 7 with (first
    | (refine wpList_load_row rfl _ (.tmp 7) rfl _ rfl _ (insCells i) _ _ HJ.out Tryd.underlying24 rfl ?_ ?_; kernel_rfl)
    | (go_at_call 18; refine (HE.out _).mono ?_; rintro e w5 ⟨rfl, hb5⟩; rw [E2.out]; replace HJ := Lib.hid ((hb5.block _ (by simp)).trans HJ.out); replace HB := Lib.hid (HB.out.trans (hb5.mono HB.out.size)); have hz5 := hb5.size; simp at hz5; clear hb5))
  have hp := HP.out
  have hmn : min ((s.size : Nat) : Int) (((strOf [n]).size : Int) + (more.size : Int)) = (s.size : Int) := by omega
  have hcJ : ∀ o : Nat, w5.cell? ⟨w4.heap.size, o, none⟩ = (#[Value.int .i64 i.op, .int .i64 i.d, .int .i64 i.s, .int .u16 i.imm, .int .u16 i.aux, .int .i64 i.bank, .int .i64 i.size] : Array Value)[o]? := fun o => cell_of_row _ w4.heap.size o _ _ _ HJ.out
  go_wp2_with (go_at_call 20; refine (HVA.out _).mono ?_; rintro e w6 ⟨rfl, hb6⟩; rw [HV.out]; replace HJ := Lib.hid ((hb6.block _ hz5).trans HJ.out); replace HB := Lib.hid (HB.out.trans (hb6.mono HB.out.size)); clear hcJ; have hcJ : ∀ o : Nat, w6.cell? ⟨w4.heap.size, o, none⟩ = (#[Value.int .i64 i.op, .int .i64 i.d, .int .i64 i.s, .int .u16 i.imm, .int .u16 i.aux, .int .i64 i.bank, .int .i64 i.size] : Array Value)[o]? := fun o => cell_of_row _ w4.heap.size o _ _ _ HJ.out; clear hb6)
  go_ret
  exact ⟨rfl, HB.out⟩

theorem unique_any (n : Int) (n0 : 0 ≤ n) (n1 : n < 256) (more : ByteArray) (hm : more.size ≤ 140737488351232) (w : World) (hT : Tabs w) :
    Calls Tryd.prog 6 #[.int .u8 n, .string more] w fun e w' => e = .returned (.bool true) ∧ Below w.heap.size w w' := by
  rcases dec_codes (strOf [n] ++ more) with h | ⟨h, h2⟩
  · exact unique_good n n0 n1 more hm h w hT
  · exact unique_bad n n0 n1 more hm _ h rfl h2 w hT

end Go.Proofs.YtakahmhbopakmaaDoor
