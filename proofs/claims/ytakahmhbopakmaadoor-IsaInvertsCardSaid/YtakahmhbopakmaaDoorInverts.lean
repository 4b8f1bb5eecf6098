/- IsaInverts: walked. Condition: the library's tables read as the text lays them; the string is no longer than the form's reach. -/
import Derived.Test.YtakahmhbopakmaaDoorSane
import Derived.Test.YtakahmhbopakmaaDoorPlainA
import Derived.Test.YtakahmhbopakmaaDoorMadeC
set_option linter.all false
namespace Go.Proofs.YtakahmhbopakmaaDoor
open Go.RowKit

set_option maxRecDepth 100000 in
set_option maxHeartbeats 2000000 in
theorem inverts_any (q0 q1 q2 q3 q4 : Int) (more : ByteArray) (hm : more.size ≤ 140737488351232) (w : World) (hT : Tabs w) :
    Calls Tryd.prog 5 #[.agg #[.int .i64 q0, .int .i64 q1, .int .i64 q2, .int .i64 q3, .int .i64 q4], .string more] w fun e w' => e = .returned (.bool true) ∧ Below w.heap.size w w' := by
  have hi := made_ok q0 q1 q2 q3 q4
  have hv := made_valid q0 q1 q2 q3 q4
  obtain ⟨-, e2, e3⟩ := enc_valid _ hi hv
  obtain ⟨d1, d2⟩ := dec_enc _ hi hv more
  have HMade := Lib.hid (fun W => made_any q0 q1 q2 q3 q4 W)
  have hzz := valid_size_bd hi hv
  generalize madeS q0 q1 q2 q3 q4 = i at *
  have hsz : (strOf (encB i)).size = (encB i).length := strOf_size _
  have hA : (strOf (encB i)).size ≤ 7 := by omega
  have hcmp : (((strOf (encB i)).size : Int) == i.size) = true := by rw [hsz, e3]; simp
  have hcat : (strOf (encB i) ++ more).size = (strOf (encB i)).size + more.size := ByteArray.size_append
  have HD := Lib.hid (fun W => decode_any (strOf (encB i) ++ more) (by omega) W)
  have HE := Lib.hid (fun W => encode_any i hi W)
  have E2 := Lib.hid e2
  have D1 := Lib.hid d1
  have D2 := Lib.hid d2
  have HT := Lib.hid hT
  have HQ := Lib.hid (heap_alloc_new w (.cells #[.int .i64 q0, .int .i64 q1, .int .i64 q2, .int .i64 q3, .int .i64 q4] 25))
  have hb0 : Below w.heap.size w (w.alloc (.cells #[.int .i64 q0, .int .i64 q1, .int .i64 q2, .int .i64 q3, .int .i64 q4] 25)) := (Below.refl _ _).alloc (Nat.le_refl _) _
  have HB := Lib.hid hb0
  clear hT d1 d2 e2 e3 hsz hi hv hzz hb0 hcat
  generalize strOf (encB i) = s at *
  go_enter Tryd.func5, Tryd.ntmps5
  go_upto_region 2 with (go_at_call 15; refine (sanity_any _ (HT.out.stay HB.out)).mono ?_; rintro e w1 ⟨rfl, hb1⟩; replace HQ := Lib.hid ((hb1.block _ (by simp)).trans HQ.out); replace HB := Lib.hid (HB.out.trans (hb1.mono HB.out.size)); have hz1 := hb1.size; simp at hz1; clear hb1)
  go_upto_region 3 with (first
    | (refine wpList_load_row rfl _ (.tmp 2) rfl _ rfl _ _ _ _ HQ.out Tryd.underlying25 rfl ?_ ?_; kernel_rfl)
    | (go_at_call 16; refine (HMade.out _).mono ?_; rintro e w2 ⟨rfl, hb2⟩; replace HB := Lib.hid (HB.out.trans (hb2.mono HB.out.size)); clear hb2)
    | (refine wpList_store_row rfl _ _ _ rfl _ _ rfl rfl _ _ (heap_alloc_new _ _) ?_ ?_ ?_ ?_; kernel_rfl; rfl; kernel_rfl; rw [World.setRow_alloc_new]))
  have HI := Lib.hid (heap_alloc_new w2 (.cells (insCells i) 24))
  replace HB := Lib.hid (HB.out.alloc HB.out.size (.cells (insCells i) 24))
  go_upto_region 4 with (first
    | (refine wpList_load_row rfl _ (.tmp 6) rfl _ rfl _ _ _ _ HI.out Tryd.underlying24 rfl ?_ ?_; kernel_rfl)
    | (go_at_call 18; refine (HE.out _).mono ?_; rintro e w3 ⟨rfl, hb3⟩; rw [E2.out]; replace HI := Lib.hid ((hb3.block _ (by simp)).trans HI.out); replace HB := Lib.hid (HB.out.trans (hb3.mono HB.out.size)); have hz3 := hb3.size; simp at hz3; clear hb3))
  go_upto_region 5 with (first
    | (go_at_call 22; refine (HD.out _).mono ?_; rintro e w4 ⟨rfl, hb4⟩; rw [D1.out, D2.out]; replace HI := Lib.hid ((hb4.block _ hz3).trans HI.out); replace HB := Lib.hid (HB.out.trans (hb4.mono HB.out.size)); have hz4 := hb4.size; clear hb4)
    | (refine wpList_store_row rfl _ _ _ rfl _ _ rfl rfl _ _ (heap_alloc_new _ _) ?_ ?_ ?_ ?_; kernel_rfl; rfl; kernel_rfl; rw [World.setRow_alloc_new]))
  have HJ := Lib.hid (heap_alloc_new w4 (.cells (insCells i) 24))
  replace HI := Lib.hid ((heap_alloc_old w4 (.cells (insCells i) 24) (by omega : w2.heap.size < w4.heap.size)).trans HI.out)
  replace HB := Lib.hid (HB.out.alloc HB.out.size (.cells (insCells i) 24))
  have hcI : ∀ o : Nat, (w4.alloc (.cells (insCells i) 24)).cell? ⟨w2.heap.size, o, none⟩ = (#[Value.int .i64 i.op, .int .i64 i.d, .int .i64 i.s, .int .u16 i.imm, .int .u16 i.aux, .int .i64 i.bank, .int .i64 i.size] : Array Value)[o]? := fun o => cell_of_row _ w2.heap.size o _ _ _ HI.out
  have hcJ : ∀ o : Nat, (w4.alloc (.cells (insCells i) 24)).cell? ⟨w4.heap.size, o, none⟩ = (#[Value.int .i64 i.op, .int .i64 i.d, .int .i64 i.s, .int .u16 i.imm, .int .u16 i.aux, .int .i64 i.bank, .int .i64 i.size] : Array Value)[o]? := fun o => cell_of_row _ w4.heap.size o _ _ _ HJ.out
  go_wp2_with fail
  go_ret
  exact ⟨rfl, HB.out⟩

end Go.Proofs.YtakahmhbopakmaaDoor
