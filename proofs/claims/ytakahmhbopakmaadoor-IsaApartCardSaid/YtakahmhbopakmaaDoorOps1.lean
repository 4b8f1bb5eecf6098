/- operands of package isa: walked, a class of operations each. -/
import Derived.Test.YtakahmhbopakmaaDoorOpsA
set_option linter.all false
namespace Go.Proofs.YtakahmhbopakmaaDoor
open Go.RowKit

set_option maxRecDepth 100000 in
set_option maxHeartbeats 2000000 in
theorem ops_6 (i : Ins) (hi : i.Ok) (p : Place) (lo : 6 ≤ i.op) (hi2 : i.op ≤ 19) (hsz : 0 ≤ i.size ∧ i.size ≤ 7) (w : World) (hT : Tabs w) :
    Calls Tryd.prog 48 #[.agg #[.int .i64 (i).op, .int .i64 (i).d, .int .i64 (i).s, .int .u16 (i).imm, .int .u16 (i).aux, .int .i64 (i).bank, .int .i64 (i).size], .agg #[.int .i64 p.bank, .int .u16 p.addr]] w (OpsPost (opS i p) w) := by
  have e1 : opS i p = [reg8 i.d] := by unfold opS; simp (config := { decide := false }) only [if_neg (show ¬(i.op ≤ 5) by omega), if_pos (show i.op ≤ 19 by omega)]
  rw [e1]
  clear e1
  obtain ⟨s0, s1⟩ := hsz
  obtain ⟨m0, m1⟩ := hi.imm
  obtain ⟨a0, a1⟩ := hi.aux
  have okd := hi.d
  have oks := hi.s
  have okb := hi.bank
  have oki : i64ok i.imm := ⟨by omega, by omega⟩
  have hwi : IntKind.i64.wrap i.imm = i.imm := IntWalk.i64_in _ (by omega)
  have ld := reg8_len i.d hi.d
  have ls := reg8_len i.s hi.s
  have la := addr8_len i.imm
  have lb := Lib.itoa_length_le i.bank hi.bank.1 hi.bank.2
  have htg : IntKind.u16.wrap (IntKind.u16.wrap (p.addr + i.size) + i.imm) = tgt i p := tgt_eq i p
  have ht0 := tgt_lo i p
  have ht1 := tgt_hi i p
  have HTG := Lib.hid htg
  clear htg
  have okd' := Lib.hid okd
  have oks' := Lib.hid oks
  have okb' := Lib.hid okb
  have oki' := Lib.hid oki
  clear okd oks okb oki
  have HT := Lib.hid hT
  clear hT
  go_enter Tryd.func48, Tryd.ntmps48
  go_upto_region 1 with (fail)
  refine wp_region_noPanic ?_
  refine wp_region_held_drew (S := fun w' => ((∀ o, w'.cell? ⟨w.heap.size, o, none⟩ = (#[Value.int .i64 i.op, .int .i64 i.d, .int .i64 i.s, .int .u16 i.imm, .int .u16 i.aux, .int .i64 i.bank, .int .i64 i.size] : Array Value)[o]?) ∧ (∀ o, w'.cell? ⟨w.heap.size + 1, o, none⟩ = (#[Value.int .i64 p.bank, .int .u16 p.addr] : Array Value)[o]?))) (by kernel_rfl) ⟨fun o => cell_of_row _ _ _ _ _ _ (heap_alloc2_old _ _ _), fun o => cell_of_row _ _ _ _ _ _ (heap_alloc2_new _ _ _)⟩ (fun hHeld => ?_)
  (refine wpAnyH_take (i := 0) (oi := _) (v := ?_) rfl (by kernel_rfl) (by kernel_rfl) (by kernel_rfl) (fun _ _ _ h => h) (Or.inl ⟨by rfl, ?_⟩) (by assumption) ?_; rotate_left; (focus (intro w hSw; (try dsimp only at hSw); go_simp; try with_reducible rfl)); (try simp only [List.getElem_toArray, List.getElem_cons_succ, List.getElem_cons_zero, Act.put, List.setIfInBounds_toArray, List.set_cons_zero, List.set_cons_succ]))
  (refine wpAnyH_take (i := 1) (oi := _) (v := ?_) rfl (by kernel_rfl) (by kernel_rfl) (by kernel_rfl) (fun _ _ _ h => h) (Or.inl ⟨by rfl, ?_⟩) (by assumption) ?_; rotate_left; (focus (intro w hSw; (try dsimp only at hSw); go_simp; try with_reducible rfl)); (try simp only [List.getElem_toArray, List.getElem_cons_succ, List.getElem_cons_zero, Act.put, List.setIfInBounds_toArray, List.set_cons_zero, List.set_cons_succ]))
  (refine wpAnyH_take (i := 3) (oi := _) (v := ?_) rfl (by kernel_rfl) (by kernel_rfl) (by kernel_rfl) (fun _ _ _ h => h) (Or.inl ⟨by rfl, ?_⟩) (by assumption) ?_; rotate_left; (focus (intro w hSw; (try dsimp only at hSw); go_simp; try with_reducible rfl)); (try simp only [List.getElem_toArray, List.getElem_cons_succ, List.getElem_cons_zero, Act.put, List.setIfInBounds_toArray, List.set_cons_zero, List.set_cons_succ]))
  (refine wpAnyH_take (i := 4) (oi := _) (v := ?_) rfl (by kernel_rfl) (by kernel_rfl) (by kernel_rfl) (fun _ _ _ h => h) (Or.inl ⟨by rfl, ?_⟩) (by assumption) ?_; rotate_left; (focus (intro w hSw; (try dsimp only at hSw); go_simp; try with_reducible rfl)); (try simp only [List.getElem_toArray, List.getElem_cons_succ, List.getElem_cons_zero, Act.put, List.setIfInBounds_toArray, List.set_cons_zero, List.set_cons_succ]))
  (refine wpAnyH_take (i := 5) (oi := _) (v := ?_) rfl (by kernel_rfl) (by kernel_rfl) (by kernel_rfl) (fun _ _ _ h => h) (Or.inl ⟨by rfl, ?_⟩) (by assumption) ?_; rotate_left; (focus (intro w hSw; (try dsimp only at hSw); go_simp; try with_reducible rfl)); (try simp only [List.getElem_toArray, List.getElem_cons_succ, List.getElem_cons_zero, Act.put, List.setIfInBounds_toArray, List.set_cons_zero, List.set_cons_succ]))
  (refine wpAnyH_ready (rs := [2]) (by kernel_rfl) (by simp) (AllReadyH.cons (o := _) rfl (fun K hK => ?_) AllReadyH.nil))
  rw [if_pos (by rfl)]
  go_simp
  have H0 : Held i p w (((w.alloc (.cells #[Value.int .i64 i.op, .int .i64 i.d, .int .i64 i.s, .int .u16 i.imm, .int .u16 i.aux, .int .i64 i.bank, .int .i64 i.size] 24)).alloc (.cells #[.int .i64 p.bank, .int .u16 p.addr] 47)).drew) := ⟨hHeld.1, hHeld.2, by show _ ≤ ((w.alloc _).alloc _).heap.size; simp, (((Below.refl _ _).alloc (Nat.le_refl _) _).alloc (by simp) _).drew⟩
  refine (reg8_any i.d hi.d _ (H0.tabs HT.out)).mono ?_
  rintro e w1 ⟨rfl, hb1⟩
  have H1 := H0.stay hb1
  refine hK.out _ _ ⟨H1.ci, H1.cp⟩ (fun hHeld => ?_)
  (try simp only [List.getElem_toArray, List.getElem_cons_succ, List.getElem_cons_zero, Act.put, List.setIfInBounds_toArray, List.set_cons_zero, List.set_cons_succ])
  (refine wpAnyH_ready (rs := [6]) (by kernel_rfl) (by simp) (AllReadyH.cons (o := _) rfl (fun K hK => ?_) AllReadyH.nil))
  rw [if_pos (by rfl)]
  go_simp
  refine (itoa_any i.imm oki'.out _ (H1.tabs HT.out)).mono ?_
  rintro e w2 ⟨rfl, hb2⟩
  have H2 := H1.stay hb2
  refine hK.out _ _ ⟨H2.ci, H2.cp⟩ (fun hHeld => ?_)
  (try simp only [List.getElem_toArray, List.getElem_cons_succ, List.getElem_cons_zero, Act.put, List.setIfInBounds_toArray, List.set_cons_zero, List.set_cons_succ])
  (refine wpAnyH_take (i := 7) (oi := _) (v := ?_) rfl (by kernel_rfl) (by kernel_rfl) (by kernel_rfl) (fun _ _ _ h => h) (Or.inl ⟨by rfl, ?_⟩) (by assumption) ?_; rotate_left; (focus (intro w hSw; (try dsimp only at hSw); go_simp; try with_reducible rfl)); (try simp only [List.getElem_toArray, List.getElem_cons_succ, List.getElem_cons_zero, Act.put, List.setIfInBounds_toArray, List.set_cons_zero, List.set_cons_succ]))
  (refine wpAnyH_take (i := 8) (oi := _) (v := ?_) rfl (by kernel_rfl) (by kernel_rfl) (by kernel_rfl) (fun _ _ _ h => h) (Or.inl ⟨by rfl, ?_⟩) (by assumption) ?_; rotate_left; (focus (intro w hSw; (try dsimp only at hSw); go_simp; try with_reducible rfl)); (try simp only [List.getElem_toArray, List.getElem_cons_succ, List.getElem_cons_zero, Act.put, List.setIfInBounds_toArray, List.set_cons_zero, List.set_cons_succ]))
  refine wpAnyH_done (by kernel_rfl) ?_ _
  refine NoPanic.normal ?_
  clear hHeld hb1 hb2
  have HH := Lib.hid H2
  have hci := H2.ci
  have hcp := H2.cp
  clear H0 H1 H2
  go_wp2_with (first
    | (go_at_call 65; rw [HTG.out]; refine (addr8_any _ ht0 ht1 _ (HH.out.tabs HT.out)).mono ?_; rintro e w3 ⟨rfl, hb3⟩; replace HH := Lib.hid (HH.out.stay hb3); replace hci := HH.out.ci; replace hcp := HH.out.cp; clear hb3)
    | (go_at_call 65; refine (addr8_any _ (by assumption) (by assumption) _ (HH.out.tabs HT.out)).mono ?_; rintro e w3 ⟨rfl, hb3⟩; replace HH := Lib.hid (HH.out.stay hb3); replace hci := HH.out.ci; replace hcp := HH.out.cp; clear hb3)
    | (go_at_call 64; refine (itoa_any _ okb'.out _ (HH.out.tabs HT.out)).mono ?_; rintro e w3 ⟨rfl, hb3⟩; replace HH := Lib.hid (HH.out.stay hb3); replace hci := HH.out.ci; replace hcp := HH.out.cp; clear hb3)
    | (go_at_call 63; refine (reg8_any _ oks'.out _ (HH.out.tabs HT.out)).mono ?_; rintro e w3 ⟨rfl, hb3⟩; replace HH := Lib.hid (HH.out.stay hb3); replace hci := HH.out.ci; replace hcp := HH.out.cp; clear hb3)
    | (go_at_call 66; refine (number_any _ (by assumption) (by assumption) _ (HH.out.tabs HT.out)).mono ?_; rintro e w3 ⟨rfl, hb3⟩; replace HH := Lib.hid (HH.out.stay hb3); replace hci := HH.out.ci; replace hcp := HH.out.cp; clear hb3)
    | (go_at_call 67; refine (memory_any _ _ oks'.out (by assumption) (by assumption) _ (HH.out.tabs HT.out)).mono ?_; rintro e w3 ⟨rfl, hb3⟩; replace HH := Lib.hid (HH.out.stay hb3); replace hci := HH.out.ci; replace hcp := HH.out.cp; clear hb3))
  go_ret
  exact OpsPost.of_new _ _ _ HH.out.bb (by simp) ⟨rfl, rfl, by first | (simp only [List.map_cons, List.map_nil, strV, ← str_cat]; done) | (simp only [List.map_cons, List.map_nil, strV, ← str_cat]; rfl)⟩

set_option maxRecDepth 100000 in
set_option maxHeartbeats 2000000 in
theorem ops_80 (i : Ins) (hi : i.Ok) (p : Place) (lo : 80 ≤ i.op) (hi2 : i.op ≤ 83) (hsz : 0 ≤ i.size ∧ i.size ≤ 7) (w : World) (hT : Tabs w) :
    Calls Tryd.prog 48 #[.agg #[.int .i64 (i).op, .int .i64 (i).d, .int .i64 (i).s, .int .u16 (i).imm, .int .u16 (i).aux, .int .i64 (i).bank, .int .i64 (i).size], .agg #[.int .i64 p.bank, .int .u16 p.addr]] w (OpsPost (opS i p) w) := by
  have e1 : opS i p = [reg8 i.d, mem8 i.s i.imm] := by unfold opS; simp (config := { decide := false }) only [if_neg (show ¬(i.op ≤ 5) by omega), if_neg (show ¬(i.op ≤ 19) by omega), if_neg (show ¬(i.op ≤ 21) by omega), if_neg (show ¬(i.op < 48) by omega), if_neg (show ¬(i.op < 80) by omega), if_neg (show ¬(84 ≤ i.op ∧ i.op ≤ 87) by omega), if_pos (show i.op < 96 by omega)]
  rw [e1]
  clear e1
  obtain ⟨s0, s1⟩ := hsz
  obtain ⟨m0, m1⟩ := hi.imm
  obtain ⟨a0, a1⟩ := hi.aux
  have okd := hi.d
  have oks := hi.s
  have okb := hi.bank
  have oki : i64ok i.imm := ⟨by omega, by omega⟩
  have hwi : IntKind.i64.wrap i.imm = i.imm := IntWalk.i64_in _ (by omega)
  have ld := reg8_len i.d hi.d
  have ls := reg8_len i.s hi.s
  have la := addr8_len i.imm
  have lb := Lib.itoa_length_le i.bank hi.bank.1 hi.bank.2
  have htg : IntKind.u16.wrap (IntKind.u16.wrap (p.addr + i.size) + i.imm) = tgt i p := tgt_eq i p
  have ht0 := tgt_lo i p
  have ht1 := tgt_hi i p
  have HTG := Lib.hid htg
  clear htg
  have okd' := Lib.hid okd
  have oks' := Lib.hid oks
  have okb' := Lib.hid okb
  have oki' := Lib.hid oki
  clear okd oks okb oki
  have HT := Lib.hid hT
  clear hT
  go_enter Tryd.func48, Tryd.ntmps48
  go_upto_region 1 with (fail)
  refine wp_region_noPanic ?_
  refine wp_region_held_drew (S := fun w' => ((∀ o, w'.cell? ⟨w.heap.size, o, none⟩ = (#[Value.int .i64 i.op, .int .i64 i.d, .int .i64 i.s, .int .u16 i.imm, .int .u16 i.aux, .int .i64 i.bank, .int .i64 i.size] : Array Value)[o]?) ∧ (∀ o, w'.cell? ⟨w.heap.size + 1, o, none⟩ = (#[Value.int .i64 p.bank, .int .u16 p.addr] : Array Value)[o]?))) (by kernel_rfl) ⟨fun o => cell_of_row _ _ _ _ _ _ (heap_alloc2_old _ _ _), fun o => cell_of_row _ _ _ _ _ _ (heap_alloc2_new _ _ _)⟩ (fun hHeld => ?_)
  (refine wpAnyH_take (i := 0) (oi := _) (v := ?_) rfl (by kernel_rfl) (by kernel_rfl) (by kernel_rfl) (fun _ _ _ h => h) (Or.inl ⟨by rfl, ?_⟩) (by assumption) ?_; rotate_left; (focus (intro w hSw; (try dsimp only at hSw); go_simp; try with_reducible rfl)); (try simp only [List.getElem_toArray, List.getElem_cons_succ, List.getElem_cons_zero, Act.put, List.setIfInBounds_toArray, List.set_cons_zero, List.set_cons_succ]))
  (refine wpAnyH_take (i := 1) (oi := _) (v := ?_) rfl (by kernel_rfl) (by kernel_rfl) (by kernel_rfl) (fun _ _ _ h => h) (Or.inl ⟨by rfl, ?_⟩) (by assumption) ?_; rotate_left; (focus (intro w hSw; (try dsimp only at hSw); go_simp; try with_reducible rfl)); (try simp only [List.getElem_toArray, List.getElem_cons_succ, List.getElem_cons_zero, Act.put, List.setIfInBounds_toArray, List.set_cons_zero, List.set_cons_succ]))
  (refine wpAnyH_take (i := 3) (oi := _) (v := ?_) rfl (by kernel_rfl) (by kernel_rfl) (by kernel_rfl) (fun _ _ _ h => h) (Or.inl ⟨by rfl, ?_⟩) (by assumption) ?_; rotate_left; (focus (intro w hSw; (try dsimp only at hSw); go_simp; try with_reducible rfl)); (try simp only [List.getElem_toArray, List.getElem_cons_succ, List.getElem_cons_zero, Act.put, List.setIfInBounds_toArray, List.set_cons_zero, List.set_cons_succ]))
  (refine wpAnyH_take (i := 4) (oi := _) (v := ?_) rfl (by kernel_rfl) (by kernel_rfl) (by kernel_rfl) (fun _ _ _ h => h) (Or.inl ⟨by rfl, ?_⟩) (by assumption) ?_; rotate_left; (focus (intro w hSw; (try dsimp only at hSw); go_simp; try with_reducible rfl)); (try simp only [List.getElem_toArray, List.getElem_cons_succ, List.getElem_cons_zero, Act.put, List.setIfInBounds_toArray, List.set_cons_zero, List.set_cons_succ]))
  (refine wpAnyH_take (i := 5) (oi := _) (v := ?_) rfl (by kernel_rfl) (by kernel_rfl) (by kernel_rfl) (fun _ _ _ h => h) (Or.inl ⟨by rfl, ?_⟩) (by assumption) ?_; rotate_left; (focus (intro w hSw; (try dsimp only at hSw); go_simp; try with_reducible rfl)); (try simp only [List.getElem_toArray, List.getElem_cons_succ, List.getElem_cons_zero, Act.put, List.setIfInBounds_toArray, List.set_cons_zero, List.set_cons_succ]))
  (refine wpAnyH_ready (rs := [2]) (by kernel_rfl) (by simp) (AllReadyH.cons (o := _) rfl (fun K hK => ?_) AllReadyH.nil))
  rw [if_pos (by rfl)]
  go_simp
  have H0 : Held i p w (((w.alloc (.cells #[Value.int .i64 i.op, .int .i64 i.d, .int .i64 i.s, .int .u16 i.imm, .int .u16 i.aux, .int .i64 i.bank, .int .i64 i.size] 24)).alloc (.cells #[.int .i64 p.bank, .int .u16 p.addr] 47)).drew) := ⟨hHeld.1, hHeld.2, by show _ ≤ ((w.alloc _).alloc _).heap.size; simp, (((Below.refl _ _).alloc (Nat.le_refl _) _).alloc (by simp) _).drew⟩
  refine (reg8_any i.d hi.d _ (H0.tabs HT.out)).mono ?_
  rintro e w1 ⟨rfl, hb1⟩
  have H1 := H0.stay hb1
  refine hK.out _ _ ⟨H1.ci, H1.cp⟩ (fun hHeld => ?_)
  (try simp only [List.getElem_toArray, List.getElem_cons_succ, List.getElem_cons_zero, Act.put, List.setIfInBounds_toArray, List.set_cons_zero, List.set_cons_succ])
  (refine wpAnyH_ready (rs := [6]) (by kernel_rfl) (by simp) (AllReadyH.cons (o := _) rfl (fun K hK => ?_) AllReadyH.nil))
  rw [if_pos (by rfl)]
  go_simp
  refine (itoa_any i.imm oki'.out _ (H1.tabs HT.out)).mono ?_
  rintro e w2 ⟨rfl, hb2⟩
  have H2 := H1.stay hb2
  refine hK.out _ _ ⟨H2.ci, H2.cp⟩ (fun hHeld => ?_)
  (try simp only [List.getElem_toArray, List.getElem_cons_succ, List.getElem_cons_zero, Act.put, List.setIfInBounds_toArray, List.set_cons_zero, List.set_cons_succ])
  (refine wpAnyH_take (i := 7) (oi := _) (v := ?_) rfl (by kernel_rfl) (by kernel_rfl) (by kernel_rfl) (fun _ _ _ h => h) (Or.inl ⟨by rfl, ?_⟩) (by assumption) ?_; rotate_left; (focus (intro w hSw; (try dsimp only at hSw); go_simp; try with_reducible rfl)); (try simp only [List.getElem_toArray, List.getElem_cons_succ, List.getElem_cons_zero, Act.put, List.setIfInBounds_toArray, List.set_cons_zero, List.set_cons_succ]))
  (refine wpAnyH_take (i := 8) (oi := _) (v := ?_) rfl (by kernel_rfl) (by kernel_rfl) (by kernel_rfl) (fun _ _ _ h => h) (Or.inl ⟨by rfl, ?_⟩) (by assumption) ?_; rotate_left; (focus (intro w hSw; (try dsimp only at hSw); go_simp; try with_reducible rfl)); (try simp only [List.getElem_toArray, List.getElem_cons_succ, List.getElem_cons_zero, Act.put, List.setIfInBounds_toArray, List.set_cons_zero, List.set_cons_succ]))
  refine wpAnyH_done (by kernel_rfl) ?_ _
  refine NoPanic.normal ?_
  clear hHeld hb1 hb2
  have HH := Lib.hid H2
  have hci := H2.ci
  have hcp := H2.cp
  clear H0 H1 H2
  go_wp2_with (first
    | (go_at_call 65; rw [HTG.out]; refine (addr8_any _ ht0 ht1 _ (HH.out.tabs HT.out)).mono ?_; rintro e w3 ⟨rfl, hb3⟩; replace HH := Lib.hid (HH.out.stay hb3); replace hci := HH.out.ci; replace hcp := HH.out.cp; clear hb3)
    | (go_at_call 65; refine (addr8_any _ (by assumption) (by assumption) _ (HH.out.tabs HT.out)).mono ?_; rintro e w3 ⟨rfl, hb3⟩; replace HH := Lib.hid (HH.out.stay hb3); replace hci := HH.out.ci; replace hcp := HH.out.cp; clear hb3)
    | (go_at_call 64; refine (itoa_any _ okb'.out _ (HH.out.tabs HT.out)).mono ?_; rintro e w3 ⟨rfl, hb3⟩; replace HH := Lib.hid (HH.out.stay hb3); replace hci := HH.out.ci; replace hcp := HH.out.cp; clear hb3)
    | (go_at_call 63; refine (reg8_any _ oks'.out _ (HH.out.tabs HT.out)).mono ?_; rintro e w3 ⟨rfl, hb3⟩; replace HH := Lib.hid (HH.out.stay hb3); replace hci := HH.out.ci; replace hcp := HH.out.cp; clear hb3)
    | (go_at_call 66; refine (number_any _ (by assumption) (by assumption) _ (HH.out.tabs HT.out)).mono ?_; rintro e w3 ⟨rfl, hb3⟩; replace HH := Lib.hid (HH.out.stay hb3); replace hci := HH.out.ci; replace hcp := HH.out.cp; clear hb3)
    | (go_at_call 67; refine (memory_any _ _ oks'.out (by assumption) (by assumption) _ (HH.out.tabs HT.out)).mono ?_; rintro e w3 ⟨rfl, hb3⟩; replace HH := Lib.hid (HH.out.stay hb3); replace hci := HH.out.ci; replace hcp := HH.out.cp; clear hb3))
  go_ret
  exact OpsPost.of_new _ _ _ HH.out.bb (by simp) ⟨rfl, rfl, by first | (simp only [List.map_cons, List.map_nil, strV, ← str_cat]; done) | (simp only [List.map_cons, List.map_nil, strV, ← str_cat]; rfl)⟩

set_option maxRecDepth 100000 in
set_option maxHeartbeats 2000000 in
theorem ops_131 (i : Ins) (hi : i.Ok) (p : Place) (lo : 131 ≤ i.op) (hi2 : i.op ≤ 132) (hsz : 0 ≤ i.size ∧ i.size ≤ 7) (w : World) (hT : Tabs w) :
    Calls Tryd.prog 48 #[.agg #[.int .i64 (i).op, .int .i64 (i).d, .int .i64 (i).s, .int .u16 (i).imm, .int .u16 (i).aux, .int .i64 (i).bank, .int .i64 (i).size], .agg #[.int .i64 p.bank, .int .u16 p.addr]] w (OpsPost (opS i p) w) := by
  have e1 : opS i p = [Lib.itoa i.bank ++ [58] ++ addr8 i.imm] := by unfold opS; simp (config := { decide := false }) only [if_neg (show ¬(i.op ≤ 5) by omega), if_neg (show ¬(i.op ≤ 19) by omega), if_neg (show ¬(i.op ≤ 21) by omega), if_neg (show ¬(i.op < 48) by omega), if_neg (show ¬(i.op < 80) by omega), if_neg (show ¬(84 ≤ i.op ∧ i.op ≤ 87) by omega), if_neg (show ¬(i.op < 96) by omega), if_neg (show ¬(i.op ≤ 130) by omega), if_pos (show i.op ≤ 132 by omega)]
  rw [e1]
  clear e1
  obtain ⟨s0, s1⟩ := hsz
  obtain ⟨m0, m1⟩ := hi.imm
  obtain ⟨a0, a1⟩ := hi.aux
  have okd := hi.d
  have oks := hi.s
  have okb := hi.bank
  have oki : i64ok i.imm := ⟨by omega, by omega⟩
  have hwi : IntKind.i64.wrap i.imm = i.imm := IntWalk.i64_in _ (by omega)
  have ld := reg8_len i.d hi.d
  have ls := reg8_len i.s hi.s
  have la := addr8_len i.imm
  have lb := Lib.itoa_length_le i.bank hi.bank.1 hi.bank.2
  have htg : IntKind.u16.wrap (IntKind.u16.wrap (p.addr + i.size) + i.imm) = tgt i p := tgt_eq i p
  have ht0 := tgt_lo i p
  have ht1 := tgt_hi i p
  have HTG := Lib.hid htg
  clear htg
  have okd' := Lib.hid okd
  have oks' := Lib.hid oks
  have okb' := Lib.hid okb
  have oki' := Lib.hid oki
  clear okd oks okb oki
  have HT := Lib.hid hT
  clear hT
  go_enter Tryd.func48, Tryd.ntmps48
  go_upto_region 1 with (fail)
  refine wp_region_noPanic ?_
  refine wp_region_held_drew (S := fun w' => ((∀ o, w'.cell? ⟨w.heap.size, o, none⟩ = (#[Value.int .i64 i.op, .int .i64 i.d, .int .i64 i.s, .int .u16 i.imm, .int .u16 i.aux, .int .i64 i.bank, .int .i64 i.size] : Array Value)[o]?) ∧ (∀ o, w'.cell? ⟨w.heap.size + 1, o, none⟩ = (#[Value.int .i64 p.bank, .int .u16 p.addr] : Array Value)[o]?))) (by kernel_rfl) ⟨fun o => cell_of_row _ _ _ _ _ _ (heap_alloc2_old _ _ _), fun o => cell_of_row _ _ _ _ _ _ (heap_alloc2_new _ _ _)⟩ (fun hHeld => ?_)
  (refine wpAnyH_take (i := 0) (oi := _) (v := ?_) rfl (by kernel_rfl) (by kernel_rfl) (by kernel_rfl) (fun _ _ _ h => h) (Or.inl ⟨by rfl, ?_⟩) (by assumption) ?_; rotate_left; (focus (intro w hSw; (try dsimp only at hSw); go_simp; try with_reducible rfl)); (try simp only [List.getElem_toArray, List.getElem_cons_succ, List.getElem_cons_zero, Act.put, List.setIfInBounds_toArray, List.set_cons_zero, List.set_cons_succ]))
  (refine wpAnyH_take (i := 1) (oi := _) (v := ?_) rfl (by kernel_rfl) (by kernel_rfl) (by kernel_rfl) (fun _ _ _ h => h) (Or.inl ⟨by rfl, ?_⟩) (by assumption) ?_; rotate_left; (focus (intro w hSw; (try dsimp only at hSw); go_simp; try with_reducible rfl)); (try simp only [List.getElem_toArray, List.getElem_cons_succ, List.getElem_cons_zero, Act.put, List.setIfInBounds_toArray, List.set_cons_zero, List.set_cons_succ]))
  (refine wpAnyH_take (i := 3) (oi := _) (v := ?_) rfl (by kernel_rfl) (by kernel_rfl) (by kernel_rfl) (fun _ _ _ h => h) (Or.inl ⟨by rfl, ?_⟩) (by assumption) ?_; rotate_left; (focus (intro w hSw; (try dsimp only at hSw); go_simp; try with_reducible rfl)); (try simp only [List.getElem_toArray, List.getElem_cons_succ, List.getElem_cons_zero, Act.put, List.setIfInBounds_toArray, List.set_cons_zero, List.set_cons_succ]))
  (refine wpAnyH_take (i := 4) (oi := _) (v := ?_) rfl (by kernel_rfl) (by kernel_rfl) (by kernel_rfl) (fun _ _ _ h => h) (Or.inl ⟨by rfl, ?_⟩) (by assumption) ?_; rotate_left; (focus (intro w hSw; (try dsimp only at hSw); go_simp; try with_reducible rfl)); (try simp only [List.getElem_toArray, List.getElem_cons_succ, List.getElem_cons_zero, Act.put, List.setIfInBounds_toArray, List.set_cons_zero, List.set_cons_succ]))
  (refine wpAnyH_take (i := 5) (oi := _) (v := ?_) rfl (by kernel_rfl) (by kernel_rfl) (by kernel_rfl) (fun _ _ _ h => h) (Or.inl ⟨by rfl, ?_⟩) (by assumption) ?_; rotate_left; (focus (intro w hSw; (try dsimp only at hSw); go_simp; try with_reducible rfl)); (try simp only [List.getElem_toArray, List.getElem_cons_succ, List.getElem_cons_zero, Act.put, List.setIfInBounds_toArray, List.set_cons_zero, List.set_cons_succ]))
  (refine wpAnyH_ready (rs := [2]) (by kernel_rfl) (by simp) (AllReadyH.cons (o := _) rfl (fun K hK => ?_) AllReadyH.nil))
  rw [if_pos (by rfl)]
  go_simp
  have H0 : Held i p w (((w.alloc (.cells #[Value.int .i64 i.op, .int .i64 i.d, .int .i64 i.s, .int .u16 i.imm, .int .u16 i.aux, .int .i64 i.bank, .int .i64 i.size] 24)).alloc (.cells #[.int .i64 p.bank, .int .u16 p.addr] 47)).drew) := ⟨hHeld.1, hHeld.2, by show _ ≤ ((w.alloc _).alloc _).heap.size; simp, (((Below.refl _ _).alloc (Nat.le_refl _) _).alloc (by simp) _).drew⟩
  refine (reg8_any i.d hi.d _ (H0.tabs HT.out)).mono ?_
  rintro e w1 ⟨rfl, hb1⟩
  have H1 := H0.stay hb1
  refine hK.out _ _ ⟨H1.ci, H1.cp⟩ (fun hHeld => ?_)
  (try simp only [List.getElem_toArray, List.getElem_cons_succ, List.getElem_cons_zero, Act.put, List.setIfInBounds_toArray, List.set_cons_zero, List.set_cons_succ])
  (refine wpAnyH_ready (rs := [6]) (by kernel_rfl) (by simp) (AllReadyH.cons (o := _) rfl (fun K hK => ?_) AllReadyH.nil))
  rw [if_pos (by rfl)]
  go_simp
  refine (itoa_any i.imm oki'.out _ (H1.tabs HT.out)).mono ?_
  rintro e w2 ⟨rfl, hb2⟩
  have H2 := H1.stay hb2
  refine hK.out _ _ ⟨H2.ci, H2.cp⟩ (fun hHeld => ?_)
  (try simp only [List.getElem_toArray, List.getElem_cons_succ, List.getElem_cons_zero, Act.put, List.setIfInBounds_toArray, List.set_cons_zero, List.set_cons_succ])
  (refine wpAnyH_take (i := 7) (oi := _) (v := ?_) rfl (by kernel_rfl) (by kernel_rfl) (by kernel_rfl) (fun _ _ _ h => h) (Or.inl ⟨by rfl, ?_⟩) (by assumption) ?_; rotate_left; (focus (intro w hSw; (try dsimp only at hSw); go_simp; try with_reducible rfl)); (try simp only [List.getElem_toArray, List.getElem_cons_succ, List.getElem_cons_zero, Act.put, List.setIfInBounds_toArray, List.set_cons_zero, List.set_cons_succ]))
  (refine wpAnyH_take (i := 8) (oi := _) (v := ?_) rfl (by kernel_rfl) (by kernel_rfl) (by kernel_rfl) (fun _ _ _ h => h) (Or.inl ⟨by rfl, ?_⟩) (by assumption) ?_; rotate_left; (focus (intro w hSw; (try dsimp only at hSw); go_simp; try with_reducible rfl)); (try simp only [List.getElem_toArray, List.getElem_cons_succ, List.getElem_cons_zero, Act.put, List.setIfInBounds_toArray, List.set_cons_zero, List.set_cons_succ]))
  refine wpAnyH_done (by kernel_rfl) ?_ _
  refine NoPanic.normal ?_
  clear hHeld hb1 hb2
  have HH := Lib.hid H2
  have hci := H2.ci
  have hcp := H2.cp
  clear H0 H1 H2
  go_wp2_with (first
    | (go_at_call 65; rw [HTG.out]; refine (addr8_any _ ht0 ht1 _ (HH.out.tabs HT.out)).mono ?_; rintro e w3 ⟨rfl, hb3⟩; replace HH := Lib.hid (HH.out.stay hb3); replace hci := HH.out.ci; replace hcp := HH.out.cp; clear hb3)
    | (go_at_call 65; refine (addr8_any _ (by assumption) (by assumption) _ (HH.out.tabs HT.out)).mono ?_; rintro e w3 ⟨rfl, hb3⟩; replace HH := Lib.hid (HH.out.stay hb3); replace hci := HH.out.ci; replace hcp := HH.out.cp; clear hb3)
    | (go_at_call 64; refine (itoa_any _ okb'.out _ (HH.out.tabs HT.out)).mono ?_; rintro e w3 ⟨rfl, hb3⟩; replace HH := Lib.hid (HH.out.stay hb3); replace hci := HH.out.ci; replace hcp := HH.out.cp; clear hb3)
    | (go_at_call 63; refine (reg8_any _ oks'.out _ (HH.out.tabs HT.out)).mono ?_; rintro e w3 ⟨rfl, hb3⟩; replace HH := Lib.hid (HH.out.stay hb3); replace hci := HH.out.ci; replace hcp := HH.out.cp; clear hb3)
    | (go_at_call 66; refine (number_any _ (by assumption) (by assumption) _ (HH.out.tabs HT.out)).mono ?_; rintro e w3 ⟨rfl, hb3⟩; replace HH := Lib.hid (HH.out.stay hb3); replace hci := HH.out.ci; replace hcp := HH.out.cp; clear hb3)
    | (go_at_call 67; refine (memory_any _ _ oks'.out (by assumption) (by assumption) _ (HH.out.tabs HT.out)).mono ?_; rintro e w3 ⟨rfl, hb3⟩; replace HH := Lib.hid (HH.out.stay hb3); replace hci := HH.out.ci; replace hcp := HH.out.cp; clear hb3))
  go_ret
  exact OpsPost.of_new _ _ _ HH.out.bb (by simp) ⟨rfl, rfl, by first | (simp only [List.map_cons, List.map_nil, strV, ← str_cat]; done) | (simp only [List.map_cons, List.map_nil, strV, ← str_cat]; rfl)⟩

set_option maxRecDepth 100000 in
set_option maxHeartbeats 2000000 in
theorem ops_145 (i : Ins) (hi : i.Ok) (p : Place) (lo : 145 ≤ i.op) (hi2 : i.op ≤ 145) (hsz : 0 ≤ i.size ∧ i.size ≤ 7) (w : World) (hT : Tabs w) :
    Calls Tryd.prog 48 #[.agg #[.int .i64 (i).op, .int .i64 (i).d, .int .i64 (i).s, .int .u16 (i).imm, .int .u16 (i).aux, .int .i64 (i).bank, .int .i64 (i).size], .agg #[.int .i64 p.bank, .int .u16 p.addr]] w (OpsPost (opS i p) w) := by
  have e1 : opS i p = [Lib.itoa i.imm, reg8 i.d] := by unfold opS; simp (config := { decide := false }) only [if_neg (show ¬(i.op ≤ 5) by omega), if_neg (show ¬(i.op ≤ 19) by omega), if_neg (show ¬(i.op ≤ 21) by omega), if_neg (show ¬(i.op < 48) by omega), if_neg (show ¬(i.op < 80) by omega), if_neg (show ¬(84 ≤ i.op ∧ i.op ≤ 87) by omega), if_neg (show ¬(i.op < 96) by omega), if_neg (show ¬(i.op ≤ 130) by omega), if_neg (show ¬(i.op ≤ 132) by omega), if_neg (show ¬(i.op = 133) by omega), if_neg (show ¬(i.op = 134) by omega), if_pos (show i.op = 145 by omega)]
  rw [e1]
  clear e1
  obtain ⟨s0, s1⟩ := hsz
  obtain ⟨m0, m1⟩ := hi.imm
  obtain ⟨a0, a1⟩ := hi.aux
  have okd := hi.d
  have oks := hi.s
  have okb := hi.bank
  have oki : i64ok i.imm := ⟨by omega, by omega⟩
  have hwi : IntKind.i64.wrap i.imm = i.imm := IntWalk.i64_in _ (by omega)
  have ld := reg8_len i.d hi.d
  have ls := reg8_len i.s hi.s
  have la := addr8_len i.imm
  have lb := Lib.itoa_length_le i.bank hi.bank.1 hi.bank.2
  have htg : IntKind.u16.wrap (IntKind.u16.wrap (p.addr + i.size) + i.imm) = tgt i p := tgt_eq i p
  have ht0 := tgt_lo i p
  have ht1 := tgt_hi i p
  have HTG := Lib.hid htg
  clear htg
  have okd' := Lib.hid okd
  have oks' := Lib.hid oks
  have okb' := Lib.hid okb
  have oki' := Lib.hid oki
  clear okd oks okb oki
  have HT := Lib.hid hT
  clear hT
  go_enter Tryd.func48, Tryd.ntmps48
  go_upto_region 1 with (fail)
  refine wp_region_noPanic ?_
  refine wp_region_held_drew (S := fun w' => ((∀ o, w'.cell? ⟨w.heap.size, o, none⟩ = (#[Value.int .i64 i.op, .int .i64 i.d, .int .i64 i.s, .int .u16 i.imm, .int .u16 i.aux, .int .i64 i.bank, .int .i64 i.size] : Array Value)[o]?) ∧ (∀ o, w'.cell? ⟨w.heap.size + 1, o, none⟩ = (#[Value.int .i64 p.bank, .int .u16 p.addr] : Array Value)[o]?))) (by kernel_rfl) ⟨fun o => cell_of_row _ _ _ _ _ _ (heap_alloc2_old _ _ _), fun o => cell_of_row _ _ _ _ _ _ (heap_alloc2_new _ _ _)⟩ (fun hHeld => ?_)
  (refine wpAnyH_take (i := 0) (oi := _) (v := ?_) rfl (by kernel_rfl) (by kernel_rfl) (by kernel_rfl) (fun _ _ _ h => h) (Or.inl ⟨by rfl, ?_⟩) (by assumption) ?_; rotate_left; (focus (intro w hSw; (try dsimp only at hSw); go_simp; try with_reducible rfl)); (try simp only [List.getElem_toArray, List.getElem_cons_succ, List.getElem_cons_zero, Act.put, List.setIfInBounds_toArray, List.set_cons_zero, List.set_cons_succ]))
  (refine wpAnyH_take (i := 1) (oi := _) (v := ?_) rfl (by kernel_rfl) (by kernel_rfl) (by kernel_rfl) (fun _ _ _ h => h) (Or.inl ⟨by rfl, ?_⟩) (by assumption) ?_; rotate_left; (focus (intro w hSw; (try dsimp only at hSw); go_simp; try with_reducible rfl)); (try simp only [List.getElem_toArray, List.getElem_cons_succ, List.getElem_cons_zero, Act.put, List.setIfInBounds_toArray, List.set_cons_zero, List.set_cons_succ]))
  (refine wpAnyH_take (i := 3) (oi := _) (v := ?_) rfl (by kernel_rfl) (by kernel_rfl) (by kernel_rfl) (fun _ _ _ h => h) (Or.inl ⟨by rfl, ?_⟩) (by assumption) ?_; rotate_left; (focus (intro w hSw; (try dsimp only at hSw); go_simp; try with_reducible rfl)); (try simp only [List.getElem_toArray, List.getElem_cons_succ, List.getElem_cons_zero, Act.put, List.setIfInBounds_toArray, List.set_cons_zero, List.set_cons_succ]))
  (refine wpAnyH_take (i := 4) (oi := _) (v := ?_) rfl (by kernel_rfl) (by kernel_rfl) (by kernel_rfl) (fun _ _ _ h => h) (Or.inl ⟨by rfl, ?_⟩) (by assumption) ?_; rotate_left; (focus (intro w hSw; (try dsimp only at hSw); go_simp; try with_reducible rfl)); (try simp only [List.getElem_toArray, List.getElem_cons_succ, List.getElem_cons_zero, Act.put, List.setIfInBounds_toArray, List.set_cons_zero, List.set_cons_succ]))
  (refine wpAnyH_take (i := 5) (oi := _) (v := ?_) rfl (by kernel_rfl) (by kernel_rfl) (by kernel_rfl) (fun _ _ _ h => h) (Or.inl ⟨by rfl, ?_⟩) (by assumption) ?_; rotate_left; (focus (intro w hSw; (try dsimp only at hSw); go_simp; try with_reducible rfl)); (try simp only [List.getElem_toArray, List.getElem_cons_succ, List.getElem_cons_zero, Act.put, List.setIfInBounds_toArray, List.set_cons_zero, List.set_cons_succ]))
  (refine wpAnyH_ready (rs := [2]) (by kernel_rfl) (by simp) (AllReadyH.cons (o := _) rfl (fun K hK => ?_) AllReadyH.nil))
  rw [if_pos (by rfl)]
  go_simp
  have H0 : Held i p w (((w.alloc (.cells #[Value.int .i64 i.op, .int .i64 i.d, .int .i64 i.s, .int .u16 i.imm, .int .u16 i.aux, .int .i64 i.bank, .int .i64 i.size] 24)).alloc (.cells #[.int .i64 p.bank, .int .u16 p.addr] 47)).drew) := ⟨hHeld.1, hHeld.2, by show _ ≤ ((w.alloc _).alloc _).heap.size; simp, (((Below.refl _ _).alloc (Nat.le_refl _) _).alloc (by simp) _).drew⟩
  refine (reg8_any i.d hi.d _ (H0.tabs HT.out)).mono ?_
  rintro e w1 ⟨rfl, hb1⟩
  have H1 := H0.stay hb1
  refine hK.out _ _ ⟨H1.ci, H1.cp⟩ (fun hHeld => ?_)
  (try simp only [List.getElem_toArray, List.getElem_cons_succ, List.getElem_cons_zero, Act.put, List.setIfInBounds_toArray, List.set_cons_zero, List.set_cons_succ])
  (refine wpAnyH_ready (rs := [6]) (by kernel_rfl) (by simp) (AllReadyH.cons (o := _) rfl (fun K hK => ?_) AllReadyH.nil))
  rw [if_pos (by rfl)]
  go_simp
  refine (itoa_any i.imm oki'.out _ (H1.tabs HT.out)).mono ?_
  rintro e w2 ⟨rfl, hb2⟩
  have H2 := H1.stay hb2
  refine hK.out _ _ ⟨H2.ci, H2.cp⟩ (fun hHeld => ?_)
  (try simp only [List.getElem_toArray, List.getElem_cons_succ, List.getElem_cons_zero, Act.put, List.setIfInBounds_toArray, List.set_cons_zero, List.set_cons_succ])
  (refine wpAnyH_take (i := 7) (oi := _) (v := ?_) rfl (by kernel_rfl) (by kernel_rfl) (by kernel_rfl) (fun _ _ _ h => h) (Or.inl ⟨by rfl, ?_⟩) (by assumption) ?_; rotate_left; (focus (intro w hSw; (try dsimp only at hSw); go_simp; try with_reducible rfl)); (try simp only [List.getElem_toArray, List.getElem_cons_succ, List.getElem_cons_zero, Act.put, List.setIfInBounds_toArray, List.set_cons_zero, List.set_cons_succ]))
  (refine wpAnyH_take (i := 8) (oi := _) (v := ?_) rfl (by kernel_rfl) (by kernel_rfl) (by kernel_rfl) (fun _ _ _ h => h) (Or.inl ⟨by rfl, ?_⟩) (by assumption) ?_; rotate_left; (focus (intro w hSw; (try dsimp only at hSw); go_simp; try with_reducible rfl)); (try simp only [List.getElem_toArray, List.getElem_cons_succ, List.getElem_cons_zero, Act.put, List.setIfInBounds_toArray, List.set_cons_zero, List.set_cons_succ]))
  refine wpAnyH_done (by kernel_rfl) ?_ _
  refine NoPanic.normal ?_
  clear hHeld hb1 hb2
  have HH := Lib.hid H2
  have hci := H2.ci
  have hcp := H2.cp
  clear H0 H1 H2
  go_wp2_with (first
    | (go_at_call 65; rw [HTG.out]; refine (addr8_any _ ht0 ht1 _ (HH.out.tabs HT.out)).mono ?_; rintro e w3 ⟨rfl, hb3⟩; replace HH := Lib.hid (HH.out.stay hb3); replace hci := HH.out.ci; replace hcp := HH.out.cp; clear hb3)
    | (go_at_call 65; refine (addr8_any _ (by assumption) (by assumption) _ (HH.out.tabs HT.out)).mono ?_; rintro e w3 ⟨rfl, hb3⟩; replace HH := Lib.hid (HH.out.stay hb3); replace hci := HH.out.ci; replace hcp := HH.out.cp; clear hb3)
    | (go_at_call 64; refine (itoa_any _ okb'.out _ (HH.out.tabs HT.out)).mono ?_; rintro e w3 ⟨rfl, hb3⟩; replace HH := Lib.hid (HH.out.stay hb3); replace hci := HH.out.ci; replace hcp := HH.out.cp; clear hb3)
    | (go_at_call 63; refine (reg8_any _ oks'.out _ (HH.out.tabs HT.out)).mono ?_; rintro e w3 ⟨rfl, hb3⟩; replace HH := Lib.hid (HH.out.stay hb3); replace hci := HH.out.ci; replace hcp := HH.out.cp; clear hb3)
    | (go_at_call 66; refine (number_any _ (by assumption) (by assumption) _ (HH.out.tabs HT.out)).mono ?_; rintro e w3 ⟨rfl, hb3⟩; replace HH := Lib.hid (HH.out.stay hb3); replace hci := HH.out.ci; replace hcp := HH.out.cp; clear hb3)
    | (go_at_call 67; refine (memory_any _ _ oks'.out (by assumption) (by assumption) _ (HH.out.tabs HT.out)).mono ?_; rintro e w3 ⟨rfl, hb3⟩; replace HH := Lib.hid (HH.out.stay hb3); replace hci := HH.out.ci; replace hcp := HH.out.cp; clear hb3))
  go_ret
  exact OpsPost.of_new _ _ _ HH.out.bb (by simp) ⟨rfl, rfl, by first | (simp only [List.map_cons, List.map_nil, strV, ← str_cat]; done) | (simp only [List.map_cons, List.map_nil, strV, ← str_cat]; rfl)⟩

set_option maxRecDepth 100000 in
set_option maxHeartbeats 2000000 in
theorem ops_160 (i : Ins) (hi : i.Ok) (p : Place) (lo : 160 ≤ i.op) (hi2 : i.op ≤ 161) (hsz : 0 ≤ i.size ∧ i.size ≤ 7) (w : World) (hT : Tabs w) :
    Calls Tryd.prog 48 #[.agg #[.int .i64 (i).op, .int .i64 (i).d, .int .i64 (i).s, .int .u16 (i).imm, .int .u16 (i).aux, .int .i64 (i).bank, .int .i64 (i).size], .agg #[.int .i64 p.bank, .int .u16 p.addr]] w (OpsPost (opS i p) w) := by
  have e1 : opS i p = [reg8 i.d, Lib.itoa i.imm] := by unfold opS; simp (config := { decide := false }) only [if_neg (show ¬(i.op ≤ 5) by omega), if_neg (show ¬(i.op ≤ 19) by omega), if_neg (show ¬(i.op ≤ 21) by omega), if_neg (show ¬(i.op < 48) by omega), if_neg (show ¬(i.op < 80) by omega), if_neg (show ¬(84 ≤ i.op ∧ i.op ≤ 87) by omega), if_neg (show ¬(i.op < 96) by omega), if_neg (show ¬(i.op ≤ 130) by omega), if_neg (show ¬(i.op ≤ 132) by omega), if_neg (show ¬(i.op = 133) by omega), if_neg (show ¬(i.op = 134) by omega), if_neg (show ¬(i.op = 145) by omega), if_neg (show ¬(i.op = 146 ∨ i.op = 147) by omega), if_neg (show ¬(i.op = 150) by omega), if_neg (show ¬(i.op = 162 ∨ i.op = 163) by omega)]
  rw [e1]
  clear e1
  have n1 : ¬((i.op == 146) = true ∨ (i.op == 147) = true) := by simp only [beq_iff_eq]; omega
  have n2 : (i.op == 146) = false := by simp only [beq_eq_false_iff_ne]; omega
  have n3 : (i.op == 147) = false := by simp only [beq_eq_false_iff_ne]; omega
  have n4 : ¬((i.op == 162) = true ∨ (i.op == 163) = true) := by simp only [beq_iff_eq]; omega
  obtain ⟨s0, s1⟩ := hsz
  obtain ⟨m0, m1⟩ := hi.imm
  obtain ⟨a0, a1⟩ := hi.aux
  have okd := hi.d
  have oks := hi.s
  have okb := hi.bank
  have oki : i64ok i.imm := ⟨by omega, by omega⟩
  have hwi : IntKind.i64.wrap i.imm = i.imm := IntWalk.i64_in _ (by omega)
  have ld := reg8_len i.d hi.d
  have ls := reg8_len i.s hi.s
  have la := addr8_len i.imm
  have lb := Lib.itoa_length_le i.bank hi.bank.1 hi.bank.2
  have htg : IntKind.u16.wrap (IntKind.u16.wrap (p.addr + i.size) + i.imm) = tgt i p := tgt_eq i p
  have ht0 := tgt_lo i p
  have ht1 := tgt_hi i p
  have HTG := Lib.hid htg
  clear htg
  have okd' := Lib.hid okd
  have oks' := Lib.hid oks
  have okb' := Lib.hid okb
  have oki' := Lib.hid oki
  clear okd oks okb oki
  have HT := Lib.hid hT
  clear hT
  go_enter Tryd.func48, Tryd.ntmps48
  go_upto_region 1 with (fail)
  refine wp_region_noPanic ?_
  refine wp_region_held_drew (S := fun w' => ((∀ o, w'.cell? ⟨w.heap.size, o, none⟩ = (#[Value.int .i64 i.op, .int .i64 i.d, .int .i64 i.s, .int .u16 i.imm, .int .u16 i.aux, .int .i64 i.bank, .int .i64 i.size] : Array Value)[o]?) ∧ (∀ o, w'.cell? ⟨w.heap.size + 1, o, none⟩ = (#[Value.int .i64 p.bank, .int .u16 p.addr] : Array Value)[o]?))) (by kernel_rfl) ⟨fun o => cell_of_row _ _ _ _ _ _ (heap_alloc2_old _ _ _), fun o => cell_of_row _ _ _ _ _ _ (heap_alloc2_new _ _ _)⟩ (fun hHeld => ?_)
  (refine wpAnyH_take (i := 0) (oi := _) (v := ?_) rfl (by kernel_rfl) (by kernel_rfl) (by kernel_rfl) (fun _ _ _ h => h) (Or.inl ⟨by rfl, ?_⟩) (by assumption) ?_; rotate_left; (focus (intro w hSw; (try dsimp only at hSw); go_simp; try with_reducible rfl)); (try simp only [List.getElem_toArray, List.getElem_cons_succ, List.getElem_cons_zero, Act.put, List.setIfInBounds_toArray, List.set_cons_zero, List.set_cons_succ]))
  (refine wpAnyH_take (i := 1) (oi := _) (v := ?_) rfl (by kernel_rfl) (by kernel_rfl) (by kernel_rfl) (fun _ _ _ h => h) (Or.inl ⟨by rfl, ?_⟩) (by assumption) ?_; rotate_left; (focus (intro w hSw; (try dsimp only at hSw); go_simp; try with_reducible rfl)); (try simp only [List.getElem_toArray, List.getElem_cons_succ, List.getElem_cons_zero, Act.put, List.setIfInBounds_toArray, List.set_cons_zero, List.set_cons_succ]))
  (refine wpAnyH_take (i := 3) (oi := _) (v := ?_) rfl (by kernel_rfl) (by kernel_rfl) (by kernel_rfl) (fun _ _ _ h => h) (Or.inl ⟨by rfl, ?_⟩) (by assumption) ?_; rotate_left; (focus (intro w hSw; (try dsimp only at hSw); go_simp; try with_reducible rfl)); (try simp only [List.getElem_toArray, List.getElem_cons_succ, List.getElem_cons_zero, Act.put, List.setIfInBounds_toArray, List.set_cons_zero, List.set_cons_succ]))
  (refine wpAnyH_take (i := 4) (oi := _) (v := ?_) rfl (by kernel_rfl) (by kernel_rfl) (by kernel_rfl) (fun _ _ _ h => h) (Or.inl ⟨by rfl, ?_⟩) (by assumption) ?_; rotate_left; (focus (intro w hSw; (try dsimp only at hSw); go_simp; try with_reducible rfl)); (try simp only [List.getElem_toArray, List.getElem_cons_succ, List.getElem_cons_zero, Act.put, List.setIfInBounds_toArray, List.set_cons_zero, List.set_cons_succ]))
  (refine wpAnyH_take (i := 5) (oi := _) (v := ?_) rfl (by kernel_rfl) (by kernel_rfl) (by kernel_rfl) (fun _ _ _ h => h) (Or.inl ⟨by rfl, ?_⟩) (by assumption) ?_; rotate_left; (focus (intro w hSw; (try dsimp only at hSw); go_simp; try with_reducible rfl)); (try simp only [List.getElem_toArray, List.getElem_cons_succ, List.getElem_cons_zero, Act.put, List.setIfInBounds_toArray, List.set_cons_zero, List.set_cons_succ]))
  (refine wpAnyH_ready (rs := [2]) (by kernel_rfl) (by simp) (AllReadyH.cons (o := _) rfl (fun K hK => ?_) AllReadyH.nil))
  rw [if_pos (by rfl)]
  go_simp
  have H0 : Held i p w (((w.alloc (.cells #[Value.int .i64 i.op, .int .i64 i.d, .int .i64 i.s, .int .u16 i.imm, .int .u16 i.aux, .int .i64 i.bank, .int .i64 i.size] 24)).alloc (.cells #[.int .i64 p.bank, .int .u16 p.addr] 47)).drew) := ⟨hHeld.1, hHeld.2, by show _ ≤ ((w.alloc _).alloc _).heap.size; simp, (((Below.refl _ _).alloc (Nat.le_refl _) _).alloc (by simp) _).drew⟩
  refine (reg8_any i.d hi.d _ (H0.tabs HT.out)).mono ?_
  rintro e w1 ⟨rfl, hb1⟩
  have H1 := H0.stay hb1
  refine hK.out _ _ ⟨H1.ci, H1.cp⟩ (fun hHeld => ?_)
  (try simp only [List.getElem_toArray, List.getElem_cons_succ, List.getElem_cons_zero, Act.put, List.setIfInBounds_toArray, List.set_cons_zero, List.set_cons_succ])
  (refine wpAnyH_ready (rs := [6]) (by kernel_rfl) (by simp) (AllReadyH.cons (o := _) rfl (fun K hK => ?_) AllReadyH.nil))
  rw [if_pos (by rfl)]
  go_simp
  refine (itoa_any i.imm oki'.out _ (H1.tabs HT.out)).mono ?_
  rintro e w2 ⟨rfl, hb2⟩
  have H2 := H1.stay hb2
  refine hK.out _ _ ⟨H2.ci, H2.cp⟩ (fun hHeld => ?_)
  (try simp only [List.getElem_toArray, List.getElem_cons_succ, List.getElem_cons_zero, Act.put, List.setIfInBounds_toArray, List.set_cons_zero, List.set_cons_succ])
  (refine wpAnyH_take (i := 7) (oi := _) (v := ?_) rfl (by kernel_rfl) (by kernel_rfl) (by kernel_rfl) (fun _ _ _ h => h) (Or.inl ⟨by rfl, ?_⟩) (by assumption) ?_; rotate_left; (focus (intro w hSw; (try dsimp only at hSw); go_simp; try with_reducible rfl)); (try simp only [List.getElem_toArray, List.getElem_cons_succ, List.getElem_cons_zero, Act.put, List.setIfInBounds_toArray, List.set_cons_zero, List.set_cons_succ]))
  (refine wpAnyH_take (i := 8) (oi := _) (v := ?_) rfl (by kernel_rfl) (by kernel_rfl) (by kernel_rfl) (fun _ _ _ h => h) (Or.inl ⟨by rfl, ?_⟩) (by assumption) ?_; rotate_left; (focus (intro w hSw; (try dsimp only at hSw); go_simp; try with_reducible rfl)); (try simp only [List.getElem_toArray, List.getElem_cons_succ, List.getElem_cons_zero, Act.put, List.setIfInBounds_toArray, List.set_cons_zero, List.set_cons_succ]))
  refine wpAnyH_done (by kernel_rfl) ?_ _
  refine NoPanic.normal ?_
  clear hHeld hb1 hb2
  have HH := Lib.hid H2
  have hci := H2.ci
  have hcp := H2.cp
  clear H0 H1 H2
  go_wp2_with (first
    | (go_at_call 65; rw [HTG.out]; refine (addr8_any _ ht0 ht1 _ (HH.out.tabs HT.out)).mono ?_; rintro e w3 ⟨rfl, hb3⟩; replace HH := Lib.hid (HH.out.stay hb3); replace hci := HH.out.ci; replace hcp := HH.out.cp; clear hb3)
    | (go_at_call 65; refine (addr8_any _ (by assumption) (by assumption) _ (HH.out.tabs HT.out)).mono ?_; rintro e w3 ⟨rfl, hb3⟩; replace HH := Lib.hid (HH.out.stay hb3); replace hci := HH.out.ci; replace hcp := HH.out.cp; clear hb3)
    | (go_at_call 64; refine (itoa_any _ okb'.out _ (HH.out.tabs HT.out)).mono ?_; rintro e w3 ⟨rfl, hb3⟩; replace HH := Lib.hid (HH.out.stay hb3); replace hci := HH.out.ci; replace hcp := HH.out.cp; clear hb3)
    | (go_at_call 63; refine (reg8_any _ oks'.out _ (HH.out.tabs HT.out)).mono ?_; rintro e w3 ⟨rfl, hb3⟩; replace HH := Lib.hid (HH.out.stay hb3); replace hci := HH.out.ci; replace hcp := HH.out.cp; clear hb3)
    | (go_at_call 66; refine (number_any _ (by assumption) (by assumption) _ (HH.out.tabs HT.out)).mono ?_; rintro e w3 ⟨rfl, hb3⟩; replace HH := Lib.hid (HH.out.stay hb3); replace hci := HH.out.ci; replace hcp := HH.out.cp; clear hb3)
    | (go_at_call 67; refine (memory_any _ _ oks'.out (by assumption) (by assumption) _ (HH.out.tabs HT.out)).mono ?_; rintro e w3 ⟨rfl, hb3⟩; replace HH := Lib.hid (HH.out.stay hb3); replace hci := HH.out.ci; replace hcp := HH.out.cp; clear hb3))
  go_ret
  exact OpsPost.of_new _ _ _ HH.out.bb (by simp) ⟨rfl, rfl, by first | (simp only [List.map_cons, List.map_nil, strV, ← str_cat]; done) | (simp only [List.map_cons, List.map_nil, strV, ← str_cat]; rfl)⟩

end Go.Proofs.YtakahmhbopakmaaDoor
