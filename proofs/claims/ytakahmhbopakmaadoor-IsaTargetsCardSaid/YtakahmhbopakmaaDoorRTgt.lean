/- Seen, Falls, Target of the reference: walked; they answer as package isa's. Condition: the fields lie in their types' ranges. -/
import Derived.Test.YtakahmhbopakmaaDoorTargetA
import Derived.Test.YtakahmhbopakmaaDoorREncA
set_option linter.all false
namespace Go.Proofs.YtakahmhbopakmaaDoor
open Go.RowKit

theorem win_div (a : Int) (h0 : 0 ≤ a) (h1 : a < 65536) : (a / 4096 == 1) = winS a := by
  unfold winS
  rw [Bool.eq_iff_iff]
  simp
  omega
theorem rel_fmt : ∀ n : Nat, n < 164 → fmtS n ≠ 0 → relS n = ((fmtS n == 10) || (fmtS n == 11) || (fmtS n == 13)) ∧ farS n = (fmtS n == 12) := by decide +kernel
theorem rel_fmt' {op : Int} (h : fmtS op ≠ 0) : relS op = ((fmtS op == 10) || (fmtS op == 11) || (fmtS op == 13)) ∧ farS op = (fmtS op == 12) := by
  have h0 := op_of_fmt h
  obtain ⟨n, hn⟩ : ∃ n : Nat, op = n := ⟨op.toNat, by omega⟩
  subst hn
  exact rel_fmt n (by omega) h

def seenS (a : Int) (p : Place) : Place × Bool := if winS a then (if winS p.addr then (⟨p.bank, a⟩, true) else (⟨0, 0⟩, false)) else (⟨0, a⟩, true)

set_option maxRecDepth 100000 in
set_option maxHeartbeats 1000000 in
theorem seen_out (a : Int) (a0 : 0 ≤ a) (a1 : a < 65536) (p : Place) (p0 : 0 ≤ p.addr) (p1 : p.addr < 65536) (hw : winS a = false) (w : World) :
    Calls Tryd.prog 54 #[.int .u16 a, .agg #[.int .i64 p.bank, .int .u16 p.addr]] w fun e w' => e = .returned (.tuple #[.agg #[.int .i64 0, .int .u16 a], .bool true]) ∧ Below w.heap.size w w' := by
  have e1 : (a / 4096 == 1) = false := (win_div a a0 a1).trans hw
  have e1' : (a / 4096 != 1) = true := by simp [bne, e1]
  clear hw
  have t1 : a.tdiv 4096 = a / 4096 := Int.tdiv_eq_ediv_of_nonneg a0
  have t2 : p.addr.tdiv 4096 = p.addr / 4096 := Int.tdiv_eq_ediv_of_nonneg p0
  have t3 : IntKind.u16.wrap (a / 4096) = a / 4096 := IntWalk.u16_in _ (by omega)
  have t4 : IntKind.u16.wrap (p.addr / 4096) = p.addr / 4096 := IntWalk.u16_in _ (by omega)
  go_enter Tryd.func54, Tryd.ntmps54
  go_wp2
  refine bodyPost_ret (results_row_tmp (cs := #[.int .i64 0, .int .u16 a]) (fr := (0, 0)) Tryd.results54 _ _ (w.heap.size + 1) 47 _ ?_ (news_row (w.alloc (.cells #[.int .i64 p.bank, .int .u16 p.addr] 47)) (.cells #[.int .i64 0, .int .u16 a] 47) (by simp)) Tryd.underlying47 rfl (by kernel_rfl)) rfl ⟨rfl, (((Below.refl _ _).alloc (Nat.le_refl _) _).alloc (by simp) _)⟩
  rfl

set_option maxRecDepth 100000 in
set_option maxHeartbeats 1000000 in
theorem seen_in (a : Int) (a0 : 0 ≤ a) (a1 : a < 65536) (p : Place) (p0 : 0 ≤ p.addr) (p1 : p.addr < 65536) (hw : winS a = true) (hp : winS p.addr = true) (w : World) :
    Calls Tryd.prog 54 #[.int .u16 a, .agg #[.int .i64 p.bank, .int .u16 p.addr]] w fun e w' => e = .returned (.tuple #[.agg #[.int .i64 p.bank, .int .u16 a], .bool true]) ∧ Below w.heap.size w w' := by
  have e1 : (a / 4096 == 1) = true := (win_div a a0 a1).trans hw
  have e1' : (a / 4096 != 1) = false := by simp [bne, e1]
  have e2 : (p.addr / 4096 == 1) = true := (win_div p.addr p0 p1).trans hp
  clear hw hp
  have t1 : a.tdiv 4096 = a / 4096 := Int.tdiv_eq_ediv_of_nonneg a0
  have t2 : p.addr.tdiv 4096 = p.addr / 4096 := Int.tdiv_eq_ediv_of_nonneg p0
  have t3 : IntKind.u16.wrap (a / 4096) = a / 4096 := IntWalk.u16_in _ (by omega)
  have t4 : IntKind.u16.wrap (p.addr / 4096) = p.addr / 4096 := IntWalk.u16_in _ (by omega)
  go_enter Tryd.func54, Tryd.ntmps54
  go_wp2
  refine bodyPost_ret (results_row_tmp (cs := #[.int .i64 p.bank, .int .u16 a]) (fr := (0, 0)) Tryd.results54 _ _ (w.heap.size + 1) 47 _ ?_ (news_row (w.alloc (.cells #[.int .i64 p.bank, .int .u16 p.addr] 47)) (.cells #[.int .i64 p.bank, .int .u16 a] 47) (by simp)) Tryd.underlying47 rfl (by kernel_rfl)) rfl ⟨rfl, (((Below.refl _ _).alloc (Nat.le_refl _) _).alloc (by simp) _)⟩
  rfl

set_option maxRecDepth 100000 in
set_option maxHeartbeats 1000000 in
theorem seen_no (a : Int) (a0 : 0 ≤ a) (a1 : a < 65536) (p : Place) (p0 : 0 ≤ p.addr) (p1 : p.addr < 65536) (hw : winS a = true) (hp : winS p.addr = false) (w : World) :
    Calls Tryd.prog 54 #[.int .u16 a, .agg #[.int .i64 p.bank, .int .u16 p.addr]] w fun e w' => e = .returned (.tuple #[.agg #[.int .i64 0, .int .u16 0], .bool false]) ∧ Below w.heap.size w w' := by
  have e1 : (a / 4096 == 1) = true := (win_div a a0 a1).trans hw
  have e1' : (a / 4096 != 1) = false := by simp [bne, e1]
  have e2 : (p.addr / 4096 == 1) = false := (win_div p.addr p0 p1).trans hp
  clear hw hp
  have t1 : a.tdiv 4096 = a / 4096 := Int.tdiv_eq_ediv_of_nonneg a0
  have t2 : p.addr.tdiv 4096 = p.addr / 4096 := Int.tdiv_eq_ediv_of_nonneg p0
  have t3 : IntKind.u16.wrap (a / 4096) = a / 4096 := IntWalk.u16_in _ (by omega)
  have t4 : IntKind.u16.wrap (p.addr / 4096) = p.addr / 4096 := IntWalk.u16_in _ (by omega)
  go_enter Tryd.func54, Tryd.ntmps54
  go_wp2
  refine bodyPost_ret (results_row_tmp (cs := #[.int .i64 0, .int .u16 0]) (fr := (0, 0)) Tryd.results54 _ _ (w.heap.size + 1) 47 _ ?_ (news_row (w.alloc (.cells #[.int .i64 p.bank, .int .u16 p.addr] 47)) (.cells #[.int .i64 0, .int .u16 0] 47) (by simp)) Tryd.underlying47 rfl (by kernel_rfl)) rfl ⟨rfl, (((Below.refl _ _).alloc (Nat.le_refl _) _).alloc (by simp) _)⟩
  rfl

theorem seen_any (a : Int) (a0 : 0 ≤ a) (a1 : a < 65536) (p : Place) (p0 : 0 ≤ p.addr) (p1 : p.addr < 65536) (w : World) :
    Calls Tryd.prog 54 #[.int .u16 a, .agg #[.int .i64 p.bank, .int .u16 p.addr]] w fun e w' => e = .returned (.tuple #[.agg #[.int .i64 (seenS a p).1.bank, .int .u16 (seenS a p).1.addr], .bool (seenS a p).2]) ∧ Below w.heap.size w w' := by
  unfold seenS
  cases hw : winS a with
  | false => exact seen_out a a0 a1 p p0 p1 hw w
  | true =>
    cases hp : winS p.addr with
    | true => exact seen_in a a0 a1 p p0 p1 hw hp w
    | false => exact seen_no a a0 a1 p p0 p1 hw hp w

theorem rfalls_stop (i : Ins) (h : stopS i.op = true) (w : World) :
    Calls Tryd.prog 31 #[.agg #[.int .i64 (i).op, .int .i64 (i).d, .int .i64 (i).s, .int .u16 (i).imm, .int .u16 (i).aux, .int .i64 (i).bank, .int .i64 (i).size]] w fun e w' => e = .returned (.bool (fallsS i)) ∧ Below w.heap.size w w' := by
  have e1 : fallsS i = false := by unfold fallsS; rw [h]; rfl
  rw [e1]
  clear e1
  unfold stopS at h
  simp only [Bool.or_eq_true, beq_iff_eq, or_assoc] at h
  obtain ⟨op, d, s, imm, aux, bank, size⟩ := i
  have HB := Lib.hid (heap_alloc_new w (.cells #[.int .i64 op, .int .i64 d, .int .i64 s, .int .u16 imm, .int .u16 aux, .int .i64 bank, .int .i64 size] 24))
  rcases h with h | h | h | h | h | h | h | h <;> subst h
  · go_enter Tryd.func31, Tryd.ntmps31
    go_wp2_with (first
      | (refine wpList_load_row rfl _ (.tmp 1) rfl _ rfl _ _ _ _ HB.out Tryd.underlying24 rfl ?_ ?_; kernel_rfl)
      | (go_at_call 21; refine (rvalid_any ⟨1, d, s, imm, aux, bank, size⟩ _).mono ?_; rintro e w2 ⟨rfl, hb2⟩; have hc := cell_of_row w2 w.heap.size 0 _ _ _ ((hb2.block _ (by simp)).trans HB.out)))
    go_ret
    exact ⟨rfl, ((Below.refl _ _).alloc (Nat.le_refl _) _).trans (hb2.mono (by simp))⟩
  · go_enter Tryd.func31, Tryd.ntmps31
    go_wp2_with (first
      | (refine wpList_load_row rfl _ (.tmp 1) rfl _ rfl _ _ _ _ HB.out Tryd.underlying24 rfl ?_ ?_; kernel_rfl)
      | (go_at_call 21; refine (rvalid_any ⟨2, d, s, imm, aux, bank, size⟩ _).mono ?_; rintro e w2 ⟨rfl, hb2⟩; have hc := cell_of_row w2 w.heap.size 0 _ _ _ ((hb2.block _ (by simp)).trans HB.out)))
    go_ret
    exact ⟨rfl, ((Below.refl _ _).alloc (Nat.le_refl _) _).trans (hb2.mono (by simp))⟩
  · go_enter Tryd.func31, Tryd.ntmps31
    go_wp2_with (first
      | (refine wpList_load_row rfl _ (.tmp 1) rfl _ rfl _ _ _ _ HB.out Tryd.underlying24 rfl ?_ ?_; kernel_rfl)
      | (go_at_call 21; refine (rvalid_any ⟨3, d, s, imm, aux, bank, size⟩ _).mono ?_; rintro e w2 ⟨rfl, hb2⟩; have hc := cell_of_row w2 w.heap.size 0 _ _ _ ((hb2.block _ (by simp)).trans HB.out)))
    go_ret
    exact ⟨rfl, ((Below.refl _ _).alloc (Nat.le_refl _) _).trans (hb2.mono (by simp))⟩
  · go_enter Tryd.func31, Tryd.ntmps31
    go_wp2_with (first
      | (refine wpList_load_row rfl _ (.tmp 1) rfl _ rfl _ _ _ _ HB.out Tryd.underlying24 rfl ?_ ?_; kernel_rfl)
      | (go_at_call 21; refine (rvalid_any ⟨128, d, s, imm, aux, bank, size⟩ _).mono ?_; rintro e w2 ⟨rfl, hb2⟩; have hc := cell_of_row w2 w.heap.size 0 _ _ _ ((hb2.block _ (by simp)).trans HB.out)))
    go_ret
    exact ⟨rfl, ((Below.refl _ _).alloc (Nat.le_refl _) _).trans (hb2.mono (by simp))⟩
  · go_enter Tryd.func31, Tryd.ntmps31
    go_wp2_with (first
      | (refine wpList_load_row rfl _ (.tmp 1) rfl _ rfl _ _ _ _ HB.out Tryd.underlying24 rfl ?_ ?_; kernel_rfl)
      | (go_at_call 21; refine (rvalid_any ⟨129, d, s, imm, aux, bank, size⟩ _).mono ?_; rintro e w2 ⟨rfl, hb2⟩; have hc := cell_of_row w2 w.heap.size 0 _ _ _ ((hb2.block _ (by simp)).trans HB.out)))
    go_ret
    exact ⟨rfl, ((Below.refl _ _).alloc (Nat.le_refl _) _).trans (hb2.mono (by simp))⟩
  · go_enter Tryd.func31, Tryd.ntmps31
    go_wp2_with (first
      | (refine wpList_load_row rfl _ (.tmp 1) rfl _ rfl _ _ _ _ HB.out Tryd.underlying24 rfl ?_ ?_; kernel_rfl)
      | (go_at_call 21; refine (rvalid_any ⟨131, d, s, imm, aux, bank, size⟩ _).mono ?_; rintro e w2 ⟨rfl, hb2⟩; have hc := cell_of_row w2 w.heap.size 0 _ _ _ ((hb2.block _ (by simp)).trans HB.out)))
    go_ret
    exact ⟨rfl, ((Below.refl _ _).alloc (Nat.le_refl _) _).trans (hb2.mono (by simp))⟩
  · go_enter Tryd.func31, Tryd.ntmps31
    go_wp2_with (first
      | (refine wpList_load_row rfl _ (.tmp 1) rfl _ rfl _ _ _ _ HB.out Tryd.underlying24 rfl ?_ ?_; kernel_rfl)
      | (go_at_call 21; refine (rvalid_any ⟨133, d, s, imm, aux, bank, size⟩ _).mono ?_; rintro e w2 ⟨rfl, hb2⟩; have hc := cell_of_row w2 w.heap.size 0 _ _ _ ((hb2.block _ (by simp)).trans HB.out)))
    go_ret
    exact ⟨rfl, ((Below.refl _ _).alloc (Nat.le_refl _) _).trans (hb2.mono (by simp))⟩
  · go_enter Tryd.func31, Tryd.ntmps31
    go_wp2_with (first
      | (refine wpList_load_row rfl _ (.tmp 1) rfl _ rfl _ _ _ _ HB.out Tryd.underlying24 rfl ?_ ?_; kernel_rfl)
      | (go_at_call 21; refine (rvalid_any ⟨134, d, s, imm, aux, bank, size⟩ _).mono ?_; rintro e w2 ⟨rfl, hb2⟩; have hc := cell_of_row w2 w.heap.size 0 _ _ _ ((hb2.block _ (by simp)).trans HB.out)))
    go_ret
    exact ⟨rfl, ((Below.refl _ _).alloc (Nat.le_refl _) _).trans (hb2.mono (by simp))⟩

theorem rfalls_any (i : Ins) (hi : i.Ok) (w : World) :
    Calls Tryd.prog 31 #[.agg #[.int .i64 (i).op, .int .i64 (i).d, .int .i64 (i).s, .int .u16 (i).imm, .int .u16 (i).aux, .int .i64 (i).bank, .int .i64 (i).size]] w fun e w' => e = .returned (.bool (fallsS i)) ∧ Below w.heap.size w w' := by
  cases h : stopS i.op with
  | true => exact rfalls_stop i h w
  | false =>
    have e1 : fallsS i = rvalidS i := by unfold fallsS; rw [h, valid_eq i hi]; rfl
    rw [e1]
    clear e1
    unfold stopS at h
    simp only [Bool.or_eq_false_iff, beq_eq_false_iff_ne, and_assoc] at h
    obtain ⟨h1, h2, h3, h4, h5, h6, h7, h8⟩ := h
    have HB := Lib.hid (heap_alloc_new w (.cells #[.int .i64 i.op, .int .i64 i.d, .int .i64 i.s, .int .u16 i.imm, .int .u16 i.aux, .int .i64 i.bank, .int .i64 i.size] 24))
    go_enter Tryd.func31, Tryd.ntmps31
    go_wp2_with (first
      | (refine wpList_load_row rfl _ (.tmp 1) rfl _ rfl _ _ _ _ HB.out Tryd.underlying24 rfl ?_ ?_; kernel_rfl)
      | (go_at_call 21; refine (rvalid_any i _).mono ?_; rintro e w2 ⟨rfl, hb2⟩; have hc := cell_of_row w2 w.heap.size 0 _ _ _ ((hb2.block _ (by simp)).trans HB.out)))
    go_ret
    exact ⟨rfl, ((Below.refl _ _).alloc (Nat.le_refl _) _).trans (hb2.mono (by simp))⟩

theorem target_seen (i : Ins) (p : Place) (hv : validS i = true) (hf : fmtS i.op ≠ 0) : targetS i p = if (fmtS i.op == 10) || (fmtS i.op == 11) || (fmtS i.op == 13) then seenS (tgt i p) p else if fmtS i.op == 12 then (if winS i.imm then (⟨i.bank, i.imm⟩, true) else (⟨0, i.imm⟩, true)) else (⟨0, 0⟩, false) := by
  unfold targetS seenS
  rw [if_pos hv, (rel_fmt' hf).1, (rel_fmt' hf).2]

set_option maxRecDepth 100000 in
set_option maxHeartbeats 1000000 in
theorem rtarget_bad (i : Ins) (hi : i.Ok) (p : Place) (p0 : 0 ≤ p.addr) (p1 : p.addr < 65536) (hv : validS i = false) (w : World) :
    Calls Tryd.prog 29 #[.agg #[.int .i64 (i).op, .int .i64 (i).d, .int .i64 (i).s, .int .u16 (i).imm, .int .u16 (i).aux, .int .i64 (i).bank, .int .i64 (i).size], .agg #[.int .i64 p.bank, .int .u16 p.addr]] w fun e w' => e = .returned (.tuple #[.agg #[.int .i64 0, .int .u16 0], .bool false]) ∧ Below w.heap.size w w' := by
  have HH := Lib.hid (THeld.first i p w)
  rw [valid_eq i hi] at hv
  have HV := Lib.hid hv
  clear hv
  go_enter Tryd.func29, Tryd.ntmps29
  go_wp2_with (first
    | (refine wpList_load_row rfl _ (.tmp 2) rfl _ rfl _ _ _ _ HH.out.b0 Tryd.underlying24 rfl ?_ ?_; kernel_rfl)
    | (go_at_call 21; refine (rvalid_any i _).mono ?_; rintro e w2 ⟨rfl, hb2⟩; rw [HV.out]; have HH := Lib.hid (HH.out.stay hb2); have hci := HH.out.ci; have hcp := HH.out.cp; clear hb2)
    | (go_at_call 32; refine (fmt_any _ _).mono ?_; rintro e w3 ⟨rfl, hb3⟩; replace HH := Lib.hid (HH.out.stay hb3); clear hci hcp; have hci := HH.out.ci; have hcp := HH.out.cp; clear hb3)
    | (refine wpList_store_row rfl _ (.tmp 4) _ rfl _ #[.int .i64 0, .int .u16 0] rfl rfl _ _ HH.out.br ?_ ?_ ?_ ?_; kernel_rfl; rfl; kernel_rfl))
  refine bodyPost_ret (results_row_tmp (cs := #[.int .i64 0, .int .u16 0]) (fr := (0, 0)) Tryd.results29 _ _ (w.heap.size + 2) 47 _ ?_ (setRow_heap _ _ _ _ _ _ HH.out.br) Tryd.underlying47 rfl (by kernel_rfl)) rfl ⟨rfl, below_setRow HH.out.bb (by omega) _⟩
  rfl

set_option maxRecDepth 100000 in
set_option maxHeartbeats 1000000 in
theorem rtarget_rel10 (i : Ins) (hi : i.Ok) (p : Place) (p0 : 0 ≤ p.addr) (p1 : p.addr < 65536) (hv : validS i = true) (hf : fmtS i.op = 10) (w : World) :
    Calls Tryd.prog 29 #[.agg #[.int .i64 (i).op, .int .i64 (i).d, .int .i64 (i).s, .int .u16 (i).imm, .int .u16 (i).aux, .int .i64 (i).bank, .int .i64 (i).size], .agg #[.int .i64 p.bank, .int .u16 p.addr]] w fun e w' => e = .returned (.tuple #[.agg #[.int .i64 (seenS (tgt i p) p).1.bank, .int .u16 (seenS (tgt i p) p).1.addr], .bool (seenS (tgt i p) p).2]) ∧ Below w.heap.size w w' := by
  have HH := Lib.hid (THeld.first i p w)
  rw [valid_eq i hi] at hv
  have HV := Lib.hid hv
  have hz := valid_size_bd hi (by rw [valid_eq i hi]; exact hv)
  obtain ⟨s0, s1⟩ := hz
  have HF := Lib.hid hf
  have HTG := Lib.hid (tgt_eq i p)
  clear hv hf
  go_enter Tryd.func29, Tryd.ntmps29
  go_wp2_with (first
    | (refine wpList_load_row rfl _ (.tmp 2) rfl _ rfl _ _ _ _ HH.out.b0 Tryd.underlying24 rfl ?_ ?_; kernel_rfl)
    | (go_at_call 21; refine (rvalid_any i _).mono ?_; rintro e w2 ⟨rfl, hb2⟩; rw [HV.out]; have HH := Lib.hid (HH.out.stay hb2); have hci := HH.out.ci; have hcp := HH.out.cp; clear hb2)
    | (go_at_call 32; refine (fmt_any _ _).mono ?_; rintro e w3 ⟨rfl, hb3⟩; rw [HF.out]; replace HH := Lib.hid (HH.out.stay hb3); clear hci hcp; have hci := HH.out.ci; have hcp := HH.out.cp; clear hb3)
    | (refine wpList_load_row rfl _ (.tmp 3) rfl _ rfl _ _ _ _ HH.out.bp Tryd.underlying47 rfl ?_ ?_; kernel_rfl)
    | (go_at_call 54; rw [HTG.out]; refine (seen_any (tgt i p) (tgt_lo i p) (tgt_hi i p) p p0 p1 _).mono ?_; rintro e w4 ⟨rfl, hb4⟩; replace HH := Lib.hid (HH.out.stay hb4); clear hci hcp hb4)
    | (refine wpList_store_row rfl _ (.tmp 4) _ rfl _ #[.int .i64 (seenS (tgt i p) p).1.bank, .int .u16 (seenS (tgt i p) p).1.addr] rfl rfl _ _ HH.out.br ?_ ?_ ?_ ?_; kernel_rfl; rfl; kernel_rfl))
  refine bodyPost_ret (results_row_tmp (cs := #[.int .i64 (seenS (tgt i p) p).1.bank, .int .u16 (seenS (tgt i p) p).1.addr]) (fr := (0, 0)) Tryd.results29 _ _ (w.heap.size + 2) 47 _ ?_ (setRow_heap _ _ _ _ _ _ HH.out.br) Tryd.underlying47 rfl (by kernel_rfl)) rfl ⟨rfl, below_setRow HH.out.bb (by omega) _⟩
  rfl

set_option maxRecDepth 100000 in
set_option maxHeartbeats 1000000 in
theorem rtarget_rel11 (i : Ins) (hi : i.Ok) (p : Place) (p0 : 0 ≤ p.addr) (p1 : p.addr < 65536) (hv : validS i = true) (hf : fmtS i.op = 11) (w : World) :
    Calls Tryd.prog 29 #[.agg #[.int .i64 (i).op, .int .i64 (i).d, .int .i64 (i).s, .int .u16 (i).imm, .int .u16 (i).aux, .int .i64 (i).bank, .int .i64 (i).size], .agg #[.int .i64 p.bank, .int .u16 p.addr]] w fun e w' => e = .returned (.tuple #[.agg #[.int .i64 (seenS (tgt i p) p).1.bank, .int .u16 (seenS (tgt i p) p).1.addr], .bool (seenS (tgt i p) p).2]) ∧ Below w.heap.size w w' := by
  have HH := Lib.hid (THeld.first i p w)
  rw [valid_eq i hi] at hv
  have HV := Lib.hid hv
  have hz := valid_size_bd hi (by rw [valid_eq i hi]; exact hv)
  obtain ⟨s0, s1⟩ := hz
  have HF := Lib.hid hf
  have HTG := Lib.hid (tgt_eq i p)
  clear hv hf
  go_enter Tryd.func29, Tryd.ntmps29
  go_wp2_with (first
    | (refine wpList_load_row rfl _ (.tmp 2) rfl _ rfl _ _ _ _ HH.out.b0 Tryd.underlying24 rfl ?_ ?_; kernel_rfl)
    | (go_at_call 21; refine (rvalid_any i _).mono ?_; rintro e w2 ⟨rfl, hb2⟩; rw [HV.out]; have HH := Lib.hid (HH.out.stay hb2); have hci := HH.out.ci; have hcp := HH.out.cp; clear hb2)
    | (go_at_call 32; refine (fmt_any _ _).mono ?_; rintro e w3 ⟨rfl, hb3⟩; rw [HF.out]; replace HH := Lib.hid (HH.out.stay hb3); clear hci hcp; have hci := HH.out.ci; have hcp := HH.out.cp; clear hb3)
    | (refine wpList_load_row rfl _ (.tmp 3) rfl _ rfl _ _ _ _ HH.out.bp Tryd.underlying47 rfl ?_ ?_; kernel_rfl)
    | (go_at_call 54; rw [HTG.out]; refine (seen_any (tgt i p) (tgt_lo i p) (tgt_hi i p) p p0 p1 _).mono ?_; rintro e w4 ⟨rfl, hb4⟩; replace HH := Lib.hid (HH.out.stay hb4); clear hci hcp hb4)
    | (refine wpList_store_row rfl _ (.tmp 4) _ rfl _ #[.int .i64 (seenS (tgt i p) p).1.bank, .int .u16 (seenS (tgt i p) p).1.addr] rfl rfl _ _ HH.out.br ?_ ?_ ?_ ?_; kernel_rfl; rfl; kernel_rfl))
  refine bodyPost_ret (results_row_tmp (cs := #[.int .i64 (seenS (tgt i p) p).1.bank, .int .u16 (seenS (tgt i p) p).1.addr]) (fr := (0, 0)) Tryd.results29 _ _ (w.heap.size + 2) 47 _ ?_ (setRow_heap _ _ _ _ _ _ HH.out.br) Tryd.underlying47 rfl (by kernel_rfl)) rfl ⟨rfl, below_setRow HH.out.bb (by omega) _⟩
  rfl

set_option maxRecDepth 100000 in
set_option maxHeartbeats 1000000 in
theorem rtarget_rel13 (i : Ins) (hi : i.Ok) (p : Place) (p0 : 0 ≤ p.addr) (p1 : p.addr < 65536) (hv : validS i = true) (hf : fmtS i.op = 13) (w : World) :
    Calls Tryd.prog 29 #[.agg #[.int .i64 (i).op, .int .i64 (i).d, .int .i64 (i).s, .int .u16 (i).imm, .int .u16 (i).aux, .int .i64 (i).bank, .int .i64 (i).size], .agg #[.int .i64 p.bank, .int .u16 p.addr]] w fun e w' => e = .returned (.tuple #[.agg #[.int .i64 (seenS (tgt i p) p).1.bank, .int .u16 (seenS (tgt i p) p).1.addr], .bool (seenS (tgt i p) p).2]) ∧ Below w.heap.size w w' := by
  have HH := Lib.hid (THeld.first i p w)
  rw [valid_eq i hi] at hv
  have HV := Lib.hid hv
  have hz := valid_size_bd hi (by rw [valid_eq i hi]; exact hv)
  obtain ⟨s0, s1⟩ := hz
  have HF := Lib.hid hf
  have HTG := Lib.hid (tgt_eq i p)
  clear hv hf
  go_enter Tryd.func29, Tryd.ntmps29
  go_wp2_with (first
    | (refine wpList_load_row rfl _ (.tmp 2) rfl _ rfl _ _ _ _ HH.out.b0 Tryd.underlying24 rfl ?_ ?_; kernel_rfl)
    | (go_at_call 21; refine (rvalid_any i _).mono ?_; rintro e w2 ⟨rfl, hb2⟩; rw [HV.out]; have HH := Lib.hid (HH.out.stay hb2); have hci := HH.out.ci; have hcp := HH.out.cp; clear hb2)
    | (go_at_call 32; refine (fmt_any _ _).mono ?_; rintro e w3 ⟨rfl, hb3⟩; rw [HF.out]; replace HH := Lib.hid (HH.out.stay hb3); clear hci hcp; have hci := HH.out.ci; have hcp := HH.out.cp; clear hb3)
    | (refine wpList_load_row rfl _ (.tmp 3) rfl _ rfl _ _ _ _ HH.out.bp Tryd.underlying47 rfl ?_ ?_; kernel_rfl)
    | (go_at_call 54; rw [HTG.out]; refine (seen_any (tgt i p) (tgt_lo i p) (tgt_hi i p) p p0 p1 _).mono ?_; rintro e w4 ⟨rfl, hb4⟩; replace HH := Lib.hid (HH.out.stay hb4); clear hci hcp hb4)
    | (refine wpList_store_row rfl _ (.tmp 4) _ rfl _ #[.int .i64 (seenS (tgt i p) p).1.bank, .int .u16 (seenS (tgt i p) p).1.addr] rfl rfl _ _ HH.out.br ?_ ?_ ?_ ?_; kernel_rfl; rfl; kernel_rfl))
  refine bodyPost_ret (results_row_tmp (cs := #[.int .i64 (seenS (tgt i p) p).1.bank, .int .u16 (seenS (tgt i p) p).1.addr]) (fr := (0, 0)) Tryd.results29 _ _ (w.heap.size + 2) 47 _ ?_ (setRow_heap _ _ _ _ _ _ HH.out.br) Tryd.underlying47 rfl (by kernel_rfl)) rfl ⟨rfl, below_setRow HH.out.bb (by omega) _⟩
  rfl

set_option maxRecDepth 100000 in
set_option maxHeartbeats 1000000 in
theorem rtarget_far1 (i : Ins) (hi : i.Ok) (p : Place) (p0 : 0 ≤ p.addr) (p1 : p.addr < 65536) (hv : validS i = true) (hf : fmtS i.op = 12) (hw : winS i.imm = true) (w : World) :
    Calls Tryd.prog 29 #[.agg #[.int .i64 (i).op, .int .i64 (i).d, .int .i64 (i).s, .int .u16 (i).imm, .int .u16 (i).aux, .int .i64 (i).bank, .int .i64 (i).size], .agg #[.int .i64 p.bank, .int .u16 p.addr]] w fun e w' => e = .returned (.tuple #[.agg #[.int .i64 i.bank, .int .u16 i.imm], .bool true]) ∧ Below w.heap.size w w' := by
  have HH := Lib.hid (THeld.first i p w)
  rw [valid_eq i hi] at hv
  have HV := Lib.hid hv
  have HF := Lib.hid hf
  have e1 : (i.imm / 4096 == 1) = true := (win_div i.imm hi.imm.1 hi.imm.2).trans hw
  have m0 := hi.imm.1
  have t1 : i.imm.tdiv 4096 = i.imm / 4096 := Int.tdiv_eq_ediv_of_nonneg m0
  have t3 : IntKind.u16.wrap (i.imm / 4096) = i.imm / 4096 := IntWalk.u16_in _ (by have := hi.imm.2; omega)
  clear hv hf hw
  go_enter Tryd.func29, Tryd.ntmps29
  go_wp2_with (first
    | (refine wpList_load_row rfl _ (.tmp 2) rfl _ rfl _ _ _ _ HH.out.b0 Tryd.underlying24 rfl ?_ ?_; kernel_rfl)
    | (go_at_call 21; refine (rvalid_any i _).mono ?_; rintro e w2 ⟨rfl, hb2⟩; rw [HV.out]; have HH := Lib.hid (HH.out.stay hb2); have hci := HH.out.ci; have hcp := HH.out.cp; clear hb2)
    | (go_at_call 32; refine (fmt_any _ _).mono ?_; rintro e w3 ⟨rfl, hb3⟩; rw [HF.out]; replace HH := Lib.hid (HH.out.stay hb3); clear hci hcp; have hci := HH.out.ci; have hcp := HH.out.cp; clear hb3)
    | (refine wpList_store_row rfl _ (.tmp 4) _ rfl _ #[.int .i64 i.bank, .int .u16 i.imm] rfl rfl _ _ HH.out.br ?_ ?_ ?_ ?_; kernel_rfl; rfl; kernel_rfl))
  refine bodyPost_ret (results_row_tmp (cs := #[.int .i64 i.bank, .int .u16 i.imm]) (fr := (0, 0)) Tryd.results29 _ _ (w.heap.size + 2) 47 _ ?_ (setRow_heap _ _ _ _ _ _ HH.out.br) Tryd.underlying47 rfl (by kernel_rfl)) rfl ⟨rfl, below_setRow HH.out.bb (by omega) _⟩
  rfl

set_option maxRecDepth 100000 in
set_option maxHeartbeats 1000000 in
theorem rtarget_far0 (i : Ins) (hi : i.Ok) (p : Place) (p0 : 0 ≤ p.addr) (p1 : p.addr < 65536) (hv : validS i = true) (hf : fmtS i.op = 12) (hw : winS i.imm = false) (w : World) :
    Calls Tryd.prog 29 #[.agg #[.int .i64 (i).op, .int .i64 (i).d, .int .i64 (i).s, .int .u16 (i).imm, .int .u16 (i).aux, .int .i64 (i).bank, .int .i64 (i).size], .agg #[.int .i64 p.bank, .int .u16 p.addr]] w fun e w' => e = .returned (.tuple #[.agg #[.int .i64 0, .int .u16 i.imm], .bool true]) ∧ Below w.heap.size w w' := by
  have HH := Lib.hid (THeld.first i p w)
  rw [valid_eq i hi] at hv
  have HV := Lib.hid hv
  have HF := Lib.hid hf
  have e1 : (i.imm / 4096 == 1) = false := (win_div i.imm hi.imm.1 hi.imm.2).trans hw
  have m0 := hi.imm.1
  have t1 : i.imm.tdiv 4096 = i.imm / 4096 := Int.tdiv_eq_ediv_of_nonneg m0
  have t3 : IntKind.u16.wrap (i.imm / 4096) = i.imm / 4096 := IntWalk.u16_in _ (by have := hi.imm.2; omega)
  clear hv hf hw
  go_enter Tryd.func29, Tryd.ntmps29
  go_wp2_with (first
    | (refine wpList_load_row rfl _ (.tmp 2) rfl _ rfl _ _ _ _ HH.out.b0 Tryd.underlying24 rfl ?_ ?_; kernel_rfl)
    | (go_at_call 21; refine (rvalid_any i _).mono ?_; rintro e w2 ⟨rfl, hb2⟩; rw [HV.out]; have HH := Lib.hid (HH.out.stay hb2); have hci := HH.out.ci; have hcp := HH.out.cp; clear hb2)
    | (go_at_call 32; refine (fmt_any _ _).mono ?_; rintro e w3 ⟨rfl, hb3⟩; rw [HF.out]; replace HH := Lib.hid (HH.out.stay hb3); clear hci hcp; have hci := HH.out.ci; have hcp := HH.out.cp; clear hb3)
    | (refine wpList_store_row rfl _ (.tmp 4) _ rfl _ #[.int .i64 0, .int .u16 i.imm] rfl rfl _ _ HH.out.br ?_ ?_ ?_ ?_; kernel_rfl; rfl; kernel_rfl))
  refine bodyPost_ret (results_row_tmp (cs := #[.int .i64 0, .int .u16 i.imm]) (fr := (0, 0)) Tryd.results29 _ _ (w.heap.size + 2) 47 _ ?_ (setRow_heap _ _ _ _ _ _ HH.out.br) Tryd.underlying47 rfl (by kernel_rfl)) rfl ⟨rfl, below_setRow HH.out.bb (by omega) _⟩
  rfl

set_option maxRecDepth 100000 in
set_option maxHeartbeats 1000000 in
theorem rtarget_none (i : Ins) (hi : i.Ok) (p : Place) (p0 : 0 ≤ p.addr) (p1 : p.addr < 65536) (hv : validS i = true) (h10 : (fmtS i.op == 10) = false) (h11 : (fmtS i.op == 11) = false) (h13 : (fmtS i.op == 13) = false) (h12 : (fmtS i.op == 12) = false) (w : World) :
    Calls Tryd.prog 29 #[.agg #[.int .i64 (i).op, .int .i64 (i).d, .int .i64 (i).s, .int .u16 (i).imm, .int .u16 (i).aux, .int .i64 (i).bank, .int .i64 (i).size], .agg #[.int .i64 p.bank, .int .u16 p.addr]] w fun e w' => e = .returned (.tuple #[.agg #[.int .i64 0, .int .u16 0], .bool false]) ∧ Below w.heap.size w w' := by
  have HH := Lib.hid (THeld.first i p w)
  rw [valid_eq i hi] at hv
  have HV := Lib.hid hv
  clear hv
  go_enter Tryd.func29, Tryd.ntmps29
  go_wp2_with (first
    | (refine wpList_load_row rfl _ (.tmp 2) rfl _ rfl _ _ _ _ HH.out.b0 Tryd.underlying24 rfl ?_ ?_; kernel_rfl)
    | (go_at_call 21; refine (rvalid_any i _).mono ?_; rintro e w2 ⟨rfl, hb2⟩; rw [HV.out]; have HH := Lib.hid (HH.out.stay hb2); have hci := HH.out.ci; have hcp := HH.out.cp; clear hb2)
    | (go_at_call 32; refine (fmt_any _ _).mono ?_; rintro e w3 ⟨rfl, hb3⟩; replace HH := Lib.hid (HH.out.stay hb3); clear hci hcp; have hci := HH.out.ci; have hcp := HH.out.cp; clear hb3)
    | (refine wpList_store_row rfl _ (.tmp 4) _ rfl _ #[.int .i64 0, .int .u16 0] rfl rfl _ _ HH.out.br ?_ ?_ ?_ ?_; kernel_rfl; rfl; kernel_rfl))
  refine bodyPost_ret (results_row_tmp (cs := #[.int .i64 0, .int .u16 0]) (fr := (0, 0)) Tryd.results29 _ _ (w.heap.size + 2) 47 _ ?_ (setRow_heap _ _ _ _ _ _ HH.out.br) Tryd.underlying47 rfl (by kernel_rfl)) rfl ⟨rfl, below_setRow HH.out.bb (by omega) _⟩
  rfl

theorem rtarget_any (i : Ins) (hi : i.Ok) (p : Place) (p0 : 0 ≤ p.addr) (p1 : p.addr < 65536) (w : World) :
    Calls Tryd.prog 29 #[.agg #[.int .i64 (i).op, .int .i64 (i).d, .int .i64 (i).s, .int .u16 (i).imm, .int .u16 (i).aux, .int .i64 (i).bank, .int .i64 (i).size], .agg #[.int .i64 p.bank, .int .u16 p.addr]] w fun e w' => e = .returned (.tuple #[.agg #[.int .i64 (targetS i p).1.bank, .int .u16 (targetS i p).1.addr], .bool (targetS i p).2]) ∧ Below w.heap.size w w' := by
  cases hv : validS i with
  | false =>
    have e : targetS i p = (⟨0, 0⟩, false) := by unfold targetS; rw [hv]; rfl
    rw [e]; exact rtarget_bad i hi p p0 p1 hv w
  | true =>
    have hf := (valid_small i hi hv).1
    rw [target_seen i p hv hf]
    by_cases h10 : fmtS i.op = 10
    · rw [h10]; exact rtarget_rel10 i hi p p0 p1 hv h10 w
    by_cases h11 : fmtS i.op = 11
    · rw [h11]; exact rtarget_rel11 i hi p p0 p1 hv h11 w
    by_cases h13 : fmtS i.op = 13
    · rw [h13]; exact rtarget_rel13 i hi p p0 p1 hv h13 w
    have b10 : (fmtS i.op == 10) = false := by simpa using h10
    have b11 : (fmtS i.op == 11) = false := by simpa using h11
    have b13 : (fmtS i.op == 13) = false := by simpa using h13
    rw [b10, b11, b13]
    by_cases h12 : fmtS i.op = 12
    · rw [h12]
      cases hw : winS i.imm with
      | true => exact rtarget_far1 i hi p p0 p1 hv h12 hw w
      | false => exact rtarget_far0 i hi p p0 p1 hv h12 hw w
    · have b12 : (fmtS i.op == 12) = false := by simpa using h12
      rw [b12]
      exact rtarget_none i hi p p0 p1 hv b10 b11 b13 b12 w

end Go.Proofs.YtakahmhbopakmaaDoor
