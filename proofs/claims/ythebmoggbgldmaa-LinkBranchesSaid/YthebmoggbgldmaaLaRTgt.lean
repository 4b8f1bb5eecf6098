/- Seen, Target of the reference: walked; they answer as package isa's. Condition: the fields lie in their types' ranges. -/
import Derived.Test.YthebmoggbgldmaaLaRefC3
set_option linter.all false
namespace Go.Proofs.Ythebmoggbgldmaa
open Go.RowKit
theorem win_div (a : Int) (h0 : 0 ≤ a) (h1 : a < 65536) : (a / 4096 == 1) = winS a := by
 unfold winS
 rw [Bool.eq_iff_iff]
 simp
 omega
theorem rel_fmt : ∀ n : Nat, n < 164 → zw n ≠ 0 → relS n = ((zw n == 10) || (zw n == 11) || (zw n == 13)) ∧ farS n = (zw n == 12) := by decide +kernel
theorem rel_fmt' {op : Int} (h : zw op ≠ 0) : relS op = ((zw op == 10) || (zw op == 11) || (zw op == 13)) ∧ farS op = (zw op == 12) := by
 have h0 := jS h
 obtain ⟨n, hn⟩ : ∃ n : Nat, op = n := ⟨op.toNat, by omega⟩
 subst hn
 exact rel_fmt n (by omega) h
def xT (a : Int) (p : yw) : yw × Bool := if winS a then (if winS p.addr then (⟨p.bank, a⟩, true) else (⟨0, 0⟩, false)) else (⟨0, a⟩, true)
set_option maxRecDepth 100000 in
set_option maxHeartbeats 1000000 in
theorem seen_out (a : Int) (a0 : 0 ≤ a) (a1 : a < 65536) (p : yw) (p0 : 0 ≤ p.addr) (p1 : p.addr < 65536) (hw : winS a = false) (w : World) :
  Calls Try.prog 39 #[.int .u16 a, .agg #[.int .i64 p.bank, .int .u16 p.addr]] w fun e w' => e = .returned (.tuple #[.agg #[.int .i64 0, .int .u16 a], .bool true]) ∧ Below w.heap.size w w' := by
 have e1 : (a / 4096 == 1) = false := (win_div a a0 a1).trans hw
 have e1' : (a / 4096 != 1) = true := by simp [bne, e1]
 clear hw
 have t1 : a.tdiv 4096 = a / 4096 := Int.tdiv_eq_ediv_of_nonneg a0
 have t2 : p.addr.tdiv 4096 = p.addr / 4096 := Int.tdiv_eq_ediv_of_nonneg p0
 have t3 : IntKind.u16.wrap (a / 4096) = a / 4096 := IntWalk.u16_in _ (by omega)
 have t4 : IntKind.u16.wrap (p.addr / 4096) = p.addr / 4096 := IntWalk.u16_in _ (by omega)
 go_enter Try.func39, Try.ntmps39
 go_wp2
 refine bodyPost_ret (zI (cs := #[.int .i64 0, .int .u16 a]) (fr := (0, 0)) Try.results39 _ _ (w.heap.size + 1) 37 _ ?_ (xb (w.alloc (.cells #[.int .i64 p.bank, .int .u16 p.addr] 37)) (.cells #[.int .i64 0, .int .u16 a] 37) (by simp)) Try.underlying37 rfl (by kernel_rfl)) rfl ⟨rfl, (((Below.refl _ _).alloc (zn _) _).alloc (by simp) _)⟩
 rfl
set_option maxRecDepth 100000 in
set_option maxHeartbeats 1000000 in
theorem seen_in (a : Int) (a0 : 0 ≤ a) (a1 : a < 65536) (p : yw) (p0 : 0 ≤ p.addr) (p1 : p.addr < 65536) (hw : winS a = true) (hp : winS p.addr = true) (w : World) :
  Calls Try.prog 39 #[.int .u16 a, .agg #[.int .i64 p.bank, .int .u16 p.addr]] w fun e w' => e = .returned (.tuple #[.agg #[.int .i64 p.bank, .int .u16 a], .bool true]) ∧ Below w.heap.size w w' := by
 have e1 : (a / 4096 == 1) = true := (win_div a a0 a1).trans hw
 have e1' : (a / 4096 != 1) = false := by simp [bne, e1]
 have e2 : (p.addr / 4096 == 1) = true := (win_div p.addr p0 p1).trans hp
 clear hw hp
 have t1 : a.tdiv 4096 = a / 4096 := Int.tdiv_eq_ediv_of_nonneg a0
 have t2 : p.addr.tdiv 4096 = p.addr / 4096 := Int.tdiv_eq_ediv_of_nonneg p0
 have t3 : IntKind.u16.wrap (a / 4096) = a / 4096 := IntWalk.u16_in _ (by omega)
 have t4 : IntKind.u16.wrap (p.addr / 4096) = p.addr / 4096 := IntWalk.u16_in _ (by omega)
 go_enter Try.func39, Try.ntmps39
 go_wp2
 refine bodyPost_ret (zI (cs := #[.int .i64 p.bank, .int .u16 a]) (fr := (0, 0)) Try.results39 _ _ (w.heap.size + 1) 37 _ ?_ (xb (w.alloc (.cells #[.int .i64 p.bank, .int .u16 p.addr] 37)) (.cells #[.int .i64 p.bank, .int .u16 a] 37) (by simp)) Try.underlying37 rfl (by kernel_rfl)) rfl ⟨rfl, (((Below.refl _ _).alloc (zn _) _).alloc (by simp) _)⟩
 rfl
set_option maxRecDepth 100000 in
set_option maxHeartbeats 1000000 in
theorem seen_no (a : Int) (a0 : 0 ≤ a) (a1 : a < 65536) (p : yw) (p0 : 0 ≤ p.addr) (p1 : p.addr < 65536) (hw : winS a = true) (hp : winS p.addr = false) (w : World) :
  Calls Try.prog 39 #[.int .u16 a, .agg #[.int .i64 p.bank, .int .u16 p.addr]] w fun e w' => e = .returned (.tuple #[.agg #[.int .i64 0, .int .u16 0], .bool false]) ∧ Below w.heap.size w w' := by
 have e1 : (a / 4096 == 1) = true := (win_div a a0 a1).trans hw
 have e1' : (a / 4096 != 1) = false := by simp [bne, e1]
 have e2 : (p.addr / 4096 == 1) = false := (win_div p.addr p0 p1).trans hp
 clear hw hp
 have t1 : a.tdiv 4096 = a / 4096 := Int.tdiv_eq_ediv_of_nonneg a0
 have t2 : p.addr.tdiv 4096 = p.addr / 4096 := Int.tdiv_eq_ediv_of_nonneg p0
 have t3 : IntKind.u16.wrap (a / 4096) = a / 4096 := IntWalk.u16_in _ (by omega)
 have t4 : IntKind.u16.wrap (p.addr / 4096) = p.addr / 4096 := IntWalk.u16_in _ (by omega)
 go_enter Try.func39, Try.ntmps39
 go_wp2
 refine bodyPost_ret (zI (cs := #[.int .i64 0, .int .u16 0]) (fr := (0, 0)) Try.results39 _ _ (w.heap.size + 1) 37 _ ?_ (xb (w.alloc (.cells #[.int .i64 p.bank, .int .u16 p.addr] 37)) (.cells #[.int .i64 0, .int .u16 0] 37) (by simp)) Try.underlying37 rfl (by kernel_rfl)) rfl ⟨rfl, (((Below.refl _ _).alloc (zn _) _).alloc (by simp) _)⟩
 rfl
theorem seen_any (a : Int) (a0 : 0 ≤ a) (a1 : a < 65536) (p : yw) (p0 : 0 ≤ p.addr) (p1 : p.addr < 65536) (w : World) :
  Calls Try.prog 39 #[.int .u16 a, .agg #[.int .i64 p.bank, .int .u16 p.addr]] w fun e w' => e = .returned (.tuple #[.agg #[.int .i64 (xT a p).1.bank, .int .u16 (xT a p).1.addr], .bool (xT a p).2]) ∧ Below w.heap.size w w' := by
 unfold xT
 cases hw : winS a with
 | false => exact seen_out a a0 a1 p p0 p1 hw w
 | true =>
  cases hp : winS p.addr with
  | true => exact seen_in a a0 a1 p p0 p1 hw hp w
  | false => exact seen_no a a0 a1 p p0 p1 hw hp w
theorem target_seen (i : Ins) (p : yw) (hv : zQ i = true) (hf : zw i.op ≠ 0) : targetS i p = if (zw i.op == 10) || (zw i.op == 11) || (zw i.op == 13) then xT (tgt i p) p else if zw i.op == 12 then (if winS i.imm then (⟨i.bank, i.imm⟩, true) else (⟨0, i.imm⟩, true)) else (⟨0, 0⟩, false) := by
 unfold targetS xT
 rw [if_pos hv, (rel_fmt' hf).1, (rel_fmt' hf).2]
set_option maxRecDepth 100000 in
set_option maxHeartbeats 1000000 in
theorem rtarget_bad (i : Ins) (hi : i.Ok) (p : yw) (p0 : 0 ≤ p.addr) (p1 : p.addr < 65536) (hv : zQ i = false) (w : World) :
  Calls Try.prog 19 #[.agg #[.int .i64 (i).op, .int .i64 (i).d, .int .i64 (i).s, .int .u16 (i).imm, .int .u16 (i).aux, .int .i64 (i).bank, .int .i64 (i).size], .agg #[.int .i64 p.bank, .int .u16 p.addr]] w fun e w' => e = .returned (.tuple #[.agg #[.int .i64 0, .int .u16 0], .bool false]) ∧ Below w.heap.size w w' := by
 have HH := zh (THeld.first i p w)
 rw [yR i hi] at hv
 have HV := zh hv
 clear hv
 go_enter Try.func19, Try.ntmps19
 go_wp2_with (first
  | (refine wpList_load_row rfl _ (.tmp 2) rfl _ rfl _ _ _ _ HH.out.b0 Try.underlying53 rfl ?_ ?_; kernel_rfl)
  | (go_at_call 37; refine (yY i _).mono ?_; rintro e w2 ⟨rfl, hb2⟩; rw [HV.out]; have HH := zh (HH.out.stay hb2); have hci := HH.out.ci; have hcp := HH.out.cp; clear hb2)
  | (go_at_call 38; refine (yH _ _).mono ?_; rintro e w3 ⟨rfl, hb3⟩; replace HH := zh (HH.out.stay hb3); clear hci hcp; have hci := HH.out.ci; have hcp := HH.out.cp; clear hb3)
  | (refine wpList_store_row rfl _ (.tmp 4) _ rfl _ #[.int .i64 0, .int .u16 0] rfl rfl _ _ HH.out.br ?_ ?_ ?_ ?_; kernel_rfl; rfl; kernel_rfl))
 refine bodyPost_ret (zI (cs := #[.int .i64 0, .int .u16 0]) (fr := (0, 0)) Try.results19 _ _ (w.heap.size + 2) 37 _ ?_ (setRow_heap _ _ _ _ _ _ HH.out.br) Try.underlying37 rfl (by kernel_rfl)) rfl ⟨rfl, below_setRow HH.out.bb (by omega) _⟩
 rfl
set_option maxRecDepth 100000 in
set_option maxHeartbeats 1000000 in
theorem rtarget_rel10 (i : Ins) (hi : i.Ok) (p : yw) (p0 : 0 ≤ p.addr) (p1 : p.addr < 65536) (hv : zQ i = true) (hf : zw i.op = 10) (w : World) :
  Calls Try.prog 19 #[.agg #[.int .i64 (i).op, .int .i64 (i).d, .int .i64 (i).s, .int .u16 (i).imm, .int .u16 (i).aux, .int .i64 (i).bank, .int .i64 (i).size], .agg #[.int .i64 p.bank, .int .u16 p.addr]] w fun e w' => e = .returned (.tuple #[.agg #[.int .i64 (xT (tgt i p) p).1.bank, .int .u16 (xT (tgt i p) p).1.addr], .bool (xT (tgt i p) p).2]) ∧ Below w.heap.size w w' := by
 have HH := zh (THeld.first i p w)
 rw [yR i hi] at hv
 have HV := zh hv
 have hz := valid_size_bd hi (by rw [yR i hi]; exact hv)
 obtain ⟨s0, s1⟩ := hz
 have HF := zh hf
 have HTG := zh (tgt_eq i p)
 clear hv hf
 go_enter Try.func19, Try.ntmps19
 go_wp2_with (first
  | (refine wpList_load_row rfl _ (.tmp 2) rfl _ rfl _ _ _ _ HH.out.b0 Try.underlying53 rfl ?_ ?_; kernel_rfl)
  | (go_at_call 37; refine (yY i _).mono ?_; rintro e w2 ⟨rfl, hb2⟩; rw [HV.out]; have HH := zh (HH.out.stay hb2); have hci := HH.out.ci; have hcp := HH.out.cp; clear hb2)
  | (go_at_call 38; refine (yH _ _).mono ?_; rintro e w3 ⟨rfl, hb3⟩; rw [HF.out]; replace HH := zh (HH.out.stay hb3); clear hci hcp; have hci := HH.out.ci; have hcp := HH.out.cp; clear hb3)
  | (refine wpList_load_row rfl _ (.tmp 3) rfl _ rfl _ _ _ _ HH.out.bp Try.underlying37 rfl ?_ ?_; kernel_rfl)
  | (go_at_call 39; rw [HTG.out]; refine (seen_any (tgt i p) (tgt_lo i p) (tgt_hi i p) p p0 p1 _).mono ?_; rintro e w4 ⟨rfl, hb4⟩; replace HH := zh (HH.out.stay hb4); clear hci hcp hb4)
  | (refine wpList_store_row rfl _ (.tmp 4) _ rfl _ #[.int .i64 (xT (tgt i p) p).1.bank, .int .u16 (xT (tgt i p) p).1.addr] rfl rfl _ _ HH.out.br ?_ ?_ ?_ ?_; kernel_rfl; rfl; kernel_rfl))
 refine bodyPost_ret (zI (cs := #[.int .i64 (xT (tgt i p) p).1.bank, .int .u16 (xT (tgt i p) p).1.addr]) (fr := (0, 0)) Try.results19 _ _ (w.heap.size + 2) 37 _ ?_ (setRow_heap _ _ _ _ _ _ HH.out.br) Try.underlying37 rfl (by kernel_rfl)) rfl ⟨rfl, below_setRow HH.out.bb (by omega) _⟩
 rfl
set_option maxRecDepth 100000 in
set_option maxHeartbeats 1000000 in
theorem rtarget_rel11 (i : Ins) (hi : i.Ok) (p : yw) (p0 : 0 ≤ p.addr) (p1 : p.addr < 65536) (hv : zQ i = true) (hf : zw i.op = 11) (w : World) :
  Calls Try.prog 19 #[.agg #[.int .i64 (i).op, .int .i64 (i).d, .int .i64 (i).s, .int .u16 (i).imm, .int .u16 (i).aux, .int .i64 (i).bank, .int .i64 (i).size], .agg #[.int .i64 p.bank, .int .u16 p.addr]] w fun e w' => e = .returned (.tuple #[.agg #[.int .i64 (xT (tgt i p) p).1.bank, .int .u16 (xT (tgt i p) p).1.addr], .bool (xT (tgt i p) p).2]) ∧ Below w.heap.size w w' := by
 have HH := zh (THeld.first i p w)
 rw [yR i hi] at hv
 have HV := zh hv
 have hz := valid_size_bd hi (by rw [yR i hi]; exact hv)
 obtain ⟨s0, s1⟩ := hz
 have HF := zh hf
 have HTG := zh (tgt_eq i p)
 clear hv hf
 go_enter Try.func19, Try.ntmps19
 go_wp2_with (first
  | (refine wpList_load_row rfl _ (.tmp 2) rfl _ rfl _ _ _ _ HH.out.b0 Try.underlying53 rfl ?_ ?_; kernel_rfl)
  | (go_at_call 37; refine (yY i _).mono ?_; rintro e w2 ⟨rfl, hb2⟩; rw [HV.out]; have HH := zh (HH.out.stay hb2); have hci := HH.out.ci; have hcp := HH.out.cp; clear hb2)
  | (go_at_call 38; refine (yH _ _).mono ?_; rintro e w3 ⟨rfl, hb3⟩; rw [HF.out]; replace HH := zh (HH.out.stay hb3); clear hci hcp; have hci := HH.out.ci; have hcp := HH.out.cp; clear hb3)
  | (refine wpList_load_row rfl _ (.tmp 3) rfl _ rfl _ _ _ _ HH.out.bp Try.underlying37 rfl ?_ ?_; kernel_rfl)
  | (go_at_call 39; rw [HTG.out]; refine (seen_any (tgt i p) (tgt_lo i p) (tgt_hi i p) p p0 p1 _).mono ?_; rintro e w4 ⟨rfl, hb4⟩; replace HH := zh (HH.out.stay hb4); clear hci hcp hb4)
  | (refine wpList_store_row rfl _ (.tmp 4) _ rfl _ #[.int .i64 (xT (tgt i p) p).1.bank, .int .u16 (xT (tgt i p) p).1.addr] rfl rfl _ _ HH.out.br ?_ ?_ ?_ ?_; kernel_rfl; rfl; kernel_rfl))
 refine bodyPost_ret (zI (cs := #[.int .i64 (xT (tgt i p) p).1.bank, .int .u16 (xT (tgt i p) p).1.addr]) (fr := (0, 0)) Try.results19 _ _ (w.heap.size + 2) 37 _ ?_ (setRow_heap _ _ _ _ _ _ HH.out.br) Try.underlying37 rfl (by kernel_rfl)) rfl ⟨rfl, below_setRow HH.out.bb (by omega) _⟩
 rfl
set_option maxRecDepth 100000 in
set_option maxHeartbeats 1000000 in
theorem rtarget_rel13 (i : Ins) (hi : i.Ok) (p : yw) (p0 : 0 ≤ p.addr) (p1 : p.addr < 65536) (hv : zQ i = true) (hf : zw i.op = 13) (w : World) :
  Calls Try.prog 19 #[.agg #[.int .i64 (i).op, .int .i64 (i).d, .int .i64 (i).s, .int .u16 (i).imm, .int .u16 (i).aux, .int .i64 (i).bank, .int .i64 (i).size], .agg #[.int .i64 p.bank, .int .u16 p.addr]] w fun e w' => e = .returned (.tuple #[.agg #[.int .i64 (xT (tgt i p) p).1.bank, .int .u16 (xT (tgt i p) p).1.addr], .bool (xT (tgt i p) p).2]) ∧ Below w.heap.size w w' := by
 have HH := zh (THeld.first i p w)
 rw [yR i hi] at hv
 have HV := zh hv
 have hz := valid_size_bd hi (by rw [yR i hi]; exact hv)
 obtain ⟨s0, s1⟩ := hz
 have HF := zh hf
 have HTG := zh (tgt_eq i p)
 clear hv hf
 go_enter Try.func19, Try.ntmps19
 go_wp2_with (first
  | (refine wpList_load_row rfl _ (.tmp 2) rfl _ rfl _ _ _ _ HH.out.b0 Try.underlying53 rfl ?_ ?_; kernel_rfl)
  | (go_at_call 37; refine (yY i _).mono ?_; rintro e w2 ⟨rfl, hb2⟩; rw [HV.out]; have HH := zh (HH.out.stay hb2); have hci := HH.out.ci; have hcp := HH.out.cp; clear hb2)
  | (go_at_call 38; refine (yH _ _).mono ?_; rintro e w3 ⟨rfl, hb3⟩; rw [HF.out]; replace HH := zh (HH.out.stay hb3); clear hci hcp; have hci := HH.out.ci; have hcp := HH.out.cp; clear hb3)
  | (refine wpList_load_row rfl _ (.tmp 3) rfl _ rfl _ _ _ _ HH.out.bp Try.underlying37 rfl ?_ ?_; kernel_rfl)
  | (go_at_call 39; rw [HTG.out]; refine (seen_any (tgt i p) (tgt_lo i p) (tgt_hi i p) p p0 p1 _).mono ?_; rintro e w4 ⟨rfl, hb4⟩; replace HH := zh (HH.out.stay hb4); clear hci hcp hb4)
  | (refine wpList_store_row rfl _ (.tmp 4) _ rfl _ #[.int .i64 (xT (tgt i p) p).1.bank, .int .u16 (xT (tgt i p) p).1.addr] rfl rfl _ _ HH.out.br ?_ ?_ ?_ ?_; kernel_rfl; rfl; kernel_rfl))
 refine bodyPost_ret (zI (cs := #[.int .i64 (xT (tgt i p) p).1.bank, .int .u16 (xT (tgt i p) p).1.addr]) (fr := (0, 0)) Try.results19 _ _ (w.heap.size + 2) 37 _ ?_ (setRow_heap _ _ _ _ _ _ HH.out.br) Try.underlying37 rfl (by kernel_rfl)) rfl ⟨rfl, below_setRow HH.out.bb (by omega) _⟩
 rfl
set_option maxRecDepth 100000 in
set_option maxHeartbeats 1000000 in
theorem rtarget_far1 (i : Ins) (hi : i.Ok) (p : yw) (p0 : 0 ≤ p.addr) (p1 : p.addr < 65536) (hv : zQ i = true) (hf : zw i.op = 12) (hw : winS i.imm = true) (w : World) :
  Calls Try.prog 19 #[.agg #[.int .i64 (i).op, .int .i64 (i).d, .int .i64 (i).s, .int .u16 (i).imm, .int .u16 (i).aux, .int .i64 (i).bank, .int .i64 (i).size], .agg #[.int .i64 p.bank, .int .u16 p.addr]] w fun e w' => e = .returned (.tuple #[.agg #[.int .i64 i.bank, .int .u16 i.imm], .bool true]) ∧ Below w.heap.size w w' := by
 have HH := zh (THeld.first i p w)
 rw [yR i hi] at hv
 have HV := zh hv
 have HF := zh hf
 have e1 : (i.imm / 4096 == 1) = true := (win_div i.imm hi.imm.1 hi.imm.2).trans hw
 have m0 := hi.imm.1
 have t1 : i.imm.tdiv 4096 = i.imm / 4096 := Int.tdiv_eq_ediv_of_nonneg m0
 have t3 : IntKind.u16.wrap (i.imm / 4096) = i.imm / 4096 := IntWalk.u16_in _ (by have := hi.imm.2; omega)
 clear hv hf hw
 go_enter Try.func19, Try.ntmps19
 go_wp2_with (first
  | (refine wpList_load_row rfl _ (.tmp 2) rfl _ rfl _ _ _ _ HH.out.b0 Try.underlying53 rfl ?_ ?_; kernel_rfl)
  | (go_at_call 37; refine (yY i _).mono ?_; rintro e w2 ⟨rfl, hb2⟩; rw [HV.out]; have HH := zh (HH.out.stay hb2); have hci := HH.out.ci; have hcp := HH.out.cp; clear hb2)
  | (go_at_call 38; refine (yH _ _).mono ?_; rintro e w3 ⟨rfl, hb3⟩; rw [HF.out]; replace HH := zh (HH.out.stay hb3); clear hci hcp; have hci := HH.out.ci; have hcp := HH.out.cp; clear hb3)
  | (refine wpList_store_row rfl _ (.tmp 4) _ rfl _ #[.int .i64 i.bank, .int .u16 i.imm] rfl rfl _ _ HH.out.br ?_ ?_ ?_ ?_; kernel_rfl; rfl; kernel_rfl))
 refine bodyPost_ret (zI (cs := #[.int .i64 i.bank, .int .u16 i.imm]) (fr := (0, 0)) Try.results19 _ _ (w.heap.size + 2) 37 _ ?_ (setRow_heap _ _ _ _ _ _ HH.out.br) Try.underlying37 rfl (by kernel_rfl)) rfl ⟨rfl, below_setRow HH.out.bb (by omega) _⟩
 rfl
set_option maxRecDepth 100000 in
set_option maxHeartbeats 1000000 in
theorem rtarget_far0 (i : Ins) (hi : i.Ok) (p : yw) (p0 : 0 ≤ p.addr) (p1 : p.addr < 65536) (hv : zQ i = true) (hf : zw i.op = 12) (hw : winS i.imm = false) (w : World) :
  Calls Try.prog 19 #[.agg #[.int .i64 (i).op, .int .i64 (i).d, .int .i64 (i).s, .int .u16 (i).imm, .int .u16 (i).aux, .int .i64 (i).bank, .int .i64 (i).size], .agg #[.int .i64 p.bank, .int .u16 p.addr]] w fun e w' => e = .returned (.tuple #[.agg #[.int .i64 0, .int .u16 i.imm], .bool true]) ∧ Below w.heap.size w w' := by
 have HH := zh (THeld.first i p w)
 rw [yR i hi] at hv
 have HV := zh hv
 have HF := zh hf
 have e1 : (i.imm / 4096 == 1) = false := (win_div i.imm hi.imm.1 hi.imm.2).trans hw
 have m0 := hi.imm.1
 have t1 : i.imm.tdiv 4096 = i.imm / 4096 := Int.tdiv_eq_ediv_of_nonneg m0
 have t3 : IntKind.u16.wrap (i.imm / 4096) = i.imm / 4096 := IntWalk.u16_in _ (by have := hi.imm.2; omega)
 clear hv hf hw
 go_enter Try.func19, Try.ntmps19
 go_wp2_with (first
  | (refine wpList_load_row rfl _ (.tmp 2) rfl _ rfl _ _ _ _ HH.out.b0 Try.underlying53 rfl ?_ ?_; kernel_rfl)
  | (go_at_call 37; refine (yY i _).mono ?_; rintro e w2 ⟨rfl, hb2⟩; rw [HV.out]; have HH := zh (HH.out.stay hb2); have hci := HH.out.ci; have hcp := HH.out.cp; clear hb2)
  | (go_at_call 38; refine (yH _ _).mono ?_; rintro e w3 ⟨rfl, hb3⟩; rw [HF.out]; replace HH := zh (HH.out.stay hb3); clear hci hcp; have hci := HH.out.ci; have hcp := HH.out.cp; clear hb3)
  | (refine wpList_store_row rfl _ (.tmp 4) _ rfl _ #[.int .i64 0, .int .u16 i.imm] rfl rfl _ _ HH.out.br ?_ ?_ ?_ ?_; kernel_rfl; rfl; kernel_rfl))
 refine bodyPost_ret (zI (cs := #[.int .i64 0, .int .u16 i.imm]) (fr := (0, 0)) Try.results19 _ _ (w.heap.size + 2) 37 _ ?_ (setRow_heap _ _ _ _ _ _ HH.out.br) Try.underlying37 rfl (by kernel_rfl)) rfl ⟨rfl, below_setRow HH.out.bb (by omega) _⟩
 rfl
set_option maxRecDepth 100000 in
set_option maxHeartbeats 1000000 in
theorem rtarget_none (i : Ins) (hi : i.Ok) (p : yw) (p0 : 0 ≤ p.addr) (p1 : p.addr < 65536) (hv : zQ i = true) (h10 : (zw i.op == 10) = false) (h11 : (zw i.op == 11) = false) (h13 : (zw i.op == 13) = false) (h12 : (zw i.op == 12) = false) (w : World) :
  Calls Try.prog 19 #[.agg #[.int .i64 (i).op, .int .i64 (i).d, .int .i64 (i).s, .int .u16 (i).imm, .int .u16 (i).aux, .int .i64 (i).bank, .int .i64 (i).size], .agg #[.int .i64 p.bank, .int .u16 p.addr]] w fun e w' => e = .returned (.tuple #[.agg #[.int .i64 0, .int .u16 0], .bool false]) ∧ Below w.heap.size w w' := by
 have HH := zh (THeld.first i p w)
 rw [yR i hi] at hv
 have HV := zh hv
 clear hv
 go_enter Try.func19, Try.ntmps19
 go_wp2_with (first
  | (refine wpList_load_row rfl _ (.tmp 2) rfl _ rfl _ _ _ _ HH.out.b0 Try.underlying53 rfl ?_ ?_; kernel_rfl)
  | (go_at_call 37; refine (yY i _).mono ?_; rintro e w2 ⟨rfl, hb2⟩; rw [HV.out]; have HH := zh (HH.out.stay hb2); have hci := HH.out.ci; have hcp := HH.out.cp; clear hb2)
  | (go_at_call 38; refine (yH _ _).mono ?_; rintro e w3 ⟨rfl, hb3⟩; replace HH := zh (HH.out.stay hb3); clear hci hcp; have hci := HH.out.ci; have hcp := HH.out.cp; clear hb3)
  | (refine wpList_store_row rfl _ (.tmp 4) _ rfl _ #[.int .i64 0, .int .u16 0] rfl rfl _ _ HH.out.br ?_ ?_ ?_ ?_; kernel_rfl; rfl; kernel_rfl))
 refine bodyPost_ret (zI (cs := #[.int .i64 0, .int .u16 0]) (fr := (0, 0)) Try.results19 _ _ (w.heap.size + 2) 37 _ ?_ (setRow_heap _ _ _ _ _ _ HH.out.br) Try.underlying37 rfl (by kernel_rfl)) rfl ⟨rfl, below_setRow HH.out.bb (by omega) _⟩
 rfl
theorem rtarget_any (i : Ins) (hi : i.Ok) (p : yw) (p0 : 0 ≤ p.addr) (p1 : p.addr < 65536) (w : World) :
  Calls Try.prog 19 #[.agg #[.int .i64 (i).op, .int .i64 (i).d, .int .i64 (i).s, .int .u16 (i).imm, .int .u16 (i).aux, .int .i64 (i).bank, .int .i64 (i).size], .agg #[.int .i64 p.bank, .int .u16 p.addr]] w fun e w' => e = .returned (.tuple #[.agg #[.int .i64 (targetS i p).1.bank, .int .u16 (targetS i p).1.addr], .bool (targetS i p).2]) ∧ Below w.heap.size w w' := by
 cases hv : zQ i with
 | false =>
  have e : targetS i p = (⟨0, 0⟩, false) := by unfold targetS; rw [hv]; rfl
  rw [e]; exact rtarget_bad i hi p p0 p1 hv w
 | true =>
  have hf := (xk i hi hv).1
  rw [target_seen i p hv hf]
  by_cases h10 : zw i.op = 10
  ·rw [h10]; exact rtarget_rel10 i hi p p0 p1 hv h10 w
  by_cases h11 : zw i.op = 11
  ·rw [h11]; exact rtarget_rel11 i hi p p0 p1 hv h11 w
  by_cases h13 : zw i.op = 13
  ·rw [h13]; exact rtarget_rel13 i hi p p0 p1 hv h13 w
  have b10 : (zw i.op == 10) = false := by simpa using h10
  have b11 : (zw i.op == 11) = false := by simpa using h11
  have b13 : (zw i.op == 13) = false := by simpa using h13
  rw [b10, b11, b13]
  by_cases h12 : zw i.op = 12
  ·rw [h12]
   cases hw : winS i.imm with
   | true => exact rtarget_far1 i hi p p0 p1 hv h12 hw w
   | false => exact rtarget_far0 i hi p p0 p1 hv h12 hw w
  ·have b12 : (zw i.op == 12) = false := by simpa using h12
   rw [b12]
   exact rtarget_none i hi p p0 p1 hv b10 b11 b13 b12 w
end Go.Proofs.Ythebmoggbgldmaa
