/- Falls of the reference: walked. Condition: the fields lie in their types' ranges. -/
import Derived.Test.YteofmaiojepdkaaGreatSdRefC3
set_option linter.all false
namespace Go.Proofs.YteofmaiojepdkaaGreat
open Go.RowKit
theorem win_div (a : Int) (h0 : 0 ≤ a) (h1 : a < 65536) : (a / 4096 == 1) = xX a := by
 unfold xX
 rw [Bool.eq_iff_iff]
 simp
 omega
theorem rel_fmt : ∀ n : Nat, n < 164 → zf n ≠ 0 → relS n = ((zf n == 10) || (zf n == 11) || (zf n == 13)) ∧ farS n = (zf n == 12) := by decide +kernel
theorem rel_fmt' {op : Int} (h : zf op ≠ 0) : relS op = ((zf op == 10) || (zf op == 11) || (zf op == 13)) ∧ farS op = (zf op == 12) := by
 have h0 := op_of_fmt h
 obtain ⟨n, hn⟩ : ∃ n : Nat, op = n := ⟨op.toNat, by omega⟩
 subst hn
 exact rel_fmt n (by omega) h
def y9 (a : Int) (p : zc) : zc × Bool := if xX a then (if xX p.addr then (⟨p.bank, a⟩, true) else (⟨0, 0⟩, false)) else (⟨0, a⟩, true)
set_option maxRecDepth 100000 in
set_option maxHeartbeats 1000000 in
theorem seen_out (a : Int) (a0 : 0 ≤ a) (a1 : a < 65536) (p : zc) (p0 : 0 ≤ p.addr) (p1 : p.addr < 65536) (hw : xX a = false) (w : World) :
  Calls Tryz.prog 83 #[.int .u16 a, .agg #[.int .i64 p.bank, .int .u16 p.addr]] w fun e w' => e = .returned (.tuple #[.agg #[.int .i64 0, .int .u16 a], .bool true]) ∧ Below w.heap.size w w' := by
 have e1 : (a / 4096 == 1) = false := (win_div a a0 a1).trans hw
 have e1' : (a / 4096 != 1) = true := by simp [bne, e1]
 clear hw
 have t1 : a.tdiv 4096 = a / 4096 := Int.tdiv_eq_ediv_of_nonneg a0
 have t2 : p.addr.tdiv 4096 = p.addr / 4096 := Int.tdiv_eq_ediv_of_nonneg p0
 have t3 : IntKind.u16.wrap (a / 4096) = a / 4096 := IntWalk.u16_in _ (by omega)
 have t4 : IntKind.u16.wrap (p.addr / 4096) = p.addr / 4096 := IntWalk.u16_in _ (by omega)
 go_enter Tryz.func83, Tryz.ntmps83
 go_wp2
 refine bodyPost_ret (ze (cs := #[.int .i64 0, .int .u16 a]) (fr := (0, 0)) Tryz.results83 _ _ (w.heap.size + 1) 47 _ ?_ (xL (w.alloc (.cells #[.int .i64 p.bank, .int .u16 p.addr] 47)) (.cells #[.int .i64 0, .int .u16 a] 47) (by simp)) Tryz.underlying47 rfl (by kernel_rfl)) rfl ⟨rfl, (((Below.refl _ _).alloc (zn _) _).alloc (by simp) _)⟩
 rfl
set_option maxRecDepth 100000 in
set_option maxHeartbeats 1000000 in
theorem seen_in (a : Int) (a0 : 0 ≤ a) (a1 : a < 65536) (p : zc) (p0 : 0 ≤ p.addr) (p1 : p.addr < 65536) (hw : xX a = true) (hp : xX p.addr = true) (w : World) :
  Calls Tryz.prog 83 #[.int .u16 a, .agg #[.int .i64 p.bank, .int .u16 p.addr]] w fun e w' => e = .returned (.tuple #[.agg #[.int .i64 p.bank, .int .u16 a], .bool true]) ∧ Below w.heap.size w w' := by
 have e1 : (a / 4096 == 1) = true := (win_div a a0 a1).trans hw
 have e1' : (a / 4096 != 1) = false := by simp [bne, e1]
 have e2 : (p.addr / 4096 == 1) = true := (win_div p.addr p0 p1).trans hp
 clear hw hp
 have t1 : a.tdiv 4096 = a / 4096 := Int.tdiv_eq_ediv_of_nonneg a0
 have t2 : p.addr.tdiv 4096 = p.addr / 4096 := Int.tdiv_eq_ediv_of_nonneg p0
 have t3 : IntKind.u16.wrap (a / 4096) = a / 4096 := IntWalk.u16_in _ (by omega)
 have t4 : IntKind.u16.wrap (p.addr / 4096) = p.addr / 4096 := IntWalk.u16_in _ (by omega)
 go_enter Tryz.func83, Tryz.ntmps83
 go_wp2
 refine bodyPost_ret (ze (cs := #[.int .i64 p.bank, .int .u16 a]) (fr := (0, 0)) Tryz.results83 _ _ (w.heap.size + 1) 47 _ ?_ (xL (w.alloc (.cells #[.int .i64 p.bank, .int .u16 p.addr] 47)) (.cells #[.int .i64 p.bank, .int .u16 a] 47) (by simp)) Tryz.underlying47 rfl (by kernel_rfl)) rfl ⟨rfl, (((Below.refl _ _).alloc (zn _) _).alloc (by simp) _)⟩
 rfl
set_option maxRecDepth 100000 in
set_option maxHeartbeats 1000000 in
theorem seen_no (a : Int) (a0 : 0 ≤ a) (a1 : a < 65536) (p : zc) (p0 : 0 ≤ p.addr) (p1 : p.addr < 65536) (hw : xX a = true) (hp : xX p.addr = false) (w : World) :
  Calls Tryz.prog 83 #[.int .u16 a, .agg #[.int .i64 p.bank, .int .u16 p.addr]] w fun e w' => e = .returned (.tuple #[.agg #[.int .i64 0, .int .u16 0], .bool false]) ∧ Below w.heap.size w w' := by
 have e1 : (a / 4096 == 1) = true := (win_div a a0 a1).trans hw
 have e1' : (a / 4096 != 1) = false := by simp [bne, e1]
 have e2 : (p.addr / 4096 == 1) = false := (win_div p.addr p0 p1).trans hp
 clear hw hp
 have t1 : a.tdiv 4096 = a / 4096 := Int.tdiv_eq_ediv_of_nonneg a0
 have t2 : p.addr.tdiv 4096 = p.addr / 4096 := Int.tdiv_eq_ediv_of_nonneg p0
 have t3 : IntKind.u16.wrap (a / 4096) = a / 4096 := IntWalk.u16_in _ (by omega)
 have t4 : IntKind.u16.wrap (p.addr / 4096) = p.addr / 4096 := IntWalk.u16_in _ (by omega)
 go_enter Tryz.func83, Tryz.ntmps83
 go_wp2
 refine bodyPost_ret (ze (cs := #[.int .i64 0, .int .u16 0]) (fr := (0, 0)) Tryz.results83 _ _ (w.heap.size + 1) 47 _ ?_ (xL (w.alloc (.cells #[.int .i64 p.bank, .int .u16 p.addr] 47)) (.cells #[.int .i64 0, .int .u16 0] 47) (by simp)) Tryz.underlying47 rfl (by kernel_rfl)) rfl ⟨rfl, (((Below.refl _ _).alloc (zn _) _).alloc (by simp) _)⟩
 rfl
theorem seen_any (a : Int) (a0 : 0 ≤ a) (a1 : a < 65536) (p : zc) (p0 : 0 ≤ p.addr) (p1 : p.addr < 65536) (w : World) :
  Calls Tryz.prog 83 #[.int .u16 a, .agg #[.int .i64 p.bank, .int .u16 p.addr]] w fun e w' => e = .returned (.tuple #[.agg #[.int .i64 (y9 a p).1.bank, .int .u16 (y9 a p).1.addr], .bool (y9 a p).2]) ∧ Below w.heap.size w w' := by
 unfold y9
 cases hw : xX a with
 | false => exact seen_out a a0 a1 p p0 p1 hw w
 | true =>
  cases hp : xX p.addr with
  | true => exact seen_in a a0 a1 p p0 p1 hw hp w
  | false => exact seen_no a a0 a1 p p0 p1 hw hp w
theorem target_seen (i : Ins) (p : zc) (hv : zu i = true) (hf : zf i.op ≠ 0) : zR i p = if (zf i.op == 10) || (zf i.op == 11) || (zf i.op == 13) then y9 (tgt i p) p else if zf i.op == 12 then (if xX i.imm then (⟨i.bank, i.imm⟩, true) else (⟨0, i.imm⟩, true)) else (⟨0, 0⟩, false) := by
 unfold zR y9
 rw [if_pos hv, (rel_fmt' hf).1, (rel_fmt' hf).2]
set_option maxRecDepth 100000 in
set_option maxHeartbeats 1000000 in
theorem rtarget_bad (i : Ins) (hi : i.Ok) (p : zc) (p0 : 0 ≤ p.addr) (p1 : p.addr < 65536) (hv : zu i = false) (w : World) :
  Calls Tryz.prog 52 #[.agg #[.int .i64 (i).op, .int .i64 (i).d, .int .i64 (i).s, .int .u16 (i).imm, .int .u16 (i).aux, .int .i64 (i).bank, .int .i64 (i).size], .agg #[.int .i64 p.bank, .int .u16 p.addr]] w fun e w' => e = .returned (.tuple #[.agg #[.int .i64 0, .int .u16 0], .bool false]) ∧ Below w.heap.size w w' := by
 have HH := zh (THeld.first i p w)
 rw [yH i hi] at hv
 have HV := zh hv
 clear hv
 go_enter Tryz.func52, Tryz.ntmps52
 go_wp2_with (first
  | (refine wpList_load_row rfl _ (.tmp 2) rfl _ rfl _ _ _ _ HH.out.b0 Tryz.underlying53 rfl ?_ ?_; kernel_rfl)
  | (go_at_call 60; refine (z7 i _).mono ?_; rintro e w2 ⟨rfl, hb2⟩; rw [HV.out]; have HH := zh (HH.out.stay hb2); have hci := HH.out.ci; have hcp := HH.out.cp; clear hb2)
  | (go_at_call 59; refine (yg _ _).mono ?_; rintro e w3 ⟨rfl, hb3⟩; replace HH := zh (HH.out.stay hb3); clear hci hcp; have hci := HH.out.ci; have hcp := HH.out.cp; clear hb3)
  | (refine wpList_store_row rfl _ (.tmp 4) _ rfl _ #[.int .i64 0, .int .u16 0] rfl rfl _ _ HH.out.br ?_ ?_ ?_ ?_; kernel_rfl; rfl; kernel_rfl))
 refine bodyPost_ret (ze (cs := #[.int .i64 0, .int .u16 0]) (fr := (0, 0)) Tryz.results52 _ _ (w.heap.size + 2) 47 _ ?_ (setRow_heap _ _ _ _ _ _ HH.out.br) Tryz.underlying47 rfl (by kernel_rfl)) rfl ⟨rfl, below_setRow HH.out.bb (by omega) _⟩
 rfl
set_option maxRecDepth 100000 in
set_option maxHeartbeats 1000000 in
theorem rtarget_rel10 (i : Ins) (hi : i.Ok) (p : zc) (p0 : 0 ≤ p.addr) (p1 : p.addr < 65536) (hv : zu i = true) (hf : zf i.op = 10) (w : World) :
  Calls Tryz.prog 52 #[.agg #[.int .i64 (i).op, .int .i64 (i).d, .int .i64 (i).s, .int .u16 (i).imm, .int .u16 (i).aux, .int .i64 (i).bank, .int .i64 (i).size], .agg #[.int .i64 p.bank, .int .u16 p.addr]] w fun e w' => e = .returned (.tuple #[.agg #[.int .i64 (y9 (tgt i p) p).1.bank, .int .u16 (y9 (tgt i p) p).1.addr], .bool (y9 (tgt i p) p).2]) ∧ Below w.heap.size w w' := by
 have HH := zh (THeld.first i p w)
 rw [yH i hi] at hv
 have HV := zh hv
 have hz := xP hi (by rw [yH i hi]; exact hv)
 obtain ⟨s0, s1⟩ := hz
 have HF := zh hf
 have HTG := zh (tgt_eq i p)
 clear hv hf
 go_enter Tryz.func52, Tryz.ntmps52
 go_wp2_with (first
  | (refine wpList_load_row rfl _ (.tmp 2) rfl _ rfl _ _ _ _ HH.out.b0 Tryz.underlying53 rfl ?_ ?_; kernel_rfl)
  | (go_at_call 60; refine (z7 i _).mono ?_; rintro e w2 ⟨rfl, hb2⟩; rw [HV.out]; have HH := zh (HH.out.stay hb2); have hci := HH.out.ci; have hcp := HH.out.cp; clear hb2)
  | (go_at_call 59; refine (yg _ _).mono ?_; rintro e w3 ⟨rfl, hb3⟩; rw [HF.out]; replace HH := zh (HH.out.stay hb3); clear hci hcp; have hci := HH.out.ci; have hcp := HH.out.cp; clear hb3)
  | (refine wpList_load_row rfl _ (.tmp 3) rfl _ rfl _ _ _ _ HH.out.bp Tryz.underlying47 rfl ?_ ?_; kernel_rfl)
  | (go_at_call 83; rw [HTG.out]; refine (seen_any (tgt i p) (tgt_lo i p) (tgt_hi i p) p p0 p1 _).mono ?_; rintro e w4 ⟨rfl, hb4⟩; replace HH := zh (HH.out.stay hb4); clear hci hcp hb4)
  | (refine wpList_store_row rfl _ (.tmp 4) _ rfl _ #[.int .i64 (y9 (tgt i p) p).1.bank, .int .u16 (y9 (tgt i p) p).1.addr] rfl rfl _ _ HH.out.br ?_ ?_ ?_ ?_; kernel_rfl; rfl; kernel_rfl))
 refine bodyPost_ret (ze (cs := #[.int .i64 (y9 (tgt i p) p).1.bank, .int .u16 (y9 (tgt i p) p).1.addr]) (fr := (0, 0)) Tryz.results52 _ _ (w.heap.size + 2) 47 _ ?_ (setRow_heap _ _ _ _ _ _ HH.out.br) Tryz.underlying47 rfl (by kernel_rfl)) rfl ⟨rfl, below_setRow HH.out.bb (by omega) _⟩
 rfl
set_option maxRecDepth 100000 in
set_option maxHeartbeats 1000000 in
theorem rtarget_rel11 (i : Ins) (hi : i.Ok) (p : zc) (p0 : 0 ≤ p.addr) (p1 : p.addr < 65536) (hv : zu i = true) (hf : zf i.op = 11) (w : World) :
  Calls Tryz.prog 52 #[.agg #[.int .i64 (i).op, .int .i64 (i).d, .int .i64 (i).s, .int .u16 (i).imm, .int .u16 (i).aux, .int .i64 (i).bank, .int .i64 (i).size], .agg #[.int .i64 p.bank, .int .u16 p.addr]] w fun e w' => e = .returned (.tuple #[.agg #[.int .i64 (y9 (tgt i p) p).1.bank, .int .u16 (y9 (tgt i p) p).1.addr], .bool (y9 (tgt i p) p).2]) ∧ Below w.heap.size w w' := by
 have HH := zh (THeld.first i p w)
 rw [yH i hi] at hv
 have HV := zh hv
 have hz := xP hi (by rw [yH i hi]; exact hv)
 obtain ⟨s0, s1⟩ := hz
 have HF := zh hf
 have HTG := zh (tgt_eq i p)
 clear hv hf
 go_enter Tryz.func52, Tryz.ntmps52
 go_wp2_with (first
  | (refine wpList_load_row rfl _ (.tmp 2) rfl _ rfl _ _ _ _ HH.out.b0 Tryz.underlying53 rfl ?_ ?_; kernel_rfl)
  | (go_at_call 60; refine (z7 i _).mono ?_; rintro e w2 ⟨rfl, hb2⟩; rw [HV.out]; have HH := zh (HH.out.stay hb2); have hci := HH.out.ci; have hcp := HH.out.cp; clear hb2)
  | (go_at_call 59; refine (yg _ _).mono ?_; rintro e w3 ⟨rfl, hb3⟩; rw [HF.out]; replace HH := zh (HH.out.stay hb3); clear hci hcp; have hci := HH.out.ci; have hcp := HH.out.cp; clear hb3)
  | (refine wpList_load_row rfl _ (.tmp 3) rfl _ rfl _ _ _ _ HH.out.bp Tryz.underlying47 rfl ?_ ?_; kernel_rfl)
  | (go_at_call 83; rw [HTG.out]; refine (seen_any (tgt i p) (tgt_lo i p) (tgt_hi i p) p p0 p1 _).mono ?_; rintro e w4 ⟨rfl, hb4⟩; replace HH := zh (HH.out.stay hb4); clear hci hcp hb4)
  | (refine wpList_store_row rfl _ (.tmp 4) _ rfl _ #[.int .i64 (y9 (tgt i p) p).1.bank, .int .u16 (y9 (tgt i p) p).1.addr] rfl rfl _ _ HH.out.br ?_ ?_ ?_ ?_; kernel_rfl; rfl; kernel_rfl))
 refine bodyPost_ret (ze (cs := #[.int .i64 (y9 (tgt i p) p).1.bank, .int .u16 (y9 (tgt i p) p).1.addr]) (fr := (0, 0)) Tryz.results52 _ _ (w.heap.size + 2) 47 _ ?_ (setRow_heap _ _ _ _ _ _ HH.out.br) Tryz.underlying47 rfl (by kernel_rfl)) rfl ⟨rfl, below_setRow HH.out.bb (by omega) _⟩
 rfl
set_option maxRecDepth 100000 in
set_option maxHeartbeats 1000000 in
theorem rtarget_rel13 (i : Ins) (hi : i.Ok) (p : zc) (p0 : 0 ≤ p.addr) (p1 : p.addr < 65536) (hv : zu i = true) (hf : zf i.op = 13) (w : World) :
  Calls Tryz.prog 52 #[.agg #[.int .i64 (i).op, .int .i64 (i).d, .int .i64 (i).s, .int .u16 (i).imm, .int .u16 (i).aux, .int .i64 (i).bank, .int .i64 (i).size], .agg #[.int .i64 p.bank, .int .u16 p.addr]] w fun e w' => e = .returned (.tuple #[.agg #[.int .i64 (y9 (tgt i p) p).1.bank, .int .u16 (y9 (tgt i p) p).1.addr], .bool (y9 (tgt i p) p).2]) ∧ Below w.heap.size w w' := by
 have HH := zh (THeld.first i p w)
 rw [yH i hi] at hv
 have HV := zh hv
 have hz := xP hi (by rw [yH i hi]; exact hv)
 obtain ⟨s0, s1⟩ := hz
 have HF := zh hf
 have HTG := zh (tgt_eq i p)
 clear hv hf
 go_enter Tryz.func52, Tryz.ntmps52
 go_wp2_with (first
  | (refine wpList_load_row rfl _ (.tmp 2) rfl _ rfl _ _ _ _ HH.out.b0 Tryz.underlying53 rfl ?_ ?_; kernel_rfl)
  | (go_at_call 60; refine (z7 i _).mono ?_; rintro e w2 ⟨rfl, hb2⟩; rw [HV.out]; have HH := zh (HH.out.stay hb2); have hci := HH.out.ci; have hcp := HH.out.cp; clear hb2)
  | (go_at_call 59; refine (yg _ _).mono ?_; rintro e w3 ⟨rfl, hb3⟩; rw [HF.out]; replace HH := zh (HH.out.stay hb3); clear hci hcp; have hci := HH.out.ci; have hcp := HH.out.cp; clear hb3)
  | (refine wpList_load_row rfl _ (.tmp 3) rfl _ rfl _ _ _ _ HH.out.bp Tryz.underlying47 rfl ?_ ?_; kernel_rfl)
  | (go_at_call 83; rw [HTG.out]; refine (seen_any (tgt i p) (tgt_lo i p) (tgt_hi i p) p p0 p1 _).mono ?_; rintro e w4 ⟨rfl, hb4⟩; replace HH := zh (HH.out.stay hb4); clear hci hcp hb4)
  | (refine wpList_store_row rfl _ (.tmp 4) _ rfl _ #[.int .i64 (y9 (tgt i p) p).1.bank, .int .u16 (y9 (tgt i p) p).1.addr] rfl rfl _ _ HH.out.br ?_ ?_ ?_ ?_; kernel_rfl; rfl; kernel_rfl))
 refine bodyPost_ret (ze (cs := #[.int .i64 (y9 (tgt i p) p).1.bank, .int .u16 (y9 (tgt i p) p).1.addr]) (fr := (0, 0)) Tryz.results52 _ _ (w.heap.size + 2) 47 _ ?_ (setRow_heap _ _ _ _ _ _ HH.out.br) Tryz.underlying47 rfl (by kernel_rfl)) rfl ⟨rfl, below_setRow HH.out.bb (by omega) _⟩
 rfl
set_option maxRecDepth 100000 in
set_option maxHeartbeats 1000000 in
theorem rtarget_far1 (i : Ins) (hi : i.Ok) (p : zc) (p0 : 0 ≤ p.addr) (p1 : p.addr < 65536) (hv : zu i = true) (hf : zf i.op = 12) (hw : xX i.imm = true) (w : World) :
  Calls Tryz.prog 52 #[.agg #[.int .i64 (i).op, .int .i64 (i).d, .int .i64 (i).s, .int .u16 (i).imm, .int .u16 (i).aux, .int .i64 (i).bank, .int .i64 (i).size], .agg #[.int .i64 p.bank, .int .u16 p.addr]] w fun e w' => e = .returned (.tuple #[.agg #[.int .i64 i.bank, .int .u16 i.imm], .bool true]) ∧ Below w.heap.size w w' := by
 have HH := zh (THeld.first i p w)
 rw [yH i hi] at hv
 have HV := zh hv
 have HF := zh hf
 have e1 : (i.imm / 4096 == 1) = true := (win_div i.imm hi.imm.1 hi.imm.2).trans hw
 have m0 := hi.imm.1
 have t1 : i.imm.tdiv 4096 = i.imm / 4096 := Int.tdiv_eq_ediv_of_nonneg m0
 have t3 : IntKind.u16.wrap (i.imm / 4096) = i.imm / 4096 := IntWalk.u16_in _ (by have := hi.imm.2; omega)
 clear hv hf hw
 go_enter Tryz.func52, Tryz.ntmps52
 go_wp2_with (first
  | (refine wpList_load_row rfl _ (.tmp 2) rfl _ rfl _ _ _ _ HH.out.b0 Tryz.underlying53 rfl ?_ ?_; kernel_rfl)
  | (go_at_call 60; refine (z7 i _).mono ?_; rintro e w2 ⟨rfl, hb2⟩; rw [HV.out]; have HH := zh (HH.out.stay hb2); have hci := HH.out.ci; have hcp := HH.out.cp; clear hb2)
  | (go_at_call 59; refine (yg _ _).mono ?_; rintro e w3 ⟨rfl, hb3⟩; rw [HF.out]; replace HH := zh (HH.out.stay hb3); clear hci hcp; have hci := HH.out.ci; have hcp := HH.out.cp; clear hb3)
  | (refine wpList_store_row rfl _ (.tmp 4) _ rfl _ #[.int .i64 i.bank, .int .u16 i.imm] rfl rfl _ _ HH.out.br ?_ ?_ ?_ ?_; kernel_rfl; rfl; kernel_rfl))
 refine bodyPost_ret (ze (cs := #[.int .i64 i.bank, .int .u16 i.imm]) (fr := (0, 0)) Tryz.results52 _ _ (w.heap.size + 2) 47 _ ?_ (setRow_heap _ _ _ _ _ _ HH.out.br) Tryz.underlying47 rfl (by kernel_rfl)) rfl ⟨rfl, below_setRow HH.out.bb (by omega) _⟩
 rfl
set_option maxRecDepth 100000 in
set_option maxHeartbeats 1000000 in
theorem rtarget_far0 (i : Ins) (hi : i.Ok) (p : zc) (p0 : 0 ≤ p.addr) (p1 : p.addr < 65536) (hv : zu i = true) (hf : zf i.op = 12) (hw : xX i.imm = false) (w : World) :
  Calls Tryz.prog 52 #[.agg #[.int .i64 (i).op, .int .i64 (i).d, .int .i64 (i).s, .int .u16 (i).imm, .int .u16 (i).aux, .int .i64 (i).bank, .int .i64 (i).size], .agg #[.int .i64 p.bank, .int .u16 p.addr]] w fun e w' => e = .returned (.tuple #[.agg #[.int .i64 0, .int .u16 i.imm], .bool true]) ∧ Below w.heap.size w w' := by
 have HH := zh (THeld.first i p w)
 rw [yH i hi] at hv
 have HV := zh hv
 have HF := zh hf
 have e1 : (i.imm / 4096 == 1) = false := (win_div i.imm hi.imm.1 hi.imm.2).trans hw
 have m0 := hi.imm.1
 have t1 : i.imm.tdiv 4096 = i.imm / 4096 := Int.tdiv_eq_ediv_of_nonneg m0
 have t3 : IntKind.u16.wrap (i.imm / 4096) = i.imm / 4096 := IntWalk.u16_in _ (by have := hi.imm.2; omega)
 clear hv hf hw
 go_enter Tryz.func52, Tryz.ntmps52
 go_wp2_with (first
  | (refine wpList_load_row rfl _ (.tmp 2) rfl _ rfl _ _ _ _ HH.out.b0 Tryz.underlying53 rfl ?_ ?_; kernel_rfl)
  | (go_at_call 60; refine (z7 i _).mono ?_; rintro e w2 ⟨rfl, hb2⟩; rw [HV.out]; have HH := zh (HH.out.stay hb2); have hci := HH.out.ci; have hcp := HH.out.cp; clear hb2)
  | (go_at_call 59; refine (yg _ _).mono ?_; rintro e w3 ⟨rfl, hb3⟩; rw [HF.out]; replace HH := zh (HH.out.stay hb3); clear hci hcp; have hci := HH.out.ci; have hcp := HH.out.cp; clear hb3)
  | (refine wpList_store_row rfl _ (.tmp 4) _ rfl _ #[.int .i64 0, .int .u16 i.imm] rfl rfl _ _ HH.out.br ?_ ?_ ?_ ?_; kernel_rfl; rfl; kernel_rfl))
 refine bodyPost_ret (ze (cs := #[.int .i64 0, .int .u16 i.imm]) (fr := (0, 0)) Tryz.results52 _ _ (w.heap.size + 2) 47 _ ?_ (setRow_heap _ _ _ _ _ _ HH.out.br) Tryz.underlying47 rfl (by kernel_rfl)) rfl ⟨rfl, below_setRow HH.out.bb (by omega) _⟩
 rfl
set_option maxRecDepth 100000 in
set_option maxHeartbeats 1000000 in
theorem rtarget_none (i : Ins) (hi : i.Ok) (p : zc) (p0 : 0 ≤ p.addr) (p1 : p.addr < 65536) (hv : zu i = true) (h10 : (zf i.op == 10) = false) (h11 : (zf i.op == 11) = false) (h13 : (zf i.op == 13) = false) (h12 : (zf i.op == 12) = false) (w : World) :
  Calls Tryz.prog 52 #[.agg #[.int .i64 (i).op, .int .i64 (i).d, .int .i64 (i).s, .int .u16 (i).imm, .int .u16 (i).aux, .int .i64 (i).bank, .int .i64 (i).size], .agg #[.int .i64 p.bank, .int .u16 p.addr]] w fun e w' => e = .returned (.tuple #[.agg #[.int .i64 0, .int .u16 0], .bool false]) ∧ Below w.heap.size w w' := by
 have HH := zh (THeld.first i p w)
 rw [yH i hi] at hv
 have HV := zh hv
 clear hv
 go_enter Tryz.func52, Tryz.ntmps52
 go_wp2_with (first
  | (refine wpList_load_row rfl _ (.tmp 2) rfl _ rfl _ _ _ _ HH.out.b0 Tryz.underlying53 rfl ?_ ?_; kernel_rfl)
  | (go_at_call 60; refine (z7 i _).mono ?_; rintro e w2 ⟨rfl, hb2⟩; rw [HV.out]; have HH := zh (HH.out.stay hb2); have hci := HH.out.ci; have hcp := HH.out.cp; clear hb2)
  | (go_at_call 59; refine (yg _ _).mono ?_; rintro e w3 ⟨rfl, hb3⟩; replace HH := zh (HH.out.stay hb3); clear hci hcp; have hci := HH.out.ci; have hcp := HH.out.cp; clear hb3)
  | (refine wpList_store_row rfl _ (.tmp 4) _ rfl _ #[.int .i64 0, .int .u16 0] rfl rfl _ _ HH.out.br ?_ ?_ ?_ ?_; kernel_rfl; rfl; kernel_rfl))
 refine bodyPost_ret (ze (cs := #[.int .i64 0, .int .u16 0]) (fr := (0, 0)) Tryz.results52 _ _ (w.heap.size + 2) 47 _ ?_ (setRow_heap _ _ _ _ _ _ HH.out.br) Tryz.underlying47 rfl (by kernel_rfl)) rfl ⟨rfl, below_setRow HH.out.bb (by omega) _⟩
 rfl
theorem rtarget_any (i : Ins) (hi : i.Ok) (p : zc) (p0 : 0 ≤ p.addr) (p1 : p.addr < 65536) (w : World) :
  Calls Tryz.prog 52 #[.agg #[.int .i64 (i).op, .int .i64 (i).d, .int .i64 (i).s, .int .u16 (i).imm, .int .u16 (i).aux, .int .i64 (i).bank, .int .i64 (i).size], .agg #[.int .i64 p.bank, .int .u16 p.addr]] w fun e w' => e = .returned (.tuple #[.agg #[.int .i64 (zR i p).1.bank, .int .u16 (zR i p).1.addr], .bool (zR i p).2]) ∧ Below w.heap.size w w' := by
 cases hv : zu i with
 | false =>
  have e : zR i p = (⟨0, 0⟩, false) := by unfold zR; rw [hv]; rfl
  rw [e]; exact rtarget_bad i hi p p0 p1 hv w
 | true =>
  have hf := (yM i hi hv).1
  rw [target_seen i p hv hf]
  by_cases h10 : zf i.op = 10
  ·rw [h10]; exact rtarget_rel10 i hi p p0 p1 hv h10 w
  by_cases h11 : zf i.op = 11
  ·rw [h11]; exact rtarget_rel11 i hi p p0 p1 hv h11 w
  by_cases h13 : zf i.op = 13
  ·rw [h13]; exact rtarget_rel13 i hi p p0 p1 hv h13 w
  have b10 : (zf i.op == 10) = false := by simpa using h10
  have b11 : (zf i.op == 11) = false := by simpa using h11
  have b13 : (zf i.op == 13) = false := by simpa using h13
  rw [b10, b11, b13]
  by_cases h12 : zf i.op = 12
  ·rw [h12]
   cases hw : xX i.imm with
   | true => exact rtarget_far1 i hi p p0 p1 hv h12 hw w
   | false => exact rtarget_far0 i hi p p0 p1 hv h12 hw w
  ·have b12 : (zf i.op == 12) = false := by simpa using h12
   rw [b12]
   exact rtarget_none i hi p p0 p1 hv b10 b11 b13 b12 w
end Go.Proofs.YteofmaiojepdkaaGreat
namespace Go.Proofs.YteofmaiojepdkaaGreat
open Go.RowKit
theorem rfalls_stop (i : Ins) (h : stopS i.op = true) (w : World) :
  Calls Tryz.prog 49 #[.agg #[.int .i64 (i).op, .int .i64 (i).d, .int .i64 (i).s, .int .u16 (i).imm, .int .u16 (i).aux, .int .i64 (i).bank, .int .i64 (i).size]] w fun e w' => e = .returned (.bool (xT i)) ∧ Below w.heap.size w w' := by
 have e1 : xT i = false := by unfold xT; rw [h]; rfl
 rw [e1]
 clear e1
 unfold stopS at h
 simp only [Bool.or_eq_true, beq_iff_eq, or_assoc] at h
 obtain ⟨op, d, s, imm, aux, bank, size⟩ := i
 have HB := zh (heap_alloc_new w (.cells #[.int .i64 op, .int .i64 d, .int .i64 s, .int .u16 imm, .int .u16 aux, .int .i64 bank, .int .i64 size] 53))
 rcases h with h | h | h | h | h | h | h | h <;> subst h
 ·go_enter Tryz.func49, Tryz.ntmps49
  go_wp2_with (first
   | (refine wpList_load_row rfl _ (.tmp 1) rfl _ rfl _ _ _ _ HB.out Tryz.underlying53 rfl ?_ ?_; kernel_rfl)
   | (go_at_call 60; refine (z7 ⟨1, d, s, imm, aux, bank, size⟩ _).mono ?_; rintro e w2 ⟨rfl, hb2⟩; have hc := cell_of_row w2 w.heap.size 0 _ _ _ ((hb2.block _ (by simp)).trans HB.out)))
  go_ret
  exact ⟨rfl, ((Below.refl _ _).alloc (zn _) _).trans (hb2.mono (by simp))⟩
 ·go_enter Tryz.func49, Tryz.ntmps49
  go_wp2_with (first
   | (refine wpList_load_row rfl _ (.tmp 1) rfl _ rfl _ _ _ _ HB.out Tryz.underlying53 rfl ?_ ?_; kernel_rfl)
   | (go_at_call 60; refine (z7 ⟨2, d, s, imm, aux, bank, size⟩ _).mono ?_; rintro e w2 ⟨rfl, hb2⟩; have hc := cell_of_row w2 w.heap.size 0 _ _ _ ((hb2.block _ (by simp)).trans HB.out)))
  go_ret
  exact ⟨rfl, ((Below.refl _ _).alloc (zn _) _).trans (hb2.mono (by simp))⟩
 ·go_enter Tryz.func49, Tryz.ntmps49
  go_wp2_with (first
   | (refine wpList_load_row rfl _ (.tmp 1) rfl _ rfl _ _ _ _ HB.out Tryz.underlying53 rfl ?_ ?_; kernel_rfl)
   | (go_at_call 60; refine (z7 ⟨3, d, s, imm, aux, bank, size⟩ _).mono ?_; rintro e w2 ⟨rfl, hb2⟩; have hc := cell_of_row w2 w.heap.size 0 _ _ _ ((hb2.block _ (by simp)).trans HB.out)))
  go_ret
  exact ⟨rfl, ((Below.refl _ _).alloc (zn _) _).trans (hb2.mono (by simp))⟩
 ·go_enter Tryz.func49, Tryz.ntmps49
  go_wp2_with (first
   | (refine wpList_load_row rfl _ (.tmp 1) rfl _ rfl _ _ _ _ HB.out Tryz.underlying53 rfl ?_ ?_; kernel_rfl)
   | (go_at_call 60; refine (z7 ⟨128, d, s, imm, aux, bank, size⟩ _).mono ?_; rintro e w2 ⟨rfl, hb2⟩; have hc := cell_of_row w2 w.heap.size 0 _ _ _ ((hb2.block _ (by simp)).trans HB.out)))
  go_ret
  exact ⟨rfl, ((Below.refl _ _).alloc (zn _) _).trans (hb2.mono (by simp))⟩
 ·go_enter Tryz.func49, Tryz.ntmps49
  go_wp2_with (first
   | (refine wpList_load_row rfl _ (.tmp 1) rfl _ rfl _ _ _ _ HB.out Tryz.underlying53 rfl ?_ ?_; kernel_rfl)
   | (go_at_call 60; refine (z7 ⟨129, d, s, imm, aux, bank, size⟩ _).mono ?_; rintro e w2 ⟨rfl, hb2⟩; have hc := cell_of_row w2 w.heap.size 0 _ _ _ ((hb2.block _ (by simp)).trans HB.out)))
  go_ret
  exact ⟨rfl, ((Below.refl _ _).alloc (zn _) _).trans (hb2.mono (by simp))⟩
 ·go_enter Tryz.func49, Tryz.ntmps49
  go_wp2_with (first
   | (refine wpList_load_row rfl _ (.tmp 1) rfl _ rfl _ _ _ _ HB.out Tryz.underlying53 rfl ?_ ?_; kernel_rfl)
   | (go_at_call 60; refine (z7 ⟨131, d, s, imm, aux, bank, size⟩ _).mono ?_; rintro e w2 ⟨rfl, hb2⟩; have hc := cell_of_row w2 w.heap.size 0 _ _ _ ((hb2.block _ (by simp)).trans HB.out)))
  go_ret
  exact ⟨rfl, ((Below.refl _ _).alloc (zn _) _).trans (hb2.mono (by simp))⟩
 ·go_enter Tryz.func49, Tryz.ntmps49
  go_wp2_with (first
   | (refine wpList_load_row rfl _ (.tmp 1) rfl _ rfl _ _ _ _ HB.out Tryz.underlying53 rfl ?_ ?_; kernel_rfl)
   | (go_at_call 60; refine (z7 ⟨133, d, s, imm, aux, bank, size⟩ _).mono ?_; rintro e w2 ⟨rfl, hb2⟩; have hc := cell_of_row w2 w.heap.size 0 _ _ _ ((hb2.block _ (by simp)).trans HB.out)))
  go_ret
  exact ⟨rfl, ((Below.refl _ _).alloc (zn _) _).trans (hb2.mono (by simp))⟩
 ·go_enter Tryz.func49, Tryz.ntmps49
  go_wp2_with (first
   | (refine wpList_load_row rfl _ (.tmp 1) rfl _ rfl _ _ _ _ HB.out Tryz.underlying53 rfl ?_ ?_; kernel_rfl)
   | (go_at_call 60; refine (z7 ⟨134, d, s, imm, aux, bank, size⟩ _).mono ?_; rintro e w2 ⟨rfl, hb2⟩; have hc := cell_of_row w2 w.heap.size 0 _ _ _ ((hb2.block _ (by simp)).trans HB.out)))
  go_ret
  exact ⟨rfl, ((Below.refl _ _).alloc (zn _) _).trans (hb2.mono (by simp))⟩
theorem rfalls_any (i : Ins) (hi : i.Ok) (w : World) :
  Calls Tryz.prog 49 #[.agg #[.int .i64 (i).op, .int .i64 (i).d, .int .i64 (i).s, .int .u16 (i).imm, .int .u16 (i).aux, .int .i64 (i).bank, .int .i64 (i).size]] w fun e w' => e = .returned (.bool (xT i)) ∧ Below w.heap.size w w' := by
 cases h : stopS i.op with
 | true => exact rfalls_stop i h w
 | false =>
  have e1 : xT i = zw i := by unfold xT; rw [h, yH i hi]; rfl
  rw [e1]
  clear e1
  unfold stopS at h
  simp only [Bool.or_eq_false_iff, beq_eq_false_iff_ne, and_assoc] at h
  obtain ⟨h1, h2, h3, h4, h5, h6, h7, h8⟩ := h
  have HB := zh (heap_alloc_new w (.cells #[.int .i64 i.op, .int .i64 i.d, .int .i64 i.s, .int .u16 i.imm, .int .u16 i.aux, .int .i64 i.bank, .int .i64 i.size] 53))
  go_enter Tryz.func49, Tryz.ntmps49
  go_wp2_with (first
   | (refine wpList_load_row rfl _ (.tmp 1) rfl _ rfl _ _ _ _ HB.out Tryz.underlying53 rfl ?_ ?_; kernel_rfl)
   | (go_at_call 60; refine (z7 i _).mono ?_; rintro e w2 ⟨rfl, hb2⟩; have hc := cell_of_row w2 w.heap.size 0 _ _ _ ((hb2.block _ (by simp)).trans HB.out)))
  go_ret
  exact ⟨rfl, ((Below.refl _ _).alloc (zn _) _).trans (hb2.mono (by simp))⟩
end Go.Proofs.YteofmaiojepdkaaGreat
