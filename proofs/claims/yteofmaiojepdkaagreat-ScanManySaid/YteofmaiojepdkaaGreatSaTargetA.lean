/- window, relative, Falls, Target of package isa: walked. -/
import Derived.Test.YteofmaiojepdkaaGreatSaPlc
set_option linter.all false
namespace Go.Proofs.YteofmaiojepdkaaGreat
open Go.RowKit
theorem yx (a : Int) (w : World) :
    Calls Tryz.prog 121 #[.int .u16 a] w fun e w' => e = .returned (.bool (winS a)) ∧ w = w' := by
  unfold winS
  by_cases h1 : 4096 ≤ a
  · by_cases h2 : a < 8192
    · rw [decide_eq_true h1, decide_eq_true h2]
      go_enter Tryz.func121, Tryz.ntmps121
      go_wp2
      go_ret
      exact ⟨rfl, rfl⟩
    · rw [decide_eq_false h2, Bool.and_false]
      have h3 : 8192 ≤ a := by omega
      go_enter Tryz.func121, Tryz.ntmps121
      go_wp2
      go_ret
      exact ⟨rfl, rfl⟩
  · rw [decide_eq_false h1, Bool.false_and]
    have h3 : a < 4096 := by omega
    go_enter Tryz.func121, Tryz.ntmps121
    go_wp2
    go_ret
    exact ⟨rfl, rfl⟩
theorem xd (op : Int) (w : World) :
    Calls Tryz.prog 120 #[.int .i64 op] w fun e w' => e = .returned (.bool (relS op)) ∧ w = w' := by
  by_cases h : 96 ≤ op ∧ op ≤ 130
  · have e1 : relS op = true := by unfold relS; rw [decide_eq_true h.1, decide_eq_true h.2]; rfl
    rw [e1]
    obtain ⟨a, b⟩ := h
    clear e1
    go_enter Tryz.func120, Tryz.ntmps120
    go_wp2
    go_ret
    exact ⟨rfl, rfl⟩
  by_cases h2 : op = 133
  · subst h2
    go_enter Tryz.func120, Tryz.ntmps120
    go_wp2
    go_ret
    exact ⟨rfl, rfl⟩
  · have e1 : relS op = false := by unfold relS; simp only [Bool.or_eq_false_iff, Bool.and_eq_false_iff, decide_eq_false_iff_not, beq_eq_false_iff_ne]; exact ⟨by omega, h2⟩
    rw [e1]
    clear e1
    have hb : (op == 133) = false := by simp [h2]
    by_cases h3 : op < 96
    · go_enter Tryz.func120, Tryz.ntmps120
      go_wp2
      go_ret
      exact ⟨by first | (simp [h2]; done) | (simp [h2]; omega), rfl⟩
    · have h4 : 130 < op := by omega
      go_enter Tryz.func120, Tryz.ntmps120
      go_wp2
      go_ret
      exact ⟨by first | (simp [h2]; done) | (simp [h2]; omega), rfl⟩
theorem falls_stop (i : Ins) (h : stopS i.op = true) (w : World) :
    Calls Tryz.prog 109 #[.agg #[.int .i64 (i).op, .int .i64 (i).d, .int .i64 (i).s, .int .u16 (i).imm, .int .u16 (i).aux, .int .i64 (i).bank, .int .i64 (i).size]] w fun e w' => e = .returned (.bool (fallsS i)) ∧ Below w.heap.size w w' := by
  have e1 : fallsS i = false := by unfold fallsS; rw [h]; rfl
  rw [e1]
  clear e1
  unfold stopS at h
  simp only [Bool.or_eq_true, beq_iff_eq, or_assoc] at h
  obtain ⟨op, d, s, imm, aux, bank, size⟩ := i
  rcases h with h | h | h | h | h | h | h | h <;> subst h
  · go_enter Tryz.func109, Tryz.ntmps109
    go_wp2
    go_ret
    exact ⟨rfl, (Below.refl _ _).alloc (zn _) _⟩
  · go_enter Tryz.func109, Tryz.ntmps109
    go_wp2
    go_ret
    exact ⟨rfl, (Below.refl _ _).alloc (zn _) _⟩
  · go_enter Tryz.func109, Tryz.ntmps109
    go_wp2
    go_ret
    exact ⟨rfl, (Below.refl _ _).alloc (zn _) _⟩
  · go_enter Tryz.func109, Tryz.ntmps109
    go_wp2
    go_ret
    exact ⟨rfl, (Below.refl _ _).alloc (zn _) _⟩
  · go_enter Tryz.func109, Tryz.ntmps109
    go_wp2
    go_ret
    exact ⟨rfl, (Below.refl _ _).alloc (zn _) _⟩
  · go_enter Tryz.func109, Tryz.ntmps109
    go_wp2
    go_ret
    exact ⟨rfl, (Below.refl _ _).alloc (zn _) _⟩
  · go_enter Tryz.func109, Tryz.ntmps109
    go_wp2
    go_ret
    exact ⟨rfl, (Below.refl _ _).alloc (zn _) _⟩
  · go_enter Tryz.func109, Tryz.ntmps109
    go_wp2
    go_ret
    exact ⟨rfl, (Below.refl _ _).alloc (zn _) _⟩
theorem falls_any (i : Ins) (hi : i.Ok) (w : World) :
    Calls Tryz.prog 109 #[.agg #[.int .i64 (i).op, .int .i64 (i).d, .int .i64 (i).s, .int .u16 (i).imm, .int .u16 (i).aux, .int .i64 (i).bank, .int .i64 (i).size]] w fun e w' => e = .returned (.bool (fallsS i)) ∧ Below w.heap.size w w' := by
  cases h : stopS i.op with
  | true => exact falls_stop i h w
  | false =>
    have e1 : fallsS i = zl i := by unfold fallsS; rw [h]; rfl
    rw [e1]
    clear e1
    unfold stopS at h
    simp only [Bool.or_eq_false_iff, beq_eq_false_iff_ne, and_assoc] at h
    obtain ⟨h1, h2, h3, h4, h5, h6, h7, h8⟩ := h
    have HB := zh (heap_alloc_new w (.cells #[.int .i64 i.op, .int .i64 i.d, .int .i64 i.s, .int .u16 i.imm, .int .u16 i.aux, .int .i64 i.bank, .int .i64 i.size] 53))
    go_enter Tryz.func109, Tryz.ntmps109
    go_wp2_with (first
      | (refine wpList_load_row rfl _ (.tmp 1) rfl _ rfl _ _ _ _ HB.out Tryz.underlying53 rfl ?_ ?_; kernel_rfl)
      | (go_at_call 119; refine (yf i hi _).mono ?_; rintro e w2 ⟨rfl, hb2⟩))
    go_ret
    exact ⟨rfl, ((Below.refl _ _).alloc (zn _) _).trans (hb2.mono (by simp))⟩
set_option maxRecDepth 100000 in
set_option maxHeartbeats 1000000 in
theorem target_bad (i : Ins) (hi : i.Ok) (p : zc) (hv : zl i = false) (w : World) :
    Calls Tryz.prog 94 #[.agg #[.int .i64 (i).op, .int .i64 (i).d, .int .i64 (i).s, .int .u16 (i).imm, .int .u16 (i).aux, .int .i64 (i).bank, .int .i64 (i).size], .agg #[.int .i64 p.bank, .int .u16 p.addr]] w fun e w' => e = .returned (.tuple #[.agg #[.int .i64 (0), .int .u16 (0)], .bool false]) ∧ Below w.heap.size w w' := by
  have HH := zh (THeld.first i p w)
  have HV := zh hv
  clear hv
  go_enter Tryz.func94, Tryz.ntmps94
  go_wp2_with (first
    | (refine wpList_load_row rfl _ (.tmp 2) rfl _ rfl _ _ _ _ HH.out.b0 Tryz.underlying53 rfl ?_ ?_; kernel_rfl)
    | (go_at_call 119; refine (yf i hi _).mono ?_; rintro e w2 ⟨rfl, hb2⟩; rw [HV.out]; have HH := zh (HH.out.stay hb2); have hci := HH.out.ci; have hcp := HH.out.cp; clear hb2)
    | (go_at_call 120; refine (xd _ _).mono ?_; rintro e w3 ⟨rfl, rfl⟩; rw [HR.out])
    | (go_at_call 121; refine (yx _ _).mono ?_; rintro e w3 ⟨rfl, rfl⟩; first
        | rw [HA.out]
        | rw [HP.out]
        | rw [HM.out])
    | (refine wpList_store_row rfl _ (.tmp 4) _ rfl _ _ rfl rfl _ _ HH.out.br ?_ ?_ ?_ ?_; kernel_rfl; rfl; kernel_rfl))
  refine bodyPost_ret (zf (cs := #[.int .i64 (0), .int .u16 (0)]) (fr := (0, 0)) Tryz.results94 _ _ (w.heap.size + 2) 47 _ ?_ (setRow_heap _ _ _ _ _ _ HH.out.br) Tryz.underlying47 rfl (by kernel_rfl)) rfl ⟨rfl, below_setRow HH.out.bb (by omega) _⟩
  rfl
set_option maxRecDepth 100000 in
set_option maxHeartbeats 1000000 in
theorem target_rel0 (i : Ins) (hi : i.Ok) (p : zc) (hv : zl i = true) (hr : relS i.op = true) (ha : winS (tgt i p) = false) (w : World) :
    Calls Tryz.prog 94 #[.agg #[.int .i64 (i).op, .int .i64 (i).d, .int .i64 (i).s, .int .u16 (i).imm, .int .u16 (i).aux, .int .i64 (i).bank, .int .i64 (i).size], .agg #[.int .i64 p.bank, .int .u16 p.addr]] w fun e w' => e = .returned (.tuple #[.agg #[.int .i64 (0), .int .u16 (tgt i p)], .bool true]) ∧ Below w.heap.size w w' := by
  have HH := zh (THeld.first i p w)
  obtain ⟨s0, s1⟩ := valid_size_bd hi hv
  rw [← tgt_eq i p] at ha ⊢
  have HV := zh hv
  have HR := zh hr
  have HA := zh ha
  clear hv hr ha
  go_enter Tryz.func94, Tryz.ntmps94
  go_wp2_with (first
    | (refine wpList_load_row rfl _ (.tmp 2) rfl _ rfl _ _ _ _ HH.out.b0 Tryz.underlying53 rfl ?_ ?_; kernel_rfl)
    | (go_at_call 119; refine (yf i hi _).mono ?_; rintro e w2 ⟨rfl, hb2⟩; rw [HV.out]; have HH := zh (HH.out.stay hb2); have hci := HH.out.ci; have hcp := HH.out.cp; clear hb2)
    | (go_at_call 120; refine (xd _ _).mono ?_; rintro e w3 ⟨rfl, rfl⟩; rw [HR.out])
    | (go_at_call 121; refine (yx _ _).mono ?_; rintro e w3 ⟨rfl, rfl⟩; first
        | rw [HA.out]
        | rw [HP.out]
        | rw [HM.out])
    | (refine wpList_store_row rfl _ (.tmp 4) _ rfl _ _ rfl rfl _ _ HH.out.br ?_ ?_ ?_ ?_; kernel_rfl; rfl; kernel_rfl))
  refine bodyPost_ret (zf (cs := #[.int .i64 (0), .int .u16 (IntKind.u16.wrap (IntKind.u16.wrap (p.addr + i.size) + i.imm))]) (fr := (0, 0)) Tryz.results94 _ _ (w.heap.size + 2) 47 _ ?_ (setRow_heap _ _ _ _ _ _ HH.out.br) Tryz.underlying47 rfl (by kernel_rfl)) rfl ⟨rfl, below_setRow HH.out.bb (by omega) _⟩
  rfl
set_option maxRecDepth 100000 in
set_option maxHeartbeats 1000000 in
theorem target_rel1 (i : Ins) (hi : i.Ok) (p : zc) (hv : zl i = true) (hr : relS i.op = true) (ha : winS (tgt i p) = true) (hp : winS p.addr = false) (w : World) :
    Calls Tryz.prog 94 #[.agg #[.int .i64 (i).op, .int .i64 (i).d, .int .i64 (i).s, .int .u16 (i).imm, .int .u16 (i).aux, .int .i64 (i).bank, .int .i64 (i).size], .agg #[.int .i64 p.bank, .int .u16 p.addr]] w fun e w' => e = .returned (.tuple #[.agg #[.int .i64 (0), .int .u16 (0)], .bool false]) ∧ Below w.heap.size w w' := by
  have HH := zh (THeld.first i p w)
  obtain ⟨s0, s1⟩ := valid_size_bd hi hv
  rw [← tgt_eq i p] at ha
  have HV := zh hv
  have HR := zh hr
  have HA := zh ha
  have HP := zh hp
  clear hv hr ha hp
  go_enter Tryz.func94, Tryz.ntmps94
  go_wp2_with (first
    | (refine wpList_load_row rfl _ (.tmp 2) rfl _ rfl _ _ _ _ HH.out.b0 Tryz.underlying53 rfl ?_ ?_; kernel_rfl)
    | (go_at_call 119; refine (yf i hi _).mono ?_; rintro e w2 ⟨rfl, hb2⟩; rw [HV.out]; have HH := zh (HH.out.stay hb2); have hci := HH.out.ci; have hcp := HH.out.cp; clear hb2)
    | (go_at_call 120; refine (xd _ _).mono ?_; rintro e w3 ⟨rfl, rfl⟩; rw [HR.out])
    | (go_at_call 121; refine (yx _ _).mono ?_; rintro e w3 ⟨rfl, rfl⟩; first
        | rw [HA.out]
        | rw [HP.out]
        | rw [HM.out])
    | (refine wpList_store_row rfl _ (.tmp 4) _ rfl _ _ rfl rfl _ _ HH.out.br ?_ ?_ ?_ ?_; kernel_rfl; rfl; kernel_rfl))
  refine bodyPost_ret (zf (cs := #[.int .i64 (0), .int .u16 (0)]) (fr := (0, 0)) Tryz.results94 _ _ (w.heap.size + 2) 47 _ ?_ (setRow_heap _ _ _ _ _ _ HH.out.br) Tryz.underlying47 rfl (by kernel_rfl)) rfl ⟨rfl, below_setRow HH.out.bb (by omega) _⟩
  rfl
set_option maxRecDepth 100000 in
set_option maxHeartbeats 1000000 in
theorem target_rel2 (i : Ins) (hi : i.Ok) (p : zc) (hv : zl i = true) (hr : relS i.op = true) (ha : winS (tgt i p) = true) (hp : winS p.addr = true) (w : World) :
    Calls Tryz.prog 94 #[.agg #[.int .i64 (i).op, .int .i64 (i).d, .int .i64 (i).s, .int .u16 (i).imm, .int .u16 (i).aux, .int .i64 (i).bank, .int .i64 (i).size], .agg #[.int .i64 p.bank, .int .u16 p.addr]] w fun e w' => e = .returned (.tuple #[.agg #[.int .i64 (p.bank), .int .u16 (tgt i p)], .bool true]) ∧ Below w.heap.size w w' := by
  have HH := zh (THeld.first i p w)
  obtain ⟨s0, s1⟩ := valid_size_bd hi hv
  rw [← tgt_eq i p] at ha ⊢
  have HV := zh hv
  have HR := zh hr
  have HA := zh ha
  have HP := zh hp
  clear hv hr ha hp
  go_enter Tryz.func94, Tryz.ntmps94
  go_wp2_with (first
    | (refine wpList_load_row rfl _ (.tmp 2) rfl _ rfl _ _ _ _ HH.out.b0 Tryz.underlying53 rfl ?_ ?_; kernel_rfl)
    | (go_at_call 119; refine (yf i hi _).mono ?_; rintro e w2 ⟨rfl, hb2⟩; rw [HV.out]; have HH := zh (HH.out.stay hb2); have hci := HH.out.ci; have hcp := HH.out.cp; clear hb2)
    | (go_at_call 120; refine (xd _ _).mono ?_; rintro e w3 ⟨rfl, rfl⟩; rw [HR.out])
    | (go_at_call 121; refine (yx _ _).mono ?_; rintro e w3 ⟨rfl, rfl⟩; first
        | rw [HA.out]
        | rw [HP.out]
        | rw [HM.out])
    | (refine wpList_store_row rfl _ (.tmp 4) _ rfl _ _ rfl rfl _ _ HH.out.br ?_ ?_ ?_ ?_; kernel_rfl; rfl; kernel_rfl))
  refine bodyPost_ret (zf (cs := #[.int .i64 (p.bank), .int .u16 (IntKind.u16.wrap (IntKind.u16.wrap (p.addr + i.size) + i.imm))]) (fr := (0, 0)) Tryz.results94 _ _ (w.heap.size + 2) 47 _ ?_ (setRow_heap _ _ _ _ _ _ HH.out.br) Tryz.underlying47 rfl (by kernel_rfl)) rfl ⟨rfl, below_setRow HH.out.bb (by omega) _⟩
  rfl
set_option maxRecDepth 100000 in
set_option maxHeartbeats 1000000 in
theorem target_far0 (i : Ins) (hi : i.Ok) (p : zc) (hv : zl i = true) (hr : relS i.op = false) (hf : farS i.op = true) (hm : winS i.imm = false) (w : World) :
    Calls Tryz.prog 94 #[.agg #[.int .i64 (i).op, .int .i64 (i).d, .int .i64 (i).s, .int .u16 (i).imm, .int .u16 (i).aux, .int .i64 (i).bank, .int .i64 (i).size], .agg #[.int .i64 p.bank, .int .u16 p.addr]] w fun e w' => e = .returned (.tuple #[.agg #[.int .i64 (0), .int .u16 (i.imm)], .bool true]) ∧ Below w.heap.size w w' := by
  have HH := zh (THeld.first i p w)
  have HV := zh hv
  have HR := zh hr
  have HM := zh hm
  clear hv hr hm
  unfold farS at hf
  simp only [Bool.or_eq_true, beq_iff_eq] at hf
  obtain ⟨op, d, s, imm, aux, bank, size⟩ := i
  dsimp only at hf HR HM ⊢
  rcases hf with n1 | n1 <;> subst n1
  · go_enter Tryz.func94, Tryz.ntmps94
    go_wp2_with (first
      | (refine wpList_load_row rfl _ (.tmp 2) rfl _ rfl _ _ _ _ HH.out.b0 Tryz.underlying53 rfl ?_ ?_; kernel_rfl)
      | (go_at_call 119; refine (yf ⟨131, d, s, imm, aux, bank, size⟩ hi _).mono ?_; rintro e w2 ⟨rfl, hb2⟩; rw [HV.out]; have HH := zh (HH.out.stay hb2); have hci := HH.out.ci; have hcp := HH.out.cp; clear hb2)
      | (go_at_call 120; refine (xd _ _).mono ?_; rintro e w3 ⟨rfl, rfl⟩; rw [HR.out])
      | (go_at_call 121; refine (yx _ _).mono ?_; rintro e w3 ⟨rfl, rfl⟩; first
          | rw [HA.out]
          | rw [HP.out]
          | rw [HM.out])
      | (refine wpList_store_row rfl _ (.tmp 4) _ rfl _ _ rfl rfl _ _ HH.out.br ?_ ?_ ?_ ?_; kernel_rfl; rfl; kernel_rfl))
    refine bodyPost_ret (zf (cs := #[.int .i64 (0), .int .u16 (imm)]) (fr := (0, 0)) Tryz.results94 _ _ (w.heap.size + 2) 47 _ ?_ (setRow_heap _ _ _ _ _ _ HH.out.br) Tryz.underlying47 rfl (by kernel_rfl)) rfl ⟨rfl, below_setRow HH.out.bb (by omega) _⟩
    rfl
  · go_enter Tryz.func94, Tryz.ntmps94
    go_wp2_with (first
      | (refine wpList_load_row rfl _ (.tmp 2) rfl _ rfl _ _ _ _ HH.out.b0 Tryz.underlying53 rfl ?_ ?_; kernel_rfl)
      | (go_at_call 119; refine (yf ⟨132, d, s, imm, aux, bank, size⟩ hi _).mono ?_; rintro e w2 ⟨rfl, hb2⟩; rw [HV.out]; have HH := zh (HH.out.stay hb2); have hci := HH.out.ci; have hcp := HH.out.cp; clear hb2)
      | (go_at_call 120; refine (xd _ _).mono ?_; rintro e w3 ⟨rfl, rfl⟩; rw [HR.out])
      | (go_at_call 121; refine (yx _ _).mono ?_; rintro e w3 ⟨rfl, rfl⟩; first
          | rw [HA.out]
          | rw [HP.out]
          | rw [HM.out])
      | (refine wpList_store_row rfl _ (.tmp 4) _ rfl _ _ rfl rfl _ _ HH.out.br ?_ ?_ ?_ ?_; kernel_rfl; rfl; kernel_rfl))
    refine bodyPost_ret (zf (cs := #[.int .i64 (0), .int .u16 (imm)]) (fr := (0, 0)) Tryz.results94 _ _ (w.heap.size + 2) 47 _ ?_ (setRow_heap _ _ _ _ _ _ HH.out.br) Tryz.underlying47 rfl (by kernel_rfl)) rfl ⟨rfl, below_setRow HH.out.bb (by omega) _⟩
    rfl
set_option maxRecDepth 100000 in
set_option maxHeartbeats 1000000 in
theorem target_far1 (i : Ins) (hi : i.Ok) (p : zc) (hv : zl i = true) (hr : relS i.op = false) (hf : farS i.op = true) (hm : winS i.imm = true) (w : World) :
    Calls Tryz.prog 94 #[.agg #[.int .i64 (i).op, .int .i64 (i).d, .int .i64 (i).s, .int .u16 (i).imm, .int .u16 (i).aux, .int .i64 (i).bank, .int .i64 (i).size], .agg #[.int .i64 p.bank, .int .u16 p.addr]] w fun e w' => e = .returned (.tuple #[.agg #[.int .i64 (i.bank), .int .u16 (i.imm)], .bool true]) ∧ Below w.heap.size w w' := by
  have HH := zh (THeld.first i p w)
  have HV := zh hv
  have HR := zh hr
  have HM := zh hm
  clear hv hr hm
  unfold farS at hf
  simp only [Bool.or_eq_true, beq_iff_eq] at hf
  obtain ⟨op, d, s, imm, aux, bank, size⟩ := i
  dsimp only at hf HR HM ⊢
  rcases hf with n1 | n1 <;> subst n1
  · go_enter Tryz.func94, Tryz.ntmps94
    go_wp2_with (first
      | (refine wpList_load_row rfl _ (.tmp 2) rfl _ rfl _ _ _ _ HH.out.b0 Tryz.underlying53 rfl ?_ ?_; kernel_rfl)
      | (go_at_call 119; refine (yf ⟨131, d, s, imm, aux, bank, size⟩ hi _).mono ?_; rintro e w2 ⟨rfl, hb2⟩; rw [HV.out]; have HH := zh (HH.out.stay hb2); have hci := HH.out.ci; have hcp := HH.out.cp; clear hb2)
      | (go_at_call 120; refine (xd _ _).mono ?_; rintro e w3 ⟨rfl, rfl⟩; rw [HR.out])
      | (go_at_call 121; refine (yx _ _).mono ?_; rintro e w3 ⟨rfl, rfl⟩; first
          | rw [HA.out]
          | rw [HP.out]
          | rw [HM.out])
      | (refine wpList_store_row rfl _ (.tmp 4) _ rfl _ _ rfl rfl _ _ HH.out.br ?_ ?_ ?_ ?_; kernel_rfl; rfl; kernel_rfl))
    refine bodyPost_ret (zf (cs := #[.int .i64 (bank), .int .u16 (imm)]) (fr := (0, 0)) Tryz.results94 _ _ (w.heap.size + 2) 47 _ ?_ (setRow_heap _ _ _ _ _ _ HH.out.br) Tryz.underlying47 rfl (by kernel_rfl)) rfl ⟨rfl, below_setRow HH.out.bb (by omega) _⟩
    rfl
  · go_enter Tryz.func94, Tryz.ntmps94
    go_wp2_with (first
      | (refine wpList_load_row rfl _ (.tmp 2) rfl _ rfl _ _ _ _ HH.out.b0 Tryz.underlying53 rfl ?_ ?_; kernel_rfl)
      | (go_at_call 119; refine (yf ⟨132, d, s, imm, aux, bank, size⟩ hi _).mono ?_; rintro e w2 ⟨rfl, hb2⟩; rw [HV.out]; have HH := zh (HH.out.stay hb2); have hci := HH.out.ci; have hcp := HH.out.cp; clear hb2)
      | (go_at_call 120; refine (xd _ _).mono ?_; rintro e w3 ⟨rfl, rfl⟩; rw [HR.out])
      | (go_at_call 121; refine (yx _ _).mono ?_; rintro e w3 ⟨rfl, rfl⟩; first
          | rw [HA.out]
          | rw [HP.out]
          | rw [HM.out])
      | (refine wpList_store_row rfl _ (.tmp 4) _ rfl _ _ rfl rfl _ _ HH.out.br ?_ ?_ ?_ ?_; kernel_rfl; rfl; kernel_rfl))
    refine bodyPost_ret (zf (cs := #[.int .i64 (bank), .int .u16 (imm)]) (fr := (0, 0)) Tryz.results94 _ _ (w.heap.size + 2) 47 _ ?_ (setRow_heap _ _ _ _ _ _ HH.out.br) Tryz.underlying47 rfl (by kernel_rfl)) rfl ⟨rfl, below_setRow HH.out.bb (by omega) _⟩
    rfl
set_option maxRecDepth 100000 in
set_option maxHeartbeats 1000000 in
theorem target_none (i : Ins) (hi : i.Ok) (p : zc) (hv : zl i = true) (hr : relS i.op = false) (hf : farS i.op = false) (w : World) :
    Calls Tryz.prog 94 #[.agg #[.int .i64 (i).op, .int .i64 (i).d, .int .i64 (i).s, .int .u16 (i).imm, .int .u16 (i).aux, .int .i64 (i).bank, .int .i64 (i).size], .agg #[.int .i64 p.bank, .int .u16 p.addr]] w fun e w' => e = .returned (.tuple #[.agg #[.int .i64 (0), .int .u16 (0)], .bool false]) ∧ Below w.heap.size w w' := by
  have HH := zh (THeld.first i p w)
  have HV := zh hv
  have HR := zh hr
  clear hv hr
  unfold farS at hf
  simp only [Bool.or_eq_false_iff] at hf
  obtain ⟨n2, n3⟩ := hf
  have n1 : ¬((i.op == 131) = true ∨ (i.op == 132) = true) := by rw [n2, n3]; simp
  go_enter Tryz.func94, Tryz.ntmps94
  go_wp2_with (first
    | (refine wpList_load_row rfl _ (.tmp 2) rfl _ rfl _ _ _ _ HH.out.b0 Tryz.underlying53 rfl ?_ ?_; kernel_rfl)
    | (go_at_call 119; refine (yf i hi _).mono ?_; rintro e w2 ⟨rfl, hb2⟩; rw [HV.out]; have HH := zh (HH.out.stay hb2); have hci := HH.out.ci; have hcp := HH.out.cp; clear hb2)
    | (go_at_call 120; refine (xd _ _).mono ?_; rintro e w3 ⟨rfl, rfl⟩; rw [HR.out])
    | (go_at_call 121; refine (yx _ _).mono ?_; rintro e w3 ⟨rfl, rfl⟩; first
        | rw [HA.out]
        | rw [HP.out]
        | rw [HM.out])
    | (refine wpList_store_row rfl _ (.tmp 4) _ rfl _ _ rfl rfl _ _ HH.out.br ?_ ?_ ?_ ?_; kernel_rfl; rfl; kernel_rfl))
  refine bodyPost_ret (zf (cs := #[.int .i64 (0), .int .u16 (0)]) (fr := (0, 0)) Tryz.results94 _ _ (w.heap.size + 2) 47 _ ?_ (setRow_heap _ _ _ _ _ _ HH.out.br) Tryz.underlying47 rfl (by kernel_rfl)) rfl ⟨rfl, below_setRow HH.out.bb (by omega) _⟩
  rfl
theorem target_any (i : Ins) (hi : i.Ok) (p : zc) (w : World) :
    Calls Tryz.prog 94 #[.agg #[.int .i64 (i).op, .int .i64 (i).d, .int .i64 (i).s, .int .u16 (i).imm, .int .u16 (i).aux, .int .i64 (i).bank, .int .i64 (i).size], .agg #[.int .i64 p.bank, .int .u16 p.addr]] w fun e w' => e = .returned (.tuple #[.agg #[.int .i64 (zX i p).1.bank, .int .u16 (zX i p).1.addr], .bool (zX i p).2]) ∧ Below w.heap.size w w' := by
  unfold zX
  cases hv : zl i with
  | false => exact target_bad i hi p hv w
  | true =>
    cases hr : relS i.op with
    | true =>
      cases ha : winS (tgt i p) with
      | false => exact target_rel0 i hi p hv hr ha w
      | true =>
        cases hp : winS p.addr with
        | false => exact target_rel1 i hi p hv hr ha hp w
        | true => exact target_rel2 i hi p hv hr ha hp w
    | false =>
      cases hf : farS i.op with
      | false => exact target_none i hi p hv hr hf w
      | true =>
        cases hm : winS i.imm with
        | false => exact target_far0 i hi p hv hr hf hm w
        | true => exact target_far1 i hi p hv hr hf hm w
end Go.Proofs.YteofmaiojepdkaaGreat
