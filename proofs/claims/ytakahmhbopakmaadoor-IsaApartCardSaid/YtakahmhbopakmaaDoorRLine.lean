/- Line of the reference: walked; it answers as package isa's. Condition: the fields lie in their types' ranges. -/
import Derived.Test.YtakahmhbopakmaaDoorDecB
import Derived.Test.YtakahmhbopakmaaDoorRNam
import Derived.Test.YtakahmhbopakmaaDoorRefE
import Derived.Test.YtakahmhbopakmaaDoorRefD
set_option linter.all false
namespace Go.Proofs.YtakahmhbopakmaaDoor
open Go.RowKit

/-- Which operands an operation has, as package isa asks. -/
def opC (op : Int) : Nat :=
  if op ≤ 5 then 0 else if op ≤ 19 then 1 else if op ≤ 21 then 2 else if op < 48 then 3
  else if op < 80 then 4 else if 84 ≤ op ∧ op ≤ 87 then 5
  else if op < 96 then 6 else if op ≤ 130 then 7 else if op ≤ 132 then 8
  else if op = 133 then 9 else if op = 134 then 10
  else if op = 145 then 11 else if op = 146 ∨ op = 147 then 12
  else if op = 150 then 13 else if op = 162 ∨ op = 163 then 14 else 15
def opB (c : Nat) (i : Ins) (p : Place) : List (List UInt8) := match c with
  | 0 => [] | 1 => [reg8 i.d] | 2 => [Lib.itoa i.imm] | 3 => [reg8 i.d, reg8 i.s]
  | 4 => [reg8 i.d, Lib.itoa (sgnI i.imm)] | 5 => [reg8 i.d, [91] ++ addr8 i.imm ++ [93]]
  | 6 => [reg8 i.d, mem8 i.s i.imm] | 7 => [addr8 (tgt i p)] | 8 => [Lib.itoa i.bank ++ [58] ++ addr8 i.imm]
  | 9 => [reg8 i.d, Lib.itoa i.bank, addr8 (tgt i p), addr8 i.aux] | 10 => [reg8 i.d, addr8 i.imm]
  | 11 => [Lib.itoa i.imm, reg8 i.d] | 12 => [reg8 i.d, Lib.itoa i.bank ++ [58, 91] ++ reg8 i.s ++ [43] ++ addr8 i.imm ++ [93]]
  | 13 => [mem8 i.s i.imm, Lib.itoa (sgnI i.aux)] | 14 => [reg8 i.d, Lib.itoa (sgnI i.imm)] | _ => [reg8 i.d, Lib.itoa i.imm]
theorem opS_eq (i : Ins) (p : Place) : opS i p = opB (opC i.op) i p := by
  unfold opS opC
  by_cases h0 : i.op ≤ 5
  · simp only [if_pos h0]; rfl
  simp only [if_neg h0]
  by_cases h1 : i.op ≤ 19
  · simp only [if_pos h1]; rfl
  simp only [if_neg h1]
  by_cases h2 : i.op ≤ 21
  · simp only [if_pos h2]; rfl
  simp only [if_neg h2]
  by_cases h3 : i.op < 48
  · simp only [if_pos h3]; rfl
  simp only [if_neg h3]
  by_cases h4 : i.op < 80
  · simp only [if_pos h4]; rfl
  simp only [if_neg h4]
  by_cases h5 : 84 ≤ i.op ∧ i.op ≤ 87
  · simp only [if_pos h5]; rfl
  simp only [if_neg h5]
  by_cases h6 : i.op < 96
  · simp only [if_pos h6]; rfl
  simp only [if_neg h6]
  by_cases h7 : i.op ≤ 130
  · simp only [if_pos h7]; rfl
  simp only [if_neg h7]
  by_cases h8 : i.op ≤ 132
  · simp only [if_pos h8]; rfl
  simp only [if_neg h8]
  by_cases h9 : i.op = 133
  · simp only [if_pos h9]; rfl
  simp only [if_neg h9]
  by_cases h10 : i.op = 134
  · simp only [if_pos h10]; rfl
  simp only [if_neg h10]
  by_cases h11 : i.op = 145
  · simp only [if_pos h11]; rfl
  simp only [if_neg h11]
  by_cases h12 : i.op = 146 ∨ i.op = 147
  · simp only [if_pos h12]; rfl
  simp only [if_neg h12]
  by_cases h13 : i.op = 150
  · simp only [if_pos h13]; rfl
  simp only [if_neg h13]
  by_cases h14 : i.op = 162 ∨ i.op = 163
  · simp only [if_pos h14]; rfl
  simp only [if_neg h14]
  rfl
def fCase : List Nat := [0, 0, 1, 2, 3, 4, 4, 6, 6, 5, 7, 7, 8, 9, 10, 15, 12, 13, 14]
theorem fmt_case : ∀ n : Nat, n < 164 → fmtS n ≠ 0 → opC n = (if n = 145 then 11 else fCase.getD (fmtS n).toNat 0) ∧ suf8 n = (if fmtS n = 5 then [46, 98] else if fmtS n = 6 ∨ fmtS n = 8 ∨ (fmtS n = 11 ∧ n < 128) then [46, 119] else []) ∧ (fmtS n = 15 ∨ n ≠ 145) := by decide +kernel
def sgn8 (plus : Bool) (n : Int) : List UInt8 := (if n < 32768 ∧ plus = true then [43] else []) ++ Lib.itoa (sgnI n)
def strB (l : List UInt8) : ByteArray := ⟨l.toArray⟩
theorem strB_app (x y : List UInt8) : strB x ++ strB y = strB (x ++ y) := str_cat x y
theorem strB_size (l : List UInt8) : (strB l).size = l.length := by simp [strB, ByteArray.size]
theorem dec_itoa (n : Int) (h0 : 0 ≤ n) (h1 : n ≤ 9223372036854775807) (w : World) :
    Calls Tryd.prog 50 #[.int .i64 n] w fun e w' => e = .returned (.string (strB (Lib.itoa n))) ∧ Below w.heap.size w w' := by
  obtain ⟨u, rfl⟩ : ∃ u : Nat, n = u := ⟨n.toNat, by omega⟩
  have := decimal_any u (by omega) w
  rw [strOf_dec] at this
  rw [Lib.itoa_nonneg]
  exact this
theorem rsg_any (n : Int) (h0 : 0 ≤ n) (h1 : n < 65536) (plus : Bool) (w : World) :
    Calls Tryd.prog 52 #[.int .u16 n, .bool plus] w fun e w' => e = .returned (.string (strB (sgn8 plus n))) ∧ Below w.heap.size w w' := rsigned_any n h0 h1 plus w
theorem radr_any (u : Int) (h0 : 0 ≤ u) (h1 : u < 65536) (w : World) :
    Calls Tryd.prog 51 #[.int .u16 u] w fun e w' => e = .returned (.string (strB (addr8 u))) ∧ w = w' := raddress_any u h0 h1 w
theorem rnm_any (op : Int) (h0 : 0 ≤ op) (h1 : op ≤ 163) (w : World) :
    Calls Tryd.prog 53 #[.int .i64 op] w fun e w' => e = .returned (.string (strB (nameD op))) ∧ Below w.heap.size w w' := rnames_any op h0 h1 w
theorem sgn8_len (plus : Bool) (n : Int) (h0 : 0 ≤ n) (h1 : n < 65536) : (sgn8 plus n).length ≤ 25 := by
  have := num_len n h0 h1
  unfold sgn8
  rw [List.length_append]
  split <;> simp <;> omega

set_option maxRecDepth 100000 in
set_option maxHeartbeats 1000000 in
theorem rline_bad (i : Ins) (hi : i.Ok) (p : Place) (hv : validS i = false) (w : World) :
    Calls Tryd.prog 28 #[.agg #[.int .i64 (i).op, .int .i64 (i).d, .int .i64 (i).s, .int .u16 (i).imm, .int .u16 (i).aux, .int .i64 (i).bank, .int .i64 (i).size], .agg #[Value.int .i64 p.bank, .int .u16 p.addr]] w fun e w' => e = .returned (.string (strB (lineS i p))) ∧ Below w.heap.size w w' := by
  have e1 : lineS i p = [] := by unfold lineS; rw [hv]; rfl
  rw [e1]
  have hr : rvalidS i = false := by rw [← valid_eq i hi]; exact hv
  have HV := Lib.hid hr
  clear hr e1 hv
  have HF := Lib.hid (LHeld.first i p w)
  go_enter Tryd.func28, Tryd.ntmps28
  go_wp2_with (first
    | (refine wpList_load_row rfl _ (.tmp 2) rfl _ rfl _ _ _ _ HF.out.b0 Tryd.underlying24 rfl ?_ ?_; kernel_rfl)
    | (go_at_call 21; refine (rvalid_any i _).mono ?_; rintro e w1 ⟨rfl, hb1⟩; rw [HV.out]))
  go_ret
  exact ⟨rfl, HF.out.bb.trans (hb1.mono (by have := HF.out.z; omega))⟩

/-- What is known at the switch. -/
structure RL (i : Ins) (p : Place) (sd ss sn sb nm : ByteArray) : Prop where
  d : sd = strB (Lib.itoa i.d)
  s : ss = strB (Lib.itoa i.s)
  n : sn = strB (Lib.itoa i.imm)
  b : sb = strB (Lib.itoa i.bank)
  m : nm = strB (nameD i.op)

set_option maxRecDepth 100000 in
set_option maxHeartbeats 8000000 in
theorem rline_ok0 (i : Ins) (hi : i.Ok) (p : Place) (p0 : 0 ≤ p.addr) (p1 : p.addr < 65536) (hv : validS i = true) (f : Int) (hf : fmtS i.op = f) (hfs : f = 1 ∨ f = 2 ∨ f = 3 ∨ f = 4) (w : World) :
    Calls Tryd.prog 28 #[.agg #[.int .i64 (i).op, .int .i64 (i).d, .int .i64 (i).s, .int .u16 (i).imm, .int .u16 (i).aux, .int .i64 (i).bank, .int .i64 (i).size], .agg #[Value.int .i64 p.bank, .int .u16 p.addr]] w fun e w' => e = .returned (.string (strB (lineS i p))) ∧ Below w.heap.size w w' := by
  have hr : rvalidS i = true := by rw [← valid_eq i hi]; exact hv
  have hop := valid_op hv
  have hfl := hr
  simp only [rvalidS, Bool.and_eq_true, Bool.not_eq_true', beq_eq_false_iff_ne, ne_eq, beq_iff_eq] at hfl
  rw [hf] at hfl
  obtain ⟨⟨hf0, hsz⟩, hbody⟩ := hfl
  have hszb := valid_size_bd hi hv
  have hds : (0 ≤ i.d ∧ i.d < 8) ∧ (0 ≤ i.s ∧ i.s < 8) ∧ (0 ≤ i.bank ∧ i.bank < 256) := by
    unfold rvBody regB at hbody
    rcases hfs with rfl | rfl | rfl | rfl <;> simp at hbody <;> omega
  obtain ⟨⟨d0, d1⟩, ⟨s0, s1⟩, ⟨b0, b1⟩⟩ := hds
  have hcl := fmt_case i.op.toNat (by omega) (by rw [show (i.op.toNat : Int) = i.op by omega, hf]; exact hf0)
  rw [show (i.op.toNat : Int) = i.op by omega, hf] at hcl
  obtain ⟨hc, hsuf, h145⟩ := hcl
  have hline : lineS i p = if opB (opC i.op) i p = [] then nameD i.op ++ suf8 i.op else nameD i.op ++ suf8 i.op ++ [32] ++ Lib.join (opB (opC i.op) i p) [44, 32] := by
    unfold lineS; rw [if_pos hv, opS_eq]
  rw [hc, hsuf] at hline
  have HLn := Lib.hid hline
  have hi0 := hi.imm
  have hi1 := hi.aux
  have LN := Lib.hid (nameD_len i.op.toNat (by omega))
  rw [show (i.op.toNat : Int) = i.op by omega] at LN
  have zd := Lib.itoa_length_le i.d (by omega) (by omega)
  have zs := Lib.itoa_length_le i.s (by omega) (by omega)
  have zn := Lib.itoa_length_le i.imm (by omega) (by omega)
  have zb := Lib.itoa_length_le i.bank (by omega) (by omega)
  obtain ⟨sd, hsd⟩ : ∃ x, strB (Lib.itoa i.d) = x := ⟨_, rfl⟩
  obtain ⟨ss, hss⟩ : ∃ x, strB (Lib.itoa i.s) = x := ⟨_, rfl⟩
  obtain ⟨sn, hsn⟩ : ∃ x, strB (Lib.itoa i.imm) = x := ⟨_, rfl⟩
  obtain ⟨sb, hsb⟩ : ∃ x, strB (Lib.itoa i.bank) = x := ⟨_, rfl⟩
  obtain ⟨st, hst⟩ : ∃ x, strB (addr8 (tgt i p)) = x := ⟨_, rfl⟩
  obtain ⟨sm, hsm⟩ : ∃ x, strB (addr8 i.imm) = x := ⟨_, rfl⟩
  obtain ⟨sx, hsx⟩ : ∃ x, strB (addr8 i.aux) = x := ⟨_, rfl⟩
  obtain ⟨sp, hsp⟩ : ∃ x, strB (sgn8 true i.imm) = x := ⟨_, rfl⟩
  obtain ⟨si, hsi⟩ : ∃ x, strB (sgn8 false i.imm) = x := ⟨_, rfl⟩
  obtain ⟨sa, hsa⟩ : ∃ x, strB (sgn8 false i.aux) = x := ⟨_, rfl⟩
  obtain ⟨nm, hnm⟩ : ∃ x, strB (nameD i.op) = x := ⟨_, rfl⟩
  have z1 : sd.size ≤ 30 := by rw [← hsd, strB_size]; omega
  have z2 : ss.size ≤ 30 := by rw [← hss, strB_size]; omega
  have z3 : sn.size ≤ 30 := by rw [← hsn, strB_size]; omega
  have z4 : sb.size ≤ 30 := by rw [← hsb, strB_size]; omega
  have z5 : st.size ≤ 30 := by rw [← hst, strB_size, addr8_len]; omega
  have z6 : sm.size ≤ 30 := by rw [← hsm, strB_size, addr8_len]; omega
  have z7 : sx.size ≤ 30 := by rw [← hsx, strB_size, addr8_len]; omega
  have z8 : sp.size ≤ 30 := by rw [← hsp, strB_size]; have := sgn8_len true i.imm hi0.1 hi0.2; omega
  have z9 : si.size ≤ 30 := by rw [← hsi, strB_size]; have := sgn8_len false i.imm hi0.1 hi0.2; omega
  have z10 : sa.size ≤ 30 := by rw [← hsa, strB_size]; have := sgn8_len false i.aux hi1.1 hi1.2; omega
  have z11 : nm.size ≤ 30 := by rw [← hnm, strB_size]; have := LN.out; omega
  have HD := Lib.hid (fun W => by have := dec_itoa i.d d0 (by omega) W; rw [hsd] at this; exact this)
  have HS := Lib.hid (fun W => by have := dec_itoa i.s s0 (by omega) W; rw [hss] at this; exact this)
  have HN := Lib.hid (fun W => by have := dec_itoa i.imm hi0.1 (by omega) W; rw [hsn] at this; exact this)
  have HK := Lib.hid (fun W => by have := dec_itoa i.bank b0 (by omega) W; rw [hsb] at this; exact this)
  have HTg := Lib.hid (fun W => by have := radr_any (tgt i p) (tgt_lo i p) (tgt_hi i p) W; rw [hst] at this; exact this)
  have HIm := Lib.hid (fun W => by have := radr_any i.imm hi0.1 hi0.2 W; rw [hsm] at this; exact this)
  have HAx := Lib.hid (fun W => by have := radr_any i.aux hi1.1 hi1.2 W; rw [hsx] at this; exact this)
  have HSp := Lib.hid (fun W => by have := rsg_any i.imm hi0.1 hi0.2 true W; rw [hsp] at this; exact this)
  have HSi := Lib.hid (fun W => by have := rsg_any i.imm hi0.1 hi0.2 false W; rw [hsi] at this; exact this)
  have HSa := Lib.hid (fun W => by have := rsg_any i.aux hi1.1 hi1.2 false W; rw [hsa] at this; exact this)
  have HNm := Lib.hid (fun W => by have := rnm_any i.op hop.1 hop.2 W; rw [hnm] at this; exact this)
  have HFm := Lib.hid (fun W => by have := fmt_any i.op W; rw [hf] at this; exact this)
  have HVl := Lib.hid (fun W => by have := rvalid_any i W; rw [hr] at this; exact this)
  have E := Lib.hid (And.intro hsd (And.intro hss (And.intro hsn (And.intro hsb (And.intro hst (And.intro hsm (And.intro hsx (And.intro hsp (And.intro hsi (And.intro hsa hnm))))))))))
  have htg := tgt_eq i p
  have htg' := Lib.hid htg
  have h145' := Lib.hid h145
  have hF := Lib.hid (LHeld.first i p w)
  have hszz : ∀ x y : ByteArray, (x ++ y).size = x.size + y.size := fun _ _ => ByteArray.size_append
  clear hsd hss hsn hsb hst hsm hsx hsp hsi hsa hnm hr hf hc hsuf hline hbody hsz hf0 hv zd zs zn zb LN htg h145
  go_enter Tryd.func28, Tryd.ntmps28
  go_upto_region 4 with (first
    | (refine wpList_load_row rfl _ (.tmp 2) rfl _ rfl _ _ _ _ hF.out.b0 Tryd.underlying24 rfl ?_ ?_; kernel_rfl)
    | (go_at_call 21; refine (HVl.out _).mono ?_; rintro e w1 ⟨rfl, hb1⟩; replace hF := Lib.hid (hF.out.stay hb1); clear hb1))
  have hci : ∀ o : Nat, w1.cell? ⟨w.heap.size, o, none⟩ = (#[Value.int .i64 i.op, .int .i64 i.d, .int .i64 i.s, .int .u16 i.imm, .int .u16 i.aux, .int .i64 i.bank, .int .i64 i.size] : Array Value)[o]? := fun o => cell_of_row _ _ o _ _ _ hF.out.b0
  have hcp : ∀ o : Nat, w1.cell? ⟨w.heap.size + 1, o, none⟩ = (#[Value.int .i64 p.bank, .int .u16 p.addr] : Array Value)[o]? := fun o => cell_of_row _ _ o _ _ _ hF.out.b1
  go_upto_region 5 with (go_at_call 32; refine (HFm.out _).mono ?_; rintro e ww ⟨rfl, hb1⟩; replace hF := Lib.hid (hF.out.stay hb1); clear hb1; have hci : ∀ o : Nat, ww.cell? ⟨w.heap.size, o, none⟩ = (#[Value.int .i64 i.op, .int .i64 i.d, .int .i64 i.s, .int .u16 i.imm, .int .u16 i.aux, .int .i64 i.bank, .int .i64 i.size] : Array Value)[o]? := fun o => cell_of_row _ _ o _ _ _ hF.out.b0; have hcp : ∀ o : Nat, ww.cell? ⟨w.heap.size + 1, o, none⟩ = (#[Value.int .i64 p.bank, .int .u16 p.addr] : Array Value)[o]? := fun o => cell_of_row _ _ o _ _ _ hF.out.b1)
  obtain ⟨wv, rfl⟩ : ∃ wv : World, wv = ww := ⟨_, rfl⟩
  go_upto_region 6 with (go_at_call 50; refine (HD.out _).mono ?_; rintro e ww ⟨rfl, hb1⟩; replace hF := Lib.hid (hF.out.stay hb1); clear hb1; have hci : ∀ o : Nat, ww.cell? ⟨w.heap.size, o, none⟩ = (#[Value.int .i64 i.op, .int .i64 i.d, .int .i64 i.s, .int .u16 i.imm, .int .u16 i.aux, .int .i64 i.bank, .int .i64 i.size] : Array Value)[o]? := fun o => cell_of_row _ _ o _ _ _ hF.out.b0; have hcp : ∀ o : Nat, ww.cell? ⟨w.heap.size + 1, o, none⟩ = (#[Value.int .i64 p.bank, .int .u16 p.addr] : Array Value)[o]? := fun o => cell_of_row _ _ o _ _ _ hF.out.b1)
  obtain ⟨wv, rfl⟩ : ∃ wv : World, wv = ww := ⟨_, rfl⟩
  go_upto_region 7 with (go_at_call 50; refine (HS.out _).mono ?_; rintro e ww ⟨rfl, hb1⟩; replace hF := Lib.hid (hF.out.stay hb1); clear hb1; have hci : ∀ o : Nat, ww.cell? ⟨w.heap.size, o, none⟩ = (#[Value.int .i64 i.op, .int .i64 i.d, .int .i64 i.s, .int .u16 i.imm, .int .u16 i.aux, .int .i64 i.bank, .int .i64 i.size] : Array Value)[o]? := fun o => cell_of_row _ _ o _ _ _ hF.out.b0; have hcp : ∀ o : Nat, ww.cell? ⟨w.heap.size + 1, o, none⟩ = (#[Value.int .i64 p.bank, .int .u16 p.addr] : Array Value)[o]? := fun o => cell_of_row _ _ o _ _ _ hF.out.b1)
  obtain ⟨wv, rfl⟩ : ∃ wv : World, wv = ww := ⟨_, rfl⟩
  go_upto_region 8 with (go_at_call 50; refine (HN.out _).mono ?_; rintro e ww ⟨rfl, hb1⟩; replace hF := Lib.hid (hF.out.stay hb1); clear hb1; have hci : ∀ o : Nat, ww.cell? ⟨w.heap.size, o, none⟩ = (#[Value.int .i64 i.op, .int .i64 i.d, .int .i64 i.s, .int .u16 i.imm, .int .u16 i.aux, .int .i64 i.bank, .int .i64 i.size] : Array Value)[o]? := fun o => cell_of_row _ _ o _ _ _ hF.out.b0; have hcp : ∀ o : Nat, ww.cell? ⟨w.heap.size + 1, o, none⟩ = (#[Value.int .i64 p.bank, .int .u16 p.addr] : Array Value)[o]? := fun o => cell_of_row _ _ o _ _ _ hF.out.b1)
  obtain ⟨wv, rfl⟩ : ∃ wv : World, wv = ww := ⟨_, rfl⟩
  go_upto_region 9 with (go_at_call 50; refine (HK.out _).mono ?_; rintro e ww ⟨rfl, hb1⟩; replace hF := Lib.hid (hF.out.stay hb1); clear hb1; have hci : ∀ o : Nat, ww.cell? ⟨w.heap.size, o, none⟩ = (#[Value.int .i64 i.op, .int .i64 i.d, .int .i64 i.s, .int .u16 i.imm, .int .u16 i.aux, .int .i64 i.bank, .int .i64 i.size] : Array Value)[o]? := fun o => cell_of_row _ _ o _ _ _ hF.out.b0; have hcp : ∀ o : Nat, ww.cell? ⟨w.heap.size + 1, o, none⟩ = (#[Value.int .i64 p.bank, .int .u16 p.addr] : Array Value)[o]? := fun o => cell_of_row _ _ o _ _ _ hF.out.b1)
  obtain ⟨wv, rfl⟩ : ∃ wv : World, wv = ww := ⟨_, rfl⟩
  have htg := htg'.out
  have hsw : IntKind.u16.wrap i.size = i.size := IntWalk.u16_in _ (by omega)
  go_upto_region 10 with (go_at_call 51; refine (HTg.out _).mono ?_; rintro e wz ⟨rfl, rfl⟩)
  clear htg
  go_upto_region 11 with (go_at_call 52; refine (HSp.out _).mono ?_; rintro e ww ⟨rfl, hb1⟩; replace hF := Lib.hid (hF.out.stay hb1); clear hb1; have hci : ∀ o : Nat, ww.cell? ⟨w.heap.size, o, none⟩ = (#[Value.int .i64 i.op, .int .i64 i.d, .int .i64 i.s, .int .u16 i.imm, .int .u16 i.aux, .int .i64 i.bank, .int .i64 i.size] : Array Value)[o]? := fun o => cell_of_row _ _ o _ _ _ hF.out.b0; have hcp : ∀ o : Nat, ww.cell? ⟨w.heap.size + 1, o, none⟩ = (#[Value.int .i64 p.bank, .int .u16 p.addr] : Array Value)[o]? := fun o => cell_of_row _ _ o _ _ _ hF.out.b1)
  obtain ⟨wv, rfl⟩ : ∃ wv : World, wv = ww := ⟨_, rfl⟩
  go_upto_region 12 with (go_at_call 53; refine (HNm.out _).mono ?_; rintro e ww ⟨rfl, hb1⟩; replace hF := Lib.hid (hF.out.stay hb1); clear hb1; have hci : ∀ o : Nat, ww.cell? ⟨w.heap.size, o, none⟩ = (#[Value.int .i64 i.op, .int .i64 i.d, .int .i64 i.s, .int .u16 i.imm, .int .u16 i.aux, .int .i64 i.bank, .int .i64 i.size] : Array Value)[o]? := fun o => cell_of_row _ _ o _ _ _ hF.out.b0; have hcp : ∀ o : Nat, ww.cell? ⟨w.heap.size + 1, o, none⟩ = (#[Value.int .i64 p.bank, .int .u16 p.addr] : Array Value)[o]? := fun o => cell_of_row _ _ o _ _ _ hF.out.b1)
  obtain ⟨wv, rfl⟩ : ∃ wv : World, wv = ww := ⟨_, rfl⟩
  rcases hfs with rfl | rfl | rfl | rfl
  · have hn : ¬ i.op.toNat = 145 := h145'.out.resolve_left (by decide)
    · go_wp2_with (first | (go_at_call 51; (with_reducible refine (HIm.out _).mono ?_); rintro e wz ⟨rfl, rfl⟩) | (go_at_call 51; (with_reducible refine (HAx.out _).mono ?_); rintro e wz ⟨rfl, rfl⟩) | (go_at_call 52; (with_reducible refine (HSi.out _).mono ?_); rintro e ww ⟨rfl, hb1⟩; replace hF := Lib.hid (hF.out.stay hb1); clear hb1; have hci : ∀ o : Nat, ww.cell? ⟨w.heap.size, o, none⟩ = (#[Value.int .i64 i.op, .int .i64 i.d, .int .i64 i.s, .int .u16 i.imm, .int .u16 i.aux, .int .i64 i.bank, .int .i64 i.size] : Array Value)[o]? := fun o => cell_of_row _ _ o _ _ _ hF.out.b0; have hcp : ∀ o : Nat, ww.cell? ⟨w.heap.size + 1, o, none⟩ = (#[Value.int .i64 p.bank, .int .u16 p.addr] : Array Value)[o]? := fun o => cell_of_row _ _ o _ _ _ hF.out.b1) | (go_at_call 52; (with_reducible refine (HSa.out _).mono ?_); rintro e ww ⟨rfl, hb1⟩; replace hF := Lib.hid (hF.out.stay hb1); clear hb1; have hci : ∀ o : Nat, ww.cell? ⟨w.heap.size, o, none⟩ = (#[Value.int .i64 i.op, .int .i64 i.d, .int .i64 i.s, .int .u16 i.imm, .int .u16 i.aux, .int .i64 i.bank, .int .i64 i.size] : Array Value)[o]? := fun o => cell_of_row _ _ o _ _ _ hF.out.b0; have hcp : ∀ o : Nat, ww.cell? ⟨w.heap.size + 1, o, none⟩ = (#[Value.int .i64 p.bank, .int .u16 p.addr] : Array Value)[o]? := fun o => cell_of_row _ _ o _ _ _ hF.out.b1) | fail)
      go_ret
      refine ⟨congrArg (fun x : ByteArray => Ending.returned (Value.string x)) ?_, hF.out.bb⟩
      rw [HLn.out]
      obtain ⟨rfl, rfl, rfl, rfl, rfl, rfl, rfl, rfl, rfl, rfl, rfl⟩ := E.out
      rw [if_neg hn]; (try simp only [show ∀ l : List UInt8, (⟨l.toArray⟩ : ByteArray) = strB l from fun _ => rfl, strB_app]); (first | rfl | (simp [opB, fCase, Lib.join, reg8, mem8, sgn8, List.append_assoc]; done))
  · have hn : ¬ i.op.toNat = 145 := h145'.out.resolve_left (by decide)
    · go_wp2_with (first | (go_at_call 51; (with_reducible refine (HIm.out _).mono ?_); rintro e wz ⟨rfl, rfl⟩) | (go_at_call 51; (with_reducible refine (HAx.out _).mono ?_); rintro e wz ⟨rfl, rfl⟩) | (go_at_call 52; (with_reducible refine (HSi.out _).mono ?_); rintro e ww ⟨rfl, hb1⟩; replace hF := Lib.hid (hF.out.stay hb1); clear hb1; have hci : ∀ o : Nat, ww.cell? ⟨w.heap.size, o, none⟩ = (#[Value.int .i64 i.op, .int .i64 i.d, .int .i64 i.s, .int .u16 i.imm, .int .u16 i.aux, .int .i64 i.bank, .int .i64 i.size] : Array Value)[o]? := fun o => cell_of_row _ _ o _ _ _ hF.out.b0; have hcp : ∀ o : Nat, ww.cell? ⟨w.heap.size + 1, o, none⟩ = (#[Value.int .i64 p.bank, .int .u16 p.addr] : Array Value)[o]? := fun o => cell_of_row _ _ o _ _ _ hF.out.b1) | (go_at_call 52; (with_reducible refine (HSa.out _).mono ?_); rintro e ww ⟨rfl, hb1⟩; replace hF := Lib.hid (hF.out.stay hb1); clear hb1; have hci : ∀ o : Nat, ww.cell? ⟨w.heap.size, o, none⟩ = (#[Value.int .i64 i.op, .int .i64 i.d, .int .i64 i.s, .int .u16 i.imm, .int .u16 i.aux, .int .i64 i.bank, .int .i64 i.size] : Array Value)[o]? := fun o => cell_of_row _ _ o _ _ _ hF.out.b0; have hcp : ∀ o : Nat, ww.cell? ⟨w.heap.size + 1, o, none⟩ = (#[Value.int .i64 p.bank, .int .u16 p.addr] : Array Value)[o]? := fun o => cell_of_row _ _ o _ _ _ hF.out.b1) | fail)
      go_ret
      refine ⟨congrArg (fun x : ByteArray => Ending.returned (Value.string x)) ?_, hF.out.bb⟩
      rw [HLn.out]
      obtain ⟨rfl, rfl, rfl, rfl, rfl, rfl, rfl, rfl, rfl, rfl, rfl⟩ := E.out
      rw [if_neg hn]; (try simp only [show ∀ l : List UInt8, (⟨l.toArray⟩ : ByteArray) = strB l from fun _ => rfl, strB_app]); (first | rfl | (simp [opB, fCase, Lib.join, reg8, mem8, sgn8, List.append_assoc]; done))
  · have hn : ¬ i.op.toNat = 145 := h145'.out.resolve_left (by decide)
    · go_wp2_with (first | (go_at_call 51; (with_reducible refine (HIm.out _).mono ?_); rintro e wz ⟨rfl, rfl⟩) | (go_at_call 51; (with_reducible refine (HAx.out _).mono ?_); rintro e wz ⟨rfl, rfl⟩) | (go_at_call 52; (with_reducible refine (HSi.out _).mono ?_); rintro e ww ⟨rfl, hb1⟩; replace hF := Lib.hid (hF.out.stay hb1); clear hb1; have hci : ∀ o : Nat, ww.cell? ⟨w.heap.size, o, none⟩ = (#[Value.int .i64 i.op, .int .i64 i.d, .int .i64 i.s, .int .u16 i.imm, .int .u16 i.aux, .int .i64 i.bank, .int .i64 i.size] : Array Value)[o]? := fun o => cell_of_row _ _ o _ _ _ hF.out.b0; have hcp : ∀ o : Nat, ww.cell? ⟨w.heap.size + 1, o, none⟩ = (#[Value.int .i64 p.bank, .int .u16 p.addr] : Array Value)[o]? := fun o => cell_of_row _ _ o _ _ _ hF.out.b1) | (go_at_call 52; (with_reducible refine (HSa.out _).mono ?_); rintro e ww ⟨rfl, hb1⟩; replace hF := Lib.hid (hF.out.stay hb1); clear hb1; have hci : ∀ o : Nat, ww.cell? ⟨w.heap.size, o, none⟩ = (#[Value.int .i64 i.op, .int .i64 i.d, .int .i64 i.s, .int .u16 i.imm, .int .u16 i.aux, .int .i64 i.bank, .int .i64 i.size] : Array Value)[o]? := fun o => cell_of_row _ _ o _ _ _ hF.out.b0; have hcp : ∀ o : Nat, ww.cell? ⟨w.heap.size + 1, o, none⟩ = (#[Value.int .i64 p.bank, .int .u16 p.addr] : Array Value)[o]? := fun o => cell_of_row _ _ o _ _ _ hF.out.b1) | fail)
      go_ret
      refine ⟨congrArg (fun x : ByteArray => Ending.returned (Value.string x)) ?_, hF.out.bb⟩
      rw [HLn.out]
      obtain ⟨rfl, rfl, rfl, rfl, rfl, rfl, rfl, rfl, rfl, rfl, rfl⟩ := E.out
      rw [if_neg hn]; (try simp only [show ∀ l : List UInt8, (⟨l.toArray⟩ : ByteArray) = strB l from fun _ => rfl, strB_app]); (first | rfl | (simp [opB, fCase, Lib.join, reg8, mem8, sgn8, List.append_assoc]; done))
  · have hn : ¬ i.op.toNat = 145 := h145'.out.resolve_left (by decide)
    · go_wp2_with (first | (go_at_call 51; (with_reducible refine (HIm.out _).mono ?_); rintro e wz ⟨rfl, rfl⟩) | (go_at_call 51; (with_reducible refine (HAx.out _).mono ?_); rintro e wz ⟨rfl, rfl⟩) | (go_at_call 52; (with_reducible refine (HSi.out _).mono ?_); rintro e ww ⟨rfl, hb1⟩; replace hF := Lib.hid (hF.out.stay hb1); clear hb1; have hci : ∀ o : Nat, ww.cell? ⟨w.heap.size, o, none⟩ = (#[Value.int .i64 i.op, .int .i64 i.d, .int .i64 i.s, .int .u16 i.imm, .int .u16 i.aux, .int .i64 i.bank, .int .i64 i.size] : Array Value)[o]? := fun o => cell_of_row _ _ o _ _ _ hF.out.b0; have hcp : ∀ o : Nat, ww.cell? ⟨w.heap.size + 1, o, none⟩ = (#[Value.int .i64 p.bank, .int .u16 p.addr] : Array Value)[o]? := fun o => cell_of_row _ _ o _ _ _ hF.out.b1) | (go_at_call 52; (with_reducible refine (HSa.out _).mono ?_); rintro e ww ⟨rfl, hb1⟩; replace hF := Lib.hid (hF.out.stay hb1); clear hb1; have hci : ∀ o : Nat, ww.cell? ⟨w.heap.size, o, none⟩ = (#[Value.int .i64 i.op, .int .i64 i.d, .int .i64 i.s, .int .u16 i.imm, .int .u16 i.aux, .int .i64 i.bank, .int .i64 i.size] : Array Value)[o]? := fun o => cell_of_row _ _ o _ _ _ hF.out.b0; have hcp : ∀ o : Nat, ww.cell? ⟨w.heap.size + 1, o, none⟩ = (#[Value.int .i64 p.bank, .int .u16 p.addr] : Array Value)[o]? := fun o => cell_of_row _ _ o _ _ _ hF.out.b1) | fail)
      go_ret
      refine ⟨congrArg (fun x : ByteArray => Ending.returned (Value.string x)) ?_, hF.out.bb⟩
      rw [HLn.out]
      obtain ⟨rfl, rfl, rfl, rfl, rfl, rfl, rfl, rfl, rfl, rfl, rfl⟩ := E.out
      rw [if_neg hn]; (try simp only [show ∀ l : List UInt8, (⟨l.toArray⟩ : ByteArray) = strB l from fun _ => rfl, strB_app]); (first | rfl | (simp [opB, fCase, Lib.join, reg8, mem8, sgn8, List.append_assoc]; done))

set_option maxRecDepth 100000 in
set_option maxHeartbeats 8000000 in
theorem rline_ok1 (i : Ins) (hi : i.Ok) (p : Place) (p0 : 0 ≤ p.addr) (p1 : p.addr < 65536) (hv : validS i = true) (f : Int) (hf : fmtS i.op = f) (hfs : f = 5 ∨ f = 6 ∨ f = 7 ∨ f = 8 ∨ f = 9) (w : World) :
    Calls Tryd.prog 28 #[.agg #[.int .i64 (i).op, .int .i64 (i).d, .int .i64 (i).s, .int .u16 (i).imm, .int .u16 (i).aux, .int .i64 (i).bank, .int .i64 (i).size], .agg #[Value.int .i64 p.bank, .int .u16 p.addr]] w fun e w' => e = .returned (.string (strB (lineS i p))) ∧ Below w.heap.size w w' := by
  have hr : rvalidS i = true := by rw [← valid_eq i hi]; exact hv
  have hop := valid_op hv
  have hfl := hr
  simp only [rvalidS, Bool.and_eq_true, Bool.not_eq_true', beq_eq_false_iff_ne, ne_eq, beq_iff_eq] at hfl
  rw [hf] at hfl
  obtain ⟨⟨hf0, hsz⟩, hbody⟩ := hfl
  have hszb := valid_size_bd hi hv
  have hds : (0 ≤ i.d ∧ i.d < 8) ∧ (0 ≤ i.s ∧ i.s < 8) ∧ (0 ≤ i.bank ∧ i.bank < 256) := by
    unfold rvBody regB at hbody
    rcases hfs with rfl | rfl | rfl | rfl | rfl <;> simp at hbody <;> omega
  obtain ⟨⟨d0, d1⟩, ⟨s0, s1⟩, ⟨b0, b1⟩⟩ := hds
  have hcl := fmt_case i.op.toNat (by omega) (by rw [show (i.op.toNat : Int) = i.op by omega, hf]; exact hf0)
  rw [show (i.op.toNat : Int) = i.op by omega, hf] at hcl
  obtain ⟨hc, hsuf, h145⟩ := hcl
  have hline : lineS i p = if opB (opC i.op) i p = [] then nameD i.op ++ suf8 i.op else nameD i.op ++ suf8 i.op ++ [32] ++ Lib.join (opB (opC i.op) i p) [44, 32] := by
    unfold lineS; rw [if_pos hv, opS_eq]
  rw [hc, hsuf] at hline
  have HLn := Lib.hid hline
  have hi0 := hi.imm
  have hi1 := hi.aux
  have LN := Lib.hid (nameD_len i.op.toNat (by omega))
  rw [show (i.op.toNat : Int) = i.op by omega] at LN
  have zd := Lib.itoa_length_le i.d (by omega) (by omega)
  have zs := Lib.itoa_length_le i.s (by omega) (by omega)
  have zn := Lib.itoa_length_le i.imm (by omega) (by omega)
  have zb := Lib.itoa_length_le i.bank (by omega) (by omega)
  obtain ⟨sd, hsd⟩ : ∃ x, strB (Lib.itoa i.d) = x := ⟨_, rfl⟩
  obtain ⟨ss, hss⟩ : ∃ x, strB (Lib.itoa i.s) = x := ⟨_, rfl⟩
  obtain ⟨sn, hsn⟩ : ∃ x, strB (Lib.itoa i.imm) = x := ⟨_, rfl⟩
  obtain ⟨sb, hsb⟩ : ∃ x, strB (Lib.itoa i.bank) = x := ⟨_, rfl⟩
  obtain ⟨st, hst⟩ : ∃ x, strB (addr8 (tgt i p)) = x := ⟨_, rfl⟩
  obtain ⟨sm, hsm⟩ : ∃ x, strB (addr8 i.imm) = x := ⟨_, rfl⟩
  obtain ⟨sx, hsx⟩ : ∃ x, strB (addr8 i.aux) = x := ⟨_, rfl⟩
  obtain ⟨sp, hsp⟩ : ∃ x, strB (sgn8 true i.imm) = x := ⟨_, rfl⟩
  obtain ⟨si, hsi⟩ : ∃ x, strB (sgn8 false i.imm) = x := ⟨_, rfl⟩
  obtain ⟨sa, hsa⟩ : ∃ x, strB (sgn8 false i.aux) = x := ⟨_, rfl⟩
  obtain ⟨nm, hnm⟩ : ∃ x, strB (nameD i.op) = x := ⟨_, rfl⟩
  have z1 : sd.size ≤ 30 := by rw [← hsd, strB_size]; omega
  have z2 : ss.size ≤ 30 := by rw [← hss, strB_size]; omega
  have z3 : sn.size ≤ 30 := by rw [← hsn, strB_size]; omega
  have z4 : sb.size ≤ 30 := by rw [← hsb, strB_size]; omega
  have z5 : st.size ≤ 30 := by rw [← hst, strB_size, addr8_len]; omega
  have z6 : sm.size ≤ 30 := by rw [← hsm, strB_size, addr8_len]; omega
  have z7 : sx.size ≤ 30 := by rw [← hsx, strB_size, addr8_len]; omega
  have z8 : sp.size ≤ 30 := by rw [← hsp, strB_size]; have := sgn8_len true i.imm hi0.1 hi0.2; omega
  have z9 : si.size ≤ 30 := by rw [← hsi, strB_size]; have := sgn8_len false i.imm hi0.1 hi0.2; omega
  have z10 : sa.size ≤ 30 := by rw [← hsa, strB_size]; have := sgn8_len false i.aux hi1.1 hi1.2; omega
  have z11 : nm.size ≤ 30 := by rw [← hnm, strB_size]; have := LN.out; omega
  have HD := Lib.hid (fun W => by have := dec_itoa i.d d0 (by omega) W; rw [hsd] at this; exact this)
  have HS := Lib.hid (fun W => by have := dec_itoa i.s s0 (by omega) W; rw [hss] at this; exact this)
  have HN := Lib.hid (fun W => by have := dec_itoa i.imm hi0.1 (by omega) W; rw [hsn] at this; exact this)
  have HK := Lib.hid (fun W => by have := dec_itoa i.bank b0 (by omega) W; rw [hsb] at this; exact this)
  have HTg := Lib.hid (fun W => by have := radr_any (tgt i p) (tgt_lo i p) (tgt_hi i p) W; rw [hst] at this; exact this)
  have HIm := Lib.hid (fun W => by have := radr_any i.imm hi0.1 hi0.2 W; rw [hsm] at this; exact this)
  have HAx := Lib.hid (fun W => by have := radr_any i.aux hi1.1 hi1.2 W; rw [hsx] at this; exact this)
  have HSp := Lib.hid (fun W => by have := rsg_any i.imm hi0.1 hi0.2 true W; rw [hsp] at this; exact this)
  have HSi := Lib.hid (fun W => by have := rsg_any i.imm hi0.1 hi0.2 false W; rw [hsi] at this; exact this)
  have HSa := Lib.hid (fun W => by have := rsg_any i.aux hi1.1 hi1.2 false W; rw [hsa] at this; exact this)
  have HNm := Lib.hid (fun W => by have := rnm_any i.op hop.1 hop.2 W; rw [hnm] at this; exact this)
  have HFm := Lib.hid (fun W => by have := fmt_any i.op W; rw [hf] at this; exact this)
  have HVl := Lib.hid (fun W => by have := rvalid_any i W; rw [hr] at this; exact this)
  have E := Lib.hid (And.intro hsd (And.intro hss (And.intro hsn (And.intro hsb (And.intro hst (And.intro hsm (And.intro hsx (And.intro hsp (And.intro hsi (And.intro hsa hnm))))))))))
  have htg := tgt_eq i p
  have htg' := Lib.hid htg
  have h145' := Lib.hid h145
  have hF := Lib.hid (LHeld.first i p w)
  have hszz : ∀ x y : ByteArray, (x ++ y).size = x.size + y.size := fun _ _ => ByteArray.size_append
  clear hsd hss hsn hsb hst hsm hsx hsp hsi hsa hnm hr hf hc hsuf hline hbody hsz hf0 hv zd zs zn zb LN htg h145
  go_enter Tryd.func28, Tryd.ntmps28
  go_upto_region 4 with (first
    | (refine wpList_load_row rfl _ (.tmp 2) rfl _ rfl _ _ _ _ hF.out.b0 Tryd.underlying24 rfl ?_ ?_; kernel_rfl)
    | (go_at_call 21; refine (HVl.out _).mono ?_; rintro e w1 ⟨rfl, hb1⟩; replace hF := Lib.hid (hF.out.stay hb1); clear hb1))
  have hci : ∀ o : Nat, w1.cell? ⟨w.heap.size, o, none⟩ = (#[Value.int .i64 i.op, .int .i64 i.d, .int .i64 i.s, .int .u16 i.imm, .int .u16 i.aux, .int .i64 i.bank, .int .i64 i.size] : Array Value)[o]? := fun o => cell_of_row _ _ o _ _ _ hF.out.b0
  have hcp : ∀ o : Nat, w1.cell? ⟨w.heap.size + 1, o, none⟩ = (#[Value.int .i64 p.bank, .int .u16 p.addr] : Array Value)[o]? := fun o => cell_of_row _ _ o _ _ _ hF.out.b1
  go_upto_region 5 with (go_at_call 32; refine (HFm.out _).mono ?_; rintro e ww ⟨rfl, hb1⟩; replace hF := Lib.hid (hF.out.stay hb1); clear hb1; have hci : ∀ o : Nat, ww.cell? ⟨w.heap.size, o, none⟩ = (#[Value.int .i64 i.op, .int .i64 i.d, .int .i64 i.s, .int .u16 i.imm, .int .u16 i.aux, .int .i64 i.bank, .int .i64 i.size] : Array Value)[o]? := fun o => cell_of_row _ _ o _ _ _ hF.out.b0; have hcp : ∀ o : Nat, ww.cell? ⟨w.heap.size + 1, o, none⟩ = (#[Value.int .i64 p.bank, .int .u16 p.addr] : Array Value)[o]? := fun o => cell_of_row _ _ o _ _ _ hF.out.b1)
  obtain ⟨wv, rfl⟩ : ∃ wv : World, wv = ww := ⟨_, rfl⟩
  go_upto_region 6 with (go_at_call 50; refine (HD.out _).mono ?_; rintro e ww ⟨rfl, hb1⟩; replace hF := Lib.hid (hF.out.stay hb1); clear hb1; have hci : ∀ o : Nat, ww.cell? ⟨w.heap.size, o, none⟩ = (#[Value.int .i64 i.op, .int .i64 i.d, .int .i64 i.s, .int .u16 i.imm, .int .u16 i.aux, .int .i64 i.bank, .int .i64 i.size] : Array Value)[o]? := fun o => cell_of_row _ _ o _ _ _ hF.out.b0; have hcp : ∀ o : Nat, ww.cell? ⟨w.heap.size + 1, o, none⟩ = (#[Value.int .i64 p.bank, .int .u16 p.addr] : Array Value)[o]? := fun o => cell_of_row _ _ o _ _ _ hF.out.b1)
  obtain ⟨wv, rfl⟩ : ∃ wv : World, wv = ww := ⟨_, rfl⟩
  go_upto_region 7 with (go_at_call 50; refine (HS.out _).mono ?_; rintro e ww ⟨rfl, hb1⟩; replace hF := Lib.hid (hF.out.stay hb1); clear hb1; have hci : ∀ o : Nat, ww.cell? ⟨w.heap.size, o, none⟩ = (#[Value.int .i64 i.op, .int .i64 i.d, .int .i64 i.s, .int .u16 i.imm, .int .u16 i.aux, .int .i64 i.bank, .int .i64 i.size] : Array Value)[o]? := fun o => cell_of_row _ _ o _ _ _ hF.out.b0; have hcp : ∀ o : Nat, ww.cell? ⟨w.heap.size + 1, o, none⟩ = (#[Value.int .i64 p.bank, .int .u16 p.addr] : Array Value)[o]? := fun o => cell_of_row _ _ o _ _ _ hF.out.b1)
  obtain ⟨wv, rfl⟩ : ∃ wv : World, wv = ww := ⟨_, rfl⟩
  go_upto_region 8 with (go_at_call 50; refine (HN.out _).mono ?_; rintro e ww ⟨rfl, hb1⟩; replace hF := Lib.hid (hF.out.stay hb1); clear hb1; have hci : ∀ o : Nat, ww.cell? ⟨w.heap.size, o, none⟩ = (#[Value.int .i64 i.op, .int .i64 i.d, .int .i64 i.s, .int .u16 i.imm, .int .u16 i.aux, .int .i64 i.bank, .int .i64 i.size] : Array Value)[o]? := fun o => cell_of_row _ _ o _ _ _ hF.out.b0; have hcp : ∀ o : Nat, ww.cell? ⟨w.heap.size + 1, o, none⟩ = (#[Value.int .i64 p.bank, .int .u16 p.addr] : Array Value)[o]? := fun o => cell_of_row _ _ o _ _ _ hF.out.b1)
  obtain ⟨wv, rfl⟩ : ∃ wv : World, wv = ww := ⟨_, rfl⟩
  go_upto_region 9 with (go_at_call 50; refine (HK.out _).mono ?_; rintro e ww ⟨rfl, hb1⟩; replace hF := Lib.hid (hF.out.stay hb1); clear hb1; have hci : ∀ o : Nat, ww.cell? ⟨w.heap.size, o, none⟩ = (#[Value.int .i64 i.op, .int .i64 i.d, .int .i64 i.s, .int .u16 i.imm, .int .u16 i.aux, .int .i64 i.bank, .int .i64 i.size] : Array Value)[o]? := fun o => cell_of_row _ _ o _ _ _ hF.out.b0; have hcp : ∀ o : Nat, ww.cell? ⟨w.heap.size + 1, o, none⟩ = (#[Value.int .i64 p.bank, .int .u16 p.addr] : Array Value)[o]? := fun o => cell_of_row _ _ o _ _ _ hF.out.b1)
  obtain ⟨wv, rfl⟩ : ∃ wv : World, wv = ww := ⟨_, rfl⟩
  have htg := htg'.out
  have hsw : IntKind.u16.wrap i.size = i.size := IntWalk.u16_in _ (by omega)
  go_upto_region 10 with (go_at_call 51; refine (HTg.out _).mono ?_; rintro e wz ⟨rfl, rfl⟩)
  clear htg
  go_upto_region 11 with (go_at_call 52; refine (HSp.out _).mono ?_; rintro e ww ⟨rfl, hb1⟩; replace hF := Lib.hid (hF.out.stay hb1); clear hb1; have hci : ∀ o : Nat, ww.cell? ⟨w.heap.size, o, none⟩ = (#[Value.int .i64 i.op, .int .i64 i.d, .int .i64 i.s, .int .u16 i.imm, .int .u16 i.aux, .int .i64 i.bank, .int .i64 i.size] : Array Value)[o]? := fun o => cell_of_row _ _ o _ _ _ hF.out.b0; have hcp : ∀ o : Nat, ww.cell? ⟨w.heap.size + 1, o, none⟩ = (#[Value.int .i64 p.bank, .int .u16 p.addr] : Array Value)[o]? := fun o => cell_of_row _ _ o _ _ _ hF.out.b1)
  obtain ⟨wv, rfl⟩ : ∃ wv : World, wv = ww := ⟨_, rfl⟩
  go_upto_region 12 with (go_at_call 53; refine (HNm.out _).mono ?_; rintro e ww ⟨rfl, hb1⟩; replace hF := Lib.hid (hF.out.stay hb1); clear hb1; have hci : ∀ o : Nat, ww.cell? ⟨w.heap.size, o, none⟩ = (#[Value.int .i64 i.op, .int .i64 i.d, .int .i64 i.s, .int .u16 i.imm, .int .u16 i.aux, .int .i64 i.bank, .int .i64 i.size] : Array Value)[o]? := fun o => cell_of_row _ _ o _ _ _ hF.out.b0; have hcp : ∀ o : Nat, ww.cell? ⟨w.heap.size + 1, o, none⟩ = (#[Value.int .i64 p.bank, .int .u16 p.addr] : Array Value)[o]? := fun o => cell_of_row _ _ o _ _ _ hF.out.b1)
  obtain ⟨wv, rfl⟩ : ∃ wv : World, wv = ww := ⟨_, rfl⟩
  rcases hfs with rfl | rfl | rfl | rfl | rfl
  · have hn : ¬ i.op.toNat = 145 := h145'.out.resolve_left (by decide)
    · go_wp2_with (first | (go_at_call 51; (with_reducible refine (HIm.out _).mono ?_); rintro e wz ⟨rfl, rfl⟩) | (go_at_call 51; (with_reducible refine (HAx.out _).mono ?_); rintro e wz ⟨rfl, rfl⟩) | (go_at_call 52; (with_reducible refine (HSi.out _).mono ?_); rintro e ww ⟨rfl, hb1⟩; replace hF := Lib.hid (hF.out.stay hb1); clear hb1; have hci : ∀ o : Nat, ww.cell? ⟨w.heap.size, o, none⟩ = (#[Value.int .i64 i.op, .int .i64 i.d, .int .i64 i.s, .int .u16 i.imm, .int .u16 i.aux, .int .i64 i.bank, .int .i64 i.size] : Array Value)[o]? := fun o => cell_of_row _ _ o _ _ _ hF.out.b0; have hcp : ∀ o : Nat, ww.cell? ⟨w.heap.size + 1, o, none⟩ = (#[Value.int .i64 p.bank, .int .u16 p.addr] : Array Value)[o]? := fun o => cell_of_row _ _ o _ _ _ hF.out.b1) | (go_at_call 52; (with_reducible refine (HSa.out _).mono ?_); rintro e ww ⟨rfl, hb1⟩; replace hF := Lib.hid (hF.out.stay hb1); clear hb1; have hci : ∀ o : Nat, ww.cell? ⟨w.heap.size, o, none⟩ = (#[Value.int .i64 i.op, .int .i64 i.d, .int .i64 i.s, .int .u16 i.imm, .int .u16 i.aux, .int .i64 i.bank, .int .i64 i.size] : Array Value)[o]? := fun o => cell_of_row _ _ o _ _ _ hF.out.b0; have hcp : ∀ o : Nat, ww.cell? ⟨w.heap.size + 1, o, none⟩ = (#[Value.int .i64 p.bank, .int .u16 p.addr] : Array Value)[o]? := fun o => cell_of_row _ _ o _ _ _ hF.out.b1) | fail)
      go_ret
      refine ⟨congrArg (fun x : ByteArray => Ending.returned (Value.string x)) ?_, hF.out.bb⟩
      rw [HLn.out]
      obtain ⟨rfl, rfl, rfl, rfl, rfl, rfl, rfl, rfl, rfl, rfl, rfl⟩ := E.out
      rw [if_neg hn]; (try simp only [show ∀ l : List UInt8, (⟨l.toArray⟩ : ByteArray) = strB l from fun _ => rfl, strB_app]); (first | rfl | (simp [opB, fCase, Lib.join, reg8, mem8, sgn8, List.append_assoc]; done))
  · have hn : ¬ i.op.toNat = 145 := h145'.out.resolve_left (by decide)
    · go_wp2_with (first | (go_at_call 51; (with_reducible refine (HIm.out _).mono ?_); rintro e wz ⟨rfl, rfl⟩) | (go_at_call 51; (with_reducible refine (HAx.out _).mono ?_); rintro e wz ⟨rfl, rfl⟩) | (go_at_call 52; (with_reducible refine (HSi.out _).mono ?_); rintro e ww ⟨rfl, hb1⟩; replace hF := Lib.hid (hF.out.stay hb1); clear hb1; have hci : ∀ o : Nat, ww.cell? ⟨w.heap.size, o, none⟩ = (#[Value.int .i64 i.op, .int .i64 i.d, .int .i64 i.s, .int .u16 i.imm, .int .u16 i.aux, .int .i64 i.bank, .int .i64 i.size] : Array Value)[o]? := fun o => cell_of_row _ _ o _ _ _ hF.out.b0; have hcp : ∀ o : Nat, ww.cell? ⟨w.heap.size + 1, o, none⟩ = (#[Value.int .i64 p.bank, .int .u16 p.addr] : Array Value)[o]? := fun o => cell_of_row _ _ o _ _ _ hF.out.b1) | (go_at_call 52; (with_reducible refine (HSa.out _).mono ?_); rintro e ww ⟨rfl, hb1⟩; replace hF := Lib.hid (hF.out.stay hb1); clear hb1; have hci : ∀ o : Nat, ww.cell? ⟨w.heap.size, o, none⟩ = (#[Value.int .i64 i.op, .int .i64 i.d, .int .i64 i.s, .int .u16 i.imm, .int .u16 i.aux, .int .i64 i.bank, .int .i64 i.size] : Array Value)[o]? := fun o => cell_of_row _ _ o _ _ _ hF.out.b0; have hcp : ∀ o : Nat, ww.cell? ⟨w.heap.size + 1, o, none⟩ = (#[Value.int .i64 p.bank, .int .u16 p.addr] : Array Value)[o]? := fun o => cell_of_row _ _ o _ _ _ hF.out.b1) | fail)
      go_ret
      refine ⟨congrArg (fun x : ByteArray => Ending.returned (Value.string x)) ?_, hF.out.bb⟩
      rw [HLn.out]
      obtain ⟨rfl, rfl, rfl, rfl, rfl, rfl, rfl, rfl, rfl, rfl, rfl⟩ := E.out
      rw [if_neg hn]; (try simp only [show ∀ l : List UInt8, (⟨l.toArray⟩ : ByteArray) = strB l from fun _ => rfl, strB_app]); (first | rfl | (simp [opB, fCase, Lib.join, reg8, mem8, sgn8, List.append_assoc]; done))
  · have hn : ¬ i.op.toNat = 145 := h145'.out.resolve_left (by decide)
    · go_wp2_with (first | (go_at_call 51; (with_reducible refine (HIm.out _).mono ?_); rintro e wz ⟨rfl, rfl⟩) | (go_at_call 51; (with_reducible refine (HAx.out _).mono ?_); rintro e wz ⟨rfl, rfl⟩) | (go_at_call 52; (with_reducible refine (HSi.out _).mono ?_); rintro e ww ⟨rfl, hb1⟩; replace hF := Lib.hid (hF.out.stay hb1); clear hb1; have hci : ∀ o : Nat, ww.cell? ⟨w.heap.size, o, none⟩ = (#[Value.int .i64 i.op, .int .i64 i.d, .int .i64 i.s, .int .u16 i.imm, .int .u16 i.aux, .int .i64 i.bank, .int .i64 i.size] : Array Value)[o]? := fun o => cell_of_row _ _ o _ _ _ hF.out.b0; have hcp : ∀ o : Nat, ww.cell? ⟨w.heap.size + 1, o, none⟩ = (#[Value.int .i64 p.bank, .int .u16 p.addr] : Array Value)[o]? := fun o => cell_of_row _ _ o _ _ _ hF.out.b1) | (go_at_call 52; (with_reducible refine (HSa.out _).mono ?_); rintro e ww ⟨rfl, hb1⟩; replace hF := Lib.hid (hF.out.stay hb1); clear hb1; have hci : ∀ o : Nat, ww.cell? ⟨w.heap.size, o, none⟩ = (#[Value.int .i64 i.op, .int .i64 i.d, .int .i64 i.s, .int .u16 i.imm, .int .u16 i.aux, .int .i64 i.bank, .int .i64 i.size] : Array Value)[o]? := fun o => cell_of_row _ _ o _ _ _ hF.out.b0; have hcp : ∀ o : Nat, ww.cell? ⟨w.heap.size + 1, o, none⟩ = (#[Value.int .i64 p.bank, .int .u16 p.addr] : Array Value)[o]? := fun o => cell_of_row _ _ o _ _ _ hF.out.b1) | fail)
      go_ret
      refine ⟨congrArg (fun x : ByteArray => Ending.returned (Value.string x)) ?_, hF.out.bb⟩
      rw [HLn.out]
      obtain ⟨rfl, rfl, rfl, rfl, rfl, rfl, rfl, rfl, rfl, rfl, rfl⟩ := E.out
      rw [if_neg hn]; (try simp only [show ∀ l : List UInt8, (⟨l.toArray⟩ : ByteArray) = strB l from fun _ => rfl, strB_app]); (first | rfl | (simp [opB, fCase, Lib.join, reg8, mem8, sgn8, List.append_assoc]; done))
  · have hn : ¬ i.op.toNat = 145 := h145'.out.resolve_left (by decide)
    · go_wp2_with (first | (go_at_call 51; (with_reducible refine (HIm.out _).mono ?_); rintro e wz ⟨rfl, rfl⟩) | (go_at_call 51; (with_reducible refine (HAx.out _).mono ?_); rintro e wz ⟨rfl, rfl⟩) | (go_at_call 52; (with_reducible refine (HSi.out _).mono ?_); rintro e ww ⟨rfl, hb1⟩; replace hF := Lib.hid (hF.out.stay hb1); clear hb1; have hci : ∀ o : Nat, ww.cell? ⟨w.heap.size, o, none⟩ = (#[Value.int .i64 i.op, .int .i64 i.d, .int .i64 i.s, .int .u16 i.imm, .int .u16 i.aux, .int .i64 i.bank, .int .i64 i.size] : Array Value)[o]? := fun o => cell_of_row _ _ o _ _ _ hF.out.b0; have hcp : ∀ o : Nat, ww.cell? ⟨w.heap.size + 1, o, none⟩ = (#[Value.int .i64 p.bank, .int .u16 p.addr] : Array Value)[o]? := fun o => cell_of_row _ _ o _ _ _ hF.out.b1) | (go_at_call 52; (with_reducible refine (HSa.out _).mono ?_); rintro e ww ⟨rfl, hb1⟩; replace hF := Lib.hid (hF.out.stay hb1); clear hb1; have hci : ∀ o : Nat, ww.cell? ⟨w.heap.size, o, none⟩ = (#[Value.int .i64 i.op, .int .i64 i.d, .int .i64 i.s, .int .u16 i.imm, .int .u16 i.aux, .int .i64 i.bank, .int .i64 i.size] : Array Value)[o]? := fun o => cell_of_row _ _ o _ _ _ hF.out.b0; have hcp : ∀ o : Nat, ww.cell? ⟨w.heap.size + 1, o, none⟩ = (#[Value.int .i64 p.bank, .int .u16 p.addr] : Array Value)[o]? := fun o => cell_of_row _ _ o _ _ _ hF.out.b1) | fail)
      go_ret
      refine ⟨congrArg (fun x : ByteArray => Ending.returned (Value.string x)) ?_, hF.out.bb⟩
      rw [HLn.out]
      obtain ⟨rfl, rfl, rfl, rfl, rfl, rfl, rfl, rfl, rfl, rfl, rfl⟩ := E.out
      rw [if_neg hn]; (try simp only [show ∀ l : List UInt8, (⟨l.toArray⟩ : ByteArray) = strB l from fun _ => rfl, strB_app]); (first | rfl | (simp [opB, fCase, Lib.join, reg8, mem8, sgn8, List.append_assoc]; done))
  · have hn : ¬ i.op.toNat = 145 := h145'.out.resolve_left (by decide)
    · go_wp2_with (first | (go_at_call 51; (with_reducible refine (HIm.out _).mono ?_); rintro e wz ⟨rfl, rfl⟩) | (go_at_call 51; (with_reducible refine (HAx.out _).mono ?_); rintro e wz ⟨rfl, rfl⟩) | (go_at_call 52; (with_reducible refine (HSi.out _).mono ?_); rintro e ww ⟨rfl, hb1⟩; replace hF := Lib.hid (hF.out.stay hb1); clear hb1; have hci : ∀ o : Nat, ww.cell? ⟨w.heap.size, o, none⟩ = (#[Value.int .i64 i.op, .int .i64 i.d, .int .i64 i.s, .int .u16 i.imm, .int .u16 i.aux, .int .i64 i.bank, .int .i64 i.size] : Array Value)[o]? := fun o => cell_of_row _ _ o _ _ _ hF.out.b0; have hcp : ∀ o : Nat, ww.cell? ⟨w.heap.size + 1, o, none⟩ = (#[Value.int .i64 p.bank, .int .u16 p.addr] : Array Value)[o]? := fun o => cell_of_row _ _ o _ _ _ hF.out.b1) | (go_at_call 52; (with_reducible refine (HSa.out _).mono ?_); rintro e ww ⟨rfl, hb1⟩; replace hF := Lib.hid (hF.out.stay hb1); clear hb1; have hci : ∀ o : Nat, ww.cell? ⟨w.heap.size, o, none⟩ = (#[Value.int .i64 i.op, .int .i64 i.d, .int .i64 i.s, .int .u16 i.imm, .int .u16 i.aux, .int .i64 i.bank, .int .i64 i.size] : Array Value)[o]? := fun o => cell_of_row _ _ o _ _ _ hF.out.b0; have hcp : ∀ o : Nat, ww.cell? ⟨w.heap.size + 1, o, none⟩ = (#[Value.int .i64 p.bank, .int .u16 p.addr] : Array Value)[o]? := fun o => cell_of_row _ _ o _ _ _ hF.out.b1) | fail)
      go_ret
      refine ⟨congrArg (fun x : ByteArray => Ending.returned (Value.string x)) ?_, hF.out.bb⟩
      rw [HLn.out]
      obtain ⟨rfl, rfl, rfl, rfl, rfl, rfl, rfl, rfl, rfl, rfl, rfl⟩ := E.out
      rw [if_neg hn]; (try simp only [show ∀ l : List UInt8, (⟨l.toArray⟩ : ByteArray) = strB l from fun _ => rfl, strB_app]); (first | rfl | (simp [opB, fCase, Lib.join, reg8, mem8, sgn8, List.append_assoc]; done))

set_option maxRecDepth 100000 in
set_option maxHeartbeats 8000000 in
theorem rline_ok2 (i : Ins) (hi : i.Ok) (p : Place) (p0 : 0 ≤ p.addr) (p1 : p.addr < 65536) (hv : validS i = true) (f : Int) (hf : fmtS i.op = f) (hfs : f = 10 ∨ f = 11 ∨ f = 12 ∨ f = 13) (w : World) :
    Calls Tryd.prog 28 #[.agg #[.int .i64 (i).op, .int .i64 (i).d, .int .i64 (i).s, .int .u16 (i).imm, .int .u16 (i).aux, .int .i64 (i).bank, .int .i64 (i).size], .agg #[Value.int .i64 p.bank, .int .u16 p.addr]] w fun e w' => e = .returned (.string (strB (lineS i p))) ∧ Below w.heap.size w w' := by
  have hr : rvalidS i = true := by rw [← valid_eq i hi]; exact hv
  have hop := valid_op hv
  have hfl := hr
  simp only [rvalidS, Bool.and_eq_true, Bool.not_eq_true', beq_eq_false_iff_ne, ne_eq, beq_iff_eq] at hfl
  rw [hf] at hfl
  obtain ⟨⟨hf0, hsz⟩, hbody⟩ := hfl
  have hszb := valid_size_bd hi hv
  have hds : (0 ≤ i.d ∧ i.d < 8) ∧ (0 ≤ i.s ∧ i.s < 8) ∧ (0 ≤ i.bank ∧ i.bank < 256) := by
    unfold rvBody regB at hbody
    rcases hfs with rfl | rfl | rfl | rfl <;> simp at hbody <;> omega
  obtain ⟨⟨d0, d1⟩, ⟨s0, s1⟩, ⟨b0, b1⟩⟩ := hds
  have hcl := fmt_case i.op.toNat (by omega) (by rw [show (i.op.toNat : Int) = i.op by omega, hf]; exact hf0)
  rw [show (i.op.toNat : Int) = i.op by omega, hf] at hcl
  obtain ⟨hc, hsuf, h145⟩ := hcl
  have hline : lineS i p = if opB (opC i.op) i p = [] then nameD i.op ++ suf8 i.op else nameD i.op ++ suf8 i.op ++ [32] ++ Lib.join (opB (opC i.op) i p) [44, 32] := by
    unfold lineS; rw [if_pos hv, opS_eq]
  rw [hc, hsuf] at hline
  have HLn := Lib.hid hline
  have hi0 := hi.imm
  have hi1 := hi.aux
  have LN := Lib.hid (nameD_len i.op.toNat (by omega))
  rw [show (i.op.toNat : Int) = i.op by omega] at LN
  have zd := Lib.itoa_length_le i.d (by omega) (by omega)
  have zs := Lib.itoa_length_le i.s (by omega) (by omega)
  have zn := Lib.itoa_length_le i.imm (by omega) (by omega)
  have zb := Lib.itoa_length_le i.bank (by omega) (by omega)
  obtain ⟨sd, hsd⟩ : ∃ x, strB (Lib.itoa i.d) = x := ⟨_, rfl⟩
  obtain ⟨ss, hss⟩ : ∃ x, strB (Lib.itoa i.s) = x := ⟨_, rfl⟩
  obtain ⟨sn, hsn⟩ : ∃ x, strB (Lib.itoa i.imm) = x := ⟨_, rfl⟩
  obtain ⟨sb, hsb⟩ : ∃ x, strB (Lib.itoa i.bank) = x := ⟨_, rfl⟩
  obtain ⟨st, hst⟩ : ∃ x, strB (addr8 (tgt i p)) = x := ⟨_, rfl⟩
  obtain ⟨sm, hsm⟩ : ∃ x, strB (addr8 i.imm) = x := ⟨_, rfl⟩
  obtain ⟨sx, hsx⟩ : ∃ x, strB (addr8 i.aux) = x := ⟨_, rfl⟩
  obtain ⟨sp, hsp⟩ : ∃ x, strB (sgn8 true i.imm) = x := ⟨_, rfl⟩
  obtain ⟨si, hsi⟩ : ∃ x, strB (sgn8 false i.imm) = x := ⟨_, rfl⟩
  obtain ⟨sa, hsa⟩ : ∃ x, strB (sgn8 false i.aux) = x := ⟨_, rfl⟩
  obtain ⟨nm, hnm⟩ : ∃ x, strB (nameD i.op) = x := ⟨_, rfl⟩
  have z1 : sd.size ≤ 30 := by rw [← hsd, strB_size]; omega
  have z2 : ss.size ≤ 30 := by rw [← hss, strB_size]; omega
  have z3 : sn.size ≤ 30 := by rw [← hsn, strB_size]; omega
  have z4 : sb.size ≤ 30 := by rw [← hsb, strB_size]; omega
  have z5 : st.size ≤ 30 := by rw [← hst, strB_size, addr8_len]; omega
  have z6 : sm.size ≤ 30 := by rw [← hsm, strB_size, addr8_len]; omega
  have z7 : sx.size ≤ 30 := by rw [← hsx, strB_size, addr8_len]; omega
  have z8 : sp.size ≤ 30 := by rw [← hsp, strB_size]; have := sgn8_len true i.imm hi0.1 hi0.2; omega
  have z9 : si.size ≤ 30 := by rw [← hsi, strB_size]; have := sgn8_len false i.imm hi0.1 hi0.2; omega
  have z10 : sa.size ≤ 30 := by rw [← hsa, strB_size]; have := sgn8_len false i.aux hi1.1 hi1.2; omega
  have z11 : nm.size ≤ 30 := by rw [← hnm, strB_size]; have := LN.out; omega
  have HD := Lib.hid (fun W => by have := dec_itoa i.d d0 (by omega) W; rw [hsd] at this; exact this)
  have HS := Lib.hid (fun W => by have := dec_itoa i.s s0 (by omega) W; rw [hss] at this; exact this)
  have HN := Lib.hid (fun W => by have := dec_itoa i.imm hi0.1 (by omega) W; rw [hsn] at this; exact this)
  have HK := Lib.hid (fun W => by have := dec_itoa i.bank b0 (by omega) W; rw [hsb] at this; exact this)
  have HTg := Lib.hid (fun W => by have := radr_any (tgt i p) (tgt_lo i p) (tgt_hi i p) W; rw [hst] at this; exact this)
  have HIm := Lib.hid (fun W => by have := radr_any i.imm hi0.1 hi0.2 W; rw [hsm] at this; exact this)
  have HAx := Lib.hid (fun W => by have := radr_any i.aux hi1.1 hi1.2 W; rw [hsx] at this; exact this)
  have HSp := Lib.hid (fun W => by have := rsg_any i.imm hi0.1 hi0.2 true W; rw [hsp] at this; exact this)
  have HSi := Lib.hid (fun W => by have := rsg_any i.imm hi0.1 hi0.2 false W; rw [hsi] at this; exact this)
  have HSa := Lib.hid (fun W => by have := rsg_any i.aux hi1.1 hi1.2 false W; rw [hsa] at this; exact this)
  have HNm := Lib.hid (fun W => by have := rnm_any i.op hop.1 hop.2 W; rw [hnm] at this; exact this)
  have HFm := Lib.hid (fun W => by have := fmt_any i.op W; rw [hf] at this; exact this)
  have HVl := Lib.hid (fun W => by have := rvalid_any i W; rw [hr] at this; exact this)
  have E := Lib.hid (And.intro hsd (And.intro hss (And.intro hsn (And.intro hsb (And.intro hst (And.intro hsm (And.intro hsx (And.intro hsp (And.intro hsi (And.intro hsa hnm))))))))))
  have htg := tgt_eq i p
  have htg' := Lib.hid htg
  have h145' := Lib.hid h145
  have hF := Lib.hid (LHeld.first i p w)
  have hszz : ∀ x y : ByteArray, (x ++ y).size = x.size + y.size := fun _ _ => ByteArray.size_append
  clear hsd hss hsn hsb hst hsm hsx hsp hsi hsa hnm hr hf hc hsuf hline hbody hsz hf0 hv zd zs zn zb LN htg h145
  go_enter Tryd.func28, Tryd.ntmps28
  go_upto_region 4 with (first
    | (refine wpList_load_row rfl _ (.tmp 2) rfl _ rfl _ _ _ _ hF.out.b0 Tryd.underlying24 rfl ?_ ?_; kernel_rfl)
    | (go_at_call 21; refine (HVl.out _).mono ?_; rintro e w1 ⟨rfl, hb1⟩; replace hF := Lib.hid (hF.out.stay hb1); clear hb1))
  have hci : ∀ o : Nat, w1.cell? ⟨w.heap.size, o, none⟩ = (#[Value.int .i64 i.op, .int .i64 i.d, .int .i64 i.s, .int .u16 i.imm, .int .u16 i.aux, .int .i64 i.bank, .int .i64 i.size] : Array Value)[o]? := fun o => cell_of_row _ _ o _ _ _ hF.out.b0
  have hcp : ∀ o : Nat, w1.cell? ⟨w.heap.size + 1, o, none⟩ = (#[Value.int .i64 p.bank, .int .u16 p.addr] : Array Value)[o]? := fun o => cell_of_row _ _ o _ _ _ hF.out.b1
  go_upto_region 5 with (go_at_call 32; refine (HFm.out _).mono ?_; rintro e ww ⟨rfl, hb1⟩; replace hF := Lib.hid (hF.out.stay hb1); clear hb1; have hci : ∀ o : Nat, ww.cell? ⟨w.heap.size, o, none⟩ = (#[Value.int .i64 i.op, .int .i64 i.d, .int .i64 i.s, .int .u16 i.imm, .int .u16 i.aux, .int .i64 i.bank, .int .i64 i.size] : Array Value)[o]? := fun o => cell_of_row _ _ o _ _ _ hF.out.b0; have hcp : ∀ o : Nat, ww.cell? ⟨w.heap.size + 1, o, none⟩ = (#[Value.int .i64 p.bank, .int .u16 p.addr] : Array Value)[o]? := fun o => cell_of_row _ _ o _ _ _ hF.out.b1)
  obtain ⟨wv, rfl⟩ : ∃ wv : World, wv = ww := ⟨_, rfl⟩
  go_upto_region 6 with (go_at_call 50; refine (HD.out _).mono ?_; rintro e ww ⟨rfl, hb1⟩; replace hF := Lib.hid (hF.out.stay hb1); clear hb1; have hci : ∀ o : Nat, ww.cell? ⟨w.heap.size, o, none⟩ = (#[Value.int .i64 i.op, .int .i64 i.d, .int .i64 i.s, .int .u16 i.imm, .int .u16 i.aux, .int .i64 i.bank, .int .i64 i.size] : Array Value)[o]? := fun o => cell_of_row _ _ o _ _ _ hF.out.b0; have hcp : ∀ o : Nat, ww.cell? ⟨w.heap.size + 1, o, none⟩ = (#[Value.int .i64 p.bank, .int .u16 p.addr] : Array Value)[o]? := fun o => cell_of_row _ _ o _ _ _ hF.out.b1)
  obtain ⟨wv, rfl⟩ : ∃ wv : World, wv = ww := ⟨_, rfl⟩
  go_upto_region 7 with (go_at_call 50; refine (HS.out _).mono ?_; rintro e ww ⟨rfl, hb1⟩; replace hF := Lib.hid (hF.out.stay hb1); clear hb1; have hci : ∀ o : Nat, ww.cell? ⟨w.heap.size, o, none⟩ = (#[Value.int .i64 i.op, .int .i64 i.d, .int .i64 i.s, .int .u16 i.imm, .int .u16 i.aux, .int .i64 i.bank, .int .i64 i.size] : Array Value)[o]? := fun o => cell_of_row _ _ o _ _ _ hF.out.b0; have hcp : ∀ o : Nat, ww.cell? ⟨w.heap.size + 1, o, none⟩ = (#[Value.int .i64 p.bank, .int .u16 p.addr] : Array Value)[o]? := fun o => cell_of_row _ _ o _ _ _ hF.out.b1)
  obtain ⟨wv, rfl⟩ : ∃ wv : World, wv = ww := ⟨_, rfl⟩
  go_upto_region 8 with (go_at_call 50; refine (HN.out _).mono ?_; rintro e ww ⟨rfl, hb1⟩; replace hF := Lib.hid (hF.out.stay hb1); clear hb1; have hci : ∀ o : Nat, ww.cell? ⟨w.heap.size, o, none⟩ = (#[Value.int .i64 i.op, .int .i64 i.d, .int .i64 i.s, .int .u16 i.imm, .int .u16 i.aux, .int .i64 i.bank, .int .i64 i.size] : Array Value)[o]? := fun o => cell_of_row _ _ o _ _ _ hF.out.b0; have hcp : ∀ o : Nat, ww.cell? ⟨w.heap.size + 1, o, none⟩ = (#[Value.int .i64 p.bank, .int .u16 p.addr] : Array Value)[o]? := fun o => cell_of_row _ _ o _ _ _ hF.out.b1)
  obtain ⟨wv, rfl⟩ : ∃ wv : World, wv = ww := ⟨_, rfl⟩
  go_upto_region 9 with (go_at_call 50; refine (HK.out _).mono ?_; rintro e ww ⟨rfl, hb1⟩; replace hF := Lib.hid (hF.out.stay hb1); clear hb1; have hci : ∀ o : Nat, ww.cell? ⟨w.heap.size, o, none⟩ = (#[Value.int .i64 i.op, .int .i64 i.d, .int .i64 i.s, .int .u16 i.imm, .int .u16 i.aux, .int .i64 i.bank, .int .i64 i.size] : Array Value)[o]? := fun o => cell_of_row _ _ o _ _ _ hF.out.b0; have hcp : ∀ o : Nat, ww.cell? ⟨w.heap.size + 1, o, none⟩ = (#[Value.int .i64 p.bank, .int .u16 p.addr] : Array Value)[o]? := fun o => cell_of_row _ _ o _ _ _ hF.out.b1)
  obtain ⟨wv, rfl⟩ : ∃ wv : World, wv = ww := ⟨_, rfl⟩
  have htg := htg'.out
  have hsw : IntKind.u16.wrap i.size = i.size := IntWalk.u16_in _ (by omega)
  go_upto_region 10 with (go_at_call 51; refine (HTg.out _).mono ?_; rintro e wz ⟨rfl, rfl⟩)
  clear htg
  go_upto_region 11 with (go_at_call 52; refine (HSp.out _).mono ?_; rintro e ww ⟨rfl, hb1⟩; replace hF := Lib.hid (hF.out.stay hb1); clear hb1; have hci : ∀ o : Nat, ww.cell? ⟨w.heap.size, o, none⟩ = (#[Value.int .i64 i.op, .int .i64 i.d, .int .i64 i.s, .int .u16 i.imm, .int .u16 i.aux, .int .i64 i.bank, .int .i64 i.size] : Array Value)[o]? := fun o => cell_of_row _ _ o _ _ _ hF.out.b0; have hcp : ∀ o : Nat, ww.cell? ⟨w.heap.size + 1, o, none⟩ = (#[Value.int .i64 p.bank, .int .u16 p.addr] : Array Value)[o]? := fun o => cell_of_row _ _ o _ _ _ hF.out.b1)
  obtain ⟨wv, rfl⟩ : ∃ wv : World, wv = ww := ⟨_, rfl⟩
  go_upto_region 12 with (go_at_call 53; refine (HNm.out _).mono ?_; rintro e ww ⟨rfl, hb1⟩; replace hF := Lib.hid (hF.out.stay hb1); clear hb1; have hci : ∀ o : Nat, ww.cell? ⟨w.heap.size, o, none⟩ = (#[Value.int .i64 i.op, .int .i64 i.d, .int .i64 i.s, .int .u16 i.imm, .int .u16 i.aux, .int .i64 i.bank, .int .i64 i.size] : Array Value)[o]? := fun o => cell_of_row _ _ o _ _ _ hF.out.b0; have hcp : ∀ o : Nat, ww.cell? ⟨w.heap.size + 1, o, none⟩ = (#[Value.int .i64 p.bank, .int .u16 p.addr] : Array Value)[o]? := fun o => cell_of_row _ _ o _ _ _ hF.out.b1)
  obtain ⟨wv, rfl⟩ : ∃ wv : World, wv = ww := ⟨_, rfl⟩
  rcases hfs with rfl | rfl | rfl | rfl
  · have hn : ¬ i.op.toNat = 145 := h145'.out.resolve_left (by decide)
    · go_wp2_with (first | (go_at_call 51; (with_reducible refine (HIm.out _).mono ?_); rintro e wz ⟨rfl, rfl⟩) | (go_at_call 51; (with_reducible refine (HAx.out _).mono ?_); rintro e wz ⟨rfl, rfl⟩) | (go_at_call 52; (with_reducible refine (HSi.out _).mono ?_); rintro e ww ⟨rfl, hb1⟩; replace hF := Lib.hid (hF.out.stay hb1); clear hb1; have hci : ∀ o : Nat, ww.cell? ⟨w.heap.size, o, none⟩ = (#[Value.int .i64 i.op, .int .i64 i.d, .int .i64 i.s, .int .u16 i.imm, .int .u16 i.aux, .int .i64 i.bank, .int .i64 i.size] : Array Value)[o]? := fun o => cell_of_row _ _ o _ _ _ hF.out.b0; have hcp : ∀ o : Nat, ww.cell? ⟨w.heap.size + 1, o, none⟩ = (#[Value.int .i64 p.bank, .int .u16 p.addr] : Array Value)[o]? := fun o => cell_of_row _ _ o _ _ _ hF.out.b1) | (go_at_call 52; (with_reducible refine (HSa.out _).mono ?_); rintro e ww ⟨rfl, hb1⟩; replace hF := Lib.hid (hF.out.stay hb1); clear hb1; have hci : ∀ o : Nat, ww.cell? ⟨w.heap.size, o, none⟩ = (#[Value.int .i64 i.op, .int .i64 i.d, .int .i64 i.s, .int .u16 i.imm, .int .u16 i.aux, .int .i64 i.bank, .int .i64 i.size] : Array Value)[o]? := fun o => cell_of_row _ _ o _ _ _ hF.out.b0; have hcp : ∀ o : Nat, ww.cell? ⟨w.heap.size + 1, o, none⟩ = (#[Value.int .i64 p.bank, .int .u16 p.addr] : Array Value)[o]? := fun o => cell_of_row _ _ o _ _ _ hF.out.b1) | fail)
      go_ret
      refine ⟨congrArg (fun x : ByteArray => Ending.returned (Value.string x)) ?_, hF.out.bb⟩
      rw [HLn.out]
      obtain ⟨rfl, rfl, rfl, rfl, rfl, rfl, rfl, rfl, rfl, rfl, rfl⟩ := E.out
      rw [if_neg hn]; (try simp only [show ∀ l : List UInt8, (⟨l.toArray⟩ : ByteArray) = strB l from fun _ => rfl, strB_app]); (first | rfl | (simp [opB, fCase, Lib.join, reg8, mem8, sgn8, List.append_assoc]; done))
  · have hn : ¬ i.op.toNat = 145 := h145'.out.resolve_left (by decide)
    by_cases h : i.op < 128
    · have hn2 : i.op.toNat < 128 := by omega
      go_wp2_with (first | (go_at_call 51; (with_reducible refine (HIm.out _).mono ?_); rintro e wz ⟨rfl, rfl⟩) | (go_at_call 51; (with_reducible refine (HAx.out _).mono ?_); rintro e wz ⟨rfl, rfl⟩) | (go_at_call 52; (with_reducible refine (HSi.out _).mono ?_); rintro e ww ⟨rfl, hb1⟩; replace hF := Lib.hid (hF.out.stay hb1); clear hb1; have hci : ∀ o : Nat, ww.cell? ⟨w.heap.size, o, none⟩ = (#[Value.int .i64 i.op, .int .i64 i.d, .int .i64 i.s, .int .u16 i.imm, .int .u16 i.aux, .int .i64 i.bank, .int .i64 i.size] : Array Value)[o]? := fun o => cell_of_row _ _ o _ _ _ hF.out.b0; have hcp : ∀ o : Nat, ww.cell? ⟨w.heap.size + 1, o, none⟩ = (#[Value.int .i64 p.bank, .int .u16 p.addr] : Array Value)[o]? := fun o => cell_of_row _ _ o _ _ _ hF.out.b1) | (go_at_call 52; (with_reducible refine (HSa.out _).mono ?_); rintro e ww ⟨rfl, hb1⟩; replace hF := Lib.hid (hF.out.stay hb1); clear hb1; have hci : ∀ o : Nat, ww.cell? ⟨w.heap.size, o, none⟩ = (#[Value.int .i64 i.op, .int .i64 i.d, .int .i64 i.s, .int .u16 i.imm, .int .u16 i.aux, .int .i64 i.bank, .int .i64 i.size] : Array Value)[o]? := fun o => cell_of_row _ _ o _ _ _ hF.out.b0; have hcp : ∀ o : Nat, ww.cell? ⟨w.heap.size + 1, o, none⟩ = (#[Value.int .i64 p.bank, .int .u16 p.addr] : Array Value)[o]? := fun o => cell_of_row _ _ o _ _ _ hF.out.b1) | fail)
      go_ret
      refine ⟨congrArg (fun x : ByteArray => Ending.returned (Value.string x)) ?_, hF.out.bb⟩
      rw [HLn.out]
      obtain ⟨rfl, rfl, rfl, rfl, rfl, rfl, rfl, rfl, rfl, rfl, rfl⟩ := E.out
      rw [if_neg hn]; simp only [hn2]; (try simp only [show ∀ l : List UInt8, (⟨l.toArray⟩ : ByteArray) = strB l from fun _ => rfl, strB_app]); (first | rfl | (simp [opB, fCase, Lib.join, reg8, mem8, sgn8, List.append_assoc]; done))
    · have hn2 : ¬ i.op.toNat < 128 := by omega
      go_wp2_with (first | (go_at_call 51; (with_reducible refine (HIm.out _).mono ?_); rintro e wz ⟨rfl, rfl⟩) | (go_at_call 51; (with_reducible refine (HAx.out _).mono ?_); rintro e wz ⟨rfl, rfl⟩) | (go_at_call 52; (with_reducible refine (HSi.out _).mono ?_); rintro e ww ⟨rfl, hb1⟩; replace hF := Lib.hid (hF.out.stay hb1); clear hb1; have hci : ∀ o : Nat, ww.cell? ⟨w.heap.size, o, none⟩ = (#[Value.int .i64 i.op, .int .i64 i.d, .int .i64 i.s, .int .u16 i.imm, .int .u16 i.aux, .int .i64 i.bank, .int .i64 i.size] : Array Value)[o]? := fun o => cell_of_row _ _ o _ _ _ hF.out.b0; have hcp : ∀ o : Nat, ww.cell? ⟨w.heap.size + 1, o, none⟩ = (#[Value.int .i64 p.bank, .int .u16 p.addr] : Array Value)[o]? := fun o => cell_of_row _ _ o _ _ _ hF.out.b1) | (go_at_call 52; (with_reducible refine (HSa.out _).mono ?_); rintro e ww ⟨rfl, hb1⟩; replace hF := Lib.hid (hF.out.stay hb1); clear hb1; have hci : ∀ o : Nat, ww.cell? ⟨w.heap.size, o, none⟩ = (#[Value.int .i64 i.op, .int .i64 i.d, .int .i64 i.s, .int .u16 i.imm, .int .u16 i.aux, .int .i64 i.bank, .int .i64 i.size] : Array Value)[o]? := fun o => cell_of_row _ _ o _ _ _ hF.out.b0; have hcp : ∀ o : Nat, ww.cell? ⟨w.heap.size + 1, o, none⟩ = (#[Value.int .i64 p.bank, .int .u16 p.addr] : Array Value)[o]? := fun o => cell_of_row _ _ o _ _ _ hF.out.b1) | fail)
      go_ret
      refine ⟨congrArg (fun x : ByteArray => Ending.returned (Value.string x)) ?_, hF.out.bb⟩
      rw [HLn.out]
      obtain ⟨rfl, rfl, rfl, rfl, rfl, rfl, rfl, rfl, rfl, rfl, rfl⟩ := E.out
      rw [if_neg hn]; simp only [hn2]; (try simp only [show ∀ l : List UInt8, (⟨l.toArray⟩ : ByteArray) = strB l from fun _ => rfl, strB_app]); (first | rfl | (simp [opB, fCase, Lib.join, reg8, mem8, sgn8, List.append_assoc]; done))
  · have hn : ¬ i.op.toNat = 145 := h145'.out.resolve_left (by decide)
    · go_wp2_with (first | (go_at_call 51; (with_reducible refine (HIm.out _).mono ?_); rintro e wz ⟨rfl, rfl⟩) | (go_at_call 51; (with_reducible refine (HAx.out _).mono ?_); rintro e wz ⟨rfl, rfl⟩) | (go_at_call 52; (with_reducible refine (HSi.out _).mono ?_); rintro e ww ⟨rfl, hb1⟩; replace hF := Lib.hid (hF.out.stay hb1); clear hb1; have hci : ∀ o : Nat, ww.cell? ⟨w.heap.size, o, none⟩ = (#[Value.int .i64 i.op, .int .i64 i.d, .int .i64 i.s, .int .u16 i.imm, .int .u16 i.aux, .int .i64 i.bank, .int .i64 i.size] : Array Value)[o]? := fun o => cell_of_row _ _ o _ _ _ hF.out.b0; have hcp : ∀ o : Nat, ww.cell? ⟨w.heap.size + 1, o, none⟩ = (#[Value.int .i64 p.bank, .int .u16 p.addr] : Array Value)[o]? := fun o => cell_of_row _ _ o _ _ _ hF.out.b1) | (go_at_call 52; (with_reducible refine (HSa.out _).mono ?_); rintro e ww ⟨rfl, hb1⟩; replace hF := Lib.hid (hF.out.stay hb1); clear hb1; have hci : ∀ o : Nat, ww.cell? ⟨w.heap.size, o, none⟩ = (#[Value.int .i64 i.op, .int .i64 i.d, .int .i64 i.s, .int .u16 i.imm, .int .u16 i.aux, .int .i64 i.bank, .int .i64 i.size] : Array Value)[o]? := fun o => cell_of_row _ _ o _ _ _ hF.out.b0; have hcp : ∀ o : Nat, ww.cell? ⟨w.heap.size + 1, o, none⟩ = (#[Value.int .i64 p.bank, .int .u16 p.addr] : Array Value)[o]? := fun o => cell_of_row _ _ o _ _ _ hF.out.b1) | fail)
      go_ret
      refine ⟨congrArg (fun x : ByteArray => Ending.returned (Value.string x)) ?_, hF.out.bb⟩
      rw [HLn.out]
      obtain ⟨rfl, rfl, rfl, rfl, rfl, rfl, rfl, rfl, rfl, rfl, rfl⟩ := E.out
      rw [if_neg hn]; (try simp only [show ∀ l : List UInt8, (⟨l.toArray⟩ : ByteArray) = strB l from fun _ => rfl, strB_app]); (first | rfl | (simp [opB, fCase, Lib.join, reg8, mem8, sgn8, List.append_assoc]; done))
  · have hn : ¬ i.op.toNat = 145 := h145'.out.resolve_left (by decide)
    · go_wp2_with (first | (go_at_call 51; (with_reducible refine (HIm.out _).mono ?_); rintro e wz ⟨rfl, rfl⟩) | (go_at_call 51; (with_reducible refine (HAx.out _).mono ?_); rintro e wz ⟨rfl, rfl⟩) | (go_at_call 52; (with_reducible refine (HSi.out _).mono ?_); rintro e ww ⟨rfl, hb1⟩; replace hF := Lib.hid (hF.out.stay hb1); clear hb1; have hci : ∀ o : Nat, ww.cell? ⟨w.heap.size, o, none⟩ = (#[Value.int .i64 i.op, .int .i64 i.d, .int .i64 i.s, .int .u16 i.imm, .int .u16 i.aux, .int .i64 i.bank, .int .i64 i.size] : Array Value)[o]? := fun o => cell_of_row _ _ o _ _ _ hF.out.b0; have hcp : ∀ o : Nat, ww.cell? ⟨w.heap.size + 1, o, none⟩ = (#[Value.int .i64 p.bank, .int .u16 p.addr] : Array Value)[o]? := fun o => cell_of_row _ _ o _ _ _ hF.out.b1) | (go_at_call 52; (with_reducible refine (HSa.out _).mono ?_); rintro e ww ⟨rfl, hb1⟩; replace hF := Lib.hid (hF.out.stay hb1); clear hb1; have hci : ∀ o : Nat, ww.cell? ⟨w.heap.size, o, none⟩ = (#[Value.int .i64 i.op, .int .i64 i.d, .int .i64 i.s, .int .u16 i.imm, .int .u16 i.aux, .int .i64 i.bank, .int .i64 i.size] : Array Value)[o]? := fun o => cell_of_row _ _ o _ _ _ hF.out.b0; have hcp : ∀ o : Nat, ww.cell? ⟨w.heap.size + 1, o, none⟩ = (#[Value.int .i64 p.bank, .int .u16 p.addr] : Array Value)[o]? := fun o => cell_of_row _ _ o _ _ _ hF.out.b1) | fail)
      go_ret
      refine ⟨congrArg (fun x : ByteArray => Ending.returned (Value.string x)) ?_, hF.out.bb⟩
      rw [HLn.out]
      obtain ⟨rfl, rfl, rfl, rfl, rfl, rfl, rfl, rfl, rfl, rfl, rfl⟩ := E.out
      rw [if_neg hn]; (try simp only [show ∀ l : List UInt8, (⟨l.toArray⟩ : ByteArray) = strB l from fun _ => rfl, strB_app]); (first | rfl | (simp [opB, fCase, Lib.join, reg8, mem8, sgn8, List.append_assoc]; done))

set_option maxRecDepth 100000 in
set_option maxHeartbeats 8000000 in
theorem rline_ok3 (i : Ins) (hi : i.Ok) (p : Place) (p0 : 0 ≤ p.addr) (p1 : p.addr < 65536) (hv : validS i = true) (f : Int) (hf : fmtS i.op = f) (hfs : f = 14 ∨ f = 15 ∨ f = 16 ∨ f = 17 ∨ f = 18) (w : World) :
    Calls Tryd.prog 28 #[.agg #[.int .i64 (i).op, .int .i64 (i).d, .int .i64 (i).s, .int .u16 (i).imm, .int .u16 (i).aux, .int .i64 (i).bank, .int .i64 (i).size], .agg #[Value.int .i64 p.bank, .int .u16 p.addr]] w fun e w' => e = .returned (.string (strB (lineS i p))) ∧ Below w.heap.size w w' := by
  have hr : rvalidS i = true := by rw [← valid_eq i hi]; exact hv
  have hop := valid_op hv
  have hfl := hr
  simp only [rvalidS, Bool.and_eq_true, Bool.not_eq_true', beq_eq_false_iff_ne, ne_eq, beq_iff_eq] at hfl
  rw [hf] at hfl
  obtain ⟨⟨hf0, hsz⟩, hbody⟩ := hfl
  have hszb := valid_size_bd hi hv
  have hds : (0 ≤ i.d ∧ i.d < 8) ∧ (0 ≤ i.s ∧ i.s < 8) ∧ (0 ≤ i.bank ∧ i.bank < 256) := by
    unfold rvBody regB at hbody
    rcases hfs with rfl | rfl | rfl | rfl | rfl <;> simp at hbody <;> omega
  obtain ⟨⟨d0, d1⟩, ⟨s0, s1⟩, ⟨b0, b1⟩⟩ := hds
  have hcl := fmt_case i.op.toNat (by omega) (by rw [show (i.op.toNat : Int) = i.op by omega, hf]; exact hf0)
  rw [show (i.op.toNat : Int) = i.op by omega, hf] at hcl
  obtain ⟨hc, hsuf, h145⟩ := hcl
  have hline : lineS i p = if opB (opC i.op) i p = [] then nameD i.op ++ suf8 i.op else nameD i.op ++ suf8 i.op ++ [32] ++ Lib.join (opB (opC i.op) i p) [44, 32] := by
    unfold lineS; rw [if_pos hv, opS_eq]
  rw [hc, hsuf] at hline
  have HLn := Lib.hid hline
  have hi0 := hi.imm
  have hi1 := hi.aux
  have LN := Lib.hid (nameD_len i.op.toNat (by omega))
  rw [show (i.op.toNat : Int) = i.op by omega] at LN
  have zd := Lib.itoa_length_le i.d (by omega) (by omega)
  have zs := Lib.itoa_length_le i.s (by omega) (by omega)
  have zn := Lib.itoa_length_le i.imm (by omega) (by omega)
  have zb := Lib.itoa_length_le i.bank (by omega) (by omega)
  obtain ⟨sd, hsd⟩ : ∃ x, strB (Lib.itoa i.d) = x := ⟨_, rfl⟩
  obtain ⟨ss, hss⟩ : ∃ x, strB (Lib.itoa i.s) = x := ⟨_, rfl⟩
  obtain ⟨sn, hsn⟩ : ∃ x, strB (Lib.itoa i.imm) = x := ⟨_, rfl⟩
  obtain ⟨sb, hsb⟩ : ∃ x, strB (Lib.itoa i.bank) = x := ⟨_, rfl⟩
  obtain ⟨st, hst⟩ : ∃ x, strB (addr8 (tgt i p)) = x := ⟨_, rfl⟩
  obtain ⟨sm, hsm⟩ : ∃ x, strB (addr8 i.imm) = x := ⟨_, rfl⟩
  obtain ⟨sx, hsx⟩ : ∃ x, strB (addr8 i.aux) = x := ⟨_, rfl⟩
  obtain ⟨sp, hsp⟩ : ∃ x, strB (sgn8 true i.imm) = x := ⟨_, rfl⟩
  obtain ⟨si, hsi⟩ : ∃ x, strB (sgn8 false i.imm) = x := ⟨_, rfl⟩
  obtain ⟨sa, hsa⟩ : ∃ x, strB (sgn8 false i.aux) = x := ⟨_, rfl⟩
  obtain ⟨nm, hnm⟩ : ∃ x, strB (nameD i.op) = x := ⟨_, rfl⟩
  have z1 : sd.size ≤ 30 := by rw [← hsd, strB_size]; omega
  have z2 : ss.size ≤ 30 := by rw [← hss, strB_size]; omega
  have z3 : sn.size ≤ 30 := by rw [← hsn, strB_size]; omega
  have z4 : sb.size ≤ 30 := by rw [← hsb, strB_size]; omega
  have z5 : st.size ≤ 30 := by rw [← hst, strB_size, addr8_len]; omega
  have z6 : sm.size ≤ 30 := by rw [← hsm, strB_size, addr8_len]; omega
  have z7 : sx.size ≤ 30 := by rw [← hsx, strB_size, addr8_len]; omega
  have z8 : sp.size ≤ 30 := by rw [← hsp, strB_size]; have := sgn8_len true i.imm hi0.1 hi0.2; omega
  have z9 : si.size ≤ 30 := by rw [← hsi, strB_size]; have := sgn8_len false i.imm hi0.1 hi0.2; omega
  have z10 : sa.size ≤ 30 := by rw [← hsa, strB_size]; have := sgn8_len false i.aux hi1.1 hi1.2; omega
  have z11 : nm.size ≤ 30 := by rw [← hnm, strB_size]; have := LN.out; omega
  have HD := Lib.hid (fun W => by have := dec_itoa i.d d0 (by omega) W; rw [hsd] at this; exact this)
  have HS := Lib.hid (fun W => by have := dec_itoa i.s s0 (by omega) W; rw [hss] at this; exact this)
  have HN := Lib.hid (fun W => by have := dec_itoa i.imm hi0.1 (by omega) W; rw [hsn] at this; exact this)
  have HK := Lib.hid (fun W => by have := dec_itoa i.bank b0 (by omega) W; rw [hsb] at this; exact this)
  have HTg := Lib.hid (fun W => by have := radr_any (tgt i p) (tgt_lo i p) (tgt_hi i p) W; rw [hst] at this; exact this)
  have HIm := Lib.hid (fun W => by have := radr_any i.imm hi0.1 hi0.2 W; rw [hsm] at this; exact this)
  have HAx := Lib.hid (fun W => by have := radr_any i.aux hi1.1 hi1.2 W; rw [hsx] at this; exact this)
  have HSp := Lib.hid (fun W => by have := rsg_any i.imm hi0.1 hi0.2 true W; rw [hsp] at this; exact this)
  have HSi := Lib.hid (fun W => by have := rsg_any i.imm hi0.1 hi0.2 false W; rw [hsi] at this; exact this)
  have HSa := Lib.hid (fun W => by have := rsg_any i.aux hi1.1 hi1.2 false W; rw [hsa] at this; exact this)
  have HNm := Lib.hid (fun W => by have := rnm_any i.op hop.1 hop.2 W; rw [hnm] at this; exact this)
  have HFm := Lib.hid (fun W => by have := fmt_any i.op W; rw [hf] at this; exact this)
  have HVl := Lib.hid (fun W => by have := rvalid_any i W; rw [hr] at this; exact this)
  have E := Lib.hid (And.intro hsd (And.intro hss (And.intro hsn (And.intro hsb (And.intro hst (And.intro hsm (And.intro hsx (And.intro hsp (And.intro hsi (And.intro hsa hnm))))))))))
  have htg := tgt_eq i p
  have htg' := Lib.hid htg
  have h145' := Lib.hid h145
  have hF := Lib.hid (LHeld.first i p w)
  have hszz : ∀ x y : ByteArray, (x ++ y).size = x.size + y.size := fun _ _ => ByteArray.size_append
  clear hsd hss hsn hsb hst hsm hsx hsp hsi hsa hnm hr hf hc hsuf hline hbody hsz hf0 hv zd zs zn zb LN htg h145
  go_enter Tryd.func28, Tryd.ntmps28
  go_upto_region 4 with (first
    | (refine wpList_load_row rfl _ (.tmp 2) rfl _ rfl _ _ _ _ hF.out.b0 Tryd.underlying24 rfl ?_ ?_; kernel_rfl)
    | (go_at_call 21; refine (HVl.out _).mono ?_; rintro e w1 ⟨rfl, hb1⟩; replace hF := Lib.hid (hF.out.stay hb1); clear hb1))
  have hci : ∀ o : Nat, w1.cell? ⟨w.heap.size, o, none⟩ = (#[Value.int .i64 i.op, .int .i64 i.d, .int .i64 i.s, .int .u16 i.imm, .int .u16 i.aux, .int .i64 i.bank, .int .i64 i.size] : Array Value)[o]? := fun o => cell_of_row _ _ o _ _ _ hF.out.b0
  have hcp : ∀ o : Nat, w1.cell? ⟨w.heap.size + 1, o, none⟩ = (#[Value.int .i64 p.bank, .int .u16 p.addr] : Array Value)[o]? := fun o => cell_of_row _ _ o _ _ _ hF.out.b1
  go_upto_region 5 with (go_at_call 32; refine (HFm.out _).mono ?_; rintro e ww ⟨rfl, hb1⟩; replace hF := Lib.hid (hF.out.stay hb1); clear hb1; have hci : ∀ o : Nat, ww.cell? ⟨w.heap.size, o, none⟩ = (#[Value.int .i64 i.op, .int .i64 i.d, .int .i64 i.s, .int .u16 i.imm, .int .u16 i.aux, .int .i64 i.bank, .int .i64 i.size] : Array Value)[o]? := fun o => cell_of_row _ _ o _ _ _ hF.out.b0; have hcp : ∀ o : Nat, ww.cell? ⟨w.heap.size + 1, o, none⟩ = (#[Value.int .i64 p.bank, .int .u16 p.addr] : Array Value)[o]? := fun o => cell_of_row _ _ o _ _ _ hF.out.b1)
  obtain ⟨wv, rfl⟩ : ∃ wv : World, wv = ww := ⟨_, rfl⟩
  go_upto_region 6 with (go_at_call 50; refine (HD.out _).mono ?_; rintro e ww ⟨rfl, hb1⟩; replace hF := Lib.hid (hF.out.stay hb1); clear hb1; have hci : ∀ o : Nat, ww.cell? ⟨w.heap.size, o, none⟩ = (#[Value.int .i64 i.op, .int .i64 i.d, .int .i64 i.s, .int .u16 i.imm, .int .u16 i.aux, .int .i64 i.bank, .int .i64 i.size] : Array Value)[o]? := fun o => cell_of_row _ _ o _ _ _ hF.out.b0; have hcp : ∀ o : Nat, ww.cell? ⟨w.heap.size + 1, o, none⟩ = (#[Value.int .i64 p.bank, .int .u16 p.addr] : Array Value)[o]? := fun o => cell_of_row _ _ o _ _ _ hF.out.b1)
  obtain ⟨wv, rfl⟩ : ∃ wv : World, wv = ww := ⟨_, rfl⟩
  go_upto_region 7 with (go_at_call 50; refine (HS.out _).mono ?_; rintro e ww ⟨rfl, hb1⟩; replace hF := Lib.hid (hF.out.stay hb1); clear hb1; have hci : ∀ o : Nat, ww.cell? ⟨w.heap.size, o, none⟩ = (#[Value.int .i64 i.op, .int .i64 i.d, .int .i64 i.s, .int .u16 i.imm, .int .u16 i.aux, .int .i64 i.bank, .int .i64 i.size] : Array Value)[o]? := fun o => cell_of_row _ _ o _ _ _ hF.out.b0; have hcp : ∀ o : Nat, ww.cell? ⟨w.heap.size + 1, o, none⟩ = (#[Value.int .i64 p.bank, .int .u16 p.addr] : Array Value)[o]? := fun o => cell_of_row _ _ o _ _ _ hF.out.b1)
  obtain ⟨wv, rfl⟩ : ∃ wv : World, wv = ww := ⟨_, rfl⟩
  go_upto_region 8 with (go_at_call 50; refine (HN.out _).mono ?_; rintro e ww ⟨rfl, hb1⟩; replace hF := Lib.hid (hF.out.stay hb1); clear hb1; have hci : ∀ o : Nat, ww.cell? ⟨w.heap.size, o, none⟩ = (#[Value.int .i64 i.op, .int .i64 i.d, .int .i64 i.s, .int .u16 i.imm, .int .u16 i.aux, .int .i64 i.bank, .int .i64 i.size] : Array Value)[o]? := fun o => cell_of_row _ _ o _ _ _ hF.out.b0; have hcp : ∀ o : Nat, ww.cell? ⟨w.heap.size + 1, o, none⟩ = (#[Value.int .i64 p.bank, .int .u16 p.addr] : Array Value)[o]? := fun o => cell_of_row _ _ o _ _ _ hF.out.b1)
  obtain ⟨wv, rfl⟩ : ∃ wv : World, wv = ww := ⟨_, rfl⟩
  go_upto_region 9 with (go_at_call 50; refine (HK.out _).mono ?_; rintro e ww ⟨rfl, hb1⟩; replace hF := Lib.hid (hF.out.stay hb1); clear hb1; have hci : ∀ o : Nat, ww.cell? ⟨w.heap.size, o, none⟩ = (#[Value.int .i64 i.op, .int .i64 i.d, .int .i64 i.s, .int .u16 i.imm, .int .u16 i.aux, .int .i64 i.bank, .int .i64 i.size] : Array Value)[o]? := fun o => cell_of_row _ _ o _ _ _ hF.out.b0; have hcp : ∀ o : Nat, ww.cell? ⟨w.heap.size + 1, o, none⟩ = (#[Value.int .i64 p.bank, .int .u16 p.addr] : Array Value)[o]? := fun o => cell_of_row _ _ o _ _ _ hF.out.b1)
  obtain ⟨wv, rfl⟩ : ∃ wv : World, wv = ww := ⟨_, rfl⟩
  have htg := htg'.out
  have hsw : IntKind.u16.wrap i.size = i.size := IntWalk.u16_in _ (by omega)
  go_upto_region 10 with (go_at_call 51; refine (HTg.out _).mono ?_; rintro e wz ⟨rfl, rfl⟩)
  clear htg
  go_upto_region 11 with (go_at_call 52; refine (HSp.out _).mono ?_; rintro e ww ⟨rfl, hb1⟩; replace hF := Lib.hid (hF.out.stay hb1); clear hb1; have hci : ∀ o : Nat, ww.cell? ⟨w.heap.size, o, none⟩ = (#[Value.int .i64 i.op, .int .i64 i.d, .int .i64 i.s, .int .u16 i.imm, .int .u16 i.aux, .int .i64 i.bank, .int .i64 i.size] : Array Value)[o]? := fun o => cell_of_row _ _ o _ _ _ hF.out.b0; have hcp : ∀ o : Nat, ww.cell? ⟨w.heap.size + 1, o, none⟩ = (#[Value.int .i64 p.bank, .int .u16 p.addr] : Array Value)[o]? := fun o => cell_of_row _ _ o _ _ _ hF.out.b1)
  obtain ⟨wv, rfl⟩ : ∃ wv : World, wv = ww := ⟨_, rfl⟩
  go_upto_region 12 with (go_at_call 53; refine (HNm.out _).mono ?_; rintro e ww ⟨rfl, hb1⟩; replace hF := Lib.hid (hF.out.stay hb1); clear hb1; have hci : ∀ o : Nat, ww.cell? ⟨w.heap.size, o, none⟩ = (#[Value.int .i64 i.op, .int .i64 i.d, .int .i64 i.s, .int .u16 i.imm, .int .u16 i.aux, .int .i64 i.bank, .int .i64 i.size] : Array Value)[o]? := fun o => cell_of_row _ _ o _ _ _ hF.out.b0; have hcp : ∀ o : Nat, ww.cell? ⟨w.heap.size + 1, o, none⟩ = (#[Value.int .i64 p.bank, .int .u16 p.addr] : Array Value)[o]? := fun o => cell_of_row _ _ o _ _ _ hF.out.b1)
  obtain ⟨wv, rfl⟩ : ∃ wv : World, wv = ww := ⟨_, rfl⟩
  rcases hfs with rfl | rfl | rfl | rfl | rfl
  · have hn : ¬ i.op.toNat = 145 := h145'.out.resolve_left (by decide)
    · go_wp2_with (first | (go_at_call 51; (with_reducible refine (HIm.out _).mono ?_); rintro e wz ⟨rfl, rfl⟩) | (go_at_call 51; (with_reducible refine (HAx.out _).mono ?_); rintro e wz ⟨rfl, rfl⟩) | (go_at_call 52; (with_reducible refine (HSi.out _).mono ?_); rintro e ww ⟨rfl, hb1⟩; replace hF := Lib.hid (hF.out.stay hb1); clear hb1; have hci : ∀ o : Nat, ww.cell? ⟨w.heap.size, o, none⟩ = (#[Value.int .i64 i.op, .int .i64 i.d, .int .i64 i.s, .int .u16 i.imm, .int .u16 i.aux, .int .i64 i.bank, .int .i64 i.size] : Array Value)[o]? := fun o => cell_of_row _ _ o _ _ _ hF.out.b0; have hcp : ∀ o : Nat, ww.cell? ⟨w.heap.size + 1, o, none⟩ = (#[Value.int .i64 p.bank, .int .u16 p.addr] : Array Value)[o]? := fun o => cell_of_row _ _ o _ _ _ hF.out.b1) | (go_at_call 52; (with_reducible refine (HSa.out _).mono ?_); rintro e ww ⟨rfl, hb1⟩; replace hF := Lib.hid (hF.out.stay hb1); clear hb1; have hci : ∀ o : Nat, ww.cell? ⟨w.heap.size, o, none⟩ = (#[Value.int .i64 i.op, .int .i64 i.d, .int .i64 i.s, .int .u16 i.imm, .int .u16 i.aux, .int .i64 i.bank, .int .i64 i.size] : Array Value)[o]? := fun o => cell_of_row _ _ o _ _ _ hF.out.b0; have hcp : ∀ o : Nat, ww.cell? ⟨w.heap.size + 1, o, none⟩ = (#[Value.int .i64 p.bank, .int .u16 p.addr] : Array Value)[o]? := fun o => cell_of_row _ _ o _ _ _ hF.out.b1) | fail)
      go_ret
      refine ⟨congrArg (fun x : ByteArray => Ending.returned (Value.string x)) ?_, hF.out.bb⟩
      rw [HLn.out]
      obtain ⟨rfl, rfl, rfl, rfl, rfl, rfl, rfl, rfl, rfl, rfl, rfl⟩ := E.out
      rw [if_neg hn]; (try simp only [show ∀ l : List UInt8, (⟨l.toArray⟩ : ByteArray) = strB l from fun _ => rfl, strB_app]); (first | rfl | (simp [opB, fCase, Lib.join, reg8, mem8, sgn8, List.append_assoc]; done))
  · by_cases h : i.op = 145
    · have hn : i.op.toNat = 145 := by omega
      go_wp2_with (first | (go_at_call 51; (with_reducible refine (HIm.out _).mono ?_); rintro e wz ⟨rfl, rfl⟩) | (go_at_call 51; (with_reducible refine (HAx.out _).mono ?_); rintro e wz ⟨rfl, rfl⟩) | (go_at_call 52; (with_reducible refine (HSi.out _).mono ?_); rintro e ww ⟨rfl, hb1⟩; replace hF := Lib.hid (hF.out.stay hb1); clear hb1; have hci : ∀ o : Nat, ww.cell? ⟨w.heap.size, o, none⟩ = (#[Value.int .i64 i.op, .int .i64 i.d, .int .i64 i.s, .int .u16 i.imm, .int .u16 i.aux, .int .i64 i.bank, .int .i64 i.size] : Array Value)[o]? := fun o => cell_of_row _ _ o _ _ _ hF.out.b0; have hcp : ∀ o : Nat, ww.cell? ⟨w.heap.size + 1, o, none⟩ = (#[Value.int .i64 p.bank, .int .u16 p.addr] : Array Value)[o]? := fun o => cell_of_row _ _ o _ _ _ hF.out.b1) | (go_at_call 52; (with_reducible refine (HSa.out _).mono ?_); rintro e ww ⟨rfl, hb1⟩; replace hF := Lib.hid (hF.out.stay hb1); clear hb1; have hci : ∀ o : Nat, ww.cell? ⟨w.heap.size, o, none⟩ = (#[Value.int .i64 i.op, .int .i64 i.d, .int .i64 i.s, .int .u16 i.imm, .int .u16 i.aux, .int .i64 i.bank, .int .i64 i.size] : Array Value)[o]? := fun o => cell_of_row _ _ o _ _ _ hF.out.b0; have hcp : ∀ o : Nat, ww.cell? ⟨w.heap.size + 1, o, none⟩ = (#[Value.int .i64 p.bank, .int .u16 p.addr] : Array Value)[o]? := fun o => cell_of_row _ _ o _ _ _ hF.out.b1) | fail)
      go_ret
      refine ⟨congrArg (fun x : ByteArray => Ending.returned (Value.string x)) ?_, hF.out.bb⟩
      rw [HLn.out]
      obtain ⟨rfl, rfl, rfl, rfl, rfl, rfl, rfl, rfl, rfl, rfl, rfl⟩ := E.out
      rw [if_pos hn]; (try simp only [show ∀ l : List UInt8, (⟨l.toArray⟩ : ByteArray) = strB l from fun _ => rfl, strB_app]); (first | rfl | (simp [opB, fCase, Lib.join, reg8, mem8, sgn8, List.append_assoc]; done))
    · have hn : ¬ i.op.toNat = 145 := by omega
      go_wp2_with (first | (go_at_call 51; (with_reducible refine (HIm.out _).mono ?_); rintro e wz ⟨rfl, rfl⟩) | (go_at_call 51; (with_reducible refine (HAx.out _).mono ?_); rintro e wz ⟨rfl, rfl⟩) | (go_at_call 52; (with_reducible refine (HSi.out _).mono ?_); rintro e ww ⟨rfl, hb1⟩; replace hF := Lib.hid (hF.out.stay hb1); clear hb1; have hci : ∀ o : Nat, ww.cell? ⟨w.heap.size, o, none⟩ = (#[Value.int .i64 i.op, .int .i64 i.d, .int .i64 i.s, .int .u16 i.imm, .int .u16 i.aux, .int .i64 i.bank, .int .i64 i.size] : Array Value)[o]? := fun o => cell_of_row _ _ o _ _ _ hF.out.b0; have hcp : ∀ o : Nat, ww.cell? ⟨w.heap.size + 1, o, none⟩ = (#[Value.int .i64 p.bank, .int .u16 p.addr] : Array Value)[o]? := fun o => cell_of_row _ _ o _ _ _ hF.out.b1) | (go_at_call 52; (with_reducible refine (HSa.out _).mono ?_); rintro e ww ⟨rfl, hb1⟩; replace hF := Lib.hid (hF.out.stay hb1); clear hb1; have hci : ∀ o : Nat, ww.cell? ⟨w.heap.size, o, none⟩ = (#[Value.int .i64 i.op, .int .i64 i.d, .int .i64 i.s, .int .u16 i.imm, .int .u16 i.aux, .int .i64 i.bank, .int .i64 i.size] : Array Value)[o]? := fun o => cell_of_row _ _ o _ _ _ hF.out.b0; have hcp : ∀ o : Nat, ww.cell? ⟨w.heap.size + 1, o, none⟩ = (#[Value.int .i64 p.bank, .int .u16 p.addr] : Array Value)[o]? := fun o => cell_of_row _ _ o _ _ _ hF.out.b1) | fail)
      go_ret
      refine ⟨congrArg (fun x : ByteArray => Ending.returned (Value.string x)) ?_, hF.out.bb⟩
      rw [HLn.out]
      obtain ⟨rfl, rfl, rfl, rfl, rfl, rfl, rfl, rfl, rfl, rfl, rfl⟩ := E.out
      rw [if_neg hn]; (try simp only [show ∀ l : List UInt8, (⟨l.toArray⟩ : ByteArray) = strB l from fun _ => rfl, strB_app]); (first | rfl | (simp [opB, fCase, Lib.join, reg8, mem8, sgn8, List.append_assoc]; done))
  · have hn : ¬ i.op.toNat = 145 := h145'.out.resolve_left (by decide)
    · go_wp2_with (first | (go_at_call 51; (with_reducible refine (HIm.out _).mono ?_); rintro e wz ⟨rfl, rfl⟩) | (go_at_call 51; (with_reducible refine (HAx.out _).mono ?_); rintro e wz ⟨rfl, rfl⟩) | (go_at_call 52; (with_reducible refine (HSi.out _).mono ?_); rintro e ww ⟨rfl, hb1⟩; replace hF := Lib.hid (hF.out.stay hb1); clear hb1; have hci : ∀ o : Nat, ww.cell? ⟨w.heap.size, o, none⟩ = (#[Value.int .i64 i.op, .int .i64 i.d, .int .i64 i.s, .int .u16 i.imm, .int .u16 i.aux, .int .i64 i.bank, .int .i64 i.size] : Array Value)[o]? := fun o => cell_of_row _ _ o _ _ _ hF.out.b0; have hcp : ∀ o : Nat, ww.cell? ⟨w.heap.size + 1, o, none⟩ = (#[Value.int .i64 p.bank, .int .u16 p.addr] : Array Value)[o]? := fun o => cell_of_row _ _ o _ _ _ hF.out.b1) | (go_at_call 52; (with_reducible refine (HSa.out _).mono ?_); rintro e ww ⟨rfl, hb1⟩; replace hF := Lib.hid (hF.out.stay hb1); clear hb1; have hci : ∀ o : Nat, ww.cell? ⟨w.heap.size, o, none⟩ = (#[Value.int .i64 i.op, .int .i64 i.d, .int .i64 i.s, .int .u16 i.imm, .int .u16 i.aux, .int .i64 i.bank, .int .i64 i.size] : Array Value)[o]? := fun o => cell_of_row _ _ o _ _ _ hF.out.b0; have hcp : ∀ o : Nat, ww.cell? ⟨w.heap.size + 1, o, none⟩ = (#[Value.int .i64 p.bank, .int .u16 p.addr] : Array Value)[o]? := fun o => cell_of_row _ _ o _ _ _ hF.out.b1) | fail)
      go_ret
      refine ⟨congrArg (fun x : ByteArray => Ending.returned (Value.string x)) ?_, hF.out.bb⟩
      rw [HLn.out]
      obtain ⟨rfl, rfl, rfl, rfl, rfl, rfl, rfl, rfl, rfl, rfl, rfl⟩ := E.out
      rw [if_neg hn]; (try simp only [show ∀ l : List UInt8, (⟨l.toArray⟩ : ByteArray) = strB l from fun _ => rfl, strB_app]); (first | rfl | (simp [opB, fCase, Lib.join, reg8, mem8, sgn8, List.append_assoc]; done))
  · have hn : ¬ i.op.toNat = 145 := h145'.out.resolve_left (by decide)
    · go_wp2_with (first | (go_at_call 51; (with_reducible refine (HIm.out _).mono ?_); rintro e wz ⟨rfl, rfl⟩) | (go_at_call 51; (with_reducible refine (HAx.out _).mono ?_); rintro e wz ⟨rfl, rfl⟩) | (go_at_call 52; (with_reducible refine (HSi.out _).mono ?_); rintro e ww ⟨rfl, hb1⟩; replace hF := Lib.hid (hF.out.stay hb1); clear hb1; have hci : ∀ o : Nat, ww.cell? ⟨w.heap.size, o, none⟩ = (#[Value.int .i64 i.op, .int .i64 i.d, .int .i64 i.s, .int .u16 i.imm, .int .u16 i.aux, .int .i64 i.bank, .int .i64 i.size] : Array Value)[o]? := fun o => cell_of_row _ _ o _ _ _ hF.out.b0; have hcp : ∀ o : Nat, ww.cell? ⟨w.heap.size + 1, o, none⟩ = (#[Value.int .i64 p.bank, .int .u16 p.addr] : Array Value)[o]? := fun o => cell_of_row _ _ o _ _ _ hF.out.b1) | (go_at_call 52; (with_reducible refine (HSa.out _).mono ?_); rintro e ww ⟨rfl, hb1⟩; replace hF := Lib.hid (hF.out.stay hb1); clear hb1; have hci : ∀ o : Nat, ww.cell? ⟨w.heap.size, o, none⟩ = (#[Value.int .i64 i.op, .int .i64 i.d, .int .i64 i.s, .int .u16 i.imm, .int .u16 i.aux, .int .i64 i.bank, .int .i64 i.size] : Array Value)[o]? := fun o => cell_of_row _ _ o _ _ _ hF.out.b0; have hcp : ∀ o : Nat, ww.cell? ⟨w.heap.size + 1, o, none⟩ = (#[Value.int .i64 p.bank, .int .u16 p.addr] : Array Value)[o]? := fun o => cell_of_row _ _ o _ _ _ hF.out.b1) | fail)
      go_ret
      refine ⟨congrArg (fun x : ByteArray => Ending.returned (Value.string x)) ?_, hF.out.bb⟩
      rw [HLn.out]
      obtain ⟨rfl, rfl, rfl, rfl, rfl, rfl, rfl, rfl, rfl, rfl, rfl⟩ := E.out
      rw [if_neg hn]; (try simp only [show ∀ l : List UInt8, (⟨l.toArray⟩ : ByteArray) = strB l from fun _ => rfl, strB_app]); (first | rfl | (simp [opB, fCase, Lib.join, reg8, mem8, sgn8, List.append_assoc]; done))
  · have hn : ¬ i.op.toNat = 145 := h145'.out.resolve_left (by decide)
    · go_wp2_with (first | (go_at_call 51; (with_reducible refine (HIm.out _).mono ?_); rintro e wz ⟨rfl, rfl⟩) | (go_at_call 51; (with_reducible refine (HAx.out _).mono ?_); rintro e wz ⟨rfl, rfl⟩) | (go_at_call 52; (with_reducible refine (HSi.out _).mono ?_); rintro e ww ⟨rfl, hb1⟩; replace hF := Lib.hid (hF.out.stay hb1); clear hb1; have hci : ∀ o : Nat, ww.cell? ⟨w.heap.size, o, none⟩ = (#[Value.int .i64 i.op, .int .i64 i.d, .int .i64 i.s, .int .u16 i.imm, .int .u16 i.aux, .int .i64 i.bank, .int .i64 i.size] : Array Value)[o]? := fun o => cell_of_row _ _ o _ _ _ hF.out.b0; have hcp : ∀ o : Nat, ww.cell? ⟨w.heap.size + 1, o, none⟩ = (#[Value.int .i64 p.bank, .int .u16 p.addr] : Array Value)[o]? := fun o => cell_of_row _ _ o _ _ _ hF.out.b1) | (go_at_call 52; (with_reducible refine (HSa.out _).mono ?_); rintro e ww ⟨rfl, hb1⟩; replace hF := Lib.hid (hF.out.stay hb1); clear hb1; have hci : ∀ o : Nat, ww.cell? ⟨w.heap.size, o, none⟩ = (#[Value.int .i64 i.op, .int .i64 i.d, .int .i64 i.s, .int .u16 i.imm, .int .u16 i.aux, .int .i64 i.bank, .int .i64 i.size] : Array Value)[o]? := fun o => cell_of_row _ _ o _ _ _ hF.out.b0; have hcp : ∀ o : Nat, ww.cell? ⟨w.heap.size + 1, o, none⟩ = (#[Value.int .i64 p.bank, .int .u16 p.addr] : Array Value)[o]? := fun o => cell_of_row _ _ o _ _ _ hF.out.b1) | fail)
      go_ret
      refine ⟨congrArg (fun x : ByteArray => Ending.returned (Value.string x)) ?_, hF.out.bb⟩
      rw [HLn.out]
      obtain ⟨rfl, rfl, rfl, rfl, rfl, rfl, rfl, rfl, rfl, rfl, rfl⟩ := E.out
      rw [if_neg hn]; (try simp only [show ∀ l : List UInt8, (⟨l.toArray⟩ : ByteArray) = strB l from fun _ => rfl, strB_app]); (first | rfl | (simp [opB, fCase, Lib.join, reg8, mem8, sgn8, List.append_assoc]; done))

theorem rline_any (i : Ins) (hi : i.Ok) (p : Place) (p0 : 0 ≤ p.addr) (p1 : p.addr < 65536) (w : World) :
    Calls Tryd.prog 28 #[.agg #[.int .i64 (i).op, .int .i64 (i).d, .int .i64 (i).s, .int .u16 (i).imm, .int .u16 (i).aux, .int .i64 (i).bank, .int .i64 (i).size], .agg #[.int .i64 p.bank, .int .u16 p.addr]] w fun e w' => e = .returned (.string ⟨(lineS i p).toArray⟩) ∧ Below w.heap.size w w' := by
  by_cases hv : validS i = true
  · have hb := fmtS_bd i.op
    have h0 : fmtS i.op ≠ 0 := by
      rw [valid_eq i hi] at hv
      simp only [rvalidS, Bool.and_eq_true, Bool.not_eq_true', beq_eq_false_iff_ne, ne_eq] at hv
      exact hv.1.1
    have hc : (fmtS i.op = 1 ∨ fmtS i.op = 2 ∨ fmtS i.op = 3 ∨ fmtS i.op = 4) ∨ (fmtS i.op = 5 ∨ fmtS i.op = 6 ∨ fmtS i.op = 7 ∨ fmtS i.op = 8 ∨ fmtS i.op = 9) ∨ (fmtS i.op = 10 ∨ fmtS i.op = 11 ∨ fmtS i.op = 12 ∨ fmtS i.op = 13) ∨ (fmtS i.op = 14 ∨ fmtS i.op = 15 ∨ fmtS i.op = 16 ∨ fmtS i.op = 17 ∨ fmtS i.op = 18) := by omega
    rcases hc with h | h | h | h
    · exact rline_ok0 i hi p p0 p1 hv _ rfl h w
    · exact rline_ok1 i hi p p0 p1 hv _ rfl h w
    · exact rline_ok2 i hi p p0 p1 hv _ rfl h w
    · exact rline_ok3 i hi p p0 p1 hv _ rfl h w
  · exact rline_bad i hi p (by simpa using hv) w

end Go.Proofs.YtakahmhbopakmaaDoor
