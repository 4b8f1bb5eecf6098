/- Two valid instructions of the same place have the same text only if they are equal: the cases by format, and the law. -/
import Derived.Test.YtakahmhbopakmaaDoorApartA
set_option linter.all false
namespace Go.Proofs.YtakahmhbopakmaaDoor
open Go.RowKit

theorem ins_ext (i j : Ins) (h1 : i.op = j.op) (h2 : i.d = j.d) (h3 : i.s = j.s) (h4 : i.imm = j.imm) (h5 : i.aux = j.aux) (h6 : i.bank = j.bank) (h7 : i.size = j.size) : i = j := by
  cases i; cases j; simp_all
theorem tgt_inj (i j : Ins) (p : Place) (hs : i.size = j.size) (a0 : 0 ≤ i.imm) (a1 : i.imm < 65536) (b0 : 0 ≤ j.imm) (b1 : j.imm < 65536) (h : tgt i p = tgt j p) : i.imm = j.imm := by
  unfold tgt at h; omega
theorem colon_inj {a b : Int} {x y : List UInt8} (h : Lib.itoa a ++ [58] ++ x = Lib.itoa b ++ [58] ++ y) : a = b ∧ x = y := by
  rw [List.append_assoc, List.append_assoc] at h
  obtain ⟨h1, h2⟩ := split_at (c := 58) (itoa_no a 58 (by decide)) (itoa_no b 58 (by decide)) (by simpa using h)
  exact ⟨itoa_inj h1, h2⟩
theorem rom_inj {a b s t u v : Int} (h0 : 0 ≤ u) (h1 : u < 65536) (g0 : 0 ≤ v) (g1 : v < 65536) (h : Lib.itoa a ++ [58, 91] ++ reg8 s ++ [43] ++ addr8 u ++ [93] = Lib.itoa b ++ [58, 91] ++ reg8 t ++ [43] ++ addr8 v ++ [93]) : a = b ∧ s = t ∧ u = v := by
  have h' : Lib.itoa a ++ 58 :: (91 :: (reg8 s ++ 43 :: (addr8 u ++ [93]))) = Lib.itoa b ++ 58 :: (91 :: (reg8 t ++ 43 :: (addr8 v ++ [93]))) := by simpa using h
  obtain ⟨e1, e2⟩ := split_at (c := 58) (itoa_no a 58 (by decide)) (itoa_no b 58 (by decide)) h'
  obtain ⟨e3, e4⟩ := split_at (c := 43) (reg8_no s 43 (by decide) (by decide)) (reg8_no t 43 (by decide) (by decide)) (List.cons.inj e2).2
  exact ⟨itoa_inj e1, reg8_inj e3, addr8_inj h0 h1 g0 g1 (List.append_cancel_right e4)⟩
theorem box_inj {u v : Int} (h0 : 0 ≤ u) (h1 : u < 65536) (g0 : 0 ≤ v) (g1 : v < 65536) (h : [91] ++ addr8 u ++ [93] = [91] ++ addr8 v ++ [93]) : u = v := by
  have h2 := List.append_cancel_right h
  exact addr8_inj h0 h1 g0 g1 (List.cons.inj h2).2
/-- No operand holds a comma. -/
theorem opB_no (c : Nat) (i : Ins) (hi : i.Ok) (p : Place) (s0 : 0 ≤ i.s) (s1 : i.s < 8 ∨ c ≠ 6 ∧ c ≠ 13) : ∀ x ∈ opB c i p, (44 : UInt8) ∉ x := by
  have hr : ∀ n, (44 : UInt8) ∉ reg8 n := fun n => reg8_no n 44 (by decide) (by decide)
  have hn : ∀ n, (44 : UInt8) ∉ Lib.itoa n := fun n => itoa_no n 44 (by decide)
  have ha : ∀ u, 0 ≤ u → u < 65536 → (44 : UInt8) ∉ addr8 u := fun u a b => addr8_no u a b 44 (by decide)
  have h1 := hi.imm
  have h2 := hi.aux
  have t0 := tgt_lo i p
  have t1 := tgt_hi i p
  have hm : c = 6 ∨ c = 13 → (44 : UInt8) ∉ mem8 i.s i.imm := fun hc => mem8_no _ _ s0 (by omega)
  unfold opB
  split <;> simp [hr, hn, ha _ h1.1 h1.2, ha _ h2.1 h2.2, ha _ t0 t1, hm]
theorem head_op_all : ((List.range 164).all fun n => (List.range 164).all fun m => fmtS n == 0 || fmtS m == 0 || n == m || (nameD n ++ suf8 n != nameD m ++ suf8 m)) = true := by decide +kernel
theorem head_op (n : Nat) (hn : n < 164) (m : Nat) (hm : m < 164) (h1 : fmtS n ≠ 0) (h2 : fmtS m ≠ 0) (h : nameD n ++ suf8 n = nameD m ++ suf8 m) : n = m := by
  have := List.all_eq_true.1 (List.all_eq_true.1 head_op_all n (List.mem_range.2 hn)) m (List.mem_range.2 hm)
  simp only [Bool.or_eq_true, beq_iff_eq, bne_iff_ne, ne_eq, h, not_true_eq_false, or_false] at this
  rcases this with (h3 | h3) | h3
  · exact absurd h3 h1
  · exact absurd h3 h2
  · exact h3
theorem head_no : ∀ n : Nat, n < 164 → (32 : UInt8) ∉ nameD n ++ suf8 n := by decide +kernel
theorem head_ne : ∀ n : Nat, n < 164 → fmtS n ≠ 0 → nameD n ++ suf8 n ≠ [] := by decide +kernel
theorem apart_1 (i j : Ins) (hi : i.Ok) (hj : j.Ok) (p : Place) (hbi : rvBody 1 i = true) (hbj : rvBody 1 j = true) (hop : i.op = j.op) (hsz : i.size = j.size) (h : opB 0 i p = opB 0 j p) : i = j := by
  have ai := hi.imm
  have aj := hj.imm
  have xi := hi.aux
  have xj := hj.aux
  simp [rvBody, regB, sgnB] at hbi hbj
  exact ins_ext i j hop (by omega) (by omega) (by omega) (by omega) (by omega) hsz
theorem apart_2 (i j : Ins) (hi : i.Ok) (hj : j.Ok) (p : Place) (hbi : rvBody 2 i = true) (hbj : rvBody 2 j = true) (hop : i.op = j.op) (hsz : i.size = j.size) (h : opB 1 i p = opB 1 j p) : i = j := by
  have ai := hi.imm
  have aj := hj.imm
  have xi := hi.aux
  have xj := hj.aux
  simp [rvBody, regB, sgnB] at hbi hbj
  simp only [opB, List.cons.injEq, and_true] at h
  have e0 := h
  have hd := reg8_inj e0
  exact ins_ext i j hop hd (by omega) (by omega) (by omega) (by omega) hsz
theorem apart_3 (i j : Ins) (hi : i.Ok) (hj : j.Ok) (p : Place) (hbi : rvBody 3 i = true) (hbj : rvBody 3 j = true) (hop : i.op = j.op) (hsz : i.size = j.size) (h : opB 2 i p = opB 2 j p) : i = j := by
  have ai := hi.imm
  have aj := hj.imm
  have xi := hi.aux
  have xj := hj.aux
  simp [rvBody, regB, sgnB] at hbi hbj
  simp only [opB, List.cons.injEq, and_true] at h
  have e0 := h
  have hm := itoa_inj e0
  exact ins_ext i j hop (by omega) (by omega) hm (by omega) (by omega) hsz
theorem apart_4 (i j : Ins) (hi : i.Ok) (hj : j.Ok) (p : Place) (hbi : rvBody 4 i = true) (hbj : rvBody 4 j = true) (hop : i.op = j.op) (hsz : i.size = j.size) (h : opB 3 i p = opB 3 j p) : i = j := by
  have ai := hi.imm
  have aj := hj.imm
  have xi := hi.aux
  have xj := hj.aux
  simp [rvBody, regB, sgnB] at hbi hbj
  simp only [opB, List.cons.injEq, and_true] at h
  obtain ⟨e0, e1⟩ := h
  have hd := reg8_inj e0
  have hs' := reg8_inj e1
  exact ins_ext i j hop hd hs' (by omega) (by omega) (by omega) hsz
theorem apart_5 (i j : Ins) (hi : i.Ok) (hj : j.Ok) (p : Place) (hbi : rvBody 5 i = true) (hbj : rvBody 5 j = true) (hop : i.op = j.op) (hsz : i.size = j.size) (h : opB 4 i p = opB 4 j p) : i = j := by
  have ai := hi.imm
  have aj := hj.imm
  have xi := hi.aux
  have xj := hj.aux
  simp [rvBody, regB, sgnB] at hbi hbj
  simp only [opB, List.cons.injEq, and_true] at h
  obtain ⟨e0, e1⟩ := h
  have hd := reg8_inj e0
  have hm := sgnI_inj ai.1 ai.2 aj.1 aj.2 (itoa_inj e1)
  exact ins_ext i j hop hd (by omega) hm (by omega) (by omega) hsz
theorem apart_6 (i j : Ins) (hi : i.Ok) (hj : j.Ok) (p : Place) (hbi : rvBody 6 i = true) (hbj : rvBody 6 j = true) (hop : i.op = j.op) (hsz : i.size = j.size) (h : opB 4 i p = opB 4 j p) : i = j := by
  have ai := hi.imm
  have aj := hj.imm
  have xi := hi.aux
  have xj := hj.aux
  simp [rvBody, regB, sgnB] at hbi hbj
  simp only [opB, List.cons.injEq, and_true] at h
  obtain ⟨e0, e1⟩ := h
  have hd := reg8_inj e0
  have hm := sgnI_inj ai.1 ai.2 aj.1 aj.2 (itoa_inj e1)
  exact ins_ext i j hop hd (by omega) hm (by omega) (by omega) hsz
theorem apart_7 (i j : Ins) (hi : i.Ok) (hj : j.Ok) (p : Place) (hbi : rvBody 7 i = true) (hbj : rvBody 7 j = true) (hop : i.op = j.op) (hsz : i.size = j.size) (h : opB 6 i p = opB 6 j p) : i = j := by
  have ai := hi.imm
  have aj := hj.imm
  have xi := hi.aux
  have xj := hj.aux
  simp [rvBody, regB, sgnB] at hbi hbj
  simp only [opB, List.cons.injEq, and_true] at h
  obtain ⟨e0, e1⟩ := h
  have hd := reg8_inj e0
  obtain ⟨hs', hm⟩ := mem8_inj (by omega) (by omega) (by omega) (by omega) ai.1 ai.2 aj.1 aj.2 e1
  exact ins_ext i j hop hd hs' hm (by omega) (by omega) hsz
theorem apart_8 (i j : Ins) (hi : i.Ok) (hj : j.Ok) (p : Place) (hbi : rvBody 8 i = true) (hbj : rvBody 8 j = true) (hop : i.op = j.op) (hsz : i.size = j.size) (h : opB 6 i p = opB 6 j p) : i = j := by
  have ai := hi.imm
  have aj := hj.imm
  have xi := hi.aux
  have xj := hj.aux
  simp [rvBody, regB, sgnB] at hbi hbj
  simp only [opB, List.cons.injEq, and_true] at h
  obtain ⟨e0, e1⟩ := h
  have hd := reg8_inj e0
  obtain ⟨hs', hm⟩ := mem8_inj (by omega) (by omega) (by omega) (by omega) ai.1 ai.2 aj.1 aj.2 e1
  exact ins_ext i j hop hd hs' hm (by omega) (by omega) hsz
theorem apart_9 (i j : Ins) (hi : i.Ok) (hj : j.Ok) (p : Place) (hbi : rvBody 9 i = true) (hbj : rvBody 9 j = true) (hop : i.op = j.op) (hsz : i.size = j.size) (h : opB 5 i p = opB 5 j p) : i = j := by
  have ai := hi.imm
  have aj := hj.imm
  have xi := hi.aux
  have xj := hj.aux
  simp [rvBody, regB, sgnB] at hbi hbj
  simp only [opB, List.cons.injEq, and_true] at h
  obtain ⟨e0, e1⟩ := h
  have hd := reg8_inj e0
  have hm := box_inj ai.1 ai.2 aj.1 aj.2 e1
  exact ins_ext i j hop hd (by omega) hm (by omega) (by omega) hsz
theorem apart_10 (i j : Ins) (hi : i.Ok) (hj : j.Ok) (p : Place) (hbi : rvBody 10 i = true) (hbj : rvBody 10 j = true) (hop : i.op = j.op) (hsz : i.size = j.size) (h : opB 7 i p = opB 7 j p) : i = j := by
  have ai := hi.imm
  have aj := hj.imm
  have xi := hi.aux
  have xj := hj.aux
  simp [rvBody, regB, sgnB] at hbi hbj
  simp only [opB, List.cons.injEq, and_true] at h
  have e0 := h
  have hm := tgt_inj i j p hsz ai.1 ai.2 aj.1 aj.2 (addr8_inj (tgt_lo i p) (tgt_hi i p) (tgt_lo j p) (tgt_hi j p) e0)
  exact ins_ext i j hop (by omega) (by omega) hm (by omega) (by omega) hsz
theorem apart_11 (i j : Ins) (hi : i.Ok) (hj : j.Ok) (p : Place) (hbi : rvBody 11 i = true) (hbj : rvBody 11 j = true) (hop : i.op = j.op) (hsz : i.size = j.size) (h : opB 7 i p = opB 7 j p) : i = j := by
  have ai := hi.imm
  have aj := hj.imm
  have xi := hi.aux
  have xj := hj.aux
  simp [rvBody, regB, sgnB] at hbi hbj
  simp only [opB, List.cons.injEq, and_true] at h
  have e0 := h
  have hm := tgt_inj i j p hsz ai.1 ai.2 aj.1 aj.2 (addr8_inj (tgt_lo i p) (tgt_hi i p) (tgt_lo j p) (tgt_hi j p) e0)
  exact ins_ext i j hop (by omega) (by omega) hm (by omega) (by omega) hsz
theorem apart_12 (i j : Ins) (hi : i.Ok) (hj : j.Ok) (p : Place) (hbi : rvBody 12 i = true) (hbj : rvBody 12 j = true) (hop : i.op = j.op) (hsz : i.size = j.size) (h : opB 8 i p = opB 8 j p) : i = j := by
  have ai := hi.imm
  have aj := hj.imm
  have xi := hi.aux
  have xj := hj.aux
  simp [rvBody, regB, sgnB] at hbi hbj
  simp only [opB, List.cons.injEq, and_true] at h
  have e0 := h
  obtain ⟨hb, e9⟩ := colon_inj e0
  have hm := addr8_inj ai.1 ai.2 aj.1 aj.2 e9
  exact ins_ext i j hop (by omega) (by omega) hm (by omega) hb hsz
theorem apart_13 (i j : Ins) (hi : i.Ok) (hj : j.Ok) (p : Place) (hbi : rvBody 13 i = true) (hbj : rvBody 13 j = true) (hop : i.op = j.op) (hsz : i.size = j.size) (h : opB 9 i p = opB 9 j p) : i = j := by
  have ai := hi.imm
  have aj := hj.imm
  have xi := hi.aux
  have xj := hj.aux
  simp [rvBody, regB, sgnB] at hbi hbj
  simp only [opB, List.cons.injEq, and_true] at h
  obtain ⟨e0, e1, e2, e3⟩ := h
  have hd := reg8_inj e0
  have hb := itoa_inj e1
  have hm := tgt_inj i j p hsz ai.1 ai.2 aj.1 aj.2 (addr8_inj (tgt_lo i p) (tgt_hi i p) (tgt_lo j p) (tgt_hi j p) e2)
  have hx := addr8_inj xi.1 xi.2 xj.1 xj.2 e3
  exact ins_ext i j hop hd (by omega) hm hx hb hsz
theorem apart_14 (i j : Ins) (hi : i.Ok) (hj : j.Ok) (p : Place) (hbi : rvBody 14 i = true) (hbj : rvBody 14 j = true) (hop : i.op = j.op) (hsz : i.size = j.size) (h : opB 10 i p = opB 10 j p) : i = j := by
  have ai := hi.imm
  have aj := hj.imm
  have xi := hi.aux
  have xj := hj.aux
  simp [rvBody, regB, sgnB] at hbi hbj
  simp only [opB, List.cons.injEq, and_true] at h
  obtain ⟨e0, e1⟩ := h
  have hd := reg8_inj e0
  have hm := addr8_inj ai.1 ai.2 aj.1 aj.2 e1
  exact ins_ext i j hop hd (by omega) hm (by omega) (by omega) hsz
theorem apart_15 (i j : Ins) (hi : i.Ok) (hj : j.Ok) (p : Place) (hbi : rvBody 15 i = true) (hbj : rvBody 15 j = true) (hop : i.op = j.op) (hsz : i.size = j.size) (h : opB 15 i p = opB 15 j p) : i = j := by
  have ai := hi.imm
  have aj := hj.imm
  have xi := hi.aux
  have xj := hj.aux
  simp [rvBody, regB, sgnB] at hbi hbj
  simp only [opB, List.cons.injEq, and_true] at h
  obtain ⟨e0, e1⟩ := h
  have hd := reg8_inj e0
  have hm := itoa_inj e1
  exact ins_ext i j hop hd (by omega) hm (by omega) (by omega) hsz
theorem apart_15b (i j : Ins) (hi : i.Ok) (hj : j.Ok) (p : Place) (hbi : rvBody 15 i = true) (hbj : rvBody 15 j = true) (hop : i.op = j.op) (hsz : i.size = j.size) (h : opB 11 i p = opB 11 j p) : i = j := by
  have ai := hi.imm
  have aj := hj.imm
  have xi := hi.aux
  have xj := hj.aux
  simp [rvBody, regB, sgnB] at hbi hbj
  simp only [opB, List.cons.injEq, and_true] at h
  obtain ⟨e0, e1⟩ := h
  have hm := itoa_inj e0
  have hd := reg8_inj e1
  exact ins_ext i j hop hd (by omega) hm (by omega) (by omega) hsz
theorem apart_16 (i j : Ins) (hi : i.Ok) (hj : j.Ok) (p : Place) (hbi : rvBody 16 i = true) (hbj : rvBody 16 j = true) (hop : i.op = j.op) (hsz : i.size = j.size) (h : opB 12 i p = opB 12 j p) : i = j := by
  have ai := hi.imm
  have aj := hj.imm
  have xi := hi.aux
  have xj := hj.aux
  simp [rvBody, regB, sgnB] at hbi hbj
  simp only [opB, List.cons.injEq, and_true] at h
  obtain ⟨e0, e1⟩ := h
  have hd := reg8_inj e0
  obtain ⟨hb, hs', hm⟩ := rom_inj ai.1 ai.2 aj.1 aj.2 e1
  exact ins_ext i j hop hd hs' hm (by omega) hb hsz
theorem apart_17 (i j : Ins) (hi : i.Ok) (hj : j.Ok) (p : Place) (hbi : rvBody 17 i = true) (hbj : rvBody 17 j = true) (hop : i.op = j.op) (hsz : i.size = j.size) (h : opB 13 i p = opB 13 j p) : i = j := by
  have ai := hi.imm
  have aj := hj.imm
  have xi := hi.aux
  have xj := hj.aux
  simp [rvBody, regB, sgnB] at hbi hbj
  simp only [opB, List.cons.injEq, and_true] at h
  obtain ⟨e0, e1⟩ := h
  obtain ⟨hs', hm⟩ := mem8_inj (by omega) (by omega) (by omega) (by omega) ai.1 ai.2 aj.1 aj.2 e0
  have hx := sgnI_inj xi.1 xi.2 xj.1 xj.2 (itoa_inj e1)
  exact ins_ext i j hop (by omega) hs' hm hx (by omega) hsz
theorem apart_18 (i j : Ins) (hi : i.Ok) (hj : j.Ok) (p : Place) (hbi : rvBody 18 i = true) (hbj : rvBody 18 j = true) (hop : i.op = j.op) (hsz : i.size = j.size) (h : opB 14 i p = opB 14 j p) : i = j := by
  have ai := hi.imm
  have aj := hj.imm
  have xi := hi.aux
  have xj := hj.aux
  simp [rvBody, regB, sgnB] at hbi hbj
  simp only [opB, List.cons.injEq, and_true] at h
  obtain ⟨e0, e1⟩ := h
  have hd := reg8_inj e0
  have hm := sgnI_inj ai.1 ai.2 aj.1 aj.2 (itoa_inj e1)
  exact ins_ext i j hop hd (by omega) hm (by omega) (by omega) hsz

theorem lineS_ne (i : Ins) (hi : i.Ok) (hv : validS i = true) (p : Place) : lineS i p ≠ [] := by
  have hop := valid_op hv
  have hr : rvalidS i = true := by rw [← valid_eq i hi]; exact hv
  simp only [rvalidS, Bool.and_eq_true, Bool.not_eq_true', beq_eq_false_iff_ne, ne_eq] at hr
  have h := head_ne i.op.toNat (by omega) (by rw [show (i.op.toNat : Int) = i.op by omega]; exact hr.1.1)
  rw [show (i.op.toNat : Int) = i.op by omega] at h
  unfold lineS
  rw [if_pos hv]
  split
  · exact h
  · intro e
    have := congrArg List.length e
    simp at this
theorem lineS_inj (i j : Ins) (hi : i.Ok) (hj : j.Ok) (hv : validS i = true) (hu : validS j = true) (p : Place) (h : lineS i p = lineS j p) : i = j := by
  have oi := valid_op hv
  have oj := valid_op hu
  have ri : rvalidS i = true := by rw [← valid_eq i hi]; exact hv
  have rj : rvalidS j = true := by rw [← valid_eq j hj]; exact hu
  simp only [rvalidS, Bool.and_eq_true, Bool.not_eq_true', beq_eq_false_iff_ne, ne_eq, beq_iff_eq] at ri rj
  obtain ⟨⟨fi, si⟩, bi⟩ := ri
  obtain ⟨⟨fj, sj⟩, bj⟩ := rj
  have ni := head_no i.op.toNat (by omega)
  have nj := head_no j.op.toNat (by omega)
  have hin := head_op i.op.toNat (by omega) j.op.toNat (by omega)
  rw [show (i.op.toNat : Int) = i.op by omega] at ni hin
  rw [show (j.op.toNat : Int) = j.op by omega] at nj hin
  have hop' : nameD i.op ++ suf8 i.op = nameD j.op ++ suf8 j.op → i.op = j.op := fun e => by have := hin fi fj e; omega
  have si7 := valid_size_bd hi hv
  unfold lineS at h
  rw [if_pos hv, if_pos hu, opS_eq, opS_eq] at h
  have hdone : nameD i.op ++ suf8 i.op = nameD j.op ++ suf8 j.op → (i.op = j.op → Lib.join (opB (opC i.op) i p) [44, 32] = Lib.join (opB (opC j.op) j p) [44, 32]) → i = j := fun hh hjn => by
    have hop := hop' hh
    have hjn := hjn hop
    have hsz : i.size = j.size := by rw [si, sj, hop]
    have hcl := fmt_case i.op.toNat (by omega) (by rw [show (i.op.toNat : Int) = i.op by omega]; exact fi)
    rw [show (i.op.toNat : Int) = i.op by omega] at hcl
    obtain ⟨hc, -, h145⟩ := hcl
    rw [← hop] at hjn bj
    have hlen : (opB (opC i.op) i p).length = (opB (opC i.op) j p).length := by unfold opB; split <;> rfl
    have fb := fmtS_bd i.op
    have hsi : 0 ≤ i.s ∧ (i.s < 8) := by
      have hfs : fmtS i.op = 1 ∨ fmtS i.op = 2 ∨ fmtS i.op = 3 ∨ fmtS i.op = 4 ∨ fmtS i.op = 5 ∨ fmtS i.op = 6 ∨ fmtS i.op = 7 ∨ fmtS i.op = 8 ∨ fmtS i.op = 9 ∨ fmtS i.op = 10 ∨ fmtS i.op = 11 ∨ fmtS i.op = 12 ∨ fmtS i.op = 13 ∨ fmtS i.op = 14 ∨ fmtS i.op = 15 ∨ fmtS i.op = 16 ∨ fmtS i.op = 17 ∨ fmtS i.op = 18 := by omega
      rcases hfs with e | e | e | e | e | e | e | e | e | e | e | e | e | e | e | e | e | e <;> rw [e] at bi <;> simp [rvBody, regB] at bi <;> omega
    have hsj : 0 ≤ j.s ∧ (j.s < 8) := by
      have hfs : fmtS i.op = 1 ∨ fmtS i.op = 2 ∨ fmtS i.op = 3 ∨ fmtS i.op = 4 ∨ fmtS i.op = 5 ∨ fmtS i.op = 6 ∨ fmtS i.op = 7 ∨ fmtS i.op = 8 ∨ fmtS i.op = 9 ∨ fmtS i.op = 10 ∨ fmtS i.op = 11 ∨ fmtS i.op = 12 ∨ fmtS i.op = 13 ∨ fmtS i.op = 14 ∨ fmtS i.op = 15 ∨ fmtS i.op = 16 ∨ fmtS i.op = 17 ∨ fmtS i.op = 18 := by omega
      rcases hfs with e | e | e | e | e | e | e | e | e | e | e | e | e | e | e | e | e | e <;> rw [e] at bj <;> simp [rvBody, regB] at bj <;> omega
    have hl := join_inj _ _ hlen (opB_no _ i hi p hsi.1 (.inl hsi.2)) (opB_no _ j hj p hsj.1 (.inl hsj.2)) hjn
    rw [hc] at hl
    have hfs : fmtS i.op = 1 ∨ fmtS i.op = 2 ∨ fmtS i.op = 3 ∨ fmtS i.op = 4 ∨ fmtS i.op = 5 ∨ fmtS i.op = 6 ∨ fmtS i.op = 7 ∨ fmtS i.op = 8 ∨ fmtS i.op = 9 ∨ fmtS i.op = 10 ∨ fmtS i.op = 11 ∨ fmtS i.op = 12 ∨ fmtS i.op = 13 ∨ fmtS i.op = 14 ∨ fmtS i.op = 15 ∨ fmtS i.op = 16 ∨ fmtS i.op = 17 ∨ fmtS i.op = 18 := by omega
    by_cases h1 : i.op.toNat = 145
    · have e := h145.resolve_right (by omega)
      rw [if_pos h1] at hl
      rw [e] at bi bj
      exact apart_15b i j hi hj p bi bj hop hsz hl
    · rw [if_neg h1] at hl
      rcases hfs with e | e | e | e | e | e | e | e | e | e | e | e | e | e | e | e | e | e <;> rw [e] at bi bj hl
      · exact apart_1 i j hi hj p bi bj hop hsz hl
      · exact apart_2 i j hi hj p bi bj hop hsz hl
      · exact apart_3 i j hi hj p bi bj hop hsz hl
      · exact apart_4 i j hi hj p bi bj hop hsz hl
      · exact apart_5 i j hi hj p bi bj hop hsz hl
      · exact apart_6 i j hi hj p bi bj hop hsz hl
      · exact apart_7 i j hi hj p bi bj hop hsz hl
      · exact apart_8 i j hi hj p bi bj hop hsz hl
      · exact apart_9 i j hi hj p bi bj hop hsz hl
      · exact apart_10 i j hi hj p bi bj hop hsz hl
      · exact apart_11 i j hi hj p bi bj hop hsz hl
      · exact apart_12 i j hi hj p bi bj hop hsz hl
      · exact apart_13 i j hi hj p bi bj hop hsz hl
      · exact apart_14 i j hi hj p bi bj hop hsz hl
      · exact apart_15 i j hi hj p bi bj hop hsz hl
      · exact apart_16 i j hi hj p bi bj hop hsz hl
      · exact apart_17 i j hi hj p bi bj hop hsz hl
      · exact apart_18 i j hi hj p bi bj hop hsz hl
  by_cases h1 : opB (opC i.op) i p = [] <;> by_cases h2 : opB (opC j.op) j p = []
  · rw [if_pos h1, if_pos h2] at h
    exact hdone h fun _ => by rw [h1, h2]
  · rw [if_pos h1, if_neg h2] at h
    exact (no_split (c := 32) ni (h.trans (List.append_assoc _ [32] _))).elim
  · rw [if_neg h1, if_pos h2] at h
    exact (no_split (c := 32) nj (h.symm.trans (List.append_assoc _ [32] _))).elim
  · rw [if_neg h1, if_neg h2] at h
    obtain ⟨e1, e2⟩ := split_at (c := 32) ni nj (by simpa using h)
    exact hdone e1 fun _ => e2
end Go.Proofs.YtakahmhbopakmaaDoor
