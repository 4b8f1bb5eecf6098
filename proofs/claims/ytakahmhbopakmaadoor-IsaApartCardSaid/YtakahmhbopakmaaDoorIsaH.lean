/- Encode of package isa, walked. Condition: the fields lie in their types' ranges. -/
import Derived.Test.YtakahmhbopakmaaDoorIsaG
set_option linter.all false
namespace Go.Proofs.YtakahmhbopakmaaDoor
open Go.RowKit

theorem valid_any (i : Ins) (hi : i.Ok) (w : World) :
    Calls Tryd.prog 20 #[.agg #[.int .i64 (i).op, .int .i64 (i).d, .int .i64 (i).s, .int .u16 (i).imm, .int .u16 (i).aux, .int .i64 (i).bank, .int .i64 (i).size]] w fun e w' => e = .returned (.bool (validS i)) ∧ Below w.heap.size w w' := by
  cases hf : fOf i.op with
  | none =>
    have : validS i = false := by unfold validS; rw [hf]; rfl
    rw [this]; exact valid_none i hf w
  | some k => exact valid_some i hi k hf w
theorem fitAll_true {i : Ins} {F : Nat → Int} {m : Nat} (h : fitAll i F m = true) : ∀ j, j < m → fitsS (F j) i = true := by
  intro j hj
  cases hf : fitsS (F j) i with
  | true => rfl
  | false => rw [fitAll_false i F j m hj hf] at h; cases h
theorem validS_parts {i : Ins} (h : validS i = true) : (∃ k, fOf i.op = some k) ∧ fitAll i (fldF i.op) 4 = true ∧ readL (bytesTo i (fldF i.op) 4) (fldF i.op) = i := by
  unfold validS at h
  simp only [Bool.and_eq_true, decide_eq_true_eq] at h
  obtain ⟨⟨h1, h2⟩, h3⟩ := h
  exact ⟨Option.isSome_iff_exists.1 h1, h2, h3⟩

def encB (i : Ins) : List Int := if (fOf i.op).isSome && validS i then bytesTo i (fldF i.op) 4 else []
def encE (i : Ins) : Int := if (fOf i.op).isSome then (if validS i then 0 else 3) else 11

set_option maxRecDepth 100000 in
set_option maxHeartbeats 1000000 in
theorem encode_none (i : Ins) (hf : fOf i.op = none) (w : World) :
    Calls Tryd.prog 18 #[.agg #[.int .i64 (i).op, .int .i64 (i).d, .int .i64 (i).s, .int .u16 (i).imm, .int .u16 (i).aux, .int .i64 (i).bank, .int .i64 (i).size]] w fun e w' => e = .returned (.tuple #[.string (strOf []), .int .i64 11]) ∧ Below w.heap.size w w' := by
  have HF := Lib.hid hf
  clear hf
  go_enter Tryd.func18, Tryd.ntmps18
  go_wp2_with (first | (go_at_call 34; refine (known_any _ _).mono ?_; rintro e w1 ⟨rfl, hb1⟩; rw [HF.out, Option.isSome_none]))
  go_ret2
  exact ⟨rfl, (((Below.refl _ _).alloc (Nat.le_refl _) _).trans (hb1.mono (by simp)))⟩

set_option maxRecDepth 100000 in
set_option maxHeartbeats 1000000 in
theorem encode_bad (i : Ins) (hi : i.Ok) (k : Nat) (hf : fOf i.op = some k) (hv : validS i = false) (w : World) :
    Calls Tryd.prog 18 #[.agg #[.int .i64 (i).op, .int .i64 (i).d, .int .i64 (i).s, .int .u16 (i).imm, .int .u16 (i).aux, .int .i64 (i).bank, .int .i64 (i).size]] w fun e w' => e = .returned (.tuple #[.string (strOf []), .int .i64 3]) ∧ Below w.heap.size w w' := by
  have HF := Lib.hid hf
  have HV := Lib.hid hv
  clear hf hv
  go_enter Tryd.func18, Tryd.ntmps18
  go_wp2_with (first
    | (go_at_call 34; refine (known_any _ _).mono ?_; rintro e w1 ⟨rfl, hb1⟩; rw [HF.out, Option.isSome_some]; have hB1 := (hb1.block w.heap.size (by simp)).trans (heap_alloc_new w _); have HB1 := Lib.hid hB1; clear hB1)
    | (go_at_call 20; refine (valid_any i hi _).mono ?_; rintro e w2 ⟨rfl, hb2⟩; rw [HV.out])
    | (refine wpList_load_row rfl _ (.tmp 1) rfl _ rfl _ _ _ _ HB1.out Tryd.underlying24 rfl ?_ ?_; kernel_rfl))
  go_ret2
  exact ⟨rfl, (((Below.refl _ _).alloc (Nat.le_refl _) _).trans ((hb1.mono (by simp)).trans (hb2.mono (by have := hb1.size; simp at this; omega))))⟩

/-- The blocks of a call of Encode, in the loop over the fields. -/
structure ERel (i : Ins) (b1 b3 : Nat) (j : Nat) (v : Value) (w0 w : World) : Prop where
  own : w.ownsRow (b3 + 1) 5 1 v (bytesTo i (fldF i.op) j).length (bv (bytesTo i (fldF i.op) j))
  h1 : w.heap[b1]? = some (.cells (insCells i) 24 (0, 0))
  hb : Below w0.heap.size w0 w
  le : w0.heap.size ≤ b1
  lt : b1 < b3
  gt : b3 + 1 < w.heap.size
theorem ERel.step {i : Ins} {b1 b3 j : Nat} {v v4 : Value} {w0 w w3 w4 : World} (hV : ERel i b1 b3 j v w0 w) (h23 : Below w.heap.size w w3)
    (hg : w3.grownBy w4 v.ownBlock)
    (hown : w4.ownsRow (b3 + 1) 5 1 v4 ((bytesTo i (fldF i.op) j).length + (putS (fldF i.op j) i).length) (bv (bytesTo i (fldF i.op) j) ++ bv (putS (fldF i.op j) i))) :
    ERel i b1 b3 (j + 1) v4 w0 w4 := by
  have hl := hV.own.lt
  have hgt := hV.gt
  have hlt := hV.lt
  have hs3 := h23.size
  have hsz := hV.hb.size
  have hbl : ∀ b, b ≤ b3 → w4.heap[b]? = w.heap[b]? := fun b hb => by
    rw [hg.block b (by omega) (fun e => by have := (hl b e.symm).1; omega), h23.block b (by omega)]
  refine ⟨?_, (hbl b1 (by omega)).trans hV.h1, ?_, hV.le, hV.lt, by have := hg.size; omega⟩
  · have e : bytesTo i (fldF i.op) (j + 1) = bytesTo i (fldF i.op) j ++ putS (fldF i.op j) i := rfl
    rw [e, List.length_append]
    simpa [bv] using hown
  · refine (hV.hb.trans (h23.mono hsz)).grown hg ?_ (fun k hk => ?_)
    · have := hs3; omega
    · have := (hl k hk).1
      have := hV.le
      omega

set_option maxRecDepth 100000 in
set_option maxHeartbeats 2000000 in
theorem encode_good (i : Ins) (hi : i.Ok) (k : Nat) (hf : fOf i.op = some k) (hv : validS i = true) (w : World) :
    Calls Tryd.prog 18 #[.agg #[.int .i64 (i).op, .int .i64 (i).d, .int .i64 (i).s, .int .u16 (i).imm, .int .u16 (i).aux, .int .i64 (i).bank, .int .i64 (i).size]] w fun e w' => e = .returned (.tuple #[.string (strOf (bytesTo i (fldF i.op) 4)), .int .i64 0]) ∧ Below w.heap.size w w' := by
  obtain ⟨o0, o1, -, -, -⟩ := op_bd hf
  have hidx := index_F (fld i.op 0) (fld i.op 1) (fld i.op 2) (fld i.op 3)
  obtain ⟨i5, hi5, iz0, iz1, iz2⟩ := info_parts info5
  have hall := fitAll_true (validS_parts hv).2.1
  have HF := Lib.hid hf
  have HV := Lib.hid hv
  have HALL := Lib.hid hall
  clear hf hv hall
  go_enter Tryd.func18, Tryd.ntmps18
  go_wp2_with (first
    | (refine wpList_store_row rfl _ _ _ rfl _ _ rfl rfl _ _ (heap_alloc_new _ _) ?_ ?_ ?_ ?_; kernel_rfl; rfl; kernel_rfl; rw [World.setRow_alloc_new])
    | (go_at_call 34; refine (known_any _ _).mono ?_; rintro e w1 ⟨rfl, hb1⟩; rw [HF.out, Option.isSome_some]; have hB1 := (hb1.block w.heap.size (by simp)).trans (heap_alloc_new w _); have HB1 := Lib.hid hB1; have hc1 := fun o => cell_of_row w1 w.heap.size o _ _ _ hB1; clear hB1; have hz1 := hb1.size; simp at hz1)
    | (go_at_call 20; refine (valid_any i hi _).mono ?_; rintro e w2 ⟨rfl, hb2⟩; rw [HV.out]; have hc2 := fun o => cell_of_row w2 w.heap.size o _ _ _ ((hb2.block _ (by omega)).trans HB1.out); have hz2 := hb2.size)
    | (go_at_call 35; refine (formatOf_any _ _).mono ?_; rintro e w3 ⟨rfl, hb3⟩; rw [HF.out, Option.isSome_some]; have hz3 := hb3.size; have hcX := fun o => (World.cell?_alloc_lt w3 (Obj.cells #[vi (fld i.op 0), vi (fld i.op 1), vi (fld i.op 2), vi (fld i.op 3)] 64) ⟨w.heap.size, o, none⟩ (by show w.heap.size < _; omega)).trans (cell_of_row w3 w.heap.size o _ _ _ (((hb3.block _ (by omega)).trans (hb2.block _ (by omega))).trans HB1.out)))
    | (refine wpList_load_row rfl _ (.tmp 1) rfl _ rfl _ _ _ _ HB1.out Tryd.underlying24 rfl ?_ ?_; kernel_rfl))
  have hB3 : w3.heap[w.heap.size]? = some (.cells (insCells i) 24 (0, 0)) := ((hb3.block _ (by omega)).trans (hb2.block _ (by omega))).trans HB1.out
  clear hcX hc1 hc2 HB1
  have HB3 := Lib.hid hB3
  clear hB3
  go_loopw [6, 27] (fun v x wr => ∃ j : Nat, j ≤ 4 ∧ x = .int .i64 j ∧ ERel i w.heap.size w3.heap.size j v w wr) (fun _ x _ => 4 - (intOf x).toNat)
  case atStart =>
    refine ⟨0, by omega, rfl, ?_, ?_, ?_, Nat.le_refl _, by omega, by simp <;> omega⟩
    · have h := World.ownsRow_lit (base := w3.heap.size + 1) (size := 1) (e := 5) (w3.alloc (Obj.cells #[vi (fld i.op 0), vi (fld i.op 1), vi (fld i.op 2), vi (fld i.op 3)] 64)) #[.int .u8 i.op] 1 (by simp) (by decide) rfl
      simp only [World.size_alloc] at h
      exact h
    · exact (heap_old2 (by omega)).trans HB3.out
    · exact ((((Below.refl _ _).alloc (Nat.le_refl _) _).trans ((hb1.mono (by simp)).trans ((hb2.mono (by omega)).trans (hb3.mono (by omega))))).alloc (by omega) _).alloc (by simp <;> omega) _
  case round =>
    obtain ⟨j, hj, rfl, hV⟩ := hrel
    clear HB3
    by_cases hj4 : j < 4
    · have hix := hidx j hj4
      clear hidx
      obtain ⟨hown, hB1, hbr, hle, hlt, hgt⟩ := hV
      have HOWN := Lib.hid hown
      have HB1 := Lib.hid hB1
      clear hown hB1
      have hPut := fun W => put_any (fldF i.op j) i hi (HALL.out j hj4) W
      have HP := Lib.hid hPut
      clear hPut
      have hBs : (bytesTo i (fldF i.op) j).length ≤ 9 := by have := bytesTo_len i (fldF i.op) j; omega
      have hPs := put_len (fldF i.op j) i
      go_wp2_with (first
        | (refine wpList_load_row rfl _ (.tmp 1) rfl _ rfl _ _ _ _ HB1.out Tryd.underlying24 rfl ?_ ?_; kernel_rfl)
        | (go_at_call 36; refine (HP.out _).mono ?_; rintro e w5 ⟨v5, rfl, hown5, hb5⟩; have hz5 := hb5.size; have hownA := own_below HOWN.out hb5; have HOWN5 := Lib.hid hown5; have HOWNA := Lib.hid hownA; clear hown5 hownA)
        | (at_builtin; go_must (refine wpList_append_rows rfl _ _ _ rfl (w3.heap.size + 1) 5 i5 (.int .u8 0) 1 Tryd.underlying36 hi5 iz0 iz1 iz2 rfl _ _ _ rfl HOWNA.out _ _ _ _ rfl HOWN5.out (bv_one _) ?_ ?_ ?_ ?_); (unfold maxLen; omega); omega; omega; intro v6 w6 hown6 hg6; have HOWN6 := Lib.hid hown6; clear hown6))
      go_roundw
      case rel => exact ⟨j + 1, by omega, by go_num, (ERel.step ⟨HOWN.out, HB1.out, hbr, hle, hlt, hgt⟩ hb5 hg6 HOWN6.out)⟩
      case measure => simp [intOf]; omega
    · have ej : j = 4 := by omega
      subst ej
      have hcv : ∀ W, W = wr → (convert 36 9 u6).run Tryd.prog W = .ok (.string (strOf (bytesTo i (fldF i.op) 4))) W := fun W e => by
        subst e; exact run_conv_row _ _ _ 5 Tryd.underlying36 Tryd.underlying5 Tryd.underlying9 _ _ _ _ hV.own
      have hcw := hcv wr rfl
      clear hcv hidx
      go_wp2
      go_ret2
      exact ⟨rfl, hV.hb⟩

theorem encode_any (i : Ins) (hi : i.Ok) (w : World) :
    Calls Tryd.prog 18 #[.agg #[.int .i64 (i).op, .int .i64 (i).d, .int .i64 (i).s, .int .u16 (i).imm, .int .u16 (i).aux, .int .i64 (i).bank, .int .i64 (i).size]] w fun e w' => e = .returned (.tuple #[.string (strOf (encB i)), .int .i64 (encE i)]) ∧ Below w.heap.size w w' := by
  cases hf : fOf i.op with
  | none =>
    have e1 : encB i = [] := by unfold encB; rw [hf]; rfl
    have e2 : encE i = 11 := by unfold encE; rw [hf]; rfl
    rw [e1, e2]; exact encode_none i hf w
  | some k =>
    cases hv : validS i with
    | false =>
      have e1 : encB i = [] := by unfold encB; rw [hf, hv]; rfl
      have e2 : encE i = 3 := by unfold encE; rw [hf, hv]; rfl
      rw [e1, e2]; exact encode_bad i hi k hf hv w
    | true =>
      have e1 : encB i = bytesTo i (fldF i.op) 4 := by unfold encB; rw [hf, hv]; rfl
      have e2 : encE i = 0 := by unfold encE; rw [hf, hv]; rfl
      rw [e1, e2]; exact encode_good i hi k hf hv w

end Go.Proofs.YtakahmhbopakmaaDoor
