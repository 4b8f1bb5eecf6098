/- Decode of package isa, walked. Condition: the string is no longer than Go allows. -/
import Derived.Test.YtakahmhbopakmaaDoorIsaH
set_option linter.all false
namespace Go.Proofs.YtakahmhbopakmaaDoor
open Go.RowKit

theorem fAt_flds : ∀ m, m < 21 → ∀ j, j < 4 → 0 ≤ fAt m (j + 2) ∧ fAt m (j + 2) ≤ 9 := by decide
theorem put_width (f : Int) (i : Ins) (h0 : 0 ≤ f) (h9 : f ≤ 9) : ((putS f i).length : Int) = width f := by
  have : f = 0 ∨ f = 1 ∨ f = 2 ∨ f = 3 ∨ f = 4 ∨ f = 5 ∨ f = 6 ∨ f = 7 ∨ f = 8 ∨ f = 9 := by omega
  rcases this with rfl | rfl | rfl | rfl | rfl | rfl | rfl | rfl | rfl | rfl <;> rfl
theorem fldF_some {op : Int} {k : Nat} (h : fOf op = some k) (j : Nat) (hj : j < 4) : fldF op j = fAt k (j + 2) := by
  unfold fldF
  have : j = 0 ∨ j = 1 ∨ j = 2 ∨ j = 3 := by omega
  rcases this with rfl | rfl | rfl | rfl <;> exact fld_some h _
theorem size_len {op : Int} {k : Nat} (h : fOf op = some k) (i : Ins) : ((bytesTo i (fldF op) 4).length : Int) = sizeS op := by
  have hk := (op_bd h).2.2.1
  have e : ∀ j, j < 4 → ((putS (fldF op j) i).length : Int) = width (fAt k (j + 2)) := fun j hj => by
    rw [fldF_some h j hj]
    obtain ⟨a, b⟩ := fAt_flds k hk j hj
    exact put_width _ i a b
  have h0 := e 0 (by omega)
  have h1 := e 1 (by omega)
  have h2 := e 2 (by omega)
  have h3 := e 3 (by omega)
  show (((((([i.op] ++ putS (fldF op 0) i) ++ putS (fldF op 1) i) ++ putS (fldF op 2) i) ++ putS (fldF op 3) i).length : Nat) : Int) = _
  have es : sizeS op = 1 + width (fAt k 2) + width (fAt k 3) + width (fAt k 4) + width (fAt k 5) := by unfold sizeS; rw [h]
  rw [es]
  simp only [Nat.zero_add, Nat.reduceAdd] at h0 h1 h2 h3
  simp only [List.length_append, List.length_cons, List.length_nil]
  omega
theorem sizeS_bd (op : Int) : 0 ≤ sizeS op ∧ sizeS op ≤ 9 := by
  unfold sizeS
  split
  · omega
  · rename_i k _
    have := width_bd (fAt k 2); have := width_bd (fAt k 3); have := width_bd (fAt k 4); have := width_bd (fAt k 5)
    omega
theorem sizeS_pos {op : Int} {k : Nat} (h : fOf op = some k) : 1 ≤ sizeS op := by
  unfold sizeS
  rw [h]
  have := width_bd (fAt k 2); have := width_bd (fAt k 3); have := width_bd (fAt k 4); have := width_bd (fAt k 5)
  simp only
  omega
theorem extendS_bd (n : Int) (h0 : 0 ≤ n) (h1 : n < 256) : 0 ≤ extendS n ∧ extendS n < 65536 := by unfold extendS; split <;> omega

theorem ok_byte (n : Int) (h0 : 0 ≤ n) (h1 : n < 256) : i64ok n := ⟨by omega, by omega⟩
theorem rdStep_ok (s : ByteArray) (f : Int) (k : Nat) (i : Ins) (h : i.Ok) : (rdStep (byt s) f k i).2.Ok := by
  obtain ⟨b00, b01⟩ := byt_bd s k
  obtain ⟨b10, b11⟩ := byt_bd s (k + 1)
  have he := extendS_bd _ b00 b01
  have hw : 0 ≤ byt s k + 256 * byt s (k + 1) ∧ byt s k + 256 * byt s (k + 1) < 65536 := ⟨by omega, by omega⟩
  have hb : 0 ≤ byt s k ∧ byt s k < 65536 := ⟨by omega, by omega⟩
  have o1 := ok_byte _ b00 b01
  have o2 := ok_byte (byt s k / 16) (by omega) (by omega)
  have o3 := ok_byte (byt s k % 16) (by omega) (by omega)
  obtain ⟨p0, p1, p2, p3, p4, p5, p6⟩ := h
  unfold rdStep
  split
  · exact ⟨p0, o2, o3, p3, p4, p5, p6⟩
  split
  · exact ⟨p0, o1, p2, p3, p4, p5, p6⟩
  split
  · exact ⟨p0, p1, o1, p3, p4, p5, p6⟩
  split
  · exact { op := p0, d := p1, s := p2, imm := hb, aux := p4, bank := p5, size := p6 }
  split
  · refine ⟨p0, p1, p2, ?_, p4, p5, p6⟩
    simpa using he
  split
  · refine ⟨p0, p1, p2, ?_, p4, p5, p6⟩
    exact hw
  split
  · exact ⟨p0, p1, p2, p3, hw, p5, p6⟩
  split
  · exact ⟨p0, p1, p2, p3, p4, o1, p6⟩
  · exact ⟨p0, p1, p2, p3, p4, p5, p6⟩
theorem rdTo_ok (s : ByteArray) (F : Nat → Int) (j : Nat) : (rdTo (byt s) F (ins0 s) j).2.Ok := by
  induction j with
  | zero =>
    have b0 := byt_bd s 0
    have b1 := sizeS_bd (byt s 0)
    have z : i64ok 0 := ok_byte 0 (by omega) (by omega)
    exact ⟨ok_byte _ b0.1 b0.2, z, z, ⟨by show (0 : Int) ≤ 0; omega, by show (0 : Int) < 65536; omega⟩, ⟨by show (0 : Int) ≤ 0; omega, by show (0 : Int) < 65536; omega⟩, z, ok_byte _ b1.1 (by show sizeS (byt s 0) < 256; omega)⟩
  | succ j ih => exact rdStep_ok s _ _ _ ih

/-- The instruction that the bytes of a string say, whether valid or not. -/
def readB (s : ByteArray) : Ins := (rdTo (byt s) (fldF (byt s 0)) (ins0 s) 4).2
def ins00 : Ins := ⟨0, 0, 0, 0, 0, 0, 0⟩
def decE (s : ByteArray) : Int := if s.size = 0 then 10 else if (fOf (byt s 0)).isSome then (if (s.size : Int) < sizeS (byt s 0) then 10 else if validS (readB s) then 0 else 11) else 11
def decI (s : ByteArray) : Ins := if decE s = 0 then readB s else ins00

set_option maxRecDepth 100000 in
set_option maxHeartbeats 1000000 in
theorem decode_empty (s : ByteArray) (h0 : s.size = 0) (w : World) :
    Calls Tryd.prog 22 #[.string s] w fun e w' => e = .returned (.tuple #[.agg (insCells ins00), .int .i64 10]) ∧ Below w.heap.size w w' := by
  have hs : s.toList = [] := by
    rw [ByteArray.toList_eq]
    have : s.data.toList.length = 0 := by simpa using h0
    exact List.eq_nil_of_length_eq_zero this
  clear h0
  go_enter Tryd.func22, Tryd.ntmps22
  go_wp2_with (first | (refine wpList_store_row rfl _ _ _ rfl _ _ rfl rfl _ _ (heap_alloc_new _ _) ?_ ?_ ?_ ?_; kernel_rfl; rfl; kernel_rfl; rw [World.setRow_alloc_new]))
  refine bodyPost_ret (results_row_tmp (cs := insCells ins00) (fr := (0, 0)) Tryd.results22 _ _ w.heap.size 24 _ ?_ (heap_alloc_new _ _) Tryd.underlying24 rfl (by kernel_rfl)) rfl ⟨rfl, (Below.refl _ _).alloc (Nat.le_refl _) _⟩
  rfl

theorem isEmpty_false {s : ByteArray} (h : 1 ≤ s.size) : s.toList.isEmpty = false := by
  rw [ByteArray.toList_eq]
  cases e : s.data.toList with
  | nil =>
    have : s.data.toList.length = s.size := by simp
    rw [e] at this
    simp at this
    omega
  | cons _ _ => rfl

set_option maxRecDepth 100000 in
set_option maxHeartbeats 1000000 in
theorem decode_none (s : ByteArray) (h0 : 1 ≤ s.size) (hf : fOf (byt s 0) = none) (w : World) :
    Calls Tryd.prog 22 #[.string s] w fun e w' => e = .returned (.tuple #[.agg (insCells ins00), .int .i64 11]) ∧ Below w.heap.size w w' := by
  have hs := isEmpty_false h0
  have ix : ∀ W, (Instr.index 9 (.string s) (.int .i64 0)).run Tryd.prog W = .ok (.int .u8 (byt s 0)) W := index_byt s 0 h0
  obtain ⟨b0, b1⟩ := byt_bd s 0
  have HF := Lib.hid hf
  clear hf
  go_enter Tryd.func22, Tryd.ntmps22
  go_wp2_with (first
    | (go_at_call 35; refine (formatOf_any _ _).mono ?_; rintro e w1 ⟨rfl, hb1⟩; rw [HF.out, Option.isSome_none]; have hz1 := hb1.size; simp at hz1; have hB0 := (hb1.block w.heap.size (by simp)).trans (heap_alloc_new w _); have HB0 := Lib.hid hB0; clear hB0)
    | (refine wpList_store_row rfl _ (.tmp 2) _ rfl _ (insCells ins00) rfl rfl _ _ ((heap_alloc_old _ _ hz1).trans HB0.out) ?_ ?_ ?_ ?_; kernel_rfl; rfl; kernel_rfl)
    | (refine wpList_store_row rfl _ _ _ rfl _ _ rfl rfl _ _ (heap_alloc_new _ _) ?_ ?_ ?_ ?_; kernel_rfl; rfl; kernel_rfl; rw [World.setRow_alloc_new]))
  refine bodyPost_ret (results_row_tmp (cs := insCells ins00) (fr := (0, 0)) Tryd.results22 _ _ w.heap.size 24 _ ?_ (setRow_heap _ _ _ _ _ _ ((heap_alloc_old _ _ hz1).trans HB0.out)) Tryd.underlying24 rfl (by kernel_rfl)) rfl ⟨rfl, below_setRow ((((Below.refl _ _).alloc (Nat.le_refl _) _).trans (hb1.mono (by simp))).alloc (by omega) _) (Nat.le_refl _) _⟩
  rfl

set_option maxRecDepth 100000 in
set_option maxHeartbeats 1000000 in
theorem decode_short (s : ByteArray) (h0 : 1 ≤ s.size) (hm : s.size ≤ 9223372036854775807) (k : Nat) (hf : fOf (byt s 0) = some k) (hl : (s.size : Int) < sizeS (byt s 0)) (w : World) :
    Calls Tryd.prog 22 #[.string s] w fun e w' => e = .returned (.tuple #[.agg (insCells ins00), .int .i64 10]) ∧ Below w.heap.size w w' := by
  have hs := isEmpty_false h0
  have ix : ∀ W, (Instr.index 9 (.string s) (.int .i64 0)).run Tryd.prog W = .ok (.int .u8 (byt s 0)) W := index_byt s 0 h0
  obtain ⟨b0, b1⟩ := byt_bd s 0
  have HF := Lib.hid hf
  clear hf
  go_enter Tryd.func22, Tryd.ntmps22
  go_wp2_with (first
    | (go_at_call 35; refine (formatOf_any _ _).mono ?_; rintro e w1 ⟨rfl, hb1⟩; rw [HF.out, Option.isSome_some]; have hz1 := hb1.size; simp at hz1; have hB0 := (hb1.block w.heap.size (by simp)).trans (heap_alloc_new w _); have HB0 := Lib.hid hB0; clear hB0)
    | (go_at_call 24; refine (size_any _ b0 b1 _).mono ?_; rintro e w2 ⟨rfl, hb2⟩; have hz2 := hb2.size; simp at hz2)
    | (refine wpList_store_row rfl _ (.tmp 2) _ rfl _ (insCells ins00) rfl rfl _ _ ((hb2.block _ (by simp <;> omega)).trans ((heap_alloc_old _ _ hz1).trans HB0.out)) ?_ ?_ ?_ ?_; kernel_rfl; rfl; kernel_rfl)
    | (refine wpList_store_row rfl _ _ _ rfl _ _ rfl rfl _ _ (heap_alloc_new _ _) ?_ ?_ ?_ ?_; kernel_rfl; rfl; kernel_rfl; rw [World.setRow_alloc_new]))
  refine bodyPost_ret (results_row_tmp (cs := insCells ins00) (fr := (0, 0)) Tryd.results22 _ _ w.heap.size 24 _ ?_ (setRow_heap _ _ _ _ _ _ ((hb2.block _ (by simp <;> omega)).trans ((heap_alloc_old _ _ hz1).trans HB0.out))) Tryd.underlying24 rfl (by kernel_rfl)) rfl ⟨rfl, below_setRow (((((Below.refl _ _).alloc (Nat.le_refl _) _).trans (hb1.mono (by simp))).alloc (by omega) _).trans (hb2.mono (by simp <;> omega))) (Nat.le_refl _) _⟩
  rfl

set_option maxRecDepth 100000 in
set_option maxHeartbeats 2000000 in
theorem decode_good (s : ByteArray) (h0 : 1 ≤ s.size) (hm : s.size ≤ 9223372036854775807) (k : Nat) (hf : fOf (byt s 0) = some k) (hl : sizeS (byt s 0) ≤ (s.size : Int)) (hv : validS (readB s) = true) (w : World) :
    Calls Tryd.prog 22 #[.string s] w fun e w' => e = .returned (.tuple #[.agg (insCells (readB s)), .int .i64 0]) ∧ Below w.heap.size w w' := by
  have hs := isEmpty_false h0
  have ix : ∀ W, (Instr.index 9 (.string s) (.int .i64 0)).run Tryd.prog W = .ok (.int .u8 (byt s 0)) W := index_byt s 0 h0
  obtain ⟨b0, b1⟩ := byt_bd s 0
  have hok : (readB s).Ok := rdTo_ok s _ 4
  have hsl := size_len hf (ins0 s)
  have hRd := fun W => read_any s (fld (byt s 0) 0) (fld (byt s 0) 1) (fld (byt s 0) 2) (fld (byt s 0) 3) h0 hm
    (fun m hm' => by
      rw [rdTo_len _ _ (ins0 s)]
      have h1 := bytesTo_le (ins0 s) (fF (fld (byt s 0) 0) (fld (byt s 0) 1) (fld (byt s 0) 2) (fld (byt s 0) 3)) m 4 hm'
      have h2 : ((bytesTo (ins0 s) (fF (fld (byt s 0) 0) (fld (byt s 0) 1) (fld (byt s 0) 2) (fld (byt s 0) 3)) 4).length : Int) = sizeS (byt s 0) := hsl
      omega) W
  have HRD := Lib.hid hRd
  have HF := Lib.hid hf
  have HV := Lib.hid hv
  clear hf hv hRd hsl
  go_enter Tryd.func22, Tryd.ntmps22
  go_wp2_with (first
    | (go_at_call 35; refine (formatOf_any _ _).mono ?_; rintro e w1 ⟨rfl, hb1⟩; rw [HF.out, Option.isSome_some]; have hz1 := hb1.size; simp at hz1; have hB0 := (hb1.block w.heap.size (by simp)).trans (heap_alloc_new w _); have HB0 := Lib.hid hB0; clear hB0)
    | (go_at_call 24; refine (size_any _ b0 b1 _).mono ?_; rintro e w2 ⟨rfl, hb2⟩; have hz2 := hb2.size; simp at hz2; have hc2 := fun o => cell_of_row w2 w1.heap.size o _ _ _ ((hb2.block _ (by simp)).trans (heap_alloc_new w1 _)))
    | (go_at_call 39; refine (HRD.out _).mono ?_; rintro e w3 ⟨rfl, hb3⟩; have hz3 := hb3.size; clear hc2)
    | (go_at_call 20; refine (valid_any (readB s) hok _).mono ?_; rintro e w4 ⟨rfl, hb4⟩; rw [HV.out]; have hz4 := hb4.size; simp at hz4)
    | (refine wpList_load_row rfl _ (.tmp 6) rfl _ rfl _ (insCells (readB s)) _ _ (heap_alloc_new w3 _) Tryd.underlying24 rfl ?_ ?_; kernel_rfl)
    | (refine wpList_load_row rfl _ (.tmp 6) rfl _ rfl _ (insCells (readB s)) _ _ ((hb4.block _ (by simp)).trans (heap_alloc_new w3 _)) Tryd.underlying24 rfl ?_ ?_; kernel_rfl)
    | (refine wpList_store_row rfl _ (.tmp 2) _ rfl _ (insCells (readB s)) rfl rfl _ _ ((hb4.block _ (by simp <;> omega)).trans ((heap_alloc_old _ _ (by omega)).trans ((hb3.block _ (by omega)).trans ((hb2.block _ (by simp <;> omega)).trans ((heap_alloc_old _ _ hz1).trans HB0.out))))) ?_ ?_ ?_ ?_; kernel_rfl; rfl; kernel_rfl)
    | (refine wpList_store_row rfl _ _ _ rfl _ _ rfl rfl _ _ (heap_alloc_new _ _) ?_ ?_ ?_ ?_; kernel_rfl; rfl; kernel_rfl; rw [World.setRow_alloc_new]))
  refine bodyPost_ret (results_row_tmp (cs := insCells (readB s)) (fr := (0, 0)) Tryd.results22 _ _ w.heap.size 24 _ ?_ (setRow_heap _ _ _ _ _ _ ((hb4.block _ (by simp <;> omega)).trans ((heap_alloc_old _ _ (by omega)).trans ((hb3.block _ (by omega)).trans ((hb2.block _ (by simp <;> omega)).trans ((heap_alloc_old _ _ hz1).trans HB0.out)))))) Tryd.underlying24 rfl (by kernel_rfl)) rfl ⟨rfl, below_setRow ((((((((Below.refl _ _).alloc (Nat.le_refl _) _).trans (hb1.mono (by simp))).alloc (by omega) _).trans (hb2.mono (by simp <;> omega))).trans (hb3.mono (by omega))).alloc (by omega) _).trans (hb4.mono (by simp <;> omega))) (Nat.le_refl _) _⟩
  rfl

set_option maxRecDepth 100000 in
set_option maxHeartbeats 2000000 in
theorem decode_bad (s : ByteArray) (h0 : 1 ≤ s.size) (hm : s.size ≤ 9223372036854775807) (k : Nat) (hf : fOf (byt s 0) = some k) (hl : sizeS (byt s 0) ≤ (s.size : Int)) (hv : validS (readB s) = false) (w : World) :
    Calls Tryd.prog 22 #[.string s] w fun e w' => e = .returned (.tuple #[.agg (insCells ins00), .int .i64 11]) ∧ Below w.heap.size w w' := by
  have hs := isEmpty_false h0
  have ix : ∀ W, (Instr.index 9 (.string s) (.int .i64 0)).run Tryd.prog W = .ok (.int .u8 (byt s 0)) W := index_byt s 0 h0
  obtain ⟨b0, b1⟩ := byt_bd s 0
  have hok : (readB s).Ok := rdTo_ok s _ 4
  have hsl := size_len hf (ins0 s)
  have hRd := fun W => read_any s (fld (byt s 0) 0) (fld (byt s 0) 1) (fld (byt s 0) 2) (fld (byt s 0) 3) h0 hm
    (fun m hm' => by
      rw [rdTo_len _ _ (ins0 s)]
      have h1 := bytesTo_le (ins0 s) (fF (fld (byt s 0) 0) (fld (byt s 0) 1) (fld (byt s 0) 2) (fld (byt s 0) 3)) m 4 hm'
      have h2 : ((bytesTo (ins0 s) (fF (fld (byt s 0) 0) (fld (byt s 0) 1) (fld (byt s 0) 2) (fld (byt s 0) 3)) 4).length : Int) = sizeS (byt s 0) := hsl
      omega) W
  have HRD := Lib.hid hRd
  have HF := Lib.hid hf
  have HV := Lib.hid hv
  clear hf hv hRd hsl
  go_enter Tryd.func22, Tryd.ntmps22
  go_wp2_with (first
    | (go_at_call 35; refine (formatOf_any _ _).mono ?_; rintro e w1 ⟨rfl, hb1⟩; rw [HF.out, Option.isSome_some]; have hz1 := hb1.size; simp at hz1; have hB0 := (hb1.block w.heap.size (by simp)).trans (heap_alloc_new w _); have HB0 := Lib.hid hB0; clear hB0)
    | (go_at_call 24; refine (size_any _ b0 b1 _).mono ?_; rintro e w2 ⟨rfl, hb2⟩; have hz2 := hb2.size; simp at hz2; have hc2 := fun o => cell_of_row w2 w1.heap.size o _ _ _ ((hb2.block _ (by simp)).trans (heap_alloc_new w1 _)))
    | (go_at_call 39; refine (HRD.out _).mono ?_; rintro e w3 ⟨rfl, hb3⟩; have hz3 := hb3.size; clear hc2)
    | (go_at_call 20; refine (valid_any (readB s) hok _).mono ?_; rintro e w4 ⟨rfl, hb4⟩; rw [HV.out]; have hz4 := hb4.size; simp at hz4)
    | (refine wpList_load_row rfl _ (.tmp 6) rfl _ rfl _ (insCells (readB s)) _ _ (heap_alloc_new w3 _) Tryd.underlying24 rfl ?_ ?_; kernel_rfl)
    | (refine wpList_load_row rfl _ (.tmp 6) rfl _ rfl _ (insCells (readB s)) _ _ ((hb4.block _ (by simp)).trans (heap_alloc_new w3 _)) Tryd.underlying24 rfl ?_ ?_; kernel_rfl)
    | (refine wpList_store_row rfl _ (.tmp 2) _ rfl _ (insCells ins00) rfl rfl _ _ ((hb4.block _ (by simp <;> omega)).trans ((heap_alloc_old _ _ (by omega)).trans ((hb3.block _ (by omega)).trans ((hb2.block _ (by simp <;> omega)).trans ((heap_alloc_old _ _ hz1).trans HB0.out))))) ?_ ?_ ?_ ?_; kernel_rfl; rfl; kernel_rfl)
    | (refine wpList_store_row rfl _ _ _ rfl _ _ rfl rfl _ _ (heap_alloc_new _ _) ?_ ?_ ?_ ?_; kernel_rfl; rfl; kernel_rfl; rw [World.setRow_alloc_new]))
  refine bodyPost_ret (results_row_tmp (cs := insCells ins00) (fr := (0, 0)) Tryd.results22 _ _ w.heap.size 24 _ ?_ (setRow_heap _ _ _ _ _ _ ((hb4.block _ (by simp <;> omega)).trans ((heap_alloc_old _ _ (by omega)).trans ((hb3.block _ (by omega)).trans ((hb2.block _ (by simp <;> omega)).trans ((heap_alloc_old _ _ hz1).trans HB0.out)))))) Tryd.underlying24 rfl (by kernel_rfl)) rfl ⟨rfl, below_setRow ((((((((Below.refl _ _).alloc (Nat.le_refl _) _).trans (hb1.mono (by simp))).alloc (by omega) _).trans (hb2.mono (by simp <;> omega))).trans (hb3.mono (by omega))).alloc (by omega) _).trans (hb4.mono (by simp <;> omega))) (Nat.le_refl _) _⟩
  rfl

theorem decode_any (s : ByteArray) (hm : s.size ≤ 9223372036854775807) (w : World) :
    Calls Tryd.prog 22 #[.string s] w fun e w' => e = .returned (.tuple #[.agg (insCells (decI s)), .int .i64 (decE s)]) ∧ Below w.heap.size w w' := by
  by_cases h0 : s.size = 0
  · have he : decE s = 10 := by unfold decE; rw [if_pos h0]
    have hd : decI s = ins00 := by unfold decI; rw [he]; rfl
    rw [hd, he]; exact decode_empty s h0 w
  · cases hf : fOf (byt s 0) with
    | none =>
      have he : decE s = 11 := by unfold decE; rw [if_neg h0, hf]; rfl
      have hd : decI s = ins00 := by unfold decI; rw [he]; rfl
      rw [hd, he]; exact decode_none s (by omega) hf w
    | some k =>
      by_cases hl : (s.size : Int) < sizeS (byt s 0)
      · have he : decE s = 10 := by unfold decE; rw [if_neg h0, hf]; simp [hl]
        have hd : decI s = ins00 := by unfold decI; rw [he]; rfl
        rw [hd, he]; exact decode_short s (by omega) hm k hf hl w
      · cases hv : validS (readB s) with
        | true =>
          have he : decE s = 0 := by unfold decE; rw [if_neg h0, hf, hv]; simp [hl]
          have hd : decI s = readB s := by unfold decI; rw [he]; rfl
          rw [hd, he]; exact decode_good s (by omega) hm k hf (by omega) hv w
        | false =>
          have he : decE s = 11 := by unfold decE; rw [if_neg h0, hf, hv]; simp [hl]
          have hd : decI s = ins00 := by unfold decI; rw [he]; rfl
          rw [hd, he]; exact decode_bad s (by omega) hm k hf (by omega) hv w

end Go.Proofs.YtakahmhbopakmaaDoor
