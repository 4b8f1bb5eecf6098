/- Decode of package isa: walked. No condition beyond what each states. -/
import Derived.Test.YteofmaiojepdkaaGreatTbPlc
import Derived.Test.YteofmaiojepdkaaGreatTbRefC1
import Derived.Test.YteofmaiojepdkaaGreatTbRefC2
import Derived.Deep.AppendLies
set_option linter.all false
namespace Go.Proofs.YteofmaiojepdkaaGreat
open Go.RowKit
set_option maxRecDepth 100000 in
set_option maxHeartbeats 20000000 in
theorem rvalid_g3 (i : Ins) (hf : zq i.op = 15 ∨ zq i.op = 16 ∨ zq i.op = 17 ∨ zq i.op = 18) (w : World) :
  Calls Tryz.prog 60 #[.agg #[.int .i64 (i).op, .int .i64 (i).d, .int .i64 (i).s, .int .u16 (i).imm, .int .u16 (i).aux, .int .i64 (i).bank, .int .i64 (i).size]] w fun e w' => e = .returned (.bool (zu i)) ∧ Below w.heap.size w w' := by
 rcases hf with hf | hf | hf | hf
 all_goals
  obtain ⟨o0, o1⟩ := op_of_fmt (op := i.op) (by rw [hf]; decide)
  have HF := zh hf
  clear hf
  go_enter Tryz.func60, Tryz.ntmps60
  go_wp2_with (first
   | (go_at_call 59; refine (xo _ _).mono ?_; rintro e w1 ⟨rfl, hb1⟩; rw [HF.out]; have hz1 := hb1.size; simp at hz1))
  have hc1 : ∀ o, w1.cell? ⟨w.heap.size, o, none⟩ = (ze i)[o]? := fun o => cell_of_row w1 w.heap.size o _ _ _ ((hb1.block w.heap.size (by simp)).trans (heap_alloc_new w _))
  unfold ze vi vw at hc1
  have hwu : IntKind.u8.wrap i.op = i.op := IntWalk.u8_in _ (by omega)
  refine wp_region_noPanic ?_
  refine wp_region_held_drew (S := fun w' => ∀ o, w'.cell? ⟨w.heap.size, o, none⟩ = (#[Value.int .i64 i.op, .int .i64 i.d, .int .i64 i.s, .int .u16 i.imm, .int .u16 i.aux, .int .i64 i.bank, .int .i64 i.size] : Array Value)[o]?) (by kernel_rfl) hc1 (fun hHeld => ?_)
  (refine tke 0 ?_)
  (refine tke 1 ?_)
  (refine tke 2 ?_)
  (refine tke 3 ?_)
  (refine tke 4 ?_)
  (refine tke 5 ?_)
  (refine tke 6 ?_)
  (refine tke 7 ?_)
  (refine wpAnyH_ready (rs := [8]) (by kernel_rfl) (by simp) (AllReadyH.cons (o := _) rfl (fun K hK => ?_) AllReadyH.nil))
  rw [if_pos (by rfl)]
  go_simp
  refine (yH i.op o0 (by omega) _).mono ?_
  rintro e w2 ⟨rfl, hb2⟩
  have hc2 : ∀ o, w2.cell? ⟨w.heap.size, o, none⟩ = (#[Value.int .i64 i.op, .int .i64 i.d, .int .i64 i.s, .int .u16 i.imm, .int .u16 i.aux, .int .i64 i.bank, .int .i64 i.size] : Array Value)[o]? := fun o => (hb2.cell (by show w.heap.size < w1.heap.size; omega)).trans (hHeld o)
  refine hK.out _ _ hc2 (fun hHeld => ?_)
  (refine pts ?_)
  clear hc1
  have hbb : Below w.heap.size w w2 := ((((Below.refl _ _).alloc (zn _) _).trans (hb1.mono (by simp))).drew).trans (hb2.mono (by show _ ≤ w1.heap.size; omega))
  by_cases hsz : i.size = zc i.op
  ·have hsb : (i.size == zc i.op) = true := by simpa using hsz
   have hsn : (i.size != zc i.op) = false := by simpa using hsz
   have e0 : zu i = zS (zq i.op) i := by unfold zu; rw [HF.out, hsb]; rfl
   have E0 := zh e0
   clear e0 hsz
   (refine tke 9 ?_)
   (refine tke 10 ?_)
   refine wpAnyH_done (by kernel_rfl) ?_ _
   refine NoPanic.normal ?_
   go_wp2_with (first
    | (go_at_call 85; refine (rreg_any _ _).mono ?_; rintro e ww ⟨rfl, rfl⟩)
    | (go_at_call 86; refine (signed_any _ _).mono ?_; rintro e ww ⟨rfl, rfl⟩))
   all_goals
    go_ret
    refine ⟨?_, hbb⟩
    rw [E0.out, HF.out]
    show Ending.returned (Value.bool _) = _
    congr 2
    unfold zS
    first | (simp_all; done) | (simp_all; omega)
  ·have hsb : (i.size == zc i.op) = false := by simpa using hsz
   have hsn : (i.size != zc i.op) = true := by simpa using hsz
   have e0 : zu i = false := by unfold zu; rw [hsb]; simp
   have E0 := zh e0
   clear e0 hsz
   (refine tke 9 ?_)
   (refine tke 10 ?_)
   refine wpAnyH_done (by kernel_rfl) ?_ _
   refine NoPanic.normal ?_
   go_wp2
   go_ret
   exact ⟨by rw [E0.out]; rfl, hbb⟩
end Go.Proofs.YteofmaiojepdkaaGreat
namespace Go.Proofs.YteofmaiojepdkaaGreat
open Go.RowKit
set_option maxRecDepth 100000 in
set_option maxHeartbeats 1000000 in
theorem rvalid_0 (i : Ins) (hf : zq i.op = 0) (w : World) :
  Calls Tryz.prog 60 #[.agg #[.int .i64 (i).op, .int .i64 (i).d, .int .i64 (i).s, .int .u16 (i).imm, .int .u16 (i).aux, .int .i64 (i).bank, .int .i64 (i).size]] w fun e w' => e = .returned (.bool (zu i)) ∧ Below w.heap.size w w' := by
 have e0 : zu i = false := by unfold zu; rw [hf]; rfl
 have HF := zh hf
 rw [e0]
 clear hf e0
 go_enter Tryz.func60, Tryz.ntmps60
 go_wp2_with (first
  | (go_at_call 59; refine (xo _ _).mono ?_; rintro e w1 ⟨rfl, hb1⟩; rw [HF.out]; have hz1 := hb1.size; simp at hz1))
 go_quiet (fail)
 go_wp2
 go_ret
 exact ⟨rfl, (((Below.refl _ _).alloc (zn _) _).trans (hb1.mono (by simp))).trans ⟨rfl, rfl, rfl, zn _, fun _ _ => rfl⟩⟩
theorem yl (i : Ins) (w : World) :
  Calls Tryz.prog 60 #[.agg #[.int .i64 (i).op, .int .i64 (i).d, .int .i64 (i).s, .int .u16 (i).imm, .int .u16 (i).aux, .int .i64 (i).bank, .int .i64 (i).size]] w fun e w' => e = .returned (.bool (zu i)) ∧ Below w.heap.size w w' := by
 have := fmtS_bd i.op
 by_cases h0 : zq i.op = 0
 ·exact rvalid_0 i h0 w
 rcases (show (zq i.op = 1 ∨ zq i.op = 2 ∨ zq i.op = 3 ∨ zq i.op = 4 ∨ zq i.op = 5) ∨ (zq i.op = 6 ∨ zq i.op = 7 ∨ zq i.op = 8 ∨ zq i.op = 9 ∨ zq i.op = 10) ∨ (zq i.op = 11 ∨ zq i.op = 12 ∨ zq i.op = 13 ∨ zq i.op = 14) ∨ (zq i.op = 15 ∨ zq i.op = 16 ∨ zq i.op = 17 ∨ zq i.op = 18) by omega) with h | h | h | h
 ·exact rvalid_g0 i h w
 ·exact rvalid_g1 i h w
 ·exact rvalid_g2 i h w
 ·exact rvalid_g3 i h w
end Go.Proofs.YteofmaiojepdkaaGreat
namespace Go.Proofs.YteofmaiojepdkaaGreat
open Go.RowKit
def refTail (f : Int) (i : Ins) : List Int :=
 if f = 2 then [i.d]
 else if f = 3 ∨ f = 10 then [i.imm % 256]
 else if f = 4 then [16 * i.d + i.s]
 else if f = 5 ∨ f = 15 ∨ f = 18 then [i.d, i.imm % 256]
 else if f = 6 ∨ f = 9 ∨ f = 14 then [i.d, i.imm % 256, i.imm / 256]
 else if f = 7 then [16 * i.d + i.s, i.imm % 256]
 else if f = 8 then [16 * i.d + i.s, i.imm % 256, i.imm / 256]
 else if f = 11 then [i.imm % 256, i.imm / 256]
 else if f = 12 then [i.bank, i.imm % 256, i.imm / 256]
 else if f = 13 then [i.d, i.bank, i.imm % 256, i.imm / 256, i.aux % 256, i.aux / 256]
 else if f = 16 then [16 * i.d + i.s, i.bank, i.imm % 256, i.imm / 256]
 else if f = 17 then [i.s, i.imm % 256, i.imm / 256, i.aux % 256, i.aux / 256]
 else []
def fldTab (f : Int) : List Int :=
 if f = 2 then [2, 0, 0, 0] else if f = 3 then [4, 0, 0, 0] else if f = 4 then [1, 0, 0, 0] else if f = 5 then [2, 5, 0, 0] else if f = 6 then [2, 6, 0, 0]
 else if f = 7 then [1, 5, 0, 0] else if f = 8 then [1, 6, 0, 0] else if f = 9 then [2, 6, 0, 0] else if f = 10 then [5, 0, 0, 0] else if f = 11 then [6, 0, 0, 0]
 else if f = 12 then [8, 6, 0, 0] else if f = 13 then [2, 9, 6, 7] else if f = 14 then [2, 6, 0, 0] else if f = 15 then [2, 4, 0, 0] else if f = 16 then [1, 8, 6, 0]
 else if f = 17 then [3, 6, 7, 0] else if f = 18 then [2, 5, 0, 0] else [0, 0, 0, 0]
theorem fld_tab : ∀ n : Nat, n < 164 → zq n ≠ 0 → [fld n 0, fld n 1, fld n 2, fld n 3] = fldTab (zq n) ∧ zx n = zc n ∧ (fOf n).isSome = true := by decide +kernel
theorem fld_none0 : ∀ n : Nat, n < 164 → zq n = 0 → fOf n = none ∧ zx n = 0 ∧ zc n = 0 := by decide +kernel
theorem fOf_out {op : Int} (h : ¬ (0 ≤ op ∧ op ≤ 163)) : fOf op = none := by
 cases hk : fOf op with
 | none => rfl
 | some k => have := xR hk; omega
theorem fOf_zero {op : Int} (h : zq op = 0) : fOf op = none := by
 by_cases h0 : 0 ≤ op ∧ op ≤ 163
 ·obtain ⟨n, hn⟩ : ∃ n : Nat, op = n := ⟨op.toNat, by omega⟩
  subst hn
  exact (fld_none0 n (by omega) h).1
 ·exact fOf_out h0
theorem fOf_some {op : Int} (h : zq op ≠ 0) : (fOf op).isSome = true ∧ zx op = zc op ∧ [fld op 0, fld op 1, fld op 2, fld op 3] = fldTab (zq op) := by
 have h0 := op_of_fmt h
 obtain ⟨n, hn⟩ : ∃ n : Nat, op = n := ⟨op.toNat, by omega⟩
 subst hn
 obtain ⟨a, b, c⟩ := fld_tab n (by omega) h
 exact ⟨c, b, a⟩
theorem fldF_tab {op : Int} (h : zq op ≠ 0) : z7 op = fF ((fldTab (zq op)).getD 0 0) ((fldTab (zq op)).getD 1 0) ((fldTab (zq op)).getD 2 0) ((fldTab (zq op)).getD 3 0) := by
 rw [← (fOf_some h).2.2]; rfl
theorem size_eq (op : Int) : zx op = zc op := by
 by_cases h : zq op = 0
 ·have e := fOf_zero h
  unfold zx zc; rw [e, h]; rfl
 ·exact (fOf_some h).2.1
theorem fmt18' (op : Int) (h : zq op ≠ 0) : zq op = 1 ∨ zq op = 2 ∨ zq op = 3 ∨ zq op = 4 ∨ zq op = 5 ∨ zq op = 6 ∨ zq op = 7 ∨ zq op = 8 ∨ zq op = 9 ∨ zq op = 10 ∨ zq op = 11 ∨ zq op = 12 ∨ zq op = 13 ∨ zq op = 14 ∨ zq op = 15 ∨ zq op = 16 ∨ zq op = 17 ∨ zq op = 18 := by
 have := fmtS_bd op; omega
theorem bytes_tail (i : Ins) (h : zq i.op ≠ 0) : zw i (z7 i.op) 4 = i.op :: refTail (zq i.op) i := by
 rw [fldF_tab h]
 rcases fmt18' _ h with e | e | e | e | e | e | e | e | e | e | e | e | e | e | e | e | e | e <;> (rw [e]; simp [zw, yI, fF, fldTab, refTail])
theorem valid_small (i : Ins) (hi : i.Ok) (hv : zy i = true) : zq i.op ≠ 0 ∧ (0 ≤ i.op ∧ i.op ≤ 163) ∧ (0 ≤ i.d ∧ i.d < 8) ∧ (0 ≤ i.s ∧ i.s < 8) ∧ (0 ≤ i.bank ∧ i.bank < 256) ∧ i.size = zc i.op := by
 rw [y3 i hi] at hv
 unfold zu at hv
 simp only [Bool.and_eq_true, Bool.not_eq_true', beq_eq_false_iff_ne, beq_iff_eq] at hv
 obtain ⟨⟨h1, h2⟩, h3⟩ := hv
 refine ⟨h1, op_of_fmt h1, ?_⟩
 rw [and_comm, and_comm (a := 0 ≤ i.s ∧ i.s < 8), and_assoc] at *
 rcases fmt18' _ h1 with e | e | e | e | e | e | e | e | e | e | e | e | e | e | e | e | e | e <;> (rw [e] at h3; simp [zS, zX] at h3; omega)
theorem news_row (W : World) (o : Obj) {b : Nat} (h : W.heap.size = b) : (W.alloc o).heap[b]? = some o := by
 subst h; exact heap_alloc_new _ _
end Go.Proofs.YteofmaiojepdkaaGreat
namespace Go.Proofs.YteofmaiojepdkaaGreat
open Go.RowKit
def rdF (f : Int) (b : Nat → Int) (op sz : Int) : Ins :=
 if f = 2 then ⟨op, b 1, 0, 0, 0, 0, sz⟩
 else if f = 3 then ⟨op, 0, 0, b 1, 0, 0, sz⟩
 else if f = 4 then ⟨op, b 1 / 16, b 1 % 16, 0, 0, 0, sz⟩
 else if f = 5 ∨ f = 18 then ⟨op, b 1, 0, zH (b 2), 0, 0, sz⟩
 else if f = 6 ∨ f = 9 ∨ f = 14 then ⟨op, b 1, 0, b 2 + 256 * b 3, 0, 0, sz⟩
 else if f = 7 then ⟨op, b 1 / 16, b 1 % 16, zH (b 2), 0, 0, sz⟩
 else if f = 8 then ⟨op, b 1 / 16, b 1 % 16, b 2 + 256 * b 3, 0, 0, sz⟩
 else if f = 10 then ⟨op, 0, 0, zH (b 1), 0, 0, sz⟩
 else if f = 11 then ⟨op, 0, 0, b 1 + 256 * b 2, 0, 0, sz⟩
 else if f = 12 then ⟨op, 0, 0, b 2 + 256 * b 3, 0, b 1, sz⟩
 else if f = 13 then ⟨op, b 1, 0, b 3 + 256 * b 4, b 5 + 256 * b 6, b 2, sz⟩
 else if f = 15 then ⟨op, b 1, 0, b 2, 0, 0, sz⟩
 else if f = 16 then ⟨op, b 1 / 16, b 1 % 16, b 3 + 256 * b 4, 0, b 2, sz⟩
 else if f = 17 then ⟨op, 0, b 1, b 2 + 256 * b 3, b 4 + 256 * b 5, 0, sz⟩
 else ⟨op, 0, 0, 0, 0, 0, sz⟩
theorem ite_op {c : Prop} [Decidable c] {x y : Ins} {n : Int} (hx : x.op = n) (hy : y.op = n) : (if c then x else y).op = n := by
 by_cases h : c
 ·rw [if_pos h]; exact hx
 ·rw [if_neg h]; exact hy
theorem rdF_op (f : Int) (b : Nat → Int) (op sz : Int) : (rdF f b op sz).op = op := by
 unfold rdF
 repeat (first | rfl | refine ite_op rfl ?_)
theorem readB_eq (s : ByteArray) (h : zq (byt s 0) ≠ 0) : yP s = rdF (zq (byt s 0)) (byt s) (byt s 0) (zc (byt s 0)) := by
 unfold yP
 rw [fldF_tab h]
 rcases fmt18' _ h with e | e | e | e | e | e | e | e | e | e | e | e | e | e | e | e | e | e <;> (rw [e]; simp [xz, yi, fF, fldTab, rdF, y9, size_eq])
theorem rsize_fmt (op : Int) : zc op = y4.getD (zq op).toNat 0 := rfl
theorem refTail_len (f : Int) (i : Ins) (hf : 1 ≤ f ∧ f ≤ 18) : ((i.op :: refTail f i).length : Int) = y4.getD f.toNat 0 := by
 have h18 : f = 1 ∨ f = 2 ∨ f = 3 ∨ f = 4 ∨ f = 5 ∨ f = 6 ∨ f = 7 ∨ f = 8 ∨ f = 9 ∨ f = 10 ∨ f = 11 ∨ f = 12 ∨ f = 13 ∨ f = 14 ∨ f = 15 ∨ f = 16 ∨ f = 17 ∨ f = 18 := by omega
 rcases h18 with e | e | e | e | e | e | e | e | e | e | e | e | e | e | e | e | e | e <;> (subst e; simp [refTail, y4])
theorem fmt_rng {op : Int} (h : zq op ≠ 0) : 1 ≤ zq op ∧ zq op ≤ 18 := by have := fmtS_bd op; omega
theorem enc_valid (i : Ins) (hi : i.Ok) (hv : zy i = true) : encB i = i.op :: refTail (zq i.op) i ∧ encE i = 0 ∧ ((encB i).length : Int) = i.size := by
 obtain ⟨h0, h1, -, -, -, hz⟩ := valid_small i hi hv
 have hs := (fOf_some h0).1
 have e1 : encB i = i.op :: refTail (zq i.op) i := by unfold encB; rw [hs, hv]; exact bytes_tail i h0
 refine ⟨e1, by unfold encE; rw [hs, hv]; rfl, ?_⟩
 rw [e1, refTail_len _ i (fmt_rng h0), hz]; rfl
theorem byt_append (s more : ByteArray) (k : Nat) (h : k < s.size) : byt (s ++ more) k = byt s k := by
 unfold byt
 have : (s ++ more).data.toList = s.data.toList ++ more.data.toList := by simp
 rw [this, List.getD_eq_getElem?_getD, List.getD_eq_getElem?_getD, List.getElem?_append_left (by simpa using h)]
theorem byt_in (l : List Int) (k : Nat) (x : Int) (h : l[k]? = some x) (h0 : 0 ≤ x) (h1 : x < 256) : byt (strOf l) k = x := zj l k x h h0 h1
theorem extend_mod (n : Int) (h0 : 0 ≤ n) (h1 : n < 256) : zH n % 256 = n := by unfold zH; split <;> omega
theorem tail_rd (f : Int) (b : Nat → Int) (op sz : Int) (hf : 1 ≤ f ∧ f ≤ 18) (hb : ∀ k, 0 ≤ b k ∧ b k < 256) (k : Nat) (hk : 1 ≤ k ∧ (k : Int) < y4.getD f.toNat 0) : (refTail f (rdF f b op sz))[k - 1]? = some (b k) := by
 have h18 : f = 1 ∨ f = 2 ∨ f = 3 ∨ f = 4 ∨ f = 5 ∨ f = 6 ∨ f = 7 ∨ f = 8 ∨ f = 9 ∨ f = 10 ∨ f = 11 ∨ f = 12 ∨ f = 13 ∨ f = 14 ∨ f = 15 ∨ f = 16 ∨ f = 17 ∨ f = 18 := by omega
 have b1 := hb 1
 have b2 := hb 2
 have b3 := hb 3
 have b4 := hb 4
 have b5 := hb 5
 have b6 := hb 6
 have m1 := extend_mod (b 1) b1.1 b1.2
 have m2 := extend_mod (b 2) b2.1 b2.2
 have hk7 : k = 1 ∨ k = 2 ∨ k = 3 ∨ k = 4 ∨ k = 5 ∨ k = 6 ∨ 7 ≤ k := by omega
 have hmax : y4.getD f.toNat 0 ≤ 7 := by
  have : ∀ n : Nat, n ≤ 18 → y4.getD n 0 ≤ 7 := by decide
  exact this _ (by omega)
 rcases h18 with e | e | e | e | e | e | e | e | e | e | e | e | e | e | e | e | e | e <;> (subst e; simp [y4] at hk) <;>
  (rcases hk7 with e | e | e | e | e | e | e <;> first | (exfalso; omega) | (subst e; simp [refTail, rdF, m1, m2] <;> omega))
theorem dec_unique (t : ByteArray) (h : xL t = 0) : (xa t).Ok ∧ zy (xa t) = true ∧ (encB (xa t)).length ≤ t.size ∧ ∀ k, k < (encB (xa t)).length → byt (strOf (encB (xa t))) k = byt t k := by
 have hI : xa t = yP t := by unfold xa; rw [if_pos h]
 rw [hI]
 unfold xL at h
 split at h
 ·cases h
 rename_i hz0
 split at h
 ·rename_i hfo
  split at h
  ·cases h
  rename_i hsz
  split at h
  ·rename_i hv
   have hok : (yP t).Ok := rdTo_ok t _ 4
   obtain ⟨h0, h1, -, -, -, hz⟩ := valid_small _ hok hv
   obtain ⟨e1, -, hl⟩ := enc_valid _ hok hv
   have hf0 : zq (byt t 0) ≠ 0 := fun e => by rw [fOf_zero e] at hfo; cases hfo
   have hrd := readB_eq t hf0
   have hop : (yP t).op = byt t 0 := by
    rw [hrd]; exact rdF_op _ _ _ _
   have hbd := zL t
   rw [size_eq] at hsz
   rw [hop] at hz
   refine ⟨hok, hv, by omega, fun k hk => ?_⟩
   have hb0 := hbd k
   refine byt_in _ k _ ?_ hb0.1 hb0.2
   rw [e1, hop]
   rcases k with _ | k
   ·rfl
   ·rw [List.getElem?_cons_succ, hrd]
    have hkk : ((k + 1 : Nat) : Int) < y4.getD (zq (byt t 0)).toNat 0 := by
     have : zc (byt t 0) = y4.getD (zq (byt t 0)).toNat 0 := rfl
     omega
    exact tail_rd _ (byt t) _ _ (fmt_rng hf0) hbd (k + 1) ⟨by omega, hkk⟩
  ·cases h
 ·cases h
end Go.Proofs.YteofmaiojepdkaaGreat
namespace Go.Proofs.YteofmaiojepdkaaGreat
open Go.RowKit
set_option maxRecDepth 100000 in
set_option maxHeartbeats 1000000 in
theorem decode_empty (s : ByteArray) (h0 : s.size = 0) (w : World) :
  Calls Tryz.prog 134 #[.string s] w fun e w' => e = .returned (.tuple #[.agg (ze yr), .int .i64 10]) ∧ Below w.heap.size w w' := by
 have hs : s.toList = [] := by
  rw [ByteArray.toList_eq]
  have : s.data.toList.length = 0 := by simpa using h0
  exact List.eq_nil_of_length_eq_zero this
 clear h0
 go_enter Tryz.func134, Tryz.ntmps134
 go_wp2_with (first | (refine stN ?_))
 refine bodyPost_ret (zd (cs := ze yr) (fr := (0, 0)) Tryz.results134 _ _ w.heap.size 53 _ ?_ (heap_alloc_new _ _) Tryz.underlying53 rfl (by kernel_rfl)) rfl ⟨rfl, (Below.refl _ _).alloc (zn _) _⟩
 rfl
theorem yV {s : ByteArray} (h : 1 ≤ s.size) : s.toList.isEmpty = false := by
 rw [ByteArray.toList_eq]
 cases e : s.data.toList with
 | nil =>
  have : s.data.toList.length = s.size := by simp
  rw [e] at this
  simp at this
  omega
 | cons _ _ => rfl
set_option maxRecDepth 100000 in
set_option maxHeartbeats 1000000 in
theorem decode_none (s : ByteArray) (h0 : 1 ≤ s.size) (hf : fOf (byt s 0) = none) (w : World) :
  Calls Tryz.prog 134 #[.string s] w fun e w' => e = .returned (.tuple #[.agg (ze yr), .int .i64 11]) ∧ Below w.heap.size w w' := by
 have hs := yV h0
 have ix : ∀ W, (Instr.index 9 (.string s) (.int .i64 0)).run Tryz.prog W = .ok (.int .u8 (byt s 0)) W := zl s 0 h0
 obtain ⟨b0, b1⟩ := zL s 0
 have HF := zh hf
 clear hf
 go_enter Tryz.func134, Tryz.ntmps134
 go_wp2_with (first
  | (go_at_call 135; refine (xm _ _).mono ?_; rintro e w1 ⟨rfl, hb1⟩; rw [HF.out, Option.isSome_none]; have hz1 := hb1.size; simp at hz1; have hB0 := (hb1.block w.heap.size (by simp)).trans (heap_alloc_new w _); have HB0 := zh hB0; clear hB0)
  | (refine wpList_store_row rfl _ (.tmp 2) _ rfl _ (ze yr) rfl rfl _ _ ((heap_alloc_old _ _ hz1).trans HB0.out) ?_ ?_ ?_ ?_; kernel_rfl; rfl; kernel_rfl)
  | (refine stN ?_))
 refine bodyPost_ret (zd (cs := ze yr) (fr := (0, 0)) Tryz.results134 _ _ w.heap.size 53 _ ?_ (setRow_heap _ _ _ _ _ _ ((heap_alloc_old _ _ hz1).trans HB0.out)) Tryz.underlying53 rfl (by kernel_rfl)) rfl ⟨rfl, below_setRow ((((Below.refl _ _).alloc (zn _) _).trans (hb1.mono (by simp))).alloc (by omega) _) (zn _) _⟩
 rfl
set_option maxRecDepth 100000 in
set_option maxHeartbeats 1000000 in
theorem decode_short (s : ByteArray) (h0 : 1 ≤ s.size) (hm : s.size ≤ 9223372036854775807) (k : Nat) (hf : fOf (byt s 0) = some k) (hl : (s.size : Int) < zx (byt s 0)) (w : World) :
  Calls Tryz.prog 134 #[.string s] w fun e w' => e = .returned (.tuple #[.agg (ze yr), .int .i64 10]) ∧ Below w.heap.size w w' := by
 have hs := yV h0
 have ix : ∀ W, (Instr.index 9 (.string s) (.int .i64 0)).run Tryz.prog W = .ok (.int .u8 (byt s 0)) W := zl s 0 h0
 obtain ⟨b0, b1⟩ := zL s 0
 have HF := zh hf
 clear hf
 go_enter Tryz.func134, Tryz.ntmps134
 go_wp2_with (first
  | (go_at_call 135; refine (xm _ _).mono ?_; rintro e w1 ⟨rfl, hb1⟩; rw [HF.out, Option.isSome_some]; have hz1 := hb1.size; simp at hz1; have hB0 := (hb1.block w.heap.size (by simp)).trans (heap_alloc_new w _); have HB0 := zh hB0; clear hB0)
  | (go_at_call 133; refine (size_any _ b0 b1 _).mono ?_; rintro e w2 ⟨rfl, hb2⟩; have hz2 := hb2.size; simp at hz2)
  | (refine wpList_store_row rfl _ (.tmp 2) _ rfl _ (ze yr) rfl rfl _ _ ((hb2.block _ (by simp <;> omega)).trans ((heap_alloc_old _ _ hz1).trans HB0.out)) ?_ ?_ ?_ ?_; kernel_rfl; rfl; kernel_rfl)
  | (refine stN ?_))
 refine bodyPost_ret (zd (cs := ze yr) (fr := (0, 0)) Tryz.results134 _ _ w.heap.size 53 _ ?_ (setRow_heap _ _ _ _ _ _ ((hb2.block _ (by simp <;> omega)).trans ((heap_alloc_old _ _ hz1).trans HB0.out))) Tryz.underlying53 rfl (by kernel_rfl)) rfl ⟨rfl, below_setRow (((((Below.refl _ _).alloc (zn _) _).trans (hb1.mono (by simp))).alloc (by omega) _).trans (hb2.mono (by simp <;> omega))) (zn _) _⟩
 rfl
set_option maxRecDepth 100000 in
set_option maxHeartbeats 2000000 in
theorem decode_good (s : ByteArray) (h0 : 1 ≤ s.size) (hm : s.size ≤ 9223372036854775807) (k : Nat) (hf : fOf (byt s 0) = some k) (hl : zx (byt s 0) ≤ (s.size : Int)) (hv : zy (yP s) = true) (w : World) :
  Calls Tryz.prog 134 #[.string s] w fun e w' => e = .returned (.tuple #[.agg (ze (yP s)), .int .i64 0]) ∧ Below w.heap.size w w' := by
 have hs := yV h0
 have ix : ∀ W, (Instr.index 9 (.string s) (.int .i64 0)).run Tryz.prog W = .ok (.int .u8 (byt s 0)) W := zl s 0 h0
 obtain ⟨b0, b1⟩ := zL s 0
 have hok : (yP s).Ok := rdTo_ok s _ 4
 have hsl := size_len hf (y9 s)
 have hRd := fun W => read_any s (fld (byt s 0) 0) (fld (byt s 0) 1) (fld (byt s 0) 2) (fld (byt s 0) 3) h0 hm
  (fun m hm' => by
   rw [rdTo_len _ _ (y9 s)]
   have h1 := bytesTo_le (y9 s) (fF (fld (byt s 0) 0) (fld (byt s 0) 1) (fld (byt s 0) 2) (fld (byt s 0) 3)) m 4 hm'
   have h2 : ((zw (y9 s) (fF (fld (byt s 0) 0) (fld (byt s 0) 1) (fld (byt s 0) 2) (fld (byt s 0) 3)) 4).length : Int) = zx (byt s 0) := hsl
   omega) W
 have HRD := zh hRd
 have HF := zh hf
 have HV := zh hv
 clear hf hv hRd hsl
 go_enter Tryz.func134, Tryz.ntmps134
 go_wp2_with (first
  | (go_at_call 135; refine (xm _ _).mono ?_; rintro e w1 ⟨rfl, hb1⟩; rw [HF.out, Option.isSome_some]; have hz1 := hb1.size; simp at hz1; have hB0 := (hb1.block w.heap.size (by simp)).trans (heap_alloc_new w _); have HB0 := zh hB0; clear hB0)
  | (go_at_call 133; refine (size_any _ b0 b1 _).mono ?_; rintro e w2 ⟨rfl, hb2⟩; have hz2 := hb2.size; simp at hz2; have hc2 := fun o => cell_of_row w2 w1.heap.size o _ _ _ ((hb2.block _ (by simp)).trans (heap_alloc_new w1 _)))
  | (go_at_call 138; refine (HRD.out _).mono ?_; rintro e w3 ⟨rfl, hb3⟩; have hz3 := hb3.size; clear hc2)
  | (go_at_call 119; refine (xd (yP s) hok _).mono ?_; rintro e w4 ⟨rfl, hb4⟩; rw [HV.out]; have hz4 := hb4.size; simp at hz4)
  | (refine wpList_load_row rfl _ (.tmp 6) rfl _ rfl _ (ze (yP s)) _ _ (heap_alloc_new w3 _) Tryz.underlying53 rfl ?_ ?_; kernel_rfl)
  | (refine wpList_load_row rfl _ (.tmp 6) rfl _ rfl _ (ze (yP s)) _ _ ((hb4.block _ (by simp)).trans (heap_alloc_new w3 _)) Tryz.underlying53 rfl ?_ ?_; kernel_rfl)
  | (refine wpList_store_row rfl _ (.tmp 2) _ rfl _ (ze (yP s)) rfl rfl _ _ ((hb4.block _ (by simp <;> omega)).trans ((heap_alloc_old _ _ (by omega)).trans ((hb3.block _ (by omega)).trans ((hb2.block _ (by simp <;> omega)).trans ((heap_alloc_old _ _ hz1).trans HB0.out))))) ?_ ?_ ?_ ?_; kernel_rfl; rfl; kernel_rfl)
  | (refine stN ?_))
 refine bodyPost_ret (zd (cs := ze (yP s)) (fr := (0, 0)) Tryz.results134 _ _ w.heap.size 53 _ ?_ (setRow_heap _ _ _ _ _ _ ((hb4.block _ (by simp <;> omega)).trans ((heap_alloc_old _ _ (by omega)).trans ((hb3.block _ (by omega)).trans ((hb2.block _ (by simp <;> omega)).trans ((heap_alloc_old _ _ hz1).trans HB0.out)))))) Tryz.underlying53 rfl (by kernel_rfl)) rfl ⟨rfl, below_setRow ((((((((Below.refl _ _).alloc (zn _) _).trans (hb1.mono (by simp))).alloc (by omega) _).trans (hb2.mono (by simp <;> omega))).trans (hb3.mono (by omega))).alloc (by omega) _).trans (hb4.mono (by simp <;> omega))) (zn _) _⟩
 rfl
set_option maxRecDepth 100000 in
set_option maxHeartbeats 2000000 in
theorem decode_bad (s : ByteArray) (h0 : 1 ≤ s.size) (hm : s.size ≤ 9223372036854775807) (k : Nat) (hf : fOf (byt s 0) = some k) (hl : zx (byt s 0) ≤ (s.size : Int)) (hv : zy (yP s) = false) (w : World) :
  Calls Tryz.prog 134 #[.string s] w fun e w' => e = .returned (.tuple #[.agg (ze yr), .int .i64 11]) ∧ Below w.heap.size w w' := by
 have hs := yV h0
 have ix : ∀ W, (Instr.index 9 (.string s) (.int .i64 0)).run Tryz.prog W = .ok (.int .u8 (byt s 0)) W := zl s 0 h0
 obtain ⟨b0, b1⟩ := zL s 0
 have hok : (yP s).Ok := rdTo_ok s _ 4
 have hsl := size_len hf (y9 s)
 have hRd := fun W => read_any s (fld (byt s 0) 0) (fld (byt s 0) 1) (fld (byt s 0) 2) (fld (byt s 0) 3) h0 hm
  (fun m hm' => by
   rw [rdTo_len _ _ (y9 s)]
   have h1 := bytesTo_le (y9 s) (fF (fld (byt s 0) 0) (fld (byt s 0) 1) (fld (byt s 0) 2) (fld (byt s 0) 3)) m 4 hm'
   have h2 : ((zw (y9 s) (fF (fld (byt s 0) 0) (fld (byt s 0) 1) (fld (byt s 0) 2) (fld (byt s 0) 3)) 4).length : Int) = zx (byt s 0) := hsl
   omega) W
 have HRD := zh hRd
 have HF := zh hf
 have HV := zh hv
 clear hf hv hRd hsl
 go_enter Tryz.func134, Tryz.ntmps134
 go_wp2_with (first
  | (go_at_call 135; refine (xm _ _).mono ?_; rintro e w1 ⟨rfl, hb1⟩; rw [HF.out, Option.isSome_some]; have hz1 := hb1.size; simp at hz1; have hB0 := (hb1.block w.heap.size (by simp)).trans (heap_alloc_new w _); have HB0 := zh hB0; clear hB0)
  | (go_at_call 133; refine (size_any _ b0 b1 _).mono ?_; rintro e w2 ⟨rfl, hb2⟩; have hz2 := hb2.size; simp at hz2; have hc2 := fun o => cell_of_row w2 w1.heap.size o _ _ _ ((hb2.block _ (by simp)).trans (heap_alloc_new w1 _)))
  | (go_at_call 138; refine (HRD.out _).mono ?_; rintro e w3 ⟨rfl, hb3⟩; have hz3 := hb3.size; clear hc2)
  | (go_at_call 119; refine (xd (yP s) hok _).mono ?_; rintro e w4 ⟨rfl, hb4⟩; rw [HV.out]; have hz4 := hb4.size; simp at hz4)
  | (refine wpList_load_row rfl _ (.tmp 6) rfl _ rfl _ (ze (yP s)) _ _ (heap_alloc_new w3 _) Tryz.underlying53 rfl ?_ ?_; kernel_rfl)
  | (refine wpList_load_row rfl _ (.tmp 6) rfl _ rfl _ (ze (yP s)) _ _ ((hb4.block _ (by simp)).trans (heap_alloc_new w3 _)) Tryz.underlying53 rfl ?_ ?_; kernel_rfl)
  | (refine wpList_store_row rfl _ (.tmp 2) _ rfl _ (ze yr) rfl rfl _ _ ((hb4.block _ (by simp <;> omega)).trans ((heap_alloc_old _ _ (by omega)).trans ((hb3.block _ (by omega)).trans ((hb2.block _ (by simp <;> omega)).trans ((heap_alloc_old _ _ hz1).trans HB0.out))))) ?_ ?_ ?_ ?_; kernel_rfl; rfl; kernel_rfl)
  | (refine stN ?_))
 refine bodyPost_ret (zd (cs := ze yr) (fr := (0, 0)) Tryz.results134 _ _ w.heap.size 53 _ ?_ (setRow_heap _ _ _ _ _ _ ((hb4.block _ (by simp <;> omega)).trans ((heap_alloc_old _ _ (by omega)).trans ((hb3.block _ (by omega)).trans ((hb2.block _ (by simp <;> omega)).trans ((heap_alloc_old _ _ hz1).trans HB0.out)))))) Tryz.underlying53 rfl (by kernel_rfl)) rfl ⟨rfl, below_setRow ((((((((Below.refl _ _).alloc (zn _) _).trans (hb1.mono (by simp))).alloc (by omega) _).trans (hb2.mono (by simp <;> omega))).trans (hb3.mono (by omega))).alloc (by omega) _).trans (hb4.mono (by simp <;> omega))) (zn _) _⟩
 rfl
theorem decode_any (s : ByteArray) (hm : s.size ≤ 9223372036854775807) (w : World) :
  Calls Tryz.prog 134 #[.string s] w fun e w' => e = .returned (.tuple #[.agg (ze (xa s)), .int .i64 (xL s)]) ∧ Below w.heap.size w w' := by
 by_cases h0 : s.size = 0
 ·have he : xL s = 10 := by unfold xL; rw [if_pos h0]
  have hd : xa s = yr := by unfold xa; rw [he]; rfl
  rw [hd, he]; exact decode_empty s h0 w
 ·cases hf : fOf (byt s 0) with
  | none =>
   have he : xL s = 11 := by unfold xL; rw [if_neg h0, hf]; rfl
   have hd : xa s = yr := by unfold xa; rw [he]; rfl
   rw [hd, he]; exact decode_none s (by omega) hf w
  | some k =>
   by_cases hl : (s.size : Int) < zx (byt s 0)
   ·have he : xL s = 10 := by unfold xL; rw [if_neg h0, hf]; simp [hl]
    have hd : xa s = yr := by unfold xa; rw [he]; rfl
    rw [hd, he]; exact decode_short s (by omega) hm k hf hl w
   ·cases hv : zy (yP s) with
    | true =>
     have he : xL s = 0 := by unfold xL; rw [if_neg h0, hf, hv]; simp [hl]
     have hd : xa s = yP s := by unfold xa; rw [he]; rfl
     rw [hd, he]; exact decode_good s (by omega) hm k hf (by omega) hv w
    | false =>
     have he : xL s = 11 := by unfold xL; rw [if_neg h0, hf, hv]; simp [hl]
     have hd : xa s = yr := by unfold xa; rw [he]; rfl
     rw [hd, he]; exact decode_bad s (by omega) hm k hf (by omega) hv w
end Go.Proofs.YteofmaiojepdkaaGreat
