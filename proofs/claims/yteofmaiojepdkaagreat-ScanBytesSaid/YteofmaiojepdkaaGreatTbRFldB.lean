/- Seen, Target of the reference: walked; they answer as package isa's. Condition: the fields lie in their types' ranges. -/
import Derived.Test.YteofmaiojepdkaaGreatTbRelyZ
import Derived.Test.YteofmaiojepdkaaGreatTbRFld1
import Derived.Test.YteofmaiojepdkaaGreatTbRFld2
import Derived.Test.YteofmaiojepdkaaGreatTbRFld3
set_option linter.all false
namespace Go.Proofs.YteofmaiojepdkaaGreat
open Go.RowKit
theorem rfields_any (s : ByteArray) (hf : zq (byt s 0) ≠ 0) (hs : zc (byt s 0) ≤ s.size) (hm : s.size ≤ 9223372036854775807) (w : World) :
  Calls Tryz.prog 84 #[.string s] w fun e w' => e = .returned (.agg (ze (yP s))) ∧ Below w.heap.size w w' := by
 rw [readB_eq s hf]
 have hr : zc (byt s 0) = y4.getD (zq (byt s 0)).toNat 0 := rfl
 rw [hr] at hs
 rcases fmt18' _ hf with e | e | e | e | e | e | e | e | e | e | e | e | e | e | e | e | e | e <;> (rw [e] at hs; simp [y4] at hs)
 ·exact rfields_g0 s (by omega) hm w
 ·exact rfields_g0 s (by omega) hm w
 ·exact rfields_g0 s (by omega) hm w
 ·exact rfields_g0 s (by omega) hm w
 ·exact rfields_g0 s (by omega) hm w
 ·exact rfields_g1 s (by omega) hm w
 ·exact rfields_g1 s (by omega) hm w
 ·exact rfields_g2 s (by omega) hm w
 ·exact rfields_g1 s (by omega) hm w
 ·exact rfields_g2 s (by omega) hm w
 ·exact rfields_g2 s (by omega) hm w
 ·exact rfields_g2 s (by omega) hm w
 ·exact rfields_g3 s (by omega) hm w
 ·exact rfields_g1 s (by omega) hm w
 ·exact rfields_g3 s (by omega) hm w
 ·exact rfields_g3 s (by omega) hm w
 ·exact rfields_g3 s (by omega) hm w
 ·exact rfields_g1 s (by omega) hm w
set_option maxRecDepth 100000 in
set_option maxHeartbeats 1000000 in
theorem rdecode_empty (s : ByteArray) (h0 : s.size = 0) (w : World) :
  Calls Tryz.prog 57 #[.string s] w fun e w' => e = .returned (.tuple #[.agg (ze yr), .int .i64 10]) ∧ Below w.heap.size w w' := by
 go_enter Tryz.func57, Tryz.ntmps57
 go_wp2_with (first | (refine stN ?_))
 refine bodyPost_ret (zd (cs := ze yr) (fr := (0, 0)) Tryz.results57 _ _ w.heap.size 53 _ ?_ (heap_alloc_new _ _) Tryz.underlying53 rfl (by kernel_rfl)) rfl ⟨rfl, (Below.refl _ _).alloc (zn _) _⟩
 rfl
set_option maxRecDepth 100000 in
set_option maxHeartbeats 1000000 in
theorem rdecode_none (s : ByteArray) (h0 : 1 ≤ s.size) (hm : s.size ≤ 9223372036854775807) (hf : zc (byt s 0) = 0) (w : World) :
  Calls Tryz.prog 57 #[.string s] w fun e w' => e = .returned (.tuple #[.agg (ze yr), .int .i64 11]) ∧ Below w.heap.size w w' := by
 have ix : ∀ W, (Instr.index 9 (.string s) (.int .i64 0)).run Tryz.prog W = .ok (.int .u8 (byt s 0)) W := zl s 0 h0
 have hne : ((s.size : Int) == 0) = false := beq_eq_false_iff_ne.2 (by omega)
 obtain ⟨b0, b1⟩ := zL s 0
 have HF := zh hf
 clear hf
 go_enter Tryz.func57, Tryz.ntmps57
 go_wp2_with (first
  | (go_at_call 56; refine (yH _ b0 b1 _).mono ?_; rintro e w1 ⟨rfl, hb1⟩; rw [HF.out]; have HB0 := zh ((hb1.block w.heap.size (by simp)).trans (heap_alloc_new w _)))
  | (refine wpList_store_row rfl _ (.tmp 2) _ rfl _ (ze yr) rfl rfl _ _ HB0.out ?_ ?_ ?_ ?_; kernel_rfl; rfl; kernel_rfl))
 refine bodyPost_ret (zd (cs := ze yr) (fr := (0, 0)) Tryz.results57 _ _ w.heap.size 53 _ ?_ (setRow_heap _ _ _ _ _ _ HB0.out) Tryz.underlying53 rfl (by kernel_rfl)) rfl ⟨rfl, below_setRow (((Below.refl _ _).alloc (zn _) _).trans (hb1.mono (by simp))) (zn _) _⟩
 rfl
set_option maxRecDepth 100000 in
set_option maxHeartbeats 1000000 in
theorem rdecode_short (s : ByteArray) (h0 : 1 ≤ s.size) (hm : s.size ≤ 9223372036854775807) (hf : zc (byt s 0) ≠ 0) (hl : (s.size : Int) < zc (byt s 0)) (w : World) :
  Calls Tryz.prog 57 #[.string s] w fun e w' => e = .returned (.tuple #[.agg (ze yr), .int .i64 10]) ∧ Below w.heap.size w w' := by
 have ix : ∀ W, (Instr.index 9 (.string s) (.int .i64 0)).run Tryz.prog W = .ok (.int .u8 (byt s 0)) W := zl s 0 h0
 have hne : ((s.size : Int) == 0) = false := beq_eq_false_iff_ne.2 (by omega)
 have hnz : (zc (byt s 0) == 0) = false := by simpa using hf
 have hd : decide ((s.size : Int) < zc (byt s 0)) = true := decide_eq_true hl
 obtain ⟨b0, b1⟩ := zL s 0
 clear hf
 go_enter Tryz.func57, Tryz.ntmps57
 go_wp2_with (first
  | (go_at_call 56; refine (yH _ b0 b1 _).mono ?_; rintro e w1 ⟨rfl, hb1⟩; have HB0 := zh ((hb1.block w.heap.size (by simp)).trans (heap_alloc_new w _)))
  | (refine wpList_store_row rfl _ (.tmp 2) _ rfl _ (ze yr) rfl rfl _ _ HB0.out ?_ ?_ ?_ ?_; kernel_rfl; rfl; kernel_rfl))
 refine bodyPost_ret (zd (cs := ze yr) (fr := (0, 0)) Tryz.results57 _ _ w.heap.size 53 _ ?_ (setRow_heap _ _ _ _ _ _ HB0.out) Tryz.underlying53 rfl (by kernel_rfl)) rfl ⟨rfl, below_setRow (((Below.refl _ _).alloc (zn _) _).trans (hb1.mono (by simp))) (zn _) _⟩
 rfl
set_option maxRecDepth 100000 in
set_option maxHeartbeats 2000000 in
theorem rdecode_good (s : ByteArray) (h0 : 1 ≤ s.size) (hm : s.size ≤ 9223372036854775807) (hf : zq (byt s 0) ≠ 0) (hnz0 : zc (byt s 0) ≠ 0) (hl : zc (byt s 0) ≤ (s.size : Int)) (hv : zu (yP s) = true) (w : World) :
  Calls Tryz.prog 57 #[.string s] w fun e w' => e = .returned (.tuple #[.agg (ze (yP s)), .int .i64 0]) ∧ Below w.heap.size w w' := by
 have ix : ∀ W, (Instr.index 9 (.string s) (.int .i64 0)).run Tryz.prog W = .ok (.int .u8 (byt s 0)) W := zl s 0 h0
 have hne : ((s.size : Int) == 0) = false := beq_eq_false_iff_ne.2 (by omega)
 have hnz : (zc (byt s 0) == 0) = false := by simpa using hnz0
 have hd : decide ((s.size : Int) < zc (byt s 0)) = false := decide_eq_false (by omega)
 obtain ⟨b0, b1⟩ := zL s 0
 have HRF := zh (fun W => rfields_any s hf hl hm W)
 have HV := zh hv
 clear hf hv hnz0
 go_enter Tryz.func57, Tryz.ntmps57
 go_wp2_with (first
  | (go_at_call 56; refine (yH _ b0 b1 _).mono ?_; rintro e w1 ⟨rfl, hb1⟩; have HB0 := zh ((hb1.block w.heap.size (by simp)).trans (heap_alloc_new w _)); have hz1 := hb1.size; simp at hz1)
  | (go_at_call 84; refine (HRF.out _).mono ?_; rintro e w2 ⟨rfl, hb2⟩; have hz2 := hb2.size; replace HB0 := zh ((hb2.block w.heap.size (by omega)).trans HB0.out))
  | (go_at_call 60; refine (yl (yP s) _).mono ?_; rintro e w3 ⟨rfl, hb3⟩; rw [HV.out]; replace HB0 := zh ((hb3.block w.heap.size (by simp <;> omega)).trans ((heap_alloc_old _ _ (by omega)).trans HB0.out)))
  | (refine wpList_load_row rfl _ (.tmp 5) rfl _ rfl _ (ze (yP s)) _ _ (heap_alloc_new w2 _) Tryz.underlying53 rfl ?_ ?_; kernel_rfl)
  | (refine wpList_load_row rfl _ (.tmp 5) rfl _ rfl _ (ze (yP s)) _ _ ((hb3.block _ (by simp)).trans (heap_alloc_new w2 _)) Tryz.underlying53 rfl ?_ ?_; kernel_rfl)
  | (refine wpList_store_row rfl _ (.tmp 2) _ rfl _ (ze (yP s)) rfl rfl _ _ HB0.out ?_ ?_ ?_ ?_; kernel_rfl; rfl; kernel_rfl)
  | (refine stN ?_))
 refine bodyPost_ret (zd (cs := ze (yP s)) (fr := (0, 0)) Tryz.results57 _ _ w.heap.size 53 _ ?_ (setRow_heap _ _ _ _ _ _ HB0.out) Tryz.underlying53 rfl (by kernel_rfl)) rfl ⟨rfl, below_setRow ((((((Below.refl _ _).alloc (zn _) _).trans (hb1.mono (by simp))).trans (hb2.mono (by omega))).alloc (by omega) _).trans (hb3.mono (by simp <;> omega))) (zn _) _⟩
 rfl
set_option maxRecDepth 100000 in
set_option maxHeartbeats 2000000 in
theorem rdecode_bad (s : ByteArray) (h0 : 1 ≤ s.size) (hm : s.size ≤ 9223372036854775807) (hf : zq (byt s 0) ≠ 0) (hnz0 : zc (byt s 0) ≠ 0) (hl : zc (byt s 0) ≤ (s.size : Int)) (hv : zu (yP s) = false) (w : World) :
  Calls Tryz.prog 57 #[.string s] w fun e w' => e = .returned (.tuple #[.agg (ze yr), .int .i64 11]) ∧ Below w.heap.size w w' := by
 have ix : ∀ W, (Instr.index 9 (.string s) (.int .i64 0)).run Tryz.prog W = .ok (.int .u8 (byt s 0)) W := zl s 0 h0
 have hne : ((s.size : Int) == 0) = false := beq_eq_false_iff_ne.2 (by omega)
 have hnz : (zc (byt s 0) == 0) = false := by simpa using hnz0
 have hd : decide ((s.size : Int) < zc (byt s 0)) = false := decide_eq_false (by omega)
 obtain ⟨b0, b1⟩ := zL s 0
 have HRF := zh (fun W => rfields_any s hf hl hm W)
 have HV := zh hv
 clear hf hv hnz0
 go_enter Tryz.func57, Tryz.ntmps57
 go_wp2_with (first
  | (go_at_call 56; refine (yH _ b0 b1 _).mono ?_; rintro e w1 ⟨rfl, hb1⟩; have HB0 := zh ((hb1.block w.heap.size (by simp)).trans (heap_alloc_new w _)); have hz1 := hb1.size; simp at hz1)
  | (go_at_call 84; refine (HRF.out _).mono ?_; rintro e w2 ⟨rfl, hb2⟩; have hz2 := hb2.size; replace HB0 := zh ((hb2.block w.heap.size (by omega)).trans HB0.out))
  | (go_at_call 60; refine (yl (yP s) _).mono ?_; rintro e w3 ⟨rfl, hb3⟩; rw [HV.out]; replace HB0 := zh ((hb3.block w.heap.size (by simp <;> omega)).trans ((heap_alloc_old _ _ (by omega)).trans HB0.out)))
  | (refine wpList_load_row rfl _ (.tmp 5) rfl _ rfl _ (ze (yP s)) _ _ (heap_alloc_new w2 _) Tryz.underlying53 rfl ?_ ?_; kernel_rfl)
  | (refine wpList_load_row rfl _ (.tmp 5) rfl _ rfl _ (ze (yP s)) _ _ ((hb3.block _ (by simp)).trans (heap_alloc_new w2 _)) Tryz.underlying53 rfl ?_ ?_; kernel_rfl)
  | (refine wpList_store_row rfl _ (.tmp 2) _ rfl _ (ze yr) rfl rfl _ _ HB0.out ?_ ?_ ?_ ?_; kernel_rfl; rfl; kernel_rfl)
  | (refine stN ?_))
 refine bodyPost_ret (zd (cs := ze yr) (fr := (0, 0)) Tryz.results57 _ _ w.heap.size 53 _ ?_ (setRow_heap _ _ _ _ _ _ HB0.out) Tryz.underlying53 rfl (by kernel_rfl)) rfl ⟨rfl, below_setRow ((((((Below.refl _ _).alloc (zn _) _).trans (hb1.mono (by simp))).trans (hb2.mono (by omega))).alloc (by omega) _).trans (hb3.mono (by simp <;> omega))) (zn _) _⟩
 rfl
theorem rsize_zero {op : Int} (h : zq op ≠ 0) : 1 ≤ zc op := by
 have h2 := fmt_rng h
 rw [rsize_fmt]
 have : ∀ n : Nat, n ≤ 18 → 1 ≤ n → 1 ≤ y4.getD n 0 := by decide
 exact this _ (by omega) (by omega)
theorem rdecode_any (s : ByteArray) (hm : s.size ≤ 9223372036854775807) (w : World) :
  Calls Tryz.prog 57 #[.string s] w fun e w' => e = .returned (.tuple #[.agg (ze (xa s)), .int .i64 (xL s)]) ∧ Below w.heap.size w w' := by
 by_cases h0 : s.size = 0
 ·have he : xL s = 10 := by unfold xL; rw [if_pos h0]
  have hd : xa s = yr := by unfold xa; rw [he]; rfl
  rw [hd, he]; exact rdecode_empty s h0 w
 by_cases hf : zq (byt s 0) = 0
 ·have he : xL s = 11 := by unfold xL; rw [if_neg h0, fOf_zero hf]; rfl
  have hd : xa s = yr := by unfold xa; rw [he]; rfl
  rw [hd, he]; exact rdecode_none s (by omega) hm (by rw [rsize_fmt, hf]; rfl) w
 ·have hfo := (fOf_some hf).1
  have hr1 := rsize_zero hf
  by_cases hl : (s.size : Int) < zc (byt s 0)
  ·have he : xL s = 10 := by unfold xL; rw [if_neg h0, hfo, size_eq]; simp [hl]
   have hd : xa s = yr := by unfold xa; rw [he]; rfl
   rw [hd, he]; exact rdecode_short s (by omega) hm (by omega) hl w
  ·have hok : (yP s).Ok := rdTo_ok s _ 4
   cases hv : zy (yP s) with
   | true =>
    have he : xL s = 0 := by unfold xL; rw [if_neg h0, hfo, hv, size_eq]; simp [hl]
    have hd : xa s = yP s := by unfold xa; rw [he]; rfl
    rw [hd, he]; exact rdecode_good s (by omega) hm hf (by omega) (by omega) (by rw [← y3 _ hok]; exact hv) w
   | false =>
    have he : xL s = 11 := by unfold xL; rw [if_neg h0, hfo, hv, size_eq]; simp [hl]
    have hd : xa s = yr := by unfold xa; rw [he]; rfl
    rw [hd, he]; exact rdecode_bad s (by omega) hm hf (by omega) (by omega) (by rw [← y3 _ hok]; exact hv) w
end Go.Proofs.YteofmaiojepdkaaGreat
namespace Go.Proofs.YteofmaiojepdkaaGreat
open Go
section
variable {P : Program} {Q : Exit → Act → World → Prop} {ops : Array Oper} {S : World → Prop} {zs : List Nat}
theorem skZ (i : Nat) {oi : Oper} {fuel : Nat} {L : Array Bool} {a : Act} {w : World} (hi : ops[i]? = some oi) (hS : S w)
  (h : xX P ops Q S zs fuel (L.setIfInBounds i true) (a.put oi.dst undef) w)
  (hs : Region.noSelect ops = true := by kernel_rfl) (hf : Region.free .any ops L i = true := by kernel_rfl) (hr : (Region.ready .any ops L).contains i = true := by kernel_rfl) (hz : waitZ ops zs i = true := by kernel_rfl) (hc : shutZ ops L = true := by kernel_rfl)
  (hQ : ∀ c a w, Q (.panic c) (a.put oi.dst undef) w → Q (.panic c) a w := by exact fun _ _ _ h => h) (hw : Region.wanted oi (yielded ops a.tmps) = false := by rfl) : xX P ops Q S zs (fuel + 1) L a w :=
 wpAnyZ_first hi (Region.noSelect_spec hs) hQ hz fuel L a w hc (Region.free_spec hi hf) (by simpa using hr) (.inr ⟨hw, rfl⟩) hS h
end
end Go.Proofs.YteofmaiojepdkaaGreat
namespace Go.Proofs.YteofmaiojepdkaaGreat
open Go.RowKit
theorem win_div (a : Int) (h0 : 0 ≤ a) (h1 : a < 65536) : (a / 4096 == 1) = x4 a := by
 unfold x4
 rw [Bool.eq_iff_iff]
 simp
 omega
theorem rel_fmt : ∀ n : Nat, n < 164 → zq n ≠ 0 → relS n = ((zq n == 10) || (zq n == 11) || (zq n == 13)) ∧ farS n = (zq n == 12) := by decide +kernel
theorem rel_fmt' {op : Int} (h : zq op ≠ 0) : relS op = ((zq op == 10) || (zq op == 11) || (zq op == 13)) ∧ farS op = (zq op == 12) := by
 have h0 := op_of_fmt h
 obtain ⟨n, hn⟩ : ∃ n : Nat, op = n := ⟨op.toNat, by omega⟩
 subst hn
 exact rel_fmt n (by omega) h
def xi (a : Int) (p : zb) : zb × Bool := if x4 a then (if x4 p.addr then (⟨p.bank, a⟩, true) else (⟨0, 0⟩, false)) else (⟨0, a⟩, true)
set_option maxRecDepth 100000 in
set_option maxHeartbeats 1000000 in
theorem seen_out (a : Int) (a0 : 0 ≤ a) (a1 : a < 65536) (p : zb) (p0 : 0 ≤ p.addr) (p1 : p.addr < 65536) (hw : x4 a = false) (w : World) :
  Calls Tryz.prog 83 #[.int .u16 a, .agg #[.int .i64 p.bank, .int .u16 p.addr]] w fun e w' => e = .returned (.tuple #[.agg #[.int .i64 0, .int .u16 a], .bool true]) ∧ Below w.heap.size w w' := by
 have e1 : (a / 4096 == 1) = false := (win_div a a0 a1).trans hw
 have e1' : (a / 4096 != 1) = true := by simp [bne, e1]
 clear hw
 have t1 : a.tdiv 4096 = a / 4096 := Int.tdiv_eq_ediv_of_nonneg a0
 have t2 : p.addr.tdiv 4096 = p.addr / 4096 := Int.tdiv_eq_ediv_of_nonneg p0
 have t3 : IntKind.u16.wrap (a / 4096) = a / 4096 := IntWalk.u16_in _ (by omega)
 have t4 : IntKind.u16.wrap (p.addr / 4096) = p.addr / 4096 := IntWalk.u16_in _ (by omega)
 go_enter Tryz.func83, Tryz.ntmps83
 go_wp2
 refine bodyPost_ret (zd (cs := #[.int .i64 0, .int .u16 a]) (fr := (0, 0)) Tryz.results83 _ _ (w.heap.size + 1) 47 _ ?_ (news_row (w.alloc (.cells #[.int .i64 p.bank, .int .u16 p.addr] 47)) (.cells #[.int .i64 0, .int .u16 a] 47) (by simp)) Tryz.underlying47 rfl (by kernel_rfl)) rfl ⟨rfl, (((Below.refl _ _).alloc (zn _) _).alloc (by simp) _)⟩
 rfl
set_option maxRecDepth 100000 in
set_option maxHeartbeats 1000000 in
theorem seen_in (a : Int) (a0 : 0 ≤ a) (a1 : a < 65536) (p : zb) (p0 : 0 ≤ p.addr) (p1 : p.addr < 65536) (hw : x4 a = true) (hp : x4 p.addr = true) (w : World) :
  Calls Tryz.prog 83 #[.int .u16 a, .agg #[.int .i64 p.bank, .int .u16 p.addr]] w fun e w' => e = .returned (.tuple #[.agg #[.int .i64 p.bank, .int .u16 a], .bool true]) ∧ Below w.heap.size w w' := by
 have e1 : (a / 4096 == 1) = true := (win_div a a0 a1).trans hw
 have e1' : (a / 4096 != 1) = false := by simp [bne, e1]
 have e2 : (p.addr / 4096 == 1) = true := (win_div p.addr p0 p1).trans hp
 clear hw hp
 have t1 : a.tdiv 4096 = a / 4096 := Int.tdiv_eq_ediv_of_nonneg a0
 have t2 : p.addr.tdiv 4096 = p.addr / 4096 := Int.tdiv_eq_ediv_of_nonneg p0
 have t3 : IntKind.u16.wrap (a / 4096) = a / 4096 := IntWalk.u16_in _ (by omega)
 have t4 : IntKind.u16.wrap (p.addr / 4096) = p.addr / 4096 := IntWalk.u16_in _ (by omega)
 go_enter Tryz.func83, Tryz.ntmps83
 go_wp2
 refine bodyPost_ret (zd (cs := #[.int .i64 p.bank, .int .u16 a]) (fr := (0, 0)) Tryz.results83 _ _ (w.heap.size + 1) 47 _ ?_ (news_row (w.alloc (.cells #[.int .i64 p.bank, .int .u16 p.addr] 47)) (.cells #[.int .i64 p.bank, .int .u16 a] 47) (by simp)) Tryz.underlying47 rfl (by kernel_rfl)) rfl ⟨rfl, (((Below.refl _ _).alloc (zn _) _).alloc (by simp) _)⟩
 rfl
set_option maxRecDepth 100000 in
set_option maxHeartbeats 1000000 in
theorem seen_no (a : Int) (a0 : 0 ≤ a) (a1 : a < 65536) (p : zb) (p0 : 0 ≤ p.addr) (p1 : p.addr < 65536) (hw : x4 a = true) (hp : x4 p.addr = false) (w : World) :
  Calls Tryz.prog 83 #[.int .u16 a, .agg #[.int .i64 p.bank, .int .u16 p.addr]] w fun e w' => e = .returned (.tuple #[.agg #[.int .i64 0, .int .u16 0], .bool false]) ∧ Below w.heap.size w w' := by
 have e1 : (a / 4096 == 1) = true := (win_div a a0 a1).trans hw
 have e1' : (a / 4096 != 1) = false := by simp [bne, e1]
 have e2 : (p.addr / 4096 == 1) = false := (win_div p.addr p0 p1).trans hp
 clear hw hp
 have t1 : a.tdiv 4096 = a / 4096 := Int.tdiv_eq_ediv_of_nonneg a0
 have t2 : p.addr.tdiv 4096 = p.addr / 4096 := Int.tdiv_eq_ediv_of_nonneg p0
 have t3 : IntKind.u16.wrap (a / 4096) = a / 4096 := IntWalk.u16_in _ (by omega)
 have t4 : IntKind.u16.wrap (p.addr / 4096) = p.addr / 4096 := IntWalk.u16_in _ (by omega)
 go_enter Tryz.func83, Tryz.ntmps83
 go_wp2
 refine bodyPost_ret (zd (cs := #[.int .i64 0, .int .u16 0]) (fr := (0, 0)) Tryz.results83 _ _ (w.heap.size + 1) 47 _ ?_ (news_row (w.alloc (.cells #[.int .i64 p.bank, .int .u16 p.addr] 47)) (.cells #[.int .i64 0, .int .u16 0] 47) (by simp)) Tryz.underlying47 rfl (by kernel_rfl)) rfl ⟨rfl, (((Below.refl _ _).alloc (zn _) _).alloc (by simp) _)⟩
 rfl
theorem seen_any (a : Int) (a0 : 0 ≤ a) (a1 : a < 65536) (p : zb) (p0 : 0 ≤ p.addr) (p1 : p.addr < 65536) (w : World) :
  Calls Tryz.prog 83 #[.int .u16 a, .agg #[.int .i64 p.bank, .int .u16 p.addr]] w fun e w' => e = .returned (.tuple #[.agg #[.int .i64 (xi a p).1.bank, .int .u16 (xi a p).1.addr], .bool (xi a p).2]) ∧ Below w.heap.size w w' := by
 unfold xi
 cases hw : x4 a with
 | false => exact seen_out a a0 a1 p p0 p1 hw w
 | true =>
  cases hp : x4 p.addr with
  | true => exact seen_in a a0 a1 p p0 p1 hw hp w
  | false => exact seen_no a a0 a1 p p0 p1 hw hp w
theorem target_seen (i : Ins) (p : zb) (hv : zy i = true) (hf : zq i.op ≠ 0) : zU i p = if (zq i.op == 10) || (zq i.op == 11) || (zq i.op == 13) then xi (tgt i p) p else if zq i.op == 12 then (if x4 i.imm then (⟨i.bank, i.imm⟩, true) else (⟨0, i.imm⟩, true)) else (⟨0, 0⟩, false) := by
 unfold zU xi
 rw [if_pos hv, (rel_fmt' hf).1, (rel_fmt' hf).2]
set_option maxRecDepth 100000 in
set_option maxHeartbeats 1000000 in
theorem rtarget_bad (i : Ins) (hi : i.Ok) (p : zb) (p0 : 0 ≤ p.addr) (p1 : p.addr < 65536) (hv : zy i = false) (w : World) :
  Calls Tryz.prog 52 #[.agg #[.int .i64 (i).op, .int .i64 (i).d, .int .i64 (i).s, .int .u16 (i).imm, .int .u16 (i).aux, .int .i64 (i).bank, .int .i64 (i).size], .agg #[.int .i64 p.bank, .int .u16 p.addr]] w fun e w' => e = .returned (.tuple #[.agg #[.int .i64 0, .int .u16 0], .bool false]) ∧ Below w.heap.size w w' := by
 have HH := zh (THeld.first i p w)
 rw [y3 i hi] at hv
 have HV := zh hv
 clear hv
 go_enter Tryz.func52, Tryz.ntmps52
 go_wp2_with (first
  | (refine wpList_load_row rfl _ (.tmp 2) rfl _ rfl _ _ _ _ HH.out.b0 Tryz.underlying53 rfl ?_ ?_; kernel_rfl)
  | (go_at_call 60; refine (yl i _).mono ?_; rintro e w2 ⟨rfl, hb2⟩; rw [HV.out]; have HH := zh (HH.out.stay hb2); have hci := HH.out.ci; have hcp := HH.out.cp; clear hb2)
  | (go_at_call 59; refine (xo _ _).mono ?_; rintro e w3 ⟨rfl, hb3⟩; replace HH := zh (HH.out.stay hb3); clear hci hcp; have hci := HH.out.ci; have hcp := HH.out.cp; clear hb3)
  | (refine wpList_store_row rfl _ (.tmp 4) _ rfl _ #[.int .i64 0, .int .u16 0] rfl rfl _ _ HH.out.br ?_ ?_ ?_ ?_; kernel_rfl; rfl; kernel_rfl))
 refine bodyPost_ret (zd (cs := #[.int .i64 0, .int .u16 0]) (fr := (0, 0)) Tryz.results52 _ _ (w.heap.size + 2) 47 _ ?_ (setRow_heap _ _ _ _ _ _ HH.out.br) Tryz.underlying47 rfl (by kernel_rfl)) rfl ⟨rfl, below_setRow HH.out.bb (by omega) _⟩
 rfl
set_option maxRecDepth 100000 in
set_option maxHeartbeats 1000000 in
theorem rtarget_rel10 (i : Ins) (hi : i.Ok) (p : zb) (p0 : 0 ≤ p.addr) (p1 : p.addr < 65536) (hv : zy i = true) (hf : zq i.op = 10) (w : World) :
  Calls Tryz.prog 52 #[.agg #[.int .i64 (i).op, .int .i64 (i).d, .int .i64 (i).s, .int .u16 (i).imm, .int .u16 (i).aux, .int .i64 (i).bank, .int .i64 (i).size], .agg #[.int .i64 p.bank, .int .u16 p.addr]] w fun e w' => e = .returned (.tuple #[.agg #[.int .i64 (xi (tgt i p) p).1.bank, .int .u16 (xi (tgt i p) p).1.addr], .bool (xi (tgt i p) p).2]) ∧ Below w.heap.size w w' := by
 have HH := zh (THeld.first i p w)
 rw [y3 i hi] at hv
 have HV := zh hv
 have hz := xV hi (by rw [y3 i hi]; exact hv)
 obtain ⟨s0, s1⟩ := hz
 have HF := zh hf
 have HTG := zh (tgt_eq i p)
 clear hv hf
 go_enter Tryz.func52, Tryz.ntmps52
 go_wp2_with (first
  | (refine wpList_load_row rfl _ (.tmp 2) rfl _ rfl _ _ _ _ HH.out.b0 Tryz.underlying53 rfl ?_ ?_; kernel_rfl)
  | (go_at_call 60; refine (yl i _).mono ?_; rintro e w2 ⟨rfl, hb2⟩; rw [HV.out]; have HH := zh (HH.out.stay hb2); have hci := HH.out.ci; have hcp := HH.out.cp; clear hb2)
  | (go_at_call 59; refine (xo _ _).mono ?_; rintro e w3 ⟨rfl, hb3⟩; rw [HF.out]; replace HH := zh (HH.out.stay hb3); clear hci hcp; have hci := HH.out.ci; have hcp := HH.out.cp; clear hb3)
  | (refine wpList_load_row rfl _ (.tmp 3) rfl _ rfl _ _ _ _ HH.out.bp Tryz.underlying47 rfl ?_ ?_; kernel_rfl)
  | (go_at_call 83; rw [HTG.out]; refine (seen_any (tgt i p) (tgt_lo i p) (tgt_hi i p) p p0 p1 _).mono ?_; rintro e w4 ⟨rfl, hb4⟩; replace HH := zh (HH.out.stay hb4); clear hci hcp hb4)
  | (refine wpList_store_row rfl _ (.tmp 4) _ rfl _ #[.int .i64 (xi (tgt i p) p).1.bank, .int .u16 (xi (tgt i p) p).1.addr] rfl rfl _ _ HH.out.br ?_ ?_ ?_ ?_; kernel_rfl; rfl; kernel_rfl))
 refine bodyPost_ret (zd (cs := #[.int .i64 (xi (tgt i p) p).1.bank, .int .u16 (xi (tgt i p) p).1.addr]) (fr := (0, 0)) Tryz.results52 _ _ (w.heap.size + 2) 47 _ ?_ (setRow_heap _ _ _ _ _ _ HH.out.br) Tryz.underlying47 rfl (by kernel_rfl)) rfl ⟨rfl, below_setRow HH.out.bb (by omega) _⟩
 rfl
set_option maxRecDepth 100000 in
set_option maxHeartbeats 1000000 in
theorem rtarget_rel11 (i : Ins) (hi : i.Ok) (p : zb) (p0 : 0 ≤ p.addr) (p1 : p.addr < 65536) (hv : zy i = true) (hf : zq i.op = 11) (w : World) :
  Calls Tryz.prog 52 #[.agg #[.int .i64 (i).op, .int .i64 (i).d, .int .i64 (i).s, .int .u16 (i).imm, .int .u16 (i).aux, .int .i64 (i).bank, .int .i64 (i).size], .agg #[.int .i64 p.bank, .int .u16 p.addr]] w fun e w' => e = .returned (.tuple #[.agg #[.int .i64 (xi (tgt i p) p).1.bank, .int .u16 (xi (tgt i p) p).1.addr], .bool (xi (tgt i p) p).2]) ∧ Below w.heap.size w w' := by
 have HH := zh (THeld.first i p w)
 rw [y3 i hi] at hv
 have HV := zh hv
 have hz := xV hi (by rw [y3 i hi]; exact hv)
 obtain ⟨s0, s1⟩ := hz
 have HF := zh hf
 have HTG := zh (tgt_eq i p)
 clear hv hf
 go_enter Tryz.func52, Tryz.ntmps52
 go_wp2_with (first
  | (refine wpList_load_row rfl _ (.tmp 2) rfl _ rfl _ _ _ _ HH.out.b0 Tryz.underlying53 rfl ?_ ?_; kernel_rfl)
  | (go_at_call 60; refine (yl i _).mono ?_; rintro e w2 ⟨rfl, hb2⟩; rw [HV.out]; have HH := zh (HH.out.stay hb2); have hci := HH.out.ci; have hcp := HH.out.cp; clear hb2)
  | (go_at_call 59; refine (xo _ _).mono ?_; rintro e w3 ⟨rfl, hb3⟩; rw [HF.out]; replace HH := zh (HH.out.stay hb3); clear hci hcp; have hci := HH.out.ci; have hcp := HH.out.cp; clear hb3)
  | (refine wpList_load_row rfl _ (.tmp 3) rfl _ rfl _ _ _ _ HH.out.bp Tryz.underlying47 rfl ?_ ?_; kernel_rfl)
  | (go_at_call 83; rw [HTG.out]; refine (seen_any (tgt i p) (tgt_lo i p) (tgt_hi i p) p p0 p1 _).mono ?_; rintro e w4 ⟨rfl, hb4⟩; replace HH := zh (HH.out.stay hb4); clear hci hcp hb4)
  | (refine wpList_store_row rfl _ (.tmp 4) _ rfl _ #[.int .i64 (xi (tgt i p) p).1.bank, .int .u16 (xi (tgt i p) p).1.addr] rfl rfl _ _ HH.out.br ?_ ?_ ?_ ?_; kernel_rfl; rfl; kernel_rfl))
 refine bodyPost_ret (zd (cs := #[.int .i64 (xi (tgt i p) p).1.bank, .int .u16 (xi (tgt i p) p).1.addr]) (fr := (0, 0)) Tryz.results52 _ _ (w.heap.size + 2) 47 _ ?_ (setRow_heap _ _ _ _ _ _ HH.out.br) Tryz.underlying47 rfl (by kernel_rfl)) rfl ⟨rfl, below_setRow HH.out.bb (by omega) _⟩
 rfl
set_option maxRecDepth 100000 in
set_option maxHeartbeats 1000000 in
theorem rtarget_rel13 (i : Ins) (hi : i.Ok) (p : zb) (p0 : 0 ≤ p.addr) (p1 : p.addr < 65536) (hv : zy i = true) (hf : zq i.op = 13) (w : World) :
  Calls Tryz.prog 52 #[.agg #[.int .i64 (i).op, .int .i64 (i).d, .int .i64 (i).s, .int .u16 (i).imm, .int .u16 (i).aux, .int .i64 (i).bank, .int .i64 (i).size], .agg #[.int .i64 p.bank, .int .u16 p.addr]] w fun e w' => e = .returned (.tuple #[.agg #[.int .i64 (xi (tgt i p) p).1.bank, .int .u16 (xi (tgt i p) p).1.addr], .bool (xi (tgt i p) p).2]) ∧ Below w.heap.size w w' := by
 have HH := zh (THeld.first i p w)
 rw [y3 i hi] at hv
 have HV := zh hv
 have hz := xV hi (by rw [y3 i hi]; exact hv)
 obtain ⟨s0, s1⟩ := hz
 have HF := zh hf
 have HTG := zh (tgt_eq i p)
 clear hv hf
 go_enter Tryz.func52, Tryz.ntmps52
 go_wp2_with (first
  | (refine wpList_load_row rfl _ (.tmp 2) rfl _ rfl _ _ _ _ HH.out.b0 Tryz.underlying53 rfl ?_ ?_; kernel_rfl)
  | (go_at_call 60; refine (yl i _).mono ?_; rintro e w2 ⟨rfl, hb2⟩; rw [HV.out]; have HH := zh (HH.out.stay hb2); have hci := HH.out.ci; have hcp := HH.out.cp; clear hb2)
  | (go_at_call 59; refine (xo _ _).mono ?_; rintro e w3 ⟨rfl, hb3⟩; rw [HF.out]; replace HH := zh (HH.out.stay hb3); clear hci hcp; have hci := HH.out.ci; have hcp := HH.out.cp; clear hb3)
  | (refine wpList_load_row rfl _ (.tmp 3) rfl _ rfl _ _ _ _ HH.out.bp Tryz.underlying47 rfl ?_ ?_; kernel_rfl)
  | (go_at_call 83; rw [HTG.out]; refine (seen_any (tgt i p) (tgt_lo i p) (tgt_hi i p) p p0 p1 _).mono ?_; rintro e w4 ⟨rfl, hb4⟩; replace HH := zh (HH.out.stay hb4); clear hci hcp hb4)
  | (refine wpList_store_row rfl _ (.tmp 4) _ rfl _ #[.int .i64 (xi (tgt i p) p).1.bank, .int .u16 (xi (tgt i p) p).1.addr] rfl rfl _ _ HH.out.br ?_ ?_ ?_ ?_; kernel_rfl; rfl; kernel_rfl))
 refine bodyPost_ret (zd (cs := #[.int .i64 (xi (tgt i p) p).1.bank, .int .u16 (xi (tgt i p) p).1.addr]) (fr := (0, 0)) Tryz.results52 _ _ (w.heap.size + 2) 47 _ ?_ (setRow_heap _ _ _ _ _ _ HH.out.br) Tryz.underlying47 rfl (by kernel_rfl)) rfl ⟨rfl, below_setRow HH.out.bb (by omega) _⟩
 rfl
set_option maxRecDepth 100000 in
set_option maxHeartbeats 1000000 in
theorem rtarget_far1 (i : Ins) (hi : i.Ok) (p : zb) (p0 : 0 ≤ p.addr) (p1 : p.addr < 65536) (hv : zy i = true) (hf : zq i.op = 12) (hw : x4 i.imm = true) (w : World) :
  Calls Tryz.prog 52 #[.agg #[.int .i64 (i).op, .int .i64 (i).d, .int .i64 (i).s, .int .u16 (i).imm, .int .u16 (i).aux, .int .i64 (i).bank, .int .i64 (i).size], .agg #[.int .i64 p.bank, .int .u16 p.addr]] w fun e w' => e = .returned (.tuple #[.agg #[.int .i64 i.bank, .int .u16 i.imm], .bool true]) ∧ Below w.heap.size w w' := by
 have HH := zh (THeld.first i p w)
 rw [y3 i hi] at hv
 have HV := zh hv
 have HF := zh hf
 have e1 : (i.imm / 4096 == 1) = true := (win_div i.imm hi.imm.1 hi.imm.2).trans hw
 have m0 := hi.imm.1
 have t1 : i.imm.tdiv 4096 = i.imm / 4096 := Int.tdiv_eq_ediv_of_nonneg m0
 have t3 : IntKind.u16.wrap (i.imm / 4096) = i.imm / 4096 := IntWalk.u16_in _ (by have := hi.imm.2; omega)
 clear hv hf hw
 go_enter Tryz.func52, Tryz.ntmps52
 go_wp2_with (first
  | (refine wpList_load_row rfl _ (.tmp 2) rfl _ rfl _ _ _ _ HH.out.b0 Tryz.underlying53 rfl ?_ ?_; kernel_rfl)
  | (go_at_call 60; refine (yl i _).mono ?_; rintro e w2 ⟨rfl, hb2⟩; rw [HV.out]; have HH := zh (HH.out.stay hb2); have hci := HH.out.ci; have hcp := HH.out.cp; clear hb2)
  | (go_at_call 59; refine (xo _ _).mono ?_; rintro e w3 ⟨rfl, hb3⟩; rw [HF.out]; replace HH := zh (HH.out.stay hb3); clear hci hcp; have hci := HH.out.ci; have hcp := HH.out.cp; clear hb3)
  | (refine wpList_store_row rfl _ (.tmp 4) _ rfl _ #[.int .i64 i.bank, .int .u16 i.imm] rfl rfl _ _ HH.out.br ?_ ?_ ?_ ?_; kernel_rfl; rfl; kernel_rfl))
 refine bodyPost_ret (zd (cs := #[.int .i64 i.bank, .int .u16 i.imm]) (fr := (0, 0)) Tryz.results52 _ _ (w.heap.size + 2) 47 _ ?_ (setRow_heap _ _ _ _ _ _ HH.out.br) Tryz.underlying47 rfl (by kernel_rfl)) rfl ⟨rfl, below_setRow HH.out.bb (by omega) _⟩
 rfl
set_option maxRecDepth 100000 in
set_option maxHeartbeats 1000000 in
theorem rtarget_far0 (i : Ins) (hi : i.Ok) (p : zb) (p0 : 0 ≤ p.addr) (p1 : p.addr < 65536) (hv : zy i = true) (hf : zq i.op = 12) (hw : x4 i.imm = false) (w : World) :
  Calls Tryz.prog 52 #[.agg #[.int .i64 (i).op, .int .i64 (i).d, .int .i64 (i).s, .int .u16 (i).imm, .int .u16 (i).aux, .int .i64 (i).bank, .int .i64 (i).size], .agg #[.int .i64 p.bank, .int .u16 p.addr]] w fun e w' => e = .returned (.tuple #[.agg #[.int .i64 0, .int .u16 i.imm], .bool true]) ∧ Below w.heap.size w w' := by
 have HH := zh (THeld.first i p w)
 rw [y3 i hi] at hv
 have HV := zh hv
 have HF := zh hf
 have e1 : (i.imm / 4096 == 1) = false := (win_div i.imm hi.imm.1 hi.imm.2).trans hw
 have m0 := hi.imm.1
 have t1 : i.imm.tdiv 4096 = i.imm / 4096 := Int.tdiv_eq_ediv_of_nonneg m0
 have t3 : IntKind.u16.wrap (i.imm / 4096) = i.imm / 4096 := IntWalk.u16_in _ (by have := hi.imm.2; omega)
 clear hv hf hw
 go_enter Tryz.func52, Tryz.ntmps52
 go_wp2_with (first
  | (refine wpList_load_row rfl _ (.tmp 2) rfl _ rfl _ _ _ _ HH.out.b0 Tryz.underlying53 rfl ?_ ?_; kernel_rfl)
  | (go_at_call 60; refine (yl i _).mono ?_; rintro e w2 ⟨rfl, hb2⟩; rw [HV.out]; have HH := zh (HH.out.stay hb2); have hci := HH.out.ci; have hcp := HH.out.cp; clear hb2)
  | (go_at_call 59; refine (xo _ _).mono ?_; rintro e w3 ⟨rfl, hb3⟩; rw [HF.out]; replace HH := zh (HH.out.stay hb3); clear hci hcp; have hci := HH.out.ci; have hcp := HH.out.cp; clear hb3)
  | (refine wpList_store_row rfl _ (.tmp 4) _ rfl _ #[.int .i64 0, .int .u16 i.imm] rfl rfl _ _ HH.out.br ?_ ?_ ?_ ?_; kernel_rfl; rfl; kernel_rfl))
 refine bodyPost_ret (zd (cs := #[.int .i64 0, .int .u16 i.imm]) (fr := (0, 0)) Tryz.results52 _ _ (w.heap.size + 2) 47 _ ?_ (setRow_heap _ _ _ _ _ _ HH.out.br) Tryz.underlying47 rfl (by kernel_rfl)) rfl ⟨rfl, below_setRow HH.out.bb (by omega) _⟩
 rfl
set_option maxRecDepth 100000 in
set_option maxHeartbeats 1000000 in
theorem rtarget_none (i : Ins) (hi : i.Ok) (p : zb) (p0 : 0 ≤ p.addr) (p1 : p.addr < 65536) (hv : zy i = true) (h10 : (zq i.op == 10) = false) (h11 : (zq i.op == 11) = false) (h13 : (zq i.op == 13) = false) (h12 : (zq i.op == 12) = false) (w : World) :
  Calls Tryz.prog 52 #[.agg #[.int .i64 (i).op, .int .i64 (i).d, .int .i64 (i).s, .int .u16 (i).imm, .int .u16 (i).aux, .int .i64 (i).bank, .int .i64 (i).size], .agg #[.int .i64 p.bank, .int .u16 p.addr]] w fun e w' => e = .returned (.tuple #[.agg #[.int .i64 0, .int .u16 0], .bool false]) ∧ Below w.heap.size w w' := by
 have HH := zh (THeld.first i p w)
 rw [y3 i hi] at hv
 have HV := zh hv
 clear hv
 go_enter Tryz.func52, Tryz.ntmps52
 go_wp2_with (first
  | (refine wpList_load_row rfl _ (.tmp 2) rfl _ rfl _ _ _ _ HH.out.b0 Tryz.underlying53 rfl ?_ ?_; kernel_rfl)
  | (go_at_call 60; refine (yl i _).mono ?_; rintro e w2 ⟨rfl, hb2⟩; rw [HV.out]; have HH := zh (HH.out.stay hb2); have hci := HH.out.ci; have hcp := HH.out.cp; clear hb2)
  | (go_at_call 59; refine (xo _ _).mono ?_; rintro e w3 ⟨rfl, hb3⟩; replace HH := zh (HH.out.stay hb3); clear hci hcp; have hci := HH.out.ci; have hcp := HH.out.cp; clear hb3)
  | (refine wpList_store_row rfl _ (.tmp 4) _ rfl _ #[.int .i64 0, .int .u16 0] rfl rfl _ _ HH.out.br ?_ ?_ ?_ ?_; kernel_rfl; rfl; kernel_rfl))
 refine bodyPost_ret (zd (cs := #[.int .i64 0, .int .u16 0]) (fr := (0, 0)) Tryz.results52 _ _ (w.heap.size + 2) 47 _ ?_ (setRow_heap _ _ _ _ _ _ HH.out.br) Tryz.underlying47 rfl (by kernel_rfl)) rfl ⟨rfl, below_setRow HH.out.bb (by omega) _⟩
 rfl
theorem rtarget_any (i : Ins) (hi : i.Ok) (p : zb) (p0 : 0 ≤ p.addr) (p1 : p.addr < 65536) (w : World) :
  Calls Tryz.prog 52 #[.agg #[.int .i64 (i).op, .int .i64 (i).d, .int .i64 (i).s, .int .u16 (i).imm, .int .u16 (i).aux, .int .i64 (i).bank, .int .i64 (i).size], .agg #[.int .i64 p.bank, .int .u16 p.addr]] w fun e w' => e = .returned (.tuple #[.agg #[.int .i64 (zU i p).1.bank, .int .u16 (zU i p).1.addr], .bool (zU i p).2]) ∧ Below w.heap.size w w' := by
 cases hv : zy i with
 | false =>
  have e : zU i p = (⟨0, 0⟩, false) := by unfold zU; rw [hv]; rfl
  rw [e]; exact rtarget_bad i hi p p0 p1 hv w
 | true =>
  have hf := (valid_small i hi hv).1
  rw [target_seen i p hv hf]
  by_cases h10 : zq i.op = 10
  ·rw [h10]; exact rtarget_rel10 i hi p p0 p1 hv h10 w
  by_cases h11 : zq i.op = 11
  ·rw [h11]; exact rtarget_rel11 i hi p p0 p1 hv h11 w
  by_cases h13 : zq i.op = 13
  ·rw [h13]; exact rtarget_rel13 i hi p p0 p1 hv h13 w
  have b10 : (zq i.op == 10) = false := by simpa using h10
  have b11 : (zq i.op == 11) = false := by simpa using h11
  have b13 : (zq i.op == 13) = false := by simpa using h13
  rw [b10, b11, b13]
  by_cases h12 : zq i.op = 12
  ·rw [h12]
   cases hw : x4 i.imm with
   | true => exact rtarget_far1 i hi p p0 p1 hv h12 hw w
   | false => exact rtarget_far0 i hi p p0 p1 hv h12 hw w
  ·have b12 : (zq i.op == 12) = false := by simpa using h12
   rw [b12]
   exact rtarget_none i hi p p0 p1 hv b10 b11 b13 b12 w
end Go.Proofs.YteofmaiojepdkaaGreat
