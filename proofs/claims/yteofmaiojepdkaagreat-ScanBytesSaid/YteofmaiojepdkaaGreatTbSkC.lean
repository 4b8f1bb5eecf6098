/- package scan: seen; flow.to. Condition: addresses are words. -/
import Derived.Test.YteofmaiojepdkaaGreatTbRelyZ
import Derived.Test.YteofmaiojepdkaaGreatTbLcS
set_option linter.all false
namespace Go.Proofs.YteofmaiojepdkaaGreat
open Go Go.RowKit Go.Maps
structure Bx (l : List Obj) (w W : World) : Prop where
 at_ : ∀ i o, l[i]? = some o → W.heap[w.heap.size + i]? = some o
 z : w.heap.size + l.length ≤ W.heap.size
 bb : Below w.heap.size w W
section
variable {l : List Obj} {w W W' : World} {a b c d : Obj}
theorem Bx.start (w : World) : Bx [] w w := ⟨fun i o h => by simp at h, zn _, Below.refl _ _⟩
theorem Bx.snoc (h : Bx l w W) (hz : W.heap.size = w.heap.size + l.length) (o : Obj) : Bx (l ++ [o]) w (W.alloc o) := by
 refine ⟨fun i x hx => ?_, by simp; omega, h.bb.alloc h.bb.size _⟩
 by_cases hi : i < l.length
 ·rw [List.getElem?_append_left hi] at hx
  rw [heap_alloc_old _ _ (by omega)]
  exact h.at_ i x hx
 ·have : i = l.length := by
   have := (List.getElem?_eq_some_iff.1 hx).1
   simp at this
   omega
  subst this
  simp only [List.getElem?_concat_length, Option.some.injEq] at hx
  subst hx
  rw [← hz]
  exact heap_alloc_new _ _
theorem Bx.one (w : World) (a : Obj) : Bx [a] w (w.alloc a) := (Bx.start w).snoc rfl a
theorem Bx.two (w : World) (a b : Obj) : Bx [a, b] w ((w.alloc a).alloc b) := (Bx.one w a).snoc (by simp) b
theorem Bx.three (w : World) (a b c : Obj) : Bx [a, b, c] w (((w.alloc a).alloc b).alloc c) := (Bx.two w a b).snoc (by simp) c
theorem Bx.four (w : World) (a b c d : Obj) : Bx [a, b, c, d] w ((((w.alloc a).alloc b).alloc c).alloc d) := (Bx.three w a b c).snoc (by simp) d
theorem Bx.stay (h : Bx l w W) (hb : Below W.heap.size W W') : Bx l w W' :=
 ⟨fun i o hi => za hb (h.at_ i o hi), Nat.le_trans h.z hb.size, h.bb.trans (hb.mono h.bb.size)⟩
theorem Bx.alloc (h : Bx l w W) (o : Obj) : Bx l w (W.alloc o) := h.stay ((Below.refl _ _).alloc (zn _) _)
theorem Bx.b0 (h : Bx (a :: l) w W) : W.heap[w.heap.size]? = some a := h.at_ 0 a rfl
theorem Bx.b1 (h : Bx (a :: b :: l) w W) : W.heap[w.heap.size + 1]? = some b := h.at_ 1 b rfl
theorem Bx.b2 (h : Bx (a :: b :: c :: l) w W) : W.heap[w.heap.size + 2]? = some c := h.at_ 2 c rfl
theorem Bx.b3 (h : Bx (a :: b :: c :: d :: l) w W) : W.heap[w.heap.size + 3]? = some d := h.at_ 3 d rfl
end
theorem isEmpty_nil {s : ByteArray} (h0 : s.size = 0) : s.toList = [] := by
 rw [ByteArray.toList_eq]
 have : s.data.toList.length = 0 := by simpa using h0
 exact List.eq_nil_of_length_eq_zero this
theorem codeI_size (I : zk) (p : zb) (n : Int) : (zK I p n).size ≤ n.toNat := by
 unfold zK
 split
 ·rw [ByteArray.size_extract]; omega
 ·exact Nat.zero_le _
abbrev z6 (I : zk) (ba : Option Addr) (bc : Nat) (da : Option Addr) (dc : Nat) (ra : Option Addr) (rn rc : Nat) : Obj := .cells #[.slice ba I.banks.length bc, .int .u16 I.entry, .int .u16 I.vector, .slice da I.data.length dc, .slice ra rn rc] 31
abbrev zo (p : zb) : Obj := .cells #[.int .i64 p.bank, .int .u16 p.addr] 47
abbrev insB0 : Obj := .cells #[.int .i64 0, .int .i64 0, .int .i64 0, .int .u16 0, .int .u16 0, .int .i64 0, .int .i64 0] 53
set_option maxRecDepth 100000 in
set_option maxHeartbeats 2000000 in
theorem sdecode_any (I : zk) (hI : I.Ok) (ba : Option Addr) (bc : Nat) (da : Option Addr) (dc : Nat) (ra : Option Addr) (rn rc : Nat) (p : zb) (p0 : 0 ≤ p.addr) (p1 : p.addr < 65536) (w : World) (hV : yG w I ba bc da dc) :
  Calls Tryz.prog 118 #[.agg #[.slice ba I.banks.length bc, .int .u16 I.entry, .int .u16 I.vector, .slice da I.data.length dc, .slice ra rn rc], .agg #[.int .i64 p.bank, .int .u16 p.addr]] w fun e w' =>
   e = .returned (.tuple #[.agg (ze (atI I p).1), .int .i64 (atI I p).2]) ∧ Below w.heap.size w w' := by
 have HH := zh (Bx.three w (z6 I ba bc da dc ra rn rc) (zo p) insB0)
 have HV := zh hV
 have HC1 := zh (fun W (hw : yG W I ba bc da dc) => icode_any2 I hI ba bc da dc ra rn rc p p0 p1 1 (by omega) (by omega) W hw)
 have hsb := sizeS_bd (byt (zK I p 1) 0)
 have hbb := zL (zK I p 1) 0
 have hs2 := codeI_size I p (zx (byt (zK I p 1) 0))
 have HC2 := zh (fun W (hw : yG W I ba bc da dc) => icode_any2 I hI ba bc da dc ra rn rc p p0 p1 (zx (byt (zK I p 1) 0)) (by omega) (by omega) W hw)
 have HSZ := zh (fun W => size_any (byt (zK I p 1) 0) hbb.1 hbb.2 W)
 have HDC := zh (fun W => decode_any (zK I p (zx (byt (zK I p 1) 0))) (by omega) W)
 have HN0 := zh (fun (h : xk p (zx (byt (zK I p 1) 0) - 1) = none) W => inext_none p p0 p1 (zx (byt (zK I p 1) 0) - 1) (by omega) (by omega) W h)
 have HN1 := zh (fun q (h : xk p (zx (byt (zK I p 1) 0) - 1) = some q) W => inext_some p p0 p1 (zx (byt (zK I p 1) 0) - 1) (by omega) (by omega) W h)
 have hix : 1 ≤ (zK I p 1).size → ∀ W, (Instr.index 9 (.string (zK I p 1)) (.int .i64 0)).run Tryz.prog W = .ok (.int .u8 (byt (zK I p 1) 0)) W := fun h0 => zl (zK I p 1) 0 h0
 unfold atI
 generalize zK I p 1 = s1 at *
 generalize byt s1 0 = c0 at *
 obtain ⟨c1, c2⟩ := hbb
 generalize hn : zx c0 = n at *
 generalize zK I p n = s2 at *
 clear hn hs2 hV
 by_cases hA : s1.size = 0
 ·rw [if_pos hA]
  have hs := isEmpty_nil hA
  clear hA hix
  go_enter Tryz.func118, Tryz.ntmps118
  go_wp2_with (first
   | (refine ldT 31 (HH.out.b0) ?_)
   | (refine ldT 31 ((HH.out.alloc _).b0) ?_)
   | (refine ldT 47 (HH.out.b1) ?_)
   | (refine ldT 47 ((HH.out.alloc _).b1) ?_)
   | (refine ldT 53 (heap_alloc_new _ _) ?_)
   | (refine stR (HH.out.b2) ?_)
   | (refine stR ((HH.out.alloc _).b2) ?_)
   | (refine stN ?_)
   | (go_at_call 132; (with_reducible refine (HC1.out _ (HV.out.below HH.out.bb)).mono ?_); rintro e w1 ⟨rfl, hb1⟩; have HH := zh (HH.out.stay hb1); clear hb1)
   | (go_at_call 132; (with_reducible refine (HC2.out _ (HV.out.below (HH.out.alloc _).bb)).mono ?_); rintro e w4 ⟨rfl, hb4⟩; have HH := zh ((HH.out.alloc _).stay hb4); clear hb4)
   | (go_at_call 133; refine (HSZ.out _).mono ?_; rintro e w2 ⟨rfl, hb2⟩; have HH := zh (HH.out.stay hb2); clear hb2)
   | (go_at_call 110; refine (HNX.out _).mono ?_; rintro e w3 ⟨rfl, hb3⟩; have HH := zh (HH.out.stay hb3); clear hb3)
   | (go_at_call 134; refine (HDC.out _).mono ?_; rintro e w5 ⟨rfl, hb5⟩; have HH := zh (HH.out.stay hb5); clear hb5))
  (refine bodyPost_ret (zd (cs := ze yr) (fr := (0, 0)) Tryz.results118 _ _ (w.heap.size + 2) 53 _ ?_ (setRow_heap _ _ _ _ _ _ HH.out.b2) Tryz.underlying53 rfl (by kernel_rfl)) rfl ⟨rfl, below_setRow HH.out.bb (by omega) _⟩; rfl)
 rw [if_neg hA]
 have hs := yV (show 1 ≤ s1.size by omega)
 have ix := hix (by omega)
 clear hA hix
 by_cases hB : n = 0
 ·rw [if_pos hB]
  have hB' : (n == 0) = true := by simp [hB]
  clear hB HN0 HN1
  go_enter Tryz.func118, Tryz.ntmps118
  go_wp2_with (first
   | (refine ldT 31 (HH.out.b0) ?_)
   | (refine ldT 31 ((HH.out.alloc _).b0) ?_)
   | (refine ldT 47 (HH.out.b1) ?_)
   | (refine ldT 47 ((HH.out.alloc _).b1) ?_)
   | (refine ldT 53 (heap_alloc_new _ _) ?_)
   | (refine stR (HH.out.b2) ?_)
   | (refine stR ((HH.out.alloc _).b2) ?_)
   | (refine stN ?_)
   | (go_at_call 132; (with_reducible refine (HC1.out _ (HV.out.below HH.out.bb)).mono ?_); rintro e w1 ⟨rfl, hb1⟩; have HH := zh (HH.out.stay hb1); clear hb1)
   | (go_at_call 132; (with_reducible refine (HC2.out _ (HV.out.below (HH.out.alloc _).bb)).mono ?_); rintro e w4 ⟨rfl, hb4⟩; have HH := zh ((HH.out.alloc _).stay hb4); clear hb4)
   | (go_at_call 133; refine (HSZ.out _).mono ?_; rintro e w2 ⟨rfl, hb2⟩; have HH := zh (HH.out.stay hb2); clear hb2)
   | (go_at_call 110; refine (HNX.out _).mono ?_; rintro e w3 ⟨rfl, hb3⟩; have HH := zh (HH.out.stay hb3); clear hb3)
   | (go_at_call 134; refine (HDC.out _).mono ?_; rintro e w5 ⟨rfl, hb5⟩; have HH := zh (HH.out.stay hb5); clear hb5))
  (refine bodyPost_ret (zd (cs := ze yr) (fr := (0, 0)) Tryz.results118 _ _ (w.heap.size + 2) 53 _ ?_ (setRow_heap _ _ _ _ _ _ HH.out.b2) Tryz.underlying53 rfl (by kernel_rfl)) rfl ⟨rfl, below_setRow HH.out.bb (by omega) _⟩; rfl)
 rw [if_neg hB]
 have hB' : (n == 0) = false := by simp [hB]
 have hB1 : 1 ≤ n := by omega
 have hw : IntKind.i64.wrap (n - 1) = n - 1 := IntWalk.i64_in _ (by omega)
 clear hB
 cases hC : xk p (n - 1) with
 | none =>
  rw [if_pos (.inl rfl)]
  have HNX := zh (fun W => HN0.out hC W)
  clear hC HN0 HN1
  go_enter Tryz.func118, Tryz.ntmps118
  go_wp2_with (first
   | (refine ldT 31 (HH.out.b0) ?_)
   | (refine ldT 31 ((HH.out.alloc _).b0) ?_)
   | (refine ldT 47 (HH.out.b1) ?_)
   | (refine ldT 47 ((HH.out.alloc _).b1) ?_)
   | (refine ldT 53 (heap_alloc_new _ _) ?_)
   | (refine stR (HH.out.b2) ?_)
   | (refine stR ((HH.out.alloc _).b2) ?_)
   | (refine stN ?_)
   | (go_at_call 132; (with_reducible refine (HC1.out _ (HV.out.below HH.out.bb)).mono ?_); rintro e w1 ⟨rfl, hb1⟩; have HH := zh (HH.out.stay hb1); clear hb1)
   | (go_at_call 132; (with_reducible refine (HC2.out _ (HV.out.below (HH.out.alloc _).bb)).mono ?_); rintro e w4 ⟨rfl, hb4⟩; have HH := zh ((HH.out.alloc _).stay hb4); clear hb4)
   | (go_at_call 133; refine (HSZ.out _).mono ?_; rintro e w2 ⟨rfl, hb2⟩; have HH := zh (HH.out.stay hb2); clear hb2)
   | (go_at_call 110; refine (HNX.out _).mono ?_; rintro e w3 ⟨rfl, hb3⟩; have HH := zh (HH.out.stay hb3); clear hb3)
   | (go_at_call 134; refine (HDC.out _).mono ?_; rintro e w5 ⟨rfl, hb5⟩; have HH := zh (HH.out.stay hb5); clear hb5))
  (refine bodyPost_ret (zd (cs := ze yr) (fr := (0, 0)) Tryz.results118 _ _ (w.heap.size + 2) 53 _ ?_ (setRow_heap _ _ _ _ _ _ HH.out.b2) Tryz.underlying53 rfl (by kernel_rfl)) rfl ⟨rfl, below_setRow HH.out.bb (by omega) _⟩; rfl)
 | some q =>
  have HNX := zh (fun W => HN1.out q hC W)
  by_cases hD : (s2.size : Int) < n
  ·rw [if_pos (.inr hD)]
   clear hC HN0 HN1
   go_enter Tryz.func118, Tryz.ntmps118
   go_wp2_with (first
    | (refine ldT 31 (HH.out.b0) ?_)
    | (refine ldT 31 ((HH.out.alloc _).b0) ?_)
    | (refine ldT 47 (HH.out.b1) ?_)
    | (refine ldT 47 ((HH.out.alloc _).b1) ?_)
    | (refine ldT 53 (heap_alloc_new _ _) ?_)
    | (refine stR (HH.out.b2) ?_)
    | (refine stR ((HH.out.alloc _).b2) ?_)
    | (refine stN ?_)
    | (go_at_call 132; (with_reducible refine (HC1.out _ (HV.out.below HH.out.bb)).mono ?_); rintro e w1 ⟨rfl, hb1⟩; have HH := zh (HH.out.stay hb1); clear hb1)
    | (go_at_call 132; (with_reducible refine (HC2.out _ (HV.out.below (HH.out.alloc _).bb)).mono ?_); rintro e w4 ⟨rfl, hb4⟩; have HH := zh ((HH.out.alloc _).stay hb4); clear hb4)
    | (go_at_call 133; refine (HSZ.out _).mono ?_; rintro e w2 ⟨rfl, hb2⟩; have HH := zh (HH.out.stay hb2); clear hb2)
    | (go_at_call 110; refine (HNX.out _).mono ?_; rintro e w3 ⟨rfl, hb3⟩; have HH := zh (HH.out.stay hb3); clear hb3)
    | (go_at_call 134; refine (HDC.out _).mono ?_; rintro e w5 ⟨rfl, hb5⟩; have HH := zh (HH.out.stay hb5); clear hb5))
   (refine bodyPost_ret (zd (cs := ze yr) (fr := (0, 0)) Tryz.results118 _ _ (w.heap.size + 2) 53 _ ?_ (setRow_heap _ _ _ _ _ _ HH.out.b2) Tryz.underlying53 rfl (by kernel_rfl)) rfl ⟨rfl, below_setRow HH.out.bb (by omega) _⟩; rfl)
  ·rw [if_neg (by simp [hD])]
   have hD' : n ≤ s2.size := by omega
   clear hC HN0 HN1 hD
   by_cases hE : xL s2 = 0
   ·rw [if_pos hE]
    have hE' : (xL s2 == 0) = true := by simp [hE]
    have hE2 : (xL s2 != 0) = false := by simp [hE]
    generalize xL s2 = e2 at *
    clear hE
    go_enter Tryz.func118, Tryz.ntmps118
    go_wp2_with (first
     | (refine ldT 31 (HH.out.b0) ?_)
     | (refine ldT 31 ((HH.out.alloc _).b0) ?_)
     | (refine ldT 47 (HH.out.b1) ?_)
     | (refine ldT 47 ((HH.out.alloc _).b1) ?_)
     | (refine ldT 53 (heap_alloc_new _ _) ?_)
     | (refine stR (HH.out.b2) ?_)
     | (refine stR ((HH.out.alloc _).b2) ?_)
     | (refine stN ?_)
     | (go_at_call 132; (with_reducible refine (HC1.out _ (HV.out.below HH.out.bb)).mono ?_); rintro e w1 ⟨rfl, hb1⟩; have HH := zh (HH.out.stay hb1); clear hb1)
     | (go_at_call 132; (with_reducible refine (HC2.out _ (HV.out.below (HH.out.alloc _).bb)).mono ?_); rintro e w4 ⟨rfl, hb4⟩; have HH := zh ((HH.out.alloc _).stay hb4); clear hb4)
     | (go_at_call 133; refine (HSZ.out _).mono ?_; rintro e w2 ⟨rfl, hb2⟩; have HH := zh (HH.out.stay hb2); clear hb2)
     | (go_at_call 110; refine (HNX.out _).mono ?_; rintro e w3 ⟨rfl, hb3⟩; have HH := zh (HH.out.stay hb3); clear hb3)
     | (go_at_call 134; refine (HDC.out _).mono ?_; rintro e w5 ⟨rfl, hb5⟩; have HH := zh (HH.out.stay hb5); clear hb5))
    (refine bodyPost_ret (zd (cs := ze (xa s2)) (fr := (0, 0)) Tryz.results118 _ _ (w.heap.size + 2) 53 _ ?_ (setRow_heap _ _ _ _ _ _ (HH.out.alloc _).b2) Tryz.underlying53 rfl (by kernel_rfl)) rfl ⟨rfl, below_setRow (HH.out.alloc _).bb (by omega) _⟩; rfl)
   ·rw [if_neg hE]
    have hE' : (xL s2 == 0) = false := by simp [hE]
    have hE2 : (xL s2 != 0) = true := by simp [hE]
    generalize xL s2 = e2 at *
    clear hE
    go_enter Tryz.func118, Tryz.ntmps118
    go_wp2_with (first
     | (refine ldT 31 (HH.out.b0) ?_)
     | (refine ldT 31 ((HH.out.alloc _).b0) ?_)
     | (refine ldT 47 (HH.out.b1) ?_)
     | (refine ldT 47 ((HH.out.alloc _).b1) ?_)
     | (refine ldT 53 (heap_alloc_new _ _) ?_)
     | (refine stR (HH.out.b2) ?_)
     | (refine stR ((HH.out.alloc _).b2) ?_)
     | (refine stN ?_)
     | (go_at_call 132; (with_reducible refine (HC1.out _ (HV.out.below HH.out.bb)).mono ?_); rintro e w1 ⟨rfl, hb1⟩; have HH := zh (HH.out.stay hb1); clear hb1)
     | (go_at_call 132; (with_reducible refine (HC2.out _ (HV.out.below (HH.out.alloc _).bb)).mono ?_); rintro e w4 ⟨rfl, hb4⟩; have HH := zh ((HH.out.alloc _).stay hb4); clear hb4)
     | (go_at_call 133; refine (HSZ.out _).mono ?_; rintro e w2 ⟨rfl, hb2⟩; have HH := zh (HH.out.stay hb2); clear hb2)
     | (go_at_call 110; refine (HNX.out _).mono ?_; rintro e w3 ⟨rfl, hb3⟩; have HH := zh (HH.out.stay hb3); clear hb3)
     | (go_at_call 134; refine (HDC.out _).mono ?_; rintro e w5 ⟨rfl, hb5⟩; have HH := zh (HH.out.stay hb5); clear hb5))
    (refine bodyPost_ret (zd (cs := ze yr) (fr := (0, 0)) Tryz.results118 _ _ (w.heap.size + 2) 53 _ ?_ (setRow_heap _ _ _ _ _ _ (HH.out.alloc _).b2) Tryz.underlying53 rfl (by kernel_rfl)) rfl ⟨rfl, below_setRow (HH.out.alloc _).bb (by omega) _⟩; rfl)
end Go.Proofs.YteofmaiojepdkaaGreat
namespace Go.Proofs.YteofmaiojepdkaaGreat
open Go Go.RowKit
set_option maxRecDepth 100000 in
theorem eqP_place (a b : zb) (w : World) : (Op.equal 47 (yL a) (yL b)).run Tryz.prog w = .ok (decide (a = b)) w := by
 have h : (Op.equal 47 (yL a) (yL b)).run Tryz.prog w = (if a.bank = b.bank then if a.addr = b.addr then Result.ok true w else Result.ok false w else Result.ok false w) := by
  unfold Op.equal yL
  rw [show Op.maxDepth = 9999 + 1 from rfl, run_equalIn_struct w 9999 _ _ _ (by kernel_rfl) (by kernel_rfl)]
  go_simp
 rw [h]
 by_cases h1 : a.bank = b.bank
 ·by_cases h2 : a.addr = b.addr
  ·rw [if_pos h1, if_pos h2, decide_eq_true (zb.ext' h1 h2)]
  ·rw [if_pos h1, if_neg h2, decide_eq_false (fun e => h2 (by rw [e]))]
 ·rw [if_neg h1, decide_eq_false (fun e => h1 (by rw [e]))]
theorem xj : KeyOk Tryz.prog 47 yL where
 und := ⟨_, Tryz.underlying47, fun a b => .inl rfl⟩
 eql := eqP_place
 chk := fun e a w => by
  unfold yL
  kernel_rfl
 bits := fun a => by
  unfold yL
  simp [Instr.sameBits]
def celV (c : Nat × Nat) : Value := .agg #[.int .i64 c.1, .int .i64 c.2]
set_option maxRecDepth 100000 in
theorem eqP_cell (a b : Nat × Nat) (w : World) : (Op.equal 153 (celV a) (celV b)).run Tryz.prog w = .ok (decide (a = b)) w := by
 have h : (Op.equal 153 (celV a) (celV b)).run Tryz.prog w = (if a.1 = b.1 then if a.2 = b.2 then Result.ok true w else Result.ok false w else Result.ok false w) := by
  unfold Op.equal celV
  rw [show Op.maxDepth = 9999 + 1 from rfl, run_equalIn_struct w 9999 _ _ _ (by kernel_rfl) (by kernel_rfl)]
  go_simp
  simp only [Int.natCast_inj]
 rw [h]
 obtain ⟨a1, a2⟩ := a
 obtain ⟨b1, b2⟩ := b
 by_cases h1 : a1 = b1
 ·by_cases h2 : a2 = b2
  ·rw [if_pos h1, if_pos h2, h1, h2]; simp
  ·rw [if_pos h1, if_neg h2, decide_eq_false (fun e => h2 (by injection e))]
 ·rw [if_neg h1, decide_eq_false (fun e => h1 (by injection e))]
theorem cellKey : KeyOk Tryz.prog 153 celV where
 und := ⟨_, Tryz.underlying153, fun a b => .inl rfl⟩
 eql := eqP_cell
 chk := fun e a w => by
  unfold celV
  kernel_rfl
 bits := fun a => by
  unfold celV
  simp [Instr.sameBits]
def errV (e : Int) : Value := .int .i64 e
theorem errKey : KeyOk Tryz.prog 56 errV where
 und := ⟨_, Tryz.underlying56, fun a b => .inr (by
  unfold errV Instr.sameNow
  simp [BEq.beq, decide])⟩
 eql := fun a b w => by
  unfold Op.equal errV
  rw [show Op.maxDepth = 9999 + 1 from rfl, run_equalIn_int w 9999 _ _ _ _ _ Tryz.underlying56]
  simp [BEq.beq]
 chk := fun e a w => by
  unfold errV
  kernel_rfl
 bits := fun a => by
  unfold errV
  simp [Instr.sameBits]
end Go.Proofs.YteofmaiojepdkaaGreat
namespace Go.Proofs.YteofmaiojepdkaaGreat
open Go Go.RowKit Go.Maps
abbrev plcB0 : Obj := .cells #[.int .i64 0, .int .u16 0] 47
section
variable (a : Int) (a0 : 0 ≤ a) (a1 : a < 65536) (p : zb) (p0 : 0 ≤ p.addr) (p1 : p.addr < 65536) (w : World)
include a0 a1 p0 p1
theorem sseen_some {q : zb} (h : yt a p = some q) : Calls Tryz.prog 131 #[.int .u16 a, .agg #[.int .i64 p.bank, .int .u16 p.addr]] w fun e w' =>
  e = .returned (.tuple #[.agg #[.int .i64 q.bank, .int .u16 q.addr], .bool true]) ∧ Below w.heap.size w w' := by
 have HH := zh (Bx.two w (zo p) plcB0)
 unfold yt at h
 split at h
 ·rename_i hw
  split at h
  ·rename_i hp
   injection h with h
   subst h
   unfold x4 at hw hp
   simp only [Bool.and_eq_true, decide_eq_true_eq] at hw hp
   obtain ⟨b1, b2⟩ := hw
   obtain ⟨b3, b4⟩ := hp
   go_enter Tryz.func131, Tryz.ntmps131
   go_wp2_with (first | (refine stR (HH.out.b1) ?_))
   (refine bodyPost_ret (zd (cs := #[.int .i64 p.bank, .int .u16 a]) (fr := (0, 0)) Tryz.results131 _ _ (w.heap.size + 1) 47 _ ?_ (setRow_heap _ _ _ _ _ _ HH.out.b1) Tryz.underlying47 rfl (by kernel_rfl)) rfl ⟨rfl, below_setRow HH.out.bb (by omega) _⟩; rfl)
  ·cases h
 ·rename_i hw
  injection h with h
  subst h
  have hw2 : a < 4096 ∨ (4096 ≤ a ∧ 8192 ≤ a) := by unfold x4 at hw; simp at hw; omega
  clear hw
  rcases hw2 with b1 | ⟨b1, b2⟩
  ·go_enter Tryz.func131, Tryz.ntmps131
   go_wp2_with (first | (refine stR (HH.out.b1) ?_))
   (refine bodyPost_ret (zd (cs := #[.int .i64 0, .int .u16 a]) (fr := (0, 0)) Tryz.results131 _ _ (w.heap.size + 1) 47 _ ?_ (setRow_heap _ _ _ _ _ _ HH.out.b1) Tryz.underlying47 rfl (by kernel_rfl)) rfl ⟨rfl, below_setRow HH.out.bb (by omega) _⟩; rfl)
  ·go_enter Tryz.func131, Tryz.ntmps131
   go_wp2_with (first | (refine stR (HH.out.b1) ?_))
   (refine bodyPost_ret (zd (cs := #[.int .i64 0, .int .u16 a]) (fr := (0, 0)) Tryz.results131 _ _ (w.heap.size + 1) 47 _ ?_ (setRow_heap _ _ _ _ _ _ HH.out.b1) Tryz.underlying47 rfl (by kernel_rfl)) rfl ⟨rfl, below_setRow HH.out.bb (by omega) _⟩; rfl)
theorem sseen_none (h : yt a p = none) : Calls Tryz.prog 131 #[.int .u16 a, .agg #[.int .i64 p.bank, .int .u16 p.addr]] w fun e w' =>
  e = .returned (.tuple #[.agg #[.int .i64 0, .int .u16 0], .bool false]) ∧ Below w.heap.size w w' := by
 have HH := zh (Bx.two w (zo p) plcB0)
 unfold yt at h
 split at h
 ·rename_i hw
  split at h
  ·cases h
  ·rename_i hp
   unfold x4 at hw
   simp only [Bool.and_eq_true, decide_eq_true_eq] at hw
   obtain ⟨b1, b2⟩ := hw
   have hw2 : p.addr < 4096 ∨ (4096 ≤ p.addr ∧ 8192 ≤ p.addr) := by unfold x4 at hp; simp at hp; omega
   clear hp
   rcases hw2 with b3 | ⟨b3, b4⟩
   ·go_enter Tryz.func131, Tryz.ntmps131
    go_wp2_with (first | (refine stR (HH.out.b1) ?_))
    (refine bodyPost_ret (zd (cs := #[.int .i64 0, .int .u16 0]) (fr := (0, 0)) Tryz.results131 _ _ (w.heap.size + 1) 47 _ ?_ (setRow_heap _ _ _ _ _ _ HH.out.b1) Tryz.underlying47 rfl (by kernel_rfl)) rfl ⟨rfl, below_setRow HH.out.bb (by omega) _⟩; rfl)
   ·go_enter Tryz.func131, Tryz.ntmps131
    go_wp2_with (first | (refine stR (HH.out.b1) ?_))
    (refine bodyPost_ret (zd (cs := #[.int .i64 0, .int .u16 0]) (fr := (0, 0)) Tryz.results131 _ _ (w.heap.size + 1) 47 _ ?_ (setRow_heap _ _ _ _ _ _ HH.out.b1) Tryz.underlying47 rfl (by kernel_rfl)) rfl ⟨rfl, below_setRow HH.out.bb (by omega) _⟩; rfl)
 ·cases h
end
def optV (o : Option zb) : zb × Bool := match o with | some q => (q, true) | none => (⟨0, 0⟩, false)
theorem sseen_any (a : Int) (a0 : 0 ≤ a) (a1 : a < 65536) (p : zb) (p0 : 0 ≤ p.addr) (p1 : p.addr < 65536) (w : World) : Calls Tryz.prog 131 #[.int .u16 a, .agg #[.int .i64 p.bank, .int .u16 p.addr]] w fun e w' =>
  e = .returned (.tuple #[.agg #[.int .i64 (optV (yt a p)).1.bank, .int .u16 (optV (yt a p)).1.addr], .bool (optV (yt a p)).2]) ∧ Below w.heap.size w w' := by
 cases h : yt a p with
 | none => exact sseen_none a a0 a1 p p0 p1 w h
 | some q => exact sseen_some a a0 a1 p p0 p1 w h
def zp (l : List zb) : List Value := l.flatMap yQ
theorem plcsL_len (l : List zb) : (zp l).length = l.length * 2 := by
 induction l with
 | nil => rfl
 | cons x l ih => show (yQ x ++ zp l).length = _; rw [List.length_append, ih, List.length_cons]; simp [yQ]; omega
theorem xx (l m : List zb) : zp (l ++ m) = zp l ++ zp m := by simp [zp]
theorem mem_iss {f : zO} {e : Int} : e ∈ f.iss ↔ (f.xt = true ∧ e = 41) ∨ (f.xb = true ∧ e = 42) ∨ (f.xe = true ∧ e = 45) := by
 unfold zO.iss
 cases f.xt <;> cases f.xb <;> cases f.xe <;> simp
structure yK (B : Nat) (f : zO) (gf gi : Nat) (l : List (Int × Value)) (vn vc vt : Value) (W : World) : Prop where
 blk : W.heap[gf]? = some (.cells #[vn, vc, .map (some gi), vt] 157 (0, 0))
 mp : W.heap[gi]? = some (yc errV l)
 iss : ∀ e, yT e l = if e ∈ f.iss then some (.bool true) else none
 nd : (l.map (·.1)).Nodup
 on : W.ownsRow B 47 2 vn f.nx.length (zp f.nx)
 oc : W.ownsRow B 47 2 vc f.cl.length (zp f.cl)
 ot : W.ownsRow B 47 2 vt f.tb.length (zp f.tb)
 d1 : ∀ k, vn.ownBlock = some k → vc.ownBlock ≠ some k ∧ vt.ownBlock ≠ some k
 d2 : ∀ k, vc.ownBlock = some k → vt.ownBlock ≠ some k
 bf : B ≤ gf
 bi : B ≤ gi
def FlowP (B : Nat) (f : zO) (gf gi : Nat) (w : World) (e : Ending) (w' : World) : Prop := e = .returned (.tuple #[]) ∧ (∃ l vn vc vt, yK B f gf gi l vn vc vt w') ∧ Below B w w'
section
variable {B : Nat} {f : zO} {gf gi : Nat} {l : List (Int × Value)} {vn vc vt : Value} {w w' : World}
theorem yK.below (h : yK B f gf gi l vn vc vt w) (hb : Below w.heap.size w w') : yK B f gf gi l vn vc vt w' :=
 ⟨za hb h.blk, za hb h.mp, h.iss, h.nd, zi h.on (zg.ofBelow (bs := fun _ => False) hb) (fun _ _ e => e), zi h.oc (zg.ofBelow (bs := fun _ => False) hb) (fun _ _ e => e), zi h.ot (zg.ofBelow (bs := fun _ => False) hb) (fun _ _ e => e), h.d1, h.d2, h.bf, h.bi⟩
theorem yK.issue (h : yK B f gf gi l vn vc vt w) {k : Int} {f' : zO} (hm : w'.heap[gi]? = some (yc errV (xG k (.bool true) l))) (hg : w.grownBy w' (some gi))
  (h1 : f'.nx = f.nx) (h2 : f'.cl = f.cl) (h3 : f'.tb = f.tb) (hi : ∀ e, e ∈ f'.iss ↔ e = k ∨ e ∈ f.iss) : yK B f' gf gi (xG k (.bool true) l) vn vc vt w' := by
 have hne : ∀ {v : Value} {n : Nat} {xs : List Value}, w.ownsRow B 47 2 v n xs → w'.ownsRow B 47 2 v n xs := fun ho => ho.kept hg (by
  rcases hv : (_ : Value).ownBlock with _ | x
  ·exact .inl rfl
  ·refine .inr fun e => ?_
   injection e with e
   subst e
   obtain ⟨-, cs, hc⟩ := zz ho _ hv
   rw [h.mp] at hc
   cases hc)
 have hfg : gf ≠ gi := fun e => by have h1 := h.blk; rw [e, h.mp] at h1; cases h1
 refine ⟨?_, hm, fun e => ?_, nodup_put h.nd, by rw [h1]; exact hne h.on, by rw [h2]; exact hne h.oc, by rw [h3]; exact hne h.ot, h.d1, h.d2, h.bf, h.bi⟩
 ·rw [hg.block gf (Array.getElem?_eq_some_iff.1 h.blk).1 (fun e => hfg (by injection e))]; exact h.blk
 ·by_cases he : e = k
  ·subst he
   rw [getL_put_same, if_pos ((hi e).2 (.inl rfl))]
  ·rw [getL_put_ne he, h.iss e]
   by_cases hf : e ∈ f.iss
   ·rw [if_pos hf, if_pos ((hi e).2 (.inr hf))]
   ·rw [if_neg hf, if_neg (fun hx => ((hi e).1 hx).elim he hf)]
end
theorem jd {W W' : World} {B s : Nat} {v : Value} {n : Nat} {xs : List Value} {T U : TypeId} {b : Nat} {cs : Array Value} {fr : Nat × Nat} (ho : W.ownsRow B T s v n xs) (hg : W.grownBy W' v.ownBlock) (h : W.heap[b]? = some (.cells cs U fr)) (hT : U ≠ T) : W'.heap[b]? = some (.cells cs U fr) := by
 rw [hg.block b (Array.getElem?_eq_some_iff.1 h).1 (fun e => by
  obtain ⟨-, c, hc⟩ := zz ho b e.symm
  rw [h] at hc
  injection hc with hc
  injection hc with h1 h2
  exact hT h2)]
 exact h
section
variable {B : Nat} {f : zO} {gf gi : Nat} {l : List (Int × Value)} {vn vc vt : Value} {w w' : World}
theorem yK.next {wa w1 : World} {v' : Value} {ps : List zb} (h : yK B f gf gi l vn vc vt w) (hb : Below w.heap.size w wa) (ho : w1.ownsRow B 47 2 v' (f.nx.length + ps.length) (zp f.nx ++ zp ps)) (hg : wa.grownBy w1 vn.ownBlock) (hv : v'.ownBlock = vn.ownBlock ∨ v'.ownBlock = some wa.heap.size) :
  yK B { f with nx := f.nx ++ ps } gf gi l v' vc vt (w1.setCell ⟨gf, 0, none⟩ v') ∧ w1.heap[gf]? = some (.cells #[vn, vc, .map (some gi), vt] 157 (0, 0)) := by
 have h1 := h.below hb
 have hbl : w1.heap[gf]? = some (.cells #[vn, vc, .map (some gi), vt] 157 (0, 0)) := jd h1.on hg h1.blk (by decide)
 have hmp : w1.heap[gi]? = some (yc errV l) := by
  rw [hg.block gi (Array.getElem?_eq_some_iff.1 h1.mp).1 (fun e => by
   obtain ⟨-, cs, hc⟩ := zz h1.on gi e.symm
   rw [h1.mp] at hc
   cases hc)]
  exact h1.mp
 have hfg : gi ≠ gf := fun e => by rw [e, hbl] at hmp; cases hmp
 have k_oc : w1.ownsRow B 47 2 vc f.cl.length (zp f.cl) := h1.oc.kept hg (by
  cases hk : vc.ownBlock with
  | none => exact .inl rfl
  | some k => exact .inr fun e => (h.d1 k e.symm).1 hk)
 have k_ot : w1.ownsRow B 47 2 vt f.tb.length (zp f.tb) := h1.ot.kept hg (by
  cases hk : vt.ownBlock with
  | none => exact .inl rfl
  | some k => exact .inr fun e => (h.d1 k e.symm).2 hk)
 have hst : ∀ {v : Value} {n : Nat} {xs : List Value}, w1.ownsRow B 47 2 v n xs → (w1.setCell ⟨gf, 0, none⟩ v').ownsRow B 47 2 v n xs := fun ho => zi ho ((zg.refl (fun k => k = gf) w1).setCell _ (fun _ => rfl)) fun k hk e => by
  subst e
  obtain ⟨-, cs, hc⟩ := zz ho _ hk
  rw [hbl] at hc
  injection hc with hc
  injection hc with hc1 hc2
  exact absurd hc2 (by decide)
 refine ⟨⟨?_, ?_, h.iss, h.nd, by rw [xx, List.length_append]; exact hst ho, hst k_oc, hst k_ot, fun k hk => hv.elim (fun e => h.d1 k (e ▸ hk)) (fun e => by
  rw [e] at hk
  injection hk with hk
  subst hk
  exact ⟨fun e2 => by have := (h.oc.lt _ e2).2; have := hb.size; omega, fun e2 => by have := (h.ot.lt _ e2).2; have := hb.size; omega⟩), h.d2, h.bf, h.bi⟩, hbl⟩
 ·have := heap_setCell_same hbl (i := 0) v'
  rw [this]
  rfl
 ·rw [heap_setCell_other hfg]; exact hmp
theorem yK.call {wa w1 : World} {v' : Value} {ps : List zb} (h : yK B f gf gi l vn vc vt w) (hb : Below w.heap.size w wa) (ho : w1.ownsRow B 47 2 v' (f.cl.length + ps.length) (zp f.cl ++ zp ps)) (hg : wa.grownBy w1 vc.ownBlock) (hv : v'.ownBlock = vc.ownBlock ∨ v'.ownBlock = some wa.heap.size) :
  yK B { f with cl := f.cl ++ ps } gf gi l vn v' vt (w1.setCell ⟨gf, 1, none⟩ v') ∧ w1.heap[gf]? = some (.cells #[vn, vc, .map (some gi), vt] 157 (0, 0)) := by
 have h1 := h.below hb
 have hbl : w1.heap[gf]? = some (.cells #[vn, vc, .map (some gi), vt] 157 (0, 0)) := jd h1.oc hg h1.blk (by decide)
 have hmp : w1.heap[gi]? = some (yc errV l) := by
  rw [hg.block gi (Array.getElem?_eq_some_iff.1 h1.mp).1 (fun e => by
   obtain ⟨-, cs, hc⟩ := zz h1.oc gi e.symm
   rw [h1.mp] at hc
   cases hc)]
  exact h1.mp
 have hfg : gi ≠ gf := fun e => by rw [e, hbl] at hmp; cases hmp
 have k_on : w1.ownsRow B 47 2 vn f.nx.length (zp f.nx) := h1.on.kept hg (by
  cases hk : vn.ownBlock with
  | none => exact .inl rfl
  | some k => exact .inr fun e => (h.d1 k hk).1 e.symm)
 have k_ot : w1.ownsRow B 47 2 vt f.tb.length (zp f.tb) := h1.ot.kept hg (by
  cases hk : vt.ownBlock with
  | none => exact .inl rfl
  | some k => exact .inr fun e => h.d2 k e.symm hk)
 have hst : ∀ {v : Value} {n : Nat} {xs : List Value}, w1.ownsRow B 47 2 v n xs → (w1.setCell ⟨gf, 1, none⟩ v').ownsRow B 47 2 v n xs := fun ho => zi ho ((zg.refl (fun k => k = gf) w1).setCell _ (fun _ => rfl)) fun k hk e => by
  subst e
  obtain ⟨-, cs, hc⟩ := zz ho _ hk
  rw [hbl] at hc
  injection hc with hc
  injection hc with hc1 hc2
  exact absurd hc2 (by decide)
 refine ⟨⟨?_, ?_, h.iss, h.nd, hst k_on, by rw [xx, List.length_append]; exact hst ho, hst k_ot, fun k hk => ⟨fun e2 => hv.elim (fun e => (h.d1 k hk).1 (e ▸ e2)) (fun e => by
  rw [e] at e2
  injection e2 with e2
  subst e2
  have := (h.on.lt _ hk).2; have := hb.size; omega), (h.d1 k hk).2⟩, fun k hk => hv.elim (fun e => h.d2 k (e ▸ hk)) (fun e e2 => by
  rw [e] at hk
  injection hk with hk
  subst hk
  have := (h.ot.lt _ e2).2; have := hb.size; omega), h.bf, h.bi⟩, hbl⟩
 ·have := heap_setCell_same hbl (i := 1) v'
  rw [this]
  rfl
 ·rw [heap_setCell_other hfg]; exact hmp
theorem yK.table {wa w1 : World} {v' : Value} {ps : List zb} (h : yK B f gf gi l vn vc vt w) (hb : Below w.heap.size w wa) (ho : w1.ownsRow B 47 2 v' (f.tb.length + ps.length) (zp f.tb ++ zp ps)) (hg : wa.grownBy w1 vt.ownBlock) (hv : v'.ownBlock = vt.ownBlock ∨ v'.ownBlock = some wa.heap.size) :
  yK B { f with tb := f.tb ++ ps } gf gi l vn vc v' (w1.setCell ⟨gf, 3, none⟩ v') ∧ w1.heap[gf]? = some (.cells #[vn, vc, .map (some gi), vt] 157 (0, 0)) := by
 have h1 := h.below hb
 have hbl : w1.heap[gf]? = some (.cells #[vn, vc, .map (some gi), vt] 157 (0, 0)) := jd h1.ot hg h1.blk (by decide)
 have hmp : w1.heap[gi]? = some (yc errV l) := by
  rw [hg.block gi (Array.getElem?_eq_some_iff.1 h1.mp).1 (fun e => by
   obtain ⟨-, cs, hc⟩ := zz h1.ot gi e.symm
   rw [h1.mp] at hc
   cases hc)]
  exact h1.mp
 have hfg : gi ≠ gf := fun e => by rw [e, hbl] at hmp; cases hmp
 have k_on : w1.ownsRow B 47 2 vn f.nx.length (zp f.nx) := h1.on.kept hg (by
  cases hk : vn.ownBlock with
  | none => exact .inl rfl
  | some k => exact .inr fun e => (h.d1 k hk).2 e.symm)
 have k_oc : w1.ownsRow B 47 2 vc f.cl.length (zp f.cl) := h1.oc.kept hg (by
  cases hk : vc.ownBlock with
  | none => exact .inl rfl
  | some k => exact .inr fun e => h.d2 k hk e.symm)
 have hst : ∀ {v : Value} {n : Nat} {xs : List Value}, w1.ownsRow B 47 2 v n xs → (w1.setCell ⟨gf, 3, none⟩ v').ownsRow B 47 2 v n xs := fun ho => zi ho ((zg.refl (fun k => k = gf) w1).setCell _ (fun _ => rfl)) fun k hk e => by
  subst e
  obtain ⟨-, cs, hc⟩ := zz ho _ hk
  rw [hbl] at hc
  injection hc with hc
  injection hc with hc1 hc2
  exact absurd hc2 (by decide)
 refine ⟨⟨?_, ?_, h.iss, h.nd, hst k_on, hst k_oc, by rw [xx, List.length_append]; exact hst ho, fun k hk => ⟨(h.d1 k hk).1, fun e2 => hv.elim (fun e => (h.d1 k hk).2 (e ▸ e2)) (fun e => by
  rw [e] at e2
  injection e2 with e2
  subst e2
  have := (h.on.lt _ hk).2; have := hb.size; omega)⟩, fun k hk e2 => hv.elim (fun e => h.d2 k hk (e ▸ e2)) (fun e => by
  rw [e] at e2
  injection e2 with e2
  subst e2
  have := (h.oc.lt _ hk).2; have := hb.size; omega), h.bf, h.bi⟩, hbl⟩
 ·have := heap_setCell_same hbl (i := 3) v'
  rw [this]
  rfl
 ·rw [heap_setCell_other hfg]; exact hmp
end
end Go.Proofs.YteofmaiojepdkaaGreat
