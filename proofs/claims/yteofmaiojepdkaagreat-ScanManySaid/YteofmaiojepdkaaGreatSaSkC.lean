/- package scan: decode, seen. Condition: addresses are words; the image's banks have 4096 bytes. -/
import Derived.Test.YteofmaiojepdkaaGreatSaSkB
set_option linter.all false
namespace Go.Proofs.YteofmaiojepdkaaGreat
open Go Go.RowKit Go.Maps
/-- The blocks that a call has made first lie as it made them. -/
structure Bx (l : List Obj) (w W : World) : Prop where
  at_ : ∀ i o, l[i]? = some o → W.heap[w.heap.size + i]? = some o
  z : w.heap.size + l.length ≤ W.heap.size
  bb : Below w.heap.size w W
section
variable {l : List Obj} {w W W' : World} {a b c d : Obj}
theorem Bx.start (w : World) : Bx [] w w := ⟨fun i o h => by simp at h, zn _, Below.refl _ _⟩
theorem Bx.snoc (h : Bx l w W) (hz : W.heap.size = w.heap.size + l.length) (o : Obj) : Bx (l ++ [o]) w (W.alloc o) := by
  refine ⟨fun i x hx => ?_, by simp; omega, h.bb.alloc h.bb.size _⟩
  by_cases hi : i < l.length
  · rw [List.getElem?_append_left hi] at hx
    rw [heap_alloc_old _ _ (by omega)]
    exact h.at_ i x hx
  · have : i = l.length := by
      have := (List.getElem?_eq_some_iff.1 hx).1
      simp at this
      omega
    subst this
    simp only [List.getElem?_concat_length, Option.some.injEq] at hx
    subst hx
    rw [← hz]
    exact heap_alloc_new _ _
theorem Bx.one (w : World) (a : Obj) : Bx [a] w (w.alloc a) := (Bx.start w).snoc rfl a
theorem Bx.two (w : World) (a b : Obj) : Bx [a, b] w ((w.alloc a).alloc b) := (Bx.one w a).snoc (by simp) b
theorem Bx.three (w : World) (a b c : Obj) : Bx [a, b, c] w (((w.alloc a).alloc b).alloc c) := (Bx.two w a b).snoc (by simp) c
theorem Bx.four (w : World) (a b c d : Obj) : Bx [a, b, c, d] w ((((w.alloc a).alloc b).alloc c).alloc d) := (Bx.three w a b c).snoc (by simp) d
theorem Bx.stay (h : Bx l w W) (hb : Below W.heap.size W W') : Bx l w W' :=
  ⟨fun i o hi => zb hb (h.at_ i o hi), Nat.le_trans h.z hb.size, h.bb.trans (hb.mono h.bb.size)⟩
theorem Bx.alloc (h : Bx l w W) (o : Obj) : Bx l w (W.alloc o) := h.stay ((Below.refl _ _).alloc (zn _) _)
theorem Bx.b0 (h : Bx (a :: l) w W) : W.heap[w.heap.size]? = some a := h.at_ 0 a rfl
theorem Bx.b1 (h : Bx (a :: b :: l) w W) : W.heap[w.heap.size + 1]? = some b := h.at_ 1 b rfl
theorem Bx.b2 (h : Bx (a :: b :: c :: l) w W) : W.heap[w.heap.size + 2]? = some c := h.at_ 2 c rfl
theorem Bx.b3 (h : Bx (a :: b :: c :: d :: l) w W) : W.heap[w.heap.size + 3]? = some d := h.at_ 3 d rfl
end
theorem isEmpty_nil {s : ByteArray} (h0 : s.size = 0) : s.toList = [] := by
  rw [ByteArray.toList_eq]
  have : s.data.toList.length = 0 := by simpa using h0
  exact List.eq_nil_of_length_eq_zero this
theorem codeI_size (I : zj) (p : zc) (n : Int) : (zG I p n).size ≤ n.toNat := by
  unfold zG
  split
  · rw [ByteArray.size_extract]; omega
  · exact Nat.zero_le _
abbrev imgB (I : zj) (ba : Option Addr) (bc : Nat) (da : Option Addr) (dc : Nat) (ra : Option Addr) (rn rc : Nat) : Obj := .cells #[.slice ba I.banks.length bc, .int .u16 I.entry, .int .u16 I.vector, .slice da I.data.length dc, .slice ra rn rc] 31
abbrev zo (p : zc) : Obj := .cells #[.int .i64 p.bank, .int .u16 p.addr] 47
abbrev insB0 : Obj := .cells #[.int .i64 0, .int .i64 0, .int .i64 0, .int .u16 0, .int .u16 0, .int .i64 0, .int .i64 0] 53
set_option maxRecDepth 100000 in
set_option maxHeartbeats 2000000 in
theorem sdecode_any (I : zj) (hI : I.Ok) (ba : Option Addr) (bc : Nat) (da : Option Addr) (dc : Nat) (ra : Option Addr) (rn rc : Nat) (p : zc) (p0 : 0 ≤ p.addr) (p1 : p.addr < 65536) (w : World) (hV : yL w I ba bc da dc) :
    Calls Tryz.prog 118 #[.agg #[.slice ba I.banks.length bc, .int .u16 I.entry, .int .u16 I.vector, .slice da I.data.length dc, .slice ra rn rc], .agg #[.int .i64 p.bank, .int .u16 p.addr]] w fun e w' =>
      e = .returned (.tuple #[.agg (zk (atI I p).1), .int .i64 (atI I p).2]) ∧ Below w.heap.size w w' := by
  have HH := zh (Bx.three w (imgB I ba bc da dc ra rn rc) (zo p) insB0)
  have HV := zh hV
  have HC1 := zh (fun W (hw : yL W I ba bc da dc) => icode_any2 I hI ba bc da dc ra rn rc p p0 p1 1 (by omega) (by omega) W hw)
  have hsb := sizeS_bd (byt (zG I p 1) 0)
  have hbb := ys (zG I p 1) 0
  have hs2 := codeI_size I p (zm (byt (zG I p 1) 0))
  have HC2 := zh (fun W (hw : yL W I ba bc da dc) => icode_any2 I hI ba bc da dc ra rn rc p p0 p1 (zm (byt (zG I p 1) 0)) (by omega) (by omega) W hw)
  have HSZ := zh (fun W => size_any (byt (zG I p 1) 0) hbb.1 hbb.2 W)
  have HDC := zh (fun W => decode_any (zG I p (zm (byt (zG I p 1) 0))) (by omega) W)
  have HN0 := zh (fun (h : nextP p (zm (byt (zG I p 1) 0) - 1) = none) W => inext_none p p0 p1 (zm (byt (zG I p 1) 0) - 1) (by omega) (by omega) W h)
  have HN1 := zh (fun q (h : nextP p (zm (byt (zG I p 1) 0) - 1) = some q) W => inext_some p p0 p1 (zm (byt (zG I p 1) 0) - 1) (by omega) (by omega) W h)
  have hix : 1 ≤ (zG I p 1).size → ∀ W, (Instr.index 9 (.string (zG I p 1)) (.int .i64 0)).run Tryz.prog W = .ok (.int .u8 (byt (zG I p 1) 0)) W := fun h0 => yN (zG I p 1) 0 h0
  unfold atI
  generalize zG I p 1 = s1 at *
  generalize byt s1 0 = c0 at *
  obtain ⟨c1, c2⟩ := hbb
  generalize hn : zm c0 = n at *
  generalize zG I p n = s2 at *
  clear hn hs2 hV
  by_cases hA : s1.size = 0
  · rw [if_pos hA]
    have hs := isEmpty_nil hA
    clear hA hix
    go_enter Tryz.func118, Tryz.ntmps118
    go_wp2_with (first
      | (refine za 31 _ rfl _ rfl _ _ _ (HH.out.b0) ?_ ?_ ?_; kernel_rfl; kernel_rfl)
      | (refine za 31 _ rfl _ rfl _ _ _ ((HH.out.alloc _).b0) ?_ ?_ ?_; kernel_rfl; kernel_rfl)
      | (refine za 47 _ rfl _ rfl _ _ _ (HH.out.b1) ?_ ?_ ?_; kernel_rfl; kernel_rfl)
      | (refine za 47 _ rfl _ rfl _ _ _ ((HH.out.alloc _).b1) ?_ ?_ ?_; kernel_rfl; kernel_rfl)
      | (refine za 53 _ rfl _ rfl _ _ _ (heap_alloc_new _ _) ?_ ?_ ?_; kernel_rfl; kernel_rfl)
      | (refine wpList_store_row rfl _ _ _ rfl _ _ rfl rfl _ _ (HH.out.b2) ?_ ?_ ?_ ?_; kernel_rfl; rfl; kernel_rfl)
      | (refine wpList_store_row rfl _ _ _ rfl _ _ rfl rfl _ _ ((HH.out.alloc _).b2) ?_ ?_ ?_ ?_; kernel_rfl; rfl; kernel_rfl)
      | (refine wpList_store_row rfl _ _ _ rfl _ _ rfl rfl _ _ (heap_alloc_new _ _) ?_ ?_ ?_ ?_; kernel_rfl; rfl; kernel_rfl; rw [World.setRow_alloc_new])
      | (go_at_call 132; (with_reducible refine (HC1.out _ (HV.out.below HH.out.bb)).mono ?_); rintro e w1 ⟨rfl, hb1⟩; have HH := zh (HH.out.stay hb1); clear hb1)
      | (go_at_call 132; (with_reducible refine (HC2.out _ (HV.out.below (HH.out.alloc _).bb)).mono ?_); rintro e w4 ⟨rfl, hb4⟩; have HH := zh ((HH.out.alloc _).stay hb4); clear hb4)
      | (go_at_call 133; refine (HSZ.out _).mono ?_; rintro e w2 ⟨rfl, hb2⟩; have HH := zh (HH.out.stay hb2); clear hb2)
      | (go_at_call 110; refine (HNX.out _).mono ?_; rintro e w3 ⟨rfl, hb3⟩; have HH := zh (HH.out.stay hb3); clear hb3)
      | (go_at_call 134; refine (HDC.out _).mono ?_; rintro e w5 ⟨rfl, hb5⟩; have HH := zh (HH.out.stay hb5); clear hb5))
    (refine bodyPost_ret (zf (cs := zk ya) (fr := (0, 0)) Tryz.results118 _ _ (w.heap.size + 2) 53 _ ?_ (setRow_heap _ _ _ _ _ _ HH.out.b2) Tryz.underlying53 rfl (by kernel_rfl)) rfl ⟨rfl, below_setRow HH.out.bb (by omega) _⟩; rfl)
  rw [if_neg hA]
  have hs := y2 (show 1 ≤ s1.size by omega)
  have ix := hix (by omega)
  clear hA hix
  by_cases hB : n = 0
  · rw [if_pos hB]
    have hB' : (n == 0) = true := by simp [hB]
    clear hB HN0 HN1
    go_enter Tryz.func118, Tryz.ntmps118
    go_wp2_with (first
      | (refine za 31 _ rfl _ rfl _ _ _ (HH.out.b0) ?_ ?_ ?_; kernel_rfl; kernel_rfl)
      | (refine za 31 _ rfl _ rfl _ _ _ ((HH.out.alloc _).b0) ?_ ?_ ?_; kernel_rfl; kernel_rfl)
      | (refine za 47 _ rfl _ rfl _ _ _ (HH.out.b1) ?_ ?_ ?_; kernel_rfl; kernel_rfl)
      | (refine za 47 _ rfl _ rfl _ _ _ ((HH.out.alloc _).b1) ?_ ?_ ?_; kernel_rfl; kernel_rfl)
      | (refine za 53 _ rfl _ rfl _ _ _ (heap_alloc_new _ _) ?_ ?_ ?_; kernel_rfl; kernel_rfl)
      | (refine wpList_store_row rfl _ _ _ rfl _ _ rfl rfl _ _ (HH.out.b2) ?_ ?_ ?_ ?_; kernel_rfl; rfl; kernel_rfl)
      | (refine wpList_store_row rfl _ _ _ rfl _ _ rfl rfl _ _ ((HH.out.alloc _).b2) ?_ ?_ ?_ ?_; kernel_rfl; rfl; kernel_rfl)
      | (refine wpList_store_row rfl _ _ _ rfl _ _ rfl rfl _ _ (heap_alloc_new _ _) ?_ ?_ ?_ ?_; kernel_rfl; rfl; kernel_rfl; rw [World.setRow_alloc_new])
      | (go_at_call 132; (with_reducible refine (HC1.out _ (HV.out.below HH.out.bb)).mono ?_); rintro e w1 ⟨rfl, hb1⟩; have HH := zh (HH.out.stay hb1); clear hb1)
      | (go_at_call 132; (with_reducible refine (HC2.out _ (HV.out.below (HH.out.alloc _).bb)).mono ?_); rintro e w4 ⟨rfl, hb4⟩; have HH := zh ((HH.out.alloc _).stay hb4); clear hb4)
      | (go_at_call 133; refine (HSZ.out _).mono ?_; rintro e w2 ⟨rfl, hb2⟩; have HH := zh (HH.out.stay hb2); clear hb2)
      | (go_at_call 110; refine (HNX.out _).mono ?_; rintro e w3 ⟨rfl, hb3⟩; have HH := zh (HH.out.stay hb3); clear hb3)
      | (go_at_call 134; refine (HDC.out _).mono ?_; rintro e w5 ⟨rfl, hb5⟩; have HH := zh (HH.out.stay hb5); clear hb5))
    (refine bodyPost_ret (zf (cs := zk ya) (fr := (0, 0)) Tryz.results118 _ _ (w.heap.size + 2) 53 _ ?_ (setRow_heap _ _ _ _ _ _ HH.out.b2) Tryz.underlying53 rfl (by kernel_rfl)) rfl ⟨rfl, below_setRow HH.out.bb (by omega) _⟩; rfl)
  rw [if_neg hB]
  have hB' : (n == 0) = false := by simp [hB]
  have hB1 : 1 ≤ n := by omega
  have hw : IntKind.i64.wrap (n - 1) = n - 1 := IntWalk.i64_in _ (by omega)
  clear hB
  cases hC : nextP p (n - 1) with
  | none =>
    rw [if_pos (.inl rfl)]
    have HNX := zh (fun W => HN0.out hC W)
    clear hC HN0 HN1
    go_enter Tryz.func118, Tryz.ntmps118
    go_wp2_with (first
      | (refine za 31 _ rfl _ rfl _ _ _ (HH.out.b0) ?_ ?_ ?_; kernel_rfl; kernel_rfl)
      | (refine za 31 _ rfl _ rfl _ _ _ ((HH.out.alloc _).b0) ?_ ?_ ?_; kernel_rfl; kernel_rfl)
      | (refine za 47 _ rfl _ rfl _ _ _ (HH.out.b1) ?_ ?_ ?_; kernel_rfl; kernel_rfl)
      | (refine za 47 _ rfl _ rfl _ _ _ ((HH.out.alloc _).b1) ?_ ?_ ?_; kernel_rfl; kernel_rfl)
      | (refine za 53 _ rfl _ rfl _ _ _ (heap_alloc_new _ _) ?_ ?_ ?_; kernel_rfl; kernel_rfl)
      | (refine wpList_store_row rfl _ _ _ rfl _ _ rfl rfl _ _ (HH.out.b2) ?_ ?_ ?_ ?_; kernel_rfl; rfl; kernel_rfl)
      | (refine wpList_store_row rfl _ _ _ rfl _ _ rfl rfl _ _ ((HH.out.alloc _).b2) ?_ ?_ ?_ ?_; kernel_rfl; rfl; kernel_rfl)
      | (refine wpList_store_row rfl _ _ _ rfl _ _ rfl rfl _ _ (heap_alloc_new _ _) ?_ ?_ ?_ ?_; kernel_rfl; rfl; kernel_rfl; rw [World.setRow_alloc_new])
      | (go_at_call 132; (with_reducible refine (HC1.out _ (HV.out.below HH.out.bb)).mono ?_); rintro e w1 ⟨rfl, hb1⟩; have HH := zh (HH.out.stay hb1); clear hb1)
      | (go_at_call 132; (with_reducible refine (HC2.out _ (HV.out.below (HH.out.alloc _).bb)).mono ?_); rintro e w4 ⟨rfl, hb4⟩; have HH := zh ((HH.out.alloc _).stay hb4); clear hb4)
      | (go_at_call 133; refine (HSZ.out _).mono ?_; rintro e w2 ⟨rfl, hb2⟩; have HH := zh (HH.out.stay hb2); clear hb2)
      | (go_at_call 110; refine (HNX.out _).mono ?_; rintro e w3 ⟨rfl, hb3⟩; have HH := zh (HH.out.stay hb3); clear hb3)
      | (go_at_call 134; refine (HDC.out _).mono ?_; rintro e w5 ⟨rfl, hb5⟩; have HH := zh (HH.out.stay hb5); clear hb5))
    (refine bodyPost_ret (zf (cs := zk ya) (fr := (0, 0)) Tryz.results118 _ _ (w.heap.size + 2) 53 _ ?_ (setRow_heap _ _ _ _ _ _ HH.out.b2) Tryz.underlying53 rfl (by kernel_rfl)) rfl ⟨rfl, below_setRow HH.out.bb (by omega) _⟩; rfl)
  | some q =>
    have HNX := zh (fun W => HN1.out q hC W)
    by_cases hD : (s2.size : Int) < n
    · rw [if_pos (.inr hD)]
      clear hC HN0 HN1
      go_enter Tryz.func118, Tryz.ntmps118
      go_wp2_with (first
        | (refine za 31 _ rfl _ rfl _ _ _ (HH.out.b0) ?_ ?_ ?_; kernel_rfl; kernel_rfl)
        | (refine za 31 _ rfl _ rfl _ _ _ ((HH.out.alloc _).b0) ?_ ?_ ?_; kernel_rfl; kernel_rfl)
        | (refine za 47 _ rfl _ rfl _ _ _ (HH.out.b1) ?_ ?_ ?_; kernel_rfl; kernel_rfl)
        | (refine za 47 _ rfl _ rfl _ _ _ ((HH.out.alloc _).b1) ?_ ?_ ?_; kernel_rfl; kernel_rfl)
        | (refine za 53 _ rfl _ rfl _ _ _ (heap_alloc_new _ _) ?_ ?_ ?_; kernel_rfl; kernel_rfl)
        | (refine wpList_store_row rfl _ _ _ rfl _ _ rfl rfl _ _ (HH.out.b2) ?_ ?_ ?_ ?_; kernel_rfl; rfl; kernel_rfl)
        | (refine wpList_store_row rfl _ _ _ rfl _ _ rfl rfl _ _ ((HH.out.alloc _).b2) ?_ ?_ ?_ ?_; kernel_rfl; rfl; kernel_rfl)
        | (refine wpList_store_row rfl _ _ _ rfl _ _ rfl rfl _ _ (heap_alloc_new _ _) ?_ ?_ ?_ ?_; kernel_rfl; rfl; kernel_rfl; rw [World.setRow_alloc_new])
        | (go_at_call 132; (with_reducible refine (HC1.out _ (HV.out.below HH.out.bb)).mono ?_); rintro e w1 ⟨rfl, hb1⟩; have HH := zh (HH.out.stay hb1); clear hb1)
        | (go_at_call 132; (with_reducible refine (HC2.out _ (HV.out.below (HH.out.alloc _).bb)).mono ?_); rintro e w4 ⟨rfl, hb4⟩; have HH := zh ((HH.out.alloc _).stay hb4); clear hb4)
        | (go_at_call 133; refine (HSZ.out _).mono ?_; rintro e w2 ⟨rfl, hb2⟩; have HH := zh (HH.out.stay hb2); clear hb2)
        | (go_at_call 110; refine (HNX.out _).mono ?_; rintro e w3 ⟨rfl, hb3⟩; have HH := zh (HH.out.stay hb3); clear hb3)
        | (go_at_call 134; refine (HDC.out _).mono ?_; rintro e w5 ⟨rfl, hb5⟩; have HH := zh (HH.out.stay hb5); clear hb5))
      (refine bodyPost_ret (zf (cs := zk ya) (fr := (0, 0)) Tryz.results118 _ _ (w.heap.size + 2) 53 _ ?_ (setRow_heap _ _ _ _ _ _ HH.out.b2) Tryz.underlying53 rfl (by kernel_rfl)) rfl ⟨rfl, below_setRow HH.out.bb (by omega) _⟩; rfl)
    · rw [if_neg (by simp [hD])]
      have hD' : n ≤ s2.size := by omega
      clear hC HN0 HN1 hD
      by_cases hE : decE s2 = 0
      · rw [if_pos hE]
        have hE' : (decE s2 == 0) = true := by simp [hE]
        have hE2 : (decE s2 != 0) = false := by simp [hE]
        generalize decE s2 = e2 at *
        clear hE
        go_enter Tryz.func118, Tryz.ntmps118
        go_wp2_with (first
          | (refine za 31 _ rfl _ rfl _ _ _ (HH.out.b0) ?_ ?_ ?_; kernel_rfl; kernel_rfl)
          | (refine za 31 _ rfl _ rfl _ _ _ ((HH.out.alloc _).b0) ?_ ?_ ?_; kernel_rfl; kernel_rfl)
          | (refine za 47 _ rfl _ rfl _ _ _ (HH.out.b1) ?_ ?_ ?_; kernel_rfl; kernel_rfl)
          | (refine za 47 _ rfl _ rfl _ _ _ ((HH.out.alloc _).b1) ?_ ?_ ?_; kernel_rfl; kernel_rfl)
          | (refine za 53 _ rfl _ rfl _ _ _ (heap_alloc_new _ _) ?_ ?_ ?_; kernel_rfl; kernel_rfl)
          | (refine wpList_store_row rfl _ _ _ rfl _ _ rfl rfl _ _ (HH.out.b2) ?_ ?_ ?_ ?_; kernel_rfl; rfl; kernel_rfl)
          | (refine wpList_store_row rfl _ _ _ rfl _ _ rfl rfl _ _ ((HH.out.alloc _).b2) ?_ ?_ ?_ ?_; kernel_rfl; rfl; kernel_rfl)
          | (refine wpList_store_row rfl _ _ _ rfl _ _ rfl rfl _ _ (heap_alloc_new _ _) ?_ ?_ ?_ ?_; kernel_rfl; rfl; kernel_rfl; rw [World.setRow_alloc_new])
          | (go_at_call 132; (with_reducible refine (HC1.out _ (HV.out.below HH.out.bb)).mono ?_); rintro e w1 ⟨rfl, hb1⟩; have HH := zh (HH.out.stay hb1); clear hb1)
          | (go_at_call 132; (with_reducible refine (HC2.out _ (HV.out.below (HH.out.alloc _).bb)).mono ?_); rintro e w4 ⟨rfl, hb4⟩; have HH := zh ((HH.out.alloc _).stay hb4); clear hb4)
          | (go_at_call 133; refine (HSZ.out _).mono ?_; rintro e w2 ⟨rfl, hb2⟩; have HH := zh (HH.out.stay hb2); clear hb2)
          | (go_at_call 110; refine (HNX.out _).mono ?_; rintro e w3 ⟨rfl, hb3⟩; have HH := zh (HH.out.stay hb3); clear hb3)
          | (go_at_call 134; refine (HDC.out _).mono ?_; rintro e w5 ⟨rfl, hb5⟩; have HH := zh (HH.out.stay hb5); clear hb5))
        (refine bodyPost_ret (zf (cs := zk (decI s2)) (fr := (0, 0)) Tryz.results118 _ _ (w.heap.size + 2) 53 _ ?_ (setRow_heap _ _ _ _ _ _ (HH.out.alloc _).b2) Tryz.underlying53 rfl (by kernel_rfl)) rfl ⟨rfl, below_setRow (HH.out.alloc _).bb (by omega) _⟩; rfl)
      · rw [if_neg hE]
        have hE' : (decE s2 == 0) = false := by simp [hE]
        have hE2 : (decE s2 != 0) = true := by simp [hE]
        generalize decE s2 = e2 at *
        clear hE
        go_enter Tryz.func118, Tryz.ntmps118
        go_wp2_with (first
          | (refine za 31 _ rfl _ rfl _ _ _ (HH.out.b0) ?_ ?_ ?_; kernel_rfl; kernel_rfl)
          | (refine za 31 _ rfl _ rfl _ _ _ ((HH.out.alloc _).b0) ?_ ?_ ?_; kernel_rfl; kernel_rfl)
          | (refine za 47 _ rfl _ rfl _ _ _ (HH.out.b1) ?_ ?_ ?_; kernel_rfl; kernel_rfl)
          | (refine za 47 _ rfl _ rfl _ _ _ ((HH.out.alloc _).b1) ?_ ?_ ?_; kernel_rfl; kernel_rfl)
          | (refine za 53 _ rfl _ rfl _ _ _ (heap_alloc_new _ _) ?_ ?_ ?_; kernel_rfl; kernel_rfl)
          | (refine wpList_store_row rfl _ _ _ rfl _ _ rfl rfl _ _ (HH.out.b2) ?_ ?_ ?_ ?_; kernel_rfl; rfl; kernel_rfl)
          | (refine wpList_store_row rfl _ _ _ rfl _ _ rfl rfl _ _ ((HH.out.alloc _).b2) ?_ ?_ ?_ ?_; kernel_rfl; rfl; kernel_rfl)
          | (refine wpList_store_row rfl _ _ _ rfl _ _ rfl rfl _ _ (heap_alloc_new _ _) ?_ ?_ ?_ ?_; kernel_rfl; rfl; kernel_rfl; rw [World.setRow_alloc_new])
          | (go_at_call 132; (with_reducible refine (HC1.out _ (HV.out.below HH.out.bb)).mono ?_); rintro e w1 ⟨rfl, hb1⟩; have HH := zh (HH.out.stay hb1); clear hb1)
          | (go_at_call 132; (with_reducible refine (HC2.out _ (HV.out.below (HH.out.alloc _).bb)).mono ?_); rintro e w4 ⟨rfl, hb4⟩; have HH := zh ((HH.out.alloc _).stay hb4); clear hb4)
          | (go_at_call 133; refine (HSZ.out _).mono ?_; rintro e w2 ⟨rfl, hb2⟩; have HH := zh (HH.out.stay hb2); clear hb2)
          | (go_at_call 110; refine (HNX.out _).mono ?_; rintro e w3 ⟨rfl, hb3⟩; have HH := zh (HH.out.stay hb3); clear hb3)
          | (go_at_call 134; refine (HDC.out _).mono ?_; rintro e w5 ⟨rfl, hb5⟩; have HH := zh (HH.out.stay hb5); clear hb5))
        (refine bodyPost_ret (zf (cs := zk ya) (fr := (0, 0)) Tryz.results118 _ _ (w.heap.size + 2) 53 _ ?_ (setRow_heap _ _ _ _ _ _ (HH.out.alloc _).b2) Tryz.underlying53 rfl (by kernel_rfl)) rfl ⟨rfl, below_setRow (HH.out.alloc _).bb (by omega) _⟩; rfl)
end Go.Proofs.YteofmaiojepdkaaGreat
