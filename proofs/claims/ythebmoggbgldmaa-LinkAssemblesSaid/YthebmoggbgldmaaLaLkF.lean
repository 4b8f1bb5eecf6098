/- Package link: is a label known, is one of some labels unknown, is one of some places no code address. The conditions: numbers in their ranges, the blocks that are read. -/
import Derived.Test.YthebmoggbgldmaaLaLkM
set_option linter.all false
namespace Go.Proofs.Ythebmoggbgldmaa
open Go Go.RowKit Go.Maps
theorem exec_load_rowB {P : Program} {o : Oper} {a : Act} {w : World} (ty : TypeId) (x : Operand) (ho : o.op = .load ty x)
  (g : Nat) (hx : a.eval x = .pointer (some ⟨g, 0, none⟩)) (t : TypeId) (cs : Array Value) (fr : Nat × Nat) (hg : w.heap[g]? = some (.cells cs t fr)) (hr : rowB P ty cs.size = true) :
  (execOp a.eval o).run P w = .ok (.value (.agg cs)) w := by
 have := xd (P := P) (o := o) (a := a) (w := w) ty x ho g 0 hx cs t fr hg cs.toList (by simp) (by simpa using hr)
 simpa using this
theorem z9 {P : Program} {ops : Array Oper} {rest : List Oper} {o : Oper} {a : Act} {w : World} {Q : Exit → Act → World → Prop} (ty : TypeId) (x : Operand) (ho : o.op = .load ty x) (g off : Nat) (hx : a.eval x = .pointer (some ⟨g, off, none⟩)) (cs : Array Value) (t : TypeId) (fr : Nat × Nat) (hg : w.heap[g]? = some (.cells cs t fr)) (l : List Value) (hl : (cs.extract off (off + l.length)).toList = l) (hr : rowB P ty l.length = true)
  (hw : Region.wanted o (yielded ops a.tmps) = true) (hk : wpList P ops Q rest (a.put o.dst (.agg l.toArray)) w) : wpList P ops Q (o :: rest) a w :=
 wpList_val hw (xd ty x ho g off hx cs t fr hg l hl hr) hk
theorem zs {P : Program} {ops : Array Oper} {rest : List Oper} {o : Oper} {a : Act} {w : World} {Q : Exit → Act → World → Prop} (ty : TypeId) (x : Operand) (ho : o.op = .load ty x) (g : Nat) (hx : a.eval x = .pointer (some ⟨g, 0, none⟩)) (t : TypeId) (cs : Array Value) (fr : Nat × Nat) (hg : w.heap[g]? = some (.cells cs t fr)) (hr : rowB P ty cs.size = true)
  (hw : Region.wanted o (yielded ops a.tmps) = true) (hk : wpList P ops Q rest (a.put o.dst (.agg cs)) w) : wpList P ops Q (o :: rest) a w :=
 wpList_val hw (exec_load_rowB ty x ho g hx t cs fr hg hr) hk
theorem cond_any (op : Int) (w : World) :
  Calls Try.prog 79 #[.int .i64 op] w fun e w' => e = .returned (.bool (xN op)) ∧ w = w' := by
 unfold xN
 by_cases h1 : 96 ≤ op
 ·by_cases h2 : op < 110
  ·rw [decide_eq_true h1, decide_eq_true h2]
   go_enter Try.func79, Try.ntmps79
   go_wp2
   go_ret
   exact ⟨rfl, rfl⟩
  ·by_cases h3 : 112 ≤ op
   ·by_cases h4 : op < 126
    ·rw [decide_eq_true h3, decide_eq_true h4, Bool.and_true, Bool.or_true]
     have h5 : 110 ≤ op := by omega
     go_enter Try.func79, Try.ntmps79
     go_wp2
     go_ret
     exact ⟨rfl, rfl⟩
    ·rw [decide_eq_false h2, decide_eq_false h4, Bool.and_false, Bool.and_false]
     have h5 : 110 ≤ op := by omega
     have h6 : 126 ≤ op := by omega
     go_enter Try.func79, Try.ntmps79
     go_wp2
     go_ret
     exact ⟨rfl, rfl⟩
   ·rw [decide_eq_false h2, decide_eq_false h3, Bool.and_false, Bool.false_and]
    have h5 : 110 ≤ op := by omega
    have h6 : op < 112 := by omega
    go_enter Try.func79, Try.ntmps79
    go_wp2
    go_ret
    exact ⟨rfl, rfl⟩
 ·rw [decide_eq_false h1, decide_eq_false (show ¬ 112 ≤ op by omega), Bool.false_and, Bool.false_and]
  have h5 : op < 96 := by omega
  have h6 : op < 112 := by omega
  go_enter Try.func79, Try.ntmps79
  go_wp2
  go_ret
  exact ⟨rfl, rfl⟩
theorem sizeS_in (op : Int) (h : op < 0 ∨ 255 < op ∨ zH op = 0) (h1 : xN op = false) (h2 : op ≠ 128) (h3 : op ≠ 129) (h4 : op ≠ 133) (h5 : op ≠ 130) (h6 : op ≠ 132) (h7 : op ≠ 131) : zK op = 0 := by
 unfold zK
 simp [h1, h2, h3, h4, h5, h6, h7]
 intro _ _ _; omega
set_option maxRecDepth 100000 in
set_option maxHeartbeats 1000000 in
theorem xc (op : Int) (w : World) :
  Calls Try.prog 42 #[.int .i64 op] w fun e w' => e = .returned (.int .i64 (zK op)) ∧ Below w.heap.size w w' := by
 have HC := zh (fun W => cond_any op W)
 cases hc : xN op with
 | true =>
  have e1 : zK op = 2 := by unfold zK; simp [hc]
  rw [e1]
  rw [hc] at HC
  clear e1 hc
  go_enter Try.func42, Try.ntmps42
  go_wp2_with (go_at_call 79; refine (HC.out _).mono ?_; rintro e w1 ⟨rfl, rfl⟩)
  go_ret
  exact ⟨rfl, Below.refl _ _⟩
 | false =>
  rw [hc] at HC
  by_cases h1 : op = 128 ∨ op = 129
  ·have e1 : zK op = 2 := by unfold zK; rcases h1 with h1 | h1 <;> simp [h1]
   rw [e1]
   clear e1 hc
   rcases h1 with rfl | rfl
   ·go_enter Try.func42, Try.ntmps42
    go_wp2_with (go_at_call 79; refine (HC.out _).mono ?_; rintro e w1 ⟨rfl, rfl⟩)
    go_ret
    exact ⟨rfl, Below.refl _ _⟩
   ·go_enter Try.func42, Try.ntmps42
    go_wp2_with (go_at_call 79; refine (HC.out _).mono ?_; rintro e w1 ⟨rfl, rfl⟩)
    go_ret
    exact ⟨rfl, Below.refl _ _⟩
  ·by_cases h2 : op = 133 ∨ op = 130 ∨ op = 132 ∨ op = 131 ∨ op = 134
   ·rcases h2 with rfl | rfl | rfl | rfl | rfl <;>
    ·go_enter Try.func42, Try.ntmps42
     go_wp2_with (go_at_call 79; refine (HC.out _).mono ?_; rintro e w1 ⟨rfl, rfl⟩)
     go_ret
     exact ⟨rfl, Below.refl _ _⟩
   ·have g1 : (op == 128) = false := by simp; omega
    have g2 : (op == 129) = false := by simp; omega
    have g3 : (op == 133) = false := by simp; omega
    have g4 : (op == 130) = false := by simp; omega
    have g5 : (op == 132) = false := by simp; omega
    have g6 : (op == 131) = false := by simp; omega
    have g7 : (op == 134) = false := by simp; omega
    by_cases h3 : op < 0
    ·have e1 : zK op = 0 := sizeS_in op (.inl h3) hc (by omega) (by omega) (by omega) (by omega) (by omega) (by omega)
     rw [e1]
     clear e1 hc h1 h2
     go_enter Try.func42, Try.ntmps42
     go_wp2_with (go_at_call 79; refine (HC.out _).mono ?_; rintro e w1 ⟨rfl, rfl⟩)
     go_ret
     exact ⟨rfl, Below.refl _ _⟩
    ·by_cases h4 : 255 < op
     ·have e1 : zK op = 0 := sizeS_in op (.inr (.inl h4)) hc (by omega) (by omega) (by omega) (by omega) (by omega) (by omega)
      rw [e1]
      clear e1 hc h1 h2
      have h3' : 0 ≤ op := by omega
      go_enter Try.func42, Try.ntmps42
      go_wp2_with (go_at_call 79; refine (HC.out _).mono ?_; rintro e w1 ⟨rfl, rfl⟩)
      go_ret
      exact ⟨rfl, Below.refl _ _⟩
     ·have h3' : 0 ≤ op := by omega
      have h4' : op ≤ 255 := by omega
      have hw : IntKind.u8.wrap op = op := IntWalk.u8_in _ (by omega)
      have HZ := zh (fun W => size_any op h3' (by omega) W)
      by_cases h5 : zH op = 0
      ·have e1 : zK op = 0 := sizeS_in op (.inr (.inr h5)) hc (by omega) (by omega) (by omega) (by omega) (by omega) (by omega)
       rw [e1]
       rw [h5] at HZ
       clear e1 hc h1 h2 h5
       go_enter Try.func42, Try.ntmps42
       go_wp2_with (first | (go_at_call 79; refine (HC.out _).mono ?_; rintro e w1 ⟨rfl, rfl⟩) | (go_at_call 80; refine (HZ.out _).mono ?_; rintro e w2 ⟨rfl, hb2⟩))
       go_ret
       exact ⟨rfl, hb2⟩
      ·have e1 : zK op = 1 := by
        unfold zK
        rw [hc, g1, g2, g3, g4, g5, g6, g7, decide_eq_false h3, decide_eq_false h4, show (zH op == 0) = false by simp [h5]]
        rfl
       rw [e1]
       have g8 : (zH op == 0) = false := by simp [h5]
       clear e1 hc h1 h2
       go_enter Try.func42, Try.ntmps42
       go_wp2_with (first | (go_at_call 79; refine (HC.out _).mono ?_; rintro e w1 ⟨rfl, rfl⟩) | (go_at_call 80; refine (HZ.out _).mono ?_; rintro e w2 ⟨rfl, hb2⟩))
       go_ret
       exact ⟨rfl, hb2⟩
theorem field_any (op : Int) (w : World) :
  Calls Try.prog 54 #[.int .i64 op] w fun e w' => e = .returned (.int .i64 (yX op)) ∧ w = w' := by
 unfold yX
 by_cases h1 : op = 146 ∨ op = 147
 ·rw [if_pos h1]
  rcases h1 with rfl | rfl
  ·go_enter Try.func54, Try.ntmps54
   go_wp2
   go_ret
   exact ⟨rfl, rfl⟩
  ·go_enter Try.func54, Try.ntmps54
   go_wp2
   go_ret
   exact ⟨rfl, rfl⟩
 ·rw [if_neg h1]
  have g1 : (op == 146) = false := by simp; omega
  have g2 : (op == 147) = false := by simp; omega
  clear h1
  go_enter Try.func54, Try.ntmps54
  go_wp2
  go_ret
  exact ⟨rfl, rfl⟩
theorem near_any (a f : yw) (w : World) :
  Calls Try.prog 51 #[.agg #[.int .i64 a.bank, .int .u16 a.addr], .agg #[.int .i64 f.bank, .int .u16 f.addr]] w fun e w' => e = .returned (.bool (nearS a f)) ∧ Below w.heap.size w w' := by
 obtain ⟨ab, aa⟩ := a
 obtain ⟨fb, fa⟩ := f
 unfold nearS
 show Calls Try.prog 51 #[.agg #[.int .i64 ab, .int .u16 aa], .agg #[.int .i64 fb, .int .u16 fa]] w fun e w' => e = .returned (.bool (decide (fa < 4096) || (decide (4096 ≤ aa) && ab == fb))) ∧ Below w.heap.size w w'
 by_cases h1 : fa < 4096
 ·rw [decide_eq_true h1]
  go_enter Try.func51, Try.ntmps51
  go_wp2
  go_ret
  exact ⟨rfl, (((Below.refl _ _).alloc (zn _) _).alloc (by simp) _)⟩
 ·have h1' : 4096 ≤ fa := by omega
  rw [decide_eq_false h1]
  by_cases h2 : 4096 ≤ aa
  ·rw [decide_eq_true h2]
   by_cases h3 : ab = fb
   ·subst h3
    rw [beq_self_eq_true]
    go_enter Try.func51, Try.ntmps51
    go_wp2
    go_ret
    exact ⟨rfl, (((Below.refl _ _).alloc (zn _) _).alloc (by simp) _)⟩
   ·have h3' : (ab == fb) = false := by simp [h3]
    rw [h3']
    go_enter Try.func51, Try.ntmps51
    go_wp2
    go_ret
    exact ⟨rfl, (((Below.refl _ _).alloc (zn _) _).alloc (by simp) _)⟩
  ·have h2' : aa < 4096 := by omega
   rw [decide_eq_false h2]
   go_enter Try.func51, Try.ntmps51
   go_wp2
   go_ret
   exact ⟨by simp, (((Below.refl _ _).alloc (zn _) _).alloc (by simp) _)⟩
theorem address_any (p : yw) (w : World) :
  Calls Try.prog 27 #[.agg #[.int .i64 p.bank, .int .u16 p.addr]] w fun e w' => e = .returned (.bool (yp p)) ∧ Below w.heap.size w w' := by
 obtain ⟨b, a⟩ := p
 unfold yp
 show Calls Try.prog 27 #[.agg #[.int .i64 b, .int .u16 a]] w fun e w' => e = .returned (.bool (decide (0 ≤ b) && decide (b < 64) && ((b == 0 && decide (a < 4096)) || (decide (4096 ≤ a) && decide (a < 8192))))) ∧ Below w.heap.size w w'
 by_cases h0 : b = 0
 ·subst h0
  by_cases h1 : a < 4096
  ·rw [decide_eq_true h1]
   go_enter Try.func27, Try.ntmps27
   go_wp2
   go_ret
   exact ⟨by simp, (Below.refl _ _).alloc (zn _) _⟩
  ·have h1' : 4096 ≤ a := by omega
   rw [decide_eq_false h1, decide_eq_true h1']
   by_cases h2 : a < 8192
   ·rw [decide_eq_true h2]
    go_enter Try.func27, Try.ntmps27
    go_wp2
    go_ret
    exact ⟨by simp, (Below.refl _ _).alloc (zn _) _⟩
   ·have h2' : 8192 ≤ a := by omega
    rw [decide_eq_false h2]
    go_enter Try.func27, Try.ntmps27
    go_wp2
    go_ret
    exact ⟨by simp, (Below.refl _ _).alloc (zn _) _⟩
 ·have h0' : (b == 0) = false := by simp [h0]
  rw [h0']
  by_cases h3 : 0 ≤ b
  ·rw [decide_eq_true h3]
   by_cases h4 : b < 64
   ·rw [decide_eq_true h4]
    by_cases h1 : a < 4096
    ·rw [decide_eq_false (show ¬ 4096 ≤ a by omega)]
     go_enter Try.func27, Try.ntmps27
     go_wp2
     go_ret
     exact ⟨by simp, (Below.refl _ _).alloc (zn _) _⟩
    ·have h1' : 4096 ≤ a := by omega
     rw [decide_eq_true h1']
     by_cases h2 : a < 8192
     ·rw [decide_eq_true h2]
      go_enter Try.func27, Try.ntmps27
      go_wp2
      go_ret
      exact ⟨by simp, (Below.refl _ _).alloc (zn _) _⟩
     ·have h2' : 8192 ≤ a := by omega
      rw [decide_eq_false h2]
      go_enter Try.func27, Try.ntmps27
      go_wp2
      go_ret
      exact ⟨by simp, (Below.refl _ _).alloc (zn _) _⟩
   ·have h4' : 64 ≤ b := by omega
    rw [decide_eq_false h4]
    go_enter Try.func27, Try.ntmps27
    go_wp2
    go_ret
    exact ⟨by simp, (Below.refl _ _).alloc (zn _) _⟩
  ·have h3' : b < 0 := by omega
   rw [decide_eq_false h3]
   go_enter Try.func27, Try.ntmps27
   go_wp2
   go_ret
   exact ⟨by simp, (Below.refl _ _).alloc (zn _) _⟩
theorem wide_any (op : Int) (w : World) :
  Calls Try.prog 47 #[.int .i64 op] w fun e w' => e = .returned (.bool (xR op)) ∧ w = w' := by
 unfold xR
 by_cases h : 64 ≤ op ∧ op ≤ 78
 ·rw [decide_eq_true h.1, decide_eq_true h.2]
  obtain ⟨a, b⟩ := h
  go_enter Try.func47, Try.ntmps47
  go_wp2
  go_ret
  exact ⟨by simp, rfl⟩
 ·have e1 : (decide (64 ≤ op) && decide (op ≤ 78)) = false := by simp; omega
  rw [e1]
  by_cases h2 : 84 ≤ op ∧ op ≤ 91
  ·have e2 : ((decide (84 ≤ op) && decide (op ≤ 87)) || (decide (88 ≤ op) && decide (op ≤ 91))) = true := by simp; omega
   have e3 : (false || (decide (84 ≤ op) && decide (op ≤ 87)) || (decide (88 ≤ op) && decide (op ≤ 91)) || op == 150 || op == 146 || op == 147) = true := by rw [Bool.false_or, e2]; rfl
   rw [e3]
   obtain ⟨a, b⟩ := h2
   have c1 : 78 < op := by omega
   clear e1 e2 e3 h
   by_cases h4 : op ≤ 87
   ·go_enter Try.func47, Try.ntmps47
    go_wp2
    go_ret
    exact ⟨by simp, rfl⟩
   ·have h5 : 87 < op := by omega
    have h6 : 88 ≤ op := by omega
    go_enter Try.func47, Try.ntmps47
    go_wp2
    go_ret
    exact ⟨by simp, rfl⟩
  ·have e2 : (decide (84 ≤ op) && decide (op ≤ 87)) = false := by simp; omega
   have e3 : (decide (88 ≤ op) && decide (op ≤ 91)) = false := by simp; omega
   rw [e2, e3]
   by_cases h5 : op = 150 ∨ op = 146 ∨ op = 147
   ·clear e1 e2 e3 h h2
    rcases h5 with rfl | rfl | rfl
    ·go_enter Try.func47, Try.ntmps47
     go_wp2
     go_ret
     exact ⟨by simp, rfl⟩
    ·go_enter Try.func47, Try.ntmps47
     go_wp2
     go_ret
     exact ⟨by simp, rfl⟩
    ·go_enter Try.func47, Try.ntmps47
     go_wp2
     go_ret
     exact ⟨by simp, rfl⟩
   ·have g1 : (op == 150) = false := by simp; omega
    have g2 : (op == 146) = false := by simp; omega
    have g3 : (op == 147) = false := by simp; omega
    clear e1 e2 e3
    by_cases h6 : op < 64
    ·have h7 : op < 84 := by omega
     have h8 : op < 88 := by omega
     clear h h2 h5
     go_enter Try.func47, Try.ntmps47
     go_wp2
     go_ret
     exact ⟨by simp [g1, g2, g3] <;> omega, rfl⟩
    ·have h6' : 64 ≤ op := by omega
     have h6'' : 78 < op := by omega
     by_cases h7 : op < 84
     ·have h8 : op < 88 := by omega
      clear h h2 h5
      go_enter Try.func47, Try.ntmps47
      go_wp2
      go_ret
      exact ⟨by simp [g1, g2, g3] <;> omega, rfl⟩
     ·have h7' : 84 ≤ op := by omega
      have h8 : 87 < op := by omega
      have h9 : 88 ≤ op := by omega
      have h10 : 91 < op := by omega
      clear h h2 h5
      go_enter Try.func47, Try.ntmps47
      go_wp2
      go_ret
      exact ⟨by simp [g1, g2, g3] <;> omega, rfl⟩
theorem yy (w : World) (a b : Obj) : ((w.alloc a).alloc b).heap[w.heap.size]? = some a ∧ ((w.alloc a).alloc b).heap[w.heap.size + 1]? = some b :=
 ⟨heap_alloc2_old _ _ _, heap_alloc2_new _ _ _⟩
theorem u8_mod (op : Int) : IntKind.u8.wrap op = op % 256 := rfl
set_option maxRecDepth 100000 in
theorem sized_any (i : Ins) (w : World) :
  Calls Try.prog 46 #[.agg (zt i)] w fun e w' => e = .returned (.agg (zt (z6 i))) ∧ Below w.heap.size w w' := by
 obtain ⟨op, d, s, imm, aux, bank, size⟩ := i
 have HZ := zh (fun W => size_any (op % 256) (by omega) (by omega) W)
 have hw := u8_mod op
 show Calls Try.prog 46 #[.agg #[.int .i64 op, .int .i64 d, .int .i64 s, .int .u16 imm, .int .u16 aux, .int .i64 bank, .int .i64 size]] w fun e w' => e = .returned (.agg #[.int .i64 op, .int .i64 d, .int .i64 s, .int .u16 imm, .int .u16 aux, .int .i64 bank, .int .i64 (zH (op % 256))]) ∧ Below w.heap.size w w'
 go_enter Try.func46, Try.ntmps46
 go_upto_region 1 with fail
 obtain ⟨h0, h1⟩ := yy w (.cells #[.int .i64 op, .int .i64 d, .int .i64 s, .int .u16 imm, .int .u16 aux, .int .i64 bank, .int .i64 size] 53) (.cells #[.int .i64 0, .int .i64 0, .int .i64 0, .int .u16 0, .int .u16 0, .int .i64 0, .int .i64 0] 53)
 have hB : Below w.heap.size w ((w.alloc (.cells #[.int .i64 op, .int .i64 d, .int .i64 s, .int .u16 imm, .int .u16 aux, .int .i64 bank, .int .i64 size] 53)).alloc (.cells #[.int .i64 0, .int .i64 0, .int .i64 0, .int .u16 0, .int .u16 0, .int .i64 0, .int .i64 0] 53)) := ((Below.refl _ _).alloc (zn _) _).alloc (by simp) _
 have H0 := zh h0
 have H1 := zh h1
 have HB := zh hB
 clear h0 h1 hB
 go_upto_region 2 with (first | (go_at_call 80; refine (HZ.out _).mono ?_; rintro e w1 ⟨rfl, hb1⟩; have H0 := zh ((hb1.block _ (by simp <;> omega)).trans H0.out); have H1 := zh ((hb1.block _ (by simp <;> omega)).trans H1.out); have HB := zh (HB.out.trans (hb1.mono (by simp <;> omega))); clear hb1) | (refine yP rfl _ _ _ rfl _ _ (by rfl) _ (by rfl) _ _ (H0.out) _ (by rfl) ?_ ?_ ?_ (#[.int .i64 op, .int .i64 d, .int .i64 s, .int .u16 imm, .int .u16 aux, .int .i64 bank, .int .i64 (zH (op % 256))]) (by rfl) ?_; rfl; kernel_rfl; kernel_rfl))
 have hne : w.heap.size ≠ w.heap.size + 1 := by omega
 have HG0 := zh (setRow_heap _ _ _ #[.int .i64 op, .int .i64 d, .int .i64 s, .int .u16 imm, .int .u16 aux, .int .i64 bank, .int .i64 (zH (op % 256))] _ _ H0.out)
 have HG1 := zh ((setRow_other _ w.heap.size (w.heap.size + 1) #[.int .i64 op, .int .i64 d, .int .i64 s, .int .u16 imm, .int .u16 aux, .int .i64 bank, .int .i64 (zH (op % 256))] (Ne.symm hne)).trans H1.out)
 have HGB := zh (below_setRow HB.out (zn _) #[.int .i64 op, .int .i64 d, .int .i64 s, .int .u16 imm, .int .u16 aux, .int .i64 bank, .int .i64 (zH (op % 256))])
 clear hne
 go_wp2_with (first
  | (refine wpList_load_row rfl _ (.tmp 1) rfl _ rfl _ #[.int .i64 op, .int .i64 d, .int .i64 s, .int .u16 imm, .int .u16 aux, .int .i64 bank, .int .i64 (zH (op % 256))] _ _ HG0.out Try.underlying53 rfl ?_ ?_; kernel_rfl)
  | (refine wpList_store_row rfl _ (.tmp 2) _ rfl _ #[.int .i64 op, .int .i64 d, .int .i64 s, .int .u16 imm, .int .u16 aux, .int .i64 bank, .int .i64 (zH (op % 256))] rfl rfl _ _ HG1.out ?_ ?_ ?_ ?_; kernel_rfl; rfl; kernel_rfl))
 exact bodyPost_ret (results_cell_row (cs := #[.int .i64 op, .int .i64 d, .int .i64 s, .int .u16 imm, .int .u16 aux, .int .i64 bank, .int .i64 (zH (op % 256))]) (fr := (0, 0)) rfl _ _ (w.heap.size + 1) 53 _ rfl (setRow_heap _ _ _ _ _ _ HG1.out) (Try.underlying53) rfl (by kernel_rfl)) rfl ⟨rfl, below_setRow HGB.out (by omega) _⟩
set_option maxRecDepth 100000 in
theorem far_any (op : Int) (h0 : 0 ≤ op) (h1 : op < 256) (p : yw) (w : World) :
  Calls Try.prog 58 #[.int .i64 op, .agg #[.int .i64 p.bank, .int .u16 p.addr]] w fun e w' => e = .returned (.agg (zt ⟨op, 0, 0, p.addr, 0, p.bank, zH op⟩)) ∧ Below w.heap.size w w' := by
 obtain ⟨b, a⟩ := p
 have HZ := zh (fun W => size_any op h0 h1 W)
 have hw : IntKind.u8.wrap op = op := IntWalk.u8_in _ (by omega)
 show Calls Try.prog 58 #[.int .i64 op, .agg #[.int .i64 b, .int .u16 a]] w fun e w' => e = .returned (.agg #[.int .i64 op, .int .i64 0, .int .i64 0, .int .u16 a, .int .u16 0, .int .i64 b, .int .i64 (zH op)]) ∧ Below w.heap.size w w'
 go_enter Try.func58, Try.ntmps58
 go_upto_region 1 with fail
 obtain ⟨h2, h3⟩ := yy w (.cells #[.int .i64 b, .int .u16 a] 37) (.cells #[.int .i64 0, .int .i64 0, .int .i64 0, .int .u16 0, .int .u16 0, .int .i64 0, .int .i64 0] 53)
 have hB : Below w.heap.size w ((w.alloc (.cells #[.int .i64 b, .int .u16 a] 37)).alloc (.cells #[.int .i64 0, .int .i64 0, .int .i64 0, .int .u16 0, .int .u16 0, .int .i64 0, .int .i64 0] 53)) := ((Below.refl _ _).alloc (zn _) _).alloc (by simp) _
 obtain ⟨wr, hwr⟩ : ∃ wr : World, (w.alloc (.cells #[.int .i64 b, .int .u16 a] 37)).alloc (.cells #[.int .i64 0, .int .i64 0, .int .i64 0, .int .u16 0, .int .u16 0, .int .i64 0, .int .i64 0] 53) = wr := ⟨_, rfl⟩
 have hz : w.heap.size + 2 = wr.heap.size := by rw [← hwr]; simp
 rw [hwr] at h2 h3 hB ⊢
 clear hwr
 refine zV [] 9 (z5 [isV (.int .i64 op), isV (.pointer (some ⟨w.heap.size, 0, none⟩)), isV (.int .i64 b), isV (.pointer (some ⟨w.heap.size, 1, none⟩)), isV (.int .u16 a), isV (.int .i64 op), isV (.int .u8 op), isV (.int .i64 (zH op)), isV (.agg #[.int .i64 op, .int .i64 0, .int .i64 0, .int .u16 a, .int .u16 0, .int .i64 b, .int .i64 (zH op)])]) (nth [[0], [1], [2], [3], [4], [5], [6], [7], [8]]) (nth [[], [], [], [], [], [], [], [], []]) (nth [[], [], [1], [], [3], [], [5], [6], [0, 2, 4, 7]]) [8] (yU w.heap.size w wr.heap.size [(w.heap.size, .cells #[.int .i64 b, .int .u16 a] 37 (0, 0)), (w.heap.size + 1, .cells #[.int .i64 0, .int .i64 0, .int .i64 0, .int .u16 0, .int .u16 0, .int .i64 0, .int .i64 0] 53 (0, 0))]) (by kernel_rfl) (by kernel_rfl) (⟨hB.drew, hB.size, zn _, by intro x hx; simp at hx; rcases hx with rfl | rfl <;> omega, h2, h3, trivial⟩) (yU.grow) (zG ((za (zc _)  (za (zc _)  (za (zc _)  (za (zc _)  (za (zc _)  (za (zc _)  (za (zc _)  (za (zc _)  (za (zc _) zy))))))))))) (fun f F hF => ?_)
 simp only [List.take_succ_cons, List.take_zero, yb, Act.put, zD, zE, zF, Nat.reduceAdd] at hF
 subst hF
 refine ⟨zd ?_ (zd ?_ (zd ?_ (zd ?_ (zd ?_ (zd ?_ (zd ?_ (zd ?_ (zd ?_ (yd))))))))), ?_⟩
 ·intro w5 hS hF hD K hK
  exact stV hK rfl rfl rfl rfl (by first | rfl | kernel_rfl) rfl (by show _ = _; kernel_rfl)
 ·intro w5 hS hF hD K hK
  exact stV hK rfl rfl rfl rfl (by first | rfl | kernel_rfl) rfl (by show _ = _; kernel_rfl)
 ·intro w5 hS hF hD K hK
  obtain ⟨(e1 : f 1 = _), -⟩ := hF
  try simp only [e1]
  exact stC hK rfl rfl rfl rfl (by first | rfl | kernel_rfl) rfl rfl rfl (hS.2.2.2.2.1) (by kernel_rfl) (fun _ => by kernel_rfl)
 ·intro w5 hS hF hD K hK
  exact stV hK rfl rfl rfl rfl (by first | rfl | kernel_rfl) rfl (by show _ = _; kernel_rfl)
 ·intro w5 hS hF hD K hK
  obtain ⟨(e3 : f 3 = _), -⟩ := hF
  try simp only [e3]
  exact stC hK rfl rfl rfl rfl (by first | rfl | kernel_rfl) rfl rfl rfl (hS.2.2.2.2.1) (by kernel_rfl) (fun _ => by kernel_rfl)
 ·intro w5 hS hF hD K hK
  exact stV hK rfl rfl rfl rfl (by first | rfl | kernel_rfl) rfl (by show _ = _; kernel_rfl)
 ·intro w5 hS hF hD K hK
  obtain ⟨(e5 : f 5 = _), -⟩ := hF
  try simp only [e5]
  rw [if_pos (by rfl)]
  exact zx (v := .int .u8 (IntKind.u8.wrap op)) (by (show _ = _); kernel_rfl) (hK.out _ _ rfl (zq rfl rfl rfl (congrArg (Value.int .u8) hw)))
 ·intro w5 hS hF hD K hK
  obtain ⟨(e6 : f 6 = _), -⟩ := hF
  try simp only [e6]
  rw [if_pos (by rfl)]
  go_simp
  go_at_call 80; refine (HZ.out _).mono ?_; rintro e w3 ⟨rfl, hbelow⟩; go_simp
  refine hK.out _ _ rfl (zP rfl rfl rfl hbelow ?_)
  first | rfl | kernel_rfl
 ·intro w5 hS hF hD K hK
  obtain ⟨(e0 : f 0 = _), (e2 : f 2 = _), (e4 : f 4 = _), (e7 : f 7 = _), -⟩ := hF
  try simp only [e0, e2, e4, e7]
  exact stV hK rfl rfl rfl rfl (by first | rfl | kernel_rfl) rfl (by show _ = _; kernel_rfl)
 intro w5 hS hF
 obtain ⟨(e8 : f 8 = _), -⟩ := hF
 try simp only [e8]
 refine Fin.last rfl (fun K hK => ?_)
 rw [if_pos (by rfl)]
 refine wp_store_at _ _ _ rfl (w.heap.size + 1) 0 (by rfl) _ (by rfl) _ _ hS.2.2.2.2.2.1 _ (by rfl) (Nat.le_of_ble_eq_true rfl) (by kernel_rfl) (by rfl) #[.int .i64 op, .int .i64 0, .int .i64 0, .int .u16 a, .int .u16 0, .int .i64 b, .int .i64 (zH op)] (by rfl) (hK.out _ _ ?_)
 try simp only [Act.put, zD, zE, zF]
 go_wp2_with fail
 exact bodyPost_ret (results_cell_row (cs := #[.int .i64 op, .int .i64 0, .int .i64 0, .int .u16 a, .int .u16 0, .int .i64 b, .int .i64 (zH op)]) (fr := (0, 0)) rfl _ _ (w.heap.size + 1) 53 _ rfl (setRow_heap _ _ _ _ _ _ hS.2.2.2.2.2.1) (Try.underlying53) rfl (by kernel_rfl)) rfl ⟨rfl, below_setRow hS.1 (by omega) _⟩
theorem jump_2 (op : Int) (w : World) (hb : 0 ≤ op ∧ op < 256) :
  Calls Try.prog 56 #[.int .i64 op, .int .i64 2] w fun e w' => e = .returned (.int .i64 (yW op 2)) ∧ w = w' := by
 have HC := zh (fun W => cond_any op W)
 obtain ⟨b0, b1⟩ := hb
 unfold yW
 cases hc : xN op with
 | false =>
  rw [if_pos ⟨rfl, rfl⟩]
  rw [hc] at HC
  clear hc
  go_enter Try.func56, Try.ntmps56
  go_wp2_with (go_at_call 79; refine (HC.out _).mono ?_; rintro e w1 ⟨rfl, rfl⟩)
  go_ret
  exact ⟨rfl, rfl⟩
 | true =>
  rw [if_neg (by simp), if_neg (by simp)]
  rw [hc] at HC
  clear hc
  by_cases h : 112 ≤ op
  ·rw [if_pos ⟨rfl, h⟩]
   go_enter Try.func56, Try.ntmps56
   go_wp2_with (go_at_call 79; refine (HC.out _).mono ?_; rintro e w1 ⟨rfl, rfl⟩)
   go_ret
   exact ⟨rfl, rfl⟩
  ·rw [if_neg (by simp [h]), if_neg (by simp)]
   have h' : op < 112 := by omega
   go_enter Try.func56, Try.ntmps56
   go_wp2_with (go_at_call 79; refine (HC.out _).mono ?_; rintro e w1 ⟨rfl, rfl⟩)
   go_ret
   exact ⟨rfl, rfl⟩
theorem jump_3 (op : Int) (w : World) (hb : 0 ≤ op ∧ op < 256) :
  Calls Try.prog 56 #[.int .i64 op, .int .i64 3] w fun e w' => e = .returned (.int .i64 (yW op 3)) ∧ w = w' := by
 have HC := zh (fun W => cond_any op W)
 obtain ⟨b0, b1⟩ := hb
 unfold yW
 cases hc : xN op with
 | false =>
  rw [if_neg (by simp), if_pos rfl]
  rw [hc] at HC
  clear hc
  go_enter Try.func56, Try.ntmps56
  go_wp2_with (go_at_call 79; refine (HC.out _).mono ?_; rintro e w1 ⟨rfl, rfl⟩)
  go_ret
  exact ⟨rfl, rfl⟩
 | true =>
  rw [if_neg (by simp), if_neg (by simp), if_neg (by simp)]
  rw [hc] at HC
  clear hc
  by_cases h : op < 112
  ·rw [if_pos ⟨rfl, h⟩]
   go_enter Try.func56, Try.ntmps56
   go_wp2_with (go_at_call 79; refine (HC.out _).mono ?_; rintro e w1 ⟨rfl, rfl⟩)
   go_ret
   exact ⟨rfl, rfl⟩
  ·rw [if_neg (by simp [h])]
   have h' : 112 ≤ op := by omega
   go_enter Try.func56, Try.ntmps56
   go_wp2_with (go_at_call 79; refine (HC.out _).mono ?_; rintro e w1 ⟨rfl, rfl⟩)
   go_ret
   exact ⟨rfl, rfl⟩
end Go.Proofs.Ythebmoggbgldmaa
namespace Go.Proofs.Ythebmoggbgldmaa
open Go Go.RowKit Go.Maps
def xH (ls : List zu) (n : Int) : Option Int := (yI ls n).map (fun k : Nat => (k : Int))
theorem labI_some (ls : List zu) (n : Int) : (xH ls n).isSome = (yI ls n).isSome := by unfold xH; cases yI ls n <;> rfl
theorem zeroI (w : World) : (zeroValue 3).run Try.prog w = .ok (.int .i64 0) w := by kernel_rfl
abbrev MapT := MapW Try.prog 3
set_option maxRecDepth 100000 in
theorem has_any (n : Int) (hn : zX n) (g m : Nat) (F : Int → Option Int) (a b : Value) (T : TypeId) (fr : Nat × Nat) (w : World) (hg : w.heap[g]? = some (.cells #[a, b, .map (some m)] T fr)) (hm : MapT m F w) :
  Calls Try.prog 44 #[.int .i64 n, .pointer (some ⟨g, 0, none⟩)] w fun e w' => e = .returned (.bool (!(F n).isSome)) ∧ w = w' := by
 have HM := zh hm
 have hc : w.cell? ⟨g, 2, none⟩ = some (.map (some m)) := cell_of_row w g 2 _ _ _ hg
 have HN := zh hn
 clear hg hm hn
 go_enter Try.func44, Try.ntmps44
 go_wp2_with (at_lookup; refine xz Try.underlying3 rfl _ _ 72 rfl Try.underlying72 (zeroI _) rfl HM.out n rfl HN.out ?_)
 go_ret
 exact ⟨by show Ending.returned (.bool (F n).isNone) = _; cases F n <;> rfl, rfl⟩
def missK (F : Int → Option Int) (t : List Int) : Int := match t.findIdx? (fun n => !(F n).isSome) with | some k => k | none => -1
set_option maxRecDepth 100000 in
theorem indexI_any (t : List Int) (ht : ∀ x ∈ t, zX x) (ao : Option Addr) (cap : Nat) (g m : Nat) (F : Int → Option Int) (a b : Value) (T : TypeId) (fr : Nat × Nat) (w : World) (hg : w.heap[g]? = some (.cells #[a, b, .map (some m)] T fr)) (hm : MapT m F w) (hI : xO w (.slice ao t.length cap) t) (hl : t.length ≤ 1000) :
  Calls Try.prog 81 #[.slice ao t.length cap, .func (.func 44) #[] #[.pointer (some ⟨g, 0, none⟩)]] w fun e w' => e = .returned (.int .i64 (missK F t)) ∧ w = w' := by
 have HA := zh (fun n hn => has_any n hn g m F a b T fr w hg hm)
 have HT := zh ht
 have HI := zh hI
 clear hg hm ht hI
 go_enter Try.func81, Try.ntmps81
 go_wp2
 go_loop [8] (fun i => ∃ k : Nat, k ≤ t.length ∧ i = .int .i64 k ∧ Hid (∀ j x, j < k → t[j]? = some x → (F x).isSome = true)) (fun i => t.length - (intOf i).toNat)
 case atStart => exact ⟨0, Nat.zero_le _, rfl, zh (fun j x h => by omega)⟩
 case round =>
  obtain ⟨k, hk, rfl, HP⟩ := hrel
  by_cases hlt : k < t.length
  ·obtain ⟨x, hx⟩ : ∃ x, t[k]? = some x := ⟨_, List.getElem?_eq_getElem hlt⟩
   have HX := zh (HT.out x (List.mem_of_getElem? hx))
   obtain ⟨ao', cap', e0, hc, h1⟩ := HI.out
   simp only [Value.slice.injEq, true_and] at e0
   obtain ⟨rfl, rfl⟩ := e0
   obtain ⟨q, off, c, T', fr', rfl, hq, h2⟩ := h1 (by omega)
   have hcell : w.cell? ⟨q, off + k, none⟩ = some (.int .i64 x) := by rw [cell_of_row w q _ _ _ _ hq]; exact h2 k x hx
   have HX0 := zh hx
   clear h2 hq h1 hx hc
   cases hp : (F x).isSome with
   | true =>
    have HY := zh (show Calls Try.prog 44 #[.int .i64 x, .pointer (some ⟨g, 0, none⟩)] w fun e w' => e = .returned (.bool false) ∧ w = w' by have := HA.out x HX.out; rw [hp] at this; exact this)
    have HPX := zh hp
    clear hp
    go_wp2_with (go_at_call 44; refine (HY.out).mono ?_; rintro e w1 ⟨rfl, rfl⟩)
    go_round
    case rel =>
     refine ⟨k + 1, by omega, by go_num, zh fun j y hj hy => ?_⟩
     by_cases e : j = k
     ·subst e; rw [HX0.out] at hy; cases hy; exact HPX.out
     ·exact HP.out j y (by omega) hy
    case measure => simp [intOf]; omega
   | false =>
    have HY := zh (show Calls Try.prog 44 #[.int .i64 x, .pointer (some ⟨g, 0, none⟩)] w fun e w' => e = .returned (.bool true) ∧ w = w' by have := HA.out x HX.out; rw [hp] at this; exact this)
    have HPX := zh hp
    clear hp
    go_wp2_with (go_at_call 44; refine (HY.out).mono ?_; rintro e w1 ⟨rfl, rfl⟩)
    go_ret
    refine ⟨?_, rfl⟩
    have : t.findIdx? (fun n => !(F n).isSome) = some k := by
     rw [List.findIdx?_eq_some_iff_getElem]
     obtain ⟨h3, h4⟩ := List.getElem?_eq_some_iff.1 HX0.out
     refine ⟨h3, by rw [h4, HPX.out]; rfl, fun j hj => ?_⟩
     have := HP.out j t[j] hj (List.getElem?_eq_getElem (by omega))
     rw [this]; simp
    unfold missK
    rw [this]
    rfl
  ·have hke : k = t.length := by omega
   subst hke
   clear hlt
   go_wp2
   go_ret
   refine ⟨?_, rfl⟩
   have : t.findIdx? (fun n => !(F n).isSome) = none := by
    rw [List.findIdx?_eq_none_iff]
    intro x hx
    obtain ⟨j, hj, rfl⟩ := List.mem_iff_getElem.1 hx
    rw [HP.out j t[j] hj (List.getElem?_eq_getElem hj)]; rfl
   unfold missK
   rw [this]
   rfl
theorem missK_ge (F : Int → Option Int) (t : List Int) : decide (0 ≤ missK F t) = t.any (fun n => !(F n).isSome) := by
 unfold missK
 cases h : t.findIdx? (fun n => !(F n).isSome) with
 | none =>
  rw [List.findIdx?_eq_none_iff] at h
  have : t.any (fun n => !(F n).isSome) = false := by rw [List.any_eq_false]; intro x hx; rw [h x hx]; simp
  rw [this]; rfl
 | some k =>
  obtain ⟨h1, h2, -⟩ := List.findIdx?_eq_some_iff_getElem.1 h
  have : t.any (fun n => !(F n).isSome) = true := by rw [List.any_eq_true]; exact ⟨_, List.getElem_mem h1, h2⟩
  rw [this]; simp
set_option maxRecDepth 100000 in
theorem missI_any (t : List Int) (ht : ∀ x ∈ t, zX x) (ao : Option Addr) (cap : Nat) (g m : Nat) (F : Int → Option Int) (a b : Value) (T : TypeId) (fr : Nat × Nat) (w : World) (hg : w.heap[g]? = some (.cells #[a, b, .map (some m)] T fr)) (hm : MapT m F w) (hI : xO w (.slice ao t.length cap) t) (hl : t.length ≤ 1000) :
  Calls Try.prog 43 #[.slice ao t.length cap, .func (.func 44) #[] #[.pointer (some ⟨g, 0, none⟩)]] w fun e w' => e = .returned (.bool (t.any (fun n => !(F n).isSome))) ∧ w = w' := by
 have HA := zh (indexI_any t ht ao cap g m F a b T fr w hg hm hI hl)
 have HG := zh (missK_ge F t)
 clear hg hm ht hI
 go_enter Try.func43, Try.ntmps43
 go_wp2_with (go_at_call 81; refine (HA.out).mono ?_; rintro e w1 ⟨rfl, rfl⟩)
 go_ret
 rw [← HG.out]
 exact ⟨rfl, rfl⟩
end Go.Proofs.Ythebmoggbgldmaa
