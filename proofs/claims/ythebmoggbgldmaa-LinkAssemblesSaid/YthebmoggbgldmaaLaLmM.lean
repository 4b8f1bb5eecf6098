/- The reference of chapter 19: Made, walked. The conditions: the numbers lie in their types ranges. (Printed by gen_lmm.py.) -/
import Derived.Test.YthebmoggbgldmaaLaLrF
import Derived.Great.BuildSlice
set_option linter.all false
namespace Go.Proofs.Ythebmoggbgldmaa
open Go Go.RowKit Go.Maps
theorem own_setCell {W : World} {B g i n : Nat} {v x : Value} {xs : List Value} {cs : Array Value} {U : TypeId} {fr : Nat × Nat} (h : W.ownsRow B 3 1 v n xs) (hg : W.heap[g]? = some (.cells cs U fr)) (hU : U ≠ 3) : (W.setCell ⟨g, i, none⟩ x).ownsRow B 3 1 v n xs :=
 zZ h (zN.setCell (bs := fun k => k = g) (zN.refl _ W) x fun _ => rfl) fun q hq e => by
  obtain ⟨-, cs', h1⟩ := z7 h q hq
  rw [e, hg] at h1
  simp at h1
  exact hU h1.2.1
theorem yT {W w : World} {B g i : Nat} (h : Below B w W) (hB : B ≤ g) (x : Value) : Below B w (W.setCell ⟨g, i, none⟩ x) :=
 h.trans ⟨rfl, rfl, rfl, by simp [World.setCell], fun k hk => jU (by omega) x⟩
theorem rmodN (k : Nat) (m q : Int) (hq : zX q) (h0 : 0 < m) (h1 : m ≤ 65536) (hk : q % m = k) (W : World) : Calls Try.prog 11 #[.int .i64 q, .int .i64 m] W fun e w' => e = .returned (.int .i64 k) ∧ W = w' := by
 rw [← hk]
 exact jk q m hq h0 (by omega) W
theorem rmodI (m q : Int) (hq : zX q) (h0 : 0 < m) (h1 : m ≤ 65536) (W : World) : Calls Try.prog 11 #[.int .i64 q, .int .i64 m] W fun e w' => e = .returned (.int .i64 (q % m)) ∧ W = w' := jk q m hq h0 (by omega) W
theorem u16_rng (x : Int) : 0 ≤ IntKind.u16.wrap x ∧ IntKind.u16.wrap x < 65536 := by
 unfold IntKind.wrap
 simp only [IntKind.bits, IntKind.signed]
 simp
 omega
theorem w14a (q : Int) : IntKind.i64.wrap (96 + q % 14) = 96 + q % 14 ∧ IntKind.i64.wrap (112 + q % 14) = 112 + q % 14 := ⟨IntWalk.i64_in _ (by omega), IntWalk.i64_in _ (by omega)⟩
theorem w15a (q : Int) : IntKind.i64.wrap (64 + q % 15) = 64 + q % 15 ∧ IntKind.i64.wrap (84 + q % 4) = 84 + q % 4 ∧ IntKind.i64.wrap (88 + q % 4) = 88 + q % 4 := ⟨IntWalk.i64_in _ (by omega), IntWalk.i64_in _ (by omega), IntWalk.i64_in _ (by omega)⟩
theorem w40a (q : Int) : IntKind.i64.wrap (q % 40 - 5) = q % 40 - 5 := IntWalk.i64_in _ (by omega)
theorem mod3 (q : Int) : ∃ r : Nat, q % 3 = (r : Int) ∧ r < 3 ∧ (r : Int) < 3 := ⟨(q % 3).toNat, by omega, by omega, by omega⟩
theorem mod6 (q : Int) : ∃ r : Nat, q % 6 = (r : Int) ∧ r < 6 ∧ (r : Int) < 6 := ⟨(q % 6).toNat, by omega, by omega, by omega⟩
theorem mod9 (q : Int) : ∃ r : Nat, q % 9 = (r : Int) ∧ r < 9 := ⟨(q % 9).toNat, by omega, by omega⟩
theorem mod8 (q : Int) : 0 ≤ q % 8 ∧ q % 8 < 8 := by omega
theorem modB (q : Int) {m : Int} (h : 0 < m) : 0 ≤ q % m ∧ q % m < m := ⟨Int.emod_nonneg _ (by omega), Int.emod_lt_of_pos _ h⟩
theorem pickA (q : Int) (m : Nat) (hm : m < 4) : ∃ X : Int, (#[.int .i64 (96 + q % 14), .int .i64 (112 + q % 14), .int .i64 128, .int .i64 129] : Array Value)[m]? = some (.int .i64 X) ∧ zK X = 2 ∧ 0 ≤ X ∧ X < 256 := by
 have hb := form_br1 (x := q % 14) (by omega)
 rcases (show m = 0 ∨ m = 1 ∨ m = 2 ∨ m = 3 by omega) with rfl | rfl | rfl | rfl
 ·exact ⟨_, rfl, hb.1, by omega, by omega⟩
 ·exact ⟨_, rfl, hb.2, by omega, by omega⟩
 ·exact ⟨_, rfl, form_js.1, by omega, by omega⟩
 ·exact ⟨_, rfl, form_js.2.1, by omega, by omega⟩
theorem pickC (r : Nat) (hr : r < 3) : ∃ X : Int, (#[.int .i64 130, .int .i64 132, .int .i64 131] : Array Value)[r]? = some (.int .i64 X) ∧ zK X = 4 ∧ 0 ≤ X ∧ X < 256 := by
 rcases (show r = 0 ∨ r = 1 ∨ r = 2 by omega) with rfl | rfl | rfl
 ·exact ⟨_, rfl, form_js.2.2.2.1, by omega, by omega⟩
 ·exact ⟨_, rfl, form_js.2.2.2.2.1, by omega, by omega⟩
 ·exact ⟨_, rfl, form_js.2.2.2.2.2.1, by omega, by omega⟩
theorem pickD (q : Int) (r : Nat) (hr : r < 6) : ∃ X : Int, (#[.int .i64 (64 + q % 15), .int .i64 (84 + q % 4), .int .i64 (88 + q % 4), .int .i64 150, .int .i64 146, .int .i64 147] : Array Value)[r]? = some (.int .i64 X) ∧ xR X = true ∧ 0 ≤ X ∧ X < 256 := by
 have ha := wd_a (x := q % 15) (by omega)
 have hb := wd_b (x := q % 4) (by omega)
 rcases (show r = 0 ∨ r = 1 ∨ r = 2 ∨ r = 3 ∨ r = 4 ∨ r = 5 by omega) with rfl | rfl | rfl | rfl | rfl | rfl
 ·exact ⟨_, rfl, ha, by omega, by omega⟩
 ·exact ⟨_, rfl, hb.1, by omega, by omega⟩
 ·exact ⟨_, rfl, hb.2, by omega, by omega⟩
 ·exact ⟨_, rfl, wd_c.1, by omega, by omega⟩
 ·exact ⟨_, rfl, wd_c.2.1, by omega, by omega⟩
 ·exact ⟨_, rfl, wd_c.2.2, by omega, by omega⟩
theorem ok_br {k n : Nat} {X de : Int} (hk : k < n) (hn : n ≤ 120) (hX : 0 ≤ X ∧ X < 256) (hd : 0 ≤ de ∧ de < n) : zu.Ok ⟨k, ⟨X, 0, 0, 0, 0, 0, 0⟩, de, -1, -1, []⟩ := okL (by dsimp only; omega) (fun t ht => by cases ht) (Nat.zero_le _)
theorem ok_tb {k n : Nat} {d de : Int} {t : List Int} (hk : k < n) (hn : n ≤ 120) (hd : 0 ≤ d ∧ d < 8) (he : 0 ≤ de ∧ de < n) (ht : ∀ x ∈ t, 0 ≤ x ∧ x < n) (hl : t.length ≤ 9) : zu.Ok ⟨k, ⟨133, d, 0, 0, 0, 0, 0⟩, de, -1, -1, t⟩ := okL (by dsimp only; omega) (fun y hy => by have := ht y hy; omega) hl
theorem ok_cl {k n nf : Nat} {X fn : Int} (hk : k < n) (hn : n ≤ 120) (hX : 0 ≤ X ∧ X < 256) (hf : -1 ≤ fn ∧ fn < nf) (hnf : (nf : Int) ≤ 65536) : zu.Ok ⟨k, ⟨X, 0, 0, 0, 0, 0, 0⟩, -1, fn, -1, []⟩ := okL (by dsimp only; omega) (fun t ht => by cases ht) (Nat.zero_le _)
theorem ok_wd {k n no : Nat} {X d s im aux ob : Int} (hk : k < n) (hn : n ≤ 120) (hX : 0 ≤ X ∧ X < 256) (hd : 0 ≤ d ∧ d < 8) (hs : 0 ≤ s ∧ s < 8) (hi : 0 ≤ im ∧ im < 65536) (ha : 0 ≤ aux ∧ aux < 65536) (ho : -1 ≤ ob ∧ ob < no) (hno : (no : Int) ≤ 65536) : zu.Ok ⟨k, ⟨X, d, s, im, aux, 0, 0⟩, -1, -1, ob, []⟩ := okL (by dsimp only; omega) (fun t ht => by cases ht) (Nat.zero_le _)
theorem bsl_wp {o : Oper} {a : Act} {w : World} {K : Act → World → Prop} {Q : Exit → Act → World → Prop} (n : Nat) (parts : Array (Nat × Operand)) (ho : o.op = .buildSlice 40 n parts) (cells : Array Value) (hn : 0 < n) (hn2 : n ≤ 100)
  (L : List (Nat × Value)) (hp : parts.toList.map (fun p => (p.1, a.eval p.2)) = L)
  (hf : Instr.fill (fun i => some (i * 1, 1)) ((Array.range (n * 1)).map ((Value.int .i64 0).cells[· % (Value.int .i64 0).cells.size]!)) L = some cells)
  (h : K (a.put o.dst (.slice (some ⟨w.heap.size, 0, none⟩) n n)) (w.alloc (.cells cells 3))) : o.wp Try.prog a w K Q := by
 obtain ⟨i3, hi3, hz3, hz31, hz32⟩ := info_parts infoIk
 have e : (parts.map fun (i, x) => (i, a.eval x)).toList = L := by rw [← hp, Array.toList_map]
 exact wp_buildSlice _ _ n parts ho cells i3 _ Try.underlying40 hi3 hz3 (by rw [hz31]; omega) (by rw [hz31]; omega) (by rw [hz31, e]; exact hf) h
theorem fill4 (x0 x1 x2 x3 : Int) : Instr.fill (fun i => some (i * 1, 1)) ((Array.range (4 * 1)).map ((Value.int .i64 0).cells[· % (Value.int .i64 0).cells.size]!)) [(0, .int .i64 x0), (1, .int .i64 x1), (2, .int .i64 x2), (3, .int .i64 x3)] = some #[.int .i64 x0, .int .i64 x1, .int .i64 x2, .int .i64 x3] := by (as_aux_lemma => kernel_rfl)
theorem fill6 (x0 x1 x2 x3 x4 x5 : Int) : Instr.fill (fun i => some (i * 1, 1)) ((Array.range (6 * 1)).map ((Value.int .i64 0).cells[· % (Value.int .i64 0).cells.size]!)) [(0, .int .i64 x0), (1, .int .i64 x1), (2, .int .i64 x2), (3, .int .i64 x3), (4, .int .i64 x4), (5, .int .i64 x5)] = some #[.int .i64 x0, .int .i64 x1, .int .i64 x2, .int .i64 x3, .int .i64 x4, .int .i64 x5] := by (as_aux_lemma => kernel_rfl)
def WdQ (X d s aux : Int) : Prop := 0 ≤ d ∧ d < 8 ∧ 0 ≤ s ∧ s < 8 ∧ 0 ≤ aux ∧ aux < 65536 ∧ (X ≠ 150 → s = 0 ∧ aux = 0) ∧ (X = 150 → d = 0)
theorem wdq1 {z aux : Int} (hz : 0 ≤ z ∧ z < 8) (ha : 0 ≤ aux ∧ aux < 65536) : WdQ 150 0 z aux := ⟨by omega, by omega, hz.1, hz.2, ha.1, ha.2, fun h => absurd rfl h, fun _ => rfl⟩
theorem wdq2 {X z : Int} (hX : X ≠ 150) (hz : 0 ≤ z ∧ z < 8) : WdQ X z 0 0 := ⟨hz.1, hz.2, by omega, by omega, by omega, by omega, fun _ => ⟨rfl, rfl⟩, fun h => absurd h hX⟩
set_option maxRecDepth 100000 in
set_option maxHeartbeats 80000000 in
theorem made19_any (lo : Option Addr) (ll lcap nf no n : Nat) (Q : Nat → Nat → Int) (hQ : ∀ i j, zX (Q i j)) (hn : n = min ll 120) (hnf : nf < 65536) (hno : no < 65536) (hll : ll < 9223372036854775808) (w : World) (hS : SixV w (.slice lo ll lcap) ll Q) :
  Calls Try.prog 10 #[.slice lo ll lcap, .int .i64 nf, .int .i64 no] w (MdPost n nf no w) := by
 have HQ := zh hQ
 have HSX := zh hS
 have HNF1 := zh (show (nf : Int) ≤ 65536 by omega)
 have HNO1 := zh (show (no : Int) ≤ 65536 by omega)
 have hn120 : n ≤ 120 := by omega
 have hnll : n ≤ ll := by omega
 have hmin : min (ll : Int) 120 = (n : Int) := by omega
 have HDG := zh (fun W => digits_any 5 (by omega) n (by omega) (by omega) W)
 obtain ⟨iL, hiL, hzL, hzL1, hzL2⟩ := info_parts infoLine
 have HIL := zh (And.intro hiL (And.intro hzL (And.intro hzL1 hzL2)))
 clear hQ hS hiL hzL hzL1 hzL2
 go_enter Try.func10, Try.ntmps10
 go_upto_region 1 with fail
 have hw0 := heap_alloc_new w (.cells #[.string ⟨#[]⟩, .slice none 0 0] 32)
 have hbw := (Below.refl w.heap.size w).alloc (zn _) (.cells #[.string ⟨#[]⟩, .slice none 0 0] 32)
 obtain ⟨wa, hwa⟩ : ∃ W : World, w.alloc (.cells #[.string ⟨#[]⟩, .slice none 0 0] 32) = W := ⟨_, rfl⟩
 rw [hwa] at hw0 hbw ⊢
 have H6 := zh hw0
 have HB := zh hbw
 clear hwa hw0 hbw hmin
 go_cut [7] (fun s wx => s = .int .i64 n ∧ wx = wa)
 case first =>
  by_cases hl : ll ≤ 120
  ·have hl2 : (ll : Int) ≤ 120 := by omega
   have hl3 : n = ll := by omega
   clear hn
   subst hl3
   go_wp2_with fail
   all_goals (go_meet; exact ⟨by first | rfl | (simp; omega), rfl⟩)
  ·have hl2 : ¬ (ll : Int) ≤ 120 := by omega
   have hl4 : (120 : Int) < (ll : Int) := by omega
   have hl3 : n = 120 := by omega
   clear hn
   subst hl3
   go_wp2_with fail
   all_goals (go_meet; exact ⟨by first | rfl | (simp; omega), rfl⟩)
 case rest =>
 obtain ⟨rfl, rfl⟩ := hcut
 have HNL := zh hnll
 clear hnll hn
 go_upto_region 3 with (first | (go_at_call 23; refine (HDG.out _).mono ?_; rintro e w1 ⟨s, hs, rfl, hb1⟩; have hcd : ¬ 9223372036854775807 < 1 + s.size := (by omega)) | (refine wpList_store_row rfl _ _ _ rfl _ _ rfl rfl _ _ (heap_alloc_new _ _) ?_ ?_ ?_ ?_; (as_aux_lemma => kernel_rfl); rfl; (as_aux_lemma => kernel_rfl); rw [World.setRow_alloc_new]))
 have hsz2 : w.heap.size < w1.heap.size := by have h1 := (Array.getElem?_eq_some_iff.1 H6.out).1; have h2 := hb1.size; omega
 obtain ⟨nm, hnm⟩ : ∃ nm : ByteArray, (ByteArray.mk #[99]) ++ s = nm := ⟨_, rfl⟩
 try rw [hnm]
 have hb2 := hb1.alloc hb1.size (.cells #[.string nm, .slice none 0 0] 32)
 have HMR : MdR w n nf no w1.heap.size nm [] (.slice none 0 0) (w1.alloc (.cells #[.string nm, .slice none 0 0] 32)) :=
  ⟨HB.out.trans (hb2.mono HB.out.size), hsz2, zf hb2 H6.out, heap_alloc_new _ _, ⟨rfl, .inl ⟨rfl, rfl⟩⟩, (fun p hp => by cases hp), fun i p hp => by simp at hp⟩
 obtain ⟨w2, hw2⟩ : ∃ W : World, w1.alloc (.cells #[.string nm, .slice none 0 0] 32) = W := ⟨_, rfl⟩
 obtain ⟨g8, hg8⟩ : ∃ g : Nat, w1.heap.size = g := ⟨_, rfl⟩
 rw [hw2, hg8] at HMR
 rw [hw2]
 try rw [hg8]
 have HMD := zh HMR
 clear hw2 hg8 HMR hb1 hb2 hsz2 hcd hs hnm H6 HB HDG
 try simp only [Act.put]
 go_wp2_with fail
 go_loopw [9] (fun i wr => ∃ (k : Nat) (ps : List (zu × Value)) (sv : Value), k ≤ n ∧ ps.length = k ∧ i = .int .i64 k ∧ Hid (MdR w n nf no g8 nm ps sv wr)) (fun i _ => n - (intOf i).toNat)
 case atStart => exact ⟨0, [], _, Nat.zero_le _, rfl, rfl, HMD⟩
 case round =>
  obtain ⟨k, ps, sv, hk, hpk, rfl, HM⟩ := hrel
  clear HMD
  by_cases hlt : k < n
  ·have hkl : k < ll := by have := HNL.out; omega
   obtain ⟨ao0, cp0, he0, -, hrow⟩ := HSX.out
   obtain ⟨q, off, c, T', fr', hao, hq, hx⟩ := hrow (by omega)
   simp only [Value.slice.injEq] at he0
   obtain ⟨rfl, -, rfl⟩ := he0
   subst hao
   have HQB := zh (zf HM.out.bb hq)
   have HXX := hx k hkl
   obtain ⟨q0, hq0⟩ : ∃ z, Q k 0 = z := ⟨_, rfl⟩
   obtain ⟨q1, hq1⟩ : ∃ z, Q k 1 = z := ⟨_, rfl⟩
   obtain ⟨q2, hq2⟩ : ∃ z, Q k 2 = z := ⟨_, rfl⟩
   obtain ⟨q3, hq3⟩ : ∃ z, Q k 3 = z := ⟨_, rfl⟩
   obtain ⟨q4, hq4⟩ : ∃ z, Q k 4 = z := ⟨_, rfl⟩
   obtain ⟨q5, hq5⟩ : ∃ z, Q k 5 = z := ⟨_, rfl⟩
   rw [hq0, hq1, hq2, hq3, hq4, hq5] at HXX
   have HX := zh HXX
   have HI0 := zh (hq0 ▸ HQ.out k 0)
   have HI1 := zh (hq1 ▸ HQ.out k 1)
   have HI2 := zh (hq2 ▸ HQ.out k 2)
   have HI3 := zh (hq3 ▸ HQ.out k 3)
   have HI4 := zh (hq4 ▸ HQ.out k 4)
   have HI5 := zh (hq5 ▸ HQ.out k 5)
   clear hq0 hq1 hq2 hq3 hq4 hq5 HXX hx hq hrow
   go_upto_region 8 with (first | (refine wpList_store_row rfl _ _ _ rfl _ _ rfl rfl _ _ (heap_alloc_new _ _) ?_ ?_ ?_ ?_; (as_aux_lemma => kernel_rfl); rfl; (as_aux_lemma => kernel_rfl); rw [World.setRow_alloc_new]) | (refine z9 _ _ rfl _ _ rfl _ _ _ (HQB.out) ([.int .i64 q0, .int .i64 q1, .int .i64 q2, .int .i64 q3, .int .i64 q4, .int .i64 q5]) (HX.out) ?_ ?_ ?_; (as_aux_lemma => kernel_rfl); (as_aux_lemma => kernel_rfl)))
   obtain ⟨h10, h11⟩ := yy wr (.cells #[.int .i64 q0, .int .i64 q1, .int .i64 q2, .int .i64 q3, .int .i64 q4, .int .i64 q5] 24) (.cells #[.int .i64 k, .int .i64 0, .int .i64 0, .int .i64 0, .int .u16 0, .int .u16 0, .int .i64 0, .int .i64 0, .int .i64 (-1), .int .i64 (-1), .int .i64 (-1), .slice none 0 0] 58)
   have hbb : Below wr.heap.size wr ((wr.alloc (.cells #[.int .i64 q0, .int .i64 q1, .int .i64 q2, .int .i64 q3, .int .i64 q4, .int .i64 q5] 24)).alloc (.cells #[.int .i64 k, .int .i64 0, .int .i64 0, .int .i64 0, .int .u16 0, .int .u16 0, .int .i64 0, .int .i64 0, .int .i64 (-1), .int .i64 (-1), .int .i64 (-1), .slice none 0 0] 58)) := ((Below.refl _ _).alloc (zn _) _).alloc (by simp) _
   obtain ⟨wb, hwb⟩ : ∃ W : World, (wr.alloc (.cells #[.int .i64 q0, .int .i64 q1, .int .i64 q2, .int .i64 q3, .int .i64 q4, .int .i64 q5] 24)).alloc (.cells #[.int .i64 k, .int .i64 0, .int .i64 0, .int .i64 0, .int .u16 0, .int .u16 0, .int .i64 0, .int .i64 0, .int .i64 (-1), .int .i64 (-1), .int .i64 (-1), .slice none 0 0] 58) = W := ⟨_, rfl⟩
   rw [hwb] at h10 h11 hbb ⊢
   obtain ⟨g10, hg10⟩ : ∃ g : Nat, wr.heap.size = g := ⟨_, rfl⟩
   obtain ⟨g11, hg11⟩ : ∃ g : Nat, wr.heap.size + 1 = g := ⟨_, rfl⟩
   rw [hg11] at h11
   try rw [hg11]
   rw [hg10] at h10
   try rw [hg10]
   have HGE := zh (show wr.heap.size ≤ g10 ∧ wr.heap.size ≤ g11 ∧ g10 ≠ g11 by omega)
   have HG10 := zh h10
   have HG11 := zh h11
   have HBW := zh hbb
   clear hwb h10 h11 hbb hg10 hg11 HQB HX
   try simp only [Act.put]
   have c10 : ∀ o : Nat, wb.cell? ⟨g10, o, none⟩ = (#[.int .i64 q0, .int .i64 q1, .int .i64 q2, .int .i64 q3, .int .i64 q4, .int .i64 q5] : Array Value)[o]? := fun o => cell_of_row wb g10 o _ _ _ HG10.out
   have HN0 := zh (show (0 : Int) < (n : Int) by omega)
   have HN1 := zh (show (n : Int) ≤ 65536 by omega)
   have HL := zh (rmodI n q1 HI1.out HN0.out HN1.out)
   have HM0 := zh (rmodI 12 q0 HI0.out (by decide) (by decide))
   obtain ⟨lb, hlb⟩ : ∃ z, q1 % (n : Int) = z := ⟨_, rfl⟩
   obtain ⟨m0, hm0⟩ : ∃ z, q0 % 12 = z := ⟨_, rfl⟩
   rw [hlb] at HL
   rw [hm0] at HM0
   have hlb0 : 0 ≤ lb ∧ lb < n := by rw [← hlb]; exact ⟨Int.emod_nonneg _ (by omega), Int.emod_lt_of_pos _ (by omega)⟩
   have hm00 : 0 ≤ m0 ∧ m0 < 12 := by rw [← hm0]; exact ⟨Int.emod_nonneg _ (by omega), Int.emod_lt_of_pos _ (by omega)⟩
   have HLB0 := zh hlb0
   have HMM0 := zh hm00
   clear hlb hm0 hlb0 hm00
   go_upto_block 2 with (first | (go_at_call 11; refine (HL.out _).mono ?_; rintro e wz ⟨rfl, rfl⟩) | (go_at_call 11; refine (HM0.out _).mono ?_; rintro e wz ⟨rfl, rfl⟩))
   clear c10
   go_cut [] (fun wx => ∃ (l : zu) (tv : Value), Hid (Below wr.heap.size wr wx) ∧ Hid (wx.heap[g11]? = some (.cells #[.int .i64 l.label, .int .i64 l.ins.op, .int .i64 l.ins.d, .int .i64 l.ins.s, .int .u16 l.ins.imm, .int .u16 l.ins.aux, .int .i64 l.ins.bank, .int .i64 l.ins.size, .int .i64 l.dest, .int .i64 l.fn, .int .i64 l.obj, tv] 58 (0, 0))) ∧ Hid (wx.ownsRow wr.heap.size 3 1 tv l.tab.length (l.tab.map (Value.int .i64))) ∧ Hid (MadeOk n nf no k l))
   case first =>
    as_aux_lemma =>
    have hlb0 := HLB0.out
    have hmm0 := HMM0.out
    obtain ⟨hge1, hge2, hgne⟩ := HGE.out
    go_upto_if 53 with fail
    go_cut [53] (fun s wx => s = .bool (decide (m0 < 4)) ∧ wx = wb)
    case first =>
     rcases (show m0 = 0 ∨ m0 = 1 ∨ m0 = 2 ∨ m0 = 3 ∨ 4 ≤ m0 by omega) with rfl | rfl | rfl | rfl | hmx
     ·try simp only [show ((0 : Int) == 0) = true from rfl]
      go_wp2_with fail
      go_meet
      exact ⟨rfl, rfl⟩
     ·try simp only [show ((1 : Int) == 0) = false from rfl]
      go_wp2_with fail
      go_meet
      exact ⟨rfl, rfl⟩
     ·try simp only [show ((2 : Int) == 0) = false from rfl]
      go_wp2_with fail
      go_meet
      exact ⟨rfl, rfl⟩
     ·try simp only [show ((3 : Int) == 0) = false from rfl]
      go_wp2_with fail
      go_meet
      exact ⟨rfl, rfl⟩
     ·have e0 : (m0 == 0) = false := by simp; omega
      have e1 : (m0 == 1) = false := by simp; omega
      have e2 : (m0 == 2) = false := by simp; omega
      have e3 : (m0 == 3) = false := by simp; omega
      try simp only [e0]
      go_wp2_with fail
      go_meet
      exact ⟨by rw [decide_eq_false (by omega)], rfl⟩
    case rest =>
    obtain ⟨rfl, rfl⟩ := hcut
    by_cases hlt4 : m0 < 4
    ·as_aux_lemma =>
     obtain ⟨m, rfl⟩ : ∃ m : Nat, m0 = m := ⟨m0.toNat, by omega⟩
     have HWA := zh (w14a q2).1
     have HWB := zh (w14a q2).2
     obtain ⟨X, hX, hXf, hX0⟩ := pickA q2 m (by omega)
     have HXC := zh hX
     have HXF := zh hXf
     clear hX hXf
     go_upto_region 15 with fail
     refine ye [] 14 (z5 [isV (.pointer (some ⟨g10, 2, none⟩)), isV (.int .i64 q2), isV (.int .i64 (q2 % 14)), isV (.int .i64 (96 + q2 % 14)), isV (.pointer (some ⟨g10, 2, none⟩)), isV (.int .i64 q2), isV (.int .i64 (q2 % 14)), isV (.int .i64 (112 + q2 % 14)), newS (wc.heap.size) ((.cells #[.int .i64 (96 + q2 % 14), .int .i64 (112 + q2 % 14), .int .i64 128, .int .i64 129] 3 (0, 0))) 4, isV (.pointer (some ⟨g10, 0, none⟩)), isV (.int .i64 q0), isV (.int .i64 m), isVT ((fun _ => False)) (PtQ m #[.int .i64 (96 + q2 % 14), .int .i64 (112 + q2 % 14), .int .i64 128, .int .i64 129]), isV (.int .i64 X)]) (nth [[0], [1], [2], [3], [4], [5], [6], [7], [8], [9], [10], [11], [12], [13]]) (nth [[], [], [], [], [], [], [], [], [], [], [], [], [], []]) (nth [[], [0], [1], [2], [], [4], [5], [6], [3, 7], [], [9], [10], [8, 11], [12]]) [13] (fun w5 => Below wc.heap.size wc w5 ∧ True ∧ wc.heap.size ≤ w5.heap.size ∧ True) (by (as_aux_lemma => kernel_rfl)) (by (as_aux_lemma => kernel_rfl)) (⟨(Below.refl _ _).drew, trivial, zn _, trivial⟩) (fun w w' h hb => ⟨h.1.trans (hb.mono h.1.size), trivial, Nat.le_trans h.2.2.1 hb.size, trivial⟩) (zG ((za (zc _)  (za (zc _)  (za (zc _)  (za (zc _)  (za (zc _)  (za (zc _)  (za (zc _)  (za (zc _)  (za (yZ _ _ _)  (za (zc _)  (za (zc _)  (za (zc _)  (za (yu _ _)  (za (zc _) zy)))))))))))))))) (fun f F hF => ?_)
     simp only [List.take_succ_cons, List.take_zero, yb, Act.put, zD, zE, zF, Nat.reduceAdd] at hF
     subst hF
     refine ⟨ze ?_ (ze ?_ (ze ?_ (ze ?_ (ze ?_ (ze ?_ (ze ?_ (ze ?_ (ze ?_ (ze ?_ (ze ?_ (ze ?_ (ze ?_ (ze ?_ (yf)))))))))))))), ?_⟩
     ·intro w5 hS hF hD K hK
      rw [if_pos (by rfl)]
      exact svV hK rfl rfl rfl rfl (by first | rfl | (as_aux_lemma => kernel_rfl))  (by show _ = _; (as_aux_lemma => kernel_rfl))
     ·intro w5 hS hF hD K hK
      obtain ⟨(e0 : f 0 = _), -⟩ := hF
      try simp only [e0]
      rw [if_pos (by rfl)]
      exact svC hK rfl rfl rfl rfl (by first | rfl | (as_aux_lemma => kernel_rfl))  rfl rfl (zf hS.1 HG10.out) (by (as_aux_lemma => kernel_rfl)) (fun _ => by (as_aux_lemma => kernel_rfl))
     ·intro w5 hS hF hD K hK
      obtain ⟨(e1 : f 1 = _), -⟩ := hF
      try simp only [e1]
      rw [if_pos (by rfl)]
      go_simp
      go_at_call 11; refine (rmodI _ _ (by first | exact HI0.out | exact HI1.out | exact HI2.out | exact HI3.out | exact HI4.out | exact HI5.out | exact wrap_ok _) (by first | decide | exact HN0.out) (by first | decide | exact HN1.out) _).mono ?_; rintro e wz ⟨rfl, rfl⟩; have hbelow := Below.refl w5.heap.size w5; go_simp
      refine hK.out _ _ rfl (zP rfl rfl rfl hbelow ?_)
      first | rfl | (as_aux_lemma => kernel_rfl)
     ·intro w5 hS hF hD K hK
      obtain ⟨(e2 : f 2 = _), -⟩ := hF
      try simp only [e2]
      rw [if_pos (by rfl)]
      exact zx (v := .int .i64 (IntKind.i64.wrap (96 + q2 % 14))) (by (show _ = _); (as_aux_lemma => kernel_rfl)) (hK.out _ _ rfl (zq rfl rfl rfl (congrArg (Value.int .i64) HWA.out)))
     ·intro w5 hS hF hD K hK
      rw [if_pos (by rfl)]
      exact svV hK rfl rfl rfl rfl (by first | rfl | (as_aux_lemma => kernel_rfl))  (by show _ = _; (as_aux_lemma => kernel_rfl))
     ·intro w5 hS hF hD K hK
      obtain ⟨(e4 : f 4 = _), -⟩ := hF
      try simp only [e4]
      rw [if_pos (by rfl)]
      exact svC hK rfl rfl rfl rfl (by first | rfl | (as_aux_lemma => kernel_rfl))  rfl rfl (zf hS.1 HG10.out) (by (as_aux_lemma => kernel_rfl)) (fun _ => by (as_aux_lemma => kernel_rfl))
     ·intro w5 hS hF hD K hK
      obtain ⟨(e5 : f 5 = _), -⟩ := hF
      try simp only [e5]
      rw [if_pos (by rfl)]
      go_simp
      go_at_call 11; refine (rmodI _ _ (by first | exact HI0.out | exact HI1.out | exact HI2.out | exact HI3.out | exact HI4.out | exact HI5.out | exact wrap_ok _) (by first | decide | exact HN0.out) (by first | decide | exact HN1.out) _).mono ?_; rintro e wz ⟨rfl, rfl⟩; have hbelow := Below.refl w5.heap.size w5; go_simp
      refine hK.out _ _ rfl (zP rfl rfl rfl hbelow ?_)
      first | rfl | (as_aux_lemma => kernel_rfl)
     ·intro w5 hS hF hD K hK
      obtain ⟨(e6 : f 6 = _), -⟩ := hF
      try simp only [e6]
      rw [if_pos (by rfl)]
      exact zx (v := .int .i64 (IntKind.i64.wrap (112 + q2 % 14))) (by (show _ = _); (as_aux_lemma => kernel_rfl)) (hK.out _ _ rfl (zq rfl rfl rfl (congrArg (Value.int .i64) HWB.out)))
     ·intro w5 hS hF hD K hK
      obtain ⟨(e3 : f 3 = _), (e7 : f 7 = _), -⟩ := hF
      try simp only [e3, e7]
      rw [if_pos (by rfl)]
      exact bsl_wp 4 _ rfl _ (by decide) (by decide) _ rfl (fill4 _ _ _ _) (hK.out _ _ rfl (y0 rfl rfl rfl hS.2.2.1 rfl))
     ·intro w5 hS hF hD K hK
      rw [if_pos (by rfl)]
      exact svV hK rfl rfl rfl rfl (by first | rfl | (as_aux_lemma => kernel_rfl))  (by show _ = _; (as_aux_lemma => kernel_rfl))
     ·intro w5 hS hF hD K hK
      obtain ⟨(e9 : f 9 = _), -⟩ := hF
      try simp only [e9]
      rw [if_pos (by rfl)]
      exact svC hK rfl rfl rfl rfl (by first | rfl | (as_aux_lemma => kernel_rfl))  rfl rfl (zf hS.1 HG10.out) (by (as_aux_lemma => kernel_rfl)) (fun _ => by (as_aux_lemma => kernel_rfl))
     ·intro w5 hS hF hD K hK
      obtain ⟨(e10 : f 10 = _), -⟩ := hF
      try simp only [e10]
      rw [if_pos (by rfl)]
      go_simp
      go_at_call 11; refine (HM0.out _).mono ?_; rintro e wz ⟨rfl, rfl⟩; have hbelow := Below.refl w5.heap.size w5; go_simp
      refine hK.out _ _ rfl (zP rfl rfl rfl hbelow ?_)
      first | rfl | (as_aux_lemma => kernel_rfl)
     ·intro w5 hS hF hD K hK
      obtain ⟨e8, (e11 : f 11 = _), -⟩ := hF
      obtain ⟨g8, e8, hB8, hg8⟩ := e8
      replace e8 : f 8 = _ := e8
      try simp only [e8, e11]
      rw [if_pos (by rfl)]
      show Oper.wp _ _ _ _ _ _; go_simp
      exact hK.out _ _ rfl (yv rfl rfl rfl rfl (zn _) (hS) (zk (zk (zk (zk (zk (zk (zk (zk (yq ((fun _ _ h => h)) (zk (zk (zk (yc (by rfl) (zk ym)))))))))))))) (⟨_, rfl, hg8⟩))
     ·intro w5 hS hF hD K hK
      obtain ⟨e12, -⟩ := hF
      obtain ⟨y12, p12, t12⟩ := e12
      rw [if_pos (by rfl)]
      obtain ⟨gp, hv, hgp⟩ := p12; simp only [hv]; exact zx (exec_load_at _ _ rfl _ _ rfl _ _ _ (t12.heap hgp (fun h => h)) (.int .i64 X) HXC.out (fun _ => by (as_aux_lemma => kernel_rfl))) (hK.out _ _ rfl (zq rfl rfl rfl rfl))
     intro w5 hS hF
     obtain ⟨(e13 : f 13 = _), -⟩ := hF
     try simp only [e13]
     simp only [List.drop_succ_cons, List.drop_zero]
     have HG5 := zh (zf hS.1 HG11.out)
     have HGT := zh (zf hS.1 HG10.out)
     have HB5 := zh (HBW.out.trans (hS.1.mono HBW.out.size))
     clear hS e13
     have c91 := cell_of_row w5 g11 1 _ _ _ HG5.out
     have f91 : w5.frozen? ⟨g11, 1, none⟩ = false := frozen_of_row w5 g11 1 _ _ HG5.out
     go_upto_region 16 with fail
     clear c91 f91
     have HG5n := zh (show (w5.setCell ⟨g11, 1, none⟩ (.int .i64 X)).heap[g11]? = some (.cells #[.int .i64 k, .int .i64 X, .int .i64 0, .int .i64 0, .int .u16 0, .int .u16 0, .int .i64 0, .int .i64 0, .int .i64 (-1), .int .i64 (-1), .int .i64 (-1), .slice none 0 0] 58 (0, 0)) from zW HG5.out _)
     have HB5n := zh (yT (i := 1) HB5.out hge2 (.int .i64 X))
     obtain ⟨w6, hwe⟩ : ∃ W : World, w5.setCell ⟨g11, 1, none⟩ (.int .i64 X) = W := ⟨_, rfl⟩
     rw [hwe] at HG5n HB5n ⊢
     clear hwe HG5 HB5
     have c98 := cell_of_row w6 g11 8 _ _ _ HG5n.out
     have f98 : w6.frozen? ⟨g11, 8, none⟩ = false := frozen_of_row w6 g11 8 _ _ HG5n.out
     go_wp2_with fail
     go_meet
     exact ⟨⟨k, ⟨X, 0, 0, 0, 0, 0, 0⟩, lb, -1, -1, []⟩, .slice none 0 0, zh (yT HB5n.out hge2 _), zh (zW HG5n.out _), zh ⟨rfl, .inl ⟨rfl, rfl⟩⟩, zh ⟨rfl, lok_br HXF.out hlb0, ok_br hlt hn120 hX0 hlb0, Nat.zero_le _⟩⟩
    ·try simp only [decide_eq_false hlt4]
     go_upto_if 76 with fail
     by_cases h4 : m0 = 4
     ·as_aux_lemma =>
      subst h4
      try simp only [show ((4 : Int) == 4) = true from rfl]
      obtain ⟨wo, rfl⟩ : ∃ wo : World, wo = wr := ⟨_, rfl⟩
      obtain ⟨gl, rfl⟩ : ∃ gl : Nat, gl = g11 := ⟨_, rfl⟩
      obtain ⟨m9, hm9, hm99⟩ := mod9 q3
      have HM9 := zh (rmodN m9 9 q3 HI3.out (by decide) (by decide) hm9)
      have c102 : wc.cell? ⟨g10, 2, none⟩ = some (.int .i64 q2) := by rw [cell_of_row _ _ 2 _ _ _ HG10.out]; rfl
      have hd8 := mod8 q2
      clear hm9 hlt4
      go_upto_region 19 with (first | (go_at_call 11; refine (rmodI _ _ (by first | exact HI0.out | exact HI1.out | exact HI2.out | exact HI3.out | exact HI4.out | exact HI5.out | exact wrap_ok _) (by first | decide | exact HN0.out) (by first | decide | exact HN1.out) _).mono ?_; rintro e wz ⟨rfl, rfl⟩) | (show wpList _ _ _ (Oper.mk _ (Op.store _ _ _) _ _ _ _ :: _) _ _; refine yP rfl _ _ _ rfl _ _ (by rfl) _ (by rfl) _ _ (HG11.out) _ (by rfl) ?_ ?_ ?_ (#[.int .i64 k, .int .i64 133, .int .i64 (q2 % 8), .int .i64 0, .int .u16 0, .int .u16 0, .int .i64 0, .int .i64 0, .int .i64 (-1), .int .i64 (-1), .int .i64 (-1), .slice none 0 0]) (by rfl) ?_; rfl; (as_aux_lemma => kernel_rfl); (as_aux_lemma => kernel_rfl)))
      have HG11n := zh (setRow_heap wc gl _ #[.int .i64 k, .int .i64 133, .int .i64 (q2 % 8), .int .i64 0, .int .u16 0, .int .u16 0, .int .i64 0, .int .i64 0, .int .i64 (-1), .int .i64 (-1), .int .i64 (-1), .slice none 0 0] _ _ HG11.out)
      have HBWn := zh (below_setRow HBW.out hge2 #[.int .i64 k, .int .i64 133, .int .i64 (q2 % 8), .int .i64 0, .int .u16 0, .int .u16 0, .int .i64 0, .int .i64 0, .int .i64 (-1), .int .i64 (-1), .int .i64 (-1), .slice none 0 0])
      have HG10n := zh ((setRow_other wc gl g10 #[.int .i64 k, .int .i64 133, .int .i64 (q2 % 8), .int .i64 0, .int .u16 0, .int .u16 0, .int .i64 0, .int .i64 0, .int .i64 (-1), .int .i64 (-1), .int .i64 (-1), .slice none 0 0] hgne).trans HG10.out)
      obtain ⟨w6, hwe⟩ : ∃ W : World, wc.setRow gl #[.int .i64 k, .int .i64 133, .int .i64 (q2 % 8), .int .i64 0, .int .u16 0, .int .u16 0, .int .i64 0, .int .i64 0, .int .i64 (-1), .int .i64 (-1), .int .i64 (-1), .slice none 0 0] = W := ⟨_, rfl⟩
      rw [hwe] at HG11n HBWn HG10n ⊢
      clear hwe HG11 HBW HG10
      clear c102
      have c98 := cell_of_row w6 gl 8 _ _ _ HG11n.out
      have f98 : w6.frozen? ⟨gl, 8, none⟩ = false := frozen_of_row w6 gl 8 _ _ HG11n.out
      go_upto_region 20 with fail
      clear c98 f98
      have HG11nn := zh (show (w6.setCell ⟨gl, 8, none⟩ (.int .i64 lb)).heap[gl]? = some (.cells #[.int .i64 k, .int .i64 133, .int .i64 (q2 % 8), .int .i64 0, .int .u16 0, .int .u16 0, .int .i64 0, .int .i64 0, .int .i64 lb, .int .i64 (-1), .int .i64 (-1), .slice none 0 0] 58 (0, 0)) from zW HG11n.out _)
      have HBWnn := zh (yT (i := 8) HBWn.out hge2 (.int .i64 lb))
      have HG10nn := zh ((jU (w := w6) (i := 8) hgne (.int .i64 lb)).trans HG10n.out)
      obtain ⟨w7, hwe⟩ : ∃ W : World, w6.setCell ⟨gl, 8, none⟩ (.int .i64 lb) = W := ⟨_, rfl⟩
      rw [hwe] at HG11nn HBWnn HG10nn ⊢
      clear hwe HG11n HBWn HG10n
      have HBW := HBWnn
      have HG11 := HG11nn
      have HG10 := HG10nn
      clear HBWnn HG11nn HG10nn
      go_wp2_with fail
      go_loopw [13] (fun i wx => ∃ (j : Nat) (t : List Int) (ta : Option Addr) (tcp : Nat), j ≤ m9 + 1 ∧ t.length = j ∧ i = .int .i64 j ∧ Hid (Below wo.heap.size wo wx) ∧ Hid (wx.heap[gl]? = some (.cells #[.int .i64 k, .int .i64 133, .int .i64 (q2 % 8), .int .i64 0, .int .u16 0, .int .u16 0, .int .i64 0, .int .i64 0, .int .i64 lb, .int .i64 (-1), .int .i64 (-1), .slice ta t.length tcp] 58 (0, 0))) ∧ Hid (wx.heap[g10]? = some (.cells #[.int .i64 q0, .int .i64 q1, .int .i64 q2, .int .i64 q3, .int .i64 q4, .int .i64 q5] 24 (0, 0))) ∧ Hid (wx.ownsRow wo.heap.size 3 1 (.slice ta t.length tcp) t.length (t.map (Value.int .i64))) ∧ Hid (∀ x ∈ t, 0 ≤ x ∧ x < n)) (fun i _ => 12 - (intOf i).toNat)
      case atStart => exact ⟨0, [], none, 0, Nat.zero_le _, rfl, rfl, HBW, HG11, HG10, zh ⟨rfl, .inl ⟨rfl, rfl⟩⟩, zh (fun x hx => by cases hx)⟩
      case round =>
       clear HBW HG11 HG10
       obtain ⟨j, t, ta, tcp, hj, htl, rfl, HBW, HG11, HG10, HTO, HTR⟩ := hrel
       have HTLN := zh htl
       have htl9 : t.length ≤ 1000000 := by omega
       clear htl
       have c103 : wr.cell? ⟨g10, 3, none⟩ = some (.int .i64 q3) := by rw [cell_of_row _ _ 3 _ _ _ HG10.out]; rfl
       by_cases hjm : j < m9 + 1
       ·have hj1 : (j : Int) < 1 + (m9 : Int) := by omega
        go_upto_region 23 with (go_at_call 11; refine (HM9.out _).mono ?_; rintro e wz ⟨rfl, rfl⟩)
        refine ye [] 12 (z5 [isV (.pointer (some ⟨gl, 11, none⟩)), isV (.slice ta t.length tcp), isV (.pointer (some ⟨g10, 4, none⟩)), isV (.int .i64 q4), isV (.int .i64 j), isV (.pointer (some ⟨g10, 5, none⟩)), isV (.int .i64 q5), isV (.int .i64 (IntKind.i64.wrap (j * q5))), isV (.int .i64 (IntKind.i64.wrap (q4 + IntKind.i64.wrap (j * q5)))), isV (.int .i64 n), isV (.int .i64 (IntKind.i64.wrap (q4 + IntKind.i64.wrap (j * q5)) % n)), newS (wr.heap.size) ((.cells #[.int .i64 (IntKind.i64.wrap (q4 + IntKind.i64.wrap (j * q5)) % n)] 3 (0, 0))) 1]) (nth [[0], [1], [2], [3], [4], [5], [6], [7], [8], [9], [10], [11]]) (nth [[], [], [], [], [], [], [], [], [], [], [], []]) (nth [[], [0], [], [2], [], [], [5], [4, 6], [3, 7], [], [8, 9], [10]]) [1, 11] (fun w5 => Below wr.heap.size wr w5 ∧ True ∧ wr.heap.size ≤ w5.heap.size ∧ True) (by (as_aux_lemma => kernel_rfl)) (by (as_aux_lemma => kernel_rfl)) (⟨(Below.refl _ _).drew, trivial, zn _, trivial⟩) (fun w w' h hb => ⟨h.1.trans (hb.mono h.1.size), trivial, Nat.le_trans h.2.2.1 hb.size, trivial⟩) (zG ((za (zc _)  (za (zc _)  (za (zc _)  (za (zc _)  (za (zc _)  (za (zc _)  (za (zc _)  (za (zc _)  (za (zc _)  (za (zc _)  (za (zc _)  (za (yZ _ _ _) zy)))))))))))))) (fun f F hF => ?_)
        simp only [List.take_succ_cons, List.take_zero, yb, Act.put, zD, zE, zF, Nat.reduceAdd] at hF
        subst hF
        refine ⟨ze ?_ (ze ?_ (ze ?_ (ze ?_ (ze ?_ (ze ?_ (ze ?_ (ze ?_ (ze ?_ (ze ?_ (ze ?_ (ze ?_ (yf)))))))))))), ?_⟩
        ·intro w5 hS hF hD K hK
         rw [if_pos (by rfl)]
         exact svV hK rfl rfl rfl rfl (by first | rfl | (as_aux_lemma => kernel_rfl))  (by show _ = _; (as_aux_lemma => kernel_rfl))
        ·intro w5 hS hF hD K hK
         obtain ⟨(e0 : f 0 = _), -⟩ := hF
         try simp only [e0]
         rw [if_pos (by rfl)]
         exact svC hK rfl rfl rfl rfl (by first | rfl | (as_aux_lemma => kernel_rfl))  rfl rfl (zf hS.1 HG11.out) (by (as_aux_lemma => kernel_rfl)) (fun _ => by (as_aux_lemma => kernel_rfl))
        ·intro w5 hS hF hD K hK
         rw [if_pos (by rfl)]
         exact svV hK rfl rfl rfl rfl (by first | rfl | (as_aux_lemma => kernel_rfl))  (by show _ = _; (as_aux_lemma => kernel_rfl))
        ·intro w5 hS hF hD K hK
         obtain ⟨(e2 : f 2 = _), -⟩ := hF
         try simp only [e2]
         rw [if_pos (by rfl)]
         exact svC hK rfl rfl rfl rfl (by first | rfl | (as_aux_lemma => kernel_rfl))  rfl rfl (zf hS.1 HG10.out) (by (as_aux_lemma => kernel_rfl)) (fun _ => by (as_aux_lemma => kernel_rfl))
        ·intro w5 hS hF hD K hK
         rw [if_pos (by rfl)]
         exact svV hK rfl rfl rfl rfl (by first | rfl | (as_aux_lemma => kernel_rfl))  (by show _ = _; (as_aux_lemma => kernel_rfl))
        ·intro w5 hS hF hD K hK
         rw [if_pos (by rfl)]
         exact svV hK rfl rfl rfl rfl (by first | rfl | (as_aux_lemma => kernel_rfl))  (by show _ = _; (as_aux_lemma => kernel_rfl))
        ·intro w5 hS hF hD K hK
         obtain ⟨(e5 : f 5 = _), -⟩ := hF
         try simp only [e5]
         rw [if_pos (by rfl)]
         exact svC hK rfl rfl rfl rfl (by first | rfl | (as_aux_lemma => kernel_rfl))  rfl rfl (zf hS.1 HG10.out) (by (as_aux_lemma => kernel_rfl)) (fun _ => by (as_aux_lemma => kernel_rfl))
        ·intro w5 hS hF hD K hK
         obtain ⟨(e4 : f 4 = _), (e6 : f 6 = _), -⟩ := hF
         try simp only [e4, e6]
         rw [if_pos (by rfl)]
         exact zx (v := .int .i64 (IntKind.i64.wrap (j * q5))) (by (show _ = _); (as_aux_lemma => kernel_rfl)) (hK.out _ _ rfl (zq rfl rfl rfl rfl))
        ·intro w5 hS hF hD K hK
         obtain ⟨(e3 : f 3 = _), (e7 : f 7 = _), -⟩ := hF
         try simp only [e3, e7]
         rw [if_pos (by rfl)]
         exact zx (v := .int .i64 (IntKind.i64.wrap (q4 + IntKind.i64.wrap (j * q5)))) (by (show _ = _); (as_aux_lemma => kernel_rfl)) (hK.out _ _ rfl (zq rfl rfl rfl rfl))
        ·intro w5 hS hF hD K hK
         rw [if_pos (by rfl)]
         exact svV hK rfl rfl rfl rfl (by first | rfl | (as_aux_lemma => kernel_rfl))  (by show _ = _; (as_aux_lemma => kernel_rfl))
        ·intro w5 hS hF hD K hK
         obtain ⟨(e8 : f 8 = _), (e9 : f 9 = _), -⟩ := hF
         try simp only [e8, e9]
         rw [if_pos (by rfl)]
         go_simp
         go_at_call 11; refine (rmodI _ _ (by first | exact HI0.out | exact HI1.out | exact HI2.out | exact HI3.out | exact HI4.out | exact HI5.out | exact wrap_ok _) (by first | decide | exact HN0.out) (by first | decide | exact HN1.out) _).mono ?_; rintro e wz ⟨rfl, rfl⟩; have hbelow := Below.refl w5.heap.size w5; go_simp
         refine hK.out _ _ rfl (zP rfl rfl rfl hbelow ?_)
         first | rfl | (as_aux_lemma => kernel_rfl)
        ·intro w5 hS hF hD K hK
         obtain ⟨(e10 : f 10 = _), -⟩ := hF
         try simp only [e10]
         rw [if_pos (by rfl)]
         go_simp
         refine hK.out _ _ rfl (y0 rfl rfl rfl hS.2.2.1 ?_)
         first | rfl | (as_aux_lemma => kernel_rfl)
        intro w5 hS hF
        obtain ⟨(e1 : f 1 = _), e11, -⟩ := hF
        obtain ⟨g11, e11, hB11, hg11⟩ := e11
        replace e11 : f 11 = _ := e11
        try simp only [e1, e11]
        simp only [List.drop_succ_cons, List.drop_zero]
        have hx9 : 0 ≤ IntKind.i64.wrap (q4 + IntKind.i64.wrap (j * q5)) % (n : Int) ∧ IntKind.i64.wrap (q4 + IntKind.i64.wrap (j * q5)) % (n : Int) < n := ⟨Int.emod_nonneg _ (by omega), Int.emod_lt_of_pos _ (by omega)⟩
        obtain ⟨x, hx⟩ : ∃ x : Int, IntKind.i64.wrap (q4 + IntKind.i64.wrap (j * q5)) % (n : Int) = x := ⟨_, rfl⟩
        rw [hx] at hg11 hx9
        have HX9 := zh hg11
        have HG5 := zh (zf hS.1 HG11.out)
        have HGT := zh (zf hS.1 HG10.out)
        have HB5 := zh (HBW.out.trans (hS.1.mono HBW.out.size))
        have HTO5 := zh (zZ HTO.out (zN.ofBelow (bs := fun _ => False) hS.1) fun _ _ h => h)
        clear hS hg11 hB11 hx c103
        go_upto_region 22 with (at_builtin; refine yK rfl _ _ rfl wo.heap.size HB5.out.size _ t rfl HTO5.out htl9 g11 x rfl HX9.out ?_; intro ga cp6 w6 ho6 hg6 hk6; have HG6 := zh (row_kept HTO5.out hg6 HG5.out (by decide)); have HT6 := zh (row_kept HTO5.out hg6 HGT.out (by decide)); have HB6 := zh (row_below HB5.out HB5.out.size HTO5.out hg6); have HO6 := zh ho6; have c911 := cell_of_row w6 gl 11 _ _ _ HG6.out; have f911 : w6.frozen? ⟨gl, 11, none⟩ = false := frozen_of_row w6 gl 11 _ _ HG6.out; clear ho6 hg6 hk6)
        go_wp2_with fail
        go_roundw
        case rel => exact ⟨j + 1, t ++ [x], some ⟨ga, 0, none⟩, cp6, by omega, by rw [List.length_append, HTLN.out]; rfl, by go_num, zh (yT HB6.out hge2 _), zh (by rw [show (t ++ [x]).length = t.length + 1 by simp]; exact zW HG6.out _), zh ((jU hgne _).trans HT6.out), zh (by have h9 := own_setCell (i := 11) (x := .slice (some ⟨ga, 0, none⟩) (t.length + 1) cp6) HO6.out HG6.out (by decide); rw [show (t ++ [x]).length = t.length + 1 by simp] at h9 ⊢; exact h9), zh (fun y hy => by rcases List.mem_append.1 hy with hy | hy; exact HTR.out y hy; simp at hy; subst hy; exact hx9)⟩
        case measure => simp [intOf]; omega
       ·have hj1 : ¬ (j : Int) < 1 + (m9 : Int) := by omega
        have hj2 : 1 + (m9 : Int) ≤ (j : Int) := by omega
        go_wp2_with (go_at_call 11; refine (HM9.out _).mono ?_; rintro e wz ⟨rfl, rfl⟩)
        go_meet
        have htl := HTLN.out
        exact ⟨⟨k, ⟨133, q2 % 8, 0, 0, 0, 0, 0⟩, lb, -1, -1, t⟩, .slice ta t.length tcp, HBW, HG11, HTO, zh ⟨rfl, lok_tb form_js.2.2.1 hd8 hlb0 (by show 0 < t.length; omega) (by show t.length ≤ 9; omega) HTR.out, ok_tb hlt hn120 hd8 hlb0 HTR.out (by omega), by show t.length ≤ 9; omega⟩⟩
     ·have h4a : (m0 == 4) = false := by simp [h4]
      go_upto_if 107 with fail
      try simp only [Act.put]
      try rw [h4a]
      try rw [decide_eq_false hlt4]
      go_cut [107] (fun s wx => ∃ b : Bool, s = .bool b ∧ Hid (b = (m0 == 5 || m0 == 6)) ∧ wx = wc)
      case first =>
       rcases (show m0 = 5 ∨ m0 = 6 ∨ (m0 ≠ 5 ∧ m0 ≠ 6) by omega) with rfl | rfl | ⟨hx1, hx2⟩
       ·try simp only [show ((5 : Int) == 5) = true from rfl]
        go_wp2_with fail
        go_meet
        exact ⟨_, rfl, zh rfl, rfl⟩
       ·try simp only [show ((6 : Int) == 5) = false from rfl]
        go_wp2_with fail
        go_meet
        exact ⟨_, rfl, zh rfl, rfl⟩
       ·have e0 : (m0 == 5) = false := by simp [hx1]
        have e1 : (m0 == 6) = false := by simp [hx2]
        try simp only [e0]
        have HE0 := zh e0
        clear e0 e1 hx1 hx2
        go_wp2_with fail
        go_meet
        exact ⟨_, rfl, zh (by rw [HE0.out]; simp), rfl⟩
      case rest =>
      obtain ⟨bb, rfl, HBB, rfl⟩ := hcut
      cases bb with
      | true =>
       as_aux_lemma =>
       have c91 := cell_of_row wc g11 1 _ _ _ HG11.out
       have f91 : wc.frozen? ⟨g11, 1, none⟩ = false := frozen_of_row wc g11 1 _ _ HG11.out
       go_upto_region 27 with fail
       clear c91 f91
       have HG11n := zh (show (wc.setCell ⟨g11, 1, none⟩ (.int .i64 0)).heap[g11]? = some (.cells #[.int .i64 k, .int .i64 0, .int .i64 0, .int .i64 0, .int .u16 0, .int .u16 0, .int .i64 0, .int .i64 0, .int .i64 (-1), .int .i64 (-1), .int .i64 (-1), .slice none 0 0] 58 (0, 0)) from zW HG11.out _)
       have HBWn := zh (yT (i := 1) HBW.out hge2 (.int .i64 0))
       have HG10n := zh ((jU (w := wc) (i := 1) hgne (.int .i64 0)).trans HG10.out)
       obtain ⟨w6, hwe⟩ : ∃ W : World, wc.setCell ⟨g11, 1, none⟩ (.int .i64 0) = W := ⟨_, rfl⟩
       rw [hwe] at HG11n HBWn HG10n ⊢
       clear hwe HG11 HBW HG10
       by_cases hz : nf = 0
       ·have hz1 : ¬ (0 : Int) < (nf : Int) := by omega
        have hz2 : (nf : Int) ≤ 0 := by omega
        clear hz
        go_wp2_with fail
        go_meet
        exact ⟨⟨k, ⟨0, 0, 0, 0, 0, 0, 0⟩, -1, -1, -1, []⟩, .slice none 0 0, HBWn, HG11n, zh ⟨rfl, .inl ⟨rfl, rfl⟩⟩, zh ⟨rfl, lok_pl form_js.2.2.2.2.2.2 nop_ok, ok_cl (nf := 0) hlt hn120 (by decide) (by decide) (by decide), Nat.zero_le _⟩⟩
       ·have hz1 : (0 : Int) < (nf : Int) := by omega
        obtain ⟨r, hr, hr3, hr3i⟩ := mod3 q3
        obtain ⟨X, hX, hXf, hX0⟩ := pickC r hr3
        have HXF := zh hXf
        have HM3 := zh (rmodN r 3 q3 HI3.out (by decide) (by decide) hr)
        have HMF := zh (rmodI nf q2 HI2.out hz1 HNF1.out)
        have c3 : (w6.alloc (.cells #[.int .i64 130, .int .i64 132, .int .i64 131] 3)).cell? ⟨w6.heap.size, r, none⟩ = some (.int .i64 X) := by rw [cell_of_row _ _ r _ _ _ (heap_alloc_new w6 (.cells #[.int .i64 130, .int .i64 132, .int .i64 131] 3))]; exact hX
        have hlt10 : g10 < w6.heap.size := (Array.getElem?_eq_some_iff.1 HG10n.out).1
        have hlt11 : g11 < w6.heap.size := (Array.getElem?_eq_some_iff.1 HG11n.out).1
        have H10A := zh ((heap_alloc_old w6 (.cells #[.int .i64 130, .int .i64 132, .int .i64 131] 3) hlt10).trans HG10n.out)
        have H11A := zh ((heap_alloc_old w6 (.cells #[.int .i64 130, .int .i64 132, .int .i64 131] 3) hlt11).trans HG11n.out)
        have HBA := zh (HBWn.out.alloc HBWn.out.size (.cells #[.int .i64 130, .int .i64 132, .int .i64 131] 3))
        have c103 : (w6.alloc (.cells #[.int .i64 130, .int .i64 132, .int .i64 131] 3)).cell? ⟨g10, 3, none⟩ = some (.int .i64 q3) := by rw [cell_of_row _ _ 3 _ _ _ H10A.out]; rfl
        have c91 := cell_of_row (w6.alloc (.cells #[.int .i64 130, .int .i64 132, .int .i64 131] 3)) g11 1 _ _ _ H11A.out
        have f91 : (w6.alloc (.cells #[.int .i64 130, .int .i64 132, .int .i64 131] 3)).frozen? ⟨g11, 1, none⟩ = false := frozen_of_row (w6.alloc (.cells #[.int .i64 130, .int .i64 132, .int .i64 131] 3)) g11 1 _ _ H11A.out
        clear hr hXf hz hX hlt10 hlt11
        go_upto_region 29 with (go_at_call 11; refine (HM3.out _).mono ?_; rintro e wz ⟨rfl, rfl⟩)
        obtain ⟨w7, hw7⟩ : ∃ W : World, w6.alloc (.cells #[.int .i64 130, .int .i64 132, .int .i64 131] 3) = W := ⟨_, rfl⟩
        rw [hw7] at H10A H11A HBA ⊢
        clear hw7 c3 c103 c91 f91
        have H11An := zh (show (w7.setCell ⟨g11, 1, none⟩ (.int .i64 X)).heap[g11]? = some (.cells #[.int .i64 k, .int .i64 X, .int .i64 0, .int .i64 0, .int .u16 0, .int .u16 0, .int .i64 0, .int .i64 0, .int .i64 (-1), .int .i64 (-1), .int .i64 (-1), .slice none 0 0] 58 (0, 0)) from zW H11A.out _)
        have HBAn := zh (yT (i := 1) HBA.out hge2 (.int .i64 X))
        have H10An := zh ((jU (w := w7) (i := 1) hgne (.int .i64 X)).trans H10A.out)
        obtain ⟨w8, hwe⟩ : ∃ W : World, w7.setCell ⟨g11, 1, none⟩ (.int .i64 X) = W := ⟨_, rfl⟩
        rw [hwe] at H11An HBAn H10An ⊢
        clear hwe H11A HBA H10A
        have c99 := cell_of_row w8 g11 9 _ _ _ H11An.out
        have f99 : w8.frozen? ⟨g11, 9, none⟩ = false := frozen_of_row w8 g11 9 _ _ H11An.out
        have c102 : w8.cell? ⟨g10, 2, none⟩ = some (.int .i64 q2) := by rw [cell_of_row _ _ 2 _ _ _ H10An.out]; rfl
        have hfn := modB q2 hz1
        go_wp2_with (go_at_call 11; refine (HMF.out _).mono ?_; rintro e wz ⟨rfl, rfl⟩)
        go_meet
        exact ⟨⟨k, ⟨X, 0, 0, 0, 0, 0, 0⟩, -1, q2 % nf, -1, []⟩, .slice none 0 0, zh (yT HBAn.out hge2 _), zh (zW H11An.out _), zh ⟨rfl, .inl ⟨rfl, rfl⟩⟩, zh ⟨rfl, lok_cl HXF.out hfn, ok_cl hlt hn120 hX0 ⟨Int.le_trans (by decide) hfn.1, hfn.2⟩ HNF1.out, Nat.zero_le _⟩⟩
      | false =>
       go_upto_if 127 with fail
       try simp only [Act.put]
       try rw [h4a]
       try rw [decide_eq_false hlt4]
       go_cut [127] (fun s wx => ∃ b : Bool, s = .bool b ∧ Hid (b = (m0 == 7 || m0 == 8)) ∧ wx = wc)
       case first =>
        rcases (show m0 = 7 ∨ m0 = 8 ∨ (m0 ≠ 7 ∧ m0 ≠ 8) by omega) with rfl | rfl | ⟨hx1, hx2⟩
        ·try simp only [show ((7 : Int) == 7) = true from rfl]
         go_wp2_with fail
         go_meet
         exact ⟨_, rfl, zh rfl, rfl⟩
        ·try simp only [show ((8 : Int) == 7) = false from rfl]
         go_wp2_with fail
         go_meet
         exact ⟨_, rfl, zh rfl, rfl⟩
        ·have e0 : (m0 == 7) = false := by simp [hx1]
         have e1 : (m0 == 8) = false := by simp [hx2]
         try simp only [e0]
         have HE0 := zh e0
         clear e0 e1 hx1 hx2
         go_wp2_with fail
         go_meet
         exact ⟨_, rfl, zh (by rw [HE0.out]; simp), rfl⟩
       case rest =>
       obtain ⟨bb, rfl, HBB, rfl⟩ := hcut
       cases bb with
       | true =>
        as_aux_lemma =>
        have HWA := zh (w15a q3).1
        have HWB := zh (w15a q3).2.1
        have HWC := zh (w15a q3).2.2
        obtain ⟨r, hr, hr3, hr3i⟩ := mod6 q2
        obtain ⟨X, hX, hXf, hX0⟩ := pickD q3 r hr3
        have HXC := zh hX
        have HXF := zh hXf
        have HM6 := zh (rmodN r 6 q2 HI2.out (by decide) (by decide) hr)
        clear hX hXf hr
        go_upto_region 32 with fail
        refine ye [] 18 (z5 [isV (.pointer (some ⟨g10, 3, none⟩)), isV (.int .i64 q3), isV (.int .i64 (q3 % 15)), isV (.int .i64 (64 + q3 % 15)), isV (.pointer (some ⟨g10, 3, none⟩)), isV (.int .i64 q3), isV (.int .i64 (q3 % 4)), isV (.int .i64 (84 + q3 % 4)), isV (.pointer (some ⟨g10, 3, none⟩)), isV (.int .i64 q3), isV (.int .i64 (q3 % 4)), isV (.int .i64 (88 + q3 % 4)), newS (wc.heap.size) ((.cells #[.int .i64 (64 + q3 % 15), .int .i64 (84 + q3 % 4), .int .i64 (88 + q3 % 4), .int .i64 150, .int .i64 146, .int .i64 147] 3 (0, 0))) 6, isV (.pointer (some ⟨g10, 2, none⟩)), isV (.int .i64 q2), isV (.int .i64 r), isVT ((fun _ => False)) (PtQ r #[.int .i64 (64 + q3 % 15), .int .i64 (84 + q3 % 4), .int .i64 (88 + q3 % 4), .int .i64 150, .int .i64 146, .int .i64 147]), isV (.int .i64 X)]) (nth [[0], [1], [2], [3], [4], [5], [6], [7], [8], [9], [10], [11], [12], [13], [14], [15], [16], [17]]) (nth [[], [], [], [], [], [], [], [], [], [], [], [], [], [], [], [], [], []]) (nth [[], [0], [1], [2], [], [4], [5], [6], [], [8], [9], [10], [3, 7, 11], [], [13], [14], [12, 15], [16]]) [17] (fun w5 => Below wc.heap.size wc w5 ∧ True ∧ wc.heap.size ≤ w5.heap.size ∧ True) (by (as_aux_lemma => kernel_rfl)) (by (as_aux_lemma => kernel_rfl)) (⟨(Below.refl _ _).drew, trivial, zn _, trivial⟩) (fun w w' h hb => ⟨h.1.trans (hb.mono h.1.size), trivial, Nat.le_trans h.2.2.1 hb.size, trivial⟩) (zG ((za (zc _)  (za (zc _)  (za (zc _)  (za (zc _)  (za (zc _)  (za (zc _)  (za (zc _)  (za (zc _)  (za (zc _)  (za (zc _)  (za (zc _)  (za (zc _)  (za (yZ _ _ _)  (za (zc _)  (za (zc _)  (za (zc _)  (za (yu _ _)  (za (zc _) zy)))))))))))))))))))) (fun f F hF => ?_)
        simp only [List.take_succ_cons, List.take_zero, yb, Act.put, zD, zE, zF, Nat.reduceAdd] at hF
        subst hF
        refine ⟨ze ?_ (ze ?_ (ze ?_ (ze ?_ (ze ?_ (ze ?_ (ze ?_ (ze ?_ (ze ?_ (ze ?_ (ze ?_ (ze ?_ (ze ?_ (ze ?_ (ze ?_ (ze ?_ (ze ?_ (ze ?_ (yf)))))))))))))))))), ?_⟩
        ·intro w5 hS hF hD K hK
         rw [if_pos (by rfl)]
         exact svV hK rfl rfl rfl rfl (by first | rfl | (as_aux_lemma => kernel_rfl))  (by show _ = _; (as_aux_lemma => kernel_rfl))
        ·intro w5 hS hF hD K hK
         obtain ⟨(e0 : f 0 = _), -⟩ := hF
         try simp only [e0]
         rw [if_pos (by rfl)]
         exact svC hK rfl rfl rfl rfl (by first | rfl | (as_aux_lemma => kernel_rfl))  rfl rfl (zf hS.1 HG10.out) (by (as_aux_lemma => kernel_rfl)) (fun _ => by (as_aux_lemma => kernel_rfl))
        ·intro w5 hS hF hD K hK
         obtain ⟨(e1 : f 1 = _), -⟩ := hF
         try simp only [e1]
         rw [if_pos (by rfl)]
         go_simp
         go_at_call 11; refine (rmodI _ _ (by first | exact HI0.out | exact HI1.out | exact HI2.out | exact HI3.out | exact HI4.out | exact HI5.out | exact wrap_ok _) (by first | decide | exact HN0.out) (by first | decide | exact HN1.out) _).mono ?_; rintro e wz ⟨rfl, rfl⟩; have hbelow := Below.refl w5.heap.size w5; go_simp
         refine hK.out _ _ rfl (zP rfl rfl rfl hbelow ?_)
         first | rfl | (as_aux_lemma => kernel_rfl)
        ·intro w5 hS hF hD K hK
         obtain ⟨(e2 : f 2 = _), -⟩ := hF
         try simp only [e2]
         rw [if_pos (by rfl)]
         exact zx (v := .int .i64 (IntKind.i64.wrap (64 + q3 % 15))) (by (show _ = _); (as_aux_lemma => kernel_rfl)) (hK.out _ _ rfl (zq rfl rfl rfl (congrArg (Value.int .i64) HWA.out)))
        ·intro w5 hS hF hD K hK
         rw [if_pos (by rfl)]
         exact svV hK rfl rfl rfl rfl (by first | rfl | (as_aux_lemma => kernel_rfl))  (by show _ = _; (as_aux_lemma => kernel_rfl))
        ·intro w5 hS hF hD K hK
         obtain ⟨(e4 : f 4 = _), -⟩ := hF
         try simp only [e4]
         rw [if_pos (by rfl)]
         exact svC hK rfl rfl rfl rfl (by first | rfl | (as_aux_lemma => kernel_rfl))  rfl rfl (zf hS.1 HG10.out) (by (as_aux_lemma => kernel_rfl)) (fun _ => by (as_aux_lemma => kernel_rfl))
        ·intro w5 hS hF hD K hK
         obtain ⟨(e5 : f 5 = _), -⟩ := hF
         try simp only [e5]
         rw [if_pos (by rfl)]
         go_simp
         go_at_call 11; refine (rmodI _ _ (by first | exact HI0.out | exact HI1.out | exact HI2.out | exact HI3.out | exact HI4.out | exact HI5.out | exact wrap_ok _) (by first | decide | exact HN0.out) (by first | decide | exact HN1.out) _).mono ?_; rintro e wz ⟨rfl, rfl⟩; have hbelow := Below.refl w5.heap.size w5; go_simp
         refine hK.out _ _ rfl (zP rfl rfl rfl hbelow ?_)
         first | rfl | (as_aux_lemma => kernel_rfl)
        ·intro w5 hS hF hD K hK
         obtain ⟨(e6 : f 6 = _), -⟩ := hF
         try simp only [e6]
         rw [if_pos (by rfl)]
         exact zx (v := .int .i64 (IntKind.i64.wrap (84 + q3 % 4))) (by (show _ = _); (as_aux_lemma => kernel_rfl)) (hK.out _ _ rfl (zq rfl rfl rfl (congrArg (Value.int .i64) HWB.out)))
        ·intro w5 hS hF hD K hK
         rw [if_pos (by rfl)]
         exact svV hK rfl rfl rfl rfl (by first | rfl | (as_aux_lemma => kernel_rfl))  (by show _ = _; (as_aux_lemma => kernel_rfl))
        ·intro w5 hS hF hD K hK
         obtain ⟨(e8 : f 8 = _), -⟩ := hF
         try simp only [e8]
         rw [if_pos (by rfl)]
         exact svC hK rfl rfl rfl rfl (by first | rfl | (as_aux_lemma => kernel_rfl))  rfl rfl (zf hS.1 HG10.out) (by (as_aux_lemma => kernel_rfl)) (fun _ => by (as_aux_lemma => kernel_rfl))
        ·intro w5 hS hF hD K hK
         obtain ⟨(e9 : f 9 = _), -⟩ := hF
         try simp only [e9]
         rw [if_pos (by rfl)]
         go_simp
         go_at_call 11; refine (rmodI _ _ (by first | exact HI0.out | exact HI1.out | exact HI2.out | exact HI3.out | exact HI4.out | exact HI5.out | exact wrap_ok _) (by first | decide | exact HN0.out) (by first | decide | exact HN1.out) _).mono ?_; rintro e wz ⟨rfl, rfl⟩; have hbelow := Below.refl w5.heap.size w5; go_simp
         refine hK.out _ _ rfl (zP rfl rfl rfl hbelow ?_)
         first | rfl | (as_aux_lemma => kernel_rfl)
        ·intro w5 hS hF hD K hK
         obtain ⟨(e10 : f 10 = _), -⟩ := hF
         try simp only [e10]
         rw [if_pos (by rfl)]
         exact zx (v := .int .i64 (IntKind.i64.wrap (88 + q3 % 4))) (by (show _ = _); (as_aux_lemma => kernel_rfl)) (hK.out _ _ rfl (zq rfl rfl rfl (congrArg (Value.int .i64) HWC.out)))
        ·intro w5 hS hF hD K hK
         obtain ⟨(e3 : f 3 = _), (e7 : f 7 = _), (e11 : f 11 = _), -⟩ := hF
         try simp only [e3, e7, e11]
         rw [if_pos (by rfl)]
         exact bsl_wp 6 _ rfl _ (by decide) (by decide) _ rfl (fill6 _ _ _ _ _ _) (hK.out _ _ rfl (y0 rfl rfl rfl hS.2.2.1 rfl))
        ·intro w5 hS hF hD K hK
         rw [if_pos (by rfl)]
         exact svV hK rfl rfl rfl rfl (by first | rfl | (as_aux_lemma => kernel_rfl))  (by show _ = _; (as_aux_lemma => kernel_rfl))
        ·intro w5 hS hF hD K hK
         obtain ⟨(e13 : f 13 = _), -⟩ := hF
         try simp only [e13]
         rw [if_pos (by rfl)]
         exact svC hK rfl rfl rfl rfl (by first | rfl | (as_aux_lemma => kernel_rfl))  rfl rfl (zf hS.1 HG10.out) (by (as_aux_lemma => kernel_rfl)) (fun _ => by (as_aux_lemma => kernel_rfl))
        ·intro w5 hS hF hD K hK
         obtain ⟨(e14 : f 14 = _), -⟩ := hF
         try simp only [e14]
         rw [if_pos (by rfl)]
         go_simp
         go_at_call 11; refine (HM6.out _).mono ?_; rintro e wz ⟨rfl, rfl⟩; have hbelow := Below.refl w5.heap.size w5; go_simp
         refine hK.out _ _ rfl (zP rfl rfl rfl hbelow ?_)
         first | rfl | (as_aux_lemma => kernel_rfl)
        ·intro w5 hS hF hD K hK
         obtain ⟨e12, (e15 : f 15 = _), -⟩ := hF
         obtain ⟨g12, e12, hB12, hg12⟩ := e12
         replace e12 : f 12 = _ := e12
         try simp only [e12, e15]
         rw [if_pos (by rfl)]
         show Oper.wp _ _ _ _ _ _; go_simp
         exact hK.out _ _ rfl (yv rfl rfl rfl rfl (zn _) (hS) (zk (zk (zk (zk (zk (zk (zk (zk (zk (zk (zk (zk (yq ((fun _ _ h => h)) (zk (zk (zk (yc (by rfl) (zk ym)))))))))))))))))) (⟨_, rfl, hg12⟩))
        ·intro w5 hS hF hD K hK
         obtain ⟨e16, -⟩ := hF
         obtain ⟨y16, p16, t16⟩ := e16
         rw [if_pos (by rfl)]
         obtain ⟨gp, hv, hgp⟩ := p16; simp only [hv]; exact zx (exec_load_at _ _ rfl _ _ rfl _ _ _ (t16.heap hgp (fun h => h)) (.int .i64 X) HXC.out (fun _ => by (as_aux_lemma => kernel_rfl))) (hK.out _ _ rfl (zq rfl rfl rfl rfl))
        intro w5 hS hF
        obtain ⟨(e17 : f 17 = _), -⟩ := hF
        try simp only [e17]
        simp only [List.drop_succ_cons, List.drop_zero]
        have HG5 := zh (zf hS.1 HG11.out)
        have HGT := zh (zf hS.1 HG10.out)
        have HB5 := zh (HBW.out.trans (hS.1.mono HBW.out.size))
        clear hS e17
        clear HBW HG10 HG11 HWA HWB HWC HXC HM6
        obtain ⟨wd, rfl⟩ : ∃ wd : World, wd = w5 := ⟨_, rfl⟩
        have HBW := HB5
        have HG11 := HG5
        have HG10 := HGT
        clear HB5 HG5 HGT
        go_upto_region 33 with fail
        have HWD := zh (w40a q5)
        obtain ⟨im, him, him0⟩ : ∃ im : Int, IntKind.u16.wrap (q5 % 40 - 5) = im ∧ 0 ≤ im ∧ im < 65536 := ⟨_, rfl, u16_rng _⟩
        have HIM := zh him
        clear him
        refine ye [] 10 (z5 [isV (.int .i64 X), isV (.pointer (some ⟨g10, 4, none⟩)), isV (.int .i64 q4), isV (.int .i64 (q4 % 8)), isV (.pointer (some ⟨g10, 5, none⟩)), isV (.int .i64 q5), isV (.int .i64 (q5 % 40)), isV (.int .i64 (q5 % 40 - 5)), isV (.int .u16 im), isV (.agg #[.int .i64 X, .int .i64 (q4 % 8), .int .i64 0, .int .u16 im, .int .u16 0, .int .i64 0, .int .i64 0])]) (nth [[0], [1], [2], [3], [4], [5], [6], [7], [8], [9]]) (nth [[], [], [], [], [], [], [], [], [], []]) (nth [[], [], [1], [2], [], [4], [5], [6], [7], [0, 3, 8]]) [9] (fun w5 => Below wd.heap.size wd w5 ∧ True ∧ wd.heap.size ≤ w5.heap.size ∧ True) (by (as_aux_lemma => kernel_rfl)) (by (as_aux_lemma => kernel_rfl)) (⟨(Below.refl _ _).drew, trivial, zn _, trivial⟩) (fun w w' h hb => ⟨h.1.trans (hb.mono h.1.size), trivial, Nat.le_trans h.2.2.1 hb.size, trivial⟩) (zG ((za (zc _)  (za (zc _)  (za (zc _)  (za (zc _)  (za (zc _)  (za (zc _)  (za (zc _)  (za (zc _)  (za (zc _)  (za (zc _) zy)))))))))))) (fun f F hF => ?_)
        simp only [List.take_succ_cons, List.take_zero, yb, Act.put, zD, zE, zF, Nat.reduceAdd] at hF
        subst hF
        refine ⟨ze ?_ (ze ?_ (ze ?_ (ze ?_ (ze ?_ (ze ?_ (ze ?_ (ze ?_ (ze ?_ (ze ?_ (yf)))))))))), ?_⟩
        ·intro w5 hS hF hD K hK
         rw [if_pos (by rfl)]
         exact svV hK rfl rfl rfl rfl (by first | rfl | (as_aux_lemma => kernel_rfl))  (by show _ = _; (as_aux_lemma => kernel_rfl))
        ·intro w5 hS hF hD K hK
         rw [if_pos (by rfl)]
         exact svV hK rfl rfl rfl rfl (by first | rfl | (as_aux_lemma => kernel_rfl))  (by show _ = _; (as_aux_lemma => kernel_rfl))
        ·intro w5 hS hF hD K hK
         obtain ⟨(e1 : f 1 = _), -⟩ := hF
         try simp only [e1]
         rw [if_pos (by rfl)]
         exact svC hK rfl rfl rfl rfl (by first | rfl | (as_aux_lemma => kernel_rfl))  rfl rfl (zf hS.1 HG10.out) (by (as_aux_lemma => kernel_rfl)) (fun _ => by (as_aux_lemma => kernel_rfl))
        ·intro w5 hS hF hD K hK
         obtain ⟨(e2 : f 2 = _), -⟩ := hF
         try simp only [e2]
         rw [if_pos (by rfl)]
         go_simp
         go_at_call 11; refine (rmodI _ _ (by first | exact HI0.out | exact HI1.out | exact HI2.out | exact HI3.out | exact HI4.out | exact HI5.out | exact wrap_ok _) (by first | decide | exact HN0.out) (by first | decide | exact HN1.out) _).mono ?_; rintro e wz ⟨rfl, rfl⟩; have hbelow := Below.refl w5.heap.size w5; go_simp
         refine hK.out _ _ rfl (zP rfl rfl rfl hbelow ?_)
         first | rfl | (as_aux_lemma => kernel_rfl)
        ·intro w5 hS hF hD K hK
         rw [if_pos (by rfl)]
         exact svV hK rfl rfl rfl rfl (by first | rfl | (as_aux_lemma => kernel_rfl))  (by show _ = _; (as_aux_lemma => kernel_rfl))
        ·intro w5 hS hF hD K hK
         obtain ⟨(e4 : f 4 = _), -⟩ := hF
         try simp only [e4]
         rw [if_pos (by rfl)]
         exact svC hK rfl rfl rfl rfl (by first | rfl | (as_aux_lemma => kernel_rfl))  rfl rfl (zf hS.1 HG10.out) (by (as_aux_lemma => kernel_rfl)) (fun _ => by (as_aux_lemma => kernel_rfl))
        ·intro w5 hS hF hD K hK
         obtain ⟨(e5 : f 5 = _), -⟩ := hF
         try simp only [e5]
         rw [if_pos (by rfl)]
         go_simp
         go_at_call 11; refine (rmodI _ _ (by first | exact HI0.out | exact HI1.out | exact HI2.out | exact HI3.out | exact HI4.out | exact HI5.out | exact wrap_ok _) (by first | decide | exact HN0.out) (by first | decide | exact HN1.out) _).mono ?_; rintro e wz ⟨rfl, rfl⟩; have hbelow := Below.refl w5.heap.size w5; go_simp
         refine hK.out _ _ rfl (zP rfl rfl rfl hbelow ?_)
         first | rfl | (as_aux_lemma => kernel_rfl)
        ·intro w5 hS hF hD K hK
         obtain ⟨(e6 : f 6 = _), -⟩ := hF
         try simp only [e6]
         rw [if_pos (by rfl)]
         exact zx (v := .int .i64 (IntKind.i64.wrap (q5 % 40 - 5))) (by (show _ = _); (as_aux_lemma => kernel_rfl)) (hK.out _ _ rfl (zq rfl rfl rfl (congrArg (Value.int .i64) HWD.out)))
        ·intro w5 hS hF hD K hK
         obtain ⟨(e7 : f 7 = _), -⟩ := hF
         try simp only [e7]
         rw [if_pos (by rfl)]
         exact zx (v := .int .u16 (IntKind.u16.wrap (q5 % 40 - 5))) (by (show _ = _); (as_aux_lemma => kernel_rfl)) (hK.out _ _ rfl (zq rfl rfl rfl (congrArg (Value.int .u16) HIM.out)))
        ·intro w5 hS hF hD K hK
         obtain ⟨(e0 : f 0 = _), (e3 : f 3 = _), (e8 : f 8 = _), -⟩ := hF
         try simp only [e0, e3, e8]
         rw [if_pos (by rfl)]
         exact svV hK rfl rfl rfl rfl (by first | rfl | (as_aux_lemma => kernel_rfl))  (by show _ = _; (as_aux_lemma => kernel_rfl))
        intro w5 hS hF
        obtain ⟨(e9 : f 9 = _), -⟩ := hF
        try simp only [e9]
        simp only [List.drop_succ_cons, List.drop_zero]
        have HG5 := zh (zf hS.1 HG11.out)
        have HGT := zh (zf hS.1 HG10.out)
        have HB5 := zh (HBW.out.trans (hS.1.mono HBW.out.size))
        clear hS e9
        clear HBW HG10 HG11 HWD HIM
        go_upto_region 34 with (show wpList _ _ _ (Oper.mk _ (Op.store _ _ _) _ _ _ _ :: _) _ _; refine yP rfl _ _ _ rfl _ _ (by rfl) _ (by rfl) _ _ (HG5.out) _ (by rfl) ?_ ?_ ?_ (#[.int .i64 k, .int .i64 X, .int .i64 (q4 % 8), .int .i64 0, .int .u16 im, .int .u16 0, .int .i64 0, .int .i64 0, .int .i64 (-1), .int .i64 (-1), .int .i64 (-1), .slice none 0 0]) (by rfl) ?_; rfl; (as_aux_lemma => kernel_rfl); (as_aux_lemma => kernel_rfl))
        have HG5n := zh (setRow_heap w5 g11 _ #[.int .i64 k, .int .i64 X, .int .i64 (q4 % 8), .int .i64 0, .int .u16 im, .int .u16 0, .int .i64 0, .int .i64 0, .int .i64 (-1), .int .i64 (-1), .int .i64 (-1), .slice none 0 0] _ _ HG5.out)
        have HB5n := zh (below_setRow HB5.out hge2 #[.int .i64 k, .int .i64 X, .int .i64 (q4 % 8), .int .i64 0, .int .u16 im, .int .u16 0, .int .i64 0, .int .i64 0, .int .i64 (-1), .int .i64 (-1), .int .i64 (-1), .slice none 0 0])
        have HGTn := zh ((setRow_other w5 g11 g10 #[.int .i64 k, .int .i64 X, .int .i64 (q4 % 8), .int .i64 0, .int .u16 im, .int .u16 0, .int .i64 0, .int .i64 0, .int .i64 (-1), .int .i64 (-1), .int .i64 (-1), .slice none 0 0] hgne).trans HGT.out)
        obtain ⟨w6, hwe⟩ : ∃ W : World, w5.setRow g11 #[.int .i64 k, .int .i64 X, .int .i64 (q4 % 8), .int .i64 0, .int .u16 im, .int .u16 0, .int .i64 0, .int .i64 0, .int .i64 (-1), .int .i64 (-1), .int .i64 (-1), .slice none 0 0] = W := ⟨_, rfl⟩
        rw [hwe] at HG5n HB5n HGTn ⊢
        clear hwe HG5 HB5 HGT
        go_upto_if 160 with fail
        try simp only [Act.put]
        go_cut [] (fun wx => ∃ d s aux : Int, Hid (Below wr.heap.size wr wx) ∧ Hid (wx.heap[g11]? = some (.cells #[.int .i64 k, .int .i64 X, .int .i64 d, .int .i64 s, .int .u16 im, .int .u16 aux, .int .i64 0, .int .i64 0, .int .i64 (-1), .int .i64 (-1), .int .i64 (-1), .slice none 0 0] 58 (0, 0))) ∧ Hid (wx.heap[g10]? = some (.cells #[.int .i64 q0, .int .i64 q1, .int .i64 q2, .int .i64 q3, .int .i64 q4, .int .i64 q5] 24 (0, 0))) ∧ Hid (WdQ X d s aux))
        case first =>
         by_cases h150 : X = 150
         ·subst h150
          try simp only [show ((150 : Int) == 150) = true from rfl]
          have c92 := cell_of_row w6 g11 2 _ _ _ HG5n.out
          have f92 : w6.frozen? ⟨g11, 2, none⟩ = false := frozen_of_row w6 g11 2 _ _ HG5n.out
          go_upto_region 36 with fail
          clear c92 f92
          have HG5nn := zh (show (w6.setCell ⟨g11, 2, none⟩ (.int .i64 0)).heap[g11]? = some (.cells #[.int .i64 k, .int .i64 150, .int .i64 0, .int .i64 0, .int .u16 im, .int .u16 0, .int .i64 0, .int .i64 0, .int .i64 (-1), .int .i64 (-1), .int .i64 (-1), .slice none 0 0] 58 (0, 0)) from zW HG5n.out _)
          have HB5nn := zh (yT (i := 2) HB5n.out hge2 (.int .i64 0))
          have HGTnn := zh ((jU (w := w6) (i := 2) hgne (.int .i64 0)).trans HGTn.out)
          obtain ⟨w7, hwe⟩ : ∃ W : World, w6.setCell ⟨g11, 2, none⟩ (.int .i64 0) = W := ⟨_, rfl⟩
          rw [hwe] at HG5nn HB5nn HGTnn ⊢
          clear hwe HG5n HB5n HGTn
          have c93 := cell_of_row w7 g11 3 _ _ _ HG5nn.out
          have f93 : w7.frozen? ⟨g11, 3, none⟩ = false := frozen_of_row w7 g11 3 _ _ HG5nn.out
          have c104 : w7.cell? ⟨g10, 4, none⟩ = some (.int .i64 q4) := by rw [cell_of_row _ _ 4 _ _ _ HGTnn.out]; rfl
          go_upto_region 37 with (go_at_call 11; refine (rmodI _ _ (by first | exact HI0.out | exact HI1.out | exact HI2.out | exact HI3.out | exact HI4.out | exact HI5.out | exact wrap_ok _) (by first | decide | exact HN0.out) (by first | decide | exact HN1.out) _).mono ?_; rintro e wz ⟨rfl, rfl⟩)
          have HG5nnn := zh (show (w7.setCell ⟨g11, 3, none⟩ (.int .i64 (q4 % 8))).heap[g11]? = some (.cells #[.int .i64 k, .int .i64 150, .int .i64 0, .int .i64 (q4 % 8), .int .u16 im, .int .u16 0, .int .i64 0, .int .i64 0, .int .i64 (-1), .int .i64 (-1), .int .i64 (-1), .slice none 0 0] 58 (0, 0)) from zW HG5nn.out _)
          have HB5nnn := zh (yT (i := 3) HB5nn.out hge2 (.int .i64 (q4 % 8)))
          have HGTnnn := zh ((jU (w := w7) (i := 3) hgne (.int .i64 (q4 % 8))).trans HGTnn.out)
          obtain ⟨w8, hwe⟩ : ∃ W : World, w7.setCell ⟨g11, 3, none⟩ (.int .i64 (q4 % 8)) = W := ⟨_, rfl⟩
          rw [hwe] at HG5nnn HB5nnn HGTnnn ⊢
          clear hwe HG5nn HB5nn HGTnn
          have c95 := cell_of_row w8 g11 5 _ _ _ HG5nnn.out
          have f95 : w8.frozen? ⟨g11, 5, none⟩ = false := frozen_of_row w8 g11 5 _ _ HG5nnn.out
          clear c104 c93 f93
          have c101 : w8.cell? ⟨g10, 1, none⟩ = some (.int .i64 q1) := by rw [cell_of_row _ _ 1 _ _ _ HGTnnn.out]; rfl
          obtain ⟨aux, hau, hau0⟩ : ∃ im : Int, IntKind.u16.wrap q1 = im ∧ 0 ≤ im ∧ im < 65536 := ⟨_, rfl, u16_rng _⟩
          go_wp2_with fail
          go_meet
          exact ⟨0, q4 % 8, aux, zh (yT HB5nnn.out hge2 _), zh (by subst hau; exact zW HG5nnn.out _), zh ((jU hgne _).trans HGTnnn.out), zh (wdq1 (mod8 q4) hau0)⟩
         ·have h150a : (X == 150) = false := by simp [h150]
          try simp only [h150a]
          clear h150a
          go_wp2_with fail
          go_meet
          exact ⟨q4 % 8, 0, 0, HB5n, HG5n, HGTn, zh (wdq2 h150 (mod8 q4))⟩
        case rest =>
        clear HB5n HG5n HGTn
        obtain ⟨d, s, aux, HBX, HGX, HGY, HDX⟩ := hcut
        obtain ⟨hwf, hwv⟩ := wide_ok hX0 HXF.out ⟨HDX.out.1, HDX.out.2.1⟩ ⟨HDX.out.2.2.1, HDX.out.2.2.2.1⟩ him0 ⟨HDX.out.2.2.2.2.1, HDX.out.2.2.2.2.2.1⟩ HDX.out.2.2.2.2.2.2.1 HDX.out.2.2.2.2.2.2.2
        obtain ⟨hd1, hd2, hd3, hd4, hd5, hd6, -, -⟩ := HDX.out
        have HWF := zh (And.intro hwf hwv)
        clear hwf hwv
        by_cases hz : no = 0
        ·have hz1 : ¬ (0 : Int) < (no : Int) := by omega
         have hz2 : (no : Int) ≤ 0 := by omega
         clear hz
         go_wp2_with fail
         go_meet
         exact ⟨⟨k, ⟨X, d, s, im, aux, 0, 0⟩, -1, -1, -1, []⟩, .slice none 0 0, HBX, HGX, zh ⟨rfl, .inl ⟨rfl, rfl⟩⟩, zh ⟨rfl, lok_pl HWF.out.1 HWF.out.2, ok_wd (no := 0) hlt hn120 hX0 ⟨hd1, hd2⟩ ⟨hd3, hd4⟩ him0 ⟨hd5, hd6⟩ (by decide) (by decide), Nat.zero_le _⟩⟩
        ·have hz1 : (0 : Int) < (no : Int) := by omega
         have HMF := zh (rmodI no q1 HI1.out hz1 HNO1.out)
         have hob := modB q1 hz1
         have c101 : wc.cell? ⟨g10, 1, none⟩ = some (.int .i64 q1) := by rw [cell_of_row _ _ 1 _ _ _ HGY.out]; rfl
         have c910 := cell_of_row wc g11 10 _ _ _ HGX.out
         have f910 : wc.frozen? ⟨g11, 10, none⟩ = false := frozen_of_row wc g11 10 _ _ HGX.out
         go_wp2_with (go_at_call 11; refine (HMF.out _).mono ?_; rintro e wz ⟨rfl, rfl⟩)
         go_meet
         exact ⟨⟨k, ⟨X, d, s, im, aux, 0, 0⟩, -1, -1, q1 % no, []⟩, .slice none 0 0, zh (yT HBX.out hge2 _), zh (zW HGX.out _), zh ⟨rfl, .inl ⟨rfl, rfl⟩⟩, zh ⟨rfl, lok_ob HWF.out.1 HWF.out.2 HXF.out hob, ok_wd hlt hn120 hX0 ⟨hd1, hd2⟩ ⟨hd3, hd4⟩ him0 ⟨hd5, hd6⟩ ⟨Int.le_trans (by decide) hob.1, hob.2⟩ HNO1.out, Nat.zero_le _⟩⟩
       | false =>
        have hm1 : zX (-1) := ⟨by decide, by decide⟩
        have HPN := zh (fun W => plain_any q1 q2 q3 q4 q5 W)
        have c10 : ∀ o : Nat, wc.cell? ⟨g10, o, none⟩ = (#[.int .i64 q0, .int .i64 q1, .int .i64 q2, .int .i64 q3, .int .i64 q4, .int .i64 q5] : Array Value)[o]? := fun o => cell_of_row wc g10 o _ _ _ HG10.out
        go_wp2_with (first | (go_at_call 24; refine (HPN.out _).mono ?_; rintro e w9 ⟨⟨op, d, s, imm, aux, bank, size⟩, rfl, hp1, hp2, hp3, hb9⟩; have HG9 := zh (zf hb9 HG11.out); have HB9 := zh (HBW.out.trans (hb9.mono HBW.out.size)); have HP9 := zh (And.intro hp1 (And.intro hp2 hp3)); clear hb9 hp1 hp2 hp3; simp only [zt]) | (show wpList _ _ _ (Oper.mk _ (Op.store _ _ _) _ _ _ _ :: _) _ _; refine yP rfl _ _ _ rfl _ _ (by rfl) _ (by rfl) _ _ (HG9.out) _ (by rfl) ?_ ?_ ?_ (#[.int .i64 k, .int .i64 op, .int .i64 d, .int .i64 s, .int .u16 imm, .int .u16 aux, .int .i64 bank, .int .i64 size, .int .i64 (-1), .int .i64 (-1), .int .i64 (-1), .slice none 0 0]) (by rfl) ?_; rfl; (as_aux_lemma => kernel_rfl); (as_aux_lemma => kernel_rfl)))
        go_meet
        exact ⟨⟨k, ⟨op, d, s, imm, aux, bank, size⟩, -1, -1, -1, []⟩, .slice none 0 0, zh (below_setRow HB9.out hge2 _), zh (setRow_heap w9 g11 _ _ _ _ HG9.out), zh ⟨rfl, .inl ⟨rfl, rfl⟩⟩, zh ⟨rfl, lok_pl HP9.out.1 (valid_sized HP9.out.2.2 HP9.out.2.1), ⟨⟨by dsimp only; omega, by dsimp only; omega⟩, HP9.out.2.2, hm1, hm1, hm1, (fun t ht => by cases ht), by simp⟩, Nat.zero_le _⟩⟩
   case rest =>
    obtain ⟨l, tv, HBX, HGX, HTX, HOX⟩ := hcut
    clear HG10 HG11 HBW HL HM0 HLB0 HMM0
    have HMX := zh (HM.out.stay HBX.out)
    have HTY := zh (own_base HTX.out HM.out.bb.size)
    obtain ⟨ta, tcp, rfl, -⟩ := xV HTX.out
    have c81 := cell_of_row wc g8 1 _ _ _ HMX.out.h8
    have hb9 := (Below.refl wc.heap.size wc).alloc (zn _) (.cells #[.int .i64 l.label, .int .i64 l.ins.op, .int .i64 l.ins.d, .int .i64 l.ins.s, .int .u16 l.ins.imm, .int .u16 l.ins.aux, .int .i64 l.ins.bank, .int .i64 l.ins.size, .int .i64 l.dest, .int .i64 l.fn, .int .i64 l.obj, .slice ta l.tab.length tcp] 58)
    have HM2 := zh (HMX.out.stay hb9)
    have HT2 := zh (zZ HTY.out (zN.ofBelow (bs := fun _ => False) hb9) fun _ _ h => h)
    have HSR := zh (show SrcW (wc.alloc (.cells #[.int .i64 l.label, .int .i64 l.ins.op, .int .i64 l.ins.d, .int .i64 l.ins.s, .int .u16 l.ins.imm, .int .u16 l.ins.aux, .int .i64 l.ins.bank, .int .i64 l.ins.size, .int .i64 l.dest, .int .i64 l.fn, .int .i64 l.obj, .slice ta l.tab.length tcp] 58)) 12 (some ⟨wc.heap.size, 0, none⟩) 1 (xX l (.slice ta l.tab.length tcp)) from src_of (heap_alloc_new wc (.cells #[.int .i64 l.label, .int .i64 l.ins.op, .int .i64 l.ins.d, .int .i64 l.ins.s, .int .u16 l.ins.imm, .int .u16 l.ins.aux, .int .i64 l.ins.bank, .int .i64 l.ins.size, .int .i64 l.dest, .int .i64 l.fn, .int .i64 l.obj, .slice ta l.tab.length tcp] 58)) rfl)
    have HOC := zh (show ∀ u ∈ xX l (.slice ta l.tab.length tcp), u.oneCell' = true from fun u hu => List.all_eq_true.1 (by rfl : (xX l (.slice ta l.tab.length tcp)).all (·.oneCell') = true) u hu)
    have HZ1 := zh (show ps.length + 1 ≤ maxLen by unfold maxLen; omega)
    have HZ2 := zh (show (ps.length + 1) * 104 ≤ 140737488355328 by omega)
    clear hb9
    go_upto_region 5 with (first | (refine zs _ _ rfl _ rfl _ _ _ (HGX.out) ?_ ?_ ?_; (as_aux_lemma => kernel_rfl); (as_aux_lemma => kernel_rfl)) | (at_builtin; refine xm _ rfl _ _ 30 rfl w.heap.size 58 iL _ 12 104 Try.underlying30 HIL.out.1 HIL.out.2.1 HIL.out.2.2.1 HIL.out.2.2.2 rfl (by decide) _ ps.length _ rfl HM2.out.ow (some ⟨wc.heap.size, 0, none⟩) 1 1 (fun h => by cases h) (xX l (.slice ta l.tab.length tcp)) rfl HSR.out HOC.out HZ1.out HZ2.out HM2.out.bb.size ?_; intro v' w6 ho6 hg6 hk6; obtain ⟨va, vc, rfl, -⟩ := xV ho6; have HP6 := zh (HM2.out.push (hpk ▸ HOX.out) HT2.out ho6 hg6); have h86 := HM2.out.keep8 hg6; have c86 := cell_of_row w6 g8 1 _ _ _ h86; have f86 : w6.frozen? ⟨g8, 1, none⟩ = false := (frozen_of_row w6 g8 1 _ _ h86); clear ho6 hg6 hk6 h86))
    go_wp2_with fail
    go_roundw
    case rel => exact ⟨k + 1, ps ++ [(l, .slice ta l.tab.length tcp)], .slice va (k + 1) vc, by omega, by rw [List.length_append, hpk]; rfl, by go_num, zh (by have h9 := HP6.out; rw [hpk] at h9; exact h9)⟩
    case measure => simp [intOf]; omega
  ·have hke : k = n := by omega
   subst hke
   clear hlt hk
   obtain ⟨sa, sc, rfl, hsc⟩ := xV HM.out.ow
   go_wp2_with (first | (refine zs _ _ rfl _ rfl _ _ _ (HM.out.h8) ?_ ?_ ?_; (as_aux_lemma => kernel_rfl); (as_aux_lemma => kernel_rfl)) | (refine wpList_store_row rfl _ _ _ rfl _ _ rfl rfl _ _ (HM.out.h6) ?_ ?_ ?_ ?_; (as_aux_lemma => kernel_rfl); rfl; (as_aux_lemma => kernel_rfl)))
   refine bodyPost_ret (results_cell_row (cs := #[.string nm, .slice sa ps.length sc]) (fr := (0, 0)) rfl _ _ w.heap.size 32 _ rfl (setRow_heap _ _ _ _ _ _ HM.out.h6) (Try.underlying32) rfl (by (as_aux_lemma => kernel_rfl))) rfl ⟨ps.map (·.1), nm, sa, sc, by rw [List.length_map], by rw [List.length_map]; exact hpk, fun i l hl => ?_, hsc, ?_, below_setRow HM.out.bb (zn _) _⟩
   ·rw [List.getElem?_map] at hl
    obtain ⟨p, hp, rfl⟩ := Option.map_eq_some_iff.1 hl
    exact HM.out.ok i p hp
   ·have h9 := HM.out.fin #[.string nm, .slice sa ps.length sc]
    rw [List.length_map]
    exact h9
end Go.Proofs.Ythebmoggbgldmaa
