/- The reference of chapter 19: the sizes of lines, and the offsets. The conditions: the chunk's numbers. -/
import Derived.Test.YthebmoggbgldmaaLaMade3
import Derived.Test.YthebmoggbgldmaaLaLkQ
set_option linter.all false
namespace Go.Proofs.Ythebmoggbgldmaa
open Go Go.RowKit Go.Maps
set_option maxHeartbeats 1000000 in
theorem mod_aux (n m : Int) (hm : 0 < m) (hm2 : m ≤ 65536) : 0 ≤ n.tmod m + m ∧ n.tmod m + m < 2 * m ∧ (n.tmod m + m).tmod m = n % m := by
 have h1 : n % m = if n % m = 0 then 0 else n % m := by split <;> omega
 rcases Int.lt_or_le n 0 with h | h
 ·have h2 : n.tmod m = -((-n) % m) := by
   have := Int.neg_tmod (a := -n) (b := m)
   rw [Int.neg_neg] at this
   rw [this, Int.tmod_eq_emod_of_nonneg (by omega)]
  have h3 := Int.emod_nonneg (-n) (show m ≠ 0 by omega)
  have h4 := Int.emod_lt_of_pos (-n) hm
  refine ⟨by omega, by omega, ?_⟩
  rw [h2, Int.tmod_eq_emod_of_nonneg (by omega)]
  have h5 : (-n) % m = (-n) - m * ((-n) / m) := Int.emod_def _ _
  rw [h5, show -(-n - m * (-n / m)) + m = n + m * (-n / m + 1) by rw [Int.mul_add]; omega, Int.add_mul_emod_self_left]
 ·rw [Int.tmod_eq_emod_of_nonneg h]
  have h3 := Int.emod_nonneg n (show m ≠ 0 by omega)
  have h4 := Int.emod_lt_of_pos n hm
  refine ⟨by omega, by omega, ?_⟩
  rw [Int.tmod_eq_emod_of_nonneg (by omega), Int.add_emod_right, Int.emod_emod_of_dvd _ (Int.dvd_refl m)]
theorem rmod13_any (n m : Int) (hn : zX n) (hm : 0 < m) (hm2 : m ≤ 65536) (w : World) :
  Calls Try.prog 25 #[.int .i64 n, .int .i64 m] w fun e w' => e = .returned (.int .i64 (n % m)) ∧ w = w' := by
 obtain ⟨h1, h2, h3⟩ := mod_aux n m hm hm2
 have g0 : (m == 0) = false := by simp; omega
 have g1 : ¬ m = 0 := by omega
 have hw1 : IntKind.i64.wrap (n.tmod m) = n.tmod m := IntWalk.i64_in _ (by omega)
 have hw2 : IntKind.i64.wrap (n.tmod m + m) = n.tmod m + m := IntWalk.i64_in _ (by omega)
 have h4 := Int.emod_nonneg n (show m ≠ 0 by omega)
 have h5 := Int.emod_lt_of_pos n hm
 have hw3 : IntKind.i64.wrap ((n.tmod m + m).tmod m) = n % m := by rw [h3]; exact IntWalk.i64_in _ (by omega)
 clear h1 h2 h4 h5
 go_enter Try.func25, Try.ntmps25
 go_wp2
 go_ret
 exact ⟨by rw [← h3]; rfl, rfl⟩
theorem jk (n m : Int) (hn : zX n) (hm : 0 < m) (hm2 : m ≤ 65536) (w : World) :
  Calls Try.prog 11 #[.int .i64 n, .int .i64 m] w fun e w' => e = .returned (.int .i64 (n % m)) ∧ w = w' := by
 have H := zh (rmod13_any n m hn hm hm2 w)
 go_enter Try.func11, Try.ntmps11
 go_wp2_with (go_at_call 25; refine (H.out).mono ?_; rintro e w1 ⟨rfl, rfl⟩)
 go_ret
 exact ⟨rfl, rfl⟩
theorem conv1_at (W : World) (g : Nat) (a : Int) (hg : W.heap[g]? = some (.cells #[.int .u8 a] 5 (0, 0))) : (convert 99 9 (.slice (some ⟨g, 0, none⟩) 1 1)).run Try.prog W = .ok (.string (zO [a])) W :=
 yk (P := Try.prog) W 99 9 5 Try.underlying99 Try.underlying5 Try.underlying9 _ 1 0 [a] ⟨rfl, .inr ⟨g, 1, _, rfl, Nat.zero_le _, hg, zn _, by decide, rfl, rfl⟩⟩
def DgPost (B : Nat) (w : World) (e : Ending) (w' : World) : Prop := ∃ s : ByteArray, s.size ≤ B ∧ e = .returned (.string s) ∧ Below w.heap.size w w'
set_option maxRecDepth 100000 in
set_option maxHeartbeats 2000000 in
theorem digits_any : ∀ (f : Nat), f ≤ 100 → ∀ (n : Nat), n < 10 ^ (f + 1) → n < 1000000 → ∀ w : World, Calls Try.prog 23 #[.int .i64 n] w (DgPost (f + 1) w) := by
 intro f
 induction f with
 | zero =>
  intro _ n hn hn2 w
  have hlt : (n : Int) < 10 := by omega
  have h1 : ((n : Int)).tmod 10 = n := by rw [Int.tmod_eq_emod_of_nonneg (by omega), Int.emod_eq_of_lt (by omega) hlt]
  have hw : IntKind.i64.wrap (48 + (n : Int)) = 48 + (n : Int) := IntWalk.i64_in _ (by omega)
  have hw8 : IntKind.u8.wrap (48 + (n : Int)) = 48 + (n : Int) := IntWalk.u8_in _ (by omega)
  have hcv := conv1_at (w.alloc (.cells #[.int .u8 (48 + (n : Int))] 5)) w.heap.size (48 + (n : Int)) (heap_alloc_new _ _)
  go_enter Try.func23, Try.ntmps23
  go_wp2_with fail
  go_ret
  exact ⟨_, by rw [yo]; exact zn _, rfl, (Below.refl _ _).alloc (zn _) _⟩
 | succ f ih =>
  intro hf n hn hn2 w
  replace ih := ih (by omega)
  by_cases hlt : n < 10
  ·refine (ih n (by have : 10 ≤ 10 ^ (f + 1) := (by rw [Nat.pow_succ]; have := Nat.one_le_pow f 10 (by omega); omega); omega) hn2 w).mono ?_
   rintro e w' ⟨s, hs, he, hb⟩
   exact ⟨s, by omega, he, hb⟩
  ·have hge : (10 : Int) ≤ (n : Int) := by omega
   have hnl : ¬ (n : Int) < 10 := by omega
   have h1 : ((n : Int)).tmod 10 = (n : Int) % 10 := Int.tmod_eq_emod_of_nonneg (by omega)
   obtain ⟨d, hd⟩ : ∃ d : Int, (n : Int) % 10 = d := ⟨_, rfl⟩
   rw [hd] at h1
   have hd0 : 0 ≤ d ∧ d < 10 := by omega
   have hwd : IntKind.i64.wrap d = d := IntWalk.i64_in _ (by omega)
   have hw : IntKind.i64.wrap (48 + d) = 48 + d := IntWalk.i64_in _ (by omega)
   have hw8 : IntKind.u8.wrap (48 + d) = 48 + d := IntWalk.u8_in _ (by omega)
   have hcv := conv1_at (w.alloc (.cells #[.int .u8 (48 + d)] 5)) w.heap.size (48 + d) (heap_alloc_new _ _)
   have h2 : ((n : Int)).tdiv 10 = ((n / 10 : Nat) : Int) := by rw [Int.tdiv_eq_ediv_of_nonneg (by omega)]; omega
   have hw2 : IntKind.i64.wrap ((n / 10 : Nat) : Int) = ((n / 10 : Nat) : Int) := IntWalk.i64_in _ (by omega)
   have hpw : n / 10 < 10 ^ (f + 1) := by rw [Nat.pow_succ] at hn; omega
   have HR := zh (fun W => ih (n / 10) hpw (by omega) W)
   have hb0 : Below w.heap.size w (w.alloc (.cells #[.int .u8 (48 + d)] 5)) := (Below.refl _ _).alloc (zn _) _
   have HB0 := zh hb0
   have hsz : (zO [48 + d]).size = 1 := by rw [yo]; rfl
   clear hb0 ih hn hd hpw
   go_enter Try.func23, Try.ntmps23
   go_upto_region 4 with fail
   obtain ⟨w1, hw1⟩ : ∃ w1 : World, w.alloc (.cells #[.int .u8 (48 + d)] 5) = w1 := ⟨_, rfl⟩
   rw [hw1] at HB0 hcv ⊢
   clear hw1 hcv
   obtain ⟨m, hm⟩ : ∃ m, n / 10 = m := ⟨_, rfl⟩
   rw [hm] at HR h2 hw2
   clear hm
   go_upto_region 5 with (go_at_call 23; refine (HR.out _).mono ?_; rintro e w2 ⟨s, hs, rfl, hb2⟩; have hnc : ¬ 9223372036854775807 < s.size + (zO [48 + d]).size := (by rw [hsz]; omega); have hnd : ¬ 9223372036854775807 < s.size + 1 := (by omega))
   go_wp2_with fail
   go_ret
   refine ⟨s ++ zO [48 + d], ?_, rfl, HB0.out.trans (hb2.mono HB0.out.size)⟩
   rw [ByteArray.size_append, hsz]
   omega
end Go.Proofs.Ythebmoggbgldmaa
namespace Go.Proofs.Ythebmoggbgldmaa
open Go Go.RowKit Go.Maps
set_option maxRecDepth 100000 in
set_option maxHeartbeats 1000000 in
theorem none_any (la : Int) (i : Ins) (w : World) :
  Calls Try.prog 20 #[.int .i64 la, .agg (zt i)] w fun e w' => e = .returned (.agg #[.int .i64 la, .int .i64 i.op, .int .i64 i.d, .int .i64 i.s, .int .u16 i.imm, .int .u16 i.aux, .int .i64 i.bank, .int .i64 i.size, .int .i64 (-1), .int .i64 (-1), .int .i64 (-1), .slice none 0 0]) ∧ Below w.heap.size w w' := by
 obtain ⟨op, d, s, imm, aux, bank, size⟩ := i
 show Calls Try.prog 20 #[.int .i64 la, .agg #[.int .i64 op, .int .i64 d, .int .i64 s, .int .u16 imm, .int .u16 aux, .int .i64 bank, .int .i64 size]] w fun e w' => e = .returned (.agg #[.int .i64 la, .int .i64 op, .int .i64 d, .int .i64 s, .int .u16 imm, .int .u16 aux, .int .i64 bank, .int .i64 size, .int .i64 (-1), .int .i64 (-1), .int .i64 (-1), .slice none 0 0]) ∧ Below w.heap.size w w'
 go_enter Try.func20, Try.ntmps20
 go_upto_region 1 with fail
 obtain ⟨h2, h3⟩ := yy w (.cells #[.int .i64 op, .int .i64 d, .int .i64 s, .int .u16 imm, .int .u16 aux, .int .i64 bank, .int .i64 size] 53) (.cells #[.int .i64 0, .int .i64 0, .int .i64 0, .int .i64 0, .int .u16 0, .int .u16 0, .int .i64 0, .int .i64 0, .int .i64 0, .int .i64 0, .int .i64 0, .slice none 0 0] 58)
 have hB : Below w.heap.size w ((w.alloc (.cells #[.int .i64 op, .int .i64 d, .int .i64 s, .int .u16 imm, .int .u16 aux, .int .i64 bank, .int .i64 size] 53)).alloc (.cells #[.int .i64 0, .int .i64 0, .int .i64 0, .int .i64 0, .int .u16 0, .int .u16 0, .int .i64 0, .int .i64 0, .int .i64 0, .int .i64 0, .int .i64 0, .slice none 0 0] 58)) := ((Below.refl _ _).alloc (zn _) _).alloc (by simp) _
 obtain ⟨wr, hwr⟩ : ∃ wr : World, (w.alloc (.cells #[.int .i64 op, .int .i64 d, .int .i64 s, .int .u16 imm, .int .u16 aux, .int .i64 bank, .int .i64 size] 53)).alloc (.cells #[.int .i64 0, .int .i64 0, .int .i64 0, .int .i64 0, .int .u16 0, .int .u16 0, .int .i64 0, .int .i64 0, .int .i64 0, .int .i64 0, .int .i64 0, .slice none 0 0] 58) = wr := ⟨_, rfl⟩
 rw [hwr] at h2 h3 hB ⊢
 clear hwr
 have H2 := zh h2
 have H3 := zh h3
 have HB := zh hB
 clear h2 h3 hB
 go_wp2_with (first | (refine zs _ _ rfl _ rfl _ _ _ (H2.out) ?_ ?_ ?_; kernel_rfl; kernel_rfl) | (refine wpList_store_row rfl _ _ _ rfl _ _ rfl rfl _ _ (H3.out) ?_ ?_ ?_ ?_; kernel_rfl; rfl; kernel_rfl))
 exact bodyPost_ret (results_cell_row (cs := #[.int .i64 la, .int .i64 op, .int .i64 d, .int .i64 s, .int .u16 imm, .int .u16 aux, .int .i64 bank, .int .i64 size, .int .i64 (-1), .int .i64 (-1), .int .i64 (-1), .slice none 0 0]) (fr := (0, 0)) rfl _ _ (w.heap.size + 1) 58 _ rfl (setRow_heap _ _ _ _ _ _ H3.out) (Try.underlying58) rfl (by kernel_rfl)) rfl ⟨rfl, below_setRow HB.out (by omega) _⟩
def PlnPost (w : World) (e : Ending) (w' : World) : Prop := ∃ i : Ins, e = .returned (.agg (zt i)) ∧ zK i.op = 1 ∧ zQ i = true ∧ i.Ok ∧ Below w.heap.size w w'
theorem poll_ok : zQ ⟨4, 0, 0, 0, 0, 0, 1⟩ = true ∧ zK 4 = 1 := by decide +kernel
theorem okSmallP : (⟨4, 0, 0, 0, 0, 0, 1⟩ : Ins).Ok := ⟨⟨by decide, by decide⟩, ⟨by decide, by decide⟩, ⟨by decide, by decide⟩, by decide, by decide, ⟨by decide, by decide⟩, ⟨by decide, by decide⟩⟩
set_option maxRecDepth 100000 in
set_option maxHeartbeats 1000000 in
theorem plain_any (q0 q1 q2 q3 q4 : Int) (w : World) :
  Calls Try.prog 24 #[.agg #[.int .i64 q0, .int .i64 q1, .int .i64 q2, .int .i64 q3, .int .i64 q4]] w (PlnPost w) := by
 obtain ⟨h2, h3⟩ := yy w (.cells #[.int .i64 q0, .int .i64 q1, .int .i64 q2, .int .i64 q3, .int .i64 q4] 70) (.cells #[.int .i64 0, .int .i64 0, .int .i64 0, .int .u16 0, .int .u16 0, .int .i64 0, .int .i64 0] 53)
 have hB : Below w.heap.size w ((w.alloc (.cells #[.int .i64 q0, .int .i64 q1, .int .i64 q2, .int .i64 q3, .int .i64 q4] 70)).alloc (.cells #[.int .i64 0, .int .i64 0, .int .i64 0, .int .u16 0, .int .u16 0, .int .i64 0, .int .i64 0] 53)) := ((Below.refl _ _).alloc (zn _) _).alloc (by simp) _
 have HMD := zh (fun W => made_any q0 q1 q2 q3 q4 W)
 have hok := made_ok q0 q1 q2 q3 q4
 have hval := made_valid q0 q1 q2 q3 q4
 obtain ⟨i, hi⟩ : ∃ i, madeS q0 q1 q2 q3 q4 = i := ⟨_, rfl⟩
 rw [hi] at HMD hok hval
 clear hi
 have HOK := zh (And.intro hok hval)
 clear hok hval
 have HFM := zh (fun W => y2 i.op W)
 go_enter Try.func24, Try.ntmps24
 go_upto_region 1 with fail
 obtain ⟨wr, hwr⟩ : ∃ wr : World, (w.alloc (.cells #[.int .i64 q0, .int .i64 q1, .int .i64 q2, .int .i64 q3, .int .i64 q4] 70)).alloc (.cells #[.int .i64 0, .int .i64 0, .int .i64 0, .int .u16 0, .int .u16 0, .int .i64 0, .int .i64 0] 53) = wr := ⟨_, rfl⟩
 rw [hwr] at h2 h3 hB ⊢
 clear hwr
 have H2 := zh h2
 have H3 := zh h3
 have HB := zh hB
 clear h2 h3 hB
 obtain ⟨op, d, s, imm, aux, bank, size⟩ := i
 have HMD2 := zh (show ∀ W, Calls Try.prog 41 #[.agg #[.int .i64 q0, .int .i64 q1, .int .i64 q2, .int .i64 q3, .int .i64 q4]] W fun e w' => e = .returned (.agg #[.int .i64 op, .int .i64 d, .int .i64 s, .int .u16 imm, .int .u16 aux, .int .i64 bank, .int .i64 size]) ∧ Below W.heap.size W w' from HMD.out)
 go_upto_region 2 with (first | (refine zs _ _ rfl _ rfl _ _ _ (H2.out) ?_ ?_ ?_; kernel_rfl; kernel_rfl) | (go_at_call 41; refine (HMD2.out _).mono ?_; rintro e w3 ⟨rfl, hb3⟩) | (refine wpList_store_row rfl _ _ _ rfl _ _ rfl rfl _ _ (heap_alloc_new _ _) ?_ ?_ ?_ ?_; kernel_rfl; rfl; kernel_rfl; rw [World.setRow_alloc_new]))
 have hn := heap_alloc_new w3 (.cells #[.int .i64 op, .int .i64 d, .int .i64 s, .int .u16 imm, .int .u16 aux, .int .i64 bank, .int .i64 size] 53)
 have hb4 : Below wr.heap.size wr (w3.alloc (.cells #[.int .i64 op, .int .i64 d, .int .i64 s, .int .u16 imm, .int .u16 aux, .int .i64 bank, .int .i64 size] 53)) := hb3.alloc hb3.size _
 obtain ⟨g, hg⟩ : ∃ g, w3.heap.size = g := ⟨_, rfl⟩
 obtain ⟨w4, hw4⟩ : ∃ w4 : World, w3.alloc (.cells #[.int .i64 op, .int .i64 d, .int .i64 s, .int .u16 imm, .int .u16 aux, .int .i64 bank, .int .i64 size] 53) = w4 := ⟨_, rfl⟩
 rw [hw4] at hn hb4 ⊢
 rw [hg] at hn ⊢
 have H34 := zh (zf hb4 H3.out)
 have HB4 := zh (HB.out.trans (hb4.mono HB.out.size))
 have HN4 := zh hn
 have c0 := cell_of_row w4 g 0 _ _ _ hn
 clear hw4 hg hn hb4 hb3 HMD HMD2 H2 H3 HB
 try simp only [Act.put]
 have HFM2 := zh (show ∀ W, Calls Try.prog 18 #[.int .i64 op] W fun e w' => e = .returned (.int .i64 (zK op)) ∧ Below W.heap.size W w' from HFM.out)
 clear HFM
 obtain ⟨fm, hfm⟩ : ∃ fm, zK op = fm := ⟨_, rfl⟩
 rw [hfm] at HFM2
 by_cases h1 : fm = 1
 ·subst h1
  have HFE := zh hfm
  clear hfm
  go_wp2_with (first | (refine zs _ _ rfl _ rfl _ _ _ (HN5.out) ?_ ?_ ?_; kernel_rfl; kernel_rfl) | (go_at_call 18; refine (HFM2.out _).mono ?_; rintro e w5 ⟨rfl, hb5⟩; have H35 := zh (zf hb5 H34.out); have HN5 := zh (zf hb5 HN4.out); have HB5 := zh (HB4.out.trans (hb5.mono HB4.out.size)); clear hb5) | (refine wpList_store_row rfl _ _ _ rfl _ _ rfl rfl _ _ (H35.out) ?_ ?_ ?_ ?_; kernel_rfl; rfl; kernel_rfl))
  exact bodyPost_ret (results_cell_row (cs := #[.int .i64 op, .int .i64 d, .int .i64 s, .int .u16 imm, .int .u16 aux, .int .i64 bank, .int .i64 size]) (fr := (0, 0)) rfl _ _ (w.heap.size + 1) 53 _ rfl (setRow_heap _ _ _ _ _ _ H35.out) (Try.underlying53) rfl (by kernel_rfl)) rfl ⟨⟨op, d, s, imm, aux, bank, size⟩, rfl, HFE.out, HOK.out.2, HOK.out.1, below_setRow HB5.out (by omega) _⟩
 ·have h1a : (fm == 1) = false := by simp [h1]
  have h1b : (fm != 1) = true := by simp [h1]
  clear hfm h1
  go_wp2_with (first | (go_at_call 18; refine (HFM2.out _).mono ?_; rintro e w5 ⟨rfl, hb5⟩; have H35 := zh (zf hb5 H34.out); have HB5 := zh (HB4.out.trans (hb5.mono HB4.out.size)); clear hb5) | (refine wpList_store_row rfl _ _ _ rfl _ _ rfl rfl _ _ (H35.out) ?_ ?_ ?_ ?_; kernel_rfl; rfl; kernel_rfl))
  exact bodyPost_ret (results_cell_row (cs := #[.int .i64 4, .int .i64 0, .int .i64 0, .int .u16 0, .int .u16 0, .int .i64 0, .int .i64 1]) (fr := (0, 0)) rfl _ _ (w.heap.size + 1) 53 _ rfl (setRow_heap _ _ _ _ _ _ H35.out) (Try.underlying53) rfl (by kernel_rfl)) rfl ⟨⟨4, 0, 0, 0, 0, 0, 1⟩, rfl, poll_ok.2, poll_ok.1, okSmallP, below_setRow HB5.out (by omega) _⟩
end Go.Proofs.Ythebmoggbgldmaa
namespace Go.Proofs.Ythebmoggbgldmaa
open Go Go.RowKit Go.Maps
def labT (n : Nat) (t : Int) : Option Nat := if 0 ≤ t ∧ t < n then some t.toNat else none
structure MadeOk (n nf no i : Nat) (l : zu) : Prop where
 lab : l.label = i
 ok : zY (labT n) nf no l = true
 num : l.Ok
 tl : l.tab.length ≤ 9
theorem labT_some {n : Nat} {t : Int} (h : 0 ≤ t ∧ t < n) : (labT n t).isSome = true := by unfold labT; rw [if_pos h]; rfl
theorem lok_br {n nf no : Nat} {la : Int} {i : Ins} {de : Int} (hf : zK i.op = 2) (hd : 0 ≤ de ∧ de < n) : zY (labT n) nf no ⟨la, i, de, -1, -1, []⟩ = true := by
 obtain ⟨j, hj⟩ := Option.isSome_iff_exists.1 (labT_some hd)
 unfold zY
 rw [hf]
 simp [hj]
theorem lok_tb {n nf no : Nat} {la : Int} {i : Ins} {de : Int} {tab : List Int} (hf : zK i.op = 3) (hi : 0 ≤ i.d ∧ i.d < 8) (hd : 0 ≤ de ∧ de < n) (h0 : 0 < tab.length) (h1 : tab.length ≤ 9) (ht : ∀ t ∈ tab, 0 ≤ t ∧ t < n) : zY (labT n) nf no ⟨la, i, de, -1, -1, tab⟩ = true := by
 obtain ⟨j, hj⟩ := Option.isSome_iff_exists.1 (labT_some hd)
 have h3 : tab.all (fun t => (labT n t).isSome) = true := List.all_eq_true.2 fun t hm => labT_some (ht t hm)
 unfold zY
 rw [hf]
 dsimp only
 rw [hj, h3, decide_eq_true hi.1, decide_eq_true hi.2, decide_eq_true h0, decide_eq_true (show tab.length < 256 by omega)]
 rfl
theorem lok_cl {n nf no : Nat} {la : Int} {i : Ins} {fn : Int} (hf : zK i.op = 4) (hn : 0 ≤ fn ∧ fn < nf) : zY (labT n) nf no ⟨la, i, -1, fn, -1, []⟩ = true := by
 unfold zY
 rw [hf]
 simp [hn.1, hn.2]
theorem lok_pl {n nf no : Nat} {la : Int} {i : Ins} (hf : zK i.op = 1) (hv : zQ { i with size := zH i.op } = true) : zY (labT n) nf no ⟨la, i, -1, -1, -1, []⟩ = true := by
 unfold zY
 rw [hf]
 simp [hv]
theorem lok_ob {n nf no : Nat} {la : Int} {i : Ins} {ob : Int} (hf : zK i.op = 1) (hv : zQ { i with size := zH i.op } = true) (hw : xR i.op = true) (ho : 0 ≤ ob ∧ ob < no) : zY (labT n) nf no ⟨la, i, -1, -1, ob, []⟩ = true := by
 unfold zY
 rw [hf]
 simp [hv, hw, ho.1, ho.2]
theorem valid_sized {i : Ins} (hi : i.Ok) (hv : zQ i = true) : zQ { i with size := zH i.op } = true := by
 obtain ⟨-, -, -, -, -, hz⟩ := xk i hi hv
 have : ({ i with size := zH i.op } : Ins) = i := by
  obtain ⟨op, d, s, imm, aux, bank, size⟩ := i
  dsimp only at hz ⊢
  rw [ju, ← hz]
 rw [this]
 exact hv
theorem form_brs : ∀ n : Nat, n < 14 → zK (96 + n) = 2 ∧ zK (112 + n) = 2 := by decide +kernel
theorem form_br1 {x : Int} (h : 0 ≤ x ∧ x < 14) : zK (96 + x) = 2 ∧ zK (112 + x) = 2 := by
 obtain ⟨n, rfl⟩ : ∃ n : Nat, x = n := ⟨x.toNat, by omega⟩
 exact form_brs n (by omega)
theorem form_js : zK 128 = 2 ∧ zK 129 = 2 ∧ zK 133 = 3 ∧ zK 130 = 4 ∧ zK 132 = 4 ∧ zK 131 = 4 ∧ zK 0 = 1 := by decide +kernel
theorem nop_ok : zQ ⟨0, 0, 0, 0, 0, 0, zH 0⟩ = true := by decide +kernel
theorem wide_fmt : ∀ n : Nat, n < 256 → xR n = true → zK n = 1 ∧ ((n ≠ 150 ∧ (zw n = 6 ∨ zw n = 9 ∨ zw n = 14 ∨ zw n = 8 ∨ zw n = 16)) ∨ (n = 150 ∧ zw n = 17)) := by decide +kernel
theorem wide_ok {op d s imm aux : Int} (h0 : 0 ≤ op ∧ op < 256) (hw : xR op = true) (hd : 0 ≤ d ∧ d < 8) (hs : 0 ≤ s ∧ s < 8) (hi : 0 ≤ imm ∧ imm < 65536) (ha : 0 ≤ aux ∧ aux < 65536) (h1 : op ≠ 150 → s = 0 ∧ aux = 0) (h2 : op = 150 → d = 0) :
  zK op = 1 ∧ zQ ⟨op, d, s, imm, aux, 0, zH op⟩ = true := by
 obtain ⟨n, rfl⟩ : ∃ n : Nat, op = n := ⟨op.toNat, by omega⟩
 obtain ⟨hf, h⟩ := wide_fmt n (by omega) hw
 refine ⟨hf, ?_⟩
 have sm : ∀ n : Int, 0 ≤ n → n < 65536 → zX n := fun n h h' => ⟨by omega, by omega⟩
 have hz := sizeS_rng (n : Int)
 rw [yR _ ⟨sm _ h0.1 (by show (n : Int) < 65536; omega), sm _ hd.1 (by show d < 65536; omega), sm _ hs.1 (by show s < 65536; omega), hi, ha, sm _ (by show (0 : Int) ≤ 0; omega) (by show (0 : Int) < 65536; omega), sm _ hz.1 (by show zH (n : Int) < 65536; omega)⟩]
 unfold zR
 dsimp only
 rw [ju]
 rcases h with ⟨hn, h⟩ | ⟨hn, h⟩
 ·obtain ⟨rfl, rfl⟩ := h1 (by omega)
  rcases h with h | h | h | h | h <;> rw [h] <;> simp [yi, yz] <;> omega
 ·have := h2 (by omega)
  subst this
  rw [h]
  simp [yi, yz]
  omega
theorem wd_a {x : Int} (h : 0 ≤ x ∧ x < 15) : xR (64 + x) = true := by simp [xR]; omega
theorem wd_b {x : Int} (h : 0 ≤ x ∧ x < 4) : xR (84 + x) = true ∧ xR (88 + x) = true := by constructor <;> simp [xR] <;> omega
theorem wd_c : xR 150 = true ∧ xR 146 = true ∧ xR 147 = true := by decide +kernel
theorem labF_made {ls : List zu} (h : ∀ (i : Nat) (l : zu), ls[i]? = some l → l.label = i) (t : Int) : yI ls t = labT ls.length t := by
 unfold yI labT
 by_cases h0 : t < 0
 ·rw [if_pos h0, if_neg (by omega)]
 ·rw [if_neg h0]
  by_cases h1 : t < ls.length
  ·rw [if_pos ⟨by omega, h1⟩, List.findIdx?_eq_some_iff_getElem]
   refine ⟨by omega, ?_, fun j hj => ?_⟩
   ·rw [h _ _ (List.getElem?_eq_getElem (by omega))]
    simp; omega
   ·rw [h _ _ (List.getElem?_eq_getElem (by omega))]
    simp; omega
  ·rw [if_neg (by omega), List.findIdx?_eq_none_iff]
   intro l hl
   obtain ⟨j, hj, rfl⟩ := List.mem_iff_getElem.1 hl
   rw [h j _ (List.getElem?_eq_getElem hj)]
   simp; omega
theorem made_chunk {ls : List zu} {nf no : Nat} (h : ∀ (i : Nat) (l : zu), ls[i]? = some l → MadeOk ls.length nf no i l) : xP ls nf no := by
 have hl : ∀ (i : Nat) (l : zu), ls[i]? = some l → l.label = i := fun i l hl => (h i l hl).lab
 refine ⟨fun k hk => .inr ?_, fun l hm => ?_⟩
 ·have e := hl k _ (List.getElem?_eq_getElem hk)
  rw [e]
  refine ⟨by omega, (labF_none (by omega)).2 fun m hm => ?_⟩
  obtain ⟨j, hj, rfl⟩ := List.mem_iff_getElem.1 hm
  rw [List.length_take] at hj
  rw [List.getElem_take, hl j _ (List.getElem?_eq_getElem (by omega))]
  omega
 ·obtain ⟨j, hj, rfl⟩ := List.mem_iff_getElem.1 hm
  have := (h j _ (List.getElem?_eq_getElem hj)).ok
  have e : yI ls = labT ls.length := funext (labF_made hl)
  rw [e]
  exact this
theorem made_lines {ls : List zu} {nf no : Nat} (h : ∀ (i : Nat) (l : zu), ls[i]? = some l → MadeOk ls.length nf no i l) (hl : ls.length ≤ 1000) : yV ls :=
 ⟨fun l hm => by obtain ⟨j, hj, rfl⟩ := List.mem_iff_getElem.1 hm; exact (h j _ (List.getElem?_eq_getElem hj)).num, hl⟩
end Go.Proofs.Ythebmoggbgldmaa
namespace Go.Proofs.Ythebmoggbgldmaa
open Go Go.RowKit Go.Maps
theorem yK {w : World} {ops : Array Oper} {rest : List Oper} {o : Oper} {a : Act} {Q : Exit → Act → World → Prop} (hgd : o.guard = none) (s x : Operand) (ho : o.op = .call { callee := .builtin .append, args := #[s, x], argTypes := #[40, 40] })
  (B : Nat) (hB : B ≤ w.heap.size) (pv : Value) (pos : List Int) (hs : a.eval s = pv) (hown : w.ownsRow B 3 1 pv pos.length (pos.map (Value.int .i64))) (hl : pos.length ≤ 1000000) (g : Nat) (y : Int) (hx : a.eval x = .slice (some ⟨g, 0, none⟩) 1 1) (hg : w.heap[g]? = some (.cells #[.int .i64 y] 3 (0, 0)))
  (h : ∀ ga cp w', w'.ownsRow B 3 1 (.slice (some ⟨ga, 0, none⟩) (pos.length + 1) cp) (pos ++ [y]).length ((pos ++ [y]).map (Value.int .i64)) → w.grownBy w' pv.ownBlock → (pv.ownBlock = some ga ∨ ga = w.heap.size) → wpList Try.prog ops Q rest (a.put o.dst (.slice (some ⟨ga, 0, none⟩) (pos.length + 1) cp)) w') :
  wpList Try.prog ops Q (o :: rest) a w := by
 obtain ⟨i3, hi3, hz3, hz31, hz32⟩ := info_parts infoIk
 refine xm w hgd s x 40 ho B 3 i3 (.int .i64 0) 1 8 Try.underlying40 hi3 hz3 hz31 hz32 rfl (by decide) pv pos.length _ hs hown (some ⟨g, 0, none⟩) 1 1 (fun h => by cases h) [.int .i64 y] hx ⟨rfl, fun _ => ⟨_, rfl, fun j u hu => by
   rcases j with _ | j
   ·simp at hu; subst hu
    exact cell_of_row w g 0 _ _ _ hg
   ·simp at hu⟩⟩ (by intro u hu; simp at hu; subst hu; rfl) (by unfold maxLen; omega) (by omega) hB ?_
 intro v' w6 ho6 hg6 hk6
 obtain ⟨ga, cp, rfl⟩ : ∃ ga cp, v' = .slice (some ⟨ga, 0, none⟩) (pos.length + 1) cp := by
  rcases ho6.2 with ⟨-, h⟩ | ⟨g', cap, cur, h, -⟩
  ·omega
  ·exact ⟨g', cap, h⟩
 refine h ga cp w6 ?_ hg6 ?_
 ·rw [show (pos ++ [y]).length = pos.length + 1 by simp, List.map_append]
  exact ho6
 ·rcases hk6 with h | h
  ·exact .inl h.symm
  ·exact .inr (by cases h; rfl)
theorem own_ints {w : World} {B : Nat} {v : Value} {xs : List Int} (h : w.ownsRow B 3 1 v xs.length (xs.map (Value.int .i64))) : xO w v xs := by
 rcases h.2 with ⟨rfl, h0⟩ | ⟨g, cap, cur, rfl, hB, hg, hnc, hcm, hcs, ht⟩
 ·exact ⟨none, 0, by rw [h0], by omega, fun h => by omega⟩
 ·refine ⟨_, cap, rfl, hnc, fun _ => ⟨g, 0, cur, _, _, rfl, hg, fun i x hx => ?_⟩⟩
  have h2 : (xs.map (Value.int .i64))[i]? = some (.int .i64 x) := by rw [List.getElem?_map, hx]; rfl
  rw [← ht] at h2
  rw [List.getElem?_take] at h2
  split at h2
  ·rw [Nat.zero_add]; simpa using h2
  ·cases h2
theorem xO.at {w : World} {ps : List Int} {ao : Option Addr} {n cap : Nat} (h : xO w (.slice ao n cap) ps) {i : Nat} {p : Int} (hp : ps[i]? = some p) :
  ∃ g off c T fr, ao = some ⟨g, off, none⟩ ∧ w.heap[g]? = some (.cells c T fr) ∧ c[off + i]? = some (.int .i64 p) := by
 obtain ⟨ao', cap', e, -, h⟩ := h
 have h0 : 0 < ps.length := by have := (List.getElem?_eq_some_iff.1 hp).1; omega
 obtain ⟨g, off, c, T, fr, e1, hg, h1⟩ := h h0
 simp only [Value.slice.injEq] at e
 exact ⟨g, off, c, T, fr, e.1.trans e1, hg, h1 i p hp⟩
theorem own_int_at {w : World} {B : Nat} {v : Value} {n : Nat} {xs : List Int} (h : w.ownsRow B 3 1 v n (xs.map (Value.int .i64))) (hn : xs.length = n) {k : Nat} {x : Int} (hk : xs[k]? = some x) :
  ∃ g cp, v = .slice (some ⟨g, 0, none⟩) n cp ∧ B ≤ g ∧ ∃ cur, w.heap[g]? = some (.cells cur 3 (0, 0)) ∧ cur[k]? = some (.int .i64 x) := by
 have hkl := (List.getElem?_eq_some_iff.1 hk).1
 rcases h.2 with ⟨-, h0⟩ | ⟨g, cap, cur, rfl, hB, hg, hnc, hcm, hcs, ht⟩
 ·omega
 ·refine ⟨g, cap, rfl, hB, cur, hg, ?_⟩
  have h2 : (xs.map (Value.int .i64))[k]? = some (.int .i64 x) := by rw [List.getElem?_map, hk]; rfl
  rw [← ht, List.getElem?_take] at h2
  split at h2
  ·simpa using h2
  ·cases h2
theorem xS {xs : List Int} {k : Nat} {x : Int} (h : xs[k]? = some x) : xs.take (k + 1) = xs.take k ++ [x] := by
 rw [List.take_succ, h]; rfl
theorem row_below {w W W' : World} {B : Nat} {v : Value} {n : Nat} {xs : List Value} {T : TypeId} (hb : Below B w W) (hB : B ≤ W.heap.size) (ho : W.ownsRow B T 1 v n xs) (hg : W.grownBy W' v.ownBlock) : Below B w W' :=
 hb.trans (((zN.refl (fun k => v.ownBlock = some k) W).grown hg fun k hk _ => hk).toBelow hB fun k hk => (z7 ho k hk).1)
theorem row_kept {W W' : World} {B : Nat} {v : Value} {n : Nat} {xs : List Value} {T U : TypeId} {b : Nat} {cs : Array Value} {fr : Nat × Nat} (ho : W.ownsRow B T 1 v n xs) (hg : W.grownBy W' v.ownBlock) (h : W.heap[b]? = some (.cells cs U fr)) (hT : U ≠ T) : W'.heap[b]? = some (.cells cs U fr) := by
 refine (hg.block b (Array.getElem?_eq_some_iff.1 h).1 fun e => ?_).trans h
 obtain ⟨-, cs', h8⟩ := z7 ho _ e.symm
 rw [h] at h8
 simp at h8
 exact hT h8.2.1
def SzPost (w : World) (xs : List Int) (e : Ending) (w' : World) : Prop :=
 ∃ v, e = .returned v ∧ w'.ownsRow w.heap.size 3 1 v xs.length (xs.map (Value.int .i64)) ∧ Below w.heap.size w w'
theorem sz4 : zH 131 = 4 := by decide +kernel
set_option maxRecDepth 100000 in
set_option maxHeartbeats 4000000 in
theorem rstarts_any (v : Value) (xs : List Int) (hlen : xs.length ≤ 1000) (hok : SzOk xs) (w : World) (hI : xO w v xs) :
  Calls Try.prog 64 #[v] w (SzPost w (xi xs)) := by
 obtain ⟨ao, cap, rfl, -, -⟩ := id hI
 have HI := zh hI
 have HOK := zh hok
 clear hI hok
 go_enter Try.func64, Try.ntmps64
 go_wp2_with fail
 go_loopw [3, 4] (fun sv i wr => ∃ k : Nat, k ≤ xs.length ∧ i = .int .i64 k ∧ Hid (wr.ownsRow w.heap.size 3 1 sv ((xi xs).take (k + 1)).length (((xi xs).take (k + 1)).map (Value.int .i64))) ∧ Hid (Below w.heap.size w wr)) (fun _ i _ => xs.length - (intOf i).toNat)
 case atStart =>
  refine ⟨0, Nat.zero_le _, rfl, zh ?_, zh ((Below.refl _ _).alloc (zn _) _)⟩
  have e : (xi xs).take (0 + 1) = [0] := by
   rw [List.take_succ, jH xs (Nat.zero_le _), offS_zero]; rfl
  rw [e]
  exact World.ownsRow_lit w #[.int .i64 0] 1 (zn _) (by decide) (by simp)
 case round =>
  obtain ⟨k, hk, rfl, HO, HB⟩ := hrel
  by_cases hlt : k < xs.length
  ·obtain ⟨y, hy⟩ : ∃ y, xs[k]? = some y := ⟨_, List.getElem?_eq_getElem hlt⟩
   obtain ⟨q, off, c, T', fr', hao, hq, hx⟩ := (HI.out.below HB.out).at hy
   subst hao
   have HQ := zh hq
   have HX := zh hx
   have hln : ((xi xs).take (k + 1)).length = k + 1 := by rw [List.length_take, jm]; omega
   have hown := HO.out
   rw [hln] at hown
   obtain ⟨ga, cp, rfl, hgB, cur, hcur, hct⟩ := own_int_at hown hln (show ((xi xs).take (k + 1))[k]? = some (yM xs k) by rw [List.getElem?_take, if_pos (by omega), jH xs (by omega)])
   have HC := zh hcur
   have HCT := zh hct
   have HN := zh (show (xi xs).take (k + 1 + 1) = (xi xs).take (k + 1) ++ [yM xs (k + 1)] from xS (jH xs (by omega)))
   have hb1 := off_bd HOK.out k (by omega)
   have hyb := HOK.out y (List.mem_of_getElem? hy)
   have HS := zh (show IntKind.i64.wrap (yM xs k + y) = yM xs (k + 1) by
    rw [offS_succ xs k hlt, (List.getElem?_eq_some_iff.1 hy).2]
    exact IntWalk.i64_in _ (by omega))
   have HOW := zh hown
   clear hq hx hy hown hcur hct hgB HO
   go_upto_region 5 with fail
   have zzq : q < wr.heap.size := (Array.getElem?_eq_some_iff.1 HQ.out).1
   have zzg : ga < wr.heap.size := (Array.getElem?_eq_some_iff.1 HC.out).1
   have hkk : (k : Int) < (k : Int) + 1 := by omega
   refine ye [] 11 (z5 [isV (.slice (some ⟨ga, 0, none⟩) (k + 1) cp), isV (.slice (some ⟨ga, 0, none⟩) (k + 1) cp), isV (.int .i64 k), isV ((.pointer (some ⟨ga, k, none⟩))), isV ((.int .i64 (yM xs k))), isV (.slice (some ⟨q, off, none⟩) xs.length cap), isV (.int .i64 k), isV ((.pointer (some ⟨q, off + k, none⟩))), isV ((.int .i64 y)), isV (.int .i64 (yM xs (k + 1))), newS (wr.heap.size) (.cells #[.int .i64 (yM xs (k + 1))] 3 (0, 0)) 1]) (nth [[0], [1], [2], [3], [4], [5], [6], [7], [8], [9], [10]]) (nth [[], [], [], [], [], [], [], [], [], [], []]) (nth [[], [], [], [1, 2], [3], [], [], [5, 6], [7], [4, 8], [9]]) [0, 10] (yU wr.heap.size wr wr.heap.size [(ga, .cells cur 3 (0, 0)), (q, .cells c T' fr')]) (by kernel_rfl) (by kernel_rfl) (⟨(Below.refl _ _).drew, zn _, zn _, by intro x hx; simp at hx; rcases hx with rfl | rfl <;> assumption, HC.out, HQ.out, trivial⟩) (yU.grow) (zG ((za (zc _)  (za (zc _)  (za (zc _)  (za (zc _)  (za (zc _)  (za (zc _)  (za (zc _)  (za (zc _)  (za (zc _)  (za (zc _)  (za (yZ _ _ _) zy))))))))))))) (fun f F hF => ?_)
   simp only [List.take_succ_cons, List.take_zero, yb, Act.put, zD, zE, zF, Nat.reduceAdd] at hF
   subst hF
   refine ⟨ze ?_ (ze ?_ (ze ?_ (ze ?_ (ze ?_ (ze ?_ (ze ?_ (ze ?_ (ze ?_ (ze ?_ (ze ?_ (yf))))))))))), ?_⟩
   ·intro w5 hS hF hD K hK
    exact stV hK rfl rfl rfl rfl (by first | rfl | kernel_rfl) rfl (by show _ = _; kernel_rfl)
   ·intro w5 hS hF hD K hK
    exact stV hK rfl rfl rfl rfl (by first | rfl | kernel_rfl) rfl (by show _ = _; kernel_rfl)
   ·intro w5 hS hF hD K hK
    exact stV hK rfl rfl rfl rfl (by first | rfl | kernel_rfl) rfl (by show _ = _; kernel_rfl)
   ·intro w5 hS hF hD K hK
    obtain ⟨(e1 : f 1 = _), (e2 : f 2 = _), -⟩ := hF
    try simp only [e1, e2]
    rw [if_pos (by rfl)]
    go_simp
    refine hK.out _ _ rfl (zq rfl rfl rfl ?_)
    first | rfl | kernel_rfl
   ·intro w5 hS hF hD K hK
    obtain ⟨(e3 : f 3 = _), -⟩ := hF
    try simp only [e3]
    exact stC hK rfl rfl rfl rfl (by first | rfl | kernel_rfl) rfl rfl rfl (hS.2.2.2.2.1) (HCT.out) (fun _ => by kernel_rfl)
   ·intro w5 hS hF hD K hK
    exact stV hK rfl rfl rfl rfl (by first | rfl | kernel_rfl) rfl (by show _ = _; kernel_rfl)
   ·intro w5 hS hF hD K hK
    exact stV hK rfl rfl rfl rfl (by first | rfl | kernel_rfl) rfl (by show _ = _; kernel_rfl)
   ·intro w5 hS hF hD K hK
    obtain ⟨(e5 : f 5 = _), (e6 : f 6 = _), -⟩ := hF
    try simp only [e5, e6]
    rw [if_pos (by rfl)]
    go_simp
    refine hK.out _ _ rfl (zq rfl rfl rfl ?_)
    first | rfl | kernel_rfl
   ·intro w5 hS hF hD K hK
    obtain ⟨(e7 : f 7 = _), -⟩ := hF
    try simp only [e7]
    exact stC hK rfl rfl rfl rfl (by first | rfl | kernel_rfl) rfl rfl rfl (hS.2.2.2.2.2.1) (HX.out) (fun _ => by kernel_rfl)
   ·intro w5 hS hF hD K hK
    obtain ⟨(e4 : f 4 = _), (e8 : f 8 = _), -⟩ := hF
    try simp only [e4, e8]
    rw [if_pos (by rfl)]
    exact zx (v := .int .i64 (IntKind.i64.wrap (yM xs k + y))) (by (show _ = _); kernel_rfl) (hK.out _ _ rfl (zq rfl rfl rfl (congrArg (Value.int .i64) HS.out)))
   ·intro w5 hS hF hD K hK
    obtain ⟨(e9 : f 9 = _), -⟩ := hF
    try simp only [e9]
    rw [if_pos (by rfl)]
    go_simp
    refine hK.out _ _ rfl (y0 rfl rfl rfl hS.2.2.1 ?_)
    first | rfl | kernel_rfl
   intro w5 hS hF
   obtain ⟨(e0 : f 0 = _), e10, -⟩ := hF
   obtain ⟨g10, e10, hB10, hg10⟩ := e10
   replace e10 : f 10 = _ := e10
   try simp only [e0, e10]
   simp only [List.drop_succ_cons, List.drop_zero]
   have HB5 := zh hS.1
   have HG9 := zh hg10
   have HOW5 := zh (zZ HOW.out (zN.ofBelow (bs := fun _ => False) hS.1) fun _ _ h => h)
   have hl9 : ((xi xs).take (k + 1)).length ≤ 1000000 := by omega
   clear hS hg10 e10 e0 zzq zzg hB10
   have HBS := zh (show w.heap.size ≤ w5.heap.size from Nat.le_trans HB.out.size HB5.out.size)
   go_upto_region 4 with (at_builtin; refine yK rfl _ _ rfl w.heap.size HBS.out _ ((xi xs).take (k + 1)) rfl (by rw [hln]; exact HOW5.out) hl9 g10 (yM xs (k + 1)) rfl HG9.out ?_; intro gb cp' w6 ho6 hg6 hk6)
   have HO6 := zh (show w6.ownsRow w.heap.size 3 1 (.slice (some ⟨gb, 0, none⟩) (k + 1 + 1) cp') ((xi xs).take (k + 1 + 1)).length (((xi xs).take (k + 1 + 1)).map (Value.int .i64)) by rw [HN.out]; rw [hln] at ho6; exact ho6)
   have HB6 := zh (row_below (HB.out.trans (HB5.out.mono HB.out.size)) HBS.out HOW5.out hg6)
   clear ho6 hg6 hk6
   go_wp2_with fail
   go_roundw
   case rel => exact ⟨k + 1, by omega, by go_num, HO6, HB6⟩
   case measure => simp [intOf]; omega
  ·have hke : k = xs.length := by omega
   subst hke
   have HE := zh (show (xi xs).take (xs.length + 1) = xi xs from List.take_of_length_le (by rw [jm]; omega))
   rw [HE.out] at HO
   clear hlt hk
   go_wp2_with fail
   go_ret
   exact ⟨_, rfl, HO.out, HB.out⟩
end Go.Proofs.Ythebmoggbgldmaa
