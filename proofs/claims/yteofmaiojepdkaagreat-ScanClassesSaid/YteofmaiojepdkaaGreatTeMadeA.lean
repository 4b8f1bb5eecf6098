/- fields of the reference, walked: formats 1, 2, 3, 4, 5. -/
import Derived.Test.YteofmaiojepdkaaGreatTeRefC3
set_option linter.all false
namespace Go.Proofs.YteofmaiojepdkaaGreat
open Go.RowKit
def ji (k : Nat) : List Int := ((List.range k).filter (fun n : Nat => ze (n : Int) != 0)).map (fun n : Nat => (n : Int))
theorem opsTo_yes (k : Nat) (h : (ze (k : Int) != 0) = true) : ji (k + 1) = ji k ++ [(k : Int)] := by
 unfold ji
 rw [List.range_succ, List.filter_append, List.map_append]
 simp [List.filter_cons, h]
theorem opsTo_no (k : Nat) (h : (ze (k : Int) != 0) = false) : ji (k + 1) = ji k := by
 unfold ji
 rw [List.range_succ, List.filter_append, List.map_append]
 simp [List.filter_cons, h]
theorem opsTo_le (k : Nat) : (ji k).length ≤ k := by
 unfold ji
 rw [List.length_map]
 exact Nat.le_trans (List.length_filter_le _ _) (by simp)
theorem opsAll_len : (ji 164).length = 113 := by decide +kernel
def opAt (m : Nat) : Int := (ji 164).getD m 0
theorem opAt_fmt : ∀ m : Nat, m < 113 → ze (opAt m) ≠ 0 ∧ 0 ≤ opAt m ∧ opAt m ≤ 163 := by decide +kernel
theorem opAt_get (m : Nat) (h : m < 113) : (ji 164)[m]? = some (opAt m) := by
 unfold opAt
 have : m < (ji 164).length := by rw [opsAll_len]; exact h
 simp [List.getD_eq_getElem?_getD, List.getElem?_eq_getElem this]
def mkD (f : Int) : Bool := f = 2 ∨ f = 5 ∨ f = 6 ∨ f = 9 ∨ f = 13 ∨ f = 14 ∨ f = 15 ∨ f = 18 ∨ f = 4 ∨ f = 7 ∨ f = 8 ∨ f = 16
def mkS (f : Int) : Bool := f = 4 ∨ f = 7 ∨ f = 8 ∨ f = 16 ∨ f = 17
def mkI (f v : Int) : Int := if f = 3 ∨ f = 15 then v % 256 else if f = 5 ∨ f = 7 ∨ f = 10 ∨ f = 18 then zj (v % 256) else if f = 6 ∨ f = 8 ∨ f = 9 ∨ f = 11 ∨ f = 12 ∨ f = 13 ∨ f = 14 ∨ f = 16 ∨ f = 17 then v else 0
def xS (f op q1 q2 q3 q4 : Int) : Ins :=
 ⟨op, if mkD f then q1 % 8 else 0, if mkS f then q2 % 8 else 0, mkI f (q3 % 65536),
  if f = 13 then q2 % 65536 else if f = 17 then q4 % 65536 else 0,
  if f = 12 ∨ f = 16 then q4 % 64 else if f = 13 then 1 + q4 % 65536 % 255 else 0, zc op⟩
def zV (q0 : Int) : Int := opAt (q0 % 65536 % 113).toNat
def madeS (q0 q1 q2 q3 q4 : Int) : Ins := xS (ze (zV q0)) (zV q0) q1 q2 q3 q4
theorem jg (q0 : Int) : ze (zV q0) ≠ 0 ∧ 0 ≤ zV q0 ∧ zV q0 ≤ 163 := opAt_fmt _ (by omega)
theorem mk_size_bd (op : Int) : 0 ≤ zc op ∧ zc op ≤ 7 := by
 have h := fmtS_bd op
 unfold zc
 have : ∀ n : Nat, n ≤ 18 → 0 ≤ yL.getD n 0 ∧ yL.getD n 0 ≤ 7 := by decide +kernel
 exact this _ (by omega)
theorem mkI_bd (f v : Int) (h0 : 0 ≤ v) (h1 : v < 65536) : 0 ≤ mkI f v ∧ mkI f v < 65536 := by
 unfold mkI zj; repeat' split
 all_goals omega
theorem madeF_ok (f op q1 q2 q3 q4 : Int) (h0 : 0 ≤ op) (h1 : op ≤ 163) : (xS f op q1 q2 q3 q4).Ok := by
 have hi := mkI_bd f (q3 % 65536) (by omega) (by omega)
 have hr := mk_size_bd op
 have hd : 0 ≤ (if mkD f then q1 % 8 else 0) ∧ (if mkD f then q1 % 8 else 0) < 8 := by split <;> omega
 have hs : 0 ≤ (if mkS f then q2 % 8 else 0) ∧ (if mkS f then q2 % 8 else 0) < 8 := by split <;> omega
 have ha : 0 ≤ (if f = 13 then q2 % 65536 else if f = 17 then q4 % 65536 else 0) ∧ (if f = 13 then q2 % 65536 else if f = 17 then q4 % 65536 else 0) < 65536 := by
  repeat' split
  all_goals omega
 have hb : 0 ≤ (if f = 12 ∨ f = 16 then q4 % 64 else if f = 13 then 1 + q4 % 65536 % 255 else 0) ∧ (if f = 12 ∨ f = 16 then q4 % 64 else if f = 13 then 1 + q4 % 65536 % 255 else 0) < 256 := by
  repeat' split
  all_goals omega
 have k : ∀ x : Int, 0 ≤ x → x < 65536 → yX x := fun x h0 h1 => ⟨by omega, by omega⟩
 exact ⟨k _ h0 (by show op < 65536; omega), k _ hd.1 (Int.lt_trans hd.2 (by decide)), k _ hs.1 (Int.lt_trans hs.2 (by decide)), hi, ha, k _ hb.1 (Int.lt_trans hb.2 (by decide)), k _ hr.1 (by show zc op < 65536; omega)⟩
theorem made_ok (q0 q1 q2 q3 q4 : Int) : (madeS q0 q1 q2 q3 q4).Ok := madeF_ok _ _ _ _ _ _ (jg q0).2.1 (jg q0).2.2
theorem fmt18 (op : Int) (h : ze op ≠ 0) : ze op = 1 ∨ ze op = 2 ∨ ze op = 3 ∨ ze op = 4 ∨ ze op = 5 ∨ ze op = 6 ∨ ze op = 7 ∨ ze op = 8 ∨ ze op = 9 ∨ ze op = 10 ∨ ze op = 11 ∨ ze op = 12 ∨ ze op = 13 ∨ ze op = 14 ∨ ze op = 15 ∨ ze op = 16 ∨ ze op = 17 ∨ ze op = 18 := by
 have := fmtS_bd op; omega
end Go.Proofs.YteofmaiojepdkaaGreat
namespace Go.Proofs.YteofmaiojepdkaaGreat
open Go.RowKit
set_option maxHeartbeats 400000 in
theorem zG (n : Int) (h0 : 0 ≤ n) (h1 : n < 256) (w : World) :
  Calls Tryz.prog 114 #[.int .u8 n] w fun e w' => e = .returned (.int .u16 (zj n)) ∧ w = w' := by
 by_cases h : n < 128
 ·have e1 : zj n = n := by unfold zj; rw [if_pos h]
  rw [e1]
  go_enter Tryz.func114, Tryz.ntmps114
  go_wp2
  go_ret
  exact ⟨rfl, rfl⟩
 ·have e1 : zj n = 65280 + n := by unfold zj; rw [if_neg h]; omega
  rw [e1]
  have h' : 128 ≤ n := by omega
  have hw : IntKind.u16.wrap n = n := IntWalk.u16_in _ (by omega)
  have hw2 : IntKind.u16.wrap (65280 + n) = 65280 + n := IntWalk.u16_in _ (by omega)
  go_enter Tryz.func114, Tryz.ntmps114
  go_wp2
  go_ret
  exact ⟨rfl, rfl⟩
theorem infoI : (Tryz.prog.info? 3).map (fun i => (i.zero, i.size, i.bytes)) = some (some (.int .i64 0), 1, 8) := by kernel_rfl
theorem yP (n : Int) : bits .and .i64 n 65535 = n % 65536 := by
 have h15 : (BitVec.ofInt 64 65535).toNat = 2 ^ 16 - 1 := by decide
 have key : (BitVec.ofInt 64 n &&& BitVec.ofInt 64 65535).toNat = (n % ((2 ^ 64 : Nat) : Int)).toNat % 2 ^ 16 := by
  rw [BitVec.toNat_and, BitVec.toNat_ofInt, h15, Nat.and_two_pow_sub_one_eq_mod]
 show IntKind.i64.wrap ((BitVec.ofInt 64 n &&& BitVec.ofInt 64 65535).toNat : Nat) = n % 65536
 rw [key, IntKind.wrap_i64]
 omega
theorem i64_and63 (n : Int) : bits .and .i64 n 63 = n % 64 := by
 have h15 : (BitVec.ofInt 64 63).toNat = 2 ^ 6 - 1 := by decide
 have key : (BitVec.ofInt 64 n &&& BitVec.ofInt 64 63).toNat = (n % ((2 ^ 64 : Nat) : Int)).toNat % 2 ^ 6 := by
  rw [BitVec.toNat_and, BitVec.toNat_ofInt, h15, Nat.and_two_pow_sub_one_eq_mod]
 show IntKind.i64.wrap ((BitVec.ofInt 64 n &&& BitVec.ofInt 64 63).toNat : Nat) = n % 64
 rw [key, IntKind.wrap_i64]
 omega
theorem i64_and7 (n : Int) : bits .and .i64 n 7 = n % 8 := by
 have h15 : (BitVec.ofInt 64 7).toNat = 2 ^ 3 - 1 := by decide
 have key : (BitVec.ofInt 64 n &&& BitVec.ofInt 64 7).toNat = (n % ((2 ^ 64 : Nat) : Int)).toNat % 2 ^ 3 := by
  rw [BitVec.toNat_and, BitVec.toNat_ofInt, h15, Nat.and_two_pow_sub_one_eq_mod]
 show IntKind.i64.wrap ((BitVec.ofInt 64 n &&& BitVec.ofInt 64 7).toNat : Nat) = n % 8
 rw [key, IntKind.wrap_i64]
 omega
structure MRel (q0 q1 q2 q3 q4 : Int) (k : Nat) (v : Value) (w0 w : World) : Prop where
 own : w.ownsRow (w0.heap.size + 2) 3 1 v (ji k).length ((ji k).map vi)
 h0 : w.heap[w0.heap.size]? = some (.cells #[.int .i64 q0, .int .i64 q1, .int .i64 q2, .int .i64 q3, .int .i64 q4] 196 (0, 0))
 h1 : w.heap[w0.heap.size + 1]? = some (.cells #[.int .i64 0, .int .i64 0, .int .i64 0, .int .u16 0, .int .u16 0, .int .i64 0, .int .i64 0] 53 (0, 0))
 hb : Below w0.heap.size w0 w
 z : w0.heap.size + 2 ≤ w.heap.size
section
variable {q0 q1 q2 q3 q4 : Int} {k : Nat} {v v' : Value} {w0 w w1 w2 : World}
theorem MRel.stay (h : MRel q0 q1 q2 q3 q4 k v w0 w) (hb : Below w.heap.size w w1) : MRel q0 q1 q2 q3 q4 k v w0 w1 :=
 ⟨xO h.own hb, (hb.block _ (by have := h.z; omega)).trans h.h0, (hb.block _ (by have := h.z; omega)).trans h.h1, h.hb.trans (hb.mono h.hb.size), Nat.le_trans h.z hb.size⟩
theorem MRel.skip (h : MRel q0 q1 q2 q3 q4 k v w0 w) (hf : (ze (k : Int) != 0) = false) : MRel q0 q1 q2 q3 q4 (k + 1) v w0 w := by
 refine ⟨?_, h.h0, h.h1, h.hb, h.z⟩
 rw [opsTo_no k hf]; exact h.own
theorem MRel.more (h : MRel q0 q1 q2 q3 q4 k v w0 w) (hf : (ze (k : Int) != 0) = true) (hb : Below w.heap.size w w1) (hg : w1.grownBy w2 v.ownBlock)
  (hown : w2.ownsRow (w0.heap.size + 2) 3 1 v' ((ji k).length + 1) ((ji k).map vi ++ [vi k])) : MRel q0 q1 q2 q3 q4 (k + 1) v' w0 w2 := by
 have h' := h.stay hb
 have hl := h'.own.lt
 have hz := h'.z
 have hbl : ∀ b, b < w0.heap.size + 2 → w2.heap[b]? = w1.heap[b]? := fun b hb => hg.block b (by omega) (fun e => by have := (hl b e.symm).1; omega)
 refine ⟨?_, (hbl _ (by omega)).trans h'.h0, (hbl _ (by omega)).trans h'.h1, ?_, by have := hg.size; omega⟩
 ·rw [opsTo_yes k hf, List.length_append, List.map_append]; exact hown
 ·refine h'.hb.grown hg (by omega) (fun k hk => ?_)
  have := (hl k hk).1
  omega
end
end Go.Proofs.YteofmaiojepdkaaGreat
namespace Go.Proofs.YteofmaiojepdkaaGreat
open Go.RowKit
set_option maxHeartbeats 1000000 in
theorem xi (s : ByteArray) (k : Nat) (h : k + 1 < s.size) (hm : s.size ≤ 9223372036854775807) (kk : Int) (hk : kk = k) (w : World) :
  Calls Tryz.prog 115 #[.string s, .int .i64 kk] w fun e w' => e = .returned (.int .u16 (byt s k + 256 * byt s (k + 1))) ∧ Below w.heap.size w w' := by
 have ix : ∀ W, (Instr.index 9 (.string s) (.int .i64 kk)).run Tryz.prog W = .ok (.int .u8 (byt s k)) W := by subst hk; exact zk s k (by omega)
 have hkw : IntKind.i64.wrap (kk + 1) = kk + 1 := IntWalk.i64_in _ (by omega)
 have ix1 : ∀ W, (Instr.index 9 (.string s) (.int .i64 (kk + 1))).run Tryz.prog W = .ok (.int .u8 (byt s (k + 1))) W := by
  subst hk; have := zk s (k + 1) h; simpa using this
 obtain ⟨b0, b1⟩ := zH s k
 obtain ⟨c0, c1⟩ := zH s (k + 1)
 have k0 : 0 ≤ kk := by omega
 have k1 : kk ≤ 9223372036854775805 := by omega
 clear hk h hm
 generalize byt s k = x at *
 generalize byt s (k + 1) = y at *
 have h1 : IntKind.u16.wrap x = x := IntWalk.u16_in _ (by omega)
 have h2 : IntKind.u16.wrap y = y := IntWalk.u16_in _ (by omega)
 have h3 : IntKind.u16.wrap (256 * y) = 256 * y := IntWalk.u16_in _ (by omega)
 have h4 : IntKind.u16.wrap (x + 256 * y) = x + 256 * y := IntWalk.u16_in _ (by omega)
 go_enter Tryz.func115, Tryz.ntmps115
 go_upto_region 1 with fail
 go_quiet (fail)
 go_wp2
 go_ret
 exact ⟨rfl, rfl, rfl, rfl, zn _, fun _ _ => rfl⟩
def RFCut (s : ByteArray) (w : World) (v : Value) (w' : World) : Prop :=
 ∃ g, v = .pointer (some ⟨g, 0, none⟩) ∧ w'.heap[g]? = some (.cells #[Value.int .i64 (byt s 0), .int .i64 0, .int .i64 0, .int .u16 0, .int .u16 0, .int .i64 0, .int .i64 (zc (byt s 0))] 53 (0, 0)) ∧ w'.heap[w.heap.size]? = some (.cells #[Value.int .i64 0, .int .i64 0, .int .i64 0, .int .u16 0, .int .u16 0, .int .i64 0, .int .i64 0] 53 (0, 0)) ∧ w.heap.size < g ∧ g < w'.heap.size ∧ Below w.heap.size w w'
theorem RFCut.mk' {s w g w' W} (hW : w.alloc (.cells #[Value.int .i64 0, .int .i64 0, .int .i64 0, .int .u16 0, .int .u16 0, .int .i64 0, .int .i64 0] 53) = W) (h1 : w'.heap[g]? = some (.cells #[Value.int .i64 (byt s 0), .int .i64 0, .int .i64 0, .int .u16 0, .int .u16 0, .int .i64 0, .int .i64 (zc (byt s 0))] 53 (0, 0))) (h2 : w.heap.size < g) (h3 : g < w'.heap.size) (hb : Below (w.heap.size + 1) W w') : RFCut s w (.pointer (some ⟨g, 0, none⟩)) w' := by
 subst hW
 refine ⟨g, rfl, h1, ?_, h2, h3, ((Below.refl _ _).alloc (zn _) _).trans (hb.mono (by omega))⟩
 rw [hb.block _ (by omega)]; exact heap_alloc_new _ _
end Go.Proofs.YteofmaiojepdkaaGreat
namespace Go.Proofs.YteofmaiojepdkaaGreat
open Go.RowKit
set_option maxRecDepth 100000 in
set_option maxHeartbeats 20000000 in
theorem rfields_g0 (s : ByteArray) (hf : (ze (byt s 0) = 1 ∧ 1 ≤ s.size) ∨ (ze (byt s 0) = 2 ∧ 2 ≤ s.size) ∨ (ze (byt s 0) = 3 ∧ 2 ≤ s.size) ∨ (ze (byt s 0) = 4 ∧ 2 ≤ s.size) ∨ (ze (byt s 0) = 5 ∧ 3 ≤ s.size)) (hm : s.size ≤ 9223372036854775807) (w : World) :
  Calls Tryz.prog 84 #[.string s] w fun e w' => e = .returned (.agg (zd (rdF (ze (byt s 0)) (byt s) (byt s 0) (zc (byt s 0))))) ∧ Below w.heap.size w w' := by
 have ix : ∀ W, (Instr.index 9 (.string s) (.int .i64 0)).run Tryz.prog W = .ok (.int .u8 (byt s 0)) W := zk s 0 (by omega)
 obtain ⟨b0, b1⟩ := zH s 0
 have hw0 : IntKind.i64.wrap (byt s 0) = byt s 0 := IntWalk.i64_in _ (by omega)
 have HF := zh hf
 clear hf
 go_enter Tryz.func84, Tryz.ntmps84
 go_upto_region 1 with (fail)
 go_cut [3] (fun s3 wx => RFCut s w s3 wx)
 case first =>
  clear HF
  refine wp_region_noPanic ?_
  refine wp_region_held_drew (S := fun w' => True) (by kernel_rfl) trivial (fun hHeld => ?_)
  (refine tke 0 ?_)
  (refine tke 3 ?_)
  (refine tke 1 ?_)
  (refine tke 4 ?_)
  (refine tke 2 ?_)
  (refine wpAnyH_ready (rs := [5, 7]) (by kernel_rfl) (by simp) (AllReadyH.cons (o := _) rfl (fun K hK => ?_) (AllReadyH.cons (o := _) rfl (fun K hK => ?_) AllReadyH.nil)))
  ·rw [if_pos (by rfl)]
   go_simp
   refine (yf _ b0 b1 _).mono ?_
   rintro e w1 ⟨rfl, hb1⟩
   have hz := hb1.size
   simp at hz
   refine hK.out _ _ trivial (fun hHeld => ?_)
   (refine pts ?_)
   (refine tke 6 ?_)
   (refine wpAnyH_ready (rs := [7]) (by kernel_rfl) (by simp) (AllReadyH.cons (o := _) rfl (fun K hK => ?_) AllReadyH.nil))
   rw [if_pos (by rfl)]
   go_simp
   refine hK.out _ _ trivial (fun hHeld => ?_)
   (refine pts ?_)
   (refine wpAnyH_ready (rs := [8]) (by kernel_rfl) (by simp) (AllReadyH.cons (o := _) rfl (fun K hK => ?_) AllReadyH.nil))
   rw [if_pos (by rfl)]
   go_simp
   refine hK.out _ _ trivial (fun hHeld => wpAnyH_done (by kernel_rfl) ?_ _)
   (refine pts ?_)
   refine NoPanic.normal ?_
   go_wp2_with fail
   go_meet
   exact RFCut.mk' rfl (heap_alloc_new _ _) (by omega) (by simp) (((Below.refl _ _).drew.trans (hb1.mono (by simp))).alloc (by omega) _)
  ·rw [if_pos (by rfl)]
   go_simp
   refine hK.out _ _ trivial (fun hHeld => ?_)
   (refine pts ?_)
   (refine wpAnyH_ready (rs := [5]) (by kernel_rfl) (by simp) (AllReadyH.cons (o := _) rfl (fun K hK => ?_) AllReadyH.nil))
   rw [if_pos (by rfl)]
   go_simp
   refine (yf _ b0 b1 _).mono ?_
   rintro e w1 ⟨rfl, hb1⟩
   have hz := hb1.size
   simp at hz
   have hg1 : w1.heap[w.heap.size + 1]? = some (.cells #[Value.int .i64 0, .int .i64 0, .int .i64 0, .int .u16 0, .int .u16 0, .int .i64 0, .int .i64 0] 53 (0, 0)) := (hb1.block (w.heap.size + 1) (by simp <;> omega)).trans (xk _ _ (by simp))
   refine hK.out _ _ trivial (fun hHeld => ?_)
   (refine pts ?_)
   (refine tke 6 ?_)
   (refine wpAnyH_ready (rs := [8]) (by kernel_rfl) (by simp) (AllReadyH.cons (o := _) rfl (fun K hK => ?_) AllReadyH.nil))
   rw [if_pos (by rfl)]
   refine wp_store_row _ _ _ rfl (w.heap.size + 1) _ rfl rfl _ _ hg1 ?_ ?_ ?_ ?_
   ·kernel_rfl
   ·rfl
   ·kernel_rfl
   refine hK.out _ _ trivial (fun hHeld => wpAnyH_done (by kernel_rfl) ?_ _)
   (refine pts ?_)
   refine NoPanic.normal ?_
   go_wp2_with fail
   go_meet
   exact RFCut.mk' rfl (setRow_heap _ _ _ _ _ _ hg1) (by omega) (by simp <;> omega) (below_setRow (((Below.refl _ _).alloc (by simp) _).drew.trans (hb1.mono (by simp))) (zn _) _)
 case rest =>
  obtain ⟨g, rfl, hg, hr, hlt, hlt2, hb⟩ := hcut
  have hq := cell_of_row wc g 0 _ _ _ hg
  have RR := zh hg
  have SS := zh hr
  have TT := zh hb
  clear hg hr hb
  have hf := HF.out
  clear HF
  rcases hf with ⟨hf, hs⟩ | ⟨hf, hs⟩ | ⟨hf, hs⟩ | ⟨hf, hs⟩ | ⟨hf, hs⟩
  all_goals
   have HF := zh hf
   clear hf
   go_upto_region 3 with (first
    | (go_at_call 59; refine (yi _ _).mono ?_; rintro e w3 ⟨rfl, hb3⟩; rw [HF.out]; have hz3 := hb3.size; replace RR := zh ((hb3.block g hlt2).trans RR.out); replace SS := zh ((hb3.block w.heap.size (by omega)).trans SS.out); replace TT := zh (TT.out.trans (hb3.mono TT.out.size)); clear hb3 hq))
   have hlt3 : g < w3.heap.size := by omega
   have hne : w.heap.size ≠ g := by omega
   have hle : w.heap.size ≤ g := by omega
   clear hz3 hlt2
   have hcz : ∀ j, w3.cell? ⟨g, j, none⟩ = (#[Value.int .i64 (byt s 0), .int .i64 0, .int .i64 0, .int .u16 0, .int .u16 0, .int .i64 0, .int .i64 (zc (byt s 0))] : Array Value)[j]? := fun j => cell_of_row w3 g j _ _ _ RR.out
   have hfz : ∀ j, w3.frozen? ⟨g, j, none⟩ = false := fun j => frozen_of_row w3 g j _ _ RR.out
  ·go_upto_region 52 with (first | (go_at_call 114; refine (zG _ (by omega) (by omega) _).mono ?_; rintro e ww ⟨rfl, rfl⟩))
   go_wp2_with (first
    | (refine wpList_load_row rfl _ (.tmp 3) rfl _ rfl _ #[.int .i64 (byt s 0), .int .i64 0, .int .i64 0, .int .u16 0, .int .u16 0, .int .i64 0, .int .i64 (zc (byt s 0))] _ _ RR.out Tryz.underlying53 rfl ?_ ?_; kernel_rfl)
    | (refine wpList_store_row rfl _ (.tmp 2) _ rfl _ #[.int .i64 (byt s 0), .int .i64 0, .int .i64 0, .int .u16 0, .int .u16 0, .int .i64 0, .int .i64 (zc (byt s 0))] rfl rfl _ _ SS.out ?_ ?_ ?_ ?_; kernel_rfl; rfl; kernel_rfl))
   refine bodyPost_ret (results_cell_row (cs := #[.int .i64 (byt s 0), .int .i64 0, .int .i64 0, .int .u16 0, .int .u16 0, .int .i64 0, .int .i64 (zc (byt s 0))]) (fr := (0, 0)) rfl _ _ w.heap.size 53 _ rfl (setRow_heap _ _ _ _ _ _ SS.out) (Tryz.underlying53) rfl (by kernel_rfl)) rfl ⟨?_, below_setRow TT.out (zn _) _⟩
   rw [HF.out]
   first | rfl | simp [rdF, zd, vi, vw]
  ·have ix1 : ∀ W, (Instr.index 9 (.string s) (.int .i64 1)).run Tryz.prog W = .ok (.int .u8 (byt s 1)) W := zk s 1 (by omega)
   obtain ⟨c1, d1⟩ := zH s 1
   have hx1 : IntKind.i64.wrap (byt s 1) = byt s 1 := IntWalk.i64_in _ (by omega)
   have hy1 : IntKind.u16.wrap (byt s 1) = byt s 1 := IntWalk.u16_in _ (by omega)
   go_upto_region 52 with (first | (go_at_call 114; refine (zG _ (by omega) (by omega) _).mono ?_; rintro e ww ⟨rfl, rfl⟩))
   have r0 := RR.out
   have s0 := SS.out
   have t0 := TT.out
   have r1 := heap_setCell_same _ g 1 _ _ (.int .i64 (byt s 1)) r0
   have s1 := (heap_setCell_other _ ⟨g, 1, none⟩ w.heap.size (.int .i64 (byt s 1)) hne).trans s0
   have t1 := t0.setCell (p := ⟨g, 1, none⟩) hle (.int .i64 (byt s 1))
   have rr : _ = some (Obj.cells #[.int .i64 (byt s 0), .int .i64 (byt s 1), .int .i64 0, .int .u16 0, .int .u16 0, .int .i64 0, .int .i64 (zc (byt s 0))] 53 (0, 0)) := r1
   replace RR := zh rr
   replace SS := zh s1
   replace TT := zh t1
   clear rr r0 s0 t0 r1 s1 t1
   go_wp2_with (first
    | (refine wpList_load_row rfl _ (.tmp 3) rfl _ rfl _ #[.int .i64 (byt s 0), .int .i64 (byt s 1), .int .i64 0, .int .u16 0, .int .u16 0, .int .i64 0, .int .i64 (zc (byt s 0))] _ _ RR.out Tryz.underlying53 rfl ?_ ?_; kernel_rfl)
    | (refine wpList_store_row rfl _ (.tmp 2) _ rfl _ #[.int .i64 (byt s 0), .int .i64 (byt s 1), .int .i64 0, .int .u16 0, .int .u16 0, .int .i64 0, .int .i64 (zc (byt s 0))] rfl rfl _ _ SS.out ?_ ?_ ?_ ?_; kernel_rfl; rfl; kernel_rfl))
   refine bodyPost_ret (results_cell_row (cs := #[.int .i64 (byt s 0), .int .i64 (byt s 1), .int .i64 0, .int .u16 0, .int .u16 0, .int .i64 0, .int .i64 (zc (byt s 0))]) (fr := (0, 0)) rfl _ _ w.heap.size 53 _ rfl (setRow_heap _ _ _ _ _ _ SS.out) (Tryz.underlying53) rfl (by kernel_rfl)) rfl ⟨?_, below_setRow TT.out (zn _) _⟩
   rw [HF.out]
   first | rfl | simp [rdF, zd, vi, vw]
  ·have ix1 : ∀ W, (Instr.index 9 (.string s) (.int .i64 1)).run Tryz.prog W = .ok (.int .u8 (byt s 1)) W := zk s 1 (by omega)
   obtain ⟨c1, d1⟩ := zH s 1
   have hx1 : IntKind.i64.wrap (byt s 1) = byt s 1 := IntWalk.i64_in _ (by omega)
   have hy1 : IntKind.u16.wrap (byt s 1) = byt s 1 := IntWalk.u16_in _ (by omega)
   go_upto_region 52 with (first | (go_at_call 114; refine (zG _ (by omega) (by omega) _).mono ?_; rintro e ww ⟨rfl, rfl⟩))
   have r0 := RR.out
   have s0 := SS.out
   have t0 := TT.out
   have r1 := heap_setCell_same _ g 3 _ _ (.int .u16 (byt s 1)) r0
   have s1 := (heap_setCell_other _ ⟨g, 3, none⟩ w.heap.size (.int .u16 (byt s 1)) hne).trans s0
   have t1 := t0.setCell (p := ⟨g, 3, none⟩) hle (.int .u16 (byt s 1))
   have rr : _ = some (Obj.cells #[.int .i64 (byt s 0), .int .i64 0, .int .i64 0, .int .u16 (byt s 1), .int .u16 0, .int .i64 0, .int .i64 (zc (byt s 0))] 53 (0, 0)) := r1
   replace RR := zh rr
   replace SS := zh s1
   replace TT := zh t1
   clear rr r0 s0 t0 r1 s1 t1
   go_wp2_with (first
    | (refine wpList_load_row rfl _ (.tmp 3) rfl _ rfl _ #[.int .i64 (byt s 0), .int .i64 0, .int .i64 0, .int .u16 (byt s 1), .int .u16 0, .int .i64 0, .int .i64 (zc (byt s 0))] _ _ RR.out Tryz.underlying53 rfl ?_ ?_; kernel_rfl)
    | (refine wpList_store_row rfl _ (.tmp 2) _ rfl _ #[.int .i64 (byt s 0), .int .i64 0, .int .i64 0, .int .u16 (byt s 1), .int .u16 0, .int .i64 0, .int .i64 (zc (byt s 0))] rfl rfl _ _ SS.out ?_ ?_ ?_ ?_; kernel_rfl; rfl; kernel_rfl))
   refine bodyPost_ret (results_cell_row (cs := #[.int .i64 (byt s 0), .int .i64 0, .int .i64 0, .int .u16 (byt s 1), .int .u16 0, .int .i64 0, .int .i64 (zc (byt s 0))]) (fr := (0, 0)) rfl _ _ w.heap.size 53 _ rfl (setRow_heap _ _ _ _ _ _ SS.out) (Tryz.underlying53) rfl (by kernel_rfl)) rfl ⟨?_, below_setRow TT.out (zn _) _⟩
   rw [HF.out]
   first | rfl | simp [rdF, zd, vi, vw]
  ·have ix1 : ∀ W, (Instr.index 9 (.string s) (.int .i64 1)).run Tryz.prog W = .ok (.int .u8 (byt s 1)) W := zk s 1 (by omega)
   obtain ⟨c1, d1⟩ := zH s 1
   have hx1 : IntKind.i64.wrap (byt s 1) = byt s 1 := IntWalk.i64_in _ (by omega)
   have hy1 : IntKind.u16.wrap (byt s 1) = byt s 1 := IntWalk.u16_in _ (by omega)
   have hx9 : (byt s 1).tdiv 16 = byt s 1 / 16 := Int.tdiv_eq_ediv_of_nonneg (by omega)
   have hxa : IntKind.u8.wrap (byt s 1 / 16) = byt s 1 / 16 := IntWalk.u8_in _ (by omega)
   have hx7 : IntKind.i64.wrap (byt s 1 / 16) = byt s 1 / 16 := IntWalk.i64_in _ (by omega)
   have hx8 : IntKind.i64.wrap (byt s 1 % 16) = byt s 1 % 16 := IntWalk.i64_in _ (by omega)
   go_upto_region 52 with (first | (go_at_call 114; refine (zG _ (by omega) (by omega) _).mono ?_; rintro e ww ⟨rfl, rfl⟩))
   have r0 := RR.out
   have s0 := SS.out
   have t0 := TT.out
   have r1 := heap_setCell_same _ g 1 _ _ (.int .i64 (byt s 1 / 16)) r0
   have s1 := (heap_setCell_other _ ⟨g, 1, none⟩ w.heap.size (.int .i64 (byt s 1 / 16)) hne).trans s0
   have t1 := t0.setCell (p := ⟨g, 1, none⟩) hle (.int .i64 (byt s 1 / 16))
   have r2 := heap_setCell_same _ g 2 _ _ (.int .i64 (byt s 1 % 16)) r1
   have s2 := (heap_setCell_other _ ⟨g, 2, none⟩ w.heap.size (.int .i64 (byt s 1 % 16)) hne).trans s1
   have t2 := t1.setCell (p := ⟨g, 2, none⟩) hle (.int .i64 (byt s 1 % 16))
   have rr : _ = some (Obj.cells #[.int .i64 (byt s 0), .int .i64 (byt s 1 / 16), .int .i64 (byt s 1 % 16), .int .u16 0, .int .u16 0, .int .i64 0, .int .i64 (zc (byt s 0))] 53 (0, 0)) := r2
   replace RR := zh rr
   replace SS := zh s2
   replace TT := zh t2
   clear rr r0 s0 t0 r1 s1 t1 r2 s2 t2
   go_wp2_with (first
    | (refine wpList_load_row rfl _ (.tmp 3) rfl _ rfl _ #[.int .i64 (byt s 0), .int .i64 (byt s 1 / 16), .int .i64 (byt s 1 % 16), .int .u16 0, .int .u16 0, .int .i64 0, .int .i64 (zc (byt s 0))] _ _ RR.out Tryz.underlying53 rfl ?_ ?_; kernel_rfl)
    | (refine wpList_store_row rfl _ (.tmp 2) _ rfl _ #[.int .i64 (byt s 0), .int .i64 (byt s 1 / 16), .int .i64 (byt s 1 % 16), .int .u16 0, .int .u16 0, .int .i64 0, .int .i64 (zc (byt s 0))] rfl rfl _ _ SS.out ?_ ?_ ?_ ?_; kernel_rfl; rfl; kernel_rfl))
   refine bodyPost_ret (results_cell_row (cs := #[.int .i64 (byt s 0), .int .i64 (byt s 1 / 16), .int .i64 (byt s 1 % 16), .int .u16 0, .int .u16 0, .int .i64 0, .int .i64 (zc (byt s 0))]) (fr := (0, 0)) rfl _ _ w.heap.size 53 _ rfl (setRow_heap _ _ _ _ _ _ SS.out) (Tryz.underlying53) rfl (by kernel_rfl)) rfl ⟨?_, below_setRow TT.out (zn _) _⟩
   rw [HF.out]
   first | rfl | simp [rdF, zd, vi, vw]
  ·have ix1 : ∀ W, (Instr.index 9 (.string s) (.int .i64 1)).run Tryz.prog W = .ok (.int .u8 (byt s 1)) W := zk s 1 (by omega)
   obtain ⟨c1, d1⟩ := zH s 1
   have ix2 : ∀ W, (Instr.index 9 (.string s) (.int .i64 2)).run Tryz.prog W = .ok (.int .u8 (byt s 2)) W := zk s 2 (by omega)
   obtain ⟨c2, d2⟩ := zH s 2
   have hx1 : IntKind.i64.wrap (byt s 1) = byt s 1 := IntWalk.i64_in _ (by omega)
   have hy1 : IntKind.u16.wrap (byt s 1) = byt s 1 := IntWalk.u16_in _ (by omega)
   have hx2 : IntKind.i64.wrap (byt s 2) = byt s 2 := IntWalk.i64_in _ (by omega)
   have hy2 : IntKind.u16.wrap (byt s 2) = byt s 2 := IntWalk.u16_in _ (by omega)
   go_upto_region 52 with (first | (go_at_call 114; refine (zG _ (by omega) (by omega) _).mono ?_; rintro e ww ⟨rfl, rfl⟩))
   have r0 := RR.out
   have s0 := SS.out
   have t0 := TT.out
   have r1 := heap_setCell_same _ g 1 _ _ (.int .i64 (byt s 1)) r0
   have s1 := (heap_setCell_other _ ⟨g, 1, none⟩ w.heap.size (.int .i64 (byt s 1)) hne).trans s0
   have t1 := t0.setCell (p := ⟨g, 1, none⟩) hle (.int .i64 (byt s 1))
   have r2 := heap_setCell_same _ g 3 _ _ (.int .u16 (zj (byt s 2))) r1
   have s2 := (heap_setCell_other _ ⟨g, 3, none⟩ w.heap.size (.int .u16 (zj (byt s 2))) hne).trans s1
   have t2 := t1.setCell (p := ⟨g, 3, none⟩) hle (.int .u16 (zj (byt s 2)))
   have rr : _ = some (Obj.cells #[.int .i64 (byt s 0), .int .i64 (byt s 1), .int .i64 0, .int .u16 (zj (byt s 2)), .int .u16 0, .int .i64 0, .int .i64 (zc (byt s 0))] 53 (0, 0)) := r2
   replace RR := zh rr
   replace SS := zh s2
   replace TT := zh t2
   clear rr r0 s0 t0 r1 s1 t1 r2 s2 t2
   go_wp2_with (first
    | (refine wpList_load_row rfl _ (.tmp 3) rfl _ rfl _ #[.int .i64 (byt s 0), .int .i64 (byt s 1), .int .i64 0, .int .u16 (zj (byt s 2)), .int .u16 0, .int .i64 0, .int .i64 (zc (byt s 0))] _ _ RR.out Tryz.underlying53 rfl ?_ ?_; kernel_rfl)
    | (refine wpList_store_row rfl _ (.tmp 2) _ rfl _ #[.int .i64 (byt s 0), .int .i64 (byt s 1), .int .i64 0, .int .u16 (zj (byt s 2)), .int .u16 0, .int .i64 0, .int .i64 (zc (byt s 0))] rfl rfl _ _ SS.out ?_ ?_ ?_ ?_; kernel_rfl; rfl; kernel_rfl))
   refine bodyPost_ret (results_cell_row (cs := #[.int .i64 (byt s 0), .int .i64 (byt s 1), .int .i64 0, .int .u16 (zj (byt s 2)), .int .u16 0, .int .i64 0, .int .i64 (zc (byt s 0))]) (fr := (0, 0)) rfl _ _ w.heap.size 53 _ rfl (setRow_heap _ _ _ _ _ _ SS.out) (Tryz.underlying53) rfl (by kernel_rfl)) rfl ⟨?_, below_setRow TT.out (zn _) _⟩
   rw [HF.out]
   first | rfl | simp [rdF, zd, vi, vw]
end Go.Proofs.YteofmaiojepdkaaGreat
