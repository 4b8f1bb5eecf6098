/- Made of the reference, walked: formats 1, 2, 3, 4, 5. No condition. -/
import Derived.Test.YthebmoggbgldmaaLaRefD
import Derived.Deep.AppendLies
set_option linter.all false
namespace Go.Proofs.Ythebmoggbgldmaa
open Go.RowKit
theorem rv_at (i : Ins) (hi : i.Ok) (f : Int) (hf : zw i.op = f) (hne : f ≠ 0) : zQ i = ((i.size == xG.getD f.toNat 0) && yi f i) := by
 rw [yR i hi]
 unfold zR zp
 rw [hf]
 have : (f == 0) = false := by simpa using hne
 rw [this]
 rfl
end Go.Proofs.Ythebmoggbgldmaa
namespace Go.Proofs.Ythebmoggbgldmaa
open Go.RowKit
def jR (k : Nat) : List Int := ((List.range k).filter (fun n : Nat => zw (n : Int) != 0)).map (fun n : Nat => (n : Int))
theorem opsTo_yes (k : Nat) (h : (zw (k : Int) != 0) = true) : jR (k + 1) = jR k ++ [(k : Int)] := by
 unfold jR
 rw [List.range_succ, List.filter_append, List.map_append]
 simp [List.filter_cons, h]
theorem opsTo_no (k : Nat) (h : (zw (k : Int) != 0) = false) : jR (k + 1) = jR k := by
 unfold jR
 rw [List.range_succ, List.filter_append, List.map_append]
 simp [List.filter_cons, h]
theorem opsTo_le (k : Nat) : (jR k).length ≤ k := by
 unfold jR
 rw [List.length_map]
 exact Nat.le_trans (List.length_filter_le _ _) (by simp)
theorem opsAll_len : (jR 164).length = 113 := by decide +kernel
def opAt (m : Nat) : Int := (jR 164).getD m 0
theorem opAt_fmt : ∀ m : Nat, m < 113 → zw (opAt m) ≠ 0 ∧ 0 ≤ opAt m ∧ opAt m ≤ 163 := by decide +kernel
theorem opAt_get (m : Nat) (h : m < 113) : (jR 164)[m]? = some (opAt m) := by
 unfold opAt
 have : m < (jR 164).length := by rw [opsAll_len]; exact h
 simp [List.getD_eq_getElem?_getD, List.getElem?_eq_getElem this]
def mkD (f : Int) : Bool := f = 2 ∨ f = 5 ∨ f = 6 ∨ f = 9 ∨ f = 13 ∨ f = 14 ∨ f = 15 ∨ f = 18 ∨ f = 4 ∨ f = 7 ∨ f = 8 ∨ f = 16
def mkS (f : Int) : Bool := f = 4 ∨ f = 7 ∨ f = 8 ∨ f = 16 ∨ f = 17
def mkI (f v : Int) : Int := if f = 3 ∨ f = 15 then v % 256 else if f = 5 ∨ f = 7 ∨ f = 10 ∨ f = 18 then zM (v % 256) else if f = 6 ∨ f = 8 ∨ f = 9 ∨ f = 11 ∨ f = 12 ∨ f = 13 ∨ f = 14 ∨ f = 16 ∨ f = 17 then v else 0
def x7 (f op q1 q2 q3 q4 : Int) : Ins :=
 ⟨op, if mkD f then q1 % 8 else 0, if mkS f then q2 % 8 else 0, mkI f (q3 % 65536),
 if f = 13 then q2 % 65536 else if f = 17 then q4 % 65536 else 0,
 if f = 12 ∨ f = 16 then q4 % 64 else if f = 13 then 1 + q4 % 65536 % 255 else 0, zp op⟩
def yG (q0 : Int) : Int := opAt (q0 % 65536 % 113).toNat
def madeS (q0 q1 q2 q3 q4 : Int) : Ins := x7 (zw (yG q0)) (yG q0) q1 q2 q3 q4
theorem jp (q0 : Int) : zw (yG q0) ≠ 0 ∧ 0 ≤ yG q0 ∧ yG q0 ≤ 163 := opAt_fmt _ (by omega)
theorem mk_size_bd (op : Int) : 0 ≤ zp op ∧ zp op ≤ 7 := by
 have h := fmtS_bd op
 unfold zp
 have : ∀ n : Nat, n ≤ 18 → 0 ≤ xG.getD n 0 ∧ xG.getD n 0 ≤ 7 := by decide +kernel
 exact this _ (by omega)
theorem mkI_bd (f v : Int) (h0 : 0 ≤ v) (h1 : v < 65536) : 0 ≤ mkI f v ∧ mkI f v < 65536 := by
 unfold mkI zM; repeat' split
 all_goals omega
theorem madeF_ok (f op q1 q2 q3 q4 : Int) (h0 : 0 ≤ op) (h1 : op ≤ 163) : (x7 f op q1 q2 q3 q4).Ok := by
 have hi := mkI_bd f (q3 % 65536) (by omega) (by omega)
 have hr := mk_size_bd op
 have hd : 0 ≤ (if mkD f then q1 % 8 else 0) ∧ (if mkD f then q1 % 8 else 0) < 8 := by split <;> omega
 have hs : 0 ≤ (if mkS f then q2 % 8 else 0) ∧ (if mkS f then q2 % 8 else 0) < 8 := by split <;> omega
 have ha : 0 ≤ (if f = 13 then q2 % 65536 else if f = 17 then q4 % 65536 else 0) ∧ (if f = 13 then q2 % 65536 else if f = 17 then q4 % 65536 else 0) < 65536 := by
  repeat' split
  all_goals omega
 have hb : 0 ≤ (if f = 12 ∨ f = 16 then q4 % 64 else if f = 13 then 1 + q4 % 65536 % 255 else 0) ∧ (if f = 12 ∨ f = 16 then q4 % 64 else if f = 13 then 1 + q4 % 65536 % 255 else 0) < 256 := by
  repeat' split
  all_goals omega
 have k : ∀ x : Int, 0 ≤ x → x < 65536 → zX x := fun x h0 h1 => ⟨by omega, by omega⟩
 exact ⟨k _ h0 (by show op < 65536; omega), k _ hd.1 (Int.lt_trans hd.2 (by decide)), k _ hs.1 (Int.lt_trans hs.2 (by decide)), hi, ha, k _ hb.1 (Int.lt_trans hb.2 (by decide)), k _ hr.1 (by show zp op < 65536; omega)⟩
theorem made_ok (q0 q1 q2 q3 q4 : Int) : (madeS q0 q1 q2 q3 q4).Ok := madeF_ok _ _ _ _ _ _ (jp q0).2.1 (jp q0).2.2
theorem sgnB_ext (v : Int) (h0 : 0 ≤ v) (h1 : v < 256) : xt (zM v) = true := by
 unfold xt zM; split <;> simp <;> omega
theorem fmt18 (op : Int) (h : zw op ≠ 0) : zw op = 1 ∨ zw op = 2 ∨ zw op = 3 ∨ zw op = 4 ∨ zw op = 5 ∨ zw op = 6 ∨ zw op = 7 ∨ zw op = 8 ∨ zw op = 9 ∨ zw op = 10 ∨ zw op = 11 ∨ zw op = 12 ∨ zw op = 13 ∨ zw op = 14 ∨ zw op = 15 ∨ zw op = 16 ∨ zw op = 17 ∨ zw op = 18 := by
 have := fmtS_bd op; omega
theorem madeF_valid (f op q1 q2 q3 q4 : Int) (hf : zw op = f) (hn : f ≠ 0) : zQ (x7 f op q1 q2 q3 q4) = true := by
 have ho := jS (op := op) (by rw [hf]; exact hn)
 rw [rv_at _ (madeF_ok f op q1 q2 q3 q4 ho.1 ho.2) f hf hn]
 have hr : xG.getD f.toNat 0 = zp op := by unfold zp; rw [hf]
 have hx := sgnB_ext (q3 % 256) (by omega) (by omega)
 rw [hr]
 have h18 := fmt18 op (by rw [hf]; exact hn)
 rw [hf] at h18
 rcases h18 with h | h | h | h | h | h | h | h | h | h | h | h | h | h | h | h | h | h <;> (subst h; simp [x7, mkD, mkS, mkI, yi, yz, hx] <;> omega)
theorem made_valid (q0 q1 q2 q3 q4 : Int) : zQ (madeS q0 q1 q2 q3 q4) = true := madeF_valid _ _ _ _ _ _ rfl (jp q0).1
end Go.Proofs.Ythebmoggbgldmaa
namespace Go.Proofs.Ythebmoggbgldmaa
open Go.RowKit
set_option maxHeartbeats 400000 in
theorem z8 (n : Int) (h0 : 0 ≤ n) (h1 : n < 256) (w : World) :
  Calls Try.prog 74 #[.int .u8 n] w fun e w' => e = .returned (.int .u16 (zM n)) ∧ w = w' := by
 by_cases h : n < 128
 ·have e1 : zM n = n := by unfold zM; rw [if_pos h]
  rw [e1]
  go_enter Try.func74, Try.ntmps74
  go_wp2
  go_ret
  exact ⟨rfl, rfl⟩
 ·have e1 : zM n = 65280 + n := by unfold zM; rw [if_neg h]; omega
  rw [e1]
  have h' : 128 ≤ n := by omega
  have hw : IntKind.u16.wrap n = n := IntWalk.u16_in _ (by omega)
  have hw2 : IntKind.u16.wrap (65280 + n) = 65280 + n := IntWalk.u16_in _ (by omega)
  go_enter Try.func74, Try.ntmps74
  go_wp2
  go_ret
  exact ⟨rfl, rfl⟩
theorem infoI : (Try.prog.info? 3).map (fun i => (i.zero, i.size, i.bytes)) = some (some (.int .i64 0), 1, 8) := by kernel_rfl
theorem xM (n : Int) : bits .and .i64 n 65535 = n % 65536 := by
 have h15 : (BitVec.ofInt 64 65535).toNat = 2 ^ 16 - 1 := by decide
 have key : (BitVec.ofInt 64 n &&& BitVec.ofInt 64 65535).toNat = (n % ((2 ^ 64 : Nat) : Int)).toNat % 2 ^ 16 := by
  rw [BitVec.toNat_and, BitVec.toNat_ofInt, h15, Nat.and_two_pow_sub_one_eq_mod]
 show IntKind.i64.wrap ((BitVec.ofInt 64 n &&& BitVec.ofInt 64 65535).toNat : Nat) = n % 65536
 rw [key, IntKind.wrap_i64]
 omega
theorem i64_and63 (n : Int) : bits .and .i64 n 63 = n % 64 := by
 have h15 : (BitVec.ofInt 64 63).toNat = 2 ^ 6 - 1 := by decide
 have key : (BitVec.ofInt 64 n &&& BitVec.ofInt 64 63).toNat = (n % ((2 ^ 64 : Nat) : Int)).toNat % 2 ^ 6 := by
  rw [BitVec.toNat_and, BitVec.toNat_ofInt, h15, Nat.and_two_pow_sub_one_eq_mod]
 show IntKind.i64.wrap ((BitVec.ofInt 64 n &&& BitVec.ofInt 64 63).toNat : Nat) = n % 64
 rw [key, IntKind.wrap_i64]
 omega
theorem i64_and7 (n : Int) : bits .and .i64 n 7 = n % 8 := by
 have h15 : (BitVec.ofInt 64 7).toNat = 2 ^ 3 - 1 := by decide
 have key : (BitVec.ofInt 64 n &&& BitVec.ofInt 64 7).toNat = (n % ((2 ^ 64 : Nat) : Int)).toNat % 2 ^ 3 := by
  rw [BitVec.toNat_and, BitVec.toNat_ofInt, h15, Nat.and_two_pow_sub_one_eq_mod]
 show IntKind.i64.wrap ((BitVec.ofInt 64 n &&& BitVec.ofInt 64 7).toNat : Nat) = n % 8
 rw [key, IntKind.wrap_i64]
 omega
structure MRel (q0 q1 q2 q3 q4 : Int) (k : Nat) (v : Value) (w0 w : World) : Prop where
 own : w.ownsRow (w0.heap.size + 2) 3 1 v (jR k).length ((jR k).map vi)
 h0 : w.heap[w0.heap.size]? = some (.cells #[.int .i64 q0, .int .i64 q1, .int .i64 q2, .int .i64 q3, .int .i64 q4] 70 (0, 0))
 h1 : w.heap[w0.heap.size + 1]? = some (.cells #[.int .i64 0, .int .i64 0, .int .i64 0, .int .u16 0, .int .u16 0, .int .i64 0, .int .i64 0] 53 (0, 0))
 hb : Below w0.heap.size w0 w
 z : w0.heap.size + 2 ≤ w.heap.size
section
variable {q0 q1 q2 q3 q4 : Int} {k : Nat} {v v' : Value} {w0 w w1 w2 : World}
theorem MRel.stay (h : MRel q0 q1 q2 q3 q4 k v w0 w) (hb : Below w.heap.size w w1) : MRel q0 q1 q2 q3 q4 k v w0 w1 :=
 ⟨xW h.own hb, (hb.block _ (by have := h.z; omega)).trans h.h0, (hb.block _ (by have := h.z; omega)).trans h.h1, h.hb.trans (hb.mono h.hb.size), Nat.le_trans h.z hb.size⟩
theorem MRel.skip (h : MRel q0 q1 q2 q3 q4 k v w0 w) (hf : (zw (k : Int) != 0) = false) : MRel q0 q1 q2 q3 q4 (k + 1) v w0 w := by
 refine ⟨?_, h.h0, h.h1, h.hb, h.z⟩
 rw [opsTo_no k hf]; exact h.own
theorem MRel.more (h : MRel q0 q1 q2 q3 q4 k v w0 w) (hf : (zw (k : Int) != 0) = true) (hb : Below w.heap.size w w1) (hg : w1.grownBy w2 v.ownBlock)
  (hown : w2.ownsRow (w0.heap.size + 2) 3 1 v' ((jR k).length + 1) ((jR k).map vi ++ [vi k])) : MRel q0 q1 q2 q3 q4 (k + 1) v' w0 w2 := by
 have h' := h.stay hb
 have hl := h'.own.lt
 have hz := h'.z
 have hbl : ∀ b, b < w0.heap.size + 2 → w2.heap[b]? = w1.heap[b]? := fun b hb => hg.block b (by omega) (fun e => by have := (hl b e.symm).1; omega)
 refine ⟨?_, (hbl _ (by omega)).trans h'.h0, (hbl _ (by omega)).trans h'.h1, ?_, by have := hg.size; omega⟩
 ·rw [opsTo_yes k hf, List.length_append, List.map_append]; exact hown
 ·refine h'.hb.grown hg (by omega) (fun k hk => ?_)
  have := (hl k hk).1
  omega
end
end Go.Proofs.Ythebmoggbgldmaa
namespace Go.Proofs.Ythebmoggbgldmaa
open Go.RowKit
set_option maxRecDepth 100000 in
set_option maxHeartbeats 20000000 in
theorem made_g0 (q0 q1 q2 q3 q4 : Int) (hf : zw (yG q0) = 1 ∨ zw (yG q0) = 2 ∨ zw (yG q0) = 3 ∨ zw (yG q0) = 4 ∨ zw (yG q0) = 5) (w : World) :
  Calls Try.prog 41 #[.agg #[.int .i64 q0, .int .i64 q1, .int .i64 q2, .int .i64 q3, .int .i64 q4]] w fun e w' => e = .returned (.agg (zt (madeS q0 q1 q2 q3 q4))) ∧ Below w.heap.size w w' := by
 obtain ⟨i3, hi3, iz0, iz1, iz2⟩ := info_parts infoI
 have e0 : madeS q0 q1 q2 q3 q4 = x7 (zw (yG q0)) (yG q0) q1 q2 q3 q4 := rfl
 obtain ⟨-, o0, o1⟩ := jp q0
 obtain ⟨m, hm⟩ : ∃ m : Nat, q0 % 65536 % 113 = m := ⟨(q0 % 65536 % 113).toNat, by omega⟩
 have hm1 : m < 113 := by omega
 have hget : (jR 164)[m]? = some (yG q0) := by
  rw [opAt_get m hm1]; unfold yG; rw [hm]; rfl
 generalize yG q0 = op at *
 have a1 := xM q0
 have HM := zh hm
 have HGET := zh hget
 have HF := zh hf
 have E0 := zh e0
 clear hm hget hf e0
 go_enter Try.func41, Try.ntmps41
 go_wp2
 go_loopw [3, 4] (fun v x wr => ∃ k : Nat, k ≤ 164 ∧ x = .int .i64 k ∧ MRel q0 q1 q2 q3 q4 k v w wr) (fun _ x _ => 164 - (intOf x).toNat)
 case atStart =>
  refine ⟨0, by omega, rfl, ⟨⟨rfl, .inl ⟨rfl, rfl⟩⟩, ?_, ?_, ((Below.refl _ _).alloc (zn _) _).alloc (by simp) _, by simp⟩⟩
  ·exact (heap_alloc_old _ _ (by simp)).trans (heap_alloc_new _ _)
  ·have := heap_alloc_new (w.alloc (.cells #[.int .i64 q0, .int .i64 q1, .int .i64 q2, .int .i64 q3, .int .i64 q4] 70)) (.cells #[.int .i64 0, .int .i64 0, .int .i64 0, .int .u16 0, .int .u16 0, .int .i64 0, .int .i64 0] 53)
   simpa using this
 case round =>
  obtain ⟨k, hk, rfl, hM⟩ := hrel
  by_cases hlt : k < 164
  ·have hz := hM.z
   have hol := opsTo_le k
   have HOWN := zh hM.own
   by_cases hfm : (zw (k : Int) != 0) = true
   ·have HFM := zh hfm
    go_wp2_with (first
     | (go_at_call 38; refine (yH _ _).mono ?_; rintro e w1 ⟨rfl, hb1⟩; have hz1 := hb1.size; have HOWNA := zh ((xW HOWN.out hb1).alloc (.cells #[.int .i64 k] 3)); have HLIT := zh (World.ownsRow_lit (base := w1.heap.size) (size := 1) (e := 3) w1 #[.int .i64 k] 1 (by simp) (by decide) rfl))
     | (at_builtin; go_must (refine yl rfl _ _ _ rfl (w.heap.size + 2) 3 i3 (.int .i64 0) 8 Try.underlying40 hi3 iz0 iz1 iz2 rfl _ _ _ rfl HOWNA.out _ _ _ _ rfl HLIT.out (by simp [Value.oneCell']) ?_ ?_ ?_ ?_); (unfold maxLen; omega); omega; (simp; omega); intro v4 w4 hown4 hg4; have HOWN4 := zh hown4; clear hown4))
    go_roundw
    case rel => exact ⟨k + 1, by omega, by go_num, hM.more HFM.out (hb1.alloc hb1.size _) hg4 HOWN4.out⟩
    case measure => simp [intOf]; omega
   ·have hfm : (zw (k : Int) != 0) = false := by simpa using hfm
    have HFM := zh hfm
    go_wp2_with (first
     | (go_at_call 38; refine (yH _ _).mono ?_; rintro e w1 ⟨rfl, hb1⟩))
    go_roundw
    case rel => exact ⟨k + 1, by omega, by go_num, (hM.skip HFM.out).stay hb1⟩
    case measure => simp [intOf]; omega
  ·have ek : k = 164 := by omega
   subst ek
   have hown := hM.own
   rw [opsAll_len] at hown
   obtain ⟨g, cap, rfl, hgb, hgl⟩ := hown.form (by decide)
   have hcg : wr.cell? ⟨g, m, none⟩ = some (.int .i64 op) := by
    rw [hown.cellAt m (by omega), List.getElem?_map, HGET.out]; rfl
   have hz := hM.z
   have H0 := zh hM.h0
   have hq := cell_of_row wr w.heap.size 0 _ _ _ H0.out
   have H1 := zh hM.h1
   have HBB := zh hM.hb
   clear hown hM
   have hm := HM.out
   go_upto_region 8 with fail
   clear hcg hq hm
   have hwu : IntKind.u8.wrap op = op := IntWalk.u8_in _ (by omega)
   go_upto_region 9 with (first
    | (refine wpList_store_row rfl _ _ _ rfl _ _ rfl rfl _ _ (heap_alloc_new _ _) ?_ ?_ ?_ ?_; kernel_rfl; rfl; kernel_rfl; rw [World.setRow_alloc_new])
    | (go_at_call 35; refine (yL op o0 (by omega) _).mono ?_; rintro e w2 ⟨rfl, hb2⟩; have hz2 := hb2.size))
   have HB2 := zh (heap_alloc_new w2 (.cells #[.int .i64 op, .int .i64 0, .int .i64 0, .int .u16 0, .int .u16 0, .int .i64 0, .int .i64 (zp op)] 53))
   have H0 := zh ((heap_alloc_old w2 (.cells #[.int .i64 op, .int .i64 0, .int .i64 0, .int .u16 0, .int .u16 0, .int .i64 0, .int .i64 (zp op)] 53) (by omega)).trans ((hb2.block _ (by omega)).trans H0.out))
   have H1 := zh ((heap_alloc_old w2 (.cells #[.int .i64 op, .int .i64 0, .int .i64 0, .int .u16 0, .int .u16 0, .int .i64 0, .int .i64 (zp op)] 53) (by omega)).trans ((hb2.block _ (by omega)).trans H1.out))
   have hq1 := cell_of_row _ w.heap.size 1 _ _ _ H0.out
   have hq2 := cell_of_row _ w.heap.size 2 _ _ _ H0.out
   have hq3 := cell_of_row _ w.heap.size 3 _ _ _ H0.out
   have a71 := i64_and7 q1
   have a72 := i64_and7 q2
   have hw3 : IntKind.u16.wrap q3 = q3 % 65536 := rfl
   have hf := HF.out
   clear HF
   rcases hf with hf | hf | hf | hf | hf
   all_goals
    have HF := zh hf
    clear hf
    go_upto_region 13 with (first
     | (go_at_call 38; refine (yH _ _).mono ?_; rintro e w3 ⟨rfl, hb3⟩; rw [HF.out]; have hz3 := hb3.size; simp at hz3))
    have HB3 := zh ((hb3.block w2.heap.size (by simp)).trans HB2.out)
    have H0 := zh ((hb3.block w.heap.size (by simp; omega)).trans H0.out)
    have H1 := zh ((hb3.block (w.heap.size + 1) (by simp; omega)).trans H1.out)
    clear hq1 hq2 hq3
    have hq2 := cell_of_row _ w.heap.size 2 _ _ _ H0.out
    have hq4 := cell_of_row _ w.heap.size 4 _ _ _ H0.out
    have hfz : ∀ j, w3.frozen? ⟨w2.heap.size, j, none⟩ = false := fun j => frozen_of_row w3 w2.heap.size j _ _ HB3.out
    have hcz : ∀ j, w3.cell? ⟨w2.heap.size, j, none⟩ = (#[Value.int .i64 op, .int .i64 0, .int .i64 0, .int .u16 0, .int .u16 0, .int .i64 0, .int .i64 (zp op)] : Array Value)[j]? := fun j => cell_of_row w3 w2.heap.size j _ _ _ HB3.out
    have a6 := i64_and63 q4
    have a65 := xM q4
    have hw8 : IntKind.u8.wrap (q3 % 65536) = q3 % 256 := by show q3 % 65536 % 256 = q3 % 256; omega
    have hw2 : IntKind.u16.wrap q2 = q2 % 65536 := rfl
    have hw4 : IntKind.u16.wrap q4 = q4 % 65536 := rfl
    have hbb : Below w.heap.size w w3 := (HBB.out.trans (hb2.mono (by omega))).trans ((Below.alloc (Below.refl _ _) (by omega) _).trans (hb3.mono (by simp; omega)))
    have HBB := zh hbb
    clear hbb hb3 hb2
    go_upto_region 59 with (first
     | (go_at_call 74; refine (z8 _ (by omega) (by omega) _).mono ?_; rintro e ww ⟨rfl, rfl⟩))
    have hne : w.heap.size + 1 ≠ w2.heap.size := by omega
    have hle : w.heap.size ≤ w2.heap.size := by omega
   ·have r0 := HB3.out
    have s0 := H1.out
    have t0 := HBB.out
    have rr : _ = some (Obj.cells #[.int .i64 op, .int .i64 0, .int .i64 0, .int .u16 0, .int .u16 0, .int .i64 0, .int .i64 (zp op)] 53 (0, 0)) := r0
    have RR := zh rr
    have SS := zh s0
    have TT := zh t0
    clear rr r0 s0 t0
    go_wp2_with (first
     | (refine wpList_load_row rfl _ (.tmp 6) rfl _ rfl _ #[.int .i64 op, .int .i64 0, .int .i64 0, .int .u16 0, .int .u16 0, .int .i64 0, .int .i64 (zp op)] _ _ RR.out Try.underlying53 rfl ?_ ?_; kernel_rfl)
     | (refine wpList_store_row rfl _ (.tmp 2) _ rfl _ #[.int .i64 op, .int .i64 0, .int .i64 0, .int .u16 0, .int .u16 0, .int .i64 0, .int .i64 (zp op)] rfl rfl _ _ SS.out ?_ ?_ ?_ ?_; kernel_rfl; rfl; kernel_rfl))
    refine bodyPost_ret (results_cell_row (cs := #[.int .i64 op, .int .i64 0, .int .i64 0, .int .u16 0, .int .u16 0, .int .i64 0, .int .i64 (zp op)]) (fr := (0, 0)) rfl _ _ (w.heap.size + 1) 53 _ rfl (setRow_heap _ _ _ _ _ _ SS.out) (Try.underlying53) rfl (by kernel_rfl)) rfl ⟨?_, below_setRow TT.out (by omega) _⟩
    rw [E0.out, HF.out]
    first | rfl | simp [x7, mkD, mkS, mkI, zt, vi, vw]
   ·have r0 := HB3.out
    have s0 := H1.out
    have t0 := HBB.out
    have r1 := heap_setCell_same _ w2.heap.size 1 _ _ (.int .i64 (q1 % 8)) r0
    have s1 := (heap_setCell_other _ ⟨w2.heap.size, 1, none⟩ (w.heap.size + 1) (.int .i64 (q1 % 8)) hne).trans s0
    have t1 := t0.setCell (p := ⟨w2.heap.size, 1, none⟩) hle (.int .i64 (q1 % 8))
    have rr : _ = some (Obj.cells #[.int .i64 op, .int .i64 (q1 % 8), .int .i64 0, .int .u16 0, .int .u16 0, .int .i64 0, .int .i64 (zp op)] 53 (0, 0)) := r1
    have RR := zh rr
    have SS := zh s1
    have TT := zh t1
    clear rr r0 s0 t0 r1 s1 t1
    go_wp2_with (first
     | (refine wpList_load_row rfl _ (.tmp 6) rfl _ rfl _ #[.int .i64 op, .int .i64 (q1 % 8), .int .i64 0, .int .u16 0, .int .u16 0, .int .i64 0, .int .i64 (zp op)] _ _ RR.out Try.underlying53 rfl ?_ ?_; kernel_rfl)
     | (refine wpList_store_row rfl _ (.tmp 2) _ rfl _ #[.int .i64 op, .int .i64 (q1 % 8), .int .i64 0, .int .u16 0, .int .u16 0, .int .i64 0, .int .i64 (zp op)] rfl rfl _ _ SS.out ?_ ?_ ?_ ?_; kernel_rfl; rfl; kernel_rfl))
    refine bodyPost_ret (results_cell_row (cs := #[.int .i64 op, .int .i64 (q1 % 8), .int .i64 0, .int .u16 0, .int .u16 0, .int .i64 0, .int .i64 (zp op)]) (fr := (0, 0)) rfl _ _ (w.heap.size + 1) 53 _ rfl (setRow_heap _ _ _ _ _ _ SS.out) (Try.underlying53) rfl (by kernel_rfl)) rfl ⟨?_, below_setRow TT.out (by omega) _⟩
    rw [E0.out, HF.out]
    first | rfl | simp [x7, mkD, mkS, mkI, zt, vi, vw]
   ·have r0 := HB3.out
    have s0 := H1.out
    have t0 := HBB.out
    have r1 := heap_setCell_same _ w2.heap.size 3 _ _ (.int .u16 (q3 % 256)) r0
    have s1 := (heap_setCell_other _ ⟨w2.heap.size, 3, none⟩ (w.heap.size + 1) (.int .u16 (q3 % 256)) hne).trans s0
    have t1 := t0.setCell (p := ⟨w2.heap.size, 3, none⟩) hle (.int .u16 (q3 % 256))
    have rr : _ = some (Obj.cells #[.int .i64 op, .int .i64 0, .int .i64 0, .int .u16 (q3 % 256), .int .u16 0, .int .i64 0, .int .i64 (zp op)] 53 (0, 0)) := r1
    have RR := zh rr
    have SS := zh s1
    have TT := zh t1
    clear rr r0 s0 t0 r1 s1 t1
    go_wp2_with (first
     | (refine wpList_load_row rfl _ (.tmp 6) rfl _ rfl _ #[.int .i64 op, .int .i64 0, .int .i64 0, .int .u16 (q3 % 256), .int .u16 0, .int .i64 0, .int .i64 (zp op)] _ _ RR.out Try.underlying53 rfl ?_ ?_; kernel_rfl)
     | (refine wpList_store_row rfl _ (.tmp 2) _ rfl _ #[.int .i64 op, .int .i64 0, .int .i64 0, .int .u16 (q3 % 256), .int .u16 0, .int .i64 0, .int .i64 (zp op)] rfl rfl _ _ SS.out ?_ ?_ ?_ ?_; kernel_rfl; rfl; kernel_rfl))
    refine bodyPost_ret (results_cell_row (cs := #[.int .i64 op, .int .i64 0, .int .i64 0, .int .u16 (q3 % 256), .int .u16 0, .int .i64 0, .int .i64 (zp op)]) (fr := (0, 0)) rfl _ _ (w.heap.size + 1) 53 _ rfl (setRow_heap _ _ _ _ _ _ SS.out) (Try.underlying53) rfl (by kernel_rfl)) rfl ⟨?_, below_setRow TT.out (by omega) _⟩
    rw [E0.out, HF.out]
    first | rfl | simp [x7, mkD, mkS, mkI, zt, vi, vw]
   ·have r0 := HB3.out
    have s0 := H1.out
    have t0 := HBB.out
    have r1 := heap_setCell_same _ w2.heap.size 1 _ _ (.int .i64 (q1 % 8)) r0
    have s1 := (heap_setCell_other _ ⟨w2.heap.size, 1, none⟩ (w.heap.size + 1) (.int .i64 (q1 % 8)) hne).trans s0
    have t1 := t0.setCell (p := ⟨w2.heap.size, 1, none⟩) hle (.int .i64 (q1 % 8))
    have r2 := heap_setCell_same _ w2.heap.size 2 _ _ (.int .i64 (q2 % 8)) r1
    have s2 := (heap_setCell_other _ ⟨w2.heap.size, 2, none⟩ (w.heap.size + 1) (.int .i64 (q2 % 8)) hne).trans s1
    have t2 := t1.setCell (p := ⟨w2.heap.size, 2, none⟩) hle (.int .i64 (q2 % 8))
    have rr : _ = some (Obj.cells #[.int .i64 op, .int .i64 (q1 % 8), .int .i64 (q2 % 8), .int .u16 0, .int .u16 0, .int .i64 0, .int .i64 (zp op)] 53 (0, 0)) := r2
    have RR := zh rr
    have SS := zh s2
    have TT := zh t2
    clear rr r0 s0 t0 r1 s1 t1 r2 s2 t2
    go_wp2_with (first
     | (refine wpList_load_row rfl _ (.tmp 6) rfl _ rfl _ #[.int .i64 op, .int .i64 (q1 % 8), .int .i64 (q2 % 8), .int .u16 0, .int .u16 0, .int .i64 0, .int .i64 (zp op)] _ _ RR.out Try.underlying53 rfl ?_ ?_; kernel_rfl)
     | (refine wpList_store_row rfl _ (.tmp 2) _ rfl _ #[.int .i64 op, .int .i64 (q1 % 8), .int .i64 (q2 % 8), .int .u16 0, .int .u16 0, .int .i64 0, .int .i64 (zp op)] rfl rfl _ _ SS.out ?_ ?_ ?_ ?_; kernel_rfl; rfl; kernel_rfl))
    refine bodyPost_ret (results_cell_row (cs := #[.int .i64 op, .int .i64 (q1 % 8), .int .i64 (q2 % 8), .int .u16 0, .int .u16 0, .int .i64 0, .int .i64 (zp op)]) (fr := (0, 0)) rfl _ _ (w.heap.size + 1) 53 _ rfl (setRow_heap _ _ _ _ _ _ SS.out) (Try.underlying53) rfl (by kernel_rfl)) rfl ⟨?_, below_setRow TT.out (by omega) _⟩
    rw [E0.out, HF.out]
    first | rfl | simp [x7, mkD, mkS, mkI, zt, vi, vw]
   ·have r0 := HB3.out
    have s0 := H1.out
    have t0 := HBB.out
    have r1 := heap_setCell_same _ w2.heap.size 1 _ _ (.int .i64 (q1 % 8)) r0
    have s1 := (heap_setCell_other _ ⟨w2.heap.size, 1, none⟩ (w.heap.size + 1) (.int .i64 (q1 % 8)) hne).trans s0
    have t1 := t0.setCell (p := ⟨w2.heap.size, 1, none⟩) hle (.int .i64 (q1 % 8))
    have r2 := heap_setCell_same _ w2.heap.size 3 _ _ (.int .u16 (zM (q3 % 256))) r1
    have s2 := (heap_setCell_other _ ⟨w2.heap.size, 3, none⟩ (w.heap.size + 1) (.int .u16 (zM (q3 % 256))) hne).trans s1
    have t2 := t1.setCell (p := ⟨w2.heap.size, 3, none⟩) hle (.int .u16 (zM (q3 % 256)))
    have rr : _ = some (Obj.cells #[.int .i64 op, .int .i64 (q1 % 8), .int .i64 0, .int .u16 (zM (q3 % 256)), .int .u16 0, .int .i64 0, .int .i64 (zp op)] 53 (0, 0)) := r2
    have RR := zh rr
    have SS := zh s2
    have TT := zh t2
    clear rr r0 s0 t0 r1 s1 t1 r2 s2 t2
    go_wp2_with (first
     | (refine wpList_load_row rfl _ (.tmp 6) rfl _ rfl _ #[.int .i64 op, .int .i64 (q1 % 8), .int .i64 0, .int .u16 (zM (q3 % 256)), .int .u16 0, .int .i64 0, .int .i64 (zp op)] _ _ RR.out Try.underlying53 rfl ?_ ?_; kernel_rfl)
     | (refine wpList_store_row rfl _ (.tmp 2) _ rfl _ #[.int .i64 op, .int .i64 (q1 % 8), .int .i64 0, .int .u16 (zM (q3 % 256)), .int .u16 0, .int .i64 0, .int .i64 (zp op)] rfl rfl _ _ SS.out ?_ ?_ ?_ ?_; kernel_rfl; rfl; kernel_rfl))
    refine bodyPost_ret (results_cell_row (cs := #[.int .i64 op, .int .i64 (q1 % 8), .int .i64 0, .int .u16 (zM (q3 % 256)), .int .u16 0, .int .i64 0, .int .i64 (zp op)]) (fr := (0, 0)) rfl _ _ (w.heap.size + 1) 53 _ rfl (setRow_heap _ _ _ _ _ _ SS.out) (Try.underlying53) rfl (by kernel_rfl)) rfl ⟨?_, below_setRow TT.out (by omega) _⟩
    rw [E0.out, HF.out]
    first | rfl | simp [x7, mkD, mkS, mkI, zt, vi, vw]
end Go.Proofs.Ythebmoggbgldmaa
