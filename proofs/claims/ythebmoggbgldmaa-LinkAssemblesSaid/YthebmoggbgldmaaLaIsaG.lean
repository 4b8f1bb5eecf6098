/- Decode of package isa, walked. Condition: the string is no longer than Go allows. -/
import Derived.Test.YthebmoggbgldmaaLaIsaF
import Derived.Deep.DeepMust
set_option linter.all false
namespace Go.Proofs.Ythebmoggbgldmaa
open Go.RowKit
theorem Ins.ext_iff' (a b : Ins) : (a.op = b.op ∧ a.d = b.d ∧ a.s = b.s ∧ a.imm = b.imm ∧ a.aux = b.aux ∧ a.bank = b.bank ∧ a.size = b.size) ↔ a = b := by
 cases a; cases b; simp
instance : DecidableEq Ins := fun a b => decidable_of_iff _ (Ins.ext_iff' a b)
theorem eql_ins (i j : Ins) (w : World) : (binOp .eql 53 (.agg (zt i)) (.agg (zt j))).run Try.prog w = .ok (.bool (decide (i = j))) w := by
 rw [run_eql_struct, run_equalIn_agg]
 ·simp [Program.fieldsOf, Try.underlying53, zt, vi, vw, go_sem]
  by_cases h : i = j
  ·subst h; simp
  ·have hd : decide (i = j) = false := decide_eq_false h
   rw [hd]
   rw [← Ins.ext_iff'] at h
   repeat' split
   all_goals first
    | rfl
    | (exfalso; apply h; simp_all; done)
 ·kernel_rfl
 ·kernel_rfl
def yt (op : Int) : Nat → Int := fF (fld op 0) (fld op 1) (fld op 2) (fld op 3)
def yr (i : Ins) (F : Nat → Int) : Nat → Bool
 | 0 => true
 | j + 1 => yr i F j && yQ (F j) i
def zT (i : Ins) (F : Nat → Int) : Nat → List Int
 | 0 => [i.op]
 | j + 1 => zT i F j ++ xe (F j) i
def yS (l : List Int) (F : Nat → Int) : Ins := (xZ (byt (zO l)) F (jg (zO l)) 4).2
def zQ (i : Ins) : Bool := (fOf i.op).isSome && yr i (yt i.op) 4 && decide (yS (zT i (yt i.op) 4) (yt i.op) = i)
theorem need_put (b : Nat → Int) (f : Int) (k : Nat) (i i' : Ins) : (yO b f k i').1 = k + (xe f i).length := by
 unfold yO xe
 by_cases h1 : f = 1; (· simp [h1])
 by_cases h2 : f = 2; (· simp [h2])
 by_cases h3 : f = 3; (· simp [h3])
 by_cases h4 : f = 4; (· simp [h4])
 by_cases h5 : f = 5; (· simp [h5])
 by_cases h6 : f = 6; (· simp [h6])
 by_cases h7 : f = 7; (· simp [h7])
 by_cases h8 : f = 8; (· simp [h8])
 by_cases h9 : f = 9; (· simp [h9])
 simp [h1, h2, h3, h4, h5, h6, h7, h8, h9]
theorem rdTo_len (b : Nat → Int) (F : Nat → Int) (i i0 : Ins) (j : Nat) : (xZ b F i0 j).1 = (zT i F j).length := by
 induction j with
 | zero => rfl
 | succ j ih =>
  show (yO b (F j) (xZ b F i0 j).1 (xZ b F i0 j).2).1 = (zT i F j ++ xe (F j) i).length
  rw [need_put b (F j) _ i, ih, List.length_append]
theorem put_len (f : Int) (i : Ins) : (xe f i).length ≤ 2 := by
 unfold xe
 repeat (split; (first | simp | skip))
 simp
theorem bytesTo_le (i : Ins) (F : Nat → Int) (j m : Nat) (h : j ≤ m) : (zT i F j).length ≤ (zT i F m).length := by
 induction m with
 | zero => have : j = 0 := (by omega); subst this; exact zn _
 | succ m ih =>
  by_cases e : j = m + 1
  ·subst e; exact zn _
  ·have := ih (by omega)
   show _ ≤ (zT i F m ++ xe (F m) i).length
   rw [List.length_append]; omega
theorem bytesTo_len (i : Ins) (F : Nat → Int) (j : Nat) : (zT i F j).length ≤ 1 + 2 * j := by
 induction j with
 | zero => simp [zT]
 | succ j ih =>
  have := put_len (F j) i
  show (zT i F j ++ xe (F j) i).length ≤ _
  rw [List.length_append]; omega
theorem fFrom_bd (op : Int) : ∀ (n k m : Nat), fFrom op k n = some m → k ≤ m ∧ m < k + n ∧ fAt m 0 ≤ op ∧ op ≤ fAt m 1 := by
 intro n
 induction n with
 | zero => intro k m h; cases h
 | succ n ih =>
  intro k m h
  unfold fFrom at h
  split at h
  ·rename_i hh
   cases h
   exact ⟨zn _, by omega, hh.1, hh.2⟩
  ·obtain ⟨a, b, c, d⟩ := ih (k + 1) m h
   exact ⟨by omega, by omega, c, d⟩
theorem fAt_bd : ∀ m, m < 21 → 0 ≤ fAt m 0 ∧ fAt m 1 ≤ 163 := by decide
theorem jf {op : Int} {k : Nat} (h : fOf op = some k) : 0 ≤ op ∧ op ≤ 163 ∧ k < 21 ∧ fAt k 0 ≤ op ∧ op ≤ fAt k 1 := by
 obtain ⟨a, b, c, d⟩ := fFrom_bd op 21 0 k h
 have := fAt_bd k (by omega)
 omega
theorem fitAll_false (i : Ins) (F : Nat → Int) (j m : Nat) (hj : j < m) (h : yQ (F j) i = false) : yr i F m = false := by
 induction m with
 | zero => omega
 | succ m ih =>
  unfold yr
  by_cases e : j = m
  ·subst e; rw [h]; simp
  ·rw [ih (by omega)]; simp
theorem xW {w w' : World} {base e size n : Nat} {v : Value} {xs : List Value} (h : w.ownsRow base e size v n xs) (hb : Below w.heap.size w w') : w'.ownsRow base e size v n xs :=
 h.kept (row := none) ⟨hb.os, hb.tape, hb.output, hb.size, fun k hk _ => hb.block k hk⟩ (by cases hv : v.ownBlock <;> simp)
structure VRel (i : Ins) (b1 b3 : Nat) (j : Nat) (v : Value) (w0 w : World) : Prop where
 fa : Hid (yr i (yt i.op) j = true)
 own : w.ownsRow (b3 + 1) 5 1 v (zT i (yt i.op) j).length (bv (zT i (yt i.op) j))
 h1 : w.heap[b1]? = some (.cells (zt i) 53 (0, 0))
 h3 : w.heap[b3]? = some (.cells #[vi (fld i.op 0), vi (fld i.op 1), vi (fld i.op 2), vi (fld i.op 3)] 139 (0, 0))
 hb : Below w0.heap.size w0 w
 le : w0.heap.size ≤ b1
 lt : b1 < b3
 gt : b3 + 1 < w.heap.size
theorem VRel.step {i : Ins} {b1 b3 j : Nat} {v v4 : Value} {w0 w w2 w3 w4 : World} (hV : VRel i b1 b3 j v w0 w) (hft : yQ (yt i.op j) i = true) (hb2 : Below w.heap.size w w2) (hb3 : Below w2.heap.size w2 w3)
  (hg : w3.grownBy w4 v.ownBlock)
  (hown : w4.ownsRow (b3 + 1) 5 1 v4 ((zT i (yt i.op) j).length + (xe (yt i.op j) i).length) (bv (zT i (yt i.op) j) ++ bv (xe (yt i.op j) i))) :
  VRel i b1 b3 (j + 1) v4 w0 w4 := by
 have h23 : Below w.heap.size w w3 := hb2.trans (hb3.mono hb2.size)
 have hl := hV.own.lt
 have hgt := hV.gt
 have hlt := hV.lt
 have hs3 := h23.size
 have hsz := hV.hb.size
 have hbl : ∀ b, b ≤ b3 → w4.heap[b]? = w.heap[b]? := fun b hb => by
  rw [hg.block b (by omega) (fun e => by have := (hl b e.symm).1; omega), h23.block b (by omega)]
 refine ⟨zh ?_, ?_, (hbl b1 (by omega)).trans hV.h1, (hbl b3 (zn _)).trans hV.h3, ?_, hV.le, hV.lt, by have := hg.size; omega⟩
 ·unfold yr; rw [hV.fa.out, hft]; rfl
 ·have e : zT i (yt i.op) (j + 1) = zT i (yt i.op) j ++ xe (yt i.op j) i := rfl
  rw [e, List.length_append]
  simpa [bv] using hown
 ·refine (hV.hb.trans (h23.mono hsz)).grown hg ?_ (fun k hk => ?_)
  ·have := hs3; omega
  ·have := (hl k hk).1
   have := hV.le
   omega
theorem info5 : (Try.prog.info? 5).map (fun i => (i.zero, i.size, i.bytes)) = some (some (.int .u8 0), 1, 1) := by kernel_rfl
set_option maxRecDepth 100000 in
set_option maxHeartbeats 1000000 in
theorem valid_none (i : Ins) (hf : fOf i.op = none) (w : World) :
  Calls Try.prog 45 #[.agg #[.int .i64 (i).op, .int .i64 (i).d, .int .i64 (i).s, .int .u16 (i).imm, .int .u16 (i).aux, .int .i64 (i).bank, .int .i64 (i).size]] w fun e w' => e = .returned (.bool false) ∧ Below w.heap.size w w' := by
 have HF := zh hf
 clear hf
 go_enter Try.func45, Try.ntmps45
 go_wp2_with (first | (refine wpList_store_row rfl _ _ _ rfl _ _ rfl rfl _ _ (heap_alloc_new _ _) ?_ ?_ ?_ ?_; kernel_rfl; rfl; kernel_rfl; rw [World.setRow_alloc_new]) | (go_at_call 82; refine (jv _ _).mono ?_; rintro e w1 ⟨rfl, hb1⟩; rw [HF.out, Option.isSome_none]))
 go_ret
 exact ⟨rfl, (((Below.refl _ _).alloc (zn _) _).trans (hb1.mono (by simp))).alloc (by have := hb1.size; simp at this; omega) _⟩
set_option maxRecDepth 100000 in
set_option maxHeartbeats 1000000 in
theorem valid_some (i : Ins) (hi : i.Ok) (k : Nat) (hf : fOf i.op = some k) (w : World) :
  Calls Try.prog 45 #[.agg #[.int .i64 (i).op, .int .i64 (i).d, .int .i64 (i).s, .int .u16 (i).imm, .int .u16 (i).aux, .int .i64 (i).bank, .int .i64 (i).size]] w fun e w' => e = .returned (.bool (zQ i)) ∧ Below w.heap.size w w' := by
 obtain ⟨o0, o1, -, -, -⟩ := jf hf
 have hidx := index_F (fld i.op 0) (fld i.op 1) (fld i.op 2) (fld i.op 3)
 obtain ⟨i5, hi5, iz0, iz1, iz2⟩ := info_parts info5
 have HF := zh hf
 clear hf
 go_enter Try.func45, Try.ntmps45
 go_wp2_with (first | (refine wpList_store_row rfl _ _ _ rfl _ _ rfl rfl _ _ (heap_alloc_new _ _) ?_ ?_ ?_ ?_; kernel_rfl; rfl; kernel_rfl; rw [World.setRow_alloc_new]) | (go_at_call 82; refine (jv _ _).mono ?_; rintro e w1 ⟨rfl, hb1⟩; rw [HF.out, Option.isSome_some]; have hz1 := hb1.size; simp at hz1; have hcX := fun o => (World.cell?_alloc_lt w1 (Obj.cells #[vi (fld i.op 0), vi (fld i.op 1), vi (fld i.op 2), vi (fld i.op 3)] 139) ⟨w.heap.size, o, none⟩ (by show w.heap.size < _; omega)).trans (cell_of_row w1 w.heap.size o _ _ _ ((hb1.block _ (by simp)).trans (heap_alloc_new _ _)))))
 obtain ⟨hz1, hcX⟩ := (⟨hz1, hcX⟩ : _ ∧ _)
 have hB1 : w1.heap[w.heap.size]? = some (.cells (zt i) 53 (0, 0)) := (hb1.block _ (by simp)).trans (heap_alloc_new _ _)
 clear hcX
 have HB1 := zh hB1
 clear hB1
 go_loopw [5, 21] (fun v x wr => ∃ j : Nat, j ≤ 4 ∧ x = .int .i64 j ∧ VRel i w.heap.size w1.heap.size j v w wr) (fun _ x _ => 4 - (intOf x).toNat)
 case atStart =>
  refine ⟨0, by omega, rfl, zh rfl, ?_, ?_, ?_, ?_, zn _, by omega, by simp <;> omega⟩
  ·have h := World.ownsRow_lit (base := w1.heap.size + 1) (size := 1) (e := 5) (w1.alloc (Obj.cells #[vi (fld i.op 0), vi (fld i.op 1), vi (fld i.op 2), vi (fld i.op 3)] 139)) #[.int .u8 i.op] 1 (by simp) (by decide) rfl
   simp only [World.size_alloc] at h
   exact h
  ·exact (heap_old2 (by omega)).trans HB1.out
  ·exact heap_alloc2_old _ _ _
  ·exact ((((Below.refl _ _).alloc (zn _) _).trans (hb1.mono (by simp))).alloc (by omega) _).alloc (by simp <;> omega) _
 case round =>
  obtain ⟨j, hj, rfl, hV⟩ := hrel
  clear HB1
  by_cases hj4 : j < 4
  ·have hix := hidx j hj4
   clear hidx
   obtain ⟨hfa, hown, hB1, hB3, hbr, hle, hlt, hgt⟩ := hV
   have HOWN := zh hown
   have HB1 := zh hB1
   have HB3 := zh hB3
   clear hown hB1 hB3
   by_cases hft : yQ (yt i.op j) i = true
   ·have hPut := fun W => put_any (yt i.op j) i hi hft W
    have HP := zh hPut
    have HFT := zh hft
    clear hPut hft
    have hBs : (zT i (yt i.op) j).length ≤ 9 := by have := bytesTo_len i (yt i.op) j; omega
    have hPs := put_len (yt i.op j) i
    go_wp2_with (first
     | (refine wpList_load_row rfl _ (.tmp 1) rfl _ rfl _ _ _ _ HB1.out Try.underlying53 rfl ?_ ?_; kernel_rfl)
     | (refine wpList_load_row rfl _ (.tmp 1) rfl _ rfl _ _ _ _ ((hb2.block _ (by omega)).trans HB1.out) Try.underlying53 rfl ?_ ?_; kernel_rfl)
     | (go_at_call 83; refine (fits_any (yt i.op j) i hi _).mono ?_; rintro e w2 ⟨rfl, hb2⟩; rw [HFT.out]; have hz2 := hb2.size)
     | (go_at_call 84; refine (HP.out _).mono ?_; rintro e w3 ⟨v3, rfl, hown3, hb3⟩; have hz3 := hb3.size; have hownA := xW (xW HOWN.out hb2) hb3; have HOWN3 := zh hown3; have HOWNA := zh hownA; clear hown3 hownA)
     | (at_builtin; go_must (refine yl rfl _ _ _ rfl (w1.heap.size + 1) 5 i5 (.int .u8 0) 1 Try.underlying99 hi5 iz0 iz1 iz2 rfl _ _ _ rfl HOWNA.out _ _ _ _ rfl HOWN3.out (bv_one _) ?_ ?_ ?_ ?_); (unfold maxLen; omega); omega; omega; intro v4 w4 hown4 hg4; have HOWN4 := zh hown4; clear hown4))
    go_roundw
    case rel => exact ⟨j + 1, by omega, by go_num, (VRel.step ⟨hfa, HOWN.out, HB1.out, HB3.out, hbr, hle, hlt, hgt⟩ HFT.out hb2 hb3 hg4 HOWN4.out)⟩
    case measure => simp [intOf]; omega
   ·have hft : yQ (yt i.op j) i = false := by simpa using hft
    have HFT := zh hft
    clear hft
    go_wp2_with (first | (refine wpList_load_row rfl _ (.tmp 1) rfl _ rfl _ _ _ _ HB1.out Try.underlying53 rfl ?_ ?_; kernel_rfl) | (go_at_call 83; refine (fits_any (yt i.op j) i hi _).mono ?_; rintro e w2 ⟨rfl, hb2⟩; rw [HFT.out]))
    go_ret
    refine ⟨?_, hbr.trans (hb2.mono (by omega))⟩
    have : zQ i = false := by unfold zQ; rw [fitAll_false i _ j 4 hj4 HFT.out]; simp
    rw [this]
    rfl
  ·have ej : j = 4 := by omega
   subst ej
   obtain ⟨hfa, hown, hB1, hB3, hbr, hle, hlt, hgt⟩ := hV
   have HOWN := zh hown
   have HB1 := zh hB1
   have HB3 := zh hB3
   clear hown hB1 hB3 hidx
   have hL := bytesTo_le i (yt i.op) 0 4 (by omega)
   have hL9 := bytesTo_len i (yt i.op) 4
   have hRd := fun W => read_any (zO (zT i (yt i.op) 4)) (fld i.op 0) (fld i.op 1) (fld i.op 2) (fld i.op 3) (by rw [yo]; exact hL) (by rw [yo]; omega)
    (fun m hm => by rw [yo, rdTo_len _ _ i]; exact bytesTo_le i (yt i.op) m 4 hm) W
   have HRD := zh hRd
   clear hRd
   go_wp2_with fail
   refine wp_region_noPanic ?_
   refine wp_region_held_drew (S := fun w' => w'.heap[w.heap.size]? = some (.cells (zt i) 53 (0, 0)) ∧ w'.heap[w1.heap.size]? = some (.cells #[vi (fld i.op 0), vi (fld i.op 1), vi (fld i.op 2), vi (fld i.op 3)] 139 (0, 0)) ∧
    w'.ownsRow (w1.heap.size + 1) 5 1 u5 (zT i (yt i.op) 4).length (bv (zT i (yt i.op) 4))) (by kernel_rfl) ⟨HB1.out, HB3.out, HOWN.out⟩ (fun hHeld => ?_)
   (refine wpAnyH_take (i := 0) (oi := _) (v := ?_) rfl (by kernel_rfl) (by kernel_rfl) (by kernel_rfl) (fun _ _ _ h => h) (Or.inl ⟨by rfl, ?_⟩) (by assumption) ?_; rotate_left; (focus (intro w hSw; (try dsimp only at hSw); go_simp; try with_reducible rfl)); (try simp only [zA, zB, zC, Act.put, zD, zE, zF]))
   (refine wpAnyH_take (i := 1) (oi := _) (v := (.string (zO (zT i (yt i.op) 4)))) rfl (by kernel_rfl) (by kernel_rfl) (by kernel_rfl) (fun _ _ _ h => h) (Or.inl ⟨by rfl, ?_⟩) (by assumption) ?_; (focus (intro w' hS; exact exec_convert _ _ _ rfl u5 _ rfl (yk w' _ _ 5 Try.underlying99 Try.underlying5 Try.underlying9 _ _ _ _ hS.2.2))); (try simp only [zA, zB, zC, Act.put, zD, zE, zF]))
   (refine wpAnyH_take (i := 2) (oi := _) (v := (.agg #[vi (fld i.op 0), vi (fld i.op 1), vi (fld i.op 2), vi (fld i.op 3)])) rfl (by kernel_rfl) (by kernel_rfl) (by kernel_rfl) (fun _ _ _ h => h) (Or.inl ⟨by rfl, ?_⟩) (by assumption) ?_; (focus (intro w' hS; exact exec_load_row _ _ rfl _ rfl _ _ _ _ hS.2.1 Try.underlying139 rfl (by kernel_rfl))); (try simp only [zA, zB, zC, Act.put, zD, zE, zF]))
   (refine wpAnyH_take (i := 4) (oi := _) (v := (.agg (zt i))) rfl (by kernel_rfl) (by kernel_rfl) (by kernel_rfl) (fun _ _ _ h => h) (Or.inl ⟨by rfl, ?_⟩) (by assumption) ?_; (focus (intro w' hS; exact exec_load_row _ _ rfl _ rfl _ _ _ _ hS.1 Try.underlying53 rfl (by kernel_rfl))); (try simp only [zA, zB, zC, Act.put, zD, zE, zF]))
   (refine wpAnyH_ready (rs := [3]) (by kernel_rfl) (by simp) (AllReadyH.cons (o := _) rfl (fun K hK => ?_) AllReadyH.nil))
   rw [if_pos (by rfl)]
   go_simp
   refine (HRD.out _).mono ?_
   rintro e w5 ⟨rfl, hb5⟩
   have hd : wr.drew.heap.size = wr.heap.size := rfl
   refine hK.out _ _ ⟨(hb5.block _ (by omega)).trans hHeld.1, (hb5.block _ (by omega)).trans hHeld.2.1, xW hHeld.2.2 hb5⟩ (fun hHeld => ?_)
   (try simp only [zA, zB, zC, Act.put, zD, zE, zF])
   have he := eql_ins
   (refine wpAnyH_take (i := 5) (oi := _) (v := ?_) rfl (by kernel_rfl) (by kernel_rfl) (by kernel_rfl) (fun _ _ _ h => h) (Or.inl ⟨by rfl, ?_⟩) (by assumption) ?_; rotate_left; (focus (intro w hSw; (try dsimp only at hSw); go_simp; try with_reducible rfl)); (try simp only [zA, zB, zC, Act.put, zD, zE, zF]))
   (refine wpAnyH_take (i := 6) (oi := _) (v := ?_) rfl (by kernel_rfl) (by kernel_rfl) (by kernel_rfl) (fun _ _ _ h => h) (Or.inl ⟨by rfl, ?_⟩) (by assumption) ?_; rotate_left; (focus (intro w hSw; (try dsimp only at hSw); go_simp; try with_reducible rfl)); (try simp only [zA, zB, zC, Act.put, zD, zE, zF]))
   refine wpAnyH_done (by kernel_rfl) ?_ _
   refine NoPanic.normal ?_
   clear he
   go_wp2
   go_ret
   refine ⟨?_, hbr.drew.trans (hb5.mono hbr.size)⟩
   have : zQ i = decide (yS (zT i (yt i.op) 4) (yt i.op) = i) := by unfold zQ; rw [HF.out, hfa.out]; rfl
   rw [this]
   rfl
end Go.Proofs.Ythebmoggbgldmaa
namespace Go.Proofs.Ythebmoggbgldmaa
open Go.RowKit
theorem valid_any (i : Ins) (hi : i.Ok) (w : World) :
  Calls Try.prog 45 #[.agg #[.int .i64 (i).op, .int .i64 (i).d, .int .i64 (i).s, .int .u16 (i).imm, .int .u16 (i).aux, .int .i64 (i).bank, .int .i64 (i).size]] w fun e w' => e = .returned (.bool (zQ i)) ∧ Below w.heap.size w w' := by
 cases hf : fOf i.op with
 | none =>
  have : zQ i = false := by unfold zQ; rw [hf]; rfl
  rw [this]; exact valid_none i hf w
 | some k => exact valid_some i hi k hf w
theorem fitAll_true {i : Ins} {F : Nat → Int} {m : Nat} (h : yr i F m = true) : ∀ j, j < m → yQ (F j) i = true := by
 intro j hj
 cases hf : yQ (F j) i with
 | true => rfl
 | false => rw [fitAll_false i F j m hj hf] at h; cases h
theorem validS_parts {i : Ins} (h : zQ i = true) : (∃ k, fOf i.op = some k) ∧ yr i (yt i.op) 4 = true ∧ yS (zT i (yt i.op) 4) (yt i.op) = i := by
 unfold zQ at h
 simp only [Bool.and_eq_true, decide_eq_true_eq] at h
 obtain ⟨⟨h1, h2⟩, h3⟩ := h
 exact ⟨Option.isSome_iff_exists.1 h1, h2, h3⟩
def xl (i : Ins) : List Int := if (fOf i.op).isSome && zQ i then zT i (yt i.op) 4 else []
def jx (i : Ins) : Int := if (fOf i.op).isSome then (if zQ i then 0 else 3) else 11
set_option maxRecDepth 100000 in
set_option maxHeartbeats 1000000 in
theorem encode_none (i : Ins) (hf : fOf i.op = none) (w : World) :
  Calls Try.prog 62 #[.agg #[.int .i64 (i).op, .int .i64 (i).d, .int .i64 (i).s, .int .u16 (i).imm, .int .u16 (i).aux, .int .i64 (i).bank, .int .i64 (i).size]] w fun e w' => e = .returned (.tuple #[.string (zO []), .int .i64 11]) ∧ Below w.heap.size w w' := by
 have HF := zh hf
 clear hf
 go_enter Try.func62, Try.ntmps62
 go_wp2_with (first | (go_at_call 87; refine (known_any _ _).mono ?_; rintro e w1 ⟨rfl, hb1⟩; rw [HF.out, Option.isSome_none]))
 go_ret2
 exact ⟨rfl, (((Below.refl _ _).alloc (zn _) _).trans (hb1.mono (by simp)))⟩
set_option maxRecDepth 100000 in
set_option maxHeartbeats 1000000 in
theorem encode_bad (i : Ins) (hi : i.Ok) (k : Nat) (hf : fOf i.op = some k) (hv : zQ i = false) (w : World) :
  Calls Try.prog 62 #[.agg #[.int .i64 (i).op, .int .i64 (i).d, .int .i64 (i).s, .int .u16 (i).imm, .int .u16 (i).aux, .int .i64 (i).bank, .int .i64 (i).size]] w fun e w' => e = .returned (.tuple #[.string (zO []), .int .i64 3]) ∧ Below w.heap.size w w' := by
 have HF := zh hf
 have HV := zh hv
 clear hf hv
 go_enter Try.func62, Try.ntmps62
 go_wp2_with (first
  | (go_at_call 87; refine (known_any _ _).mono ?_; rintro e w1 ⟨rfl, hb1⟩; rw [HF.out, Option.isSome_some]; have hB1 := (hb1.block w.heap.size (by simp)).trans (heap_alloc_new w _); have HB1 := zh hB1; clear hB1)
  | (go_at_call 45; refine (valid_any i hi _).mono ?_; rintro e w2 ⟨rfl, hb2⟩; rw [HV.out])
  | (refine wpList_load_row rfl _ (.tmp 1) rfl _ rfl _ _ _ _ HB1.out Try.underlying53 rfl ?_ ?_; kernel_rfl))
 go_ret2
 exact ⟨rfl, (((Below.refl _ _).alloc (zn _) _).trans ((hb1.mono (by simp)).trans (hb2.mono (by have := hb1.size; simp at this; omega))))⟩
structure ERel (i : Ins) (b1 b3 : Nat) (j : Nat) (v : Value) (w0 w : World) : Prop where
 own : w.ownsRow (b3 + 1) 5 1 v (zT i (yt i.op) j).length (bv (zT i (yt i.op) j))
 h1 : w.heap[b1]? = some (.cells (zt i) 53 (0, 0))
 hb : Below w0.heap.size w0 w
 le : w0.heap.size ≤ b1
 lt : b1 < b3
 gt : b3 + 1 < w.heap.size
theorem ERel.step {i : Ins} {b1 b3 j : Nat} {v v4 : Value} {w0 w w3 w4 : World} (hV : ERel i b1 b3 j v w0 w) (h23 : Below w.heap.size w w3)
  (hg : w3.grownBy w4 v.ownBlock)
  (hown : w4.ownsRow (b3 + 1) 5 1 v4 ((zT i (yt i.op) j).length + (xe (yt i.op j) i).length) (bv (zT i (yt i.op) j) ++ bv (xe (yt i.op j) i))) :
  ERel i b1 b3 (j + 1) v4 w0 w4 := by
 have hl := hV.own.lt
 have hgt := hV.gt
 have hlt := hV.lt
 have hs3 := h23.size
 have hsz := hV.hb.size
 have hbl : ∀ b, b ≤ b3 → w4.heap[b]? = w.heap[b]? := fun b hb => by
  rw [hg.block b (by omega) (fun e => by have := (hl b e.symm).1; omega), h23.block b (by omega)]
 refine ⟨?_, (hbl b1 (by omega)).trans hV.h1, ?_, hV.le, hV.lt, by have := hg.size; omega⟩
 ·have e : zT i (yt i.op) (j + 1) = zT i (yt i.op) j ++ xe (yt i.op j) i := rfl
  rw [e, List.length_append]
  simpa [bv] using hown
 ·refine (hV.hb.trans (h23.mono hsz)).grown hg ?_ (fun k hk => ?_)
  ·have := hs3; omega
  ·have := (hl k hk).1
   have := hV.le
   omega
set_option maxRecDepth 100000 in
set_option maxHeartbeats 2000000 in
theorem encode_good (i : Ins) (hi : i.Ok) (k : Nat) (hf : fOf i.op = some k) (hv : zQ i = true) (w : World) :
  Calls Try.prog 62 #[.agg #[.int .i64 (i).op, .int .i64 (i).d, .int .i64 (i).s, .int .u16 (i).imm, .int .u16 (i).aux, .int .i64 (i).bank, .int .i64 (i).size]] w fun e w' => e = .returned (.tuple #[.string (zO (zT i (yt i.op) 4)), .int .i64 0]) ∧ Below w.heap.size w w' := by
 obtain ⟨o0, o1, -, -, -⟩ := jf hf
 have hidx := index_F (fld i.op 0) (fld i.op 1) (fld i.op 2) (fld i.op 3)
 obtain ⟨i5, hi5, iz0, iz1, iz2⟩ := info_parts info5
 have hall := fitAll_true (validS_parts hv).2.1
 have HF := zh hf
 have HV := zh hv
 have HALL := zh hall
 clear hf hv hall
 go_enter Try.func62, Try.ntmps62
 go_wp2_with (first
  | (refine wpList_store_row rfl _ _ _ rfl _ _ rfl rfl _ _ (heap_alloc_new _ _) ?_ ?_ ?_ ?_; kernel_rfl; rfl; kernel_rfl; rw [World.setRow_alloc_new])
  | (go_at_call 87; refine (known_any _ _).mono ?_; rintro e w1 ⟨rfl, hb1⟩; rw [HF.out, Option.isSome_some]; have hB1 := (hb1.block w.heap.size (by simp)).trans (heap_alloc_new w _); have HB1 := zh hB1; have hc1 := fun o => cell_of_row w1 w.heap.size o _ _ _ hB1; clear hB1; have hz1 := hb1.size; simp at hz1)
  | (go_at_call 45; refine (valid_any i hi _).mono ?_; rintro e w2 ⟨rfl, hb2⟩; rw [HV.out]; have hc2 := fun o => cell_of_row w2 w.heap.size o _ _ _ ((hb2.block _ (by omega)).trans HB1.out); have hz2 := hb2.size)
  | (go_at_call 82; refine (jv _ _).mono ?_; rintro e w3 ⟨rfl, hb3⟩; rw [HF.out, Option.isSome_some]; have hz3 := hb3.size; have hcX := fun o => (World.cell?_alloc_lt w3 (Obj.cells #[vi (fld i.op 0), vi (fld i.op 1), vi (fld i.op 2), vi (fld i.op 3)] 139) ⟨w.heap.size, o, none⟩ (by show w.heap.size < _; omega)).trans (cell_of_row w3 w.heap.size o _ _ _ (((hb3.block _ (by omega)).trans (hb2.block _ (by omega))).trans HB1.out)))
  | (refine wpList_load_row rfl _ (.tmp 1) rfl _ rfl _ _ _ _ HB1.out Try.underlying53 rfl ?_ ?_; kernel_rfl))
 have hB3 : w3.heap[w.heap.size]? = some (.cells (zt i) 53 (0, 0)) := ((hb3.block _ (by omega)).trans (hb2.block _ (by omega))).trans HB1.out
 clear hcX hc1 hc2 HB1
 have HB3 := zh hB3
 clear hB3
 go_loopw [6, 27] (fun v x wr => ∃ j : Nat, j ≤ 4 ∧ x = .int .i64 j ∧ ERel i w.heap.size w3.heap.size j v w wr) (fun _ x _ => 4 - (intOf x).toNat)
 case atStart =>
  refine ⟨0, by omega, rfl, ?_, ?_, ?_, zn _, by omega, by simp <;> omega⟩
  ·have h := World.ownsRow_lit (base := w3.heap.size + 1) (size := 1) (e := 5) (w3.alloc (Obj.cells #[vi (fld i.op 0), vi (fld i.op 1), vi (fld i.op 2), vi (fld i.op 3)] 139)) #[.int .u8 i.op] 1 (by simp) (by decide) rfl
   simp only [World.size_alloc] at h
   exact h
  ·exact (heap_old2 (by omega)).trans HB3.out
  ·exact ((((Below.refl _ _).alloc (zn _) _).trans ((hb1.mono (by simp)).trans ((hb2.mono (by omega)).trans (hb3.mono (by omega))))).alloc (by omega) _).alloc (by simp <;> omega) _
 case round =>
  obtain ⟨j, hj, rfl, hV⟩ := hrel
  clear HB3
  by_cases hj4 : j < 4
  ·have hix := hidx j hj4
   clear hidx
   obtain ⟨hown, hB1, hbr, hle, hlt, hgt⟩ := hV
   have HOWN := zh hown
   have HB1 := zh hB1
   clear hown hB1
   have hPut := fun W => put_any (yt i.op j) i hi (HALL.out j hj4) W
   have HP := zh hPut
   clear hPut
   have hBs : (zT i (yt i.op) j).length ≤ 9 := by have := bytesTo_len i (yt i.op) j; omega
   have hPs := put_len (yt i.op j) i
   go_wp2_with (first
    | (refine wpList_load_row rfl _ (.tmp 1) rfl _ rfl _ _ _ _ HB1.out Try.underlying53 rfl ?_ ?_; kernel_rfl)
    | (go_at_call 84; refine (HP.out _).mono ?_; rintro e w5 ⟨v5, rfl, hown5, hb5⟩; have hz5 := hb5.size; have hownA := xW HOWN.out hb5; have HOWN5 := zh hown5; have HOWNA := zh hownA; clear hown5 hownA)
    | (at_builtin; go_must (refine yl rfl _ _ _ rfl (w3.heap.size + 1) 5 i5 (.int .u8 0) 1 Try.underlying99 hi5 iz0 iz1 iz2 rfl _ _ _ rfl HOWNA.out _ _ _ _ rfl HOWN5.out (bv_one _) ?_ ?_ ?_ ?_); (unfold maxLen; omega); omega; omega; intro v6 w6 hown6 hg6; have HOWN6 := zh hown6; clear hown6))
   go_roundw
   case rel => exact ⟨j + 1, by omega, by go_num, (ERel.step ⟨HOWN.out, HB1.out, hbr, hle, hlt, hgt⟩ hb5 hg6 HOWN6.out)⟩
   case measure => simp [intOf]; omega
  ·have ej : j = 4 := by omega
   subst ej
   have hcv : ∀ W, W = wr → (convert 99 9 u6).run Try.prog W = .ok (.string (zO (zT i (yt i.op) 4))) W := fun W e => by
    subst e; exact yk _ _ _ 5 Try.underlying99 Try.underlying5 Try.underlying9 _ _ _ _ hV.own
   have hcw := hcv wr rfl
   clear hcv hidx
   go_wp2
   go_ret2
   exact ⟨rfl, hV.hb⟩
theorem encode_any (i : Ins) (hi : i.Ok) (w : World) :
  Calls Try.prog 62 #[.agg #[.int .i64 (i).op, .int .i64 (i).d, .int .i64 (i).s, .int .u16 (i).imm, .int .u16 (i).aux, .int .i64 (i).bank, .int .i64 (i).size]] w fun e w' => e = .returned (.tuple #[.string (zO (xl i)), .int .i64 (jx i)]) ∧ Below w.heap.size w w' := by
 cases hf : fOf i.op with
 | none =>
  have e1 : xl i = [] := by unfold xl; rw [hf]; rfl
  have e2 : jx i = 11 := by unfold jx; rw [hf]; rfl
  rw [e1, e2]; exact encode_none i hf w
 | some k =>
  cases hv : zQ i with
  | false =>
   have e1 : xl i = [] := by unfold xl; rw [hf, hv]; rfl
   have e2 : jx i = 3 := by unfold jx; rw [hf, hv]; rfl
   rw [e1, e2]; exact encode_bad i hi k hf hv w
  | true =>
   have e1 : xl i = zT i (yt i.op) 4 := by unfold xl; rw [hf, hv]; rfl
   have e2 : jx i = 0 := by unfold jx; rw [hf, hv]; rfl
   rw [e1, e2]; exact encode_good i hi k hf hv w
end Go.Proofs.Ythebmoggbgldmaa
namespace Go.Proofs.Ythebmoggbgldmaa
open Go.RowKit
theorem sizeS_bd (op : Int) : 0 ≤ zH op ∧ zH op ≤ 9 := by
 unfold zH
 split
 ·omega
 ·rename_i k _
  have := width_bd (fAt k 2); have := width_bd (fAt k 3); have := width_bd (fAt k 4); have := width_bd (fAt k 5)
  omega
theorem extendS_bd (n : Int) (h0 : 0 ≤ n) (h1 : n < 256) : 0 ≤ zM n ∧ zM n < 65536 := by unfold zM; split <;> omega
theorem ok_byte (n : Int) (h0 : 0 ≤ n) (h1 : n < 256) : zX n := ⟨by omega, by omega⟩
theorem rdStep_ok (s : ByteArray) (f : Int) (k : Nat) (i : Ins) (h : i.Ok) : (yO (byt s) f k i).2.Ok := by
 obtain ⟨b00, b01⟩ := yj s k
 obtain ⟨b10, b11⟩ := yj s (k + 1)
 have he := extendS_bd _ b00 b01
 have hw : 0 ≤ byt s k + 256 * byt s (k + 1) ∧ byt s k + 256 * byt s (k + 1) < 65536 := ⟨by omega, by omega⟩
 have hb : 0 ≤ byt s k ∧ byt s k < 65536 := ⟨by omega, by omega⟩
 have o1 := ok_byte _ b00 b01
 have o2 := ok_byte (byt s k / 16) (by omega) (by omega)
 have o3 := ok_byte (byt s k % 16) (by omega) (by omega)
 obtain ⟨p0, p1, p2, p3, p4, p5, p6⟩ := h
 unfold yO
 split
 ·exact ⟨p0, o2, o3, p3, p4, p5, p6⟩
 split
 ·exact ⟨p0, o1, p2, p3, p4, p5, p6⟩
 split
 ·exact ⟨p0, p1, o1, p3, p4, p5, p6⟩
 split
 ·exact { op := p0, d := p1, s := p2, imm := hb, aux := p4, bank := p5, size := p6 }
 split
 ·refine ⟨p0, p1, p2, ?_, p4, p5, p6⟩
  simpa using he
 split
 ·refine ⟨p0, p1, p2, ?_, p4, p5, p6⟩
  exact hw
 split
 ·exact ⟨p0, p1, p2, p3, hw, p5, p6⟩
 split
 ·exact ⟨p0, p1, p2, p3, p4, o1, p6⟩
 ·exact ⟨p0, p1, p2, p3, p4, p5, p6⟩
theorem rdTo_ok (s : ByteArray) (F : Nat → Int) (j : Nat) : (xZ (byt s) F (jg s) j).2.Ok := by
 induction j with
 | zero =>
  have b0 := yj s 0
  have b1 := sizeS_bd (byt s 0)
  have z : zX 0 := ok_byte 0 (by omega) (by omega)
  exact ⟨ok_byte _ b0.1 b0.2, z, z, ⟨by show (0 : Int) ≤ 0; omega, by show (0 : Int) < 65536; omega⟩, ⟨by show (0 : Int) ≤ 0; omega, by show (0 : Int) < 65536; omega⟩, z, ok_byte _ b1.1 (by show zH (byt s 0) < 256; omega)⟩
 | succ j ih => exact rdStep_ok s _ _ _ ih
def jl (s : ByteArray) : Ins := (xZ (byt s) (yt (byt s 0)) (jg s) 4).2
def ins00 : Ins := ⟨0, 0, 0, 0, 0, 0, 0⟩
def decE (s : ByteArray) : Int := if s.size = 0 then 10 else if (fOf (byt s 0)).isSome then (if (s.size : Int) < zH (byt s 0) then 10 else if zQ (jl s) then 0 else 11) else 11
def decI (s : ByteArray) : Ins := if decE s = 0 then jl s else ins00
end Go.Proofs.Ythebmoggbgldmaa
