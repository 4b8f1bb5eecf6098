/- Valid of the reference implementation, walked. -/
import Derived.Test.YteofmaiojepdkaaGreatTbIsaD
import Derived.Deep.DeepMust
set_option linter.all false
namespace Go.Proofs.YteofmaiojepdkaaGreat
open Go.RowKit
theorem Ins.ext_iff' (a b : Ins) : (a.op = b.op ∧ a.d = b.d ∧ a.s = b.s ∧ a.imm = b.imm ∧ a.aux = b.aux ∧ a.bank = b.bank ∧ a.size = b.size) ↔ a = b := by
 cases a; cases b; simp
instance : DecidableEq Ins := fun a b => decidable_of_iff _ (Ins.ext_iff' a b)
theorem eql_ins (i j : Ins) (w : World) : (binOp .eql 53 (.agg (ze i)) (.agg (ze j))).run Tryz.prog w = .ok (.bool (decide (i = j))) w := by
 rw [run_eql_struct, run_equalIn_agg]
 ·simp [Program.fieldsOf, Tryz.underlying53, ze, vi, vw, go_sem]
  by_cases h : i = j
  ·subst h; simp
  ·have hd : decide (i = j) = false := decide_eq_false h
   rw [hd]
   rw [← Ins.ext_iff'] at h
   repeat' split
   all_goals first
    | rfl
    | (exfalso; apply h; simp_all; done)
 ·kernel_rfl
 ·kernel_rfl
def z7 (op : Int) : Nat → Int := fF (fld op 0) (fld op 1) (fld op 2) (fld op 3)
def zT (i : Ins) (F : Nat → Int) : Nat → Bool
 | 0 => true
 | j + 1 => zT i F j && yp (F j) i
def zw (i : Ins) (F : Nat → Int) : Nat → List Int
 | 0 => [i.op]
 | j + 1 => zw i F j ++ yI (F j) i
def yv (l : List Int) (F : Nat → Int) : Ins := (xz (byt (strOf l)) F (y9 (strOf l)) 4).2
def zy (i : Ins) : Bool := (fOf i.op).isSome && zT i (z7 i.op) 4 && decide (yv (zw i (z7 i.op) 4) (z7 i.op) = i)
theorem need_put (b : Nat → Int) (f : Int) (k : Nat) (i i' : Ins) : (yi b f k i').1 = k + (yI f i).length := by
 unfold yi yI
 by_cases h1 : f = 1; (· simp [h1])
 by_cases h2 : f = 2; (· simp [h2])
 by_cases h3 : f = 3; (· simp [h3])
 by_cases h4 : f = 4; (· simp [h4])
 by_cases h5 : f = 5; (· simp [h5])
 by_cases h6 : f = 6; (· simp [h6])
 by_cases h7 : f = 7; (· simp [h7])
 by_cases h8 : f = 8; (· simp [h8])
 by_cases h9 : f = 9; (· simp [h9])
 simp [h1, h2, h3, h4, h5, h6, h7, h8, h9]
theorem rdTo_len (b : Nat → Int) (F : Nat → Int) (i i0 : Ins) (j : Nat) : (xz b F i0 j).1 = (zw i F j).length := by
 induction j with
 | zero => rfl
 | succ j ih =>
  show (yi b (F j) (xz b F i0 j).1 (xz b F i0 j).2).1 = (zw i F j ++ yI (F j) i).length
  rw [need_put b (F j) _ i, ih, List.length_append]
theorem put_len (f : Int) (i : Ins) : (yI f i).length ≤ 2 := by
 unfold yI
 repeat (split; (first | simp | skip))
 simp
theorem bytesTo_le (i : Ins) (F : Nat → Int) (j m : Nat) (h : j ≤ m) : (zw i F j).length ≤ (zw i F m).length := by
 induction m with
 | zero => have : j = 0 := (by omega); subst this; exact zn _
 | succ m ih =>
  by_cases e : j = m + 1
  ·subst e; exact zn _
  ·have := ih (by omega)
   show _ ≤ (zw i F m ++ yI (F m) i).length
   rw [List.length_append]; omega
theorem bytesTo_len (i : Ins) (F : Nat → Int) (j : Nat) : (zw i F j).length ≤ 1 + 2 * j := by
 induction j with
 | zero => simp [zw]
 | succ j ih =>
  have := put_len (F j) i
  show (zw i F j ++ yI (F j) i).length ≤ _
  rw [List.length_append]; omega
theorem fFrom_bd (op : Int) : ∀ (n k m : Nat), fFrom op k n = some m → k ≤ m ∧ m < k + n ∧ fAt m 0 ≤ op ∧ op ≤ fAt m 1 := by
 intro n
 induction n with
 | zero => intro k m h; cases h
 | succ n ih =>
  intro k m h
  unfold fFrom at h
  split at h
  ·rename_i hh
   cases h
   exact ⟨zn _, by omega, hh.1, hh.2⟩
  ·obtain ⟨a, b, c, d⟩ := ih (k + 1) m h
   exact ⟨by omega, by omega, c, d⟩
theorem fAt_bd : ∀ m, m < 21 → 0 ≤ fAt m 0 ∧ fAt m 1 ≤ 163 := by decide
theorem xR {op : Int} {k : Nat} (h : fOf op = some k) : 0 ≤ op ∧ op ≤ 163 ∧ k < 21 ∧ fAt k 0 ≤ op ∧ op ≤ fAt k 1 := by
 obtain ⟨a, b, c, d⟩ := fFrom_bd op 21 0 k h
 have := fAt_bd k (by omega)
 omega
theorem fitAll_false (i : Ins) (F : Nat → Int) (j m : Nat) (hj : j < m) (h : yp (F j) i = false) : zT i F m = false := by
 induction m with
 | zero => omega
 | succ m ih =>
  unfold zT
  by_cases e : j = m
  ·subst e; rw [h]; simp
  ·rw [ih (by omega)]; simp
theorem own_below {w w' : World} {base e size n : Nat} {v : Value} {xs : List Value} (h : w.ownsRow base e size v n xs) (hb : Below w.heap.size w w') : w'.ownsRow base e size v n xs :=
 h.kept (row := none) ⟨hb.os, hb.tape, hb.output, hb.size, fun k hk _ => hb.block k hk⟩ (by cases hv : v.ownBlock <;> simp)
structure VRel (i : Ins) (b1 b3 : Nat) (j : Nat) (v : Value) (w0 w : World) : Prop where
 fa : Hid (zT i (z7 i.op) j = true)
 own : w.ownsRow (b3 + 1) 5 1 v (zw i (z7 i.op) j).length (bv (zw i (z7 i.op) j))
 h1 : w.heap[b1]? = some (.cells (ze i) 53 (0, 0))
 h3 : w.heap[b3]? = some (.cells #[vi (fld i.op 0), vi (fld i.op 1), vi (fld i.op 2), vi (fld i.op 3)] 23 (0, 0))
 hb : Below w0.heap.size w0 w
 le : w0.heap.size ≤ b1
 lt : b1 < b3
 gt : b3 + 1 < w.heap.size
theorem VRel.step {i : Ins} {b1 b3 j : Nat} {v v4 : Value} {w0 w w2 w3 w4 : World} (hV : VRel i b1 b3 j v w0 w) (hft : yp (z7 i.op j) i = true) (hb2 : Below w.heap.size w w2) (hb3 : Below w2.heap.size w2 w3)
  (hg : w3.grownBy w4 v.ownBlock)
  (hown : w4.ownsRow (b3 + 1) 5 1 v4 ((zw i (z7 i.op) j).length + (yI (z7 i.op j) i).length) (bv (zw i (z7 i.op) j) ++ bv (yI (z7 i.op j) i))) :
  VRel i b1 b3 (j + 1) v4 w0 w4 := by
 have h23 : Below w.heap.size w w3 := hb2.trans (hb3.mono hb2.size)
 have hl := hV.own.lt
 have hgt := hV.gt
 have hlt := hV.lt
 have hs3 := h23.size
 have hsz := hV.hb.size
 have hbl : ∀ b, b ≤ b3 → w4.heap[b]? = w.heap[b]? := fun b hb => by
  rw [hg.block b (by omega) (fun e => by have := (hl b e.symm).1; omega), h23.block b (by omega)]
 refine ⟨zh ?_, ?_, (hbl b1 (by omega)).trans hV.h1, (hbl b3 (zn _)).trans hV.h3, ?_, hV.le, hV.lt, by have := hg.size; omega⟩
 ·unfold zT; rw [hV.fa.out, hft]; rfl
 ·have e : zw i (z7 i.op) (j + 1) = zw i (z7 i.op) j ++ yI (z7 i.op j) i := rfl
  rw [e, List.length_append]
  simpa [bv] using hown
 ·refine (hV.hb.trans (h23.mono hsz)).grown hg ?_ (fun k hk => ?_)
  ·have := hs3; omega
  ·have := (hl k hk).1
   have := hV.le
   omega
theorem info5 : (Tryz.prog.info? 5).map (fun i => (i.zero, i.size, i.bytes)) = some (some (.int .u8 0), 1, 1) := by kernel_rfl
set_option maxRecDepth 100000 in
set_option maxHeartbeats 1000000 in
theorem valid_none (i : Ins) (hf : fOf i.op = none) (w : World) :
  Calls Tryz.prog 119 #[.agg #[.int .i64 (i).op, .int .i64 (i).d, .int .i64 (i).s, .int .u16 (i).imm, .int .u16 (i).aux, .int .i64 (i).bank, .int .i64 (i).size]] w fun e w' => e = .returned (.bool false) ∧ Below w.heap.size w w' := by
 have HF := zh hf
 clear hf
 go_enter Tryz.func119, Tryz.ntmps119
 go_wp2_with (first | (refine stN ?_) | (go_at_call 135; refine (xm _ _).mono ?_; rintro e w1 ⟨rfl, hb1⟩; rw [HF.out, Option.isSome_none]))
 go_ret
 exact ⟨rfl, (((Below.refl _ _).alloc (zn _) _).trans (hb1.mono (by simp))).alloc (by have := hb1.size; simp at this; omega) _⟩
set_option maxRecDepth 100000 in
set_option maxHeartbeats 1000000 in
theorem valid_some (i : Ins) (hi : i.Ok) (k : Nat) (hf : fOf i.op = some k) (w : World) :
  Calls Tryz.prog 119 #[.agg #[.int .i64 (i).op, .int .i64 (i).d, .int .i64 (i).s, .int .u16 (i).imm, .int .u16 (i).aux, .int .i64 (i).bank, .int .i64 (i).size]] w fun e w' => e = .returned (.bool (zy i)) ∧ Below w.heap.size w w' := by
 obtain ⟨o0, o1, -, -, -⟩ := xR hf
 have hidx := index_F (fld i.op 0) (fld i.op 1) (fld i.op 2) (fld i.op 3)
 obtain ⟨i5, hi5, iz0, iz1, iz2⟩ := info_parts info5
 have HF := zh hf
 clear hf
 go_enter Tryz.func119, Tryz.ntmps119
 go_wp2_with (first | (refine stN ?_) | (go_at_call 135; refine (xm _ _).mono ?_; rintro e w1 ⟨rfl, hb1⟩; rw [HF.out, Option.isSome_some]; have hz1 := hb1.size; simp at hz1; have hcX := fun o => (World.cell?_alloc_lt w1 (Obj.cells #[vi (fld i.op 0), vi (fld i.op 1), vi (fld i.op 2), vi (fld i.op 3)] 23) ⟨w.heap.size, o, none⟩ (by show w.heap.size < _; omega)).trans (cell_of_row w1 w.heap.size o _ _ _ ((hb1.block _ (by simp)).trans (heap_alloc_new _ _)))))
 obtain ⟨hz1, hcX⟩ := (⟨hz1, hcX⟩ : _ ∧ _)
 have hB1 : w1.heap[w.heap.size]? = some (.cells (ze i) 53 (0, 0)) := (hb1.block _ (by simp)).trans (heap_alloc_new _ _)
 clear hcX
 have HB1 := zh hB1
 clear hB1
 go_loopw [5, 21] (fun v x wr => ∃ j : Nat, j ≤ 4 ∧ x = .int .i64 j ∧ VRel i w.heap.size w1.heap.size j v w wr) (fun _ x _ => 4 - (intOf x).toNat)
 case atStart =>
  refine ⟨0, by omega, rfl, zh rfl, ?_, ?_, ?_, ?_, zn _, by omega, by simp <;> omega⟩
  ·have h := World.ownsRow_lit (base := w1.heap.size + 1) (size := 1) (e := 5) (w1.alloc (Obj.cells #[vi (fld i.op 0), vi (fld i.op 1), vi (fld i.op 2), vi (fld i.op 3)] 23)) #[.int .u8 i.op] 1 (by simp) (by decide) rfl
   simp only [World.size_alloc] at h
   exact h
  ·exact (heap_old2 (by omega)).trans HB1.out
  ·exact heap_alloc2_old _ _ _
  ·exact ((((Below.refl _ _).alloc (zn _) _).trans (hb1.mono (by simp))).alloc (by omega) _).alloc (by simp <;> omega) _
 case round =>
  obtain ⟨j, hj, rfl, hV⟩ := hrel
  clear HB1
  by_cases hj4 : j < 4
  ·have hix := hidx j hj4
   clear hidx
   obtain ⟨hfa, hown, hB1, hB3, hbr, hle, hlt, hgt⟩ := hV
   have HOWN := zh hown
   have HB1 := zh hB1
   have HB3 := zh hB3
   clear hown hB1 hB3
   by_cases hft : yp (z7 i.op j) i = true
   ·have hPut := fun W => put_any (z7 i.op j) i hi hft W
    have HP := zh hPut
    have HFT := zh hft
    clear hPut hft
    have hBs : (zw i (z7 i.op) j).length ≤ 9 := by have := bytesTo_len i (z7 i.op) j; omega
    have hPs := put_len (z7 i.op j) i
    go_wp2_with (first
     | (refine wpList_load_row rfl _ (.tmp 1) rfl _ rfl _ _ _ _ HB1.out Tryz.underlying53 rfl ?_ ?_; kernel_rfl)
     | (refine wpList_load_row rfl _ (.tmp 1) rfl _ rfl _ _ _ _ ((hb2.block _ (by omega)).trans HB1.out) Tryz.underlying53 rfl ?_ ?_; kernel_rfl)
     | (go_at_call 136; refine (fits_any (z7 i.op j) i hi _).mono ?_; rintro e w2 ⟨rfl, hb2⟩; rw [HFT.out]; have hz2 := hb2.size)
     | (go_at_call 137; refine (HP.out _).mono ?_; rintro e w3 ⟨v3, rfl, hown3, hb3⟩; have hz3 := hb3.size; have hownA := own_below (own_below HOWN.out hb2) hb3; have HOWN3 := zh hown3; have HOWNA := zh hownA; clear hown3 hownA)
     | (at_builtin; go_must (refine wpList_append_rows rfl _ _ _ rfl (w1.heap.size + 1) 5 i5 (.int .u8 0) 1 Tryz.underlying73 hi5 iz0 iz1 iz2 rfl _ _ _ rfl HOWNA.out _ _ _ _ rfl HOWN3.out (bv_one _) ?_ ?_ ?_ ?_); (unfold maxLen; omega); omega; omega; intro v4 w4 hown4 hg4; have HOWN4 := zh hown4; clear hown4))
    go_roundw
    case rel => exact ⟨j + 1, by omega, by go_num, (VRel.step ⟨hfa, HOWN.out, HB1.out, HB3.out, hbr, hle, hlt, hgt⟩ HFT.out hb2 hb3 hg4 HOWN4.out)⟩
    case measure => simp [intOf]; omega
   ·have hft : yp (z7 i.op j) i = false := by simpa using hft
    have HFT := zh hft
    clear hft
    go_wp2_with (first | (refine wpList_load_row rfl _ (.tmp 1) rfl _ rfl _ _ _ _ HB1.out Tryz.underlying53 rfl ?_ ?_; kernel_rfl) | (go_at_call 136; refine (fits_any (z7 i.op j) i hi _).mono ?_; rintro e w2 ⟨rfl, hb2⟩; rw [HFT.out]))
    go_ret
    refine ⟨?_, hbr.trans (hb2.mono (by omega))⟩
    have : zy i = false := by unfold zy; rw [fitAll_false i _ j 4 hj4 HFT.out]; simp
    rw [this]
    rfl
  ·have ej : j = 4 := by omega
   subst ej
   obtain ⟨hfa, hown, hB1, hB3, hbr, hle, hlt, hgt⟩ := hV
   have HOWN := zh hown
   have HB1 := zh hB1
   have HB3 := zh hB3
   clear hown hB1 hB3 hidx
   have hL := bytesTo_le i (z7 i.op) 0 4 (by omega)
   have hL9 := bytesTo_len i (z7 i.op) 4
   have hRd := fun W => read_any (strOf (zw i (z7 i.op) 4)) (fld i.op 0) (fld i.op 1) (fld i.op 2) (fld i.op 3) (by rw [strOf_size]; exact hL) (by rw [strOf_size]; omega)
    (fun m hm => by rw [strOf_size, rdTo_len _ _ i]; exact bytesTo_le i (z7 i.op) m 4 hm) W
   have HRD := zh hRd
   clear hRd
   go_wp2_with fail
   refine wp_region_noPanic ?_
   refine wp_region_held_drew (S := fun w' => w'.heap[w.heap.size]? = some (.cells (ze i) 53 (0, 0)) ∧ w'.heap[w1.heap.size]? = some (.cells #[vi (fld i.op 0), vi (fld i.op 1), vi (fld i.op 2), vi (fld i.op 3)] 23 (0, 0)) ∧
    w'.ownsRow (w1.heap.size + 1) 5 1 u5 (zw i (z7 i.op) 4).length (bv (zw i (z7 i.op) 4))) (by kernel_rfl) ⟨HB1.out, HB3.out, HOWN.out⟩ (fun hHeld => ?_)
   (refine tak 0 ?_)
   (refine wpAnyH_take (i := 1) (oi := _) (v := (.string (strOf (zw i (z7 i.op) 4)))) rfl (by kernel_rfl) (by kernel_rfl) (by kernel_rfl) (fun _ _ _ h => h) (Or.inl ⟨by rfl, ?_⟩) (by assumption) ?_; (focus (intro w' hS; exact exec_convert _ _ _ rfl u5 _ rfl (run_conv_row w' _ _ 5 Tryz.underlying73 Tryz.underlying5 Tryz.underlying9 _ _ _ _ hS.2.2))); (refine pts ?_))
   (refine wpAnyH_take (i := 2) (oi := _) (v := (.agg #[vi (fld i.op 0), vi (fld i.op 1), vi (fld i.op 2), vi (fld i.op 3)])) rfl (by kernel_rfl) (by kernel_rfl) (by kernel_rfl) (fun _ _ _ h => h) (Or.inl ⟨by rfl, ?_⟩) (by assumption) ?_; (focus (intro w' hS; exact exec_load_row _ _ rfl _ rfl _ _ _ _ hS.2.1 Tryz.underlying23 rfl (by kernel_rfl))); (refine pts ?_))
   (refine wpAnyH_take (i := 4) (oi := _) (v := (.agg (ze i))) rfl (by kernel_rfl) (by kernel_rfl) (by kernel_rfl) (fun _ _ _ h => h) (Or.inl ⟨by rfl, ?_⟩) (by assumption) ?_; (focus (intro w' hS; exact exec_load_row _ _ rfl _ rfl _ _ _ _ hS.1 Tryz.underlying53 rfl (by kernel_rfl))); (refine pts ?_))
   (refine wpAnyH_ready (rs := [3]) (by kernel_rfl) (by simp) (AllReadyH.cons (o := _) rfl (fun K hK => ?_) AllReadyH.nil))
   rw [if_pos (by rfl)]
   go_simp
   refine (HRD.out _).mono ?_
   rintro e w5 ⟨rfl, hb5⟩
   have hd : wr.drew.heap.size = wr.heap.size := rfl
   refine hK.out _ _ ⟨(hb5.block _ (by omega)).trans hHeld.1, (hb5.block _ (by omega)).trans hHeld.2.1, own_below hHeld.2.2 hb5⟩ (fun hHeld => ?_)
   (refine pts ?_)
   have he := eql_ins
   (refine tak 5 ?_)
   (refine tak 6 ?_)
   refine wpAnyH_done (by kernel_rfl) ?_ _
   refine NoPanic.normal ?_
   clear he
   go_wp2
   go_ret
   refine ⟨?_, hbr.drew.trans (hb5.mono hbr.size)⟩
   have : zy i = decide (yv (zw i (z7 i.op) 4) (z7 i.op) = i) := by unfold zy; rw [HF.out, hfa.out]; rfl
   rw [this]
   rfl
end Go.Proofs.YteofmaiojepdkaaGreat
namespace Go.Proofs.YteofmaiojepdkaaGreat
open Go.RowKit
theorem xd (i : Ins) (hi : i.Ok) (w : World) :
  Calls Tryz.prog 119 #[.agg #[.int .i64 (i).op, .int .i64 (i).d, .int .i64 (i).s, .int .u16 (i).imm, .int .u16 (i).aux, .int .i64 (i).bank, .int .i64 (i).size]] w fun e w' => e = .returned (.bool (zy i)) ∧ Below w.heap.size w w' := by
 cases hf : fOf i.op with
 | none =>
  have : zy i = false := by unfold zy; rw [hf]; rfl
  rw [this]; exact valid_none i hf w
 | some k => exact valid_some i hi k hf w
def encB (i : Ins) : List Int := if (fOf i.op).isSome && zy i then zw i (z7 i.op) 4 else []
def encE (i : Ins) : Int := if (fOf i.op).isSome then (if zy i then 0 else 3) else 11
end Go.Proofs.YteofmaiojepdkaaGreat
namespace Go.Proofs.YteofmaiojepdkaaGreat
open Go.RowKit
theorem fAt_flds : ∀ m, m < 21 → ∀ j, j < 4 → 0 ≤ fAt m (j + 2) ∧ fAt m (j + 2) ≤ 9 := by decide
theorem put_width (f : Int) (i : Ins) (h0 : 0 ≤ f) (h9 : f ≤ 9) : ((yI f i).length : Int) = xO f := by
 have : f = 0 ∨ f = 1 ∨ f = 2 ∨ f = 3 ∨ f = 4 ∨ f = 5 ∨ f = 6 ∨ f = 7 ∨ f = 8 ∨ f = 9 := by omega
 rcases this with rfl | rfl | rfl | rfl | rfl | rfl | rfl | rfl | rfl | rfl <;> rfl
theorem fldF_some {op : Int} {k : Nat} (h : fOf op = some k) (j : Nat) (hj : j < 4) : z7 op j = fAt k (j + 2) := by
 unfold z7
 have : j = 0 ∨ j = 1 ∨ j = 2 ∨ j = 3 := by omega
 rcases this with rfl | rfl | rfl | rfl <;> exact zf h _
theorem size_len {op : Int} {k : Nat} (h : fOf op = some k) (i : Ins) : ((zw i (z7 op) 4).length : Int) = zx op := by
 have hk := (xR h).2.2.1
 have e : ∀ j, j < 4 → ((yI (z7 op j) i).length : Int) = xO (fAt k (j + 2)) := fun j hj => by
  rw [fldF_some h j hj]
  obtain ⟨a, b⟩ := fAt_flds k hk j hj
  exact put_width _ i a b
 have h0 := e 0 (by omega)
 have h1 := e 1 (by omega)
 have h2 := e 2 (by omega)
 have h3 := e 3 (by omega)
 show (((((([i.op] ++ yI (z7 op 0) i) ++ yI (z7 op 1) i) ++ yI (z7 op 2) i) ++ yI (z7 op 3) i).length : Nat) : Int) = _
 have es : zx op = 1 + xO (fAt k 2) + xO (fAt k 3) + xO (fAt k 4) + xO (fAt k 5) := by unfold zx; rw [h]
 rw [es]
 simp only [Nat.zero_add, Nat.reduceAdd] at h0 h1 h2 h3
 simp only [List.length_append, List.length_cons, List.length_nil]
 omega
theorem sizeS_bd (op : Int) : 0 ≤ zx op ∧ zx op ≤ 9 := by
 unfold zx
 split
 ·omega
 ·rename_i k _
  have := xN (fAt k 2); have := xN (fAt k 3); have := xN (fAt k 4); have := xN (fAt k 5)
  omega
theorem extendS_bd (n : Int) (h0 : 0 ≤ n) (h1 : n < 256) : 0 ≤ zH n ∧ zH n < 65536 := by unfold zH; split <;> omega
theorem ok_byte (n : Int) (h0 : 0 ≤ n) (h1 : n < 256) : ja n := ⟨by omega, by omega⟩
theorem rdStep_ok (s : ByteArray) (f : Int) (k : Nat) (i : Ins) (h : i.Ok) : (yi (byt s) f k i).2.Ok := by
 obtain ⟨b00, b01⟩ := zL s k
 obtain ⟨b10, b11⟩ := zL s (k + 1)
 have he := extendS_bd _ b00 b01
 have hw : 0 ≤ byt s k + 256 * byt s (k + 1) ∧ byt s k + 256 * byt s (k + 1) < 65536 := ⟨by omega, by omega⟩
 have hb : 0 ≤ byt s k ∧ byt s k < 65536 := ⟨by omega, by omega⟩
 have o1 := ok_byte _ b00 b01
 have o2 := ok_byte (byt s k / 16) (by omega) (by omega)
 have o3 := ok_byte (byt s k % 16) (by omega) (by omega)
 obtain ⟨p0, p1, p2, p3, p4, p5, p6⟩ := h
 unfold yi
 split
 ·exact ⟨p0, o2, o3, p3, p4, p5, p6⟩
 split
 ·exact ⟨p0, o1, p2, p3, p4, p5, p6⟩
 split
 ·exact ⟨p0, p1, o1, p3, p4, p5, p6⟩
 split
 ·exact { op := p0, d := p1, s := p2, imm := hb, aux := p4, bank := p5, size := p6 }
 split
 ·refine ⟨p0, p1, p2, ?_, p4, p5, p6⟩
  simpa using he
 split
 ·refine ⟨p0, p1, p2, ?_, p4, p5, p6⟩
  exact hw
 split
 ·exact ⟨p0, p1, p2, p3, hw, p5, p6⟩
 split
 ·exact ⟨p0, p1, p2, p3, p4, o1, p6⟩
 ·exact ⟨p0, p1, p2, p3, p4, p5, p6⟩
theorem rdTo_ok (s : ByteArray) (F : Nat → Int) (j : Nat) : (xz (byt s) F (y9 s) j).2.Ok := by
 induction j with
 | zero =>
  have b0 := zL s 0
  have b1 := sizeS_bd (byt s 0)
  have z : ja 0 := ok_byte 0 (by omega) (by omega)
  exact ⟨ok_byte _ b0.1 b0.2, z, z, ⟨by show (0 : Int) ≤ 0; omega, by show (0 : Int) < 65536; omega⟩, ⟨by show (0 : Int) ≤ 0; omega, by show (0 : Int) < 65536; omega⟩, z, ok_byte _ b1.1 (by show zx (byt s 0) < 256; omega)⟩
 | succ j ih => exact rdStep_ok s _ _ _ ih
def yP (s : ByteArray) : Ins := (xz (byt s) (z7 (byt s 0)) (y9 s) 4).2
def yr : Ins := ⟨0, 0, 0, 0, 0, 0, 0⟩
def xL (s : ByteArray) : Int := if s.size = 0 then 10 else if (fOf (byt s 0)).isSome then (if (s.size : Int) < zx (byt s 0) then 10 else if zy (yP s) then 0 else 11) else 11
def xa (s : ByteArray) : Ins := if xL s = 0 then yP s else yr
end Go.Proofs.YteofmaiojepdkaaGreat
namespace Go.Proofs.YteofmaiojepdkaaGreat
open Go.RowKit
def fmtTab : List Int := [
 1, 1, 1, 1, 1, 1, 0, 0, 0, 0, 0, 0, 0, 0, 0, 0,  2, 2, 2, 2, 3, 3, 0, 0, 0, 0, 0, 0, 0, 0, 0, 0,
 4, 4, 4, 4, 4, 4, 4, 4, 4, 4, 4, 4, 4, 4, 4, 0,  5, 5, 5, 5, 5, 5, 5, 5, 5, 5, 5, 5, 5, 5, 5, 0,
 6, 6, 6, 6, 6, 6, 6, 6, 6, 6, 6, 6, 6, 6, 6, 0,  7, 7, 7, 7, 9, 9, 9, 9, 8, 8, 8, 8, 0, 0, 0, 0,
 10, 10, 10, 10, 10, 10, 10, 10, 10, 10, 10, 10, 10, 10, 0, 0,  11, 11, 11, 11, 11, 11, 11, 11, 11, 11, 11, 11, 11, 11, 0, 0,
 10, 11, 11, 12, 12, 13, 14, 0, 0, 0, 0, 0, 0, 0, 0, 0,  15, 15, 16, 16, 0, 0, 17, 0, 0, 0, 0, 0, 0, 0, 0, 0,
 15, 15, 18, 18]
def zq (op : Int) : Int := if 0 ≤ op ∧ op ≤ 163 then fmtTab.getD op.toNat 0 else 0
theorem fmt_out (op : Int) (h : op < 0 ∨ 163 < op) (w : World) :
  Calls Tryz.prog 59 #[.int .i64 op] w fun e w' => e = .returned (.int .i64 0) ∧ Below w.heap.size w w' := by
 rcases h with h | h
 ·go_enter Tryz.func59, Tryz.ntmps59
  go_wp2
  go_ret
  exact ⟨rfl, Below.refl _ _⟩
 ·have h' : ¬ op < 0 := by omega
  go_enter Tryz.func59, Tryz.ntmps59
  go_wp2
  go_ret
  exact ⟨rfl, Below.refl _ _⟩
theorem fmt_leaf (op : Int) (h0 : 0 ≤ op) (h1 : op ≤ 163) (c : Int) (h : fmtTab.getD op.toNat 0 = c) : Ending.returned (.int .i64 c) = .returned (.int .i64 (zq op)) := by
 unfold zq; rw [if_pos ⟨h0, h1⟩, h]
theorem xK (c lo hi : Nat) (f : Int) (h : ∀ n, n < 164 → n / 16 = c → lo ≤ n % 16 → n % 16 ≤ hi → fmtTab.getD n 0 = f) (op : Int) (h0 : 0 ≤ op) (h1 : op ≤ 163) (hq : op / 16 = c) (hl : lo ≤ op % 16) (hh : op % 16 ≤ hi) : fmtTab.getD op.toNat 0 = f :=
 h op.toNat (by omega) (by omega) (by omega) (by omega)
theorem xy (n : Int) : bits .and .i64 n 15 = n % 16 := by
 have h15 : (BitVec.ofInt 64 15).toNat = 2 ^ 4 - 1 := by decide
 have key : (BitVec.ofInt 64 n &&& BitVec.ofInt 64 15).toNat = (n % ((2 ^ 64 : Nat) : Int)).toNat % 2 ^ 4 := by
  rw [BitVec.toNat_and, BitVec.toNat_ofInt, h15, Nat.and_two_pow_sub_one_eq_mod]
 show IntKind.i64.wrap ((BitVec.ofInt 64 n &&& BitVec.ofInt 64 15).toNat : Nat) = n % 16
 rw [key, IntKind.wrap_i64]
 omega
set_option maxHeartbeats 1000000 in
theorem fmt_0 (op : Int) (h0 : 0 ≤ op) (h1 : op ≤ 163) (hq : op / 16 = 0) (w : World) :
  Calls Tryz.prog 59 #[.int .i64 op] w fun e w' => e = .returned (.int .i64 (zq op)) ∧ Below w.heap.size w w' := by
 have hand := xy op
 have r0 : 0 ≤ op % 16 := by omega
 have r1 : op % 16 < 16 := by omega
 go_enter Tryz.func59, Tryz.ntmps59
 go_wp2
 all_goals (go_ret; refine ⟨?_, Below.refl _ _⟩; exact fmt_leaf op h0 h1 _ (by first | exact xK 0 0 5 1 (by decide +kernel) op h0 h1 hq (by omega) (by omega) | exact xK 0 6 15 0 (by decide +kernel) op h0 h1 hq (by omega) (by omega)))
set_option maxHeartbeats 1000000 in
theorem fmt_1 (op : Int) (h0 : 0 ≤ op) (h1 : op ≤ 163) (hq : op / 16 = 1) (w : World) :
  Calls Tryz.prog 59 #[.int .i64 op] w fun e w' => e = .returned (.int .i64 (zq op)) ∧ Below w.heap.size w w' := by
 have hand := xy op
 have r0 : 0 ≤ op % 16 := by omega
 have r1 : op % 16 < 16 := by omega
 go_enter Tryz.func59, Tryz.ntmps59
 go_wp2
 all_goals (go_ret; refine ⟨?_, Below.refl _ _⟩; exact fmt_leaf op h0 h1 _ (by first | exact xK 1 0 3 2 (by decide +kernel) op h0 h1 hq (by omega) (by omega) | exact xK 1 4 5 3 (by decide +kernel) op h0 h1 hq (by omega) (by omega) | exact xK 1 6 15 0 (by decide +kernel) op h0 h1 hq (by omega) (by omega)))
set_option maxHeartbeats 1000000 in
theorem fmt_2 (op : Int) (h0 : 0 ≤ op) (h1 : op ≤ 163) (hq : op / 16 = 2) (w : World) :
  Calls Tryz.prog 59 #[.int .i64 op] w fun e w' => e = .returned (.int .i64 (zq op)) ∧ Below w.heap.size w w' := by
 have hand := xy op
 have r0 : 0 ≤ op % 16 := by omega
 have r1 : op % 16 < 16 := by omega
 go_enter Tryz.func59, Tryz.ntmps59
 go_wp2
 all_goals (go_ret; refine ⟨?_, Below.refl _ _⟩; exact fmt_leaf op h0 h1 _ (by first | exact xK 2 0 14 4 (by decide +kernel) op h0 h1 hq (by omega) (by omega) | exact xK 2 15 15 0 (by decide +kernel) op h0 h1 hq (by omega) (by omega)))
set_option maxHeartbeats 1000000 in
theorem fmt_3 (op : Int) (h0 : 0 ≤ op) (h1 : op ≤ 163) (hq : op / 16 = 3) (w : World) :
  Calls Tryz.prog 59 #[.int .i64 op] w fun e w' => e = .returned (.int .i64 (zq op)) ∧ Below w.heap.size w w' := by
 have hand := xy op
 have r0 : 0 ≤ op % 16 := by omega
 have r1 : op % 16 < 16 := by omega
 go_enter Tryz.func59, Tryz.ntmps59
 go_wp2
 all_goals (go_ret; refine ⟨?_, Below.refl _ _⟩; exact fmt_leaf op h0 h1 _ (by first | exact xK 3 0 14 5 (by decide +kernel) op h0 h1 hq (by omega) (by omega) | exact xK 3 15 15 0 (by decide +kernel) op h0 h1 hq (by omega) (by omega)))
set_option maxHeartbeats 1000000 in
theorem fmt_4 (op : Int) (h0 : 0 ≤ op) (h1 : op ≤ 163) (hq : op / 16 = 4) (w : World) :
  Calls Tryz.prog 59 #[.int .i64 op] w fun e w' => e = .returned (.int .i64 (zq op)) ∧ Below w.heap.size w w' := by
 have hand := xy op
 have r0 : 0 ≤ op % 16 := by omega
 have r1 : op % 16 < 16 := by omega
 go_enter Tryz.func59, Tryz.ntmps59
 go_wp2
 all_goals (go_ret; refine ⟨?_, Below.refl _ _⟩; exact fmt_leaf op h0 h1 _ (by first | exact xK 4 0 14 6 (by decide +kernel) op h0 h1 hq (by omega) (by omega) | exact xK 4 15 15 0 (by decide +kernel) op h0 h1 hq (by omega) (by omega)))
set_option maxHeartbeats 1000000 in
theorem fmt_5 (op : Int) (h0 : 0 ≤ op) (h1 : op ≤ 163) (hq : op / 16 = 5) (w : World) :
  Calls Tryz.prog 59 #[.int .i64 op] w fun e w' => e = .returned (.int .i64 (zq op)) ∧ Below w.heap.size w w' := by
 have hand := xy op
 have r0 : 0 ≤ op % 16 := by omega
 have r1 : op % 16 < 16 := by omega
 go_enter Tryz.func59, Tryz.ntmps59
 go_wp2
 all_goals (go_ret; refine ⟨?_, Below.refl _ _⟩; exact fmt_leaf op h0 h1 _ (by first | exact xK 5 0 3 7 (by decide +kernel) op h0 h1 hq (by omega) (by omega) | exact xK 5 4 7 9 (by decide +kernel) op h0 h1 hq (by omega) (by omega) | exact xK 5 8 11 8 (by decide +kernel) op h0 h1 hq (by omega) (by omega) | exact xK 5 12 15 0 (by decide +kernel) op h0 h1 hq (by omega) (by omega)))
set_option maxHeartbeats 1000000 in
theorem fmt_6 (op : Int) (h0 : 0 ≤ op) (h1 : op ≤ 163) (hq : op / 16 = 6) (w : World) :
  Calls Tryz.prog 59 #[.int .i64 op] w fun e w' => e = .returned (.int .i64 (zq op)) ∧ Below w.heap.size w w' := by
 have hand := xy op
 have r0 : 0 ≤ op % 16 := by omega
 have r1 : op % 16 < 16 := by omega
 go_enter Tryz.func59, Tryz.ntmps59
 go_wp2
 all_goals (go_ret; refine ⟨?_, Below.refl _ _⟩; exact fmt_leaf op h0 h1 _ (by first | exact xK 6 0 13 10 (by decide +kernel) op h0 h1 hq (by omega) (by omega) | exact xK 6 14 15 0 (by decide +kernel) op h0 h1 hq (by omega) (by omega)))
set_option maxHeartbeats 1000000 in
theorem fmt_7 (op : Int) (h0 : 0 ≤ op) (h1 : op ≤ 163) (hq : op / 16 = 7) (w : World) :
  Calls Tryz.prog 59 #[.int .i64 op] w fun e w' => e = .returned (.int .i64 (zq op)) ∧ Below w.heap.size w w' := by
 have hand := xy op
 have r0 : 0 ≤ op % 16 := by omega
 have r1 : op % 16 < 16 := by omega
 go_enter Tryz.func59, Tryz.ntmps59
 go_wp2
 all_goals (go_ret; refine ⟨?_, Below.refl _ _⟩; exact fmt_leaf op h0 h1 _ (by first | exact xK 7 0 13 11 (by decide +kernel) op h0 h1 hq (by omega) (by omega) | exact xK 7 14 15 0 (by decide +kernel) op h0 h1 hq (by omega) (by omega)))
set_option maxHeartbeats 1000000 in
theorem fmt_8 (op : Int) (h0 : 0 ≤ op) (h1 : op ≤ 163) (hq : op / 16 = 8) (w : World) :
  Calls Tryz.prog 59 #[.int .i64 op] w fun e w' => e = .returned (.int .i64 (zq op)) ∧ Below w.heap.size w w' := by
 have hand := xy op
 have r0 : 0 ≤ op % 16 := by omega
 have r1 : op % 16 < 16 := by omega
 go_enter Tryz.func59, Tryz.ntmps59
 go_wp2
 go_ret
 refine ⟨?_, (Below.refl _ _).alloc (zn _) _⟩
 obtain ⟨m, rfl⟩ : ∃ m : Nat, op = 128 + (m : Int) := ⟨(op - 128).toNat, by omega⟩
 have hm : m = 0 ∨ m = 1 ∨ m = 2 ∨ m = 3 ∨ m = 4 ∨ m = 5 ∨ m = 6 ∨ m = 7 ∨ m = 8 ∨ m = 9 ∨ m = 10 ∨ m = 11 ∨ m = 12 ∨ m = 13 ∨ m = 14 ∨ m = 15 := by omega
 rcases hm with rfl | rfl | rfl | rfl | rfl | rfl | rfl | rfl | rfl | rfl | rfl | rfl | rfl | rfl | rfl | rfl <;> first | rfl | (exfalso; omega)
set_option maxHeartbeats 1000000 in
theorem fmt_9 (op : Int) (h0 : 0 ≤ op) (h1 : op ≤ 163) (hq : op / 16 = 9) (w : World) :
  Calls Tryz.prog 59 #[.int .i64 op] w fun e w' => e = .returned (.int .i64 (zq op)) ∧ Below w.heap.size w w' := by
 have hand := xy op
 have r0 : 0 ≤ op % 16 := by omega
 have r1 : op % 16 < 16 := by omega
 go_enter Tryz.func59, Tryz.ntmps59
 go_wp2
 go_ret
 refine ⟨?_, (Below.refl _ _).alloc (zn _) _⟩
 obtain ⟨m, rfl⟩ : ∃ m : Nat, op = 144 + (m : Int) := ⟨(op - 144).toNat, by omega⟩
 have hm : m = 0 ∨ m = 1 ∨ m = 2 ∨ m = 3 ∨ m = 4 ∨ m = 5 ∨ m = 6 ∨ m = 7 ∨ m = 8 ∨ m = 9 ∨ m = 10 ∨ m = 11 ∨ m = 12 ∨ m = 13 ∨ m = 14 ∨ m = 15 := by omega
 rcases hm with rfl | rfl | rfl | rfl | rfl | rfl | rfl | rfl | rfl | rfl | rfl | rfl | rfl | rfl | rfl | rfl <;> first | rfl | (exfalso; omega)
set_option maxHeartbeats 1000000 in
theorem fmt_10 (op : Int) (h0 : 0 ≤ op) (h1 : op ≤ 163) (hq : op / 16 = 10) (w : World) :
  Calls Tryz.prog 59 #[.int .i64 op] w fun e w' => e = .returned (.int .i64 (zq op)) ∧ Below w.heap.size w w' := by
 have hand := xy op
 have r0 : 0 ≤ op % 16 := by omega
 have r1 : op % 16 < 16 := by omega
 go_enter Tryz.func59, Tryz.ntmps59
 go_wp2
 go_ret
 refine ⟨?_, (Below.refl _ _).alloc (zn _) _⟩
 obtain ⟨m, rfl⟩ : ∃ m : Nat, op = 160 + (m : Int) := ⟨(op - 160).toNat, by omega⟩
 have hm : m = 0 ∨ m = 1 ∨ m = 2 ∨ m = 3 ∨ m = 4 ∨ m = 5 ∨ m = 6 ∨ m = 7 ∨ m = 8 ∨ m = 9 ∨ m = 10 ∨ m = 11 ∨ m = 12 ∨ m = 13 ∨ m = 14 ∨ m = 15 := by omega
 rcases hm with rfl | rfl | rfl | rfl | rfl | rfl | rfl | rfl | rfl | rfl | rfl | rfl | rfl | rfl | rfl | rfl <;> first | rfl | (exfalso; omega)
theorem xo (op : Int) (w : World) :
  Calls Tryz.prog 59 #[.int .i64 op] w fun e w' => e = .returned (.int .i64 (zq op)) ∧ Below w.heap.size w w' := by
 by_cases h : 0 ≤ op ∧ op ≤ 163
 ·obtain ⟨h0, h1⟩ := h
  have : op / 16 = 0 ∨ op / 16 = 1 ∨ op / 16 = 2 ∨ op / 16 = 3 ∨ op / 16 = 4 ∨ op / 16 = 5 ∨ op / 16 = 6 ∨ op / 16 = 7 ∨ op / 16 = 8 ∨ op / 16 = 9 ∨ op / 16 = 10 := by omega
  rcases this with h | h | h | h | h | h | h | h | h | h | h
  ·exact fmt_0 op h0 h1 h w
  ·exact fmt_1 op h0 h1 h w
  ·exact fmt_2 op h0 h1 h w
  ·exact fmt_3 op h0 h1 h w
  ·exact fmt_4 op h0 h1 h w
  ·exact fmt_5 op h0 h1 h w
  ·exact fmt_6 op h0 h1 h w
  ·exact fmt_7 op h0 h1 h w
  ·exact fmt_8 op h0 h1 h w
  ·exact fmt_9 op h0 h1 h w
  ·exact fmt_10 op h0 h1 h w
 ·have e : zq op = 0 := by unfold zq; rw [if_neg h]
  rw [e]; exact fmt_out op (by omega) w
end Go.Proofs.YteofmaiojepdkaaGreat
namespace Go.Proofs.YteofmaiojepdkaaGreat
open Go.RowKit
def y4 : List Int := [0, 1, 2, 2, 2, 3, 4, 3, 4, 4, 2, 3, 4, 7, 4, 3, 5, 6, 3]
def zc (op : Int) : Int := y4.getD (zq op).toNat 0
theorem fmtTab_bd : ∀ n, n < 164 → 0 ≤ fmtTab.getD n 0 ∧ fmtTab.getD n 0 ≤ 18 := by decide +kernel
theorem fmtS_bd (op : Int) : 0 ≤ zq op ∧ zq op ≤ 18 := by
 unfold zq
 split
 ·exact fmtTab_bd _ (by omega)
 ·omega
theorem rsize_at (n : Int) : (#[Value.int .i64 0, .int .i64 1, .int .i64 2, .int .i64 2, .int .i64 2, .int .i64 3, .int .i64 4, .int .i64 3, .int .i64 4, .int .i64 4, .int .i64 2, .int .i64 3, .int .i64 4, .int .i64 7, .int .i64 4, .int .i64 3, .int .i64 5, .int .i64 6, .int .i64 3])[(zq n).toNat]? = some (.int .i64 (zc n)) := by
 obtain ⟨f0, f1⟩ := fmtS_bd n
 unfold zc
 have hk : (zq n).toNat ≤ 18 := by omega
 generalize (zq n).toNat = k at hk
 have : k = 0 ∨ k = 1 ∨ k = 2 ∨ k = 3 ∨ k = 4 ∨ k = 5 ∨ k = 6 ∨ k = 7 ∨ k = 8 ∨ k = 9 ∨ k = 10 ∨ k = 11 ∨ k = 12 ∨ k = 13 ∨ k = 14 ∨ k = 15 ∨ k = 16 ∨ k = 17 ∨ k = 18 := by omega
 rcases this with rfl | rfl | rfl | rfl | rfl | rfl | rfl | rfl | rfl | rfl | rfl | rfl | rfl | rfl | rfl | rfl | rfl | rfl | rfl <;> rfl
set_option maxHeartbeats 1000000 in
theorem yH (n : Int) (h0 : 0 ≤ n) (h1 : n < 256) (w : World) :
  Calls Tryz.prog 56 #[.int .u8 n] w fun e w' => e = .returned (.int .i64 (zc n)) ∧ Below w.heap.size w w' := by
 obtain ⟨f0, f1⟩ := fmtS_bd n
 go_enter Tryz.func56, Tryz.ntmps56
 go_wp2_with (first
  | (go_at_call 59; refine (xo _ _).mono ?_; rintro e w1 ⟨rfl, hb1⟩; have hz1 := hb1.size; simp at hz1; have hcz := (cell_of_row w1 w.heap.size (zq n).toNat _ _ _ ((hb1.block _ (by simp)).trans (heap_alloc_new w _))).trans (rsize_at n))
  | (refine stN ?_))
 go_ret
 exact ⟨rfl, ((Below.refl _ _).alloc (zn _) _).trans (hb1.mono (by simp))⟩
set_option maxHeartbeats 400000 in
theorem rreg_any (n : Int) (w : World) :
  Calls Tryz.prog 85 #[.int .i64 n] w fun e w' => e = .returned (.bool (zX n)) ∧ w = w' := by
 go_enter Tryz.func85, Tryz.ntmps85
 go_wp2
 all_goals (go_ret; exact ⟨by congr 2; unfold zX; first | (simp_all; done) | (simp_all; omega), rfl⟩)
def xg (n : Int) : Bool := decide (n < 128) || decide (65408 ≤ n)
set_option maxHeartbeats 400000 in
theorem signed_any (n : Int) (w : World) :
  Calls Tryz.prog 86 #[.int .u16 n] w fun e w' => e = .returned (.bool (xg n)) ∧ w = w' := by
 go_enter Tryz.func86, Tryz.ntmps86
 go_wp2
 all_goals (go_ret; refine ⟨?_, rfl⟩; first | rfl | (congr 2; unfold xg; first | (simp_all; done) | (simp_all; omega)))
end Go.Proofs.YteofmaiojepdkaaGreat
namespace Go.Proofs.YteofmaiojepdkaaGreat
open Go.RowKit
def zS (f : Int) (i : Ins) : Bool :=
 if f = 1 then (i.d == 0) && (i.s == 0) && (i.imm == 0) && (i.aux == 0) && (i.bank == 0)
 else if f = 2 then zX i.d && (i.s == 0) && (i.imm == 0) && (i.aux == 0) && (i.bank == 0)
 else if f = 3 then (i.d == 0) && (i.s == 0) && decide (i.imm < 256) && (i.aux == 0) && (i.bank == 0)
 else if f = 4 then zX i.d && zX i.s && (i.imm == 0) && (i.aux == 0) && (i.bank == 0)
 else if f = 5 ∨ f = 18 then zX i.d && (i.s == 0) && xg i.imm && (i.aux == 0) && (i.bank == 0)
 else if f = 6 ∨ f = 9 ∨ f = 14 then zX i.d && (i.s == 0) && (i.aux == 0) && (i.bank == 0)
 else if f = 7 then zX i.d && zX i.s && xg i.imm && (i.aux == 0) && (i.bank == 0)
 else if f = 8 then zX i.d && zX i.s && (i.aux == 0) && (i.bank == 0)
 else if f = 10 then (i.d == 0) && (i.s == 0) && xg i.imm && (i.aux == 0) && (i.bank == 0)
 else if f = 11 then (i.d == 0) && (i.s == 0) && (i.aux == 0) && (i.bank == 0)
 else if f = 12 then (i.d == 0) && (i.s == 0) && (i.aux == 0) && (decide (0 ≤ i.bank) && decide (i.bank < 64))
 else if f = 13 then zX i.d && (i.s == 0) && decide (1 ≤ i.bank) && decide (i.bank < 256)
 else if f = 15 then zX i.d && (i.s == 0) && decide (i.imm < 256) && (i.aux == 0) && (i.bank == 0)
 else if f = 16 then zX i.d && zX i.s && (i.aux == 0) && (decide (0 ≤ i.bank) && decide (i.bank < 64))
 else (i.d == 0) && zX i.s && (i.bank == 0)
def zu (i : Ins) : Bool := !(zq i.op == 0) && (i.size == zc i.op) && zS (zq i.op) i
theorem op_of_fmt {op : Int} (hf : zq op ≠ 0) : 0 ≤ op ∧ op ≤ 163 := by
 by_cases h : 0 ≤ op ∧ op ≤ 163
 ·exact h
 ·unfold zq at hf; rw [if_neg h] at hf; exact absurd rfl hf
end Go.Proofs.YteofmaiojepdkaaGreat
