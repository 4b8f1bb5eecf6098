/- Valid of package isa; what Encode is, as plain functions. Condition: the fields lie in their types' ranges. -/
import Derived.Test.YteofmaiojepdkaaGreatSaIsaF
import Derived.Deep.DeepMust
set_option linter.all false
namespace Go.Proofs.YteofmaiojepdkaaGreat
open Go.RowKit
theorem Ins.ext_iff' (a b : Ins) : (a.op = b.op ∧ a.d = b.d ∧ a.s = b.s ∧ a.imm = b.imm ∧ a.aux = b.aux ∧ a.bank = b.bank ∧ a.size = b.size) ↔ a = b := by
  cases a; cases b; simp
instance : DecidableEq Ins := fun a b => decidable_of_iff _ (Ins.ext_iff' a b)
theorem eql_ins (i j : Ins) (w : World) : (binOp .eql 53 (.agg (zk i)) (.agg (zk j))).run Tryz.prog w = .ok (.bool (decide (i = j))) w := by
  rw [run_eql_struct, run_equalIn_agg]
  · simp [Program.fieldsOf, Tryz.underlying53, zk, vi, vw, go_sem]
    by_cases h : i = j
    · subst h; simp
    · have hd : decide (i = j) = false := decide_eq_false h
      rw [hd]
      rw [← Ins.ext_iff'] at h
      repeat' split
      all_goals first
        | rfl
        | (exfalso; apply h; simp_all; done)
  · kernel_rfl
  · kernel_rfl
def zJ (op : Int) : Nat → Int := fF (fld op 0) (fld op 1) (fld op 2) (fld op 3)
/-- Do the first so many fields fit? -/
def zy (i : Ins) (F : Nat → Int) : Nat → Bool
  | 0 => true
  | j + 1 => zy i F j && zR (F j) i
/-- The operation and the bytes of the first so many fields. -/
def zi (i : Ins) (F : Nat → Int) : Nat → List Int
  | 0 => [i.op]
  | j + 1 => zi i F j ++ zY (F j) i
def zV (l : List Int) (F : Nat → Int) : Ins := (yt (byt (strOf l)) F (yd (strOf l)) 4).2
def zl (i : Ins) : Bool := (fOf i.op).isSome && zy i (zJ i.op) 4 && decide (zV (zi i (zJ i.op) 4) (zJ i.op) = i)
theorem need_put (b : Nat → Int) (f : Int) (k : Nat) (i i' : Ins) : (zO b f k i').1 = k + (zY f i).length := by
  unfold zO zY
  by_cases h1 : f = 1; (· simp [h1])
  by_cases h2 : f = 2; (· simp [h2])
  by_cases h3 : f = 3; (· simp [h3])
  by_cases h4 : f = 4; (· simp [h4])
  by_cases h5 : f = 5; (· simp [h5])
  by_cases h6 : f = 6; (· simp [h6])
  by_cases h7 : f = 7; (· simp [h7])
  by_cases h8 : f = 8; (· simp [h8])
  by_cases h9 : f = 9; (· simp [h9])
  simp [h1, h2, h3, h4, h5, h6, h7, h8, h9]
theorem rdTo_len (b : Nat → Int) (F : Nat → Int) (i i0 : Ins) (j : Nat) : (yt b F i0 j).1 = (zi i F j).length := by
  induction j with
  | zero => rfl
  | succ j ih =>
    show (zO b (F j) (yt b F i0 j).1 (yt b F i0 j).2).1 = (zi i F j ++ zY (F j) i).length
    rw [need_put b (F j) _ i, ih, List.length_append]
theorem put_len (f : Int) (i : Ins) : (zY f i).length ≤ 2 := by
  unfold zY
  repeat (split; (first | simp | skip))
  simp
theorem bytesTo_le (i : Ins) (F : Nat → Int) (j m : Nat) (h : j ≤ m) : (zi i F j).length ≤ (zi i F m).length := by
  induction m with
  | zero => have : j = 0 := (by omega); subst this; exact zn _
  | succ m ih =>
    by_cases e : j = m + 1
    · subst e; exact zn _
    · have := ih (by omega)
      show _ ≤ (zi i F m ++ zY (F m) i).length
      rw [List.length_append]; omega
theorem bytesTo_len (i : Ins) (F : Nat → Int) (j : Nat) : (zi i F j).length ≤ 1 + 2 * j := by
  induction j with
  | zero => simp [zi]
  | succ j ih =>
    have := put_len (F j) i
    show (zi i F j ++ zY (F j) i).length ≤ _
    rw [List.length_append]; omega
theorem fFrom_bd (op : Int) : ∀ (n k m : Nat), fFrom op k n = some m → k ≤ m ∧ m < k + n ∧ fAt m 0 ≤ op ∧ op ≤ fAt m 1 := by
  intro n
  induction n with
  | zero => intro k m h; cases h
  | succ n ih =>
    intro k m h
    unfold fFrom at h
    split at h
    · rename_i hh
      cases h
      exact ⟨zn _, by omega, hh.1, hh.2⟩
    · obtain ⟨a, b, c, d⟩ := ih (k + 1) m h
      exact ⟨by omega, by omega, c, d⟩
theorem fAt_bd : ∀ m, m < 21 → 0 ≤ fAt m 0 ∧ fAt m 1 ≤ 163 := by decide
theorem yI {op : Int} {k : Nat} (h : fOf op = some k) : 0 ≤ op ∧ op ≤ 163 ∧ k < 21 ∧ fAt k 0 ≤ op ∧ op ≤ fAt k 1 := by
  obtain ⟨a, b, c, d⟩ := fFrom_bd op 21 0 k h
  have := fAt_bd k (by omega)
  omega
theorem fitAll_false (i : Ins) (F : Nat → Int) (j m : Nat) (hj : j < m) (h : zR (F j) i = false) : zy i F m = false := by
  induction m with
  | zero => omega
  | succ m ih =>
    unfold zy
    by_cases e : j = m
    · subst e; rw [h]; simp
    · rw [ih (by omega)]; simp
theorem own_below {w w' : World} {base e size n : Nat} {v : Value} {xs : List Value} (h : w.ownsRow base e size v n xs) (hb : Below w.heap.size w w') : w'.ownsRow base e size v n xs :=
  h.kept (row := none) ⟨hb.os, hb.tape, hb.output, hb.size, fun k hk _ => hb.block k hk⟩ (by cases hv : v.ownBlock <;> simp)
/-- The blocks of a call of Valid, in the loop over the fields. -/
structure VRel (i : Ins) (b1 b3 : Nat) (j : Nat) (v : Value) (w0 w : World) : Prop where
  fa : Hid (zy i (zJ i.op) j = true)
  own : w.ownsRow (b3 + 1) 5 1 v (zi i (zJ i.op) j).length (bv (zi i (zJ i.op) j))
  h1 : w.heap[b1]? = some (.cells (zk i) 53 (0, 0))
  h3 : w.heap[b3]? = some (.cells #[vi (fld i.op 0), vi (fld i.op 1), vi (fld i.op 2), vi (fld i.op 3)] 23 (0, 0))
  hb : Below w0.heap.size w0 w
  le : w0.heap.size ≤ b1
  lt : b1 < b3
  gt : b3 + 1 < w.heap.size
theorem VRel.step {i : Ins} {b1 b3 j : Nat} {v v4 : Value} {w0 w w2 w3 w4 : World} (hV : VRel i b1 b3 j v w0 w) (hft : zR (zJ i.op j) i = true) (hb2 : Below w.heap.size w w2) (hb3 : Below w2.heap.size w2 w3)
    (hg : w3.grownBy w4 v.ownBlock)
    (hown : w4.ownsRow (b3 + 1) 5 1 v4 ((zi i (zJ i.op) j).length + (zY (zJ i.op j) i).length) (bv (zi i (zJ i.op) j) ++ bv (zY (zJ i.op j) i))) :
    VRel i b1 b3 (j + 1) v4 w0 w4 := by
  have h23 : Below w.heap.size w w3 := hb2.trans (hb3.mono hb2.size)
  have hl := hV.own.lt
  have hgt := hV.gt
  have hlt := hV.lt
  have hs3 := h23.size
  have hsz := hV.hb.size
  have hbl : ∀ b, b ≤ b3 → w4.heap[b]? = w.heap[b]? := fun b hb => by
    rw [hg.block b (by omega) (fun e => by have := (hl b e.symm).1; omega), h23.block b (by omega)]
  refine ⟨zh ?_, ?_, (hbl b1 (by omega)).trans hV.h1, (hbl b3 (zn _)).trans hV.h3, ?_, hV.le, hV.lt, by have := hg.size; omega⟩
  · unfold zy; rw [hV.fa.out, hft]; rfl
  · have e : zi i (zJ i.op) (j + 1) = zi i (zJ i.op) j ++ zY (zJ i.op j) i := rfl
    rw [e, List.length_append]
    simpa [bv] using hown
  · refine (hV.hb.trans (h23.mono hsz)).grown hg ?_ (fun k hk => ?_)
    · have := hs3; omega
    · have := (hl k hk).1
      have := hV.le
      omega
theorem info5 : (Tryz.prog.info? 5).map (fun i => (i.zero, i.size, i.bytes)) = some (some (.int .u8 0), 1, 1) := by kernel_rfl
set_option maxRecDepth 100000 in
set_option maxHeartbeats 1000000 in
theorem valid_none (i : Ins) (hf : fOf i.op = none) (w : World) :
    Calls Tryz.prog 119 #[.agg #[.int .i64 (i).op, .int .i64 (i).d, .int .i64 (i).s, .int .u16 (i).imm, .int .u16 (i).aux, .int .i64 (i).bank, .int .i64 (i).size]] w fun e w' => e = .returned (.bool false) ∧ Below w.heap.size w w' := by
  have HF := zh hf
  clear hf
  go_enter Tryz.func119, Tryz.ntmps119
  go_wp2_with (first | (refine wpList_store_row rfl _ _ _ rfl _ _ rfl rfl _ _ (heap_alloc_new _ _) ?_ ?_ ?_ ?_; kernel_rfl; rfl; kernel_rfl; rw [World.setRow_alloc_new]) | (go_at_call 135; refine (yk _ _).mono ?_; rintro e w1 ⟨rfl, hb1⟩; rw [HF.out, Option.isSome_none]))
  go_ret
  exact ⟨rfl, (((Below.refl _ _).alloc (zn _) _).trans (hb1.mono (by simp))).alloc (by have := hb1.size; simp at this; omega) _⟩
set_option maxRecDepth 100000 in
set_option maxHeartbeats 1000000 in
theorem valid_some (i : Ins) (hi : i.Ok) (k : Nat) (hf : fOf i.op = some k) (w : World) :
    Calls Tryz.prog 119 #[.agg #[.int .i64 (i).op, .int .i64 (i).d, .int .i64 (i).s, .int .u16 (i).imm, .int .u16 (i).aux, .int .i64 (i).bank, .int .i64 (i).size]] w fun e w' => e = .returned (.bool (zl i)) ∧ Below w.heap.size w w' := by
  obtain ⟨o0, o1, -, -, -⟩ := yI hf
  have hidx := index_F (fld i.op 0) (fld i.op 1) (fld i.op 2) (fld i.op 3)
  obtain ⟨i5, hi5, iz0, iz1, iz2⟩ := info_parts info5
  have HF := zh hf
  clear hf
  go_enter Tryz.func119, Tryz.ntmps119
  go_wp2_with (first | (refine wpList_store_row rfl _ _ _ rfl _ _ rfl rfl _ _ (heap_alloc_new _ _) ?_ ?_ ?_ ?_; kernel_rfl; rfl; kernel_rfl; rw [World.setRow_alloc_new]) | (go_at_call 135; refine (yk _ _).mono ?_; rintro e w1 ⟨rfl, hb1⟩; rw [HF.out, Option.isSome_some]; have hz1 := hb1.size; simp at hz1; have hcX := fun o => (World.cell?_alloc_lt w1 (Obj.cells #[vi (fld i.op 0), vi (fld i.op 1), vi (fld i.op 2), vi (fld i.op 3)] 23) ⟨w.heap.size, o, none⟩ (by show w.heap.size < _; omega)).trans (cell_of_row w1 w.heap.size o _ _ _ ((hb1.block _ (by simp)).trans (heap_alloc_new _ _)))))
  obtain ⟨hz1, hcX⟩ := (⟨hz1, hcX⟩ : _ ∧ _)
  have hB1 : w1.heap[w.heap.size]? = some (.cells (zk i) 53 (0, 0)) := (hb1.block _ (by simp)).trans (heap_alloc_new _ _)
  clear hcX
  have HB1 := zh hB1
  clear hB1
  go_loopw [5, 21] (fun v x wr => ∃ j : Nat, j ≤ 4 ∧ x = .int .i64 j ∧ VRel i w.heap.size w1.heap.size j v w wr) (fun _ x _ => 4 - (intOf x).toNat)
  case atStart =>
    refine ⟨0, by omega, rfl, zh rfl, ?_, ?_, ?_, ?_, zn _, by omega, by simp <;> omega⟩
    · have h := World.ownsRow_lit (base := w1.heap.size + 1) (size := 1) (e := 5) (w1.alloc (Obj.cells #[vi (fld i.op 0), vi (fld i.op 1), vi (fld i.op 2), vi (fld i.op 3)] 23)) #[.int .u8 i.op] 1 (by simp) (by decide) rfl
      simp only [World.size_alloc] at h
      exact h
    · exact (heap_old2 (by omega)).trans HB1.out
    · exact heap_alloc2_old _ _ _
    · exact ((((Below.refl _ _).alloc (zn _) _).trans (hb1.mono (by simp))).alloc (by omega) _).alloc (by simp <;> omega) _
  case round =>
    obtain ⟨j, hj, rfl, hV⟩ := hrel
    clear HB1
    by_cases hj4 : j < 4
    · have hix := hidx j hj4
      clear hidx
      obtain ⟨hfa, hown, hB1, hB3, hbr, hle, hlt, hgt⟩ := hV
      have HOWN := zh hown
      have HB1 := zh hB1
      have HB3 := zh hB3
      clear hown hB1 hB3
      by_cases hft : zR (zJ i.op j) i = true
      · have hPut := fun W => put_any (zJ i.op j) i hi hft W
        have HP := zh hPut
        have HFT := zh hft
        clear hPut hft
        have hBs : (zi i (zJ i.op) j).length ≤ 9 := by have := bytesTo_len i (zJ i.op) j; omega
        have hPs := put_len (zJ i.op j) i
        go_wp2_with (first
          | (refine wpList_load_row rfl _ (.tmp 1) rfl _ rfl _ _ _ _ HB1.out Tryz.underlying53 rfl ?_ ?_; kernel_rfl)
          | (refine wpList_load_row rfl _ (.tmp 1) rfl _ rfl _ _ _ _ ((hb2.block _ (by omega)).trans HB1.out) Tryz.underlying53 rfl ?_ ?_; kernel_rfl)
          | (go_at_call 136; refine (fits_any (zJ i.op j) i hi _).mono ?_; rintro e w2 ⟨rfl, hb2⟩; rw [HFT.out]; have hz2 := hb2.size)
          | (go_at_call 137; refine (HP.out _).mono ?_; rintro e w3 ⟨v3, rfl, hown3, hb3⟩; have hz3 := hb3.size; have hownA := own_below (own_below HOWN.out hb2) hb3; have HOWN3 := zh hown3; have HOWNA := zh hownA; clear hown3 hownA)
          | (at_builtin; go_must (refine wpList_append_rows rfl _ _ _ rfl (w1.heap.size + 1) 5 i5 (.int .u8 0) 1 Tryz.underlying73 hi5 iz0 iz1 iz2 rfl _ _ _ rfl HOWNA.out _ _ _ _ rfl HOWN3.out (bv_one _) ?_ ?_ ?_ ?_); (unfold maxLen; omega); omega; omega; intro v4 w4 hown4 hg4; have HOWN4 := zh hown4; clear hown4))
        go_roundw
        case rel => exact ⟨j + 1, by omega, by go_num, (VRel.step ⟨hfa, HOWN.out, HB1.out, HB3.out, hbr, hle, hlt, hgt⟩ HFT.out hb2 hb3 hg4 HOWN4.out)⟩
        case measure => simp [intOf]; omega
      · have hft : zR (zJ i.op j) i = false := by simpa using hft
        have HFT := zh hft
        clear hft
        go_wp2_with (first | (refine wpList_load_row rfl _ (.tmp 1) rfl _ rfl _ _ _ _ HB1.out Tryz.underlying53 rfl ?_ ?_; kernel_rfl) | (go_at_call 136; refine (fits_any (zJ i.op j) i hi _).mono ?_; rintro e w2 ⟨rfl, hb2⟩; rw [HFT.out]))
        go_ret
        refine ⟨?_, hbr.trans (hb2.mono (by omega))⟩
        have : zl i = false := by unfold zl; rw [fitAll_false i _ j 4 hj4 HFT.out]; simp
        rw [this]
        rfl
    · have ej : j = 4 := by omega
      subst ej
      obtain ⟨hfa, hown, hB1, hB3, hbr, hle, hlt, hgt⟩ := hV
      have HOWN := zh hown
      have HB1 := zh hB1
      have HB3 := zh hB3
      clear hown hB1 hB3 hidx
      have hL := bytesTo_le i (zJ i.op) 0 4 (by omega)
      have hL9 := bytesTo_len i (zJ i.op) 4
      have hRd := fun W => read_any (strOf (zi i (zJ i.op) 4)) (fld i.op 0) (fld i.op 1) (fld i.op 2) (fld i.op 3) (by rw [strOf_size]; exact hL) (by rw [strOf_size]; omega)
        (fun m hm => by rw [strOf_size, rdTo_len _ _ i]; exact bytesTo_le i (zJ i.op) m 4 hm) W
      have HRD := zh hRd
      clear hRd
      go_wp2_with fail
      refine wp_region_noPanic ?_
      refine wp_region_held_drew (S := fun w' => w'.heap[w.heap.size]? = some (.cells (zk i) 53 (0, 0)) ∧ w'.heap[w1.heap.size]? = some (.cells #[vi (fld i.op 0), vi (fld i.op 1), vi (fld i.op 2), vi (fld i.op 3)] 23 (0, 0)) ∧
        w'.ownsRow (w1.heap.size + 1) 5 1 u5 (zi i (zJ i.op) 4).length (bv (zi i (zJ i.op) 4))) (by kernel_rfl) ⟨HB1.out, HB3.out, HOWN.out⟩ (fun hHeld => ?_)
      (refine wpAnyH_take (i := 0) (oi := _) (v := ?_) rfl (by kernel_rfl) (by kernel_rfl) (by kernel_rfl) (fun _ _ _ h => h) (Or.inl ⟨by rfl, ?_⟩) (by assumption) ?_; rotate_left; (focus (intro w hSw; (try dsimp only at hSw); go_simp; try with_reducible rfl)); (try simp only [zA, zB, zC, Act.put, zD, zE, zF]))
      (refine wpAnyH_take (i := 1) (oi := _) (v := (.string (strOf (zi i (zJ i.op) 4)))) rfl (by kernel_rfl) (by kernel_rfl) (by kernel_rfl) (fun _ _ _ h => h) (Or.inl ⟨by rfl, ?_⟩) (by assumption) ?_; (focus (intro w' hS; exact exec_convert _ _ _ rfl u5 _ rfl (run_conv_row w' _ _ 5 Tryz.underlying73 Tryz.underlying5 Tryz.underlying9 _ _ _ _ hS.2.2))); (try simp only [zA, zB, zC, Act.put, zD, zE, zF]))
      (refine wpAnyH_take (i := 2) (oi := _) (v := (.agg #[vi (fld i.op 0), vi (fld i.op 1), vi (fld i.op 2), vi (fld i.op 3)])) rfl (by kernel_rfl) (by kernel_rfl) (by kernel_rfl) (fun _ _ _ h => h) (Or.inl ⟨by rfl, ?_⟩) (by assumption) ?_; (focus (intro w' hS; exact exec_load_row _ _ rfl _ rfl _ _ _ _ hS.2.1 Tryz.underlying23 rfl (by kernel_rfl))); (try simp only [zA, zB, zC, Act.put, zD, zE, zF]))
      (refine wpAnyH_take (i := 4) (oi := _) (v := (.agg (zk i))) rfl (by kernel_rfl) (by kernel_rfl) (by kernel_rfl) (fun _ _ _ h => h) (Or.inl ⟨by rfl, ?_⟩) (by assumption) ?_; (focus (intro w' hS; exact exec_load_row _ _ rfl _ rfl _ _ _ _ hS.1 Tryz.underlying53 rfl (by kernel_rfl))); (try simp only [zA, zB, zC, Act.put, zD, zE, zF]))
      (refine wpAnyH_ready (rs := [3]) (by kernel_rfl) (by simp) (AllReadyH.cons (o := _) rfl (fun K hK => ?_) AllReadyH.nil))
      rw [if_pos (by rfl)]
      go_simp
      refine (HRD.out _).mono ?_
      rintro e w5 ⟨rfl, hb5⟩
      have hd : wr.drew.heap.size = wr.heap.size := rfl
      refine hK.out _ _ ⟨(hb5.block _ (by omega)).trans hHeld.1, (hb5.block _ (by omega)).trans hHeld.2.1, own_below hHeld.2.2 hb5⟩ (fun hHeld => ?_)
      (try simp only [zA, zB, zC, Act.put, zD, zE, zF])
      have he := eql_ins
      (refine wpAnyH_take (i := 5) (oi := _) (v := ?_) rfl (by kernel_rfl) (by kernel_rfl) (by kernel_rfl) (fun _ _ _ h => h) (Or.inl ⟨by rfl, ?_⟩) (by assumption) ?_; rotate_left; (focus (intro w hSw; (try dsimp only at hSw); go_simp; try with_reducible rfl)); (try simp only [zA, zB, zC, Act.put, zD, zE, zF]))
      (refine wpAnyH_take (i := 6) (oi := _) (v := ?_) rfl (by kernel_rfl) (by kernel_rfl) (by kernel_rfl) (fun _ _ _ h => h) (Or.inl ⟨by rfl, ?_⟩) (by assumption) ?_; rotate_left; (focus (intro w hSw; (try dsimp only at hSw); go_simp; try with_reducible rfl)); (try simp only [zA, zB, zC, Act.put, zD, zE, zF]))
      refine wpAnyH_done (by kernel_rfl) ?_ _
      refine NoPanic.normal ?_
      clear he
      go_wp2
      go_ret
      refine ⟨?_, hbr.drew.trans (hb5.mono hbr.size)⟩
      have : zl i = decide (zV (zi i (zJ i.op) 4) (zJ i.op) = i) := by unfold zl; rw [HF.out, hfa.out]; rfl
      rw [this]
      rfl
end Go.Proofs.YteofmaiojepdkaaGreat
namespace Go.Proofs.YteofmaiojepdkaaGreat
open Go.RowKit
theorem yf (i : Ins) (hi : i.Ok) (w : World) :
    Calls Tryz.prog 119 #[.agg #[.int .i64 (i).op, .int .i64 (i).d, .int .i64 (i).s, .int .u16 (i).imm, .int .u16 (i).aux, .int .i64 (i).bank, .int .i64 (i).size]] w fun e w' => e = .returned (.bool (zl i)) ∧ Below w.heap.size w w' := by
  cases hf : fOf i.op with
  | none =>
    have : zl i = false := by unfold zl; rw [hf]; rfl
    rw [this]; exact valid_none i hf w
  | some k => exact valid_some i hi k hf w
def encB (i : Ins) : List Int := if (fOf i.op).isSome && zl i then zi i (zJ i.op) 4 else []
def encE (i : Ins) : Int := if (fOf i.op).isSome then (if zl i then 0 else 3) else 11
end Go.Proofs.YteofmaiojepdkaaGreat
