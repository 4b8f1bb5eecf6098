/- Line of package isa, walked. Condition: the library's tables read as the text lays them. -/
import Derived.Test.YtakahmhbopakmaaDoorOpsB
set_option linter.all false
namespace Go.Proofs.YtakahmhbopakmaaDoor
open Go.RowKit Go.Maps

theorem OpsPost.nil {l w e w'} (h : OpsPost l w e w') (hl : l = []) : e = .returned (.slice none 0 0) ∧ Below w.heap.size w w' := by
  rcases h with ⟨⟨-, h⟩ | ⟨h, -⟩, hb⟩
  · exact ⟨h, hb⟩
  · exact absurd hl h
theorem OpsPost.cons {l w e w'} (h : OpsPost l w e w') (hl : l ≠ []) : ∃ g, e = .returned (.slice (some ⟨g, 0, none⟩) l.length l.length) ∧ g < w'.heap.size ∧ (∀ (j : Nat) x, l[j]? = some x → w'.cell? ⟨g, j, none⟩ = some (.string ⟨x.toArray⟩)) ∧ Below w.heap.size w w' := by
  rcases h with ⟨⟨h, -⟩ | ⟨-, g, h1, h2, h3⟩, hb⟩
  · exact absurd h hl
  · exact ⟨g, h1, h2, h3, hb⟩

theorem join_len (l : List (List UInt8)) (h4 : l.length ≤ 4) (h : ∀ x ∈ l, x.length ≤ 100) : (Lib.join l [44, 32]).length ≤ 500 := by
  have hs : ∀ l : List (List UInt8), (∀ x ∈ l, x.length ≤ 100) → Lib.lens l ≤ 100 * l.length := by
    intro l
    induction l with
    | nil => intro _; simp [Lib.lens]
    | cons x l ih =>
      intro h
      have h1 := h x (by simp)
      have h2 := ih (fun y hy => h y (by simp [hy]))
      simp only [Lib.lens, List.map_cons, List.sum_cons, List.length_cons] at h2 ⊢
      omega
  cases l with
  | nil => simp [Lib.join_nil]
  | cons x r =>
    rw [Lib.join_length]
    have := hs _ h
    simp only [List.length_cons, List.length_nil] at *
    omega

theorem join_any (l : List (List UInt8)) (h4 : l.length ≤ 4) (h : ∀ x ∈ l, x.length ≤ 100) (g : Nat) (w : World) (hg : g < w.heap.size) (hc : ∀ (j : Nat) x, l[j]? = some x → w.cell? ⟨g, j, none⟩ = some (.string ⟨x.toArray⟩)) :
    Calls Tryd.prog 49 #[.slice (some ⟨g, 0, none⟩) l.length l.length, .string ⟨#[44, 32]⟩] w fun e w' => e = .returned (.string ⟨(Lib.join l [44, 32]).toArray⟩) ∧ Below w.heap.size w w' := by
  have hm : (l.map (fun x => (⟨x.toArray⟩ : ByteArray))).map (·.data.toList) = l := by
    rw [List.map_map]; exact List.map_id'' (fun x => rfl) l
  have hj := Tryd.strings_Join g 0 l.length (l.map fun x => ⟨x.toArray⟩) ⟨#[44, 32]⟩ w
    (fun j x hx => by
      rw [List.getElem?_map] at hx
      obtain ⟨y, hy, rfl⟩ := Option.map_eq_some_iff.1 hx
      simpa using hc j y hy) hg (by simp; omega) (by simp) (by rw [hm]; have := join_len l h4 h; exact Nat.le_trans this (by decide))
  rw [hm, List.length_map] at hj
  exact hj

def nameD (op : Int) : List UInt8 := match namesD.atKey (.int .i64 op) (.lit (.string [])) with | .lit (.string s) => s | _ => []
theorem nameD_len : ∀ n : Nat, n < 164 → (nameD n).length ≤ 5 := by decide +kernel
theorem suf8_len (op : Int) : (suf8 op).length ≤ 2 := by unfold suf8; repeat (split; simp)
                                                         simp

/-- The text of Line. -/
def lineS (i : Ins) (p : Place) : List UInt8 := if validS i then (if opS i p = [] then nameD i.op ++ suf8 i.op else nameD i.op ++ suf8 i.op ++ [32] ++ Lib.join (opS i p) [44, 32]) else []

def plcCells (p : Place) : Array Value := #[.int .i64 p.bank, .int .u16 p.addr]
structure LHeld (i : Ins) (p : Place) (w W : World) : Prop where
  b0 : W.heap[w.heap.size]? = some (.cells #[.int .i64 i.op, .int .i64 i.d, .int .i64 i.s, .int .u16 i.imm, .int .u16 i.aux, .int .i64 i.bank, .int .i64 i.size] 24 (0, 0))
  b1 : W.heap[w.heap.size + 1]? = some (.cells #[.int .i64 p.bank, .int .u16 p.addr] 47 (0, 0))
  z : w.heap.size + 2 ≤ W.heap.size
  bb : Below w.heap.size w W
theorem LHeld.stay {i p w W W'} (h : LHeld i p w W) (hb : Below W.heap.size W W') : LHeld i p w W' :=
  ⟨(hb.block _ (by have := h.z; omega)).trans h.b0, (hb.block _ (by have := h.z; omega)).trans h.b1, Nat.le_trans h.z hb.size, h.bb.trans (hb.mono (by have := h.z; omega))⟩
theorem LHeld.drew {i p w W} (h : LHeld i p w W) : LHeld i p w W.drew := ⟨h.b0, h.b1, h.z, h.bb.drew⟩
theorem LHeld.tabs {i p w W} (h : LHeld i p w W) (hT : Tabs w) : Tabs W := hT.stay h.bb
theorem LHeld.first (i : Ins) (p : Place) (w : World) : LHeld i p w ((w.alloc (.cells #[.int .i64 i.op, .int .i64 i.d, .int .i64 i.s, .int .u16 i.imm, .int .u16 i.aux, .int .i64 i.bank, .int .i64 i.size] 24)).alloc (.cells #[.int .i64 p.bank, .int .u16 p.addr] 47)) :=
  ⟨heap_alloc2_old _ _ _, heap_alloc2_new _ _ _, by simp, ((Below.refl _ _).alloc (Nat.le_refl _) _).alloc (by simp) _⟩

set_option maxRecDepth 100000 in
set_option maxHeartbeats 1000000 in
theorem line_bad (i : Ins) (hi : i.Ok) (p : Place) (hv : validS i = false) (w : World) :
    Calls Tryd.prog 27 #[.agg #[.int .i64 (i).op, .int .i64 (i).d, .int .i64 (i).s, .int .u16 (i).imm, .int .u16 (i).aux, .int .i64 (i).bank, .int .i64 (i).size], .agg #[.int .i64 p.bank, .int .u16 p.addr]] w fun e w' => e = .returned (.string ⟨(lineS i p).toArray⟩) ∧ Below w.heap.size w w' := by
  have e1 : lineS i p = [] := by unfold lineS; rw [hv]; rfl
  rw [e1]
  have HV := Lib.hid hv
  clear hv e1
  have HF := Lib.hid (LHeld.first i p w)
  go_enter Tryd.func27, Tryd.ntmps27
  go_wp2_with (first
    | (refine wpList_load_row rfl _ (.tmp 2) rfl _ rfl _ _ _ _ HF.out.b0 Tryd.underlying24 rfl ?_ ?_; kernel_rfl)
    | (go_at_call 20; refine (valid_any i hi _).mono ?_; rintro e w2 ⟨rfl, hb2⟩; rw [HV.out]; have HF2 := Lib.hid (HF.out.stay hb2); clear hb2))
  go_ret
  exact ⟨rfl, HF2.out.bb⟩

theorem zero_str (w : World) : (zeroValue 9).run Tryd.prog w = .ok (.string ⟨#[]⟩) w := by kernel_rfl
theorem keyInt (op : Int) (h0 : 0 ≤ op) (h1 : op ≤ 163) : keyOf Tryd.prog 3 (.int .i64 op) = some (.int .i64 op) := keyOf_int_mk Tryd.underlying3 (WalkArith.wf_i64 (by omega))
theorem name_look {W : World} {b n : Nat} (hown : W.ownsMap Tryd.prog 3 (plainElem Tryd.prog 9) b n namesD) (op : Int) (h0 : 0 ≤ op) (h1 : op ≤ 163) :
    (Instr.lookup 74 (.map (some b)) (.int .i64 op) false).run Tryd.prog W = .ok (.string ⟨(nameD op).toArray⟩) W := by
  obtain ⟨v, ps, hrun, hR⟩ := hown.lookup lawInt Tryd.underlying74 (zero_str W) (zd := .lit (.string [])) (zp := []) (plainElem_string Tryd.underlying9 (by show 0 ≤ maxLen; decide)) (keyInt op h0 h1)
  obtain ⟨s, rfl, hz, -⟩ := plainElem_string_inv Tryd.underlying9 hR
  rw [hrun]
  have : nameD op = s.data.toList := by
    unfold nameD
    rw [(Prod.mk.inj hz).1]
  rw [this]

set_option maxRecDepth 100000 in
set_option maxHeartbeats 2000000 in
theorem line_nil (i : Ins) (hi : i.Ok) (p : Place) (hv : validS i = true) (hn : opS i p = []) (w : World) (hT : Tabs w) :
    Calls Tryd.prog 27 #[.agg #[.int .i64 (i).op, .int .i64 (i).d, .int .i64 (i).s, .int .u16 (i).imm, .int .u16 (i).aux, .int .i64 (i).bank, .int .i64 (i).size], .agg #[.int .i64 p.bank, .int .u16 p.addr]] w fun e w' => e = .returned (.string ⟨(lineS i p).toArray⟩) ∧ Below w.heap.size w w' := by
  have e1 : lineS i p = nameD i.op ++ suf8 i.op := by unfold lineS; rw [hv, hn]; rfl
  rw [e1]
  obtain ⟨o0, o1⟩ := valid_op hv
  have hnl : (nameD i.op).length ≤ 5 := by
    obtain ⟨n, hn⟩ : ∃ n : Nat, i.op = n := ⟨i.op.toNat, by omega⟩
    rw [hn]; exact nameD_len n (by omega)
  have hsl := suf8_len i.op
  have HV := Lib.hid hv
  have HN := Lib.hid hn
  have HT := Lib.hid hT
  clear hv e1 hn hT
  have HF := Lib.hid (LHeld.first i p w)
  go_enter Tryd.func27, Tryd.ntmps27
  go_upto_region 3 with (first
    | (refine wpList_load_row rfl _ (.tmp 2) rfl _ rfl _ _ _ _ HF.out.b0 Tryd.underlying24 rfl ?_ ?_; kernel_rfl)
    | (go_at_call 20; refine (valid_any i hi _).mono ?_; rintro e w2 ⟨rfl, hb2⟩; rw [HV.out]; have HF2 := Lib.hid (HF.out.stay hb2); clear hb2))
  refine wp_region_noPanic ?_
  refine wp_region_held_drew (S := fun w' => (∀ o : Nat, w'.cell? ⟨w.heap.size, o, none⟩ = (#[Value.int .i64 i.op, .int .i64 i.d, .int .i64 i.s, .int .u16 i.imm, .int .u16 i.aux, .int .i64 i.bank, .int .i64 i.size] : Array Value)[o]?)) (by kernel_rfl) (fun o => cell_of_row _ _ _ _ _ _ HF2.out.b0) (fun hHeld => ?_)
  replace HF2 := Lib.hid HF2.out.drew
  (refine wpAnyH_take (i := 1) (oi := _) (v := ?_) rfl (by kernel_rfl) (by kernel_rfl) (by kernel_rfl) (fun _ _ _ h => h) (Or.inl ⟨by rfl, ?_⟩) (by assumption) ?_; rotate_left; (focus (intro w hSw; (try dsimp only at hSw); go_simp; try with_reducible rfl)); (try simp only [List.getElem_toArray, List.getElem_cons_succ, List.getElem_cons_zero, Act.put, List.setIfInBounds_toArray, List.set_cons_zero, List.set_cons_succ]))
  (refine wpAnyH_take (i := 2) (oi := _) (v := ?_) rfl (by kernel_rfl) (by kernel_rfl) (by kernel_rfl) (fun _ _ _ h => h) (Or.inl ⟨by rfl, ?_⟩) (by assumption) ?_; rotate_left; (focus (intro w hSw; (try dsimp only at hSw); go_simp; try with_reducible rfl)); (try simp only [List.getElem_toArray, List.getElem_cons_succ, List.getElem_cons_zero, Act.put, List.setIfInBounds_toArray, List.set_cons_zero, List.set_cons_succ]))
  (refine wpAnyH_take (i := 4) (oi := _) (v := ?_) rfl (by kernel_rfl) (by kernel_rfl) (by kernel_rfl) (fun _ _ _ h => h) (Or.inl ⟨by rfl, ?_⟩) (by assumption) ?_; rotate_left; (focus (intro w hSw; (try dsimp only at hSw); go_simp; try with_reducible rfl)); (try simp only [List.getElem_toArray, List.getElem_cons_succ, List.getElem_cons_zero, Act.put, List.setIfInBounds_toArray, List.set_cons_zero, List.set_cons_succ]))
  (refine wpAnyH_take (i := 5) (oi := _) (v := ?_) rfl (by kernel_rfl) (by kernel_rfl) (by kernel_rfl) (fun _ _ _ h => h) (Or.inl ⟨by rfl, ?_⟩) (by assumption) ?_; rotate_left; (focus (intro w hSw; (try dsimp only at hSw); go_simp; try with_reducible rfl)); (try simp only [List.getElem_toArray, List.getElem_cons_succ, List.getElem_cons_zero, Act.put, List.setIfInBounds_toArray, List.set_cons_zero, List.set_cons_succ]))
  (refine wpAnyH_ready (rs := [0]) (by kernel_rfl) (by simp) (AllReadyH.cons (o := _) rfl (fun K hK => ?_) AllReadyH.nil))
  rw [if_pos (by rfl)]
  go_simp
  refine (names_any _ (HF2.out.tabs HT.out).asc).mono ?_
  rintro e w3 ⟨rfl, hown, hb3⟩
  have HF3 := Lib.hid (HF2.out.stay hb3)
  have hlk := name_look (b := w2.heap.size) hown i.op o0 o1
  refine hK.out _ _ (fun o => cell_of_row _ _ _ _ _ _ HF3.out.b0) (fun hHeld => ?_)
  (try simp only [List.getElem_toArray, List.getElem_cons_succ, List.getElem_cons_zero, Act.put, List.setIfInBounds_toArray, List.set_cons_zero, List.set_cons_succ])
  (refine wpAnyH_ready (rs := [3, 6]) (by kernel_rfl) (by simp) (AllReadyH.cons (o := _) rfl (fun K hK => ?_) (AllReadyH.cons (o := _) rfl (fun K hK => ?_) AllReadyH.nil)))
  · rw [if_pos (by rfl)]
    go_simp
    refine hK.out _ _ (fun o => cell_of_row _ _ _ _ _ _ HF3.out.b0) (fun hHeld => ?_)
    (try simp only [List.getElem_toArray, List.getElem_cons_succ, List.getElem_cons_zero, Act.put, List.setIfInBounds_toArray, List.set_cons_zero, List.set_cons_succ])
    (refine wpAnyH_ready (rs := [6]) (by kernel_rfl) (by simp) (AllReadyH.cons (o := _) rfl (fun K hK => ?_) AllReadyH.nil))
    rw [if_pos (by rfl)]
    go_simp
    refine (suffix_any _ _).mono ?_
    rintro e w4 ⟨rfl, rfl⟩
    refine hK.out _ _ (fun o => cell_of_row _ _ _ _ _ _ HF3.out.b0) (fun hHeld => ?_)
    (try simp only [List.getElem_toArray, List.getElem_cons_succ, List.getElem_cons_zero, Act.put, List.setIfInBounds_toArray, List.set_cons_zero, List.set_cons_succ])
    (refine wpAnyH_take (i := 7) (oi := _) (v := ?_) rfl (by kernel_rfl) (by kernel_rfl) (by kernel_rfl) (fun _ _ _ h => h) (Or.inl ⟨by rfl, ?_⟩) (by assumption) ?_; rotate_left; (focus (intro w hSw; (try dsimp only at hSw); go_simp; first | (rw [if_neg (by omega)]; done) | (rw [if_neg (by simp; omega)]; done))); (try simp only [List.getElem_toArray, List.getElem_cons_succ, List.getElem_cons_zero, Act.put, List.setIfInBounds_toArray, List.set_cons_zero, List.set_cons_succ]))
    (refine wpAnyH_take (i := 8) (oi := _) (v := ?_) rfl (by kernel_rfl) (by kernel_rfl) (by kernel_rfl) (fun _ _ _ h => h) (Or.inl ⟨by rfl, ?_⟩) (by assumption) ?_; rotate_left; (focus (intro w hSw; (try dsimp only at hSw); go_simp; try with_reducible rfl)); (try simp only [List.getElem_toArray, List.getElem_cons_succ, List.getElem_cons_zero, Act.put, List.setIfInBounds_toArray, List.set_cons_zero, List.set_cons_succ]))
    refine wpAnyH_done (by kernel_rfl) ?_ _
    refine NoPanic.normal ?_
    go_wp2_with (first
      | (refine wpList_load_row rfl _ (.tmp 2) rfl _ rfl _ _ _ _ HF3.out.b0 Tryd.underlying24 rfl ?_ ?_; kernel_rfl)
      | (refine wpList_load_row rfl _ (.tmp 3) rfl _ rfl _ _ _ _ HF3.out.b1 Tryd.underlying47 rfl ?_ ?_; kernel_rfl)
      | (go_at_call 48; refine (operands_any i hi p HV.out _ (HF3.out.tabs HT.out)).mono ?_; rintro e w5 hO; obtain ⟨rfl, hb5⟩ := hO.nil HN.out))
    go_ret
    exact ⟨by simp only [← str_cat]; rfl, (HF3.out.stay hb5).bb⟩
  · rw [if_pos (by rfl)]
    go_simp
    refine (suffix_any _ _).mono ?_
    rintro e w4 ⟨rfl, rfl⟩
    refine hK.out _ _ (fun o => cell_of_row _ _ _ _ _ _ HF3.out.b0) (fun hHeld => ?_)
    (try simp only [List.getElem_toArray, List.getElem_cons_succ, List.getElem_cons_zero, Act.put, List.setIfInBounds_toArray, List.set_cons_zero, List.set_cons_succ])
    (refine wpAnyH_ready (rs := [3]) (by kernel_rfl) (by simp) (AllReadyH.cons (o := _) rfl (fun K hK => ?_) AllReadyH.nil))
    rw [if_pos (by rfl)]
    go_simp
    refine hK.out _ _ (fun o => cell_of_row _ _ _ _ _ _ HF3.out.b0) (fun hHeld => ?_)
    (try simp only [List.getElem_toArray, List.getElem_cons_succ, List.getElem_cons_zero, Act.put, List.setIfInBounds_toArray, List.set_cons_zero, List.set_cons_succ])
    (refine wpAnyH_take (i := 7) (oi := _) (v := ?_) rfl (by kernel_rfl) (by kernel_rfl) (by kernel_rfl) (fun _ _ _ h => h) (Or.inl ⟨by rfl, ?_⟩) (by assumption) ?_; rotate_left; (focus (intro w hSw; (try dsimp only at hSw); go_simp; first | (rw [if_neg (by omega)]; done) | (rw [if_neg (by simp; omega)]; done))); (try simp only [List.getElem_toArray, List.getElem_cons_succ, List.getElem_cons_zero, Act.put, List.setIfInBounds_toArray, List.set_cons_zero, List.set_cons_succ]))
    (refine wpAnyH_take (i := 8) (oi := _) (v := ?_) rfl (by kernel_rfl) (by kernel_rfl) (by kernel_rfl) (fun _ _ _ h => h) (Or.inl ⟨by rfl, ?_⟩) (by assumption) ?_; rotate_left; (focus (intro w hSw; (try dsimp only at hSw); go_simp; try with_reducible rfl)); (try simp only [List.getElem_toArray, List.getElem_cons_succ, List.getElem_cons_zero, Act.put, List.setIfInBounds_toArray, List.set_cons_zero, List.set_cons_succ]))
    refine wpAnyH_done (by kernel_rfl) ?_ _
    refine NoPanic.normal ?_
    go_wp2_with (first
      | (refine wpList_load_row rfl _ (.tmp 2) rfl _ rfl _ _ _ _ HF3.out.b0 Tryd.underlying24 rfl ?_ ?_; kernel_rfl)
      | (refine wpList_load_row rfl _ (.tmp 3) rfl _ rfl _ _ _ _ HF3.out.b1 Tryd.underlying47 rfl ?_ ?_; kernel_rfl)
      | (go_at_call 48; refine (operands_any i hi p HV.out _ (HF3.out.tabs HT.out)).mono ?_; rintro e w5 hO; obtain ⟨rfl, hb5⟩ := hO.nil HN.out))
    go_ret
    exact ⟨by simp only [← str_cat]; rfl, (HF3.out.stay hb5).bb⟩

set_option maxRecDepth 100000 in
set_option maxHeartbeats 2000000 in
theorem line_cons (i : Ins) (hi : i.Ok) (p : Place) (hv : validS i = true) (hn : opS i p ≠ []) (w : World) (hT : Tabs w) :
    Calls Tryd.prog 27 #[.agg #[.int .i64 (i).op, .int .i64 (i).d, .int .i64 (i).s, .int .u16 (i).imm, .int .u16 (i).aux, .int .i64 (i).bank, .int .i64 (i).size], .agg #[.int .i64 p.bank, .int .u16 p.addr]] w fun e w' => e = .returned (.string ⟨(lineS i p).toArray⟩) ∧ Below w.heap.size w w' := by
  have e1 : lineS i p = nameD i.op ++ suf8 i.op ++ [32] ++ Lib.join (opS i p) [44, 32] := by unfold lineS; rw [hv, if_pos rfl, if_neg hn]
  rw [e1]
  obtain ⟨o0, o1⟩ := valid_op hv
  have hnl : (nameD i.op).length ≤ 5 := by
    obtain ⟨n, hn⟩ : ∃ n : Nat, i.op = n := ⟨i.op.toNat, by omega⟩
    rw [hn]; exact nameD_len n (by omega)
  have hsl := suf8_len i.op
  have hl4 := opS_le i p
  have hL := opS_len i hi p
  have hj := join_len _ hl4 hL
  have hl0 : 0 < (opS i p).length := List.length_pos_iff.2 hn
  have HL := Lib.hid hL
  clear hL
  have HV := Lib.hid hv
  have HN := Lib.hid hn
  have HT := Lib.hid hT
  clear hv e1 hn hT
  have HF := Lib.hid (LHeld.first i p w)
  go_enter Tryd.func27, Tryd.ntmps27
  go_upto_region 3 with (first
    | (refine wpList_load_row rfl _ (.tmp 2) rfl _ rfl _ _ _ _ HF.out.b0 Tryd.underlying24 rfl ?_ ?_; kernel_rfl)
    | (go_at_call 20; refine (valid_any i hi _).mono ?_; rintro e w2 ⟨rfl, hb2⟩; rw [HV.out]; have HF2 := Lib.hid (HF.out.stay hb2); clear hb2))
  refine wp_region_noPanic ?_
  refine wp_region_held_drew (S := fun w' => (∀ o : Nat, w'.cell? ⟨w.heap.size, o, none⟩ = (#[Value.int .i64 i.op, .int .i64 i.d, .int .i64 i.s, .int .u16 i.imm, .int .u16 i.aux, .int .i64 i.bank, .int .i64 i.size] : Array Value)[o]?)) (by kernel_rfl) (fun o => cell_of_row _ _ _ _ _ _ HF2.out.b0) (fun hHeld => ?_)
  replace HF2 := Lib.hid HF2.out.drew
  (refine wpAnyH_take (i := 1) (oi := _) (v := ?_) rfl (by kernel_rfl) (by kernel_rfl) (by kernel_rfl) (fun _ _ _ h => h) (Or.inl ⟨by rfl, ?_⟩) (by assumption) ?_; rotate_left; (focus (intro w hSw; (try dsimp only at hSw); go_simp; try with_reducible rfl)); (try simp only [List.getElem_toArray, List.getElem_cons_succ, List.getElem_cons_zero, Act.put, List.setIfInBounds_toArray, List.set_cons_zero, List.set_cons_succ]))
  (refine wpAnyH_take (i := 2) (oi := _) (v := ?_) rfl (by kernel_rfl) (by kernel_rfl) (by kernel_rfl) (fun _ _ _ h => h) (Or.inl ⟨by rfl, ?_⟩) (by assumption) ?_; rotate_left; (focus (intro w hSw; (try dsimp only at hSw); go_simp; try with_reducible rfl)); (try simp only [List.getElem_toArray, List.getElem_cons_succ, List.getElem_cons_zero, Act.put, List.setIfInBounds_toArray, List.set_cons_zero, List.set_cons_succ]))
  (refine wpAnyH_take (i := 4) (oi := _) (v := ?_) rfl (by kernel_rfl) (by kernel_rfl) (by kernel_rfl) (fun _ _ _ h => h) (Or.inl ⟨by rfl, ?_⟩) (by assumption) ?_; rotate_left; (focus (intro w hSw; (try dsimp only at hSw); go_simp; try with_reducible rfl)); (try simp only [List.getElem_toArray, List.getElem_cons_succ, List.getElem_cons_zero, Act.put, List.setIfInBounds_toArray, List.set_cons_zero, List.set_cons_succ]))
  (refine wpAnyH_take (i := 5) (oi := _) (v := ?_) rfl (by kernel_rfl) (by kernel_rfl) (by kernel_rfl) (fun _ _ _ h => h) (Or.inl ⟨by rfl, ?_⟩) (by assumption) ?_; rotate_left; (focus (intro w hSw; (try dsimp only at hSw); go_simp; try with_reducible rfl)); (try simp only [List.getElem_toArray, List.getElem_cons_succ, List.getElem_cons_zero, Act.put, List.setIfInBounds_toArray, List.set_cons_zero, List.set_cons_succ]))
  (refine wpAnyH_ready (rs := [0]) (by kernel_rfl) (by simp) (AllReadyH.cons (o := _) rfl (fun K hK => ?_) AllReadyH.nil))
  rw [if_pos (by rfl)]
  go_simp
  refine (names_any _ (HF2.out.tabs HT.out).asc).mono ?_
  rintro e w3 ⟨rfl, hown, hb3⟩
  have HF3 := Lib.hid (HF2.out.stay hb3)
  have hlk := name_look (b := w2.heap.size) hown i.op o0 o1
  refine hK.out _ _ (fun o => cell_of_row _ _ _ _ _ _ HF3.out.b0) (fun hHeld => ?_)
  (try simp only [List.getElem_toArray, List.getElem_cons_succ, List.getElem_cons_zero, Act.put, List.setIfInBounds_toArray, List.set_cons_zero, List.set_cons_succ])
  (refine wpAnyH_ready (rs := [3, 6]) (by kernel_rfl) (by simp) (AllReadyH.cons (o := _) rfl (fun K hK => ?_) (AllReadyH.cons (o := _) rfl (fun K hK => ?_) AllReadyH.nil)))
  · rw [if_pos (by rfl)]
    go_simp
    refine hK.out _ _ (fun o => cell_of_row _ _ _ _ _ _ HF3.out.b0) (fun hHeld => ?_)
    (try simp only [List.getElem_toArray, List.getElem_cons_succ, List.getElem_cons_zero, Act.put, List.setIfInBounds_toArray, List.set_cons_zero, List.set_cons_succ])
    (refine wpAnyH_ready (rs := [6]) (by kernel_rfl) (by simp) (AllReadyH.cons (o := _) rfl (fun K hK => ?_) AllReadyH.nil))
    rw [if_pos (by rfl)]
    go_simp
    refine (suffix_any _ _).mono ?_
    rintro e w4 ⟨rfl, rfl⟩
    refine hK.out _ _ (fun o => cell_of_row _ _ _ _ _ _ HF3.out.b0) (fun hHeld => ?_)
    (try simp only [List.getElem_toArray, List.getElem_cons_succ, List.getElem_cons_zero, Act.put, List.setIfInBounds_toArray, List.set_cons_zero, List.set_cons_succ])
    (refine wpAnyH_take (i := 7) (oi := _) (v := ?_) rfl (by kernel_rfl) (by kernel_rfl) (by kernel_rfl) (fun _ _ _ h => h) (Or.inl ⟨by rfl, ?_⟩) (by assumption) ?_; rotate_left; (focus (intro w hSw; (try dsimp only at hSw); go_simp; first | (rw [if_neg (by omega)]; done) | (rw [if_neg (by simp; omega)]; done))); (try simp only [List.getElem_toArray, List.getElem_cons_succ, List.getElem_cons_zero, Act.put, List.setIfInBounds_toArray, List.set_cons_zero, List.set_cons_succ]))
    (refine wpAnyH_take (i := 8) (oi := _) (v := ?_) rfl (by kernel_rfl) (by kernel_rfl) (by kernel_rfl) (fun _ _ _ h => h) (Or.inl ⟨by rfl, ?_⟩) (by assumption) ?_; rotate_left; (focus (intro w hSw; (try dsimp only at hSw); go_simp; try with_reducible rfl)); (try simp only [List.getElem_toArray, List.getElem_cons_succ, List.getElem_cons_zero, Act.put, List.setIfInBounds_toArray, List.set_cons_zero, List.set_cons_succ]))
    refine wpAnyH_done (by kernel_rfl) ?_ _
    refine NoPanic.normal ?_
    go_wp2_with (first
      | (refine wpList_load_row rfl _ (.tmp 2) rfl _ rfl _ _ _ _ HF3.out.b0 Tryd.underlying24 rfl ?_ ?_; kernel_rfl)
      | (refine wpList_load_row rfl _ (.tmp 3) rfl _ rfl _ _ _ _ HF3.out.b1 Tryd.underlying47 rfl ?_ ?_; kernel_rfl)
      | (go_at_call 48; refine (operands_any i hi p HV.out _ (HF3.out.tabs HT.out)).mono ?_; rintro e w5 hO; obtain ⟨g, rfl, hg, hcg, hb5⟩ := hO.cons HN.out; have HCG := Lib.hid hcg; clear hcg)
      | (go_at_call 49; refine (join_any _ hl4 HL.out g _ hg HCG.out).mono ?_; rintro e w6 ⟨rfl, hb6⟩))
    go_ret
    exact ⟨by simp only [← str_cat]; rfl, ((HF3.out.stay hb5).stay hb6).bb⟩
  · rw [if_pos (by rfl)]
    go_simp
    refine (suffix_any _ _).mono ?_
    rintro e w4 ⟨rfl, rfl⟩
    refine hK.out _ _ (fun o => cell_of_row _ _ _ _ _ _ HF3.out.b0) (fun hHeld => ?_)
    (try simp only [List.getElem_toArray, List.getElem_cons_succ, List.getElem_cons_zero, Act.put, List.setIfInBounds_toArray, List.set_cons_zero, List.set_cons_succ])
    (refine wpAnyH_ready (rs := [3]) (by kernel_rfl) (by simp) (AllReadyH.cons (o := _) rfl (fun K hK => ?_) AllReadyH.nil))
    rw [if_pos (by rfl)]
    go_simp
    refine hK.out _ _ (fun o => cell_of_row _ _ _ _ _ _ HF3.out.b0) (fun hHeld => ?_)
    (try simp only [List.getElem_toArray, List.getElem_cons_succ, List.getElem_cons_zero, Act.put, List.setIfInBounds_toArray, List.set_cons_zero, List.set_cons_succ])
    (refine wpAnyH_take (i := 7) (oi := _) (v := ?_) rfl (by kernel_rfl) (by kernel_rfl) (by kernel_rfl) (fun _ _ _ h => h) (Or.inl ⟨by rfl, ?_⟩) (by assumption) ?_; rotate_left; (focus (intro w hSw; (try dsimp only at hSw); go_simp; first | (rw [if_neg (by omega)]; done) | (rw [if_neg (by simp; omega)]; done))); (try simp only [List.getElem_toArray, List.getElem_cons_succ, List.getElem_cons_zero, Act.put, List.setIfInBounds_toArray, List.set_cons_zero, List.set_cons_succ]))
    (refine wpAnyH_take (i := 8) (oi := _) (v := ?_) rfl (by kernel_rfl) (by kernel_rfl) (by kernel_rfl) (fun _ _ _ h => h) (Or.inl ⟨by rfl, ?_⟩) (by assumption) ?_; rotate_left; (focus (intro w hSw; (try dsimp only at hSw); go_simp; try with_reducible rfl)); (try simp only [List.getElem_toArray, List.getElem_cons_succ, List.getElem_cons_zero, Act.put, List.setIfInBounds_toArray, List.set_cons_zero, List.set_cons_succ]))
    refine wpAnyH_done (by kernel_rfl) ?_ _
    refine NoPanic.normal ?_
    go_wp2_with (first
      | (refine wpList_load_row rfl _ (.tmp 2) rfl _ rfl _ _ _ _ HF3.out.b0 Tryd.underlying24 rfl ?_ ?_; kernel_rfl)
      | (refine wpList_load_row rfl _ (.tmp 3) rfl _ rfl _ _ _ _ HF3.out.b1 Tryd.underlying47 rfl ?_ ?_; kernel_rfl)
      | (go_at_call 48; refine (operands_any i hi p HV.out _ (HF3.out.tabs HT.out)).mono ?_; rintro e w5 hO; obtain ⟨g, rfl, hg, hcg, hb5⟩ := hO.cons HN.out; have HCG := Lib.hid hcg; clear hcg)
      | (go_at_call 49; refine (join_any _ hl4 HL.out g _ hg HCG.out).mono ?_; rintro e w6 ⟨rfl, hb6⟩))
    go_ret
    exact ⟨by simp only [← str_cat]; rfl, ((HF3.out.stay hb5).stay hb6).bb⟩

theorem line_any (i : Ins) (hi : i.Ok) (p : Place) (w : World) (hT : Tabs w) :
    Calls Tryd.prog 27 #[.agg #[.int .i64 (i).op, .int .i64 (i).d, .int .i64 (i).s, .int .u16 (i).imm, .int .u16 (i).aux, .int .i64 (i).bank, .int .i64 (i).size], .agg #[.int .i64 p.bank, .int .u16 p.addr]] w fun e w' => e = .returned (.string ⟨(lineS i p).toArray⟩) ∧ Below w.heap.size w w' := by
  cases hv : validS i with
  | false => exact line_bad i hi p hv w
  | true =>
    by_cases hn : opS i p = []
    · exact line_nil i hi p hv hn w hT
    · exact line_cons i hi p hv hn w hT

end Go.Proofs.YtakahmhbopakmaaDoor
