/- Maps of functions by their literal entries: look-up and store. No condition beyond what each states. -/
import Derived.Test.YthebmoggbgldmaaLaLkW
import Derived.MapKept
set_option linter.all false
namespace Go.Proofs.Ythebmoggbgldmaa
open Go Go.RowKit Go.Maps
structure PosW (b12 : Nat) (pos : List Int) (pv : Value) (w : World) : Prop where
 blk : w.heap[b12]? = some (.cells #[pv] 40 (0, 0))
 own : w.ownsRow 0 3 1 pv pos.length (pos.map (Value.int .i64))
theorem PosW.ne {b12 pos pv w} (h : PosW b12 pos pv w) : ∀ q, pv.ownBlock = some q → q ≠ b12 := fun q hq e => by
 subst e
 obtain ⟨-, cs, h8⟩ := z7 h.own _ hq
 rw [h.blk] at h8
 simp at h8
theorem PosW.turn {b12 pos pv w w'} {ts : Nat → Prop} (h : PosW b12 pos pv w) (t : zN ts w w') (h1 : ¬ ts b12) (h2 : ∀ k, pv.ownBlock = some k → ¬ ts k) : PosW b12 pos pv w' := ⟨t.heap h.blk h1, zZ h.own t h2⟩
theorem PosW.stay {b12 pos pv w w'} (h : PosW b12 pos pv w) (hb : Below w.heap.size w w') : PosW b12 pos pv w' := h.turn (zN.ofBelow (bs := fun _ => False) hb) (fun h => h) fun _ _ h => h
def PlPost (ic : Array Value) (b12 : Nat) (pos : List Int) (pv : Value) (w : World) (e : Ending) (w' : World) : Prop :=
 e = .returned (.agg ic) ∧ ∃ pv', PosW b12 pos pv' w' ∧ zN (fun x => x = b12 ∨ pv.ownBlock = some x) w w' ∧ ∀ q, pv'.ownBlock = some q → pv.ownBlock = some q ∨ w.heap.size ≤ q
set_option maxRecDepth 100000 in
set_option maxHeartbeats 2000000 in
theorem plain_raw1 (b7 b12 b10 k : Nat) (pos : List Int) (pv : Value) (la op d s imm aux bank size dest fn obj : Int) (ta : Option Addr) (tn tcp : Nat) (ho : obj < 0) (w : World) (hP : PosW b12 pos pv w) :
  Calls Try.prog 53 #[.int .i64 k, .agg #[.int .i64 la, .int .i64 op, .int .i64 d, .int .i64 s, .int .u16 imm, .int .u16 aux, .int .i64 bank, .int .i64 size, .int .i64 dest, .int .i64 fn, .int .i64 obj, .slice ta tn tcp], .pointer (some ⟨b7, 0, none⟩), .pointer (some ⟨b12, 0, none⟩), .pointer (some ⟨b10, 0, none⟩)] w (PlPost #[.int .i64 op, .int .i64 d, .int .i64 s, .int .u16 imm, .int .u16 aux, .int .i64 bank, .int .i64 size] b12 pos pv w) := by
 have HP := zh hP
 clear hP
 obtain ⟨h2, h3⟩ := yy w (.cells #[.int .i64 la, .int .i64 op, .int .i64 d, .int .i64 s, .int .u16 imm, .int .u16 aux, .int .i64 bank, .int .i64 size, .int .i64 dest, .int .i64 fn, .int .i64 obj, .slice ta tn tcp] 58) (.cells #[.int .i64 0, .int .i64 0, .int .i64 0, .int .u16 0, .int .u16 0, .int .i64 0, .int .i64 0] 53)
 have hB : Below w.heap.size w ((w.alloc (.cells #[.int .i64 la, .int .i64 op, .int .i64 d, .int .i64 s, .int .u16 imm, .int .u16 aux, .int .i64 bank, .int .i64 size, .int .i64 dest, .int .i64 fn, .int .i64 obj, .slice ta tn tcp] 58)).alloc (.cells #[.int .i64 0, .int .i64 0, .int .i64 0, .int .u16 0, .int .u16 0, .int .i64 0, .int .i64 0] 53)) := ((Below.refl _ _).alloc (zn _) _).alloc (by simp) _
 go_enter Try.func53, Try.ntmps53
 go_upto_region 1 with fail
 obtain ⟨wr, hwr⟩ : ∃ wr : World, (w.alloc (.cells #[.int .i64 la, .int .i64 op, .int .i64 d, .int .i64 s, .int .u16 imm, .int .u16 aux, .int .i64 bank, .int .i64 size, .int .i64 dest, .int .i64 fn, .int .i64 obj, .slice ta tn tcp] 58)).alloc (.cells #[.int .i64 0, .int .i64 0, .int .i64 0, .int .u16 0, .int .u16 0, .int .i64 0, .int .i64 0] 53) = wr := ⟨_, rfl⟩
 have hz : w.heap.size + 2 = wr.heap.size := by rw [← hwr]; simp
 rw [hwr] at h2 h3 hB ⊢
 clear hwr
 have H2 := zh h2
 have H3 := zh h3
 have HB := zh hB
 have HZ := zh hz
 clear h2 h3 hB hz
 go_upto_region 2 with (first | (refine wpList_store_row rfl _ _ _ rfl _ _ rfl rfl _ _ (heap_alloc_new _ _) ?_ ?_ ?_ ?_; kernel_rfl; rfl; kernel_rfl; rw [World.setRow_alloc_new]) | (refine z9 _ _ rfl _ _ rfl _ _ _ (H2.out) ([.int .i64 op, .int .i64 d, .int .i64 s, .int .u16 imm, .int .u16 aux, .int .i64 bank, .int .i64 size]) ((by rfl)) ?_ ?_ ?_; kernel_rfl; kernel_rfl))
 have h4 := heap_alloc_new wr (.cells #[.int .i64 op, .int .i64 d, .int .i64 s, .int .u16 imm, .int .u16 aux, .int .i64 bank, .int .i64 size] 53)
 have h2 := (heap_alloc_old wr (.cells #[.int .i64 op, .int .i64 d, .int .i64 s, .int .u16 imm, .int .u16 aux, .int .i64 bank, .int .i64 size] 53) (by have := HZ.out; omega)).trans H2.out
 have h3 := (heap_alloc_old wr (.cells #[.int .i64 op, .int .i64 d, .int .i64 s, .int .u16 imm, .int .u16 aux, .int .i64 bank, .int .i64 size] 53) (by have := HZ.out; omega)).trans H3.out
 have hB := HB.out.alloc HB.out.size (.cells #[.int .i64 op, .int .i64 d, .int .i64 s, .int .u16 imm, .int .u16 aux, .int .i64 bank, .int .i64 size] 53)
 obtain ⟨W, hW⟩ : ∃ W : World, wr.alloc (.cells #[.int .i64 op, .int .i64 d, .int .i64 s, .int .u16 imm, .int .u16 aux, .int .i64 bank, .int .i64 size] 53) = W := ⟨_, rfl⟩
 obtain ⟨g, hg⟩ : ∃ g : Nat, wr.heap.size = g := ⟨_, rfl⟩
 rw [hW] at h2 h3 h4 hB ⊢
 rw [hg] at h4 ⊢
 clear hW hg
 have H3W := zh h3
 have H4W := zh h4
 have HBW := zh hB
 have c10 := cell_of_row W w.heap.size 10 _ _ _ h2
 clear h2 h3 h4 hB
 go_wp2_with (first | (refine zs _ _ rfl _ rfl _ _ _ (H4W.out) ?_ ?_ ?_; kernel_rfl; kernel_rfl) | (refine wpList_store_row rfl _ _ _ rfl _ _ rfl rfl _ _ (H3W.out) ?_ ?_ ?_ ?_; kernel_rfl; rfl; kernel_rfl))
 refine bodyPost_ret (results_cell_row (cs := #[.int .i64 op, .int .i64 d, .int .i64 s, .int .u16 imm, .int .u16 aux, .int .i64 bank, .int .i64 size]) (fr := (0, 0)) rfl _ _ (w.heap.size + 1) 53 _ rfl (setRow_heap _ _ _ _ _ _ H3W.out) (Try.underlying53) rfl (by kernel_rfl)) rfl ⟨rfl, pv, ?_, ?_, fun q hq => .inl hq⟩
 ·exact HP.out.stay (below_setRow HBW.out (by omega) _)
 ·exact zN.ofBelow (below_setRow HBW.out (by omega) _)
def xJ (E : zL) (ob : ObjS) (imm : Int) : Prop := ob.bank = -1 ∧ ob.addr ≤ (imm + ob.addr) % 65536 ∧ (imm + ob.addr) % 65536 - ob.addr < ob.size
instance (E : zL) (ob : ObjS) (imm : Int) : Decidable (xJ E ob imm) := by unfold xJ; exact inferInstance
set_option maxRecDepth 100000 in
set_option maxHeartbeats 4000000 in
theorem plain_raw2 (w0 : World) (E : zL) (hE : E.Ok) (N b4 b5 b6 b7 b10 b11 m go k b12 : Nat) (nm : ByteArray) (lv fv : Value) (da : Option Addr) (dcap : Nat) (pos : List Int) (pv : Value) (la op d s imm aux bank size dest fn : Int) (ko : Nat) (ta : Option Addr) (tn tcp : Nat) (ob : ObjS) (hkl : k < E.ls.length) (hob : E.data[ko]? = some ob) (hpl : pos.length ≤ 100000) (w : World) (hR : CdR w0 E N b4 b5 b6 b7 b10 b11 m go nm lv fv (.slice da E.data.length dcap) w) (hP : PosW b12 pos pv w) (hb12 : N ≤ b12) (hpr : ∀ q, pv.ownBlock = some q → N ≤ q) (I : Int) (hI : (imm + ob.addr) % 65536 = I) (pos2 : List Int) (hp2 : pos2 = pos ++ if xJ E ob imm then [E.off k + yX op] else []) :
  Calls Try.prog 53 #[.int .i64 k, .agg #[.int .i64 la, .int .i64 op, .int .i64 d, .int .i64 s, .int .u16 imm, .int .u16 aux, .int .i64 bank, .int .i64 size, .int .i64 dest, .int .i64 fn, .int .i64 ko, .slice ta tn tcp], .pointer (some ⟨b7, 0, none⟩), .pointer (some ⟨b12, 0, none⟩), .pointer (some ⟨b10, 0, none⟩)] w (PlPost #[.int .i64 op, .int .i64 d, .int .i64 s, .int .u16 I, .int .u16 aux, .int .i64 bank, .int .i64 size] b12 pos2 pv w) := by
 have hnd := hE.nd
 have hko : ko < E.data.length := (List.getElem?_eq_some_iff.1 hob).1
 have hlen := hE.len
 have hod := hE.ds ob (List.mem_of_getElem? hob)
 obtain ⟨oa0, oa1, -, os0, os1⟩ := hod
 have HO1 := zh (hE.cellO (k := k) (Nat.le_of_lt hkl))
 have o1 := hE.off (k := k) (Nat.le_of_lt hkl)
 have HP := zh hP
 have HR := zh hR
 have HPR := zh hpr
 obtain ⟨q, off, c, T', fr', rfl, hq, hx⟩ := (hR.hd.below hR.bb).at hob
 have HQ := zh hq
 have HX := zh hx
 obtain ⟨ob1, ob2, ob3⟩ := ob
 dsimp only at hI
 have HI := zh hI
 have HP2 := zh hp2
 clear hI hp2
 obtain ⟨h2, h3⟩ := yy w (.cells #[.int .i64 la, .int .i64 op, .int .i64 d, .int .i64 s, .int .u16 imm, .int .u16 aux, .int .i64 bank, .int .i64 size, .int .i64 dest, .int .i64 fn, .int .i64 ko, .slice ta tn tcp] 58) (.cells #[.int .i64 0, .int .i64 0, .int .i64 0, .int .u16 0, .int .u16 0, .int .i64 0, .int .i64 0] 53)
 have hB : Below w.heap.size w ((w.alloc (.cells #[.int .i64 la, .int .i64 op, .int .i64 d, .int .i64 s, .int .u16 imm, .int .u16 aux, .int .i64 bank, .int .i64 size, .int .i64 dest, .int .i64 fn, .int .i64 ko, .slice ta tn tcp] 58)).alloc (.cells #[.int .i64 0, .int .i64 0, .int .i64 0, .int .u16 0, .int .u16 0, .int .i64 0, .int .i64 0] 53)) := ((Below.refl _ _).alloc (zn _) _).alloc (by simp) _
 clear hq hx hob hR hP hpr hE
 simp only at oa0 oa1 os0 os1
 go_enter Try.func53, Try.ntmps53
 go_upto_region 1 with fail
 obtain ⟨wr, hwr⟩ : ∃ wr : World, (w.alloc (.cells #[.int .i64 la, .int .i64 op, .int .i64 d, .int .i64 s, .int .u16 imm, .int .u16 aux, .int .i64 bank, .int .i64 size, .int .i64 dest, .int .i64 fn, .int .i64 ko, .slice ta tn tcp] 58)).alloc (.cells #[.int .i64 0, .int .i64 0, .int .i64 0, .int .u16 0, .int .u16 0, .int .i64 0, .int .i64 0] 53) = wr := ⟨_, rfl⟩
 have hz : w.heap.size + 2 = wr.heap.size := by rw [← hwr]; simp
 rw [hwr] at h2 h3 hB ⊢
 clear hwr
 have H2 := zh h2
 have H3 := zh h3
 have HB := zh hB
 have HZ := zh hz
 clear h2 h3 hB hz
 go_upto_region 2 with (first | (refine wpList_store_row rfl _ _ _ rfl _ _ rfl rfl _ _ (heap_alloc_new _ _) ?_ ?_ ?_ ?_; kernel_rfl; rfl; kernel_rfl; rw [World.setRow_alloc_new]) | (refine z9 _ _ rfl _ _ rfl _ _ _ (H2.out) ([.int .i64 op, .int .i64 d, .int .i64 s, .int .u16 imm, .int .u16 aux, .int .i64 bank, .int .i64 size]) ((by rfl)) ?_ ?_ ?_; kernel_rfl; kernel_rfl))
 have h4 := heap_alloc_new wr (.cells #[.int .i64 op, .int .i64 d, .int .i64 s, .int .u16 imm, .int .u16 aux, .int .i64 bank, .int .i64 size] 53)
 have h2 := (heap_alloc_old wr (.cells #[.int .i64 op, .int .i64 d, .int .i64 s, .int .u16 imm, .int .u16 aux, .int .i64 bank, .int .i64 size] 53) (by have := HZ.out; omega)).trans H2.out
 have h3 := (heap_alloc_old wr (.cells #[.int .i64 op, .int .i64 d, .int .i64 s, .int .u16 imm, .int .u16 aux, .int .i64 bank, .int .i64 size] 53) (by have := HZ.out; omega)).trans H3.out
 have hB := HB.out.alloc HB.out.size (.cells #[.int .i64 op, .int .i64 d, .int .i64 s, .int .u16 imm, .int .u16 aux, .int .i64 bank, .int .i64 size] 53)
 obtain ⟨W, hW⟩ : ∃ W : World, wr.alloc (.cells #[.int .i64 op, .int .i64 d, .int .i64 s, .int .u16 imm, .int .u16 aux, .int .i64 bank, .int .i64 size] 53) = W := ⟨_, rfl⟩
 obtain ⟨g, hg⟩ : ∃ g : Nat, wr.heap.size = g := ⟨_, rfl⟩
 have hzW : g < W.heap.size := by rw [← hW, ← hg]; simp
 rw [hW] at h2 h3 h4 hB ⊢
 rw [hg] at h4 HZ ⊢
 clear hW hg H2 H3 HB
 have HNw := zh (show N ≤ w.heap.size from HR.out.lt.2.2.2.2.2.2.2.2)
 have HRW := zh (HR.out.stay (hB.mono HNw.out))
 have HQW := zh (zf hB HQ.out)
 have c10 := cell_of_row W w.heap.size 10 _ _ _ h2
 have c7 := cell_of_row W b7 0 _ _ _ HRW.out.h7
 have H3W := zh h3
 have H4W := zh h4
 have HBW := zh hB
 have HLW := zh h2
 clear h3 h4 hB h2
 go_upto_region 4 with (first | (refine wpList_store_row rfl _ _ _ rfl _ _ rfl rfl _ _ (heap_alloc_new _ _) ?_ ?_ ?_ ?_; kernel_rfl; rfl; kernel_rfl; rw [World.setRow_alloc_new]) | (refine z9 _ _ rfl _ _ rfl _ _ _ (HQW.out) ([.int .i64 ob1, .int .u16 ob2, .int .u16 ob3]) (HX.out) ?_ ?_ ?_; kernel_rfl; kernel_rfl))
 have hI0 : 0 ≤ I := by rw [← HI.out]; omega
 have hI1 : I < 65536 := by rw [← HI.out]; omega
 have hw : IntKind.u16.wrap (imm + ob2) = I := HI.out
 have h9 := heap_alloc_new W (.cells #[.int .i64 ob1, .int .u16 ob2, .int .u16 ob3] 47)
 have h4 := (heap_alloc_old W (.cells #[.int .i64 ob1, .int .u16 ob2, .int .u16 ob3] 47) hzW).trans H4W.out
 have hz1 : w.heap.size + 1 < W.heap.size := (Array.getElem?_eq_some_iff.1 H3W.out).1
 have h3 := (heap_alloc_old W (.cells #[.int .i64 ob1, .int .u16 ob2, .int .u16 ob3] 47) hz1).trans H3W.out
 have hB := HBW.out.alloc HBW.out.size (.cells #[.int .i64 ob1, .int .u16 ob2, .int .u16 ob3] 47)
 obtain ⟨W2, hW2⟩ : ∃ W2 : World, W.alloc (.cells #[.int .i64 ob1, .int .u16 ob2, .int .u16 ob3] 47) = W2 := ⟨_, rfl⟩
 obtain ⟨g9, hg9⟩ : ∃ g9 : Nat, W.heap.size = g9 := ⟨_, rfl⟩
 rw [hW2] at h9 h4 h3 hB ⊢
 rw [hg9] at h9 hzW ⊢
 clear hW2 hg9 c10 c7 hz1
 have H9 := zh h9
 have H4 := zh h4
 have H3 := zh h3
 have HB := zh hB
 have c3 := cell_of_row W2 g 3 _ _ _ h4
 have c91 := cell_of_row W2 g9 1 _ _ _ h9
 clear h9 h4 h3 hB
 simp only [Act.put]
 go_upto_region 5 with (refine yP rfl _ _ _ rfl _ _ (by rfl) _ (by rfl) _ _ (H4.out) _ (by rfl) ?_ ?_ ?_ (#[.int .i64 op, .int .i64 d, .int .i64 s, .int .u16 I, .int .u16 aux, .int .i64 bank, .int .i64 size]) (by rfl) ?_; rfl; kernel_rfl; kernel_rfl)
 have hne1 : g9 ≠ g := by omega
 have hne2 : w.heap.size + 1 ≠ g := by have := HZ.out; omega
 have H4E := zh (setRow_heap W2 g _ #[.int .i64 op, .int .i64 d, .int .i64 s, .int .u16 I, .int .u16 aux, .int .i64 bank, .int .i64 size] _ _ H4.out)
 have H9E := zh ((setRow_other W2 g g9 #[.int .i64 op, .int .i64 d, .int .i64 s, .int .u16 I, .int .u16 aux, .int .i64 bank, .int .i64 size] hne1).trans H9.out)
 have H3E := zh ((setRow_other W2 g (w.heap.size + 1) #[.int .i64 op, .int .i64 d, .int .i64 s, .int .u16 I, .int .u16 aux, .int .i64 bank, .int .i64 size] hne2).trans H3.out)
 have HBE := zh (below_setRow HB.out (show w.heap.size ≤ g by have := HZ.out; omega) #[.int .i64 op, .int .i64 d, .int .i64 s, .int .u16 I, .int .u16 aux, .int .i64 bank, .int .i64 size])
 obtain ⟨W3, hW3⟩ : ∃ W3 : World, W2.setRow g #[.int .i64 op, .int .i64 d, .int .i64 s, .int .u16 I, .int .u16 aux, .int .i64 bank, .int .i64 size] = W3 := ⟨_, rfl⟩
 rw [hW3] at H4E H9E H3E HBE ⊢
 clear hW3 c3 c91 hne1 hne2 hw H4 H9 H3 HB
 have c3 := cell_of_row W3 g 3 _ _ _ H4E.out
 have c9 : ∀ o : Nat, W3.cell? ⟨g9, o, none⟩ = (#[.int .i64 ob1, .int .u16 ob2, .int .u16 ob3] : Array Value)[o]? := fun o => cell_of_row W3 g9 o _ _ _ H9E.out
 by_cases hb1 : ob1 = -1
 ·subst hb1
  by_cases h1 : I < ob2
  ·have HNC := zh (show ¬ xJ E ⟨-1, ob2, ob3⟩ imm by unfold xJ; rintro ⟨-, h, -⟩; dsimp only at h; rw [HI.out] at h; omega)
   go_upto_region 7 with fail
   go_wp2_with (first | (refine zs _ _ rfl _ rfl _ _ _ (H4E.out) ?_ ?_ ?_; kernel_rfl; kernel_rfl) | (refine wpList_store_row rfl _ _ _ rfl _ _ rfl rfl _ _ (H3E.out) ?_ ?_ ?_ ?_; kernel_rfl; rfl; kernel_rfl))
   have e2 : pos2 = pos := by rw [HP2.out, if_neg HNC.out, List.append_nil]
   rw [e2]
   refine bodyPost_ret (results_cell_row (cs := #[.int .i64 op, .int .i64 d, .int .i64 s, .int .u16 I, .int .u16 aux, .int .i64 bank, .int .i64 size]) (fr := (0, 0)) rfl _ _ (w.heap.size + 1) 53 _ rfl (setRow_heap _ _ _ _ _ _ H3E.out) (Try.underlying53) rfl (by kernel_rfl)) rfl ⟨rfl, pv, ?_, ?_, ?_⟩
   ·exact HP.out.stay (below_setRow HBE.out (by omega) _)
   ·exact zN.ofBelow (below_setRow HBE.out (by omega) _)
   ·exact fun q hq => .inl hq
  ·replace h1 : ob2 ≤ I := by omega
   have hw2 : IntKind.u16.wrap (I - ob2) = I - ob2 := IntWalk.u16_in _ (by omega)
   by_cases h2 : I - ob2 < ob3
   ·have HYC := zh (show xJ E ⟨-1, ob2, ob3⟩ imm by unfold xJ; dsimp only; rw [HI.out]; exact ⟨rfl, h1, h2⟩)
    have HFD := zh (fun V => field_any op V)
    go_upto_region 6 with fail
    clear c3 c9 hw2
    have HNw2 := zh (Nat.le_trans HNw.out HBE.out.size)
    have HR3 := zh (HR.out.stay (HBE.out.mono HNw.out))
    have HP3 := zh (HP.out.stay HBE.out)
    have hfd : 0 ≤ yX op ∧ yX op ≤ 3 := by unfold yX; split <;> omega
    have HSUM := zh (show IntKind.i64.wrap (E.off k + yX op) = E.off k + yX op from IntWalk.i64_in _ (by omega))
    have hkk : (k : Int) < (E.ls.length : Int) + 1 := by omega
    have zz10 : b10 < W3.heap.size := (Array.getElem?_eq_some_iff.1 HR3.out.h10).1
    have zzg : go < W3.heap.size := (Array.getElem?_eq_some_iff.1 HR3.out.hgo).1
    have zz12 : b12 < W3.heap.size := (Array.getElem?_eq_some_iff.1 HP3.out.blk).1
    have zz8 : g < W3.heap.size := (Array.getElem?_eq_some_iff.1 H4E.out).1
    clear hfd
    refine ye [] 10 (z5 [isV (pv), isV (.slice (some ⟨go, 0, none⟩) (E.ls.length + 1) (E.ls.length + 1)), isV (.int .i64 k), isV ((.pointer (some ⟨go, k, none⟩))), isV ((.int .i64 (E.off k))), isV (.pointer (some ⟨g, 0, none⟩)), isV (.int .i64 op), isV (.int .i64 (yX op)), isV (.int .i64 (E.off k + yX op)), newS (W3.heap.size) (.cells #[.int .i64 (E.off k + yX op)] 3 (0, 0)) 1]) (nth [[0], [1], [2], [3], [4], [5], [6], [7], [8], [9]]) (nth [[], [], [], [], [], [], [], [], [], []]) (nth [[], [], [], [1, 2], [3], [], [5], [6], [4, 7], [8]]) [0, 9] (yU W3.heap.size W3 W3.heap.size [(b12, .cells #[pv] 40 (0, 0)), (b10, .cells #[.slice (some ⟨go, 0, none⟩) (E.ls.length + 1) (E.ls.length + 1)] 40 (0, 0)), (go, .cells (viA (xi E.sz)) 3 (0, 0)), (g, .cells #[.int .i64 op, .int .i64 d, .int .i64 s, .int .u16 I, .int .u16 aux, .int .i64 bank, .int .i64 size] 53 (0, 0))]) (by kernel_rfl) (by kernel_rfl) (⟨(Below.refl _ _).drew, zn _, zn _, by intro x hx; simp at hx; rcases hx with rfl | rfl | rfl | rfl <;> assumption, HP3.out.blk, HR3.out.h10, HR3.out.hgo, H4E.out, trivial⟩) (yU.grow) (zG ((za (zc _)  (za (zc _)  (za (zc _)  (za (zc _)  (za (zc _)  (za (zc _)  (za (zc _)  (za (zc _)  (za (zc _)  (za (yZ _ _ _) zy)))))))))))) (fun f F hF => ?_)
    simp only [List.take_succ_cons, List.take_zero, yb, Act.put, zD, zE, zF, Nat.reduceAdd] at hF
    subst hF
    refine ⟨ze ?_ (ze ?_ (ze ?_ (ze ?_ (ze ?_ (ze ?_ (ze ?_ (ze ?_ (ze ?_ (ze ?_ (yf)))))))))), ?_⟩
    ·intro w5 hS hF hD K hK
     exact stC hK rfl rfl rfl rfl (by first | rfl | kernel_rfl) rfl rfl rfl (hS.2.2.2.2.1) (by kernel_rfl) (fun _ => by kernel_rfl)
    ·intro w5 hS hF hD K hK
     exact stC hK rfl rfl rfl rfl (by first | rfl | kernel_rfl) rfl rfl rfl (hS.2.2.2.2.2.1) (by kernel_rfl) (fun _ => by kernel_rfl)
    ·intro w5 hS hF hD K hK
     exact stV hK rfl rfl rfl rfl (by first | rfl | kernel_rfl) rfl (by show _ = _; kernel_rfl)
    ·intro w5 hS hF hD K hK
     obtain ⟨(e1 : f 1 = _), (e2 : f 2 = _), -⟩ := hF
     try simp only [e1, e2]
     rw [if_pos (by rfl)]
     go_simp
     refine hK.out _ _ rfl (zq rfl rfl rfl ?_)
     first | rfl | kernel_rfl
    ·intro w5 hS hF hD K hK
     obtain ⟨(e3 : f 3 = _), -⟩ := hF
     try simp only [e3]
     exact stC hK rfl rfl rfl rfl (by first | rfl | kernel_rfl) rfl rfl rfl (hS.2.2.2.2.2.2.1) (HO1.out) (fun _ => by kernel_rfl)
    ·intro w5 hS hF hD K hK
     exact stV hK rfl rfl rfl rfl (by first | rfl | kernel_rfl) rfl (by show _ = _; kernel_rfl)
    ·intro w5 hS hF hD K hK
     obtain ⟨(e5 : f 5 = _), -⟩ := hF
     try simp only [e5]
     exact stC hK rfl rfl rfl rfl (by first | rfl | kernel_rfl) rfl rfl rfl (hS.2.2.2.2.2.2.2.1) (by kernel_rfl) (fun _ => by kernel_rfl)
    ·intro w5 hS hF hD K hK
     obtain ⟨(e6 : f 6 = _), -⟩ := hF
     try simp only [e6]
     rw [if_pos (by rfl)]
     go_simp
     go_at_call 54; refine (HFD.out _).mono ?_; rintro e w3 ⟨rfl, rfl⟩; have hbelow := Below.refl w5.heap.size w5; go_simp
     refine hK.out _ _ rfl (zP rfl rfl rfl hbelow ?_)
     first | rfl | kernel_rfl
    ·intro w5 hS hF hD K hK
     obtain ⟨(e4 : f 4 = _), (e7 : f 7 = _), -⟩ := hF
     try simp only [e4, e7]
     rw [if_pos (by rfl)]
     exact zx (v := .int .i64 (IntKind.i64.wrap (E.off k + yX op))) (by (show _ = _); kernel_rfl) (hK.out _ _ rfl (zq rfl rfl rfl (congrArg (Value.int .i64) HSUM.out)))
    ·intro w5 hS hF hD K hK
     obtain ⟨(e8 : f 8 = _), -⟩ := hF
     try simp only [e8]
     rw [if_pos (by rfl)]
     go_simp
     refine hK.out _ _ rfl (y0 rfl rfl rfl hS.2.2.1 ?_)
     first | rfl | kernel_rfl
    intro w5 hS hF
    obtain ⟨(e0 : f 0 = _), e9, -⟩ := hF
    obtain ⟨g9, e9, hB9, hg9⟩ := e9
    replace e9 : f 9 = _ := e9
    try simp only [e0, e9]
    simp only [List.drop_succ_cons, List.drop_zero]
    have HOW := zh (HP3.out.stay hS.1)
    have HG5 := zh hS.2.2.2.2.2.2.2.1
    have HB5 := zh hS.1
    have H35 := zh (zf hS.1 H3E.out)
    have HSR := zh (show SrcW w5 1 (some ⟨g9, 0, none⟩) 1 [.int .i64 (E.off k + yX op)] from ⟨rfl, fun _ => ⟨_, rfl, fun j u hu => by
     rcases j with _ | j
     ·simp at hu; subst hu
      exact cell_of_row w5 g9 0 _ _ _ hg9
     ·simp at hu⟩⟩)
    obtain ⟨i3, hi3, hz3, hz31, hz32⟩ := info_parts infoIk
    have HI3 := zh (And.intro hi3 (And.intro hz3 (And.intro hz31 hz32)))
    have HM := zh (show pos.length + 1 ≤ maxLen by unfold maxLen; omega)
    have HM2 := zh (show (pos.length + 1) * 8 ≤ 140737488355328 by omega)
    clear hS hg9 e9 e0 hi3 hz3 hz31 hz32 zz10 zzg zz12 zz8 hkk hB9
    go_upto_region 7 with (at_builtin; refine xm _ rfl _ _ 40 rfl 0 3 i3 (.int .i64 0) 1 8 Try.underlying40 HI3.out.1 HI3.out.2.1 HI3.out.2.2.1 HI3.out.2.2.2 rfl (by decide) pv pos.length _ rfl HOW.out.own (some ⟨g9, 0, none⟩) 1 1 (fun h => by cases h) [.int .i64 (E.off k + yX op)] rfl HSR.out (by intro u hu; simp at hu; subst hu; rfl) HM.out HM2.out (Nat.zero_le _) ?_; intro v' w6 ho6 hg6 hk6; obtain ⟨ga, cp, rfl⟩ : ∃ ga cp, v' = .slice (some ⟨ga, 0, none⟩) (pos.length + 1) cp := (by rcases ho6.2 with ⟨-, h⟩ | ⟨g', cap, cur, h, -⟩; omega; exact ⟨g', cap, h⟩); have HO6 := zh ho6; have HG6 := zh hg6; have HK6 := zh hk6; have hb12' : w6.heap[b12]? = some (.cells #[pv] 40 (0, 0)) := (hg6.block b12 (Array.getElem?_eq_some_iff.1 HOW.out.blk).1 (fun e => HOW.out.ne b12 e.symm rfl)).trans HOW.out.blk; have c12 := cell_of_row w6 b12 0 _ _ _ hb12'; have f12 := frozen_of_row w6 b12 0 _ _ hb12'; have HB12 := zh hb12'; clear ho6 hg6 hk6 hb12')
    have hgn12 : g ≠ b12 := by have := (Array.getElem?_eq_some_iff.1 HP.out.blk).1; have := HZ.out; omega
    have h1n12 : w.heap.size + 1 ≠ b12 := by have := (Array.getElem?_eq_some_iff.1 HP.out.blk).1; omega
    have hkeep : ∀ {x : Nat} {cs : Array Value} {T : TypeId}, w5.heap[x]? = some (.cells cs T (0, 0)) → T ≠ 3 → w6.heap[x]? = some (.cells cs T (0, 0)) := by
     intro x cs T hx hT
     refine (HG6.out.block x (Array.getElem?_eq_some_iff.1 hx).1 ?_).trans hx
     intro e
     obtain ⟨-, cs', h8⟩ := z7 HOW.out.own _ e.symm
     rw [hx] at h8
     simp at h8
     exact hT h8.2
    have HG8 := zh ((jU (w := w6) (i := 0) hgn12 (.slice (some ⟨ga, 0, none⟩) (pos.length + 1) cp)).trans (hkeep HG5.out (by decide)))
    have H38 := zh ((jU (w := w6) (i := 0) h1n12 (.slice (some ⟨ga, 0, none⟩) (pos.length + 1) cp)).trans (hkeep H35.out (by decide)))
    have HB8 := zh (zW (i := 0) HB12.out (.slice (some ⟨ga, 0, none⟩) (pos.length + 1) cp))
    have HK35 := zh (hkeep H35.out (by decide))
    clear hkeep c12 f12
    go_wp2_with (first | (refine zs _ _ rfl _ rfl _ _ _ (HG8.out) ?_ ?_ ?_; kernel_rfl; kernel_rfl) | (refine wpList_store_row rfl _ _ _ rfl _ _ rfl rfl _ _ (H38.out) ?_ ?_ ?_ ?_; kernel_rfl; rfl; kernel_rfl))
    have e2 : pos2 = pos ++ [E.off k + yX op] := by rw [HP2.out, if_pos HYC.out]
    rw [e2]
    refine bodyPost_ret (results_cell_row (cs := #[.int .i64 op, .int .i64 d, .int .i64 s, .int .u16 I, .int .u16 aux, .int .i64 bank, .int .i64 size]) (fr := (0, 0)) rfl _ _ (w.heap.size + 1) 53 _ rfl (setRow_heap _ _ _ _ _ _ H38.out) (Try.underlying53) rfl (by kernel_rfl)) rfl ⟨rfl, .slice (some ⟨ga, 0, none⟩) (pos.length + 1) cp, ⟨?_, ?_⟩, ?_, ?_⟩
    ·exact (setRow_other _ _ _ _ (Ne.symm h1n12)).trans HB8.out
    ·have h9 := HO6.out
     rw [show pos.length + 1 = (pos ++ [E.off k + yX op]).length by simp] at h9 ⊢
     rw [List.map_append]
     refine zZ (bs := fun x => x = b12 ∨ x = w.heap.size + 1) h9 ((zN.setCell (zN.refl _ _) _ fun _ => .inl rfl).setRow _ fun _ => .inr rfl) ?_
     intro q' hq' h
     obtain ⟨-, cs', h8⟩ := z7 h9 _ hq'
     rcases h with rfl | rfl
     ·rw [HB12.out] at h8; simp at h8
     ·rw [HK35.out] at h8; simp at h8
    ·refine zN.setRow (zN.setCell ?_ _ fun _ => .inl rfl) _ fun h => absurd h (by omega)
     exact ((zN.ofBelow HBE.out).trans (zN.ofBelow (bs := fun x => x = b12 ∨ pv.ownBlock = some x) HB5.out) (fun _ _ h => h)).grown HG6.out fun k' hk' _ => .inr hk'
    ·intro q' hq'
     rcases HK6.out with h | h
     ·exact .inl (h ▸ hq')
     ·rw [h] at hq'
      have := HB5.out.size
      have := HBE.out.size
      cases hq'
      exact .inr (by omega)
   ·replace h2 : ob3 ≤ I - ob2 := by omega
    have HNC := zh (show ¬ xJ E ⟨-1, ob2, ob3⟩ imm by unfold xJ; rintro ⟨-, -, h⟩; dsimp only at h; rw [HI.out] at h; omega)
    go_upto_region 7 with fail
    go_wp2_with (first | (refine zs _ _ rfl _ rfl _ _ _ (H4E.out) ?_ ?_ ?_; kernel_rfl; kernel_rfl) | (refine wpList_store_row rfl _ _ _ rfl _ _ rfl rfl _ _ (H3E.out) ?_ ?_ ?_ ?_; kernel_rfl; rfl; kernel_rfl))
    have e2 : pos2 = pos := by rw [HP2.out, if_neg HNC.out, List.append_nil]
    rw [e2]
    refine bodyPost_ret (results_cell_row (cs := #[.int .i64 op, .int .i64 d, .int .i64 s, .int .u16 I, .int .u16 aux, .int .i64 bank, .int .i64 size]) (fr := (0, 0)) rfl _ _ (w.heap.size + 1) 53 _ rfl (setRow_heap _ _ _ _ _ _ H3E.out) (Try.underlying53) rfl (by kernel_rfl)) rfl ⟨rfl, pv, ?_, ?_, ?_⟩
    ·exact HP.out.stay (below_setRow HBE.out (by omega) _)
    ·exact zN.ofBelow (below_setRow HBE.out (by omega) _)
    ·exact fun q hq => .inl hq
 ·have hb1a : (ob1 == -1) = false := by simp [hb1]
  have HNC := zh (show ¬ xJ E ⟨ob1, ob2, ob3⟩ imm by unfold xJ; rintro ⟨h, -, -⟩; exact hb1 h)
  go_upto_region 7 with fail
  go_wp2_with (first | (refine zs _ _ rfl _ rfl _ _ _ (H4E.out) ?_ ?_ ?_; kernel_rfl; kernel_rfl) | (refine wpList_store_row rfl _ _ _ rfl _ _ rfl rfl _ _ (H3E.out) ?_ ?_ ?_ ?_; kernel_rfl; rfl; kernel_rfl))
  have e2 : pos2 = pos := by rw [HP2.out, if_neg HNC.out, List.append_nil]
  rw [e2]
  refine bodyPost_ret (results_cell_row (cs := #[.int .i64 op, .int .i64 d, .int .i64 s, .int .u16 I, .int .u16 aux, .int .i64 bank, .int .i64 size]) (fr := (0, 0)) rfl _ _ (w.heap.size + 1) 53 _ rfl (setRow_heap _ _ _ _ _ _ H3E.out) (Try.underlying53) rfl (by kernel_rfl)) rfl ⟨rfl, pv, ?_, ?_, ?_⟩
  ·exact HP.out.stay (below_setRow HBE.out (by omega) _)
  ·exact zN.ofBelow (below_setRow HBE.out (by omega) _)
  ·exact fun q hq => .inl hq
end Go.Proofs.Ythebmoggbgldmaa
namespace Go.Proofs.Ythebmoggbgldmaa
open Go Go.RowKit Go.Maps MapKept
theorem run_lookup_lit {P : Program} (w : World) (g : Nat) (es : Array MapEntry) (ck : Nat) (t I e : TypeId) (ht : P.underlying t = some (.map I e)) (hI : P.underlying I = some (.int .i64)) (k : Int) (n : Nat) (v : Value) (h : w.heap[g]? = some (.map es ck))
  (hf : Instr.findNow (.int .i64) (.int .i64 k) es.toList 0 = some (some (n, v))) : (Instr.lookup t (.map (some g)) (.int .i64 k) false).run P w = .ok v w := by
 have hc := fun b => Go.MapKept.run_checkKey (w := w) hI (k := .int .i64 k) (by trivial) b 9999
 unfold Instr.lookup
 simp [run_underlying ht, Go.MapKept.run_getObj_map (P := P) h, hc, Go.MapKept.run_findKey hI hf]
theorem run_update_lit {P : Program} (w : World) (g : Nat) (es : Array MapEntry) (ck : Nat) (t I e : TypeId) (ht : P.underlying t = some (.map I e)) (hI : P.underlying I = some (.int .i64)) (k : Int) (v : Value) (h : w.heap[g]? = some (.map es ck))
  (hf : Instr.findNow (.int .i64) (.int .i64 k) es.toList 0 = some none) : (Instr.mapUpdate t (.map (some g)) (.int .i64 k) v).run P w = .ok () { w with heap := w.heap.setIfInBounds g (.map (es.push ⟨.int .i64 k, v, ck⟩) (ck + 1)) } := by
 have hc := fun b => Go.MapKept.run_checkKey (w := w) hI (k := .int .i64 k) (by trivial) b 9999
 unfold Instr.mapUpdate
 simp [run_underlying ht, Go.MapKept.run_getObj_map (P := P) h, hc, Go.MapKept.run_findKey hI hf, Go.MapKept.run_setObj_map (P := P) _ h]
theorem ji {P : Program} {w : World} {ops : Array Oper} {rest : List Oper} {o : Oper} {a : Act} {Q : Exit → Act → World → Prop} (hgd : o.guard = none) (m x y : Operand) (t I e : TypeId) (hop : o.op = Op.insert t m x y) (ht : P.underlying t = some (.map I e)) (hI : P.underlying I = some (.int .i64))
  (g : Nat) (es : Array MapEntry) (ck : Nat) (h : w.heap[g]? = some (.map es ck)) (hm : a.eval m = .map (some g)) (k : Int) (hx : a.eval x = .int .i64 k) (v : Value) (hy : a.eval y = v)
  (hf : Instr.findNow (.int .i64) (.int .i64 k) es.toList 0 = some none)
  (hK : ∀ w', w'.heap[g]? = some (.map (es.push ⟨.int .i64 k, v, ck⟩) (ck + 1)) → w.grownBy w' (some g) → wpList P ops Q rest (a.put o.dst undef) w') : wpList P ops Q (o :: rest) a w := by
 refine wpList_plain hgd fun K hK' => ?_
 have hr := run_update_lit w g es ck t I e ht hI k v h hf
 have hlt := (Array.getElem?_eq_some_iff.1 h).1
 unfold Oper.wp execOp
 simp [hop, hm, hx, hy, hr, Result.andThen]
 exact hK' _ _ (hK _ (by simp [hlt]) ⟨rfl, rfl, rfl, by simp, fun j _ hj => by simp [show g ≠ j from fun e => hj (by rw [e])]⟩)
theorem jM {P : Program} {w : World} {o : Oper} {a : Act} (m x : Operand) (t I e : TypeId) (hop : o.op = Op.lookup t m x false) (ht : P.underlying t = some (.map I e)) (hI : P.underlying I = some (.int .i64))
  (g : Nat) (es : Array MapEntry) (ck : Nat) (h : w.heap[g]? = some (.map es ck)) (hm : a.eval m = .map (some g)) (k : Int) (hx : a.eval x = .int .i64 k) (n : Nat) (v : Value) (hf : Instr.findNow (.int .i64) (.int .i64 k) es.toList 0 = some (some (n, v))) : (execOp a.eval o).run P w = .ok (.value v) w := by
 have hr := run_lookup_lit w g es ck t I e ht hI k n v h hf
 unfold execOp
 simp [hop, hm, hx, hr, Result.andThen]
end Go.Proofs.Ythebmoggbgldmaa
