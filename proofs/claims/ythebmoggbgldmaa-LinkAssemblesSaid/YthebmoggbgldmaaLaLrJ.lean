/- The reference of chapter 19: the encoder's plain. The conditions: a well-formed chunk. (Printed by gen_lrj.py.) -/
import Derived.Test.YthebmoggbgldmaaLaLrI
set_option linter.all false
namespace Go.Proofs.Ythebmoggbgldmaa
open Go Go.RowKit Go.Maps
theorem jV.app {w0 : World} {E : zL} {nm : ByteArray} {lv : Value} {eb go lcp : Nat} {cua : Array Value} {code tabs pos : List Int} {pv : Value} {W W' : World} (h : jV w0 E nm lv eb go lcp cua code tabs pos pv W) {y : Int} {ga cp : Nat} (ho : W'.ownsRow 0 3 1 (.slice (some ⟨ga, 0, none⟩) (pos.length + 1) cp) (pos ++ [y]).length ((pos ++ [y]).map (Value.int .i64))) (hg : W.grownBy W' pv.ownBlock) (hk : pv.ownBlock = some ga ∨ ga = W.heap.size) :
  jV w0 E nm lv eb go lcp cua code tabs (pos ++ [y]) (.slice (some ⟨ga, 0, none⟩) (pos.length + 1) cp) (W'.setCell ⟨eb, 7, none⟩ (.slice (some ⟨ga, 0, none⟩) (pos.length + 1) cp)) := by
 have hbk := row_kept h.own hg h.blk (by decide)
 have hgo : W'.heap[go]? = some (.cells cua 3 (0, 0)) := (hg.block go (Array.getElem?_eq_some_iff.1 h.gos).1 fun e => h.pg e.symm).trans h.gos
 have hlt : go < W.heap.size := (Array.getElem?_eq_some_iff.1 h.gos).1
 have hb : Below w0.heap.size w0 W' := h.bb.trans (((zN.refl (fun k => pv.ownBlock = some k) W).grown hg fun k hk _ => hk).toBelow h.bb.size h.pr)
 have hne : ga ≠ eb := fun e => by
  obtain ⟨-, cs, h8⟩ := z7 ho ga rfl
  rw [e, hbk] at h8; simp at h8
 refine ⟨hb.trans ((zN.setCell (zN.refl (fun y => y = eb) W') _ fun _ => rfl).toBelow hb.size fun k hk => by rw [hk]; exact h.eb0), zW hbk _, (jU h.ge _).trans hgo,
  zZ ho (zN.setCell (zN.refl (fun y => y = eb) W') _ fun _ => rfl) (fun q hq e => ?_), fun e => ?_, h.cu, h.eb0, fun q hq => ?_⟩
 ·simp only [Value.ownBlock, Option.some.injEq] at hq
  omega
 ·simp only [Value.ownBlock, Option.some.injEq] at e
  rcases hk with hk | hk
  ·exact h.pg (by rw [hk, e])
  ·omega
 ·simp only [Value.ownBlock, Option.some.injEq] at hq
  rcases hk with hk | hk
  ·exact h.pr q (by rw [hk, hq])
  ·have := h.bb.size; omega
section
variable (w0 : World) (E : zL) (hE : E.Ok) (nm : ByteArray) (lv : Value) (eb go lcp : Nat) (cua : Array Value) (code tabs pos : List Int) (pv : Value) (hcl : code.length ≤ 1000000)
include hE hcl
set_option maxRecDepth 100000 in
set_option maxHeartbeats 4000000 in
theorem rplain_raw1 (la op d s imm aux bank size dest fn obj : Int) (ta : Option Addr) (tn tcp : Nat) (dv : Value) (ho : obj < 0) (hio : (z6 ⟨op, d, s, imm, aux, bank, size⟩).Ok) (w : World) (h : jV w0 E nm lv eb go lcp cua code tabs pos pv w) :
  Calls Try.prog 67 #[.pointer (some ⟨eb, 0, none⟩), .agg #[.int .i64 la, .int .i64 op, .int .i64 d, .int .i64 s, .int .u16 imm, .int .u16 aux, .int .i64 bank, .int .i64 size, .int .i64 dest, .int .i64 fn, .int .i64 obj, .slice ta tn tcp], dv] w (EnPost w0 E nm lv eb go lcp cua (code ++ xl (z6 ⟨op, d, s, imm, aux, bank, size⟩)) tabs pos pv w) := by
 have HIN := zh (fun pos pv W hW => rins_any w0 E nm eb go lcp cua code tabs pos pv ⟨op, d, s, imm, aux, bank, size⟩ hio lv hcl W hW)
 clear hio
 have hn := heap_alloc_new w (.cells #[.int .i64 la, .int .i64 op, .int .i64 d, .int .i64 s, .int .u16 imm, .int .u16 aux, .int .i64 bank, .int .i64 size, .int .i64 dest, .int .i64 fn, .int .i64 obj, .slice ta tn tcp] 58)
 have hb1 := (Below.refl w.heap.size w).alloc (zn _) (.cells #[.int .i64 la, .int .i64 op, .int .i64 d, .int .i64 s, .int .u16 imm, .int .u16 aux, .int .i64 bank, .int .i64 size, .int .i64 dest, .int .i64 fn, .int .i64 obj, .slice ta tn tcp] 58)
 obtain ⟨wa, hwa⟩ : ∃ wa : World, w.alloc (.cells #[.int .i64 la, .int .i64 op, .int .i64 d, .int .i64 s, .int .u16 imm, .int .u16 aux, .int .i64 bank, .int .i64 size, .int .i64 dest, .int .i64 fn, .int .i64 obj, .slice ta tn tcp] 58) = wa := ⟨_, rfl⟩
 rw [hwa] at hn hb1
 have HN := zh hn
 have HB := zh hb1
 have HH := zh (h.stay hb1)
 have HA0 := zh (show w.heap.size < wa.heap.size from (Array.getElem?_eq_some_iff.1 hn).1)
 clear hn hb1 h
 go_enter Try.func67, Try.ntmps67
 go_upto_region 1 with fail
 try rw [hwa]
 clear hwa
 go_upto_region 2 with (first | (refine wpList_store_row rfl _ _ _ rfl _ _ rfl rfl _ _ (heap_alloc_new _ _) ?_ ?_ ?_ ?_; kernel_rfl; rfl; kernel_rfl; rw [World.setRow_alloc_new]) | (refine z9 _ _ rfl _ _ rfl _ _ _ (HN.out) ([.int .i64 op, .int .i64 d, .int .i64 s, .int .u16 imm, .int .u16 aux, .int .i64 bank, .int .i64 size]) ((by rfl)) ?_ ?_ ?_; kernel_rfl; kernel_rfl))
 have h4 := heap_alloc_new wa (.cells #[.int .i64 op, .int .i64 d, .int .i64 s, .int .u16 imm, .int .u16 aux, .int .i64 bank, .int .i64 size] 53)
 have hb2 := (Below.refl wa.heap.size wa).alloc (zn _) (.cells #[.int .i64 op, .int .i64 d, .int .i64 s, .int .u16 imm, .int .u16 aux, .int .i64 bank, .int .i64 size] 53)
 obtain ⟨W, hW⟩ : ∃ W : World, wa.alloc (.cells #[.int .i64 op, .int .i64 d, .int .i64 s, .int .u16 imm, .int .u16 aux, .int .i64 bank, .int .i64 size] 53) = W := ⟨_, rfl⟩
 obtain ⟨g, hg⟩ : ∃ g : Nat, wa.heap.size = g := ⟨_, rfl⟩
 rw [hW] at h4 hb2 ⊢
 have HBW := zh (HB.out.trans (hb2.mono HB.out.size))
 have HHW := zh (HH.out.stay hb2)
 have HNW := zh (zf hb2 HN.out)
 have HG0 := zh (show w.heap.size < g by rw [← hg]; exact HA0.out)
 rw [hg] at h4 ⊢
 have H4W := zh h4
 clear hW hg hb2 h4 HB HH HN
 have c10 := cell_of_row W w.heap.size 10 _ _ _ HNW.out
 try simp only [Act.put]
 go_wp2_with (first | (refine zs _ _ rfl _ rfl _ _ _ (H4W.out) ?_ ?_ ?_; kernel_rfl; kernel_rfl) | (go_at_call 90; refine (HIN.out pos pv _ HHW.out).mono ?_; rintro e w9 ⟨rfl, hp9⟩; have HP9 := zh hp9; clear hp9))
 go_end0
 exact ⟨rfl, (jQ (e := .returned (.tuple #[])) HBW.out ⟨rfl, HP9.out⟩).2⟩
set_option maxRecDepth 100000 in
set_option maxHeartbeats 8000000 in
theorem rplain_raw2 (k : Nat) (la op d s imm aux bank size dest fn : Int) (ko : Nat) (ta da : Option Addr) (tn tcp dcap : Nat) (ob : ObjS) (hkl : k ≤ E.ls.length) (hob : E.data[ko]? = some ob) (hdv : jK w0 (.slice da E.data.length dcap) E.data) (I : Int) (hI : (imm + ob.addr) % 65536 = I) (hio : (z6 ⟨op, d, s, I, aux, bank, size⟩).Ok) (hoff : (code.length : Int) = E.off k) (hpl : pos.length ≤ 100000) (pos2 : List Int) (hp2 : pos2 = pos ++ if xJ E ob imm then [E.off k + yX op] else []) (w : World) (h : jV w0 E nm lv eb go lcp cua code tabs pos pv w) :
  Calls Try.prog 67 #[.pointer (some ⟨eb, 0, none⟩), .agg #[.int .i64 la, .int .i64 op, .int .i64 d, .int .i64 s, .int .u16 imm, .int .u16 aux, .int .i64 bank, .int .i64 size, .int .i64 dest, .int .i64 fn, .int .i64 ko, .slice ta tn tcp], .slice da E.data.length dcap] w (EnPost w0 E nm lv eb go lcp cua (code ++ xl (z6 ⟨op, d, s, I, aux, bank, size⟩)) tabs pos2 pv w) := by
 have hnd := hE.nd
 have hko : ko < E.data.length := (List.getElem?_eq_some_iff.1 hob).1
 have hod := hE.ds ob (List.mem_of_getElem? hob)
 obtain ⟨oa0, oa1, -, os0, os1⟩ := hod
 have o1 := hE.off (k := k) hkl
 have hlen := hE.len
 have HIN := zh (fun pos pv W hW => rins_any w0 E nm eb go lcp cua code tabs pos pv ⟨op, d, s, I, aux, bank, size⟩ hio lv hcl W hW)
 obtain ⟨q, off, c, T', fr', rfl, hq, hx⟩ := (hdv.below h.bb).at hob
 have HQ := zh hq
 have HX := zh hx
 obtain ⟨ob1, ob2, ob3⟩ := ob
 dsimp only at hI oa0 oa1 os0 os1
 have HI := zh hI
 have HP2 := zh hp2
 have HOF := zh hoff
 clear hio hI hp2 hq hx hob hdv
 have hn := heap_alloc_new w (.cells #[.int .i64 la, .int .i64 op, .int .i64 d, .int .i64 s, .int .u16 imm, .int .u16 aux, .int .i64 bank, .int .i64 size, .int .i64 dest, .int .i64 fn, .int .i64 ko, .slice ta tn tcp] 58)
 have hb1 := (Below.refl w.heap.size w).alloc (zn _) (.cells #[.int .i64 la, .int .i64 op, .int .i64 d, .int .i64 s, .int .u16 imm, .int .u16 aux, .int .i64 bank, .int .i64 size, .int .i64 dest, .int .i64 fn, .int .i64 ko, .slice ta tn tcp] 58)
 obtain ⟨wa, hwa⟩ : ∃ wa : World, w.alloc (.cells #[.int .i64 la, .int .i64 op, .int .i64 d, .int .i64 s, .int .u16 imm, .int .u16 aux, .int .i64 bank, .int .i64 size, .int .i64 dest, .int .i64 fn, .int .i64 ko, .slice ta tn tcp] 58) = wa := ⟨_, rfl⟩
 rw [hwa] at hn hb1
 have h0 : w0.heap.size ≤ w.heap.size := h.bb.size
 have HN := zh hn
 have HB := zh hb1
 have HH := zh (h.stay hb1)
 have HA0 := zh (show w.heap.size < wa.heap.size from (Array.getElem?_eq_some_iff.1 hn).1)
 clear hn hb1 h
 go_enter Try.func67, Try.ntmps67
 go_upto_region 1 with fail
 try rw [hwa]
 clear hwa
 go_upto_region 2 with (first | (refine wpList_store_row rfl _ _ _ rfl _ _ rfl rfl _ _ (heap_alloc_new _ _) ?_ ?_ ?_ ?_; kernel_rfl; rfl; kernel_rfl; rw [World.setRow_alloc_new]) | (refine z9 _ _ rfl _ _ rfl _ _ _ (HN.out) ([.int .i64 op, .int .i64 d, .int .i64 s, .int .u16 imm, .int .u16 aux, .int .i64 bank, .int .i64 size]) ((by rfl)) ?_ ?_ ?_; kernel_rfl; kernel_rfl))
 have h4 := heap_alloc_new wa (.cells #[.int .i64 op, .int .i64 d, .int .i64 s, .int .u16 imm, .int .u16 aux, .int .i64 bank, .int .i64 size] 53)
 have hb2 := (Below.refl wa.heap.size wa).alloc (zn _) (.cells #[.int .i64 op, .int .i64 d, .int .i64 s, .int .u16 imm, .int .u16 aux, .int .i64 bank, .int .i64 size] 53)
 obtain ⟨W, hW⟩ : ∃ W : World, wa.alloc (.cells #[.int .i64 op, .int .i64 d, .int .i64 s, .int .u16 imm, .int .u16 aux, .int .i64 bank, .int .i64 size] 53) = W := ⟨_, rfl⟩
 obtain ⟨g, hg⟩ : ∃ g : Nat, wa.heap.size = g := ⟨_, rfl⟩
 rw [hW] at h4 hb2 ⊢
 have HBW := zh (HB.out.trans (hb2.mono HB.out.size))
 have HHW := zh (HH.out.stay hb2)
 have HNW := zh (zf hb2 HN.out)
 have HG0 := zh (show w.heap.size < g by rw [← hg]; exact HA0.out)
 rw [hg] at h4 ⊢
 have H4W := zh h4
 clear hW hg hb2 h4 HB HH HN
 have c10 := cell_of_row W w.heap.size 10 _ _ _ HNW.out
 try simp only [Act.put]
 have HQW := zh (zf HBW.out HQ.out)
 go_upto_region 4 with (first | (refine wpList_store_row rfl _ _ _ rfl _ _ rfl rfl _ _ (heap_alloc_new _ _) ?_ ?_ ?_ ?_; kernel_rfl; rfl; kernel_rfl; rw [World.setRow_alloc_new]) | (refine z9 _ _ rfl _ _ rfl _ _ _ (HQW.out) ([.int .i64 ob1, .int .u16 ob2, .int .u16 ob3]) (HX.out) ?_ ?_ ?_; kernel_rfl; kernel_rfl))
 have hI0 : 0 ≤ I := by rw [← HI.out]; omega
 have hI1 : I < 65536 := by rw [← HI.out]; omega
 have hw : IntKind.u16.wrap (imm + ob2) = I := HI.out
 have h9 := heap_alloc_new W (.cells #[.int .i64 ob1, .int .u16 ob2, .int .u16 ob3] 47)
 have hb3 := (Below.refl W.heap.size W).alloc (zn _) (.cells #[.int .i64 ob1, .int .u16 ob2, .int .u16 ob3] 47)
 have hzW : g < W.heap.size := (Array.getElem?_eq_some_iff.1 H4W.out).1
 obtain ⟨W2, hW2⟩ : ∃ W2 : World, W.alloc (.cells #[.int .i64 ob1, .int .u16 ob2, .int .u16 ob3] 47) = W2 := ⟨_, rfl⟩
 obtain ⟨g9, hg9⟩ : ∃ g9 : Nat, W.heap.size = g9 := ⟨_, rfl⟩
 rw [hW2] at h9 hb3 ⊢
 have HB2 := zh (HBW.out.trans (hb3.mono HBW.out.size))
 have HH2 := zh (HHW.out.stay hb3)
 have H42 := zh (zf hb3 H4W.out)
 rw [hg9] at h9 hzW ⊢
 have H9 := zh h9
 clear hW2 hg9 hb3 h9 c10 HHW HNW H4W HQW HBW
 have c3 := cell_of_row W2 g 3 _ _ _ H42.out
 have c91 := cell_of_row W2 g9 1 _ _ _ H9.out
 try simp only [Act.put]
 go_upto_region 5 with (refine yP rfl _ _ _ rfl _ _ (by rfl) _ (by rfl) _ _ (H42.out) _ (by rfl) ?_ ?_ ?_ (#[.int .i64 op, .int .i64 d, .int .i64 s, .int .u16 I, .int .u16 aux, .int .i64 bank, .int .i64 size]) (by rfl) ?_; rfl; kernel_rfl; kernel_rfl)
 have hne1 : g9 ≠ g := by omega
 have hge : eb ≠ g := fun e => by
  have h8 := H42.out
  rw [← e, HH2.out.blk] at h8; simp at h8
 have H4E := zh (setRow_heap W2 g _ #[.int .i64 op, .int .i64 d, .int .i64 s, .int .u16 I, .int .u16 aux, .int .i64 bank, .int .i64 size] _ _ H42.out)
 have H9E := zh ((setRow_other W2 g g9 #[.int .i64 op, .int .i64 d, .int .i64 s, .int .u16 I, .int .u16 aux, .int .i64 bank, .int .i64 size] hne1).trans H9.out)
 have HT3 := zN.setRow (zN.refl (fun x => x = g) W2) #[.int .i64 op, .int .i64 d, .int .i64 s, .int .u16 I, .int .u16 aux, .int .i64 bank, .int .i64 size] fun _ => rfl
 have hgg : g < W2.heap.size := (Array.getElem?_eq_some_iff.1 H42.out).1
 have HBE := zh (below_setRow HB2.out (show w.heap.size ≤ g by have := HG0.out; omega) #[.int .i64 op, .int .i64 d, .int .i64 s, .int .u16 I, .int .u16 aux, .int .i64 bank, .int .i64 size])
 have HHE : Hid (jV w0 E nm lv eb go lcp cua code tabs pos pv (W2.setRow g #[.int .i64 op, .int .i64 d, .int .i64 s, .int .u16 I, .int .u16 aux, .int .i64 bank, .int .i64 size])) := zh (by
  have hgi : ∀ x cs, W2.heap[x]? = some (.cells cs 3 (0, 0)) → x ≠ g := fun x cs hx e => by
   rw [e, H42.out] at hx; simp at hx
  refine ⟨HH2.out.bb.trans (HT3.toBelow HH2.out.bb.size fun x hx => ?_), (setRow_other W2 g eb _ hge).trans HH2.out.blk, (setRow_other W2 g go _ (hgi _ _ HH2.out.gos)).trans HH2.out.gos, zZ HH2.out.own HT3 (fun q hq e => ?_), HH2.out.pg, HH2.out.cu, HH2.out.eb0, HH2.out.pr⟩
  ·subst hx
   have := HG0.out
   have := h0
   omega
  ·obtain ⟨-, cs, h8⟩ := z7 HH2.out.own q hq
   exact hgi _ _ h8 e)
 obtain ⟨W3, hW3⟩ : ∃ W3 : World, W2.setRow g #[.int .i64 op, .int .i64 d, .int .i64 s, .int .u16 I, .int .u16 aux, .int .i64 bank, .int .i64 size] = W3 := ⟨_, rfl⟩
 rw [hW3] at H4E H9E HBE HHE ⊢
 clear hW3 c3 c91 hne1 hge hw H42 H9 HB2 HH2 HT3 hgg
 have c3 := cell_of_row W3 g 3 _ _ _ H4E.out
 have c9 : ∀ o : Nat, W3.cell? ⟨g9, o, none⟩ = (#[.int .i64 ob1, .int .u16 ob2, .int .u16 ob3] : Array Value)[o]? := fun o => cell_of_row W3 g9 o _ _ _ H9E.out
 have hwc1 : IntKind.i64.wrap I = I := IntWalk.i64_in _ (by omega)
 have hwc2 : IntKind.i64.wrap ob2 = ob2 := IntWalk.i64_in _ (by omega)
 have hwc3 : IntKind.i64.wrap ob3 = ob3 := IntWalk.i64_in _ (by omega)
 have hwc4 : IntKind.i64.wrap (ob2 + ob3) = ob2 + ob3 := IntWalk.i64_in _ (by omega)
 by_cases hb1 : ob1 = -1
 ·subst hb1
  by_cases h1 : I < ob2
  ·have HNC := zh (show ¬ xJ E ⟨-1, ob2, ob3⟩ imm by unfold xJ; rintro ⟨-, h, -⟩; dsimp only at h; rw [HI.out] at h; omega)
   go_upto_region 7 with fail
   go_wp2_with (first | (refine zs _ _ rfl _ rfl _ _ _ (H4E.out) ?_ ?_ ?_; kernel_rfl; kernel_rfl) | (go_at_call 90; refine (HIN.out pos pv _ HHE.out).mono ?_; rintro e w9 ⟨rfl, hp9⟩; have HP9 := zh hp9; clear hp9))
   go_end0
   have e2 : pos2 = pos := by rw [HP2.out, if_neg HNC.out, List.append_nil]
   rw [e2]
   exact ⟨rfl, (jQ (e := .returned (.tuple #[])) HBE.out ⟨rfl, HP9.out⟩).2⟩
  ·replace h1 : ob2 ≤ I := by omega
   by_cases h2 : I < ob2 + ob3
   ·have HYC := zh (show xJ E ⟨-1, ob2, ob3⟩ imm by unfold xJ; dsimp only; rw [HI.out]; exact ⟨rfl, h1, by omega⟩)
    have HFD := zh (fun V => rfield_any op V)
    go_upto_region 6 with fail
    clear c3 c9 hwc1 hwc2 hwc3 hwc4
    have hfd : 0 ≤ yX op ∧ yX op ≤ 3 := by unfold yX; split <;> omega
    have HSUM := zh (show IntKind.i64.wrap ((code.length : Int) + yX op) = E.off k + yX op by rw [HOF.out]; exact IntWalk.i64_in _ (by omega))
    have HSZ := zh (show ((zO code).size : Int) = (code.length : Int) by rw [yo])
    have zz0 : eb < W3.heap.size := (Array.getElem?_eq_some_iff.1 HHE.out.blk).1
    have zz1 : g < W3.heap.size := (Array.getElem?_eq_some_iff.1 H4E.out).1
    clear hfd
    refine xK 0 _ (.pointer (some ⟨eb, 0, none⟩)) [] 15 (z5 [isV (.pointer (some ⟨eb, 0, none⟩)), isV (.pointer (some ⟨eb, 0, none⟩)), isV (.pointer (some ⟨eb, 0, none⟩)), isV (.pointer (some ⟨eb, 7, none⟩)), isV (pv), isV (.pointer (some ⟨eb, 0, none⟩)), isV (.pointer (some ⟨eb, 0, none⟩)), isV (.pointer (some ⟨eb, 5, none⟩)), isV (.string (zO code)), isV (.int .i64 code.length), isV (.pointer (some ⟨g, 0, none⟩)), isV (.int .i64 op), isV (.int .i64 (yX op)), isV (.int .i64 (E.off k + yX op)), newS (W3.heap.size) (.cells #[.int .i64 (E.off k + yX op)] 3 (0, 0)) 1]) (nth [[0], [1], [2], [3], [4], [5], [6], [7], [8], [9], [10], [11], [12], [13], [14]]) (nth [[], [], [], [], [], [], [], [], [], [], [], [], [], [], []]) (nth [[], [], [1], [2], [3], [], [5], [6], [7], [8], [], [10], [11], [9, 12], [13]]) [0, 4, 14] (yU W3.heap.size W3 W3.heap.size [(eb, .cells #[.string nm, lv, .int .i64 E.pl.bank, .int .u16 E.pl.addr, .slice (some ⟨go, 0, none⟩) (E.ls.length + 1) lcp, .string (zO code), .string (zO tabs), pv] 127 (0, 0)), (g, .cells #[.int .i64 op, .int .i64 d, .int .i64 s, .int .u16 I, .int .u16 aux, .int .i64 bank, .int .i64 size] 53 (0, 0))]) (by kernel_rfl) (by kernel_rfl) rfl (by kernel_rfl) (by kernel_rfl) (by kernel_rfl) (fun _ _ _ h => h) ⟨by rfl, fun w => by rfl⟩ (by rfl) (⟨(Below.refl _ _).drew, zn _, zn _, by intro x hx; simp at hx; rcases hx with rfl | rfl <;> assumption, HHE.out.blk, H4E.out, trivial⟩) (yU.grow) (zG ((za (zc _)  (za (zc _)  (za (zc _)  (za (zc _)  (za (zc _)  (za (zc _)  (za (zc _)  (za (zc _)  (za (zc _)  (za (zc _)  (za (zc _)  (za (zc _)  (za (zc _)  (za (zc _)  (za (yZ _ _ _) zy))))))))))))))))) (fun f F hF => ?_)
    simp only [List.take_succ_cons, List.take_zero, yb, Act.put, zD, zE, zF, Nat.reduceAdd] at hF
    subst hF
    refine ⟨zj.skip (by rfl) (ze ?_ (ze ?_ (ze ?_ (ze ?_ (ze ?_ (ze ?_ (ze ?_ (ze ?_ (ze ?_ (ze ?_ (ze ?_ (ze ?_ (ze ?_ (ze ?_ (yf))))))))))))))), ?_⟩
    ·intro w5 hS hF hD K hK
     rw [if_pos (by rfl)]
     exact svV hK rfl rfl rfl rfl (by first | rfl | kernel_rfl)  (by show _ = _; kernel_rfl)
    ·intro w5 hS hF hD K hK
     obtain ⟨(e1 : f 1 = _), -⟩ := hF
     try simp only [e1]
     rw [if_pos (by rfl)]
     exact svV hK rfl rfl rfl rfl (by first | rfl | kernel_rfl)  (by show _ = _; kernel_rfl)
    ·intro w5 hS hF hD K hK
     obtain ⟨(e2 : f 2 = _), -⟩ := hF
     try simp only [e2]
     rw [if_pos (by rfl)]
     exact svV hK rfl rfl rfl rfl (by first | rfl | kernel_rfl)  (by show _ = _; kernel_rfl)
    ·intro w5 hS hF hD K hK
     obtain ⟨(e3 : f 3 = _), -⟩ := hF
     try simp only [e3]
     rw [if_pos (by rfl)]
     exact svC hK rfl rfl rfl rfl (by first | rfl | kernel_rfl)  rfl rfl (hS.2.2.2.2.1) (by kernel_rfl) (fun _ => by kernel_rfl)
    ·intro w5 hS hF hD K hK
     rw [if_pos (by rfl)]
     exact svV hK rfl rfl rfl rfl (by first | rfl | kernel_rfl)  (by show _ = _; kernel_rfl)
    ·intro w5 hS hF hD K hK
     obtain ⟨(e5 : f 5 = _), -⟩ := hF
     try simp only [e5]
     rw [if_pos (by rfl)]
     exact svV hK rfl rfl rfl rfl (by first | rfl | kernel_rfl)  (by show _ = _; kernel_rfl)
    ·intro w5 hS hF hD K hK
     obtain ⟨(e6 : f 6 = _), -⟩ := hF
     try simp only [e6]
     rw [if_pos (by rfl)]
     exact svV hK rfl rfl rfl rfl (by first | rfl | kernel_rfl)  (by show _ = _; kernel_rfl)
    ·intro w5 hS hF hD K hK
     obtain ⟨(e7 : f 7 = _), -⟩ := hF
     try simp only [e7]
     rw [if_pos (by rfl)]
     exact svC hK rfl rfl rfl rfl (by first | rfl | kernel_rfl)  rfl rfl (hS.2.2.2.2.1) (by kernel_rfl) (fun _ => by kernel_rfl)
    ·intro w5 hS hF hD K hK
     obtain ⟨(e8 : f 8 = _), -⟩ := hF
     try simp only [e8]
     rw [if_pos (by rfl)]
     exact zx (v := .int .i64 ((zO code).size : Int)) (by (show _ = _); kernel_rfl) (hK.out _ _ rfl (zq rfl rfl rfl (congrArg (Value.int .i64) HSZ.out)))
    ·intro w5 hS hF hD K hK
     rw [if_pos (by rfl)]
     exact svV hK rfl rfl rfl rfl (by first | rfl | kernel_rfl)  (by show _ = _; kernel_rfl)
    ·intro w5 hS hF hD K hK
     obtain ⟨(e10 : f 10 = _), -⟩ := hF
     try simp only [e10]
     rw [if_pos (by rfl)]
     exact svC hK rfl rfl rfl rfl (by first | rfl | kernel_rfl)  rfl rfl (hS.2.2.2.2.2.1) (by kernel_rfl) (fun _ => by kernel_rfl)
    ·intro w5 hS hF hD K hK
     obtain ⟨(e11 : f 11 = _), -⟩ := hF
     try simp only [e11]
     rw [if_pos (by rfl)]
     go_simp
     go_at_call 89; refine (HFD.out _).mono ?_; rintro e w3 ⟨rfl, rfl⟩; have hbelow := Below.refl w5.heap.size w5; go_simp
     refine hK.out _ _ rfl (zP rfl rfl rfl hbelow ?_)
     first | rfl | kernel_rfl
    ·intro w5 hS hF hD K hK
     obtain ⟨(e9 : f 9 = _), (e12 : f 12 = _), -⟩ := hF
     try simp only [e9, e12]
     rw [if_pos (by rfl)]
     exact zx (v := .int .i64 (IntKind.i64.wrap ((code.length : Int) + yX op))) (by (show _ = _); kernel_rfl) (hK.out _ _ rfl (zq rfl rfl rfl (congrArg (Value.int .i64) HSUM.out)))
    ·intro w5 hS hF hD K hK
     obtain ⟨(e13 : f 13 = _), -⟩ := hF
     try simp only [e13]
     rw [if_pos (by rfl)]
     go_simp
     refine hK.out _ _ rfl (y0 rfl rfl rfl hS.2.2.1 ?_)
     first | rfl | kernel_rfl
    intro w5 hS hF
    obtain ⟨(e0 : f 0 = _), (e4 : f 4 = _), e14, -⟩ := hF
    obtain ⟨g14, e14, hB14, hg14⟩ := e14
    replace e14 : f 14 = _ := e14
    try simp only [e0, e4, e14]
    simp only [List.drop_succ_cons, List.drop_zero]
    have HH5 := zh (HHE.out.stay hS.1)
    have HB5 := zh (HBE.out.trans (hS.1.mono HBE.out.size))
    have HG5 := zh (zf hS.1 H4E.out)
    have HGN := zh hg14
    have hl9 : pos.length ≤ 1000000 := by omega
    have hr5 : w.heap.size ≤ w5.heap.size := HB5.out.size
    clear hS e0 e4 e14 hg14 zz0 zz1 hB14
    go_upto_region 7 with (at_builtin; refine yK rfl _ _ rfl 0 (Nat.zero_le _) pv pos rfl HH5.out.own hl9 g14 (E.off k + yX op) rfl HGN.out ?_; intro ga cp w6 ho6 hg6 hk6; have HO6 := zh ho6; have HG6 := zh hg6; have HK6 := zh hk6; have HBK := zh (row_kept HH5.out.own hg6 HH5.out.blk (by decide)); have HI6 := zh (row_kept HH5.out.own hg6 HG5.out (by decide)); have c7 := cell_of_row w6 eb 7 _ _ _ HBK.out; have f7 : w6.frozen? ⟨eb, 7, none⟩ = false := (frozen_of_row w6 eb 7 _ _ HBK.out); clear ho6 hg6 hk6)
    have hge2 : g ≠ eb := fun e => by
     have h8 := HI6.out
     rw [e, HBK.out] at h8; simp at h8
    have HI7 := zh ((jU (w := w6) (i := 7) hge2 (.slice (some ⟨ga, 0, none⟩) (pos.length + 1) cp)).trans HI6.out)
    have HH7 := zh (HH5.out.app HO6.out HG6.out HK6.out)
    have HT7 := zh (show zN (fun x => x = eb ∨ pv.ownBlock = some x) w (w6.setCell ⟨eb, 7, none⟩ (.slice (some ⟨ga, 0, none⟩) (pos.length + 1) cp)) from (((zN.ofBelow HB5.out).grown HG6.out fun x hx _ => .inr hx).setCell _ fun _ => .inl rfl))
    clear hge2 c7 f7
    obtain ⟨W8, hW8⟩ : ∃ W8 : World, w6.setCell ⟨eb, 7, none⟩ (.slice (some ⟨ga, 0, none⟩) (pos.length + 1) cp) = W8 := ⟨_, rfl⟩
    rw [hW8] at HI7 HH7 HT7 ⊢
    clear hW8
    go_wp2_with (first | (refine zs _ _ rfl _ rfl _ _ _ (HI7.out) ?_ ?_ ?_; kernel_rfl; kernel_rfl) | (go_at_call 90; refine (HIN.out _ _ _ HH7.out).mono ?_; rintro e w9 ⟨rfl, hp9⟩; have HP9 := zh hp9; clear hp9))
    go_end0
    have e2 : pos2 = pos ++ [E.off k + yX op] := by rw [HP2.out, if_pos HYC.out]
    rw [e2]
    obtain ⟨pv9, hh9, ht9, hq9⟩ := HP9.out
    refine ⟨rfl, pv9, hh9, HT7.out.trans ht9 (fun x hx h => ?_), fun q hq => ?_⟩
    ·rcases h with h | h
     ·exact .inl h
     ·simp only [Value.ownBlock, Option.some.injEq] at h
      rcases HK6.out with h1 | h1
      ·exact .inr (by rw [h1, h])
      ·omega
    ·rcases hq9 q hq with h | h
     ·simp only [Value.ownBlock, Option.some.injEq] at h
      rcases HK6.out with h1 | h1
      ·exact .inl (by rw [h1, h])
      ·exact .inr (by omega)
     ·exact .inr (Nat.le_trans HT7.out.size h)
   ·replace h2 : ob2 + ob3 ≤ I := by omega
    have HNC := zh (show ¬ xJ E ⟨-1, ob2, ob3⟩ imm by unfold xJ; rintro ⟨-, -, h⟩; dsimp only at h; rw [HI.out] at h; omega)
    go_upto_region 7 with fail
    go_wp2_with (first | (refine zs _ _ rfl _ rfl _ _ _ (H4E.out) ?_ ?_ ?_; kernel_rfl; kernel_rfl) | (go_at_call 90; refine (HIN.out pos pv _ HHE.out).mono ?_; rintro e w9 ⟨rfl, hp9⟩; have HP9 := zh hp9; clear hp9))
    go_end0
    have e2 : pos2 = pos := by rw [HP2.out, if_neg HNC.out, List.append_nil]
    rw [e2]
    exact ⟨rfl, (jQ (e := .returned (.tuple #[])) HBE.out ⟨rfl, HP9.out⟩).2⟩
 ·have hb1a : (ob1 == -1) = false := by simp [hb1]
  have HNC := zh (show ¬ xJ E ⟨ob1, ob2, ob3⟩ imm by unfold xJ; rintro ⟨h, -, -⟩; exact hb1 h)
  go_upto_region 7 with fail
  go_wp2_with (first | (refine zs _ _ rfl _ rfl _ _ _ (H4E.out) ?_ ?_ ?_; kernel_rfl; kernel_rfl) | (go_at_call 90; refine (HIN.out pos pv _ HHE.out).mono ?_; rintro e w9 ⟨rfl, hp9⟩; have HP9 := zh hp9; clear hp9))
  go_end0
  have e2 : pos2 = pos := by rw [HP2.out, if_neg HNC.out, List.append_nil]
  rw [e2]
  exact ⟨rfl, (jQ (e := .returned (.tuple #[])) HBE.out ⟨rfl, HP9.out⟩).2⟩
theorem rplain_any (k : Nat) (l : zu) (ta da : Option Addr) (tcp dcap : Nat) (hl : E.ls[k]? = some l) (hf : zK l.ins.op = 1) (hdv : jK w0 (.slice da E.data.length dcap) E.data) (hoff : (code.length : Int) = E.off k) (hpl : pos.length ≤ 100000) (w : World) (h : jV w0 E nm lv eb go lcp cua code tabs pos pv w) :
  Calls Try.prog 67 #[.pointer (some ⟨eb, 0, none⟩), .agg #[.int .i64 (l).label, .int .i64 (l).ins.op, .int .i64 (l).ins.d, .int .i64 (l).ins.s, .int .u16 (l).ins.imm, .int .u16 (l).ins.aux, .int .i64 (l).ins.bank, .int .i64 (l).ins.size, .int .i64 (l).dest, .int .i64 (l).fn, .int .i64 (l).obj, .slice ta (l).tab.length tcp], .slice da E.data.length dcap] w (EnPost w0 E nm lv eb go lcp cua (code ++ E.lineB k tabs.length l) tabs (pos ++ E.posL k l) pv w) := by
 have hio := insL_ok hE hl (by omega) tabs.length
 have hil : E.insL k tabs.length l = { l.ins with imm := E.immP l } := by unfold zL.insL; rw [if_pos hf]
 have hLB : E.lineB k tabs.length l = xl (z6 { l.ins with imm := E.immP l }) := by unfold zL.lineB; rw [hil]
 rw [hil] at hio
 rw [hLB]
 rcases hE.ob l (List.mem_of_getElem? hl) hf with ho | ⟨ko, hko, hkl⟩
 ·have hi : E.immP l = l.ins.imm := by unfold zL.immP; rw [if_neg (by omega)]
  have hp : E.posL k l = [] := by unfold zL.posL; rw [if_neg fun h => by have := h.2.1; omega]
  rw [hi] at hio ⊢
  rw [hp, List.append_nil]
  exact rplain_raw1 w0 E hE nm lv eb go lcp cua code tabs pos pv hcl l.label l.ins.op l.ins.d l.ins.s l.ins.imm l.ins.aux l.ins.bank l.ins.size l.dest l.fn l.obj ta l.tab.length tcp _ (by omega) hio w h
 ·have hob : E.data[ko]? = some (E.objOf l.obj) := by
   unfold zL.objOf
   rw [hko, Int.toNat_natCast, List.getD_eq_getElem?_getD, List.getElem?_eq_getElem hkl]
   rfl
  have h1 : 0 ≤ l.obj := by omega
  have h9 := rplain_raw2 w0 E hE nm lv eb go lcp cua code tabs pos pv hcl k l.label l.ins.op l.ins.d l.ins.s l.ins.imm l.ins.aux l.ins.bank l.ins.size l.dest l.fn ko ta da l.tab.length tcp dcap (E.objOf l.obj) (Nat.le_of_lt (List.getElem?_eq_some_iff.1 hl).1) hob hdv (E.immP l) (by
   unfold zL.immP
   rw [if_pos h1]) hio hoff hpl (pos ++ E.posL k l) (by
   simp only [zL.posL, xJ, zL.immP, hf, h1, true_and, if_true]) w h
  rw [← hko] at h9
  exact h9
end
end Go.Proofs.Ythebmoggbgldmaa
