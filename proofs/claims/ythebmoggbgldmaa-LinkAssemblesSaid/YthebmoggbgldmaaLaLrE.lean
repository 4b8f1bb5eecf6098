/- The reference of chapter 19: the least sizes of lines. The conditions: a well-formed chunk. (Printed by gen_lre.py.) -/
import Derived.Test.YthebmoggbgldmaaLaLrB
set_option linter.all false
namespace Go.Proofs.Ythebmoggbgldmaa
open Go Go.RowKit Go.Maps
structure RzW (w : World) (nm : ByteArray) (lv : Value) (p : yw) (W : World) : Prop where
 bb : Below w.heap.size w W
 hc : W.heap[w.heap.size]? = some (.cells #[.string nm, lv] 32 (0, 0))
 hp : W.heap[w.heap.size + 1]? = some (.cells #[.int .i64 p.bank, .int .u16 p.addr] 37 (0, 0))
theorem RzW.stay {w : World} {nm : ByteArray} {lv : Value} {p : yw} {W W' : World} (h : RzW w nm lv p W) (hb : Below W.heap.size W W') : RzW w nm lv p W' := ⟨h.bb.trans (hb.mono h.bb.size), zf hb h.hc, zf hb h.hp⟩
theorem RzW.grow {w : World} {nm : ByteArray} {lv : Value} {p : yw} {W W' : World} (h : RzW w nm lv p W) {v : Value} {n : Nat} {xs : List Value} (ho : W.ownsRow w.heap.size 3 1 v n xs) (hg : W.grownBy W' v.ownBlock) : RzW w nm lv p W' :=
 ⟨row_below h.bb h.bb.size ho hg, row_kept ho hg h.hc (by decide), row_kept ho hg h.hp (by decide)⟩
set_option maxRecDepth 100000 in
set_option maxHeartbeats 8000000 in
theorem rsizes_any (nm : ByteArray) (E : zL) (hE : E.Ok) (ao fa : Option Addr) (cap fcap : Nat) (w : World) (hL : yJ w (.slice ao E.ls.length cap) E.ls) (hf : jj w (.slice fa E.funcs.length fcap) E.funcs) :
  Calls Try.prog 66 #[.agg #[.string nm, .slice ao E.ls.length cap], .agg #[.int .i64 E.pl.bank, .int .u16 E.pl.addr], .slice fa E.funcs.length fcap, .int .i64 0] w (SzPost w E.szs) := by
 have hlen := hE.len
 have hnf := hE.nf
 have HE := zh hE
 obtain ⟨h2, h3⟩ := yy w (.cells #[.string nm, .slice ao E.ls.length cap] 32) (.cells #[.int .i64 E.pl.bank, .int .u16 E.pl.addr] 37)
 have hB : Below w.heap.size w ((w.alloc (.cells #[.string nm, .slice ao E.ls.length cap] 32)).alloc (.cells #[.int .i64 E.pl.bank, .int .u16 E.pl.addr] 37)) := ((Below.refl _ _).alloc (zn _) _).alloc (by simp) _
 obtain ⟨wa, hwa⟩ : ∃ wa : World, (w.alloc (.cells #[.string nm, .slice ao E.ls.length cap] 32)).alloc (.cells #[.int .i64 E.pl.bank, .int .u16 E.pl.addr] 37) = wa := ⟨_, rfl⟩
 rw [hwa] at h2 h3 hB
 have HL := zh hL
 have HFV := zh hf
 have HW := zh (show RzW w nm (.slice ao E.ls.length cap) E.pl wa from ⟨hB, h2, h3⟩)
 clear hE hL hf h2 h3 hB
 go_enter Try.func66, Try.ntmps66
 go_upto_region 1 with fail
 try rw [hwa]
 clear hwa
 go_wp2_with fail
 go_loopw [9, 10] (fun sv i wr => ∃ k : Nat, k ≤ E.ls.length ∧ i = .int .i64 k ∧ Hid (wr.ownsRow w.heap.size 3 1 sv (E.szs.take k).length ((E.szs.take k).map (Value.int .i64))) ∧ Hid (RzW w nm (.slice ao E.ls.length cap) E.pl wr)) (fun _ i _ => E.ls.length - (intOf i).toNat)
 case atStart => exact ⟨0, Nat.zero_le _, rfl, zh ⟨rfl, .inl ⟨rfl, rfl⟩⟩, HW⟩
 case round =>
  obtain ⟨k, hk, rfl, HO, HW⟩ := hrel
  have c1 := cell_of_row wr w.heap.size 1 _ _ _ HW.out.hc
  have hszl := ja E
  by_cases hlt : k < E.ls.length
  ·obtain ⟨l, hl⟩ : ∃ l, E.ls[k]? = some l := ⟨_, List.getElem?_eq_getElem hlt⟩
   have HLk := zh hl
   have HSK := zh (show E.szs[k]? = some (sz0 E.callSz l) by unfold zL.szs; rw [List.getElem?_map, hl]; rfl)
   obtain ⟨q, off, c, T', fr', tq, rfl, hq, hx, hti⟩ := (HL.out.below HW.out.bb).at hl
   obtain ⟨ta, tcp, rfl, -, -⟩ := id hti
   have HQ := zh hq
   have HX := zh hx
   clear hq hx hl hti
   go_upto_region 6 with (first | (refine wpList_store_row rfl _ _ _ rfl _ _ rfl rfl _ _ (heap_alloc_new _ _) ?_ ?_ ?_ ?_; kernel_rfl; rfl; kernel_rfl; rw [World.setRow_alloc_new]) | (refine z9 _ _ rfl _ _ rfl _ _ _ (HQ.out) ([.int .i64 (l).label, .int .i64 (l).ins.op, .int .i64 (l).ins.d, .int .i64 (l).ins.s, .int .u16 (l).ins.imm, .int .u16 (l).ins.aux, .int .i64 (l).ins.bank, .int .i64 (l).ins.size, .int .i64 (l).dest, .int .i64 (l).fn, .int .i64 (l).obj, .slice ta (l).tab.length tcp]) (HX.out) ?_ ?_ ?_; kernel_rfl; kernel_rfl))
   have hn := heap_alloc_new wr (.cells #[.int .i64 (l).label, .int .i64 (l).ins.op, .int .i64 (l).ins.d, .int .i64 (l).ins.s, .int .u16 (l).ins.imm, .int .u16 (l).ins.aux, .int .i64 (l).ins.bank, .int .i64 (l).ins.size, .int .i64 (l).dest, .int .i64 (l).fn, .int .i64 (l).obj, .slice ta (l).tab.length tcp] 58)
   have hW1 := HW.out.stay ((Below.refl wr.heap.size wr).alloc (zn _) (.cells #[.int .i64 (l).label, .int .i64 (l).ins.op, .int .i64 (l).ins.d, .int .i64 (l).ins.s, .int .u16 (l).ins.imm, .int .u16 (l).ins.aux, .int .i64 (l).ins.bank, .int .i64 (l).ins.size, .int .i64 (l).dest, .int .i64 (l).fn, .int .i64 (l).obj, .slice ta (l).tab.length tcp] 58))
   have hO1 := zZ HO.out (zN.ofBelow (bs := fun _ => False) ((Below.refl wr.heap.size wr).alloc (zn _) (.cells #[.int .i64 (l).label, .int .i64 (l).ins.op, .int .i64 (l).ins.d, .int .i64 (l).ins.s, .int .u16 (l).ins.imm, .int .u16 (l).ins.aux, .int .i64 (l).ins.bank, .int .i64 (l).ins.size, .int .i64 (l).dest, .int .i64 (l).fn, .int .i64 (l).obj, .slice ta (l).tab.length tcp] 58))) fun _ _ h => h
   obtain ⟨W, hWe⟩ : ∃ W : World, wr.alloc (.cells #[.int .i64 (l).label, .int .i64 (l).ins.op, .int .i64 (l).ins.d, .int .i64 (l).ins.s, .int .u16 (l).ins.imm, .int .u16 (l).ins.aux, .int .i64 (l).ins.bank, .int .i64 (l).ins.size, .int .i64 (l).dest, .int .i64 (l).fn, .int .i64 (l).obj, .slice ta (l).tab.length tcp] 58) = W := ⟨_, rfl⟩
   obtain ⟨g, hg⟩ : ∃ g : Nat, wr.heap.size = g := ⟨_, rfl⟩
   rw [hWe] at hn hW1 hO1 ⊢
   rw [hg] at hn ⊢
   clear hWe hg c1
   have HLN := zh hn
   have HW1 := zh hW1
   have HO1 := zh hO1
   clear hn hW1 hO1 HW HO wr HQ HX
   simp only [Act.put]
   have cop := cell_of_row W g 1 _ _ _ HLN.out
   have hw8 := u8_mod l.ins.op
   obtain ⟨z, hz⟩ : ∃ z : Int, zH (l.ins.op % 256) = z := ⟨_, rfl⟩
   have HZ := zh (fun V => by have := yL (l.ins.op % 256) (by omega) (by omega) V; rw [← ju, hz] at this; exact this)
   go_upto_region 7 with (go_at_call 35; refine (HZ.out _).mono ?_; rintro e W2 ⟨rfl, hb2⟩)
   have HLN2 := zh (zf hb2 HLN.out)
   have HW2 := zh (HW1.out.stay hb2)
   have HO2 := zh (zZ HO1.out (zN.ofBelow (bs := fun _ => False) hb2) fun _ _ h => h)
   clear hb2 cop hw8 HLN HW1 HO1
   have cop := cell_of_row W2 g 1 _ _ _ HLN2.out
   have HZE := zh hz
   clear hz
   rcases xL l.ins.op with hf | hf | hf | hf | hf
   ·as_aux_lemma =>
    have HF := zh (show ∀ V, Calls Try.prog 18 #[.int .i64 l.ins.op] V fun e w' => e = .returned (.int .i64 0) ∧ Below V.heap.size V w' from fun V => by have := y2 l.ins.op V; rw [hf] at this; exact this)
    have HFE := zh hf
    clear hf
    go_upto_region 8 with (go_at_call 18; refine (HF.out _).mono ?_; rintro e W3 ⟨rfl, hb3⟩)
    have HLN3 := zh (zf hb3 HLN2.out)
    have HW3 := zh (HW2.out.stay hb3)
    have HO3 := zh (zZ HO2.out (zN.ofBelow (bs := fun _ => False) hb3) fun _ _ h => h)
    clear hb3 cop HLN2 HW2 HO2
    have hsz : sz0 E.callSz l = z := by unfold sz0; rw [if_neg (by rw [HFE.out]; decide), if_neg (by rw [HFE.out]; rintro ⟨h, -⟩; cases h)]; exact HZE.out
    have HN := zh (show E.szs.take (k + 1) = E.szs.take k ++ [z] by rw [xS HSK.out, hsz])
    clear hsz
    go_upto_region 16 with fail
    have HBS := zh HW3.out.bb.size
    have hl9 : (E.szs.take k).length ≤ 1000000 := by rw [List.length_take]; omega
    have hO4 := zZ HO3.out (zN.ofBelow (bs := fun _ => False) ((Below.refl _ _).alloc (zn _) (.cells #[.int .i64 (z)] 3))) fun _ _ h => h
    have HO4 := zh hO4
    have HW4 := zh (HW3.out.stay ((Below.refl _ _).alloc (zn _) (.cells #[.int .i64 (z)] 3)))
    have HH4 := zh (heap_alloc_new W3 (.cells #[.int .i64 (z)] 3))
    clear hO4
    go_upto_region 4 with (at_builtin; refine yK rfl _ _ rfl w.heap.size HW4.out.bb.size _ (E.szs.take k) rfl HO4.out hl9 _ (z) rfl HH4.out ?_; intro gb cp' w6 ho6 hg6 hk6)
    have HO6 := zh (show w6.ownsRow w.heap.size 3 1 (.slice (some ⟨gb, 0, none⟩) (k + 1) cp') (E.szs.take (k + 1)).length ((E.szs.take (k + 1)).map (Value.int .i64)) by rw [HN.out]; rw [show (E.szs.take k).length = k by rw [List.length_take, hszl]; omega] at ho6; exact ho6)
    have HW6 := zh (HW4.out.grow HO4.out hg6)
    clear ho6 hg6 hk6
    go_wp2_with fail
    go_roundw
    case rel => exact ⟨k + 1, by omega, by go_num, HO6, HW6⟩
    case measure => simp [intOf]; omega
   ·as_aux_lemma =>
    have HF := zh (show ∀ V, Calls Try.prog 18 #[.int .i64 l.ins.op] V fun e w' => e = .returned (.int .i64 1) ∧ Below V.heap.size V w' from fun V => by have := y2 l.ins.op V; rw [hf] at this; exact this)
    have HFE := zh hf
    clear hf
    go_upto_region 8 with (go_at_call 18; refine (HF.out _).mono ?_; rintro e W3 ⟨rfl, hb3⟩)
    have HLN3 := zh (zf hb3 HLN2.out)
    have HW3 := zh (HW2.out.stay hb3)
    have HO3 := zh (zZ HO2.out (zN.ofBelow (bs := fun _ => False) hb3) fun _ _ h => h)
    clear hb3 cop HLN2 HW2 HO2
    have hsz : sz0 E.callSz l = z := by unfold sz0; rw [if_neg (by rw [HFE.out]; decide), if_neg (by rw [HFE.out]; rintro ⟨h, -⟩; cases h)]; exact HZE.out
    have HN := zh (show E.szs.take (k + 1) = E.szs.take k ++ [z] by rw [xS HSK.out, hsz])
    clear hsz
    go_upto_region 16 with fail
    have HBS := zh HW3.out.bb.size
    have hl9 : (E.szs.take k).length ≤ 1000000 := by rw [List.length_take]; omega
    have hO4 := zZ HO3.out (zN.ofBelow (bs := fun _ => False) ((Below.refl _ _).alloc (zn _) (.cells #[.int .i64 (z)] 3))) fun _ _ h => h
    have HO4 := zh hO4
    have HW4 := zh (HW3.out.stay ((Below.refl _ _).alloc (zn _) (.cells #[.int .i64 (z)] 3)))
    have HH4 := zh (heap_alloc_new W3 (.cells #[.int .i64 (z)] 3))
    clear hO4
    go_upto_region 4 with (at_builtin; refine yK rfl _ _ rfl w.heap.size HW4.out.bb.size _ (E.szs.take k) rfl HO4.out hl9 _ (z) rfl HH4.out ?_; intro gb cp' w6 ho6 hg6 hk6)
    have HO6 := zh (show w6.ownsRow w.heap.size 3 1 (.slice (some ⟨gb, 0, none⟩) (k + 1) cp') (E.szs.take (k + 1)).length ((E.szs.take (k + 1)).map (Value.int .i64)) by rw [HN.out]; rw [show (E.szs.take k).length = k by rw [List.length_take, hszl]; omega] at ho6; exact ho6)
    have HW6 := zh (HW4.out.grow HO4.out hg6)
    clear ho6 hg6 hk6
    go_wp2_with fail
    go_roundw
    case rel => exact ⟨k + 1, by omega, by go_num, HO6, HW6⟩
    case measure => simp [intOf]; omega
   ·as_aux_lemma =>
    have HF := zh (show ∀ V, Calls Try.prog 18 #[.int .i64 l.ins.op] V fun e w' => e = .returned (.int .i64 2) ∧ Below V.heap.size V w' from fun V => by have := y2 l.ins.op V; rw [hf] at this; exact this)
    have HFE := zh hf
    clear hf
    go_upto_region 8 with (go_at_call 18; refine (HF.out _).mono ?_; rintro e W3 ⟨rfl, hb3⟩)
    have HLN3 := zh (zf hb3 HLN2.out)
    have HW3 := zh (HW2.out.stay hb3)
    have HO3 := zh (zZ HO2.out (zN.ofBelow (bs := fun _ => False) hb3) fun _ _ h => h)
    clear hb3 cop HLN2 HW2 HO2
    have hsz : sz0 E.callSz l = 2 := by unfold sz0; rw [if_pos HFE.out]
    have HN := zh (show E.szs.take (k + 1) = E.szs.take k ++ [2] by rw [xS HSK.out, hsz])
    clear hsz
    go_upto_region 16 with fail
    have HBS := zh HW3.out.bb.size
    have hl9 : (E.szs.take k).length ≤ 1000000 := by rw [List.length_take]; omega
    have hO4 := zZ HO3.out (zN.ofBelow (bs := fun _ => False) ((Below.refl _ _).alloc (zn _) (.cells #[.int .i64 (2)] 3))) fun _ _ h => h
    have HO4 := zh hO4
    have HW4 := zh (HW3.out.stay ((Below.refl _ _).alloc (zn _) (.cells #[.int .i64 (2)] 3)))
    have HH4 := zh (heap_alloc_new W3 (.cells #[.int .i64 (2)] 3))
    clear hO4
    go_upto_region 4 with (at_builtin; refine yK rfl _ _ rfl w.heap.size HW4.out.bb.size _ (E.szs.take k) rfl HO4.out hl9 _ (2) rfl HH4.out ?_; intro gb cp' w6 ho6 hg6 hk6)
    have HO6 := zh (show w6.ownsRow w.heap.size 3 1 (.slice (some ⟨gb, 0, none⟩) (k + 1) cp') (E.szs.take (k + 1)).length ((E.szs.take (k + 1)).map (Value.int .i64)) by rw [HN.out]; rw [show (E.szs.take k).length = k by rw [List.length_take, hszl]; omega] at ho6; exact ho6)
    have HW6 := zh (HW4.out.grow HO4.out hg6)
    clear ho6 hg6 hk6
    go_wp2_with fail
    go_roundw
    case rel => exact ⟨k + 1, by omega, by go_num, HO6, HW6⟩
    case measure => simp [intOf]; omega
   ·as_aux_lemma =>
    have HF := zh (show ∀ V, Calls Try.prog 18 #[.int .i64 l.ins.op] V fun e w' => e = .returned (.int .i64 3) ∧ Below V.heap.size V w' from fun V => by have := y2 l.ins.op V; rw [hf] at this; exact this)
    have HFE := zh hf
    clear hf
    go_upto_region 8 with (go_at_call 18; refine (HF.out _).mono ?_; rintro e W3 ⟨rfl, hb3⟩)
    have HLN3 := zh (zf hb3 HLN2.out)
    have HW3 := zh (HW2.out.stay hb3)
    have HO3 := zh (zZ HO2.out (zN.ofBelow (bs := fun _ => False) hb3) fun _ _ h => h)
    clear hb3 cop HLN2 HW2 HO2
    have hsz : sz0 E.callSz l = z := by unfold sz0; rw [if_neg (by rw [HFE.out]; decide), if_neg (by rw [HFE.out]; rintro ⟨h, -⟩; cases h)]; exact HZE.out
    have HN := zh (show E.szs.take (k + 1) = E.szs.take k ++ [z] by rw [xS HSK.out, hsz])
    clear hsz
    go_upto_region 16 with fail
    have HBS := zh HW3.out.bb.size
    have hl9 : (E.szs.take k).length ≤ 1000000 := by rw [List.length_take]; omega
    have hO4 := zZ HO3.out (zN.ofBelow (bs := fun _ => False) ((Below.refl _ _).alloc (zn _) (.cells #[.int .i64 (z)] 3))) fun _ _ h => h
    have HO4 := zh hO4
    have HW4 := zh (HW3.out.stay ((Below.refl _ _).alloc (zn _) (.cells #[.int .i64 (z)] 3)))
    have HH4 := zh (heap_alloc_new W3 (.cells #[.int .i64 (z)] 3))
    clear hO4
    go_upto_region 4 with (at_builtin; refine yK rfl _ _ rfl w.heap.size HW4.out.bb.size _ (E.szs.take k) rfl HO4.out hl9 _ (z) rfl HH4.out ?_; intro gb cp' w6 ho6 hg6 hk6)
    have HO6 := zh (show w6.ownsRow w.heap.size 3 1 (.slice (some ⟨gb, 0, none⟩) (k + 1) cp') (E.szs.take (k + 1)).length ((E.szs.take (k + 1)).map (Value.int .i64)) by rw [HN.out]; rw [show (E.szs.take k).length = k by rw [List.length_take, hszl]; omega] at ho6; exact ho6)
    have HW6 := zh (HW4.out.grow HO4.out hg6)
    clear ho6 hg6 hk6
    go_wp2_with fail
    go_roundw
    case rel => exact ⟨k + 1, by omega, by go_num, HO6, HW6⟩
    case measure => simp [intOf]; omega
   ·as_aux_lemma =>
    have HF := zh (show ∀ V, Calls Try.prog 18 #[.int .i64 l.ins.op] V fun e w' => e = .returned (.int .i64 4) ∧ Below V.heap.size V w' from fun V => by have := y2 l.ins.op V; rw [hf] at this; exact this)
    have HFE := zh hf
    clear hf
    go_upto_region 8 with (go_at_call 18; refine (HF.out _).mono ?_; rintro e W3 ⟨rfl, hb3⟩)
    have HLN3 := zh (zf hb3 HLN2.out)
    have HW3 := zh (HW2.out.stay hb3)
    have HO3 := zh (zZ HO2.out (zN.ofBelow (bs := fun _ => False) hb3) fun _ _ h => h)
    clear hb3 cop HLN2 HW2 HO2
    have cop := cell_of_row W3 g 1 _ _ _ HLN3.out
    by_cases h131 : l.ins.op = 131
    ·have ha : (l.ins.op == 131) = true := by simp [h131]
     have hb : (l.ins.op != 131) = false := by simp [h131]
     have HOP := zh h131
     clear h131
     go_upto_region 14 with fail
     clear cop
     refine zV [] 17 (z5 [isV (.pointer (some ⟨g, 1, none⟩)), isV (.pointer (some ⟨g, 1, none⟩)), isV (.int .i64 l.ins.op), isV ((.bool false)), isV (.bool false), isV undef, isV undef, isV (.bool false), isV (.bool false), isV undef, isV undef, isV undef, isV undef, isV undef, isV undef, isV undef, isV (.bool false)]) (nth [[0], [1], [2], [3], [4], [5], [6], [7], [8], [9], [10], [11], [12], [13], [14], [15], [16]]) (nth [[], [], [], [], [], [], [], [], [], [], [], [], [], [], [], [], []]) (nth [[], [0], [1], [2], [3], [4], [5, 4], [4, 6], [7, 4], [8], [8], [8], [11, 8], [10, 12, 8], [13, 8], [9, 14, 8], [8, 15]]) [16] (yU W3.heap.size W3 W3.heap.size [(g, .cells #[.int .i64 (l).label, .int .i64 (l).ins.op, .int .i64 (l).ins.d, .int .i64 (l).ins.s, .int .u16 (l).ins.imm, .int .u16 (l).ins.aux, .int .i64 (l).ins.bank, .int .i64 (l).ins.size, .int .i64 (l).dest, .int .i64 (l).fn, .int .i64 (l).obj, .slice ta (l).tab.length tcp] 58 (0, 0))]) (by kernel_rfl) (by kernel_rfl) (⟨(Below.refl _ _).drew, zn _, zn _, by intro x hx; simp at hx; subst hx; exact (Array.getElem?_eq_some_iff.1 HLN3.out).1, HLN3.out, trivial⟩) (yU.grow) (zG ((za (zc _)  (za (zc _)  (za (zc _)  (za (zc _)  (za (zc _)  (za (zc _)  (za (zc _)  (za (zc _)  (za (zc _)  (za (zc _)  (za (zc _)  (za (zc _)  (za (zc _)  (za (zc _)  (za (zc _)  (za (zc _)  (za (zc _) zy))))))))))))))))))) (fun f F hF => ?_)
     simp only [List.take_succ_cons, List.take_zero, yb, Act.put, zD, zE, zF, Nat.reduceAdd] at hF
     subst hF
     refine ⟨zd ?_ (zd ?_ (zd ?_ (zd ?_ (zd ?_ (zd ?_ (zd ?_ (zd ?_ (zd ?_ (zd ?_ (zd ?_ (zd ?_ (zd ?_ (zd ?_ (zd ?_ (zd ?_ (zd ?_ (yd))))))))))))))))), ?_⟩
     ·intro w5 hS hF hD K hK
      rw [if_pos (by rfl)]
      exact svV hK rfl rfl rfl rfl (by first | rfl | kernel_rfl)  (by show _ = _; kernel_rfl)
     ·intro w5 hS hF hD K hK
      obtain ⟨(e0 : f 0 = _), -⟩ := hF
      try simp only [e0]
      rw [if_pos (by rfl)]
      exact svV hK rfl rfl rfl rfl (by first | rfl | kernel_rfl)  (by show _ = _; kernel_rfl)
     ·intro w5 hS hF hD K hK
      obtain ⟨(e1 : f 1 = _), -⟩ := hF
      try simp only [e1]
      rw [if_pos (by rfl)]
      exact svC hK rfl rfl rfl rfl (by first | rfl | kernel_rfl)  rfl rfl (hS.2.2.2.2.1) (by kernel_rfl) (fun _ => by kernel_rfl)
     ·intro w5 hS hF hD K hK
      obtain ⟨(e2 : f 2 = _), -⟩ := hF
      try simp only [e2]
      rw [if_pos (by rfl)]
      go_simp
      refine hK.out _ _ rfl (zq rfl rfl rfl ?_)
      first | rfl | kernel_rfl
     ·intro w5 hS hF hD K hK
      obtain ⟨(e3 : f 3 = _), -⟩ := hF
      try simp only [e3]
      rw [if_pos (by rfl)]
      exact svV hK rfl rfl rfl rfl (by first | rfl | kernel_rfl)  (by show _ = _; kernel_rfl)
     ·intro w5 hS hF hD K hK
      obtain ⟨(e4 : f 4 = _), -⟩ := hF
      try simp only [e4]
      rw [if_neg (by (show ¬ (false = true)); exact Bool.false_ne_true)]
      exact hK.out _ _ rfl (zq rfl rfl rfl (by first | rfl | kernel_rfl))
     ·intro w5 hS hF hD K hK
      obtain ⟨(e5 : f 5 = _), (e4 : f 4 = _), -⟩ := hF
      try simp only [e5, e4]
      rw [if_neg (by (show ¬ (false = true)); exact Bool.false_ne_true)]
      exact hK.out _ _ rfl (zq rfl rfl rfl (by first | rfl | kernel_rfl))
     ·intro w5 hS hF hD K hK
      obtain ⟨(e4 : f 4 = _), (e6 : f 6 = _), -⟩ := hF
      try simp only [e4, e6]
      rw [if_pos (by rfl)]
      exact svV hK rfl rfl rfl rfl (by first | rfl | kernel_rfl)  (by show _ = _; kernel_rfl)
     ·intro w5 hS hF hD K hK
      obtain ⟨(e7 : f 7 = _), (e4 : f 4 = _), -⟩ := hF
      try simp only [e7, e4]
      rw [if_pos (by rfl)]
      exact svV hK rfl rfl rfl rfl (by first | rfl | kernel_rfl)  (by show _ = _; kernel_rfl)
     ·intro w5 hS hF hD K hK
      obtain ⟨(e8 : f 8 = _), -⟩ := hF
      try simp only [e8]
      rw [if_neg (by (show ¬ (false = true)); exact Bool.false_ne_true)]
      exact hK.out _ _ rfl (zq rfl rfl rfl (by first | rfl | kernel_rfl))
     ·intro w5 hS hF hD K hK
      obtain ⟨(e8 : f 8 = _), -⟩ := hF
      try simp only [e8]
      rw [if_neg (by (show ¬ (false = true)); exact Bool.false_ne_true)]
      exact hK.out _ _ rfl (zq rfl rfl rfl (by first | rfl | kernel_rfl))
     ·intro w5 hS hF hD K hK
      obtain ⟨(e8 : f 8 = _), -⟩ := hF
      try simp only [e8]
      rw [if_neg (by (show ¬ (false = true)); exact Bool.false_ne_true)]
      exact hK.out _ _ rfl (zq rfl rfl rfl (by first | rfl | kernel_rfl))
     ·intro w5 hS hF hD K hK
      obtain ⟨(e11 : f 11 = _), (e8 : f 8 = _), -⟩ := hF
      try simp only [e11, e8]
      rw [if_neg (by (show ¬ (false = true)); exact Bool.false_ne_true)]
      exact hK.out _ _ rfl (zq rfl rfl rfl (by first | rfl | kernel_rfl))
     ·intro w5 hS hF hD K hK
      obtain ⟨(e10 : f 10 = _), (e12 : f 12 = _), (e8 : f 8 = _), -⟩ := hF
      try simp only [e10, e12, e8]
      rw [if_neg (by (show ¬ (false = true)); exact Bool.false_ne_true)]
      exact hK.out _ _ rfl (zq rfl rfl rfl (by first | rfl | kernel_rfl))
     ·intro w5 hS hF hD K hK
      obtain ⟨(e13 : f 13 = _), (e8 : f 8 = _), -⟩ := hF
      try simp only [e13, e8]
      rw [if_neg (by (show ¬ (false = true)); exact Bool.false_ne_true)]
      exact hK.out _ _ rfl (zq rfl rfl rfl (by first | rfl | kernel_rfl))
     ·intro w5 hS hF hD K hK
      obtain ⟨(e9 : f 9 = _), (e14 : f 14 = _), (e8 : f 8 = _), -⟩ := hF
      try simp only [e9, e14, e8]
      rw [if_neg (by (show ¬ (false = true)); exact Bool.false_ne_true)]
      exact hK.out _ _ rfl (zq rfl rfl rfl (by first | rfl | kernel_rfl))
     ·intro w5 hS hF hD K hK
      obtain ⟨(e8 : f 8 = _), (e15 : f 15 = _), -⟩ := hF
      try simp only [e8, e15]
      rw [if_pos (by rfl)]
      exact svV hK rfl rfl rfl rfl (by first | rfl | kernel_rfl)  (by show _ = _; kernel_rfl)
     intro w5 hS hF
     obtain ⟨(e16 : f 16 = _), -⟩ := hF
     try simp only [e16]
     refine yN (by kernel_rfl) ?_
     have HW3b := zh (HW3.out.stay hS.1)
     have HO3b := zh (zZ HO3.out (zN.ofBelow (bs := fun _ => False) hS.1) fun _ _ h => h)
     clear hS ha hb
     obtain ⟨W3b, rfl⟩ : ∃ W : World, W = w5 := ⟨_, rfl⟩
     have hsz : sz0 E.callSz l = 4 := by unfold sz0; rw [if_neg (by rw [HFE.out]; decide), if_neg (by rintro ⟨-, h⟩; exact h HOP.out), HOP.out]; exact sz4
     have HN := zh (show E.szs.take (k + 1) = E.szs.take k ++ [4] by rw [xS HSK.out, hsz])
     clear hsz
     go_upto_region 16 with fail
     have HBSb := zh HW3b.out.bb.size
     have hl9 : (E.szs.take k).length ≤ 1000000 := by rw [List.length_take]; omega
     have hO4 := zZ HO3b.out (zN.ofBelow (bs := fun _ => False) ((Below.refl _ _).alloc (zn _) (.cells #[.int .i64 (4)] 3))) fun _ _ h => h
     have HO4 := zh hO4
     have HW4 := zh (HW3b.out.stay ((Below.refl _ _).alloc (zn _) (.cells #[.int .i64 (4)] 3)))
     have HH4 := zh (heap_alloc_new W3b (.cells #[.int .i64 (4)] 3))
     clear hO4
     go_upto_region 4 with (at_builtin; refine yK rfl _ _ rfl w.heap.size HW4.out.bb.size _ (E.szs.take k) rfl HO4.out hl9 _ (4) rfl HH4.out ?_; intro gb cp' w6 ho6 hg6 hk6)
     have HO6 := zh (show w6.ownsRow w.heap.size 3 1 (.slice (some ⟨gb, 0, none⟩) (k + 1) cp') (E.szs.take (k + 1)).length ((E.szs.take (k + 1)).map (Value.int .i64)) by rw [HN.out]; rw [show (E.szs.take k).length = k by rw [List.length_take, hszl]; omega] at ho6; exact ho6)
     have HW6 := zh (HW4.out.grow HO4.out hg6)
     clear ho6 hg6 hk6
     go_wp2_with fail
     go_roundw
     case rel => exact ⟨k + 1, by omega, by go_num, HO6, HW6⟩
     case measure => simp [intOf]; omega
    ·have ha : (l.ins.op == 131) = false := by simp [h131]
     have hb : (l.ins.op != 131) = true := by simp [h131]
     have HOP := zh h131
     clear h131
     obtain ⟨kf, hkf, hkl⟩ := HE.out.cl l (List.mem_of_getElem? HLk.out) HFE.out
     have hp : E.funcs[kf]? = some (E.fnOf l.fn) := by
      unfold zL.fnOf
      rw [hkf, Int.toNat_natCast, List.getD_eq_getElem?_getD, List.getElem?_eq_getElem hkl]
      rfl
     obtain ⟨p, hpe⟩ : ∃ p : yw, E.fnOf l.fn = p := ⟨_, rfl⟩
     rw [hpe] at hp
     obtain ⟨q2, off2, c2, T2, fr2, rfl, hq2, hx2⟩ := (HFV.out.below HW3.out.bb).at hp
     have HQ2 := zh hq2
     have HX2 := zh hx2
     have HPE := zh hpe
     have hln := HLN3.out
     rw [hkf] at hln
     have HLF := zh hln
     clear hkf hp hq2 hx2 hpe hln
     obtain ⟨nb, hnb⟩ : ∃ nb : Bool, nearS E.pl p = nb := ⟨_, rfl⟩
     have HNR := zh (show ∀ V, Calls Try.prog 88 #[.agg #[.int .i64 E.pl.bank, .int .u16 E.pl.addr], .agg #[.int .i64 p.bank, .int .u16 p.addr]] V fun e w' => e = .returned (.bool nb) ∧ Below V.heap.size V w' from fun V => by have := rnear_any E.pl p V; rw [hnb] at this; exact this)
     have HNB := zh hnb
     clear hnb
     go_upto_region 14 with fail
     clear cop
     have zz1 : g < W3.heap.size := (Array.getElem?_eq_some_iff.1 HLF.out).1
     have zz2 : w.heap.size + 1 < W3.heap.size := (Array.getElem?_eq_some_iff.1 HW3.out.hp).1
     have zz3 : q2 < W3.heap.size := (Array.getElem?_eq_some_iff.1 HQ2.out).1
     refine zV [] 17 (z5 [isV (.pointer (some ⟨g, 1, none⟩)), isV (.pointer (some ⟨g, 1, none⟩)), isV (.int .i64 l.ins.op), isV ((.bool true)), isV (.bool true), isV (.int .i64 0), isV (.bool true), isV (.bool true), isV (.bool true), isV (.agg #[.int .i64 E.pl.bank, .int .u16 E.pl.addr]), isV (.slice (some ⟨q2, off2, none⟩) E.funcs.length fcap), isV (.pointer (some ⟨g, 9, none⟩)), isV (.int .i64 kf), isV ((.pointer (some ⟨q2, off2 + kf * 2, none⟩))), isV (.agg #[.int .i64 p.bank, .int .u16 p.addr]), isV (.bool nb), isV (.bool nb)]) (nth [[0], [1], [2], [3], [4], [5], [6], [7], [8], [9], [10], [11], [12], [13], [14], [15], [16]]) (nth [[], [], [], [], [], [], [], [], [], [], [], [], [], [], [], [], []]) (nth [[], [0], [1], [2], [3], [4], [5, 4], [4, 6], [7, 4], [8], [8], [8], [11, 8], [10, 12, 8], [13, 8], [9, 14, 8], [8, 15]]) [16] (yU W3.heap.size W3 W3.heap.size [(g, .cells #[.int .i64 l.label, .int .i64 l.ins.op, .int .i64 l.ins.d, .int .i64 l.ins.s, .int .u16 l.ins.imm, .int .u16 l.ins.aux, .int .i64 l.ins.bank, .int .i64 l.ins.size, .int .i64 l.dest, .int .i64 kf, .int .i64 l.obj, .slice ta l.tab.length tcp] 58 (0, 0)), (w.heap.size + 1, .cells #[.int .i64 E.pl.bank, .int .u16 E.pl.addr] 37 (0, 0)), (q2, .cells c2 T2 fr2)]) (by kernel_rfl) (by kernel_rfl) (⟨(Below.refl _ _).drew, zn _, zn _, by intro x hx; simp at hx; rcases hx with rfl | rfl | rfl <;> assumption, HLF.out, HW3.out.hp, HQ2.out, trivial⟩) (yU.grow) (zG ((za (zc _)  (za (zc _)  (za (zc _)  (za (zc _)  (za (zc _)  (za (zc _)  (za (zc _)  (za (zc _)  (za (zc _)  (za (zc _)  (za (zc _)  (za (zc _)  (za (zc _)  (za (zc _)  (za (zc _)  (za (zc _)  (za (zc _) zy))))))))))))))))))) (fun f F hF => ?_)
     simp only [List.take_succ_cons, List.take_zero, yb, Act.put, zD, zE, zF, Nat.reduceAdd] at hF
     subst hF
     refine ⟨zd ?_ (zd ?_ (zd ?_ (zd ?_ (zd ?_ (zd ?_ (zd ?_ (zd ?_ (zd ?_ (zd ?_ (zd ?_ (zd ?_ (zd ?_ (zd ?_ (zd ?_ (zd ?_ (zd ?_ (yd))))))))))))))))), ?_⟩
     ·intro w5 hS hF hD K hK
      rw [if_pos (by rfl)]
      exact svV hK rfl rfl rfl rfl (by first | rfl | kernel_rfl)  (by show _ = _; kernel_rfl)
     ·intro w5 hS hF hD K hK
      obtain ⟨(e0 : f 0 = _), -⟩ := hF
      try simp only [e0]
      rw [if_pos (by rfl)]
      exact svV hK rfl rfl rfl rfl (by first | rfl | kernel_rfl)  (by show _ = _; kernel_rfl)
     ·intro w5 hS hF hD K hK
      obtain ⟨(e1 : f 1 = _), -⟩ := hF
      try simp only [e1]
      rw [if_pos (by rfl)]
      exact svC hK rfl rfl rfl rfl (by first | rfl | kernel_rfl)  rfl rfl (hS.2.2.2.2.1) (by kernel_rfl) (fun _ => by kernel_rfl)
     ·intro w5 hS hF hD K hK
      obtain ⟨(e2 : f 2 = _), -⟩ := hF
      try simp only [e2]
      rw [if_pos (by rfl)]
      go_simp
      refine hK.out _ _ rfl (zq rfl rfl rfl ?_)
      first | rfl | kernel_rfl
     ·intro w5 hS hF hD K hK
      obtain ⟨(e3 : f 3 = _), -⟩ := hF
      try simp only [e3]
      rw [if_pos (by rfl)]
      exact svV hK rfl rfl rfl rfl (by first | rfl | kernel_rfl)  (by show _ = _; kernel_rfl)
     ·intro w5 hS hF hD K hK
      obtain ⟨(e4 : f 4 = _), -⟩ := hF
      try simp only [e4]
      rw [if_pos (by rfl)]
      exact svV hK rfl rfl rfl rfl (by first | rfl | kernel_rfl)  (by show _ = _; kernel_rfl)
     ·intro w5 hS hF hD K hK
      obtain ⟨(e5 : f 5 = _), (e4 : f 4 = _), -⟩ := hF
      try simp only [e5, e4]
      rw [if_pos (by rfl)]
      exact svV hK rfl rfl rfl rfl (by first | rfl | kernel_rfl)  (by show _ = _; kernel_rfl)
     ·intro w5 hS hF hD K hK
      obtain ⟨(e4 : f 4 = _), (e6 : f 6 = _), -⟩ := hF
      try simp only [e4, e6]
      rw [if_pos (by rfl)]
      exact svV hK rfl rfl rfl rfl (by first | rfl | kernel_rfl)  (by show _ = _; kernel_rfl)
     ·intro w5 hS hF hD K hK
      obtain ⟨(e7 : f 7 = _), (e4 : f 4 = _), -⟩ := hF
      try simp only [e7, e4]
      rw [if_pos (by rfl)]
      exact svV hK rfl rfl rfl rfl (by first | rfl | kernel_rfl)  (by show _ = _; kernel_rfl)
     ·intro w5 hS hF hD K hK
      obtain ⟨(e8 : f 8 = _), -⟩ := hF
      try simp only [e8]
      rw [if_pos (by rfl)]
      exact svR hK rfl rfl rfl rfl (by first | rfl | kernel_rfl)  rfl rfl (hS.2.2.2.2.2.1) (by kernel_rfl)
     ·intro w5 hS hF hD K hK
      obtain ⟨(e8 : f 8 = _), -⟩ := hF
      try simp only [e8]
      rw [if_pos (by rfl)]
      exact svV hK rfl rfl rfl rfl (by first | rfl | kernel_rfl)  (by show _ = _; kernel_rfl)
     ·intro w5 hS hF hD K hK
      obtain ⟨(e8 : f 8 = _), -⟩ := hF
      try simp only [e8]
      rw [if_pos (by rfl)]
      exact svV hK rfl rfl rfl rfl (by first | rfl | kernel_rfl)  (by show _ = _; kernel_rfl)
     ·intro w5 hS hF hD K hK
      obtain ⟨(e11 : f 11 = _), (e8 : f 8 = _), -⟩ := hF
      try simp only [e11, e8]
      rw [if_pos (by rfl)]
      exact svC hK rfl rfl rfl rfl (by first | rfl | kernel_rfl)  rfl rfl (hS.2.2.2.2.1) (by kernel_rfl) (fun _ => by kernel_rfl)
     ·intro w5 hS hF hD K hK
      obtain ⟨(e10 : f 10 = _), (e12 : f 12 = _), (e8 : f 8 = _), -⟩ := hF
      try simp only [e10, e12, e8]
      rw [if_pos (by rfl)]
      go_simp
      refine hK.out _ _ rfl (zq rfl rfl rfl ?_)
      first | rfl | kernel_rfl
     ·intro w5 hS hF hD K hK
      obtain ⟨(e13 : f 13 = _), (e8 : f 8 = _), -⟩ := hF
      try simp only [e13, e8]
      rw [if_pos (by rfl)]
      exact zx (xd _ _ rfl _ _ rfl _ _ _ (hS.2.2.2.2.2.2.1) [.int .i64 p.bank, .int .u16 p.addr] HX2.out (by kernel_rfl)) (hK.out _ _ rfl (zq rfl rfl rfl (by first | rfl | kernel_rfl)))
     ·intro w5 hS hF hD K hK
      obtain ⟨(e9 : f 9 = _), (e14 : f 14 = _), (e8 : f 8 = _), -⟩ := hF
      try simp only [e9, e14, e8]
      rw [if_pos (by rfl)]
      go_simp
      go_at_call 88; refine (HNR.out _).mono ?_; rintro e w6 ⟨rfl, hbelow⟩; go_simp
      refine hK.out _ _ rfl (zP rfl rfl rfl hbelow ?_)
      first | rfl | kernel_rfl
     ·intro w5 hS hF hD K hK
      obtain ⟨(e8 : f 8 = _), (e15 : f 15 = _), -⟩ := hF
      try simp only [e8, e15]
      rw [if_pos (by rfl)]
      exact svV hK rfl rfl rfl rfl (by first | rfl | kernel_rfl)  (by show _ = _; kernel_rfl)
     intro w5 hS hF
     obtain ⟨(e16 : f 16 = _), -⟩ := hF
     try simp only [e16]
     refine yN (by kernel_rfl) ?_
     have HW3b := zh (HW3.out.stay hS.1)
     have HO3b := zh (zZ HO3.out (zN.ofBelow (bs := fun _ => False) hS.1) fun _ _ h => h)
     clear hS ha hb
     obtain ⟨W3b, rfl⟩ : ∃ W : World, W = w5 := ⟨_, rfl⟩
     cases nb with
     | true =>
      have hsz : sz0 E.callSz l = 3 := by unfold sz0; rw [if_neg (by rw [HFE.out]; decide), if_pos ⟨HFE.out, HOP.out⟩]; unfold zL.callSz; rw [HPE.out, HNB.out]; rfl
      have HN := zh (show E.szs.take (k + 1) = E.szs.take k ++ [3] by rw [xS HSK.out, hsz])
      clear hsz
      go_upto_region 16 with fail
      have HBSb := zh HW3b.out.bb.size
      have hl9 : (E.szs.take k).length ≤ 1000000 := by rw [List.length_take]; omega
      have hO4 := zZ HO3b.out (zN.ofBelow (bs := fun _ => False) ((Below.refl _ _).alloc (zn _) (.cells #[.int .i64 (3)] 3))) fun _ _ h => h
      have HO4 := zh hO4
      have HW4 := zh (HW3b.out.stay ((Below.refl _ _).alloc (zn _) (.cells #[.int .i64 (3)] 3)))
      have HH4 := zh (heap_alloc_new W3b (.cells #[.int .i64 (3)] 3))
      clear hO4
      go_upto_region 4 with (at_builtin; refine yK rfl _ _ rfl w.heap.size HW4.out.bb.size _ (E.szs.take k) rfl HO4.out hl9 _ (3) rfl HH4.out ?_; intro gb cp' w6 ho6 hg6 hk6)
      have HO6 := zh (show w6.ownsRow w.heap.size 3 1 (.slice (some ⟨gb, 0, none⟩) (k + 1) cp') (E.szs.take (k + 1)).length ((E.szs.take (k + 1)).map (Value.int .i64)) by rw [HN.out]; rw [show (E.szs.take k).length = k by rw [List.length_take, hszl]; omega] at ho6; exact ho6)
      have HW6 := zh (HW4.out.grow HO4.out hg6)
      clear ho6 hg6 hk6
      go_wp2_with fail
      go_roundw
      case rel => exact ⟨k + 1, by omega, by go_num, HO6, HW6⟩
      case measure => simp [intOf]; omega
     | false =>
      have hsz : sz0 E.callSz l = 4 := by unfold sz0; rw [if_neg (by rw [HFE.out]; decide), if_pos ⟨HFE.out, HOP.out⟩]; unfold zL.callSz; rw [HPE.out, HNB.out]; rfl
      have HN := zh (show E.szs.take (k + 1) = E.szs.take k ++ [4] by rw [xS HSK.out, hsz])
      clear hsz
      go_upto_region 16 with fail
      have HBSb := zh HW3b.out.bb.size
      have hl9 : (E.szs.take k).length ≤ 1000000 := by rw [List.length_take]; omega
      have hO4 := zZ HO3b.out (zN.ofBelow (bs := fun _ => False) ((Below.refl _ _).alloc (zn _) (.cells #[.int .i64 (4)] 3))) fun _ _ h => h
      have HO4 := zh hO4
      have HW4 := zh (HW3b.out.stay ((Below.refl _ _).alloc (zn _) (.cells #[.int .i64 (4)] 3)))
      have HH4 := zh (heap_alloc_new W3b (.cells #[.int .i64 (4)] 3))
      clear hO4
      go_upto_region 4 with (at_builtin; refine yK rfl _ _ rfl w.heap.size HW4.out.bb.size _ (E.szs.take k) rfl HO4.out hl9 _ (4) rfl HH4.out ?_; intro gb cp' w6 ho6 hg6 hk6)
      have HO6 := zh (show w6.ownsRow w.heap.size 3 1 (.slice (some ⟨gb, 0, none⟩) (k + 1) cp') (E.szs.take (k + 1)).length ((E.szs.take (k + 1)).map (Value.int .i64)) by rw [HN.out]; rw [show (E.szs.take k).length = k by rw [List.length_take, hszl]; omega] at ho6; exact ho6)
      have HW6 := zh (HW4.out.grow HO4.out hg6)
      clear ho6 hg6 hk6
      go_wp2_with fail
      go_roundw
      case rel => exact ⟨k + 1, by omega, by go_num, HO6, HW6⟩
      case measure => simp [intOf]; omega
  ·have hke : k = E.ls.length := by omega
   subst hke
   have HE9 := zh (show E.szs.take E.ls.length = E.szs from List.take_of_length_le (by rw [ja]; exact zn _))
   rw [HE9.out] at HO
   clear hlt hk
   go_wp2_with fail
   go_ret
   exact ⟨_, rfl, HO.out, HW.out.bb⟩
end Go.Proofs.Ythebmoggbgldmaa
