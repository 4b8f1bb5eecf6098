/- Package link: offsets. The conditions: a well-formed chunk whose numbers lie in their ranges; a function value that tells the sizes of calls. -/
import Derived.Test.YthebmoggbgldmaaLaLkH
set_option linter.all false
namespace Go.Proofs.Ythebmoggbgldmaa
open Go Go.RowKit Go.Maps
def OffPost (w : World) (offs : List Int) (e : Ending) (w' : World) : Prop :=
 ∃ g, w.heap.size ≤ g ∧ e = .returned (.slice (some ⟨g, 0, none⟩) offs.length offs.length) ∧ w'.heap[g]? = some (.cells (viA offs) 3 (0, 0)) ∧ Below w.heap.size w w'
theorem szI_mid {s : List Int} {k : Nat} (h : k < s.length) (x : Int) : ((szI s k).set k x)[k]? = some x := List.getElem?_set_self (by rw [szI_len s (Nat.le_of_lt h)]; exact h)
theorem szI_one {s : List Int} {k : Nat} {y : Int} (h : s[k]? = some y) : (szI s k).set k y = szI s (k + 1) := by
 obtain ⟨hk, rfl⟩ := List.getElem?_eq_some_iff.1 h
 exact szI_set s hk
theorem szI_two {s : List Int} {k : Nat} {x y : Int} (h : s[k]? = some y) : ((szI s k).set k x).set k y = szI s (k + 1) := by rw [List.set_set]; exact szI_one h
theorem sizeS_b8 : ∀ n : Nat, n < 256 → zH n ≤ 8 := by decide +kernel
theorem sz0_ok {cs : Int → Int} (hc8 : ∀ x, 0 ≤ cs x ∧ cs x ≤ 8) (ls : List zu) : SzOk (ls.map (sz0 cs)) := by
 intro s hs
 obtain ⟨l, -, rfl⟩ := List.mem_map.1 hs
 unfold sz0
 split
 ·omega
 ·split
  ·exact hc8 _
  ·rename_i h1 h2
   have h8 := sizeS_b8 (l.ins.op % 256).toNat (by omega)
   have h9 := sizeS_bd (l.ins.op % 256)
   rw [Int.toNat_of_nonneg (by omega)] at h8
   omega
structure Of2W (w : World) (nm : ByteArray) (lv : Value) (m g : Nat) (sz : List Int) (g2 : Nat) (of : List Int) (W : World) : Prop where
 o : OfW w nm lv m g sz W
 gs2 : w.heap.size < g2
 ne : g2 ≠ g
 ob : W.heap[g2]? = some (.cells (viA of) 3 (0, 0))
theorem Of2W.stay {w nm lv m g sz g2 of W W'} (h : Of2W w nm lv m g sz g2 of W) (hb : Below W.heap.size W W') : Of2W w nm lv m g sz g2 of W' := ⟨h.o.stay hb, h.gs2, h.ne, zf hb h.ob⟩
theorem Of2W.set {w nm lv m g sz g2 of W} (h : Of2W w nm lv m g sz g2 of W) (k : Nat) (x : Int) : Of2W w nm lv m g (sz.set k x) g2 of (W.setCell ⟨g, k, none⟩ (.int .i64 x)) :=
 ⟨h.o.set k x, h.gs2, h.ne, by rw [jU h.ne]; exact h.ob⟩
theorem Of2W.set2 {w nm lv m g sz g2 of W} (h : Of2W w nm lv m g sz g2 of W) (k : Nat) (x : Int) : Of2W w nm lv m g sz g2 (of.set k x) (W.setCell ⟨g2, k, none⟩ (.int .i64 x)) :=
 ⟨⟨h.o.bb.setCell (Nat.le_of_lt h.gs2) _, by rw [jU (by have := h.gs2; omega)]; exact h.o.b0, h.o.gs, by rw [jU (Ne.symm h.ne)]; exact h.o.sb⟩, h.gs2, h.ne, by rw [zW h.ob, viA_set]⟩
theorem Of2W.cell2 {w nm lv m g sz g2 of W} (h : Of2W w nm lv m g sz g2 of W) {k : Nat} {x : Int} (hx : of[k]? = some x) : W.cell? ⟨g2, k, none⟩ = some (.int .i64 x) := by
 rw [cell_of_row W g2 k _ _ _ h.ob]; exact viA_get hx
theorem Of2W.froz2 {w nm lv m g sz g2 of W} (h : Of2W w nm lv m g sz g2 of W) (k : Nat) : W.frozen? ⟨g2, k, none⟩ = false := frozen_of_row W g2 k _ _ h.ob
theorem offI_zero (s : List Int) : szI (xi s) 1 = List.replicate (s.length + 1) 0 := by
 unfold szI
 rw [jm]
 have : (xi s).take 1 = [0] := by unfold xi; rw [List.range_succ_eq_map]; simp [yM]
 rw [this, show s.length + 1 - 1 = s.length by omega, List.replicate_succ]; rfl
theorem offI_at (s : List Int) {k : Nat} (h : k < s.length) : (szI (xi s) (k + 1))[k]? = some (yM s k) := by
 unfold szI
 rw [List.getElem?_append_left (by rw [List.length_take, jm]; omega), List.getElem?_take, if_pos (by omega), jH s (by omega)]
theorem offI_next (s : List Int) {k : Nat} (h : k < s.length) : (szI (xi s) (k + 1))[k + 1]? = some 0 := szI_at _ (by rw [jm]; omega)
theorem offI_set (s : List Int) {k : Nat} (h : k < s.length) : (szI (xi s) (k + 1)).set (k + 1) (yM s (k + 1)) = szI (xi s) (k + 1 + 1) := by
 have := szI_set (xi s) (k := k + 1) (by rw [jm]; omega)
 rw [offL_at] at this
 exact this
theorem infoIk : (Try.prog.info? 3).map (fun i => (i.zero, i.size, i.bytes)) = some (some (.int .i64 0), 1, 8) := by kernel_rfl
set_option maxRecDepth 100000 in
set_option maxHeartbeats 8000000 in
theorem offsets_any (nm : ByteArray) (ls : List zu) (hls : yV ls) (ao : Option Addr) (cap m : Nat) (cs : Int → Int) (hc8 : ∀ x, 0 ≤ cs x ∧ cs x ≤ 8) (v1 v2 : Value) (w : World) (hL : yJ w (.slice ao ls.length cap) ls) (hm : MapT m (xH ls) w)
  (hlab : ∀ l ∈ ls, zK l.ins.op = 2 → (yI ls l.dest).isSome = true)
  (hcs : ∀ l ∈ ls, zK l.ins.op = 4 → ∀ W, Below w.heap.size w W → Calls Try.prog 50 #[.int .i64 l.fn, v1, v2] W fun e w' => e = .returned (.int .i64 (cs l.fn)) ∧ Below W.heap.size W w') :
  Calls Try.prog 49 #[.agg #[.string nm, .slice ao ls.length cap, .map (some m)], .func (.func 50) #[] #[v1, v2]] w (OffPost w (xi (finS ls (ls.map (sz0 cs))))) := by
 have HL := zh hL
 have HLS := zh hls
 have HM := zh hm
 have HLAB := zh hlab
 have HCS := zh hcs
 have hlen := hls.2
 obtain ⟨i3, hi3, hz3, hz31, hz32⟩ := info_parts infoIk
 obtain ⟨s0, hs0⟩ : ∃ s0 : List Int, s0 = ls.map (sz0 cs) := ⟨_, rfl⟩
 have hsl : s0.length = ls.length := by rw [hs0]; simp
 have HSL := zh hsl
 have HS0 := zh hs0
 have HB3 := zh (show i3.bytes * ls.length ≤ 281474976710656 by rw [hz32]; omega)
 have HB4 := zh (show i3.bytes * (ls.length + 1) ≤ 281474976710656 by rw [hz32]; omega)
 have HI3 := zh (And.intro hi3 (And.intro hz3 hz31))
 rw [← hs0]
 clear hL hls hm hlab hcs hs0 hsl hi3 hz3 hz31 hz32
 go_enter Try.func49, Try.ntmps49
 go_upto_region 1 with fail
 have hb0 := heap_alloc_new w (.cells #[.string nm, .slice ao ls.length cap, .map (some m)] 74)
 have hbb := (Below.refl w.heap.size w).alloc (zn _) (.cells #[.string nm, .slice ao ls.length cap, .map (some m)] 74)
 obtain ⟨wa, hwa⟩ : ∃ wa : World, w.alloc (.cells #[.string nm, .slice ao ls.length cap, .map (some m)] 74) = wa := ⟨_, rfl⟩
 have hsz : w.heap.size + 1 = wa.heap.size := by rw [← hwa]; simp
 rw [hwa] at hb0 hbb ⊢
 have c1 := cell_of_row wa w.heap.size 1 _ _ _ hb0
 have HB0 := zh hb0
 have HBB := zh hbb
 have HSZ := zh hsz
 clear hwa hb0 hbb hsz
 go_upto_region 2 with (refine wpList_make_full _ rfl _ _ _ rfl wa.heap.size 3 i3 (.int .i64 0) 1 Try.underlying40 HI3.out.1 HI3.out.2.1 HI3.out.2.2 .i64 .i64 ls.length ls.length ls.length rfl rfl rfl rfl HB3.out (by unfold maxLen; omega) (zn _) ?_; intro w1 ho1 hg1)
 have hg1b := own_full ho1
 rw [made_ints] at hg1b
 have hO : OfW w nm (.slice ao ls.length cap) m wa.heap.size (szI s0 0) w1 := ⟨HBB.out.trans (zN.toBelow (bs := fun _ => False) ⟨hg1.os, hg1.tape, hg1.output, hg1.size, fun k hk _ => hg1.block k hk (by simp)⟩ HBB.out.size (fun _ h => h.elim)), (hg1.block _ (by have := HSZ.out; omega) (by simp)).trans HB0.out, by have := HSZ.out; omega, by rw [szI_zero, HSL.out]; exact hg1b⟩
 obtain ⟨g1, hgg1⟩ : ∃ g1 : Nat, wa.heap.size = g1 := ⟨_, rfl⟩
 rw [hgg1] at hO ⊢
 have HO := zh hO
 clear hO hg1b ho1 hg1 hgg1 c1 HSZ HB0 HBB
 have c1 := cell_of_row w1 w.heap.size 1 _ _ _ HO.out.b0
 go_wp2_with fail
 clear c1
 go_loopw [24] (fun i wr => ∃ k : Nat, k ≤ ls.length ∧ i = .int .i64 k ∧ Hid (OfW w nm (.slice ao ls.length cap) m g1 (szI s0 k) wr)) (fun i _ => ls.length - (intOf i).toNat)
 case atStart => exact ⟨0, Nat.zero_le _, rfl, HO⟩
 case round =>
  obtain ⟨k, hk, rfl, HO⟩ := hrel
  by_cases hlt : k < ls.length
  ·as_aux_lemma =>
   obtain ⟨l, hl⟩ : ∃ l, ls[k]? = some l := ⟨_, List.getElem?_eq_getElem hlt⟩
   have HLk := zh hl
   have HMEM := zh (List.mem_of_getElem? hl)
   have HOK := zh (HLS.out.1 l (List.mem_of_getElem? hl))
   obtain ⟨q, off, c, T', fr', tv, rfl, hq, hx, hti⟩ := (HL.out.below HO.out.bb).at hl
   obtain ⟨ta, tcp, rfl, -, -⟩ := id hti
   have HQ := zh hq
   have HX := zh hx
   clear hq hx hl hti
   go_upto_region 5 with (first | (refine wpList_store_row rfl _ _ _ rfl _ _ rfl rfl _ _ (heap_alloc_new _ _) ?_ ?_ ?_ ?_; kernel_rfl; rfl; kernel_rfl; rw [World.setRow_alloc_new]) | (refine z9 _ _ rfl _ _ rfl _ _ _ (HQ.out) ([.int .i64 (l).label, .int .i64 (l).ins.op, .int .i64 (l).ins.d, .int .i64 (l).ins.s, .int .u16 (l).ins.imm, .int .u16 (l).ins.aux, .int .i64 (l).ins.bank, .int .i64 (l).ins.size, .int .i64 (l).dest, .int .i64 (l).fn, .int .i64 (l).obj, .slice ta (l).tab.length tcp]) (HX.out) ?_ ?_ ?_; kernel_rfl; kernel_rfl))
   have hO1 := HO.out.stay ((Below.refl wr.heap.size wr).alloc (zn _) (.cells #[.int .i64 (l).label, .int .i64 (l).ins.op, .int .i64 (l).ins.d, .int .i64 (l).ins.s, .int .u16 (l).ins.imm, .int .u16 (l).ins.aux, .int .i64 (l).ins.bank, .int .i64 (l).ins.size, .int .i64 (l).dest, .int .i64 (l).fn, .int .i64 (l).obj, .slice ta (l).tab.length tcp] 58))
   have hn := heap_alloc_new wr (.cells #[.int .i64 (l).label, .int .i64 (l).ins.op, .int .i64 (l).ins.d, .int .i64 (l).ins.s, .int .u16 (l).ins.imm, .int .u16 (l).ins.aux, .int .i64 (l).ins.bank, .int .i64 (l).ins.size, .int .i64 (l).dest, .int .i64 (l).fn, .int .i64 (l).obj, .slice ta (l).tab.length tcp] 58)
   have hne : wr.heap.size ≠ g1 := by have := (Array.getElem?_eq_some_iff.1 HO.out.sb).1; omega
   obtain ⟨W, hW⟩ : ∃ W : World, wr.alloc (.cells #[.int .i64 (l).label, .int .i64 (l).ins.op, .int .i64 (l).ins.d, .int .i64 (l).ins.s, .int .u16 (l).ins.imm, .int .u16 (l).ins.aux, .int .i64 (l).ins.bank, .int .i64 (l).ins.size, .int .i64 (l).dest, .int .i64 (l).fn, .int .i64 (l).obj, .slice ta (l).tab.length tcp] 58) = W := ⟨_, rfl⟩
   obtain ⟨g, hg⟩ : ∃ g : Nat, wr.heap.size = g := ⟨_, rfl⟩
   rw [hW] at hO1 hn ⊢
   rw [hg] at hn hne ⊢
   clear hW hg
   have HO1 := zh hO1
   have HN1 := zh hn
   have HNE := zh hne
   clear hO1 hn hne
   simp only [Act.put]
   have HKS := zh (show k < s0.length by rw [HSL.out]; exact hlt)
   have HSK := zh (show s0[k]? = some (sz0 cs l) by rw [HS0.out, List.getElem?_map, HLk.out]; rfl)
   have hw := u8_mod l.ins.op
   have c0 := cell_of_row W g 1 _ _ _ HN1.out
   go_upto_block 2 with (go_at_call 80; refine (size_any (l.ins.op % 256) (by omega) (by omega) _).mono ?_; rintro e W2 ⟨rfl, hb2⟩; have HO2 := zh (HO1.out.stay hb2); have HN2 := zh (zf hb2 HN1.out); have hq2 := HO2.out.cell (szI_at s0 HKS.out); have hf2 := HO2.out.froz k; clear hb2)
   have hO3 := HO2.out.set k (zH (l.ins.op % 256))
   have hN3 := (jU (w := W2) (g := g1) (i := k) HNE.out (.int .i64 (zH (l.ins.op % 256)))).trans HN2.out
   obtain ⟨W3, hW3⟩ : ∃ W3 : World, W2.setCell ⟨g1, k, none⟩ (.int .i64 (zH (l.ins.op % 256))) = W3 := ⟨_, rfl⟩
   rw [hW3] at hO3 hN3 ⊢
   have HO3 := zh hO3
   have HN3 := zh hN3
   have HV3 := zh (szI_mid HKS.out (zH (l.ins.op % 256)))
   clear hW3 hO3 hN3 hq2 hf2 c0 hw
   have c3 := cell_of_row W3 g 1 _ _ _ HN3.out
   rcases xL l.ins.op with hf | hf | hf | hf | hf
   ·have HF := zh (show ∀ V, Calls Try.prog 42 #[.int .i64 l.ins.op] V fun e w' => e = .returned (.int .i64 0) ∧ Below V.heap.size V w' from fun V => by have := xc l.ins.op V; rw [hf] at this; exact this)
    have HFE := zh hf
    clear hf
    go_upto_region 8 with (go_at_call 42; refine (HF.out _).mono ?_; rintro e W4 ⟨rfl, hb4⟩; have HO4 := zh (HO3.out.stay hb4); have HN4 := zh (zf hb4 HN3.out); have hq4 := HO4.out.cell HV3.out; have hf4 := HO4.out.froz k; have c4 := cell_of_row W4 g 1 _ _ _ HN4.out; clear hb4)
    have HSY := zh (show sz0 cs l = zH (l.ins.op % 256) by unfold sz0; rw [if_neg (by rw [HFE.out]; decide), if_neg (fun h => absurd h.1 (by rw [HFE.out]; decide))])
    go_wp2_with (go_at_call 42; refine (HF.out _).mono ?_; rintro e W5 ⟨rfl, hb5⟩; have HO5 := zh (HO4.out.stay hb5); have HN5 := zh (zf hb5 HN4.out); have hq5 := HO5.out.cell HV3.out; have hf5 := HO5.out.froz k; have c5 := cell_of_row W5 g 1 _ _ _ HN5.out; clear hb5)
    go_roundw
    case rel => exact ⟨k + 1, by omega, by go_num, zh (by have h9 := HO5.out; rw [szI_one (HSY.out ▸ HSK.out)] at h9; exact h9)⟩
    case measure => simp [intOf]; omega
   ·have HF := zh (show ∀ V, Calls Try.prog 42 #[.int .i64 l.ins.op] V fun e w' => e = .returned (.int .i64 1) ∧ Below V.heap.size V w' from fun V => by have := xc l.ins.op V; rw [hf] at this; exact this)
    have HFE := zh hf
    clear hf
    go_upto_region 8 with (go_at_call 42; refine (HF.out _).mono ?_; rintro e W4 ⟨rfl, hb4⟩; have HO4 := zh (HO3.out.stay hb4); have HN4 := zh (zf hb4 HN3.out); have hq4 := HO4.out.cell HV3.out; have hf4 := HO4.out.froz k; have c4 := cell_of_row W4 g 1 _ _ _ HN4.out; clear hb4)
    have HSY := zh (show sz0 cs l = zH (l.ins.op % 256) by unfold sz0; rw [if_neg (by rw [HFE.out]; decide), if_neg (fun h => absurd h.1 (by rw [HFE.out]; decide))])
    go_wp2_with (go_at_call 42; refine (HF.out _).mono ?_; rintro e W5 ⟨rfl, hb5⟩; have HO5 := zh (HO4.out.stay hb5); have HN5 := zh (zf hb5 HN4.out); have hq5 := HO5.out.cell HV3.out; have hf5 := HO5.out.froz k; have c5 := cell_of_row W5 g 1 _ _ _ HN5.out; clear hb5)
    go_roundw
    case rel => exact ⟨k + 1, by omega, by go_num, zh (by have h9 := HO5.out; rw [szI_one (HSY.out ▸ HSK.out)] at h9; exact h9)⟩
    case measure => simp [intOf]; omega
   ·have HF := zh (show ∀ V, Calls Try.prog 42 #[.int .i64 l.ins.op] V fun e w' => e = .returned (.int .i64 2) ∧ Below V.heap.size V w' from fun V => by have := xc l.ins.op V; rw [hf] at this; exact this)
    have HFE := zh hf
    clear hf
    go_upto_region 7 with (go_at_call 42; refine (HF.out _).mono ?_; rintro e W4 ⟨rfl, hb4⟩; have HO4 := zh (HO3.out.stay hb4); have HN4 := zh (zf hb4 HN3.out); have hq4 := HO4.out.cell HV3.out; have hf4 := HO4.out.froz k; have c4 := cell_of_row W4 g 1 _ _ _ HN4.out; clear hb4)
    have HSY := zh (show sz0 cs l = 2 by unfold sz0; rw [if_pos HFE.out])
    go_wp2_with fail
    go_roundw
    case rel => exact ⟨k + 1, by omega, by go_num, zh (by have h9 := HO4.out.set k 2; rw [szI_two (HSY.out ▸ HSK.out)] at h9; exact h9)⟩
    case measure => simp [intOf]; omega
   ·have HF := zh (show ∀ V, Calls Try.prog 42 #[.int .i64 l.ins.op] V fun e w' => e = .returned (.int .i64 3) ∧ Below V.heap.size V w' from fun V => by have := xc l.ins.op V; rw [hf] at this; exact this)
    have HFE := zh hf
    clear hf
    go_upto_region 8 with (go_at_call 42; refine (HF.out _).mono ?_; rintro e W4 ⟨rfl, hb4⟩; have HO4 := zh (HO3.out.stay hb4); have HN4 := zh (zf hb4 HN3.out); have hq4 := HO4.out.cell HV3.out; have hf4 := HO4.out.froz k; have c4 := cell_of_row W4 g 1 _ _ _ HN4.out; clear hb4)
    have HSY := zh (show sz0 cs l = zH (l.ins.op % 256) by unfold sz0; rw [if_neg (by rw [HFE.out]; decide), if_neg (fun h => absurd h.1 (by rw [HFE.out]; decide))])
    go_wp2_with (go_at_call 42; refine (HF.out _).mono ?_; rintro e W5 ⟨rfl, hb5⟩; have HO5 := zh (HO4.out.stay hb5); have HN5 := zh (zf hb5 HN4.out); have hq5 := HO5.out.cell HV3.out; have hf5 := HO5.out.froz k; have c5 := cell_of_row W5 g 1 _ _ _ HN5.out; clear hb5)
    go_roundw
    case rel => exact ⟨k + 1, by omega, by go_num, zh (by have h9 := HO5.out; rw [szI_one (HSY.out ▸ HSK.out)] at h9; exact h9)⟩
    case measure => simp [intOf]; omega
   ·have HF := zh (show ∀ V, Calls Try.prog 42 #[.int .i64 l.ins.op] V fun e w' => e = .returned (.int .i64 4) ∧ Below V.heap.size V w' from fun V => by have := xc l.ins.op V; rw [hf] at this; exact this)
    have HFE := zh hf
    clear hf
    go_upto_region 8 with (go_at_call 42; refine (HF.out _).mono ?_; rintro e W4 ⟨rfl, hb4⟩; have HO4 := zh (HO3.out.stay hb4); have HN4 := zh (zf hb4 HN3.out); have hq4 := HO4.out.cell HV3.out; have hf4 := HO4.out.froz k; have c4 := cell_of_row W4 g 1 _ _ _ HN4.out; clear hb4)
    by_cases h131 : l.ins.op = 131
    ·have HE131 := zh h131
     have HSY := zh (show sz0 cs l = zH (l.ins.op % 256) by unfold sz0; rw [if_neg (by rw [HFE.out]; decide), if_neg (fun h => h.2 h131)])
     rw [h131] at HF
     go_wp2_with (go_at_call 42; refine (HF.out _).mono ?_; rintro e W5 ⟨rfl, hb5⟩; have HO5 := zh (HO4.out.stay hb5); have HN5 := zh (zf hb5 HN4.out); have hq5 := HO5.out.cell HV3.out; have hf5 := HO5.out.froz k; have c5 := cell_of_row W5 g 1 _ _ _ HN5.out; clear hb5)
     go_roundw
     case rel => exact ⟨k + 1, by omega, by go_num, zh (by have h9 := HO5.out; rw [szI_one (HSY.out ▸ HSK.out)] at h9; exact h9)⟩
     case measure => simp [intOf]; omega
    ·have h131a : (l.ins.op == 131) = false := by simp [h131]
     have h131b : (l.ins.op != 131) = true := by simp [h131]
     have HSY := zh (show sz0 cs l = cs l.fn by unfold sz0; rw [if_neg (by rw [HFE.out]; decide), if_pos ⟨HFE.out, h131⟩])
     have HCL := zh (HCS.out l HMEM.out HFE.out)
     go_upto_region 9 with (go_at_call 42; refine (HF.out _).mono ?_; rintro e W5 ⟨rfl, hb5⟩; have HO5 := zh (HO4.out.stay hb5); have HN5 := zh (zf hb5 HN4.out); have hq5 := HO5.out.cell HV3.out; have hf5 := HO5.out.froz k; have c5 := cell_of_row W5 g 1 _ _ _ HN5.out; clear hb5)
     have c9 := cell_of_row W5 g 9 _ _ _ HN5.out
     go_wp2_with (go_at_call 50; refine (HCL.out _ HO5.out.bb).mono ?_; rintro e W6 ⟨rfl, hb6⟩; have HO6 := zh (HO5.out.stay hb6); have hq6 := HO6.out.cell HV3.out; have hf6 := HO6.out.froz k)
     go_roundw
     case rel => exact ⟨k + 1, by omega, by go_num, zh (by have h9 := HO6.out.set k (cs l.fn); rw [szI_two (HSY.out ▸ HSK.out)] at h9; exact h9)⟩
     case measure => simp [intOf]; omega
  ·as_aux_lemma =>
    have hke : k = ls.length := by omega
    subst hke
    clear hlt hk
    have hO := HO.out
    have e1 : szI s0 ls.length = s0 := by rw [← HSL.out]; exact szI_all s0
    rw [e1] at hO
    clear e1
    have HO0 := zh hO
    clear hO HO
    obtain ⟨wo, rfl⟩ : ∃ wo : World, wo = wr := ⟨_, rfl⟩
    go_wp2_with fail
    go_loopg [] (left3 s0) (fun mu wr => ∃ sz : List Int, left3 sz ≤ mu ∧ Hid (∃ i, iterS ls i s0 = sz) ∧ Hid (sz.length = ls.length) ∧ Hid (SzOk sz) ∧ Hid (OfW w nm (.slice ao ls.length cap) m g1 sz wr))
    case atStart => exact ⟨s0, zn _, zh ⟨0, rfl⟩, HSL, zh (by rw [HS0.out]; exact sz0_ok hc8 ls), HO0⟩
    case round =>
     obtain ⟨sz, hmu, HIT, HZL, HZO, HO⟩ := hrel
     obtain ⟨wp, rfl⟩ : ∃ wp : World, wp = wr := ⟨_, rfl⟩
     go_upto_region 12 with (refine wpList_make_full _ rfl _ _ _ rfl wp.heap.size 3 i3 (.int .i64 0) 1 Try.underlying40 HI3.out.1 HI3.out.2.1 HI3.out.2.2 .i64 .i64 (↑ls.length + 1) (↑ls.length + 1) (ls.length + 1) rfl rfl rfl rfl HB4.out (by unfold maxLen; omega) (zn _) ?_; intro w2 ho2 hg2)
     have hg2b := own_full ho2
     rw [made_ints] at hg2b
     have hO2 : Of2W w nm (.slice ao ls.length cap) m g1 sz wp.heap.size (szI (xi sz) 1) w2 := ⟨HO.out.stay (zN.toBelow (bs := fun _ => False) ⟨hg2.os, hg2.tape, hg2.output, hg2.size, fun k hk _ => hg2.block k hk (by simp)⟩ (zn _) (fun _ h => h.elim)), by have := (Array.getElem?_eq_some_iff.1 HO.out.sb).1; have := HO.out.gs; omega, by have := (Array.getElem?_eq_some_iff.1 HO.out.sb).1; omega, by rw [offI_zero, HZL.out]; exact hg2b⟩
     obtain ⟨g2, hgg2⟩ : ∃ g2 : Nat, wp.heap.size = g2 := ⟨_, rfl⟩
     rw [hgg2] at hO2 ⊢
     have HO2 := zh hO2
     clear hO2 hg2b ho2 hg2 hgg2 HO
     go_wp2_with fail
     go_loopw [72] (fun i wr => ∃ k : Nat, k ≤ ls.length ∧ i = .int .i64 k ∧ Hid (Of2W w nm (.slice ao ls.length cap) m g1 sz g2 (szI (xi sz) (k + 1)) wr)) (fun i _ => ls.length - (intOf i).toNat)
     case atStart => exact ⟨0, Nat.zero_le _, rfl, HO2⟩
     case round =>
      obtain ⟨k, hk, rfl, HO2⟩ := hrel
      by_cases hlt : k < ls.length
      ·as_aux_lemma =>
       have HKZ := zh (show k < sz.length by rw [HZL.out]; exact hlt)
       have hz1 := HO2.out.o.cell (show sz[k]? = some (sz[k]'HKZ.out) from List.getElem?_eq_getElem _)
       have hz2 := HO2.out.cell2 (offI_at sz HKZ.out)
       have hz3 := HO2.out.cell2 (offI_next sz HKZ.out)
       have hz4 := HO2.out.froz2 (k + 1)
       obtain ⟨y, hy⟩ : ∃ y : Int, y = sz[k]'HKZ.out := ⟨_, rfl⟩
       obtain ⟨x, hx⟩ : ∃ x : Int, x = yM sz k := ⟨_, rfl⟩
       rw [← hy] at hz1
       rw [← hx] at hz2
       have hy8 : 0 ≤ y ∧ y ≤ 8 := by rw [hy]; exact HZO.out _ (List.getElem_mem _)
       have hx8 : 0 ≤ x ∧ x ≤ 8 * k := by rw [hx]; exact off_bd HZO.out k (Nat.le_of_lt HKZ.out)
       obtain ⟨hy1, hy2⟩ := hy8
       obtain ⟨hx1, hx2⟩ := hx8
       have HNX := zh (offI_set sz HKZ.out)
       have HSM := zh (show yM sz (k + 1) = x + y by rw [offS_succ sz k HKZ.out, hx, hy])
       clear hy hx
       go_wp2_with fail
       go_roundw
       case rel => exact ⟨k + 1, by omega, by go_num, zh (by have h9 := HO2.out.set2 (k + 1) (x + y); rw [← HSM.out, HNX.out, HSM.out] at h9; exact h9)⟩
       case measure => simp [intOf]; omega
      ·as_aux_lemma =>
       have hke : k = ls.length := by omega
       subst hke
       clear hlt hk
       have hO := HO2.out
       have e1 : szI (xi sz) (ls.length + 1) = xi sz := by rw [show ls.length + 1 = (xi sz).length by rw [jm, HZL.out]]; exact szI_all _
       rw [e1] at hO
       clear e1
       have HO3 := zh (show Of2W w nm (.slice ao ls.length cap) m g1 (rxI ls sz 0) g2 (xi sz) wr by rw [rxI_zero]; exact hO)
       clear hO HO2
       obtain ⟨wq, rfl⟩ : ∃ wq : World, wq = wr := ⟨_, rfl⟩
       have c1 := cell_of_row wq w.heap.size 1 _ _ _ HO3.out.o.b0
       go_wp2_with fail
       clear c1
       go_loopw [92, 11] (fun i d wr => ∃ k : Nat, k ≤ ls.length ∧ i = .int .i64 k ∧ d = .bool (jO ls sz k) ∧ Hid (Of2W w nm (.slice ao ls.length cap) m g1 (rxI ls sz k) g2 (xi sz) wr)) (fun i _ _ => ls.length - (intOf i).toNat)
       case atStart => exact ⟨0, Nat.zero_le _, rfl, by rw [sameTo_zero], HO3⟩
       case round =>
        obtain ⟨k, hk, rfl, rfl, HO3⟩ := hrel
        by_cases hlt : k < ls.length
        ·as_aux_lemma =>
         have HO := zh HO3.out.o
         have HO3' := HO3
         obtain ⟨l, hl⟩ : ∃ l, ls[k]? = some l := ⟨_, List.getElem?_eq_getElem hlt⟩
         have HLk := zh hl
         have HMEM := zh (List.mem_of_getElem? hl)
         have HOK := zh (HLS.out.1 l (List.mem_of_getElem? hl))
         obtain ⟨q, off, c, T', fr', tv, rfl, hq, hx, hti⟩ := (HL.out.below HO.out.bb).at hl
         obtain ⟨ta, tcp, rfl, -, -⟩ := id hti
         have HQ := zh hq
         have HX := zh hx
         clear hq hx hl hti
         go_upto_region 21 with (first | (refine wpList_store_row rfl _ _ _ rfl _ _ rfl rfl _ _ (heap_alloc_new _ _) ?_ ?_ ?_ ?_; kernel_rfl; rfl; kernel_rfl; rw [World.setRow_alloc_new]) | (refine z9 _ _ rfl _ _ rfl _ _ _ (HQ.out) ([.int .i64 (l).label, .int .i64 (l).ins.op, .int .i64 (l).ins.d, .int .i64 (l).ins.s, .int .u16 (l).ins.imm, .int .u16 (l).ins.aux, .int .i64 (l).ins.bank, .int .i64 (l).ins.size, .int .i64 (l).dest, .int .i64 (l).fn, .int .i64 (l).obj, .slice ta (l).tab.length tcp]) (HX.out) ?_ ?_ ?_; kernel_rfl; kernel_rfl))
         have hO1 := HO.out.stay ((Below.refl wr.heap.size wr).alloc (zn _) (.cells #[.int .i64 (l).label, .int .i64 (l).ins.op, .int .i64 (l).ins.d, .int .i64 (l).ins.s, .int .u16 (l).ins.imm, .int .u16 (l).ins.aux, .int .i64 (l).ins.bank, .int .i64 (l).ins.size, .int .i64 (l).dest, .int .i64 (l).fn, .int .i64 (l).obj, .slice ta (l).tab.length tcp] 58))
         have hn := heap_alloc_new wr (.cells #[.int .i64 (l).label, .int .i64 (l).ins.op, .int .i64 (l).ins.d, .int .i64 (l).ins.s, .int .u16 (l).ins.imm, .int .u16 (l).ins.aux, .int .i64 (l).ins.bank, .int .i64 (l).ins.size, .int .i64 (l).dest, .int .i64 (l).fn, .int .i64 (l).obj, .slice ta (l).tab.length tcp] 58)
         have hne : wr.heap.size ≠ g1 := by have := (Array.getElem?_eq_some_iff.1 HO.out.sb).1; omega
         have hA1 := HO3.out.stay ((Below.refl wr.heap.size wr).alloc (zn _) (.cells #[.int .i64 (l).label, .int .i64 (l).ins.op, .int .i64 (l).ins.d, .int .i64 (l).ins.s, .int .u16 (l).ins.imm, .int .u16 (l).ins.aux, .int .i64 (l).ins.bank, .int .i64 (l).ins.size, .int .i64 (l).dest, .int .i64 (l).fn, .int .i64 (l).obj, .slice ta (l).tab.length tcp] 58))
         have hlt2 : g2 < wr.heap.size := (Array.getElem?_eq_some_iff.1 HO3.out.ob).1
         obtain ⟨W, hW⟩ : ∃ W : World, wr.alloc (.cells #[.int .i64 (l).label, .int .i64 (l).ins.op, .int .i64 (l).ins.d, .int .i64 (l).ins.s, .int .u16 (l).ins.imm, .int .u16 (l).ins.aux, .int .i64 (l).ins.bank, .int .i64 (l).ins.size, .int .i64 (l).dest, .int .i64 (l).fn, .int .i64 (l).obj, .slice ta (l).tab.length tcp] 58) = W := ⟨_, rfl⟩
         obtain ⟨g, hg⟩ : ∃ g : Nat, wr.heap.size = g := ⟨_, rfl⟩
         rw [hW] at hO1 hn hA1 ⊢
         rw [hg] at hn hne hlt2 ⊢
         clear hW hg
         have HO1 := zh hO1
         have HN1 := zh hn
         have HNE := zh hne
         clear hO1 hn hne
         simp only [Act.put]
         have HA1 := zh hA1
         have HG2 := zh (show g ≠ g2 by omega)
         clear hA1 hlt2 HO3 HO3' HO
         have HKZ := zh (show k < sz.length by rw [HZL.out]; exact hlt)
         have HLE := zh (show ls[k]'hlt = l from (List.getElem?_eq_some_iff.1 HLk.out).2)
         obtain ⟨y, hy⟩ : ∃ y : Int, sz[k]'HKZ.out = y := ⟨_, rfl⟩
         have HY := zh hy
         have HYZ := zh (show (rxI ls sz k)[k]? = some y by rw [rxI_at HZL.out HKZ.out, hy])
         have hyb : 0 ≤ y ∧ y ≤ 8 := by rw [← hy]; exact HZO.out _ (List.getElem_mem _)
         obtain ⟨hyb1, hyb2⟩ := hyb
         clear hy
         have c0 := cell_of_row W g 1 _ _ _ HN1.out
         rcases xL l.ins.op with hf | hf | hf | hf | hf
         ·have HF := zh (show ∀ V, Calls Try.prog 42 #[.int .i64 l.ins.op] V fun e w' => e = .returned (.int .i64 0) ∧ Below V.heap.size V w' from fun V => by have := xc l.ins.op V; rw [hf] at this; exact this)
          have HFE := zh hf
          clear hf
          go_wp2_with (go_at_call 42; refine (HF.out _).mono ?_; rintro e W2 ⟨rfl, hb2⟩; have HA2 := zh (HA1.out.stay hb2); have HN2 := zh (zf hb2 HN1.out); have hq2 := HA2.out.o.cell HYZ.out; clear hb2)
          go_roundw
          case rel =>
           have hp : yx ls sz (ls[k]'hlt) (sz[k]'HKZ.out) k = sz[k]'HKZ.out := by rw [HLE.out]; unfold yx; rw [if_pos (.inl (by rw [HFE.out]; decide))]
           exact ⟨k + 1, by omega, by go_num, by rw [xo HZL.out HKZ.out hp], zh (by have h9 := HA2.out; rw [jc HZL.out HKZ.out hp] at h9; exact h9)⟩
          case measure => simp [intOf]; omega
         ·have HF := zh (show ∀ V, Calls Try.prog 42 #[.int .i64 l.ins.op] V fun e w' => e = .returned (.int .i64 1) ∧ Below V.heap.size V w' from fun V => by have := xc l.ins.op V; rw [hf] at this; exact this)
          have HFE := zh hf
          clear hf
          go_wp2_with (go_at_call 42; refine (HF.out _).mono ?_; rintro e W2 ⟨rfl, hb2⟩; have HA2 := zh (HA1.out.stay hb2); have HN2 := zh (zf hb2 HN1.out); have hq2 := HA2.out.o.cell HYZ.out; clear hb2)
          go_roundw
          case rel =>
           have hp : yx ls sz (ls[k]'hlt) (sz[k]'HKZ.out) k = sz[k]'HKZ.out := by rw [HLE.out]; unfold yx; rw [if_pos (.inl (by rw [HFE.out]; decide))]
           exact ⟨k + 1, by omega, by go_num, by rw [xo HZL.out HKZ.out hp], zh (by have h9 := HA2.out; rw [jc HZL.out HKZ.out hp] at h9; exact h9)⟩
          case measure => simp [intOf]; omega
         ·have HF := zh (show ∀ V, Calls Try.prog 42 #[.int .i64 l.ins.op] V fun e w' => e = .returned (.int .i64 2) ∧ Below V.heap.size V w' from fun V => by have := xc l.ins.op V; rw [hf] at this; exact this)
          have HFE := zh hf
          clear hf
          by_cases hy3 : y = 3
          ·have HY3 := zh hy3
           go_wp2_with (go_at_call 42; refine (HF.out _).mono ?_; rintro e W2 ⟨rfl, hb2⟩; have HA2 := zh (HA1.out.stay hb2); have HN2 := zh (zf hb2 HN1.out); have hq2 := HA2.out.o.cell HYZ.out; clear hb2)
           go_roundw
           case rel =>
            have hp : yx ls sz (ls[k]'hlt) (sz[k]'HKZ.out) k = sz[k]'HKZ.out := by rw [HLE.out]; unfold yx; rw [if_pos (.inr (by rw [HY.out]; exact HY3.out))]
            exact ⟨k + 1, by omega, by go_num, by rw [xo HZL.out HKZ.out hp], zh (by have h9 := HA2.out; rw [jc HZL.out HKZ.out hp] at h9; exact h9)⟩
           case measure => simp [intOf]; omega
          ·have hy3' : (y == 3) = false := by simp [hy3]
           go_upto_region 22 with (go_at_call 42; refine (HF.out _).mono ?_; rintro e W2 ⟨rfl, hb2⟩; have HA2 := zh (HA1.out.stay hb2); have HN2 := zh (zf hb2 HN1.out); have hq2 := HA2.out.o.cell HYZ.out; clear hb2)
           have HND := zh (show yI ls l.dest ≠ none by intro e; have := HLAB.out l HMEM.out HFE.out; rw [e] at this; cases this)
           obtain ⟨jd, hjd⟩ := Option.ne_none_iff_exists'.1 HND.out
           have hjl : jd < ls.length := (labF_lt hjd).1
           have HGF := zh (show (xH ls l.dest).getD 0 = (jd : Int) by unfold xH; rw [hjd]; rfl)
           have HLN := zh (show labN ls l.dest = jd by unfold labN; rw [hjd]; rfl)
           have HK1 := zh (show IntKind.i64.wrap ((k : Int) + 1) = (k : Int) + 1 from IntWalk.i64_in _ (by omega))
           have hj2 : (jd : Int) < (ls.length : Int) + 1 := by omega
           have hjz : jd ≤ sz.length := by rw [HZL.out]; omega
           have HV1 := zh (show (viA (xi sz))[jd]? = some (.int .i64 (yM sz jd)) from viA_get (jH sz hjz))
           have HV2 := zh (show (viA (xi sz))[k + 1]? = some (.int .i64 (yM sz (k + 1))) from viA_get (jH sz (by have := HKZ.out; omega)))
           have HD := zh (show IntKind.i64.wrap (yM sz jd - yM sz (k + 1)) = yM sz jd - yM sz (k + 1) from IntWalk.i64_in _ (by have h1 := off_bd HZO.out jd hjz; have h2 := off_bd HZO.out (k + 1) (by have := HKZ.out; omega); omega))
           have HID := zh (show zX l.dest from HOK.out.dest)
           have hmm : MapT m (xH ls) W2 := HM.out.same (HA2.out.o.bb.block _ HM.out.lt)
           obtain ⟨es, ck, hmo⟩ := hmm.obj
           have HMM := zh hmm
           have HMO := zh hmo
           clear hmm hmo hjd hq2 c0
           have zz0 : w.heap.size < W2.heap.size := (Array.getElem?_eq_some_iff.1 HA2.out.o.b0).1
           have zz1 : g2 < W2.heap.size := (Array.getElem?_eq_some_iff.1 HA2.out.ob).1
           have zz2 : g < W2.heap.size := (Array.getElem?_eq_some_iff.1 HN2.out).1
           have zz3 : m < W2.heap.size := HMM.out.lt
           have zz4 : g1 < W2.heap.size := (Array.getElem?_eq_some_iff.1 HA2.out.o.sb).1
           refine zV [] 15 (z5 [isV (.slice (some ⟨g2, 0, none⟩) (ls.length + 1) (ls.length + 1)), isV (.pointer (some ⟨w.heap.size, 2, none⟩)), isV (.map (some m)), isV (.pointer (some ⟨g, 8, none⟩)), isV (.int .i64 l.dest), isV (.int .i64 jd), isV ((.pointer (some ⟨g2, jd, none⟩))), isV ((.int .i64 (yM sz jd))), isV (.slice (some ⟨g2, 0, none⟩) (ls.length + 1) (ls.length + 1)), isV (.int .i64 k), isV (.int .i64 (k + 1)), isV ((.pointer (some ⟨g2, k + 1, none⟩))), isV ((.int .i64 (yM sz (k + 1)))), isV (.int .i64 (yM sz jd - yM sz (k + 1))), isV (.int .i64 (yM sz jd - yM sz (k + 1)))]) (nth [[0], [1], [2], [3], [4], [5], [6], [7], [8], [9], [10], [11], [12], [13], [14]]) (nth [[], [], [], [], [], [], [], [], [], [], [], [], [], [], []]) (nth [[], [], [1], [], [3], [2, 4], [0, 5], [6], [], [], [9], [8, 10], [11], [7, 12], [13, 0, 1, 2, 3, 4, 5, 6, 7, 8, 9, 10, 11, 12]]) [14] (yU w.heap.size w W2.heap.size [(w.heap.size, .cells #[.string nm, .slice (some ⟨q, off, none⟩) ls.length cap, .map (some m)] 74 (0, 0)), (g, .cells #[.int .i64 (l).label, .int .i64 (l).ins.op, .int .i64 (l).ins.d, .int .i64 (l).ins.s, .int .u16 (l).ins.imm, .int .u16 (l).ins.aux, .int .i64 (l).ins.bank, .int .i64 (l).ins.size, .int .i64 (l).dest, .int .i64 (l).fn, .int .i64 (l).obj, .slice ta (l).tab.length tcp] 58 (0, 0)), (g2, .cells (viA (xi sz)) 3 (0, 0)), (m, .map es ck), (g1, .cells (viA (rxI ls sz k)) 3 (0, 0))]) (by kernel_rfl) (by kernel_rfl) (⟨HA2.out.o.bb.drew, HA2.out.o.bb.size, zn _, by intro x hx; simp at hx; rcases hx with rfl | rfl | rfl | rfl | rfl <;> assumption, HA2.out.o.b0, HN2.out, HA2.out.ob, HMO.out, HA2.out.o.sb, trivial⟩) (yU.grow) (zG ((za (zc _)  (za (zc _)  (za (zc _)  (za (zc _)  (za (zc _)  (za (zc _)  (za (zc _)  (za (zc _)  (za (zc _)  (za (zc _)  (za (zc _)  (za (zc _)  (za (zc _)  (za (zc _)  (za (zc _) zy))))))))))))))))) (fun f F hF => ?_)
           simp only [List.take_succ_cons, List.take_zero, yb, Act.put, zD, zE, zF, Nat.reduceAdd] at hF
           subst hF
           refine ⟨zd ?_ (zd ?_ (zd ?_ (zd ?_ (zd ?_ (zd ?_ (zd ?_ (zd ?_ (zd ?_ (zd ?_ (zd ?_ (zd ?_ (zd ?_ (zd ?_ (zd ?_ (yd))))))))))))))), ?_⟩
           ·intro w5 hS hF hD K hK
            exact stV hK rfl rfl rfl rfl (by first | rfl | kernel_rfl) rfl (by show _ = _; kernel_rfl)
           ·intro w5 hS hF hD K hK
            exact stV hK rfl rfl rfl rfl (by first | rfl | kernel_rfl) rfl (by show _ = _; kernel_rfl)
           ·intro w5 hS hF hD K hK
            obtain ⟨(e1 : f 1 = _), -⟩ := hF
            try simp only [e1]
            exact stC hK rfl rfl rfl rfl (by first | rfl | kernel_rfl) rfl rfl rfl (hS.2.2.2.2.1) (by kernel_rfl) (fun _ => by kernel_rfl)
           ·intro w5 hS hF hD K hK
            exact stV hK rfl rfl rfl rfl (by first | rfl | kernel_rfl) rfl (by show _ = _; kernel_rfl)
           ·intro w5 hS hF hD K hK
            obtain ⟨(e3 : f 3 = _), -⟩ := hF
            try simp only [e3]
            exact stC hK rfl rfl rfl rfl (by first | rfl | kernel_rfl) rfl rfl rfl (hS.2.2.2.2.2.1) (by kernel_rfl) (fun _ => by kernel_rfl)
           ·intro w5 hS hF hD K hK
            obtain ⟨(e2 : f 2 = _), (e4 : f 4 = _), -⟩ := hF
            try simp only [e2, e4]
            rw [if_pos (by rfl)]
            exact zx (v := .int .i64 ((xH ls l.dest).getD 0)) (exec_lookup_one Try.underlying3 (t := 72) rfl Try.underlying72 (zeroI _) rfl (HMM.out.same (hS.2.2.2.2.2.2.2.1.trans HMO.out.symm)) rfl HID.out) (hK.out _ _ rfl (zq rfl rfl rfl (congrArg (Value.int .i64) HGF.out)))
           ·intro w5 hS hF hD K hK
            obtain ⟨(e0 : f 0 = _), (e5 : f 5 = _), -⟩ := hF
            try simp only [e0, e5]
            rw [if_pos (by rfl)]
            go_simp
            refine hK.out _ _ rfl (zq rfl rfl rfl ?_)
            first | rfl | kernel_rfl
           ·intro w5 hS hF hD K hK
            obtain ⟨(e6 : f 6 = _), -⟩ := hF
            try simp only [e6]
            exact stC hK rfl rfl rfl rfl (by first | rfl | kernel_rfl) rfl rfl rfl (hS.2.2.2.2.2.2.1) (HV1.out) (fun _ => by kernel_rfl)
           ·intro w5 hS hF hD K hK
            exact stV hK rfl rfl rfl rfl (by first | rfl | kernel_rfl) rfl (by show _ = _; kernel_rfl)
           ·intro w5 hS hF hD K hK
            exact stV hK rfl rfl rfl rfl (by first | rfl | kernel_rfl) rfl (by show _ = _; kernel_rfl)
           ·intro w5 hS hF hD K hK
            obtain ⟨(e9 : f 9 = _), -⟩ := hF
            try simp only [e9]
            rw [if_pos (by rfl)]
            exact zx (v := .int .i64 (IntKind.i64.wrap ((k : Int) + 1))) (by (show _ = _); kernel_rfl) (hK.out _ _ rfl (zq rfl rfl rfl (congrArg (Value.int .i64) HK1.out)))
           ·intro w5 hS hF hD K hK
            obtain ⟨(e8 : f 8 = _), (e10 : f 10 = _), -⟩ := hF
            try simp only [e8, e10]
            rw [if_pos (by rfl)]
            go_simp
            refine hK.out _ _ rfl (zq rfl rfl rfl ?_)
            first | rfl | kernel_rfl
           ·intro w5 hS hF hD K hK
            obtain ⟨(e11 : f 11 = _), -⟩ := hF
            try simp only [e11]
            exact stC hK rfl rfl rfl rfl (by first | rfl | kernel_rfl) rfl rfl rfl (hS.2.2.2.2.2.2.1) (HV2.out) (fun _ => by kernel_rfl)
           ·intro w5 hS hF hD K hK
            obtain ⟨(e7 : f 7 = _), (e12 : f 12 = _), -⟩ := hF
            try simp only [e7, e12]
            rw [if_pos (by rfl)]
            exact zx (v := .int .i64 (IntKind.i64.wrap (yM sz jd - yM sz (k + 1)))) (by (show _ = _); kernel_rfl) (hK.out _ _ rfl (zq rfl rfl rfl (congrArg (Value.int .i64) HD.out)))
           ·intro w5 hS hF hD K hK
            obtain ⟨(e13 : f 13 = _), (e0 : f 0 = _), (e1 : f 1 = _), (e2 : f 2 = _), (e3 : f 3 = _), (e4 : f 4 = _), (e5 : f 5 = _), (e6 : f 6 = _), (e7 : f 7 = _), (e8 : f 8 = _), (e9 : f 9 = _), (e10 : f 10 = _), (e11 : f 11 = _), (e12 : f 12 = _), -⟩ := hF
            try simp only [e13, e0, e1, e2, e3, e4, e5, e6, e7, e8, e9, e10, e11, e12]
            exact stV hK rfl rfl rfl rfl (by first | rfl | kernel_rfl) rfl (by show _ = _; kernel_rfl)
           intro w5 hS hF
           obtain ⟨(e14 : f 14 = _), -⟩ := hF
           try simp only [e14]
           refine yN (by kernel_rfl) ?_
           have HA5 := zh (show Of2W w nm (.slice (some ⟨q, off, none⟩) ls.length cap) m g1 (rxI ls sz k) g2 (xi sz) w5 from ⟨⟨hS.1, hS.2.2.2.2.1, HA2.out.o.gs, hS.2.2.2.2.2.2.2.2.1⟩, HA2.out.gs2, HA2.out.ne, hS.2.2.2.2.2.2.1⟩)
           clear hS e14 zz0 zz1 zz2 zz3 zz4
           obtain ⟨d, hd⟩ : ∃ d : Int, yM sz jd - yM sz (k + 1) = d := ⟨_, rfl⟩
           rw [hd]
           have HDD := zh hd
           clear hd hj2 hjl hjz
           have hq5 := HA5.out.o.cell HYZ.out
           have hf5 := HA5.out.o.froz k
           have HN3 := zh hy3
           clear hy3
           rcases (show d < -128 ∨ 127 < d ∨ (-128 ≤ d ∧ d ≤ 127) by omega) with h | h | ⟨h, h'⟩
           ·have HFAR := zh (show jP ls sz l k = true by unfold jP; rw [HLN.out, HDD.out]; simp; omega)
            go_wp2_with fail
            go_roundw
            case rel =>
             have hp : yx ls sz (ls[k]'hlt) (sz[k]'HKZ.out) k = 3 := by rw [HLE.out]; unfold yx; rw [if_neg (by rw [HFE.out, HY.out]; have := HN3.out; simp [this]), if_pos HFAR.out]
             exact ⟨k + 1, by omega, by go_num, by rw [sameTo_no HZL.out HKZ.out (by rw [hp, HY.out]; exact fun e => HN3.out e.symm)], zh (by have h9 := HA5.out.set k 3; rw [rxI_set HZL.out HKZ.out hp] at h9; exact h9)⟩
            case measure => simp [intOf]; omega
           ·have HFAR := zh (show jP ls sz l k = true by unfold jP; rw [HLN.out, HDD.out]; simp; omega)
            go_wp2_with fail
            go_roundw
            case rel =>
             have hp : yx ls sz (ls[k]'hlt) (sz[k]'HKZ.out) k = 3 := by rw [HLE.out]; unfold yx; rw [if_neg (by rw [HFE.out, HY.out]; have := HN3.out; simp [this]), if_pos HFAR.out]
             exact ⟨k + 1, by omega, by go_num, by rw [sameTo_no HZL.out HKZ.out (by rw [hp, HY.out]; exact fun e => HN3.out e.symm)], zh (by have h9 := HA5.out.set k 3; rw [rxI_set HZL.out HKZ.out hp] at h9; exact h9)⟩
            case measure => simp [intOf]; omega
           ·have HFAR := zh (show jP ls sz l k = false by unfold jP; rw [HLN.out, HDD.out]; simp; omega)
            go_wp2_with fail
            go_roundw
            case rel =>
             have hp : yx ls sz (ls[k]'hlt) (sz[k]'HKZ.out) k = sz[k]'HKZ.out := by rw [HLE.out]; unfold yx; rw [if_neg (by rw [HFE.out, HY.out]; have := HN3.out; simp [this]), if_neg (by rw [HFAR.out]; decide)]
             exact ⟨k + 1, by omega, by go_num, by rw [xo HZL.out HKZ.out hp], zh (by have h9 := HA5.out; rw [jc HZL.out HKZ.out hp] at h9; exact h9)⟩
            case measure => simp [intOf]; omega
         ·have HF := zh (show ∀ V, Calls Try.prog 42 #[.int .i64 l.ins.op] V fun e w' => e = .returned (.int .i64 3) ∧ Below V.heap.size V w' from fun V => by have := xc l.ins.op V; rw [hf] at this; exact this)
          have HFE := zh hf
          clear hf
          go_wp2_with (go_at_call 42; refine (HF.out _).mono ?_; rintro e W2 ⟨rfl, hb2⟩; have HA2 := zh (HA1.out.stay hb2); have HN2 := zh (zf hb2 HN1.out); have hq2 := HA2.out.o.cell HYZ.out; clear hb2)
          go_roundw
          case rel =>
           have hp : yx ls sz (ls[k]'hlt) (sz[k]'HKZ.out) k = sz[k]'HKZ.out := by rw [HLE.out]; unfold yx; rw [if_pos (.inl (by rw [HFE.out]; decide))]
           exact ⟨k + 1, by omega, by go_num, by rw [xo HZL.out HKZ.out hp], zh (by have h9 := HA2.out; rw [jc HZL.out HKZ.out hp] at h9; exact h9)⟩
          case measure => simp [intOf]; omega
         ·have HF := zh (show ∀ V, Calls Try.prog 42 #[.int .i64 l.ins.op] V fun e w' => e = .returned (.int .i64 4) ∧ Below V.heap.size V w' from fun V => by have := xc l.ins.op V; rw [hf] at this; exact this)
          have HFE := zh hf
          clear hf
          go_wp2_with (go_at_call 42; refine (HF.out _).mono ?_; rintro e W2 ⟨rfl, hb2⟩; have HA2 := zh (HA1.out.stay hb2); have HN2 := zh (zf hb2 HN1.out); have hq2 := HA2.out.o.cell HYZ.out; clear hb2)
          go_roundw
          case rel =>
           have hp : yx ls sz (ls[k]'hlt) (sz[k]'HKZ.out) k = sz[k]'HKZ.out := by rw [HLE.out]; unfold yx; rw [if_pos (.inl (by rw [HFE.out]; decide))]
           exact ⟨k + 1, by omega, by go_num, by rw [xo HZL.out HKZ.out hp], zh (by have h9 := HA2.out; rw [jc HZL.out HKZ.out hp] at h9; exact h9)⟩
          case measure => simp [intOf]; omega
        ·as_aux_lemma =>
         have hke : k = ls.length := by omega
         subst hke
         clear hlt hk
         have hst := sameTo_all (ls := ls) HZL.out
         rw [HZL.out] at hst
         have hO := HO3.out
         have e1 : rxI ls sz ls.length = xr ls sz := by rw [← HZL.out]; exact rxI_all HZL.out
         rw [e1] at hO
         have HO4 := zh hO
         clear e1 hO HO3
         by_cases hp : xr ls sz = sz
         ·have hst1 : jO ls sz ls.length = true := by rw [hst]; simp [hp]
          have HP := zh hp
          rw [hst1]
          clear hst hp hst1
          go_wp2_with fail
          go_ret
          obtain ⟨i, hi⟩ := HIT.out
          have hfin : finS ls s0 = sz := fin_eq ⟨HP.out, i, hi⟩
          unfold OffPost
          rw [hfin]
          refine ⟨g2, Nat.le_of_lt HO4.out.gs2, ?_, HO4.out.ob, HO4.out.o.bb⟩
          rw [jm, HZL.out]
          rfl
         ·have hst1 : jO ls sz ls.length = false := by rw [hst]; simp [hp]
          have HP := zh hp
          rw [hst1]
          clear hst hp hst1
          go_wp2_with fail
          go_roundg (left3 (xr ls sz))
          case measure => have := pass_left HZL.out HP.out; omega
          case rel =>
           obtain ⟨i, hi⟩ := HIT.out
           exact ⟨xr ls sz, zn _, zh ⟨i + 1, by rw [iter_snoc, hi]⟩, zh (xa HZL.out), zh (pass_ok HZL.out HZO.out), zh HO4.out.o⟩
end Go.Proofs.Ythebmoggbgldmaa
