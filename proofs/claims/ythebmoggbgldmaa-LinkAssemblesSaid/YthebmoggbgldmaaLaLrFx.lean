/- The reference of chapter 19: the rounds that make branches long. The conditions: a well-formed chunk. (Printed by gen_lrf.py.) -/
import Derived.Test.YthebmoggbgldmaaLaLrE
set_option linter.all false
namespace Go.Proofs.Ythebmoggbgldmaa
open Go Go.RowKit Go.Maps
theorem own_setI {w : World} {B g n cap : Nat} {xs : List Int} (h : w.ownsRow B 3 1 (.slice (some ⟨g, 0, none⟩) n cap) n (xs.map (Value.int .i64))) (k : Nat) (hk : k < n) (x : Int) :
  (w.setCell ⟨g, k, none⟩ (.int .i64 x)).ownsRow B 3 1 (.slice (some ⟨g, 0, none⟩) n cap) n ((xs.set k x).map (Value.int .i64)) := by
 refine ⟨by rw [List.length_map, List.length_set]; simpa using h.1, ?_⟩
 rcases h.2 with ⟨e, -⟩ | ⟨g', c', cur, e, hB, hg, h1, h2, h3, h4⟩
 ·cases e
 ·simp only [Value.slice.injEq, Option.some.injEq, Addr.mk.injEq, and_true, true_and] at e
  obtain ⟨rfl, rfl⟩ := e
  refine .inr ⟨g, cap, cur.setIfInBounds k (.int .i64 x), rfl, hB, zW hg _, h1, h2, by simpa using h3, ?_⟩
  rw [Array.toList_setIfInBounds, List.map_set, ← h4, List.take_set]
structure RxW (w : World) (B : Nat) (nm : ByteArray) (lv : Value) (v : Value) (xs : List Int) (W : World) : Prop where
 bb : Below B w W
 hc : W.heap[w.heap.size]? = some (.cells #[.string nm, lv] 32 (0, 0))
 ow : W.ownsRow B 3 1 v xs.length (xs.map (Value.int .i64))
theorem RxW.stay {w : World} {B : Nat} {nm : ByteArray} {lv v : Value} {xs : List Int} {W W' : World} (h : RxW w B nm lv v xs W) (hB : B ≤ w.heap.size) (hb : Below W.heap.size W W') : RxW w B nm lv v xs W' :=
 ⟨h.bb.trans (hb.mono (Nat.le_trans hB h.bb.size)), zf hb h.hc, zZ h.ow (zN.ofBelow (bs := fun _ => False) hb) fun _ _ h => h⟩
theorem RxW.set {w : World} {B : Nat} {nm : ByteArray} {lv : Value} {g n cap : Nat} {xs : List Int} {W : World} (h : RxW w B nm lv (.slice (some ⟨g, 0, none⟩) n cap) xs W) (hn : xs.length = n) (k : Nat) (hk : k < n) (x : Int) : RxW w B nm lv (.slice (some ⟨g, 0, none⟩) n cap) (xs.set k x) (W.setCell ⟨g, k, none⟩ (.int .i64 x)) := by
 subst hn
 obtain ⟨hB, cs, hg⟩ := z7 h.ow g rfl
 have hne : w.heap.size ≠ g := fun e => by rw [← e, h.hc] at hg; simp at hg
 refine ⟨h.bb.trans ((zN.setCell (zN.refl (fun y => y = g) W) _ fun _ => rfl).toBelow ?_ fun k hk => by rw [hk]; exact hB), (jU hne _).trans h.hc, ?_⟩
 ·exact Nat.le_trans hB (Nat.le_of_lt (Array.getElem?_eq_some_iff.1 hg).1)
 ·rw [List.length_set]; exact own_setI h.ow k hk x
set_option maxRecDepth 100000 in
set_option maxHeartbeats 8000000 in
theorem rrelaxed_any (nm : ByteArray) (ls : List zu) (hls : yV ls) (hLB : LabsOk ls) (hlab : ∀ l ∈ ls, zK l.ins.op = 2 → (yI ls l.dest).isSome = true) (ao : Option Addr) (cap : Nat) (v : Value) (s0 : List Int) (hsl : s0.length = ls.length) (hok : SzOk s0) (w0 w : World) (B : Nat) (h0 : Below w0.heap.size w0 w) (hB0 : w0.heap.size ≤ B) (hBw : B ≤ w.heap.size)
  (hL : yJ w0 (.slice ao ls.length cap) ls) (hown : w.ownsRow B 3 1 v s0.length (s0.map (Value.int .i64))) :
  Calls Try.prog 65 #[.agg #[.string nm, .slice ao ls.length cap], v] w fun e w' => e = .returned v ∧ w'.ownsRow B 3 1 v ls.length ((finS ls s0).map (Value.int .i64)) ∧ Below B w w' := by
 have hlen := hls.2
 have h2 := heap_alloc_new w (.cells #[.string nm, .slice ao ls.length cap] 32)
 have hBa : Below w.heap.size w (w.alloc (.cells #[.string nm, .slice ao ls.length cap] 32)) := (Below.refl _ _).alloc (zn _) _
 obtain ⟨wa, hwa⟩ : ∃ wa : World, w.alloc (.cells #[.string nm, .slice ao ls.length cap] 32) = wa := ⟨_, rfl⟩
 rw [hwa] at h2 hBa
 have HR := zh (show RxW w B nm (.slice ao ls.length cap) v s0 wa from ⟨hBa.mono hBw, h2, zZ hown (zN.ofBelow (bs := fun _ => False) hBa) fun _ _ h => h⟩)
 obtain ⟨av, cpv, rfl⟩ : ∃ av cpv, v = .slice av ls.length cpv := by
  rcases hown.2 with ⟨rfl, h⟩ | ⟨g, cap', cur, rfl, -⟩
  ·exact ⟨none, 0, by rw [← hsl, h]⟩
  ·exact ⟨_, cap', by rw [hsl]⟩
 have HL := zh hL
 have HLS := zh hls
 have HLA := zh hlab
 have HLO := zh hLB
 have HSL := zh hsl
 have HSO := zh hok
 have H0 := zh h0
 have HB0 := zh hB0
 have HBW := zh hBw
 clear h2 hBa hown hL hls hlab hLB hsl hok h0 hB0 hBw
 go_enter Try.func65, Try.ntmps65
 go_wp2_with fail
 try rw [hwa]
 clear hwa
 go_loopg [] (left3 s0) (fun mu wr => ∃ sz : List Int, left3 sz ≤ mu ∧ Hid (∃ i, iterS ls i s0 = sz) ∧ Hid (sz.length = ls.length) ∧ Hid (SzOk sz) ∧ Hid (RxW w B nm (.slice ao ls.length cap) (.slice av ls.length cpv) sz wr))
 case atStart => exact ⟨s0, zn _, zh ⟨0, rfl⟩, HSL, HSO, HR⟩
 case round =>
  obtain ⟨sz, hmu, HIT, HZL, HZO, HX⟩ := hrel
  clear HR
  obtain ⟨wp, rfl⟩ : ∃ wp : World, wp = wr := ⟨_, rfl⟩
  have HST := zh (rstarts_any (.slice av ls.length cpv) sz (by rw [HZL.out]; exact hlen) HZO.out wp (own_ints HX.out.ow))
  go_upto_region 2 with (go_at_call 64; refine (HST.out).mono ?_; rintro e w1 ⟨va, rfl, ho1, hb1⟩)
  have HX1 := zh (HX.out.stay HBW.out hb1)
  have hol : (xi sz).length = ls.length + 1 := by rw [jm, HZL.out]
  rw [hol] at ho1
  obtain ⟨ga, cpa, rfl, hga, cua, hgu, hcu⟩ := own_int_all ho1 (by omega)
  have HGA := zh hgu
  have HCU := zh (show ∀ k, k ≤ ls.length → cua[k]? = some (.int .i64 (yM sz k)) from fun k hk => hcu k _ (jH sz (by rw [HZL.out]; exact hk)))
  have HGN := zh (show wp.heap.size ≤ ga from hga)
  have HVN := zh (show ∀ q, (Value.slice av ls.length cpv).ownBlock = some q → q < wp.heap.size from fun q hq => (Array.getElem?_eq_some_iff.1 (z7 HX.out.ow q hq).2.choose_spec).1)
  clear ho1 hga hgu hcu hb1 HST HX hol
  go_wp2_with fail
  go_loopw [7, 6] (fun i d wr => ∃ k : Nat, k ≤ ls.length ∧ i = .int .i64 k ∧ d = .bool (!(jO ls sz k)) ∧ Hid (RxW w B nm (.slice ao ls.length cap) (.slice av ls.length cpv) (rxI ls sz k) wr) ∧ Hid (wr.heap[ga]? = some (.cells cua 3 (0, 0)))) (fun i _ _ => ls.length - (intOf i).toNat)
  case atStart => exact ⟨0, Nat.zero_le _, rfl, by rw [sameTo_zero]; rfl, zh (by rw [rxI_zero]; exact HX1.out), HGA⟩
  case round =>
   obtain ⟨k, hk, rfl, rfl, HX, HGA⟩ := hrel
   clear HX1
   by_cases hlt : k < ls.length
   ·as_aux_lemma =>
    obtain ⟨l, hl⟩ : ∃ l, ls[k]? = some l := ⟨_, List.getElem?_eq_getElem hlt⟩
    have HLk := zh hl
    have HMEM := zh (List.mem_of_getElem? hl)
    have HOK := zh (HLS.out.1 l (List.mem_of_getElem? hl))
    obtain ⟨q, off, c, T', fr', tv, rfl, hq, hx, hti⟩ := (HL.out.below (H0.out.trans (HX.out.bb.mono HB0.out))).at hl
    have HQ := zh hq
    have HDS := zh (ext_get hx (j := 8) (x := .int .i64 l.dest) rfl)
    have cop := line_cell hq hx 1 (x := .int .i64 l.ins.op) rfl
    clear hq hx hl hti
    have HKZ := zh (show k < sz.length by rw [HZL.out]; exact hlt)
    have HLE := zh (show ls[k]'hlt = l from (List.getElem?_eq_some_iff.1 HLk.out).2)
    have hrl := rxI_len (ls := ls) HZL.out (k := k) (by rw [HZL.out]; exact hk)
    obtain ⟨y, hy⟩ : ∃ y : Int, sz[k]'HKZ.out = y := ⟨_, rfl⟩
    have HY := zh hy
    have HYZ := zh (show (rxI ls sz k)[k]? = some y by rw [rxI_at HZL.out HKZ.out, hy])
    have hyb : 0 ≤ y ∧ y ≤ 8 := by rw [← hy]; exact HZO.out _ (List.getElem_mem _)
    obtain ⟨hyb1, hyb2⟩ := hyb
    have hov := HX.out.ow
    rw [hrl, HZL.out] at hov
    obtain ⟨g, cpg, hgv, hgB, cur, hgh, hgc⟩ := own_int_all hov (by omega)
    simp only [Value.slice.injEq] at hgv
    obtain ⟨rfl, -, rfl⟩ := hgv
    have HGV := zh hgh
    have HGC := zh (hgc k y HYZ.out)
    have hgg : g < wp.heap.size := HVN.out g rfl
    have HNE := zh (show ga ≠ g by have := HGN.out; omega)
    clear hy hov hgB hgh hgc hgg hrl
    have c1 := cell_of_row wr w.heap.size 1 _ _ _ HX.out.hc
    go_upto_region 6 with fail
    rcases xL l.ins.op with hf | hf | hf | hf | hf
    ·as_aux_lemma =>
     have HF := zh (show ∀ V, Calls Try.prog 18 #[.int .i64 l.ins.op] V fun e w' => e = .returned (.int .i64 0) ∧ Below V.heap.size V w' from fun V => by have := y2 l.ins.op V; rw [hf] at this; exact this)
     have HFE := zh hf
     clear hf
     go_wp2_with (go_at_call 18; refine (HF.out _).mono ?_; rintro e W2 ⟨rfl, hb2⟩; have HX2 := zh (HX.out.stay HBW.out hb2); have HA2 := zh (zf hb2 HGA.out); have HQ2 := zh (zf hb2 HQ.out); have HG2 := zh (zf hb2 HGV.out); have hq2 : W2.cell? ⟨g, k, none⟩ = some (.int .i64 y) := (by rw [Lib.cell_of_heap HG2.out]; exact HGC.out); clear hb2)
     go_roundw
     case rel =>
      have hp : yx ls sz (ls[k]'hlt) (sz[k]'HKZ.out) k = sz[k]'HKZ.out := by rw [HLE.out]; unfold yx; rw [if_pos (.inl (by rw [HFE.out]; decide))]
      exact ⟨k + 1, by omega, by go_num, by rw [xo HZL.out HKZ.out hp], zh (by have h9 := HX2.out; rw [jc HZL.out HKZ.out hp] at h9; exact h9), HA2⟩
     case measure => simp [intOf]; omega
    ·as_aux_lemma =>
     have HF := zh (show ∀ V, Calls Try.prog 18 #[.int .i64 l.ins.op] V fun e w' => e = .returned (.int .i64 1) ∧ Below V.heap.size V w' from fun V => by have := y2 l.ins.op V; rw [hf] at this; exact this)
     have HFE := zh hf
     clear hf
     go_wp2_with (go_at_call 18; refine (HF.out _).mono ?_; rintro e W2 ⟨rfl, hb2⟩; have HX2 := zh (HX.out.stay HBW.out hb2); have HA2 := zh (zf hb2 HGA.out); have HQ2 := zh (zf hb2 HQ.out); have HG2 := zh (zf hb2 HGV.out); have hq2 : W2.cell? ⟨g, k, none⟩ = some (.int .i64 y) := (by rw [Lib.cell_of_heap HG2.out]; exact HGC.out); clear hb2)
     go_roundw
     case rel =>
      have hp : yx ls sz (ls[k]'hlt) (sz[k]'HKZ.out) k = sz[k]'HKZ.out := by rw [HLE.out]; unfold yx; rw [if_pos (.inl (by rw [HFE.out]; decide))]
      exact ⟨k + 1, by omega, by go_num, by rw [xo HZL.out HKZ.out hp], zh (by have h9 := HX2.out; rw [jc HZL.out HKZ.out hp] at h9; exact h9), HA2⟩
     case measure => simp [intOf]; omega
    ·as_aux_lemma =>
     have HF := zh (show ∀ V, Calls Try.prog 18 #[.int .i64 l.ins.op] V fun e w' => e = .returned (.int .i64 2) ∧ Below V.heap.size V w' from fun V => by have := y2 l.ins.op V; rw [hf] at this; exact this)
     have HFE := zh hf
     clear hf
     by_cases hy3 : y = 3
     ·have HY3 := zh hy3
      go_wp2_with (go_at_call 18; refine (HF.out _).mono ?_; rintro e W2 ⟨rfl, hb2⟩; have HX2 := zh (HX.out.stay HBW.out hb2); have HA2 := zh (zf hb2 HGA.out); have HQ2 := zh (zf hb2 HQ.out); have HG2 := zh (zf hb2 HGV.out); have hq2 : W2.cell? ⟨g, k, none⟩ = some (.int .i64 y) := (by rw [Lib.cell_of_heap HG2.out]; exact HGC.out); clear hb2)
      go_roundw
      case rel =>
       have hp : yx ls sz (ls[k]'hlt) (sz[k]'HKZ.out) k = sz[k]'HKZ.out := by rw [HLE.out]; unfold yx; rw [if_pos (.inr (by rw [HY.out]; exact HY3.out))]
       exact ⟨k + 1, by omega, by go_num, by rw [xo HZL.out HKZ.out hp], zh (by have h9 := HX2.out; rw [jc HZL.out HKZ.out hp] at h9; exact h9), HA2⟩
      case measure => simp [intOf]; omega
     ·have hy3' : (y == 3) = false := by simp [hy3]
      go_upto_region 7 with (go_at_call 18; refine (HF.out _).mono ?_; rintro e W2 ⟨rfl, hb2⟩; have HX2 := zh (HX.out.stay HBW.out hb2); have HA2 := zh (zf hb2 HGA.out); have HQ2 := zh (zf hb2 HQ.out); have HG2 := zh (zf hb2 HGV.out); have hq2 : W2.cell? ⟨g, k, none⟩ = some (.int .i64 y) := (by rw [Lib.cell_of_heap HG2.out]; exact HGC.out); clear hb2)
      have HND := zh (show yI ls l.dest ≠ none by intro e; have := HLA.out l HMEM.out HFE.out; rw [e] at this; cases this)
      obtain ⟨jd, hjd⟩ := Option.ne_none_iff_exists'.1 HND.out
      have hjl : jd < ls.length := (labF_lt hjd).1
      have HRL := zh (show xg ls l.dest = (jd : Int) by rw [rlab_of_labs HLO.out, hjd])
      have HLB := zh (fun W (hW : Below w0.heap.size w0 W) => by have := rlabel_any nm ls hlen (some ⟨q, off, none⟩) cap l.dest W (HL.out.below hW); rw [HRL.out] at this; exact this)
      have HLN := zh (show labN ls l.dest = jd by unfold labN; rw [hjd]; rfl)
      have HK1 := zh (show IntKind.i64.wrap ((k : Int) + 1) = (k : Int) + 1 from IntWalk.i64_in _ (by omega))
      have hj2 : (jd : Int) < (ls.length : Int) + 1 := by omega
      have hk2 : (k : Int) < (ls.length : Int) + 1 := by omega
      have hk3 : (k : Int) + 1 < (ls.length : Int) + 1 := by omega
      have HV1 := zh (HCU.out jd (by omega))
      have HV2 := zh (HCU.out (k + 1) (by omega))
      have HD := zh (show IntKind.i64.wrap (yM sz jd - yM sz (k + 1)) = yM sz jd - yM sz (k + 1) from IntWalk.i64_in _ (by have h1 := off_bd HZO.out jd (by rw [HZL.out]; omega); have h2 := off_bd HZO.out (k + 1) (by have := HKZ.out; omega); omega))
      have HZW := zh (H0.out.trans (HX2.out.bb.mono HB0.out))
      clear hjd hq2 c1 cop
      have zz0 : w.heap.size < W2.heap.size := (Array.getElem?_eq_some_iff.1 HX2.out.hc).1
      have zz1 : ga < W2.heap.size := (Array.getElem?_eq_some_iff.1 HA2.out).1
      have zz2 : q < W2.heap.size := (Array.getElem?_eq_some_iff.1 HQ2.out).1
      have zz3 : g < W2.heap.size := (Array.getElem?_eq_some_iff.1 HG2.out).1
      refine zV [] 18 (z5 [isV (.slice (some ⟨ga, 0, none⟩) (ls.length + 1) cpa), isV (.agg #[.string nm, .slice (some ⟨q, off, none⟩) ls.length cap]), isV (.pointer (some ⟨w.heap.size, 1, none⟩)), isV (.slice (some ⟨q, off, none⟩) ls.length cap), isV (.int .i64 k), isV ((.pointer (some ⟨q, off + k * 12, none⟩))), isV (.pointer (some ⟨q, off + k * 12 + 8, none⟩)), isV ((.int .i64 l.dest)), isV (.int .i64 jd), isV ((.pointer (some ⟨ga, jd, none⟩))), isV ((.int .i64 (yM sz jd))), isV (.slice (some ⟨ga, 0, none⟩) (ls.length + 1) cpa), isV (.int .i64 k), isV (.int .i64 (k + 1)), isV ((.pointer (some ⟨ga, k + 1, none⟩))), isV ((.int .i64 (yM sz (k + 1)))), isV (.int .i64 (yM sz jd - yM sz (k + 1))), isV (.int .i64 (yM sz jd - yM sz (k + 1)))]) (nth [[0], [1], [2], [3], [4], [5], [6], [7], [8], [9], [10], [11], [12], [13], [14], [15], [16], [17]]) (nth [[], [], [], [], [], [], [], [], [], [], [], [], [], [], [], [], [], []]) (nth [[], [], [], [2], [], [3, 4], [5], [6], [1, 7], [0, 8], [9], [], [], [12], [11, 13], [14], [10, 15], [16]]) [17] (yU W2.heap.size W2 W2.heap.size [(w.heap.size, .cells #[.string nm, .slice (some ⟨q, off, none⟩) ls.length cap] 32 (0, 0)), (ga, .cells cua 3 (0, 0)), (q, .cells c T' fr')]) (by kernel_rfl) (by kernel_rfl) (⟨(Below.refl _ _).drew, zn _, zn _, by intro x hx; simp at hx; rcases hx with rfl | rfl | rfl <;> assumption, HX2.out.hc, HA2.out, HQ2.out, trivial⟩) (yU.grow) (zG ((za (zc _)  (za (zc _)  (za (zc _)  (za (zc _)  (za (zc _)  (za (zc _)  (za (zc _)  (za (zc _)  (za (zc _)  (za (zc _)  (za (zc _)  (za (zc _)  (za (zc _)  (za (zc _)  (za (zc _)  (za (zc _)  (za (zc _)  (za (zc _) zy)))))))))))))))))))) (fun f F hF => ?_)
      simp only [List.take_succ_cons, List.take_zero, yb, Act.put, zD, zE, zF, Nat.reduceAdd] at hF
      subst hF
      refine ⟨zd ?_ (zd ?_ (zd ?_ (zd ?_ (zd ?_ (zd ?_ (zd ?_ (zd ?_ (zd ?_ (zd ?_ (zd ?_ (zd ?_ (zd ?_ (zd ?_ (zd ?_ (zd ?_ (zd ?_ (zd ?_ (yd)))))))))))))))))), ?_⟩
      ·intro w5 hS hF hD K hK
       rw [if_pos (by rfl)]
       exact svV hK rfl rfl rfl rfl (by first | rfl | kernel_rfl)  (by show _ = _; kernel_rfl)
      ·intro w5 hS hF hD K hK
       rw [if_pos (by rfl)]
       exact svR hK rfl rfl rfl rfl (by first | rfl | kernel_rfl)  rfl rfl (hS.2.2.2.2.1) (by kernel_rfl)
      ·intro w5 hS hF hD K hK
       rw [if_pos (by rfl)]
       exact svV hK rfl rfl rfl rfl (by first | rfl | kernel_rfl)  (by show _ = _; kernel_rfl)
      ·intro w5 hS hF hD K hK
       obtain ⟨(e2 : f 2 = _), -⟩ := hF
       try simp only [e2]
       rw [if_pos (by rfl)]
       exact svC hK rfl rfl rfl rfl (by first | rfl | kernel_rfl)  rfl rfl (hS.2.2.2.2.1) (by kernel_rfl) (fun _ => by kernel_rfl)
      ·intro w5 hS hF hD K hK
       rw [if_pos (by rfl)]
       exact svV hK rfl rfl rfl rfl (by first | rfl | kernel_rfl)  (by show _ = _; kernel_rfl)
      ·intro w5 hS hF hD K hK
       obtain ⟨(e3 : f 3 = _), (e4 : f 4 = _), -⟩ := hF
       try simp only [e3, e4]
       rw [if_pos (by rfl)]
       go_simp
       refine hK.out _ _ rfl (zq rfl rfl rfl ?_)
       first | rfl | kernel_rfl
      ·intro w5 hS hF hD K hK
       obtain ⟨(e5 : f 5 = _), -⟩ := hF
       try simp only [e5]
       rw [if_pos (by rfl)]
       exact svV hK rfl rfl rfl rfl (by first | rfl | kernel_rfl)  (by show _ = _; kernel_rfl)
      ·intro w5 hS hF hD K hK
       obtain ⟨(e6 : f 6 = _), -⟩ := hF
       try simp only [e6]
       rw [if_pos (by rfl)]
       exact svC hK rfl rfl rfl rfl (by first | rfl | kernel_rfl)  rfl rfl (hS.2.2.2.2.2.2.1) (HDS.out) (fun _ => by kernel_rfl)
      ·intro w5 hS hF hD K hK
       obtain ⟨(e1 : f 1 = _), (e7 : f 7 = _), -⟩ := hF
       try simp only [e1, e7]
       rw [if_pos (by rfl)]
       go_simp
       go_at_call 71; refine (HLB.out _ (HZW.out.trans (hS.1.mono HZW.out.size))).mono ?_; rintro e w6 ⟨rfl, hbelow⟩; go_simp
       refine hK.out _ _ rfl (zP rfl rfl rfl hbelow ?_)
       first | rfl | kernel_rfl
      ·intro w5 hS hF hD K hK
       obtain ⟨(e0 : f 0 = _), (e8 : f 8 = _), -⟩ := hF
       try simp only [e0, e8]
       rw [if_pos (by rfl)]
       go_simp
       refine hK.out _ _ rfl (zq rfl rfl rfl ?_)
       first | rfl | kernel_rfl
      ·intro w5 hS hF hD K hK
       obtain ⟨(e9 : f 9 = _), -⟩ := hF
       try simp only [e9]
       rw [if_pos (by rfl)]
       exact svC hK rfl rfl rfl rfl (by first | rfl | kernel_rfl)  rfl rfl (hS.2.2.2.2.2.1) (HV1.out) (fun _ => by kernel_rfl)
      ·intro w5 hS hF hD K hK
       rw [if_pos (by rfl)]
       exact svV hK rfl rfl rfl rfl (by first | rfl | kernel_rfl)  (by show _ = _; kernel_rfl)
      ·intro w5 hS hF hD K hK
       rw [if_pos (by rfl)]
       exact svV hK rfl rfl rfl rfl (by first | rfl | kernel_rfl)  (by show _ = _; kernel_rfl)
      ·intro w5 hS hF hD K hK
       obtain ⟨(e12 : f 12 = _), -⟩ := hF
       try simp only [e12]
       rw [if_pos (by rfl)]
       exact zx (v := .int .i64 (IntKind.i64.wrap ((k : Int) + 1))) (by (show _ = _); kernel_rfl) (hK.out _ _ rfl (zq rfl rfl rfl (congrArg (Value.int .i64) HK1.out)))
      ·intro w5 hS hF hD K hK
       obtain ⟨(e11 : f 11 = _), (e13 : f 13 = _), -⟩ := hF
       try simp only [e11, e13]
       rw [if_pos (by rfl)]
       go_simp
       refine hK.out _ _ rfl (zq rfl rfl rfl ?_)
       first | rfl | kernel_rfl
      ·intro w5 hS hF hD K hK
       obtain ⟨(e14 : f 14 = _), -⟩ := hF
       try simp only [e14]
       rw [if_pos (by rfl)]
       exact svC hK rfl rfl rfl rfl (by first | rfl | kernel_rfl)  rfl rfl (hS.2.2.2.2.2.1) (HV2.out) (fun _ => by kernel_rfl)
      ·intro w5 hS hF hD K hK
       obtain ⟨(e10 : f 10 = _), (e15 : f 15 = _), -⟩ := hF
       try simp only [e10, e15]
       rw [if_pos (by rfl)]
       exact zx (v := .int .i64 (IntKind.i64.wrap (yM sz jd - yM sz (k + 1)))) (by (show _ = _); kernel_rfl) (hK.out _ _ rfl (zq rfl rfl rfl (congrArg (Value.int .i64) HD.out)))
      ·intro w5 hS hF hD K hK
       obtain ⟨(e16 : f 16 = _), -⟩ := hF
       try simp only [e16]
       rw [if_pos (by rfl)]
       exact svV hK rfl rfl rfl rfl (by first | rfl | kernel_rfl)  (by show _ = _; kernel_rfl)
      intro w5 hS hF
      obtain ⟨(e17 : f 17 = _), -⟩ := hF
      try simp only [e17]
      refine yN (by kernel_rfl) ?_
      have HX5 := zh (HX2.out.stay HBW.out hS.1)
      have HA5 := zh (zf hS.1 HA2.out)
      have HG5 := zh (zf hS.1 HG2.out)
      clear hS e17 zz0 zz1 zz2 zz3 hk2 hk3
      obtain ⟨d, hd⟩ : ∃ d : Int, yM sz jd - yM sz (k + 1) = d := ⟨_, rfl⟩
      rw [hd]
      have HDD := zh hd
      clear hd hj2 hjl
      have hq5 : w5.cell? ⟨g, k, none⟩ = some (.int .i64 y) := by rw [Lib.cell_of_heap HG5.out]; exact HGC.out
      have hf5 : w5.frozen? ⟨g, k, none⟩ = false := frozen_of_row w5 g k _ _ HG5.out
      have HN3 := zh hy3
      clear hy3
      rcases (show d < -128 ∨ 127 < d ∨ (-128 ≤ d ∧ d ≤ 127) by omega) with h | h | ⟨h, h'⟩
      ·have HFAR := zh (show jP ls sz l k = true by unfold jP; rw [HLN.out, HDD.out]; simp; omega)
       go_wp2_with fail
       go_roundw
       case rel =>
        have hp : yx ls sz (ls[k]'hlt) (sz[k]'HKZ.out) k = 3 := by rw [HLE.out]; unfold yx; rw [if_neg (by rw [HFE.out, HY.out]; have := HN3.out; simp [this]), if_pos HFAR.out]
        refine ⟨k + 1, by omega, by go_num, by rw [sameTo_no HZL.out HKZ.out (by rw [hp, HY.out]; exact fun e => HN3.out e.symm)]; rfl, zh ?_, zh ((jU HNE.out _).trans HA5.out)⟩
        have h9 := HX5.out.set (by rw [rxI_len HZL.out (by rw [HZL.out]; exact hk), HZL.out]) k hlt 3
        rw [rxI_set HZL.out HKZ.out hp] at h9
        exact h9
       case measure => simp [intOf]; omega
      ·have HFAR := zh (show jP ls sz l k = true by unfold jP; rw [HLN.out, HDD.out]; simp; omega)
       go_wp2_with fail
       go_roundw
       case rel =>
        have hp : yx ls sz (ls[k]'hlt) (sz[k]'HKZ.out) k = 3 := by rw [HLE.out]; unfold yx; rw [if_neg (by rw [HFE.out, HY.out]; have := HN3.out; simp [this]), if_pos HFAR.out]
        refine ⟨k + 1, by omega, by go_num, by rw [sameTo_no HZL.out HKZ.out (by rw [hp, HY.out]; exact fun e => HN3.out e.symm)]; rfl, zh ?_, zh ((jU HNE.out _).trans HA5.out)⟩
        have h9 := HX5.out.set (by rw [rxI_len HZL.out (by rw [HZL.out]; exact hk), HZL.out]) k hlt 3
        rw [rxI_set HZL.out HKZ.out hp] at h9
        exact h9
       case measure => simp [intOf]; omega
      ·have HFAR := zh (show jP ls sz l k = false by unfold jP; rw [HLN.out, HDD.out]; simp; omega)
       go_wp2_with fail
       go_roundw
       case rel =>
        have hp : yx ls sz (ls[k]'hlt) (sz[k]'HKZ.out) k = sz[k]'HKZ.out := by rw [HLE.out]; unfold yx; rw [if_neg (by rw [HFE.out, HY.out]; have := HN3.out; simp [this]), if_neg (by rw [HFAR.out]; decide)]
        exact ⟨k + 1, by omega, by go_num, by rw [xo HZL.out HKZ.out hp], zh (by have h9 := HX5.out; rw [jc HZL.out HKZ.out hp] at h9; exact h9), HA5⟩
       case measure => simp [intOf]; omega
    ·as_aux_lemma =>
     have HF := zh (show ∀ V, Calls Try.prog 18 #[.int .i64 l.ins.op] V fun e w' => e = .returned (.int .i64 3) ∧ Below V.heap.size V w' from fun V => by have := y2 l.ins.op V; rw [hf] at this; exact this)
     have HFE := zh hf
     clear hf
     go_wp2_with (go_at_call 18; refine (HF.out _).mono ?_; rintro e W2 ⟨rfl, hb2⟩; have HX2 := zh (HX.out.stay HBW.out hb2); have HA2 := zh (zf hb2 HGA.out); have HQ2 := zh (zf hb2 HQ.out); have HG2 := zh (zf hb2 HGV.out); have hq2 : W2.cell? ⟨g, k, none⟩ = some (.int .i64 y) := (by rw [Lib.cell_of_heap HG2.out]; exact HGC.out); clear hb2)
     go_roundw
     case rel =>
      have hp : yx ls sz (ls[k]'hlt) (sz[k]'HKZ.out) k = sz[k]'HKZ.out := by rw [HLE.out]; unfold yx; rw [if_pos (.inl (by rw [HFE.out]; decide))]
      exact ⟨k + 1, by omega, by go_num, by rw [xo HZL.out HKZ.out hp], zh (by have h9 := HX2.out; rw [jc HZL.out HKZ.out hp] at h9; exact h9), HA2⟩
     case measure => simp [intOf]; omega
    ·as_aux_lemma =>
     have HF := zh (show ∀ V, Calls Try.prog 18 #[.int .i64 l.ins.op] V fun e w' => e = .returned (.int .i64 4) ∧ Below V.heap.size V w' from fun V => by have := y2 l.ins.op V; rw [hf] at this; exact this)
     have HFE := zh hf
     clear hf
     go_wp2_with (go_at_call 18; refine (HF.out _).mono ?_; rintro e W2 ⟨rfl, hb2⟩; have HX2 := zh (HX.out.stay HBW.out hb2); have HA2 := zh (zf hb2 HGA.out); have HQ2 := zh (zf hb2 HQ.out); have HG2 := zh (zf hb2 HGV.out); have hq2 : W2.cell? ⟨g, k, none⟩ = some (.int .i64 y) := (by rw [Lib.cell_of_heap HG2.out]; exact HGC.out); clear hb2)
     go_roundw
     case rel =>
      have hp : yx ls sz (ls[k]'hlt) (sz[k]'HKZ.out) k = sz[k]'HKZ.out := by rw [HLE.out]; unfold yx; rw [if_pos (.inl (by rw [HFE.out]; decide))]
      exact ⟨k + 1, by omega, by go_num, by rw [xo HZL.out HKZ.out hp], zh (by have h9 := HX2.out; rw [jc HZL.out HKZ.out hp] at h9; exact h9), HA2⟩
     case measure => simp [intOf]; omega
   ·as_aux_lemma =>
    have hke : k = ls.length := by omega
    subst hke
    clear hlt hk
    have hst := sameTo_all (ls := ls) HZL.out
    rw [HZL.out] at hst
    have hO := HX.out
    have e1 : rxI ls sz ls.length = xr ls sz := by rw [← HZL.out]; exact rxI_all HZL.out
    rw [e1] at hO
    have HO4 := zh hO
    clear e1 hO HX
    by_cases hp : xr ls sz = sz
    ·have hst1 : jO ls sz ls.length = true := by rw [hst]; simp [hp]
     have HP := zh hp
     rw [hst1]
     clear hst hp hst1
     go_wp2_with fail
     go_ret
     obtain ⟨i, hi⟩ := HIT.out
     have hfin : finS ls s0 = sz := fin_eq ⟨HP.out, i, hi⟩
     rw [hfin]
     refine ⟨rfl, ?_, HO4.out.bb⟩
     have h9 := HO4.out.ow
     rw [HP.out, HZL.out] at h9
     exact h9
    ·have hst1 : jO ls sz ls.length = false := by rw [hst]; simp [hp]
     have HP := zh hp
     rw [hst1]
     clear hst hp hst1
     go_wp2_with fail
     go_roundg (left3 (xr ls sz))
     case measure => have := pass_left HZL.out HP.out; omega
     case rel =>
      obtain ⟨i, hi⟩ := HIT.out
      exact ⟨xr ls sz, zn _, zh ⟨i + 1, by rw [iter_snoc, hi]⟩, zh (xa HZL.out), zh (pass_ok HZL.out HZO.out), zh HO4.out⟩
end Go.Proofs.Ythebmoggbgldmaa
