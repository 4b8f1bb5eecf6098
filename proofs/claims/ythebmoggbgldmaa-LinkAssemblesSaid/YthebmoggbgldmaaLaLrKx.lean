/- The reference of chapter 19: Right, Assemble. The conditions: the numbers lie in their types' ranges. -/
import Derived.Test.YthebmoggbgldmaaLaLrLx
import Derived.Test.YthebmoggbgldmaaLaLrJ
set_option linter.all false
namespace Go.Proofs.Ythebmoggbgldmaa
open Go Go.RowKit Go.Maps
def SzQ (B : Nat) (xs : List Int) (v : Value) (W : World) : Prop := W.ownsRow B 3 1 v xs.length (xs.map (Value.int .i64))
set_option maxRecDepth 100000 in
set_option maxHeartbeats 8000000 in
theorem rcodeb_any (E : zL) (hE : E.Ok) (hc : xP E.ls E.funcs.length E.data.length) (hfn : ∀ p ∈ E.funcs, yp p = true) (nm : ByteArray) (ao fa da : Option Addr) (cap fcap dcap : Nat) (w : World) (hL : yJ w (.slice ao E.ls.length cap) E.ls) (hf : jj w (.slice fa E.funcs.length fcap) E.funcs) (hd : jK w (.slice da E.data.length dcap) E.data) :
  Calls Try.prog 33 #[.agg #[.string nm, .slice ao E.ls.length cap], .agg #[.int .i64 E.pl.bank, .int .u16 E.pl.addr], .slice fa E.funcs.length fcap, .slice da E.data.length dcap] w (CodePost E w) := by
 have HE := zh hE
 have HC := zh hc
 have HFN := zh hfn
 have hlen := hE.len
 obtain ⟨h2, h3⟩ := yy w (.cells #[.string nm, .slice ao E.ls.length cap] 32) (.cells #[.int .i64 E.pl.bank, .int .u16 E.pl.addr] 37)
 have hB : Below w.heap.size w ((w.alloc (.cells #[.string nm, .slice ao E.ls.length cap] 32)).alloc (.cells #[.int .i64 E.pl.bank, .int .u16 E.pl.addr] 37)) := ((Below.refl _ _).alloc (zn _) _).alloc (by simp) _
 obtain ⟨wa, hwa⟩ : ∃ wa : World, (w.alloc (.cells #[.string nm, .slice ao E.ls.length cap] 32)).alloc (.cells #[.int .i64 E.pl.bank, .int .u16 E.pl.addr] 37) = wa := ⟨_, rfl⟩
 rw [hwa] at h2 h3 hB
 have H2 := zh h2
 have H3 := zh h3
 have HB := zh hB
 have HL := zh hL
 have HFV := zh hf
 have HDV := zh hd
 have HSZ := zh (fun W (hW : Below wa.heap.size wa W) => rsizes_any nm E hE ao fa cap fcap W (hL.below (hB.trans (hW.mono hB.size))) (hf.below (hB.trans (hW.mono hB.size))))
 have HRX := zh (fun W v (hW : Below wa.heap.size wa W) (ho : W.ownsRow wa.heap.size 3 1 v E.szs.length (E.szs.map (Value.int .i64))) => rrelaxed_any nm E.ls hE.ls hc.1 (fun l hl h2 => lineOk_jump (hc.2 l hl) (.inl h2)) ao cap v E.szs (ja E) (sz0_ok (callSz_ok E) E.ls) w W wa.heap.size (hB.trans (hW.mono hB.size)) hB.size hW.size hL ho)
 have HST := zh (fun W v (ho : W.ownsRow wa.heap.size 3 1 v E.sz.length (E.sz.map (Value.int .i64))) => rstarts_any v E.sz (by rw [hE.zl]; exact hlen) hE.zo W (own_ints ho))
 have zz0 : w.heap.size < wa.heap.size := (Array.getElem?_eq_some_iff.1 h2).1
 have zz1 : w.heap.size + 1 < wa.heap.size := (Array.getElem?_eq_some_iff.1 h3).1
 clear hE hc hfn hL hf hd h2 h3 hB
 go_enter Try.func33, Try.ntmps33
 go_upto_region 1 with fail
 try rw [hwa]
 clear hwa
 refine ye [] 9 (z5 [isV (.agg #[.string nm, .slice ao E.ls.length cap]), isV (.agg #[.int .i64 E.pl.bank, .int .u16 E.pl.addr]), isV (.agg #[.string nm, .slice ao E.ls.length cap]), isV (.agg #[.string nm, .slice ao E.ls.length cap]), isV (.agg #[.int .i64 E.pl.bank, .int .u16 E.pl.addr]), isV (.slice fa E.funcs.length fcap), isVT ((fun _ => False)) (SzQ wa.heap.size E.szs), isVT ((fun _ => False)) (SzQ wa.heap.size E.sz), isVT ((fun _ => False)) (SzQ wa.heap.size (xi E.sz))]) (nth [[0], [1], [2], [3], [4], [5], [6], [7], [8]]) (nth [[], [], [], [], [], [], [], [6, 8], []]) (nth [[], [], [], [], [], [], [3, 4, 5], [2, 6], [7]]) [0, 1, 8] (fun w5 => Below wa.heap.size wa w5) (by kernel_rfl) (by kernel_rfl) ((Below.refl _ _).drew) (fun w w' h hb => h.trans (hb.mono h.size)) (zG ((za (zc _)  (za (zc _)  (za (zc _)  (za (zc _)  (za (zc _)  (za (zc _)  (za (yu _ _)  (za (yu _ _)  (za (yu _ _) zy))))))))))) (fun f F hF => ?_)
 simp only [List.take_succ_cons, List.take_zero, yb, Act.put, zD, zE, zF, Nat.reduceAdd] at hF
 subst hF
 refine ⟨ze ?_ (ze ?_ (ze ?_ (ze ?_ (ze ?_ (ze ?_ (ze ?_ (ze ?_ (ze ?_ (yf))))))))), ?_⟩
 ·intro w5 hS hF hD K hK
  rw [if_pos (by rfl)]
  exact svR hK rfl rfl rfl rfl (by first | rfl | kernel_rfl)  rfl rfl (zf hS H2.out) (by kernel_rfl)
 ·intro w5 hS hF hD K hK
  rw [if_pos (by rfl)]
  exact svR hK rfl rfl rfl rfl (by first | rfl | kernel_rfl)  rfl rfl (zf hS H3.out) (by kernel_rfl)
 ·intro w5 hS hF hD K hK
  rw [if_pos (by rfl)]
  exact svR hK rfl rfl rfl rfl (by first | rfl | kernel_rfl)  rfl rfl (zf hS H2.out) (by kernel_rfl)
 ·intro w5 hS hF hD K hK
  rw [if_pos (by rfl)]
  exact svR hK rfl rfl rfl rfl (by first | rfl | kernel_rfl)  rfl rfl (zf hS H2.out) (by kernel_rfl)
 ·intro w5 hS hF hD K hK
  rw [if_pos (by rfl)]
  exact svR hK rfl rfl rfl rfl (by first | rfl | kernel_rfl)  rfl rfl (zf hS H3.out) (by kernel_rfl)
 ·intro w5 hS hF hD K hK
  rw [if_pos (by rfl)]
  exact svV hK rfl rfl rfl rfl (by first | rfl | kernel_rfl)  (by show _ = _; kernel_rfl)
 ·intro w5 hS hF hD K hK
  obtain ⟨(e3 : f 3 = _), (e4 : f 4 = _), (e5 : f 5 = _), -⟩ := hF
  try simp only [e3, e4, e5]
  rw [if_pos (by rfl)]
  go_simp; go_at_call 66; refine (HSZ.out _ hS).mono ?_; rintro e w9 ⟨v9, rfl, ho9, hb9⟩; go_simp
  exact hK.out _ _ rfl (yv rfl rfl rfl rfl (hb9.size) (hS.trans (hb9.mono hS.size)) (zk (zk (zk (zk (zk (zk (yc (by rfl) (zU (zN.ofBelow hb9) (zU (zN.ofBelow hb9) ym))))))))) (own_base ho9 hS.size))
 ·intro w5 hS hF hD K hK
  obtain ⟨(e2 : f 2 = _), e6, -⟩ := hF
  obtain ⟨y6, p6, t6⟩ := e6
  try simp only [e2]
  rw [if_pos (by rfl)]
  have ho6 := zZ p6 t6 (fun _ _ h => h); go_simp; go_at_call 65; refine (HRX.out _ (f 6) hS ho6).mono ?_; rintro e w9 ⟨rfl, ho9, hb9⟩; rw [show E.ls.length = E.sz.length from HE.out.zl.symm] at ho9; go_simp
  exact hK.out _ _ rfl (yv rfl rfl rfl rfl (hb9.size) (hS.trans hb9) (zk (zk (zk (zk (zk (zk (yc (by rfl) (yc (by rfl) (yc (by rfl) ym))))))))) (ho9))
 ·intro w5 hS hF hD K hK
  obtain ⟨e7, -⟩ := hF
  obtain ⟨y7, p7, t7⟩ := e7
  rw [if_pos (by rfl)]
  have ho7 := zZ p7 t7 (fun _ _ h => h); go_simp; go_at_call 64; refine (HST.out _ (f 7) ho7).mono ?_; rintro e w9 ⟨v9, rfl, ho9, hb9⟩; go_simp
  exact hK.out _ _ rfl (yv rfl rfl rfl rfl (hb9.size) (hS.trans (hb9.mono hS.size)) (zk (zk (zk (zk (zk (zk (zU (zN.ofBelow hb9) (zU (zN.ofBelow hb9) (yc (by rfl) ym))))))))) (own_base ho9 hS.size))
 intro w5 hS hF
 obtain ⟨(e0 : f 0 = _), (e1 : f 1 = _), e8, -⟩ := hF
 obtain ⟨y8, p8, t8⟩ := e8
 try simp only [e0, e1]
 simp only [List.drop_succ_cons, List.drop_zero]
 have ho8 := zZ p8 t8 (fun _ _ h => h)
 rw [jm, HE.out.zl] at ho8
 obtain ⟨go, lcp, e8, hgo, cua, hgu, hcu⟩ := own_int_all ho8 (by omega)
 try simp only [e8]
 have HB5 := zh (HB.out.trans (hS.mono HB.out.size))
 have H25 := zh (zf hS H2.out)
 have HGU := zh hgu
 have HCU := zh (show ∀ k, k ≤ E.ls.length → cua[k]? = some (.int .i64 (E.off k)) from fun k hk => hcu k _ (jH E.sz (by rw [HE.out.zl]; exact hk)))
 clear hS p8 t8 ho8 e8 hgo hgu hcu e0 e1 zz0 zz1 HSZ HRX HST H2 H3 HB
 go_upto_region 2 with fail
 have hbk := heap_alloc_new w5 (.cells #[.string nm, .slice ao E.ls.length cap, .int .i64 E.pl.bank, .int .u16 E.pl.addr, .slice (some ⟨go, 0, none⟩) (E.ls.length + 1) lcp, .string ⟨#[]⟩, .string ⟨#[]⟩, .slice none 0 0] 127)
 have hb6 := (Below.refl w5.heap.size w5).alloc (zn _) (.cells #[.string nm, .slice ao E.ls.length cap, .int .i64 E.pl.bank, .int .u16 E.pl.addr, .slice (some ⟨go, 0, none⟩) (E.ls.length + 1) lcp, .string ⟨#[]⟩, .string ⟨#[]⟩, .slice none 0 0] 127)
 obtain ⟨w6, hw6⟩ : ∃ w6 : World, w5.alloc (.cells #[.string nm, .slice ao E.ls.length cap, .int .i64 E.pl.bank, .int .u16 E.pl.addr, .slice (some ⟨go, 0, none⟩) (E.ls.length + 1) lcp, .string ⟨#[]⟩, .string ⟨#[]⟩, .slice none 0 0] 127) = w6 := ⟨_, rfl⟩
 rw [hw6] at hbk hb6 ⊢
 have HX := zh (show jV w E nm (.slice ao E.ls.length cap) w5.heap.size go lcp cua [] [] [] (.slice none 0 0) w6 from ⟨HB5.out.trans (hb6.mono HB5.out.size), hbk, zf hb6 HGU.out, ⟨rfl, .inl ⟨rfl, rfl⟩⟩, (fun e => by cases e), HCU.out, HB5.out.size, fun q hq => (by cases hq)⟩)
 have H26 := zh (zf hb6 H25.out)
 clear hw6 hbk hb6 HGU HCU HB5 H25
 obtain ⟨eb, heb⟩ : ∃ eb : Nat, w5.heap.size = eb := ⟨_, rfl⟩
 rw [heb] at HX ⊢
 clear heb
 go_wp2_with fail
 go_loopw [11] (fun i wr => ∃ (k : Nat) (pv : Value), k ≤ E.ls.length ∧ i = .int .i64 k ∧ Hid (jV w E nm (.slice ao E.ls.length cap) eb go lcp cua (E.codeTo k) (E.tabsTo k) (E.posTo k) pv wr) ∧ Hid (wr.heap[w.heap.size]? = some (.cells #[.string nm, .slice ao E.ls.length cap] 32 (0, 0)))) (fun i _ => E.ls.length - (intOf i).toNat)
 case atStart => exact ⟨0, _, Nat.zero_le _, rfl, HX, H26⟩
 case round =>
  obtain ⟨k, pv, hk, rfl, HX, H2⟩ := hrel
  clear H26
  have c1 := cell_of_row wr w.heap.size 1 _ _ _ H2.out
  by_cases hlt : k < E.ls.length
  ·obtain ⟨l, hl⟩ : ∃ l, E.ls[k]? = some l := ⟨_, List.getElem?_eq_getElem hlt⟩
   have HLk := zh hl
   have HLE := zh (show E.ls[k] = l from (List.getElem?_eq_some_iff.1 hl).2)
   obtain ⟨q, off, c, T', fr', tq, rfl, hq, hx, hti⟩ := HL.out.at hl
   obtain ⟨ta, tcp, rfl, -, -⟩ := id hti
   have HTI := zh hti
   have HQ := zh (zf HX.out.bb hq)
   have HXX := zh hx
   have HCL := zh (show (E.codeTo k).length ≤ 1000000 by have := (codeTo_ok HE.out (fun l hl => xx (HC.out.2 l hl)) k (by omega)).2; omega)
   have HTL := zh (show (E.tabsTo k).length ≤ 10000000 by have := (tabsTo_ok HE.out k (by omega)).2; omega)
   have HPL := zh (show (E.posTo k).length ≤ 100000 by have := posTo_len HE.out k (by omega); omega)
   have HOF := zh (codeTo_len HE.out HC.out HFN.out k (by omega))
   have HNX := zh (And.intro (jT E hlt) (And.intro (x6 E hlt) (posTo_succ E hlt)))
   rw [HLE.out] at HNX
   have HNF := zh (xx (HC.out.2 l (List.mem_of_getElem? hl)))
   clear hq hx hl hti
   go_upto_region 6 with (first | (refine wpList_store_row rfl _ _ _ rfl _ _ rfl rfl _ _ (heap_alloc_new _ _) ?_ ?_ ?_ ?_; kernel_rfl; rfl; kernel_rfl; rw [World.setRow_alloc_new]) | (refine z9 _ _ rfl _ _ rfl _ _ _ (HQ.out) ([.int .i64 (l).label, .int .i64 (l).ins.op, .int .i64 (l).ins.d, .int .i64 (l).ins.s, .int .u16 (l).ins.imm, .int .u16 (l).ins.aux, .int .i64 (l).ins.bank, .int .i64 (l).ins.size, .int .i64 (l).dest, .int .i64 (l).fn, .int .i64 (l).obj, .slice ta (l).tab.length tcp]) (HXX.out) ?_ ?_ ?_; kernel_rfl; kernel_rfl))
   have hn := heap_alloc_new wr (.cells #[.int .i64 (l).label, .int .i64 (l).ins.op, .int .i64 (l).ins.d, .int .i64 (l).ins.s, .int .u16 (l).ins.imm, .int .u16 (l).ins.aux, .int .i64 (l).ins.bank, .int .i64 (l).ins.size, .int .i64 (l).dest, .int .i64 (l).fn, .int .i64 (l).obj, .slice ta (l).tab.length tcp] 58)
   have hb1 := (Below.refl wr.heap.size wr).alloc (zn _) (.cells #[.int .i64 (l).label, .int .i64 (l).ins.op, .int .i64 (l).ins.d, .int .i64 (l).ins.s, .int .u16 (l).ins.imm, .int .u16 (l).ins.aux, .int .i64 (l).ins.bank, .int .i64 (l).ins.size, .int .i64 (l).dest, .int .i64 (l).fn, .int .i64 (l).obj, .slice ta (l).tab.length tcp] 58)
   obtain ⟨wx, hwx⟩ : ∃ wx : World, wr.alloc (.cells #[.int .i64 (l).label, .int .i64 (l).ins.op, .int .i64 (l).ins.d, .int .i64 (l).ins.s, .int .u16 (l).ins.imm, .int .u16 (l).ins.aux, .int .i64 (l).ins.bank, .int .i64 (l).ins.size, .int .i64 (l).dest, .int .i64 (l).fn, .int .i64 (l).obj, .slice ta (l).tab.length tcp] 58) = wx := ⟨_, rfl⟩
   obtain ⟨g, hg⟩ : ∃ g : Nat, wr.heap.size = g := ⟨_, rfl⟩
   rw [hwx] at hn hb1 ⊢
   have HX1 := zh (HX.out.stay hb1)
   have H21 := zh (zf hb1 H2.out)
   rw [hg] at hn ⊢
   have HN1 := zh hn
   clear hwx hg hn hb1 HX H2 HQ HXX c1 wr
   try simp only [Act.put]
   have cop := cell_of_row wx g 1 _ _ _ HN1.out
   rcases xL l.ins.op with hff | hff | hff | hff | hff
   ·exact absurd hff HNF.out
   ·as_aux_lemma =>
    have HFO := zh (show ∀ V, Calls Try.prog 18 #[.int .i64 l.ins.op] V fun e w' => e = .returned (.int .i64 1) ∧ Below V.heap.size V w' from fun V => by have := y2 l.ins.op V; rw [hff] at this; exact this)
    have HF := zh hff
    clear hff
    go_upto_region 7 with (go_at_call 18; refine (HFO.out _).mono ?_; rintro e w3 ⟨rfl, hb3⟩)
    have HX3 := zh (HX1.out.stay hb3)
    have H23 := zh (zf hb3 H21.out)
    have HN3 := zh (zf hb3 HN1.out)
    clear hb3 cop HX1 H21 HN1
    have HPC := zh (fun W hW => rplain_any w E HE.out nm (.slice (some ⟨q, off, none⟩) E.ls.length cap) eb go lcp cua (E.codeTo k) (E.tabsTo k) (E.posTo k) pv HCL.out k l ta da tcp dcap HLk.out HF.out HDV.out HOF.out HPL.out W hW)
    have HEP : E.posTo (k + 1) = _ := HNX.out.2.2
    have HET : E.tabsTo (k + 1) = _ := (by rw [HNX.out.2.1, tabB_ne (by have := HF.out; omega), List.append_nil])
    have HEQ := zh (And.intro HNX.out.1 (And.intro HET HEP))
    clear HEP HET
    go_wp2_with (first | (refine zs _ _ rfl _ rfl _ _ _ (HN3.out) ?_ ?_ ?_; kernel_rfl; kernel_rfl) | (go_at_call 67; refine (HPC.out _ HX3.out).mono ?_; rintro e w9 ⟨rfl, hp9⟩; have HP9 := zh hp9; clear hp9))
    go_roundw
    case rel =>
     obtain ⟨pv9, hh9, ht9, hq9⟩ := HP9.out
     refine ⟨k + 1, pv9, by omega, by go_num, zh ?_, zh (ht9.heap H23.out ?_)⟩
     ·rw [HEQ.out.1, HEQ.out.2.1, HEQ.out.2.2]
      exact hh9
     ·rintro (e | e)
      ·have h8 := H23.out
       rw [e, HX3.out.blk] at h8; simp at h8
      ·obtain ⟨-, cs, h8⟩ := z7 HX3.out.own _ e
       rw [H23.out] at h8; simp at h8
    case measure => simp [intOf]; omega
   ·as_aux_lemma =>
    have HFO := zh (show ∀ V, Calls Try.prog 18 #[.int .i64 l.ins.op] V fun e w' => e = .returned (.int .i64 2) ∧ Below V.heap.size V w' from fun V => by have := y2 l.ins.op V; rw [hff] at this; exact this)
    have HF := zh hff
    clear hff
    go_upto_region 7 with (go_at_call 18; refine (HFO.out _).mono ?_; rintro e w3 ⟨rfl, hb3⟩)
    have HX3 := zh (HX1.out.stay hb3)
    have H23 := zh (zf hb3 H21.out)
    have HN3 := zh (zf hb3 HN1.out)
    clear hb3 cop HX1 H21 HN1
    have HPC := zh (fun W hW => rbranch_any w E HE.out nm (some ⟨q, off, none⟩) cap eb go lcp cua (E.codeTo k) (E.tabsTo k) (E.posTo k) pv HL.out HCL.out HC.out.1 k l ta tcp HLk.out HF.out W hW)
    have HEP : E.posTo (k + 1) = _ := (by rw [HNX.out.2.2, posL_ne (by have := HF.out; omega), List.append_nil])
    have HET : E.tabsTo (k + 1) = _ := (by rw [HNX.out.2.1, tabB_ne (by have := HF.out; omega), List.append_nil])
    have HEQ := zh (And.intro HNX.out.1 (And.intro HET HEP))
    clear HEP HET
    go_wp2_with (first | (refine zs _ _ rfl _ rfl _ _ _ (HN3.out) ?_ ?_ ?_; kernel_rfl; kernel_rfl) | (go_at_call 68; refine (HPC.out _ HX3.out).mono ?_; rintro e w9 ⟨rfl, hp9⟩; have HP9 := zh hp9; clear hp9))
    go_roundw
    case rel =>
     obtain ⟨pv9, hh9, ht9, hq9⟩ := HP9.out
     refine ⟨k + 1, pv9, by omega, by go_num, zh ?_, zh (ht9.heap H23.out ?_)⟩
     ·rw [HEQ.out.1, HEQ.out.2.1, HEQ.out.2.2]
      exact hh9
     ·rintro (e | e)
      ·have h8 := H23.out
       rw [e, HX3.out.blk] at h8; simp at h8
      ·obtain ⟨-, cs, h8⟩ := z7 HX3.out.own _ e
       rw [H23.out] at h8; simp at h8
    case measure => simp [intOf]; omega
   ·as_aux_lemma =>
    have HFO := zh (show ∀ V, Calls Try.prog 18 #[.int .i64 l.ins.op] V fun e w' => e = .returned (.int .i64 3) ∧ Below V.heap.size V w' from fun V => by have := y2 l.ins.op V; rw [hff] at this; exact this)
    have HF := zh hff
    clear hff
    go_upto_region 7 with (go_at_call 18; refine (HFO.out _).mono ?_; rintro e w3 ⟨rfl, hb3⟩)
    have HX3 := zh (HX1.out.stay hb3)
    have H23 := zh (zf hb3 H21.out)
    have HN3 := zh (zf hb3 HN1.out)
    clear hb3 cop HX1 H21 HN1
    have HPC := zh (fun W hW => rtable_any w E HE.out nm (some ⟨q, off, none⟩) cap eb go lcp cua (E.codeTo k) (E.tabsTo k) (E.posTo k) pv HL.out HCL.out HC.out.1 k l ta tcp HLk.out HF.out HTI.out HTL.out W hW)
    have HEP : E.posTo (k + 1) = _ := (by rw [HNX.out.2.2, posL_ne (by have := HF.out; omega), List.append_nil])
    have HET : E.tabsTo (k + 1) = _ := HNX.out.2.1
    have HEQ := zh (And.intro HNX.out.1 (And.intro HET HEP))
    clear HEP HET
    go_wp2_with (first | (refine zs _ _ rfl _ rfl _ _ _ (HN3.out) ?_ ?_ ?_; kernel_rfl; kernel_rfl) | (go_at_call 70; refine (HPC.out _ HX3.out).mono ?_; rintro e w9 ⟨rfl, hp9⟩; have HP9 := zh hp9; clear hp9))
    go_roundw
    case rel =>
     obtain ⟨pv9, hh9, ht9, hq9⟩ := HP9.out
     refine ⟨k + 1, pv9, by omega, by go_num, zh ?_, zh (ht9.heap H23.out ?_)⟩
     ·rw [HEQ.out.1, HEQ.out.2.1, HEQ.out.2.2]
      exact hh9
     ·rintro (e | e)
      ·have h8 := H23.out
       rw [e, HX3.out.blk] at h8; simp at h8
      ·obtain ⟨-, cs, h8⟩ := z7 HX3.out.own _ e
       rw [H23.out] at h8; simp at h8
    case measure => simp [intOf]; omega
   ·as_aux_lemma =>
    have HFO := zh (show ∀ V, Calls Try.prog 18 #[.int .i64 l.ins.op] V fun e w' => e = .returned (.int .i64 4) ∧ Below V.heap.size V w' from fun V => by have := y2 l.ins.op V; rw [hff] at this; exact this)
    have HF := zh hff
    clear hff
    go_upto_region 7 with (go_at_call 18; refine (HFO.out _).mono ?_; rintro e w3 ⟨rfl, hb3⟩)
    have HX3 := zh (HX1.out.stay hb3)
    have H23 := zh (zf hb3 H21.out)
    have HN3 := zh (zf hb3 HN1.out)
    clear hb3 cop HX1 H21 HN1
    have HPC := zh (fun W hW => rcall_any w E HE.out nm (some ⟨q, off, none⟩) cap eb go lcp cua (E.codeTo k) (E.tabsTo k) (E.posTo k) pv HL.out HCL.out k l ta fa tcp fcap HLk.out HF.out HFV.out W hW)
    have HEP : E.posTo (k + 1) = _ := (by rw [HNX.out.2.2, posL_ne (by have := HF.out; omega), List.append_nil])
    have HET : E.tabsTo (k + 1) = _ := (by rw [HNX.out.2.1, tabB_ne (by have := HF.out; omega), List.append_nil])
    have HEQ := zh (And.intro HNX.out.1 (And.intro HET HEP))
    clear HEP HET
    go_wp2_with (first | (refine zs _ _ rfl _ rfl _ _ _ (HN3.out) ?_ ?_ ?_; kernel_rfl; kernel_rfl) | (go_at_call 69; refine (HPC.out _ HX3.out).mono ?_; rintro e w9 ⟨rfl, hp9⟩; have HP9 := zh hp9; clear hp9))
    go_roundw
    case rel =>
     obtain ⟨pv9, hh9, ht9, hq9⟩ := HP9.out
     refine ⟨k + 1, pv9, by omega, by go_num, zh ?_, zh (ht9.heap H23.out ?_)⟩
     ·rw [HEQ.out.1, HEQ.out.2.1, HEQ.out.2.2]
      exact hh9
     ·rintro (e | e)
      ·have h8 := H23.out
       rw [e, HX3.out.blk] at h8; simp at h8
      ·obtain ⟨-, cs, h8⟩ := z7 HX3.out.own _ e
       rw [H23.out] at h8; simp at h8
    case measure => simp [intOf]; omega
  ·have hke : k = E.ls.length := by omega
   subst hke
   have HCZ := zh (show ¬ 9223372036854775807 < (zO (E.codeTo E.ls.length)).size + (zO (E.tabsTo E.ls.length)).size by
    have h1 := (codeTo_ok HE.out (fun l hl => xx (HC.out.2 l hl)) E.ls.length (zn _)).2
    have h2 := (tabsTo_ok HE.out E.ls.length (zn _)).2
    rw [yo, yo]; omega)
   have HAP := zh (show zO (E.codeTo E.ls.length) ++ zO (E.tabsTo E.ls.length) = zO E.code from strOf_app _ _)
   have zz0 : eb < wr.heap.size := (Array.getElem?_eq_some_iff.1 HX.out.blk).1
   clear hlt hk
   go_upto_region 15 with fail
   clear c1
   refine zV [] 15 (z5 [isV (.pointer (some ⟨eb, 0, none⟩)), isV (.pointer (some ⟨eb, 0, none⟩)), isV (.pointer (some ⟨eb, 5, none⟩)), isV (.string (zO (E.codeTo E.ls.length))), isV (.pointer (some ⟨eb, 0, none⟩)), isV (.pointer (some ⟨eb, 0, none⟩)), isV (.pointer (some ⟨eb, 6, none⟩)), isV (.string (zO (E.tabsTo E.ls.length))), isV (.string (zO E.code)), isV (.pointer (some ⟨eb, 0, none⟩)), isV (.pointer (some ⟨eb, 0, none⟩)), isV (.pointer (some ⟨eb, 7, none⟩)), isV (pv), isV (.string (zO E.code)), isV (pv)]) (nth [[0], [1], [2], [3], [4], [5], [6], [7], [8], [9], [10], [11], [12], [13], [14]]) (nth [[], [], [], [], [], [], [], [], [], [], [], [], [], [], []]) (nth [[], [0], [1], [2], [], [4], [5], [6], [3, 7], [], [9], [10], [11], [8], [12]]) [13, 14] (yU wr.heap.size wr wr.heap.size [(eb, .cells #[.string nm, .slice ao E.ls.length cap, .int .i64 E.pl.bank, .int .u16 E.pl.addr, .slice (some ⟨go, 0, none⟩) (E.ls.length + 1) lcp, .string (zO (E.codeTo E.ls.length)), .string (zO (E.tabsTo E.ls.length)), pv] 127 (0, 0))]) (by kernel_rfl) (by kernel_rfl) (⟨(Below.refl _ _).drew, zn _, zn _, by intro x hx; simp at hx; subst hx; assumption, HX.out.blk, trivial⟩) (yU.grow) (zG ((za (zc _)  (za (zc _)  (za (zc _)  (za (zc _)  (za (zc _)  (za (zc _)  (za (zc _)  (za (zc _)  (za (zc _)  (za (zc _)  (za (zc _)  (za (zc _)  (za (zc _)  (za (zc _)  (za (zc _) zy))))))))))))))))) (fun f F hF => ?_)
   simp only [List.take_succ_cons, List.take_zero, yb, Act.put, zD, zE, zF, Nat.reduceAdd] at hF
   subst hF
   refine ⟨zd ?_ (zd ?_ (zd ?_ (zd ?_ (zd ?_ (zd ?_ (zd ?_ (zd ?_ (zd ?_ (zd ?_ (zd ?_ (zd ?_ (zd ?_ (zd ?_ (zd ?_ (yd))))))))))))))), ?_⟩
   ·intro w6 hS hF hD K hK
    rw [if_pos (by rfl)]
    exact svV hK rfl rfl rfl rfl (by first | rfl | kernel_rfl)  (by show _ = _; kernel_rfl)
   ·intro w6 hS hF hD K hK
    obtain ⟨(e0 : f 0 = _), -⟩ := hF
    try simp only [e0]
    rw [if_pos (by rfl)]
    exact svV hK rfl rfl rfl rfl (by first | rfl | kernel_rfl)  (by show _ = _; kernel_rfl)
   ·intro w6 hS hF hD K hK
    obtain ⟨(e1 : f 1 = _), -⟩ := hF
    try simp only [e1]
    rw [if_pos (by rfl)]
    exact svV hK rfl rfl rfl rfl (by first | rfl | kernel_rfl)  (by show _ = _; kernel_rfl)
   ·intro w6 hS hF hD K hK
    obtain ⟨(e2 : f 2 = _), -⟩ := hF
    try simp only [e2]
    rw [if_pos (by rfl)]
    exact svC hK rfl rfl rfl rfl (by first | rfl | kernel_rfl)  rfl rfl (hS.2.2.2.2.1) (by kernel_rfl) (fun _ => by kernel_rfl)
   ·intro w6 hS hF hD K hK
    rw [if_pos (by rfl)]
    exact svV hK rfl rfl rfl rfl (by first | rfl | kernel_rfl)  (by show _ = _; kernel_rfl)
   ·intro w6 hS hF hD K hK
    obtain ⟨(e4 : f 4 = _), -⟩ := hF
    try simp only [e4]
    rw [if_pos (by rfl)]
    exact svV hK rfl rfl rfl rfl (by first | rfl | kernel_rfl)  (by show _ = _; kernel_rfl)
   ·intro w6 hS hF hD K hK
    obtain ⟨(e5 : f 5 = _), -⟩ := hF
    try simp only [e5]
    rw [if_pos (by rfl)]
    exact svV hK rfl rfl rfl rfl (by first | rfl | kernel_rfl)  (by show _ = _; kernel_rfl)
   ·intro w6 hS hF hD K hK
    obtain ⟨(e6 : f 6 = _), -⟩ := hF
    try simp only [e6]
    rw [if_pos (by rfl)]
    exact svC hK rfl rfl rfl rfl (by first | rfl | kernel_rfl)  rfl rfl (hS.2.2.2.2.1) (by kernel_rfl) (fun _ => by kernel_rfl)
   ·intro w6 hS hF hD K hK
    obtain ⟨(e3 : f 3 = _), (e7 : f 7 = _), -⟩ := hF
    try simp only [e3, e7]
    rw [if_pos (by rfl)]
    go_simp; rw [if_neg HCZ.out]; go_simp; refine hK.out _ _ rfl (zq rfl rfl rfl ?_); exact congrArg Value.string HAP.out
   ·intro w6 hS hF hD K hK
    rw [if_pos (by rfl)]
    exact svV hK rfl rfl rfl rfl (by first | rfl | kernel_rfl)  (by show _ = _; kernel_rfl)
   ·intro w6 hS hF hD K hK
    obtain ⟨(e9 : f 9 = _), -⟩ := hF
    try simp only [e9]
    rw [if_pos (by rfl)]
    exact svV hK rfl rfl rfl rfl (by first | rfl | kernel_rfl)  (by show _ = _; kernel_rfl)
   ·intro w6 hS hF hD K hK
    obtain ⟨(e10 : f 10 = _), -⟩ := hF
    try simp only [e10]
    rw [if_pos (by rfl)]
    exact svV hK rfl rfl rfl rfl (by first | rfl | kernel_rfl)  (by show _ = _; kernel_rfl)
   ·intro w6 hS hF hD K hK
    obtain ⟨(e11 : f 11 = _), -⟩ := hF
    try simp only [e11]
    rw [if_pos (by rfl)]
    exact svC hK rfl rfl rfl rfl (by first | rfl | kernel_rfl)  rfl rfl (hS.2.2.2.2.1) (by kernel_rfl) (fun _ => by kernel_rfl)
   ·intro w6 hS hF hD K hK
    obtain ⟨(e8 : f 8 = _), -⟩ := hF
    try simp only [e8]
    rw [if_pos (by rfl)]
    exact svV hK rfl rfl rfl rfl (by first | rfl | kernel_rfl)  (by show _ = _; kernel_rfl)
   ·intro w6 hS hF hD K hK
    obtain ⟨(e12 : f 12 = _), -⟩ := hF
    try simp only [e12]
    rw [if_pos (by rfl)]
    exact svV hK rfl rfl rfl rfl (by first | rfl | kernel_rfl)  (by show _ = _; kernel_rfl)
   intro w6 hS hF
   obtain ⟨(e13 : f 13 = _), (e14 : f 14 = _), -⟩ := hF
   try simp only [e13, e14]
   refine yN (by kernel_rfl) ?_
   have HB6 := zh hS.1
   clear hS
   go_wp2_with fail
   go_ret2
   exact ⟨pv, rfl, own_up (zZ HX.out.own (zN.ofBelow (bs := fun _ => False) HB6.out) fun _ _ h => h) HX.out.pr, HX.out.bb.trans (HB6.out.mono HX.out.bb.size)⟩
end Go.Proofs.Ythebmoggbgldmaa
namespace Go.Proofs.Ythebmoggbgldmaa
open Go Go.RowKit Go.Maps
set_option maxRecDepth 100000 in
set_option maxHeartbeats 8000000 in
theorem rassemble_any (E : zL) (hE : E.Num) (nm : ByteArray) (ao fa da : Option Addr) (cap fcap dcap : Nat) (w : World) (hL : yJ w (.slice ao E.ls.length cap) E.ls) (hf : jj w (.slice fa E.funcs.length fcap) E.funcs) (hd : jK w (.slice da E.data.length dcap) E.data) :
  Calls Try.prog 14 #[.agg #[.string nm, .slice ao E.ls.length cap], .agg #[.int .i64 E.pl.bank, .int .u16 E.pl.addr], .slice fa E.funcs.length fcap, .slice da E.data.length dcap] w (AsPost E w) := by
 have HE := zh hE
 obtain ⟨h2, h3⟩ := yy w (.cells #[.string nm, .slice ao E.ls.length cap] 32) (.cells #[.int .i64 E.pl.bank, .int .u16 E.pl.addr] 37)
 have hB : Below w.heap.size w ((w.alloc (.cells #[.string nm, .slice ao E.ls.length cap] 32)).alloc (.cells #[.int .i64 E.pl.bank, .int .u16 E.pl.addr] 37)) := ((Below.refl _ _).alloc (zn _) _).alloc (by simp) _
 obtain ⟨wa, hwa⟩ : ∃ wa : World, (w.alloc (.cells #[.string nm, .slice ao E.ls.length cap] 32)).alloc (.cells #[.int .i64 E.pl.bank, .int .u16 E.pl.addr] 37) = wa := ⟨_, rfl⟩
 rw [hwa] at h2 h3 hB
 have H2 := zh h2
 have H3 := zh h3
 have HB := zh hB
 have HL := zh hL
 have HFV := zh hf
 have HDV := zh hd
 have hnf : E.funcs.length ≤ 100000 := by have := hE.nf; omega
 have hpl := hE.pl
 have HCD := zh (show ∀ W, Calls Try.prog 31 #[.agg #[.int .i64 E.pl.bank, .int .u16 E.pl.addr]] W fun e w' => e = .returned (.bool (yp E.pl)) ∧ Below W.heap.size W w' from fun W => rcode_any E.pl W)
 have HAL := zh (fun W (hW : Below w.heap.size w W) => rall_any E.funcs fa fcap W (hf.below hW) hnf)
 have HRI := zh (fun W (hW : Below w.heap.size w W) => rright_any nm E.ls hE.ls ao cap E.funcs.length E.data.length hE.nf hE.nd W (hL.below hW))
 clear h2 h3 hB hL hf hd hE
 obtain ⟨b1, hb1⟩ : ∃ b, yp E.pl = b := ⟨_, rfl⟩
 obtain ⟨b2, hb2⟩ : ∃ b, E.funcs.all yp = b := ⟨_, rfl⟩
 obtain ⟨b3, hb3⟩ : ∃ b, jy E.ls E.funcs.length E.data.length = b := ⟨_, rfl⟩
 rw [hb1] at HCD
 rw [hb2] at HAL
 rw [hb3] at HRI
 have HR := zh (show E.Right ↔ (b3 = true ∧ b1 = true ∧ b2 = true) by
  unfold zL.Right
  rw [← hb1, ← hb2, ← hb3, right_chunk2 E.ls HE.out.ls, List.all_eq_true])
 clear hb1 hb2 hb3
 go_enter Try.func14, Try.ntmps14
 go_upto_region 1 with fail
 try rw [hwa]
 clear hwa
 go_upto_region 2 with (first | (refine zs _ _ rfl _ rfl _ _ _ (H3.out) ?_ ?_ ?_; kernel_rfl; kernel_rfl) | (go_at_call 31; refine (HCD.out _).mono ?_; rintro e w1 ⟨rfl, hc1⟩))
 have HB1 := zh (HB.out.trans (hc1.mono HB.out.size))
 have H21 := zh (zf hc1 H2.out)
 have H31 := zh (zf hc1 H3.out)
 clear hc1
 go_upto_region 3 with (go_at_call 32; refine (HAL.out _ HB1.out).mono ?_; rintro e w2 ⟨rfl, hc2⟩)
 have HB2 := zh (HB1.out.trans (hc2.mono HB1.out.size))
 have H22 := zh (zf hc2 H21.out)
 have H32 := zh (zf hc2 H31.out)
 clear hc2
 cases b1 with
 | false =>
  have HANS := zh (show AnsE E [] [] 1 from .inl ⟨(fun h => by have := (HR.out.1 h).2.1; cases this), rfl, rfl, rfl⟩)
  go_wp2_with fail
  go_ret3
  exact as_err HB2.out HANS.out
 | true =>
  cases b2 with
  | false =>
   have HANS := zh (show AnsE E [] [] 1 from .inl ⟨(fun h => by have := (HR.out.1 h).2.2; cases this), rfl, rfl, rfl⟩)
   go_wp2_with fail
   go_ret3
   exact as_err HB2.out HANS.out
  | true =>
   go_upto_region 6 with (first | (refine zs _ _ rfl _ rfl _ _ _ (H22.out) ?_ ?_ ?_; kernel_rfl; kernel_rfl) | (go_at_call 16; refine (HRI.out _ HB2.out).mono ?_; rintro e w3 ⟨rfl, hc3⟩))
   have HB3 := zh (HB2.out.trans (hc3.mono HB2.out.size))
   have H23 := zh (zf hc3 H22.out)
   have H33 := zh (zf hc3 H32.out)
   clear hc3
   cases b3 with
   | false =>
    have HANS := zh (show AnsE E [] [] 1 from .inl ⟨(fun h => by have := (HR.out.1 h).1; cases this), rfl, rfl, rfl⟩)
    go_wp2_with fail
    go_ret3
    exact as_err HB3.out HANS.out
   | true =>
    have HRT := zh (HR.out.2 (by first | exact ⟨rfl, rfl, rfl⟩ | simp))
    have HOK := zh (HE.out.ok HRT.out.1)
    have HFM := zh (show ∀ l ∈ E.ls, zK l.ins.op ≠ 0 from fun l hl => xx (HRT.out.1.2 l hl))
    have HCO := zh (rcodeb_any E HOK.out HRT.out.1 HRT.out.2.2 nm ao fa da cap fcap dcap w3 (HL.out.below HB3.out) (HFV.out.below HB3.out) (HDV.out.below HB3.out))
    go_upto_region 9 with (first | (refine zs _ _ rfl _ rfl _ _ _ (H23.out) ?_ ?_ ?_; kernel_rfl; kernel_rfl) | (refine zs _ _ rfl _ rfl _ _ _ (H33.out) ?_ ?_ ?_; kernel_rfl; kernel_rfl) | (go_at_call 33; refine (HCO.out).mono ?_; rintro e w7 ⟨pv, rfl, hown, hb7⟩))
    have HB7 := zh (HB3.out.trans (hb7.mono HB3.out.size))
    have HOW := zh (own_base hown HB3.out.size)
    have c1 := cell_of_row w7 (w.heap.size + 1) 1 _ _ _ (zf hb7 H33.out)
    clear hb7 hown
    have HSZ := yo E.code
    have hcl := code_len HOK.out HFM.out
    have hrem : IntKind.u16.wrap (E.pl.addr.tmod 4096) = E.pl.addr % 4096 := by
     rw [Int.tmod_eq_emod_of_nonneg (by omega)]
     exact IntWalk.u16_in _ (by omega)
    have hrem2 : E.pl.addr.tmod 4096 = E.pl.addr % 4096 := Int.tmod_eq_emod_of_nonneg (by omega)
    have hsum : IntKind.i64.wrap (E.pl.addr % 4096 + (E.code.length : Int)) = E.pl.addr % 4096 + (E.code.length : Int) := IntWalk.i64_in _ (by omega)
    by_cases hfit : E.pl.addr % 4096 + (E.code.length : Int) ≤ 4096
    ·have HANS := zh (show AnsE E E.code E.pos 0 from .inr (.inr ⟨HRT.out, by unfold zL.fits; exact decide_eq_true hfit, rfl, rfl, rfl⟩))
     go_wp2_with fail
     go_ret3
     exact ⟨E.code, pv, E.pos, 0, rfl, HOW.out, HB7.out, HANS.out⟩
    ·have HANS := zh (show AnsE E [] [] 71 from .inr (.inl ⟨HRT.out, by unfold zL.fits; exact decide_eq_false hfit, rfl, rfl, rfl⟩))
     go_wp2_with fail
     go_ret3
     exact as_err HB7.out HANS.out
end Go.Proofs.Ythebmoggbgldmaa
