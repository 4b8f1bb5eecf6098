/- The law ScanBytes, walked. Condition: the numbers lie in their types' ranges. Printed by gen_lse.py. -/
import Derived.Test.YteofmaiojepdkaaGreatTbRpL
set_option linter.all false
namespace Go.Proofs.YteofmaiojepdkaaGreat
open Go Go.RowKit Go.Maps Go.Sort
@[go_sem] theorem lst_build1 (a : Option Addr) (n c : Nat) (W : World) : (Instr.build 38 #[(1, .slice a n c)]).run Tryz.prog W = .ok (.agg #[.slice none 0 0, .slice a n c, .slice none 0 0]) W := run_build W _ _ _ (by kernel_rfl)
theorem LstD.other {I : zk} {nb : Nat} {c c' : Nat → Nat → Int} {rs : List xc} {iss : List zM} {vc vr vi : Value} {w : World} (h : LstD I nb c rs iss vc vr vi w) (hc : ∀ b o, b < nb → o < 4096 → c b o = c' b o) : LstD I nb c' rs iss vc vr vi w := by
 obtain ⟨A, k, e, hl, gs, h1, h2, h3⟩ := h.cls
 exact ⟨⟨A, k, e, hl, gs, h1, h2, fun b g hg => by
  obtain ⟨fr, h4⟩ := h3 b g hg
  have hb : b < nb := by rw [← h1]; exact (List.getElem?_eq_some_iff.1 hg).1
  exact ⟨fr, by rw [h4, rowC_congr fun o ho => hc b o hb ho]⟩⟩, h.rts, h.iss⟩
end Go.Proofs.YteofmaiojepdkaaGreat
namespace Go.Proofs.YteofmaiojepdkaaGreat
open Go Go.RowKit Go.Maps Go.Sort
theorem map_at {R : List RtR} {rs : List xc} (h : R.map (·.1) = rs) {m : Nat} {r : xc} (hr : rs[m]? = some r) : ∃ c l s, R[m]? = some (r, c, l, s) := by
 rw [← h, List.getElem?_map] at hr
 cases hx : R[m]? with
 | none => rw [hx] at hr; cases hr
 | some x =>
  rw [hx] at hr
  injection hr with hr
  obtain ⟨r', c, l, s⟩ := x
  have hr : r' = r := hr
  subst hr
  exact ⟨c, l, s, rfl⟩
abbrev lsB (a b c : Value) : Obj := .cells #[a, b, c] 38
abbrev rtB (r : xc) (A1 A2 A3 : Option Addr) (k1 k2 k3 : Nat) : Obj := .cells #[.int .i64 r.entry.bank, .int .u16 r.entry.addr, .bool r.thunk, .int .i64 r.dest.bank, .int .u16 r.dest.addr, .slice A1 r.code.length k1, .slice A2 r.calls.length k2, .slice A3 r.iss.length k3] 50
theorem cls_get {gs : List Nat} {m g : Nat} (h : gs[m]? = some g) : (gs.map clV)[m]? = some (clV g) := by rw [List.getElem?_map, h]; rfl
set_option maxRecDepth 100000 in
set_option maxHeartbeats 8000000 in
theorem same_any (I : zk) (nb : Nat) (c : Nat → Nat → Int) (rs : List xc) (iss : List zM) (a0 a1 a2 b0 b1 b2 : Value) (w : World) (h1 : LstD I nb c rs iss a0 a1 a2 w) (h2 : LstD I nb c rs iss b0 b1 b2 w) :
  Calls Tryz.prog 16 #[.agg #[a0, a1, a2], .agg #[b0, b1, b2]] w fun e w' => e = .returned (.bool true) ∧ Below w.heap.size w w' := by
 obtain ⟨Ac, kc, rfl, hca⟩ := h1.cls
 obtain ⟨R, Ar, kr, rfl, hra, hR⟩ := h1.rts
 obtain ⟨Ai, ki, rfl, hia, hli⟩ := h1.iss
 obtain ⟨Bc, lc, rfl, hcb⟩ := h2.cls
 obtain ⟨Q, Br, lr, rfl, hrb, hQ⟩ := h2.rts
 obtain ⟨Bi, li, rfl, hib, -⟩ := h2.iss
 have e1 : R.length = rs.length := by rw [← hR, List.length_map]
 have e2 : Q.length = rs.length := by rw [← hQ, List.length_map]
 have HCA := zh hca
 have HCB := zh hcb
 have HRA := zh (And.intro hra hR)
 have HRB := zh (And.intro hrb hQ)
 have HIA := zh hia
 have HIB := zh hib
 have hlc := hca.le
 have hlr : rs.length ≤ 9223372036854775807 := by have := hra.le; omega
 have hkr : rs.length ≤ kr := by have := hra.rd.le; omega
 have hkq : rs.length ≤ lr := by have := hrb.rd.le; omega
 have HE := zh (And.intro e1 e2)
 have HLI := zh hli
 rw [e1, e2]
 have HX := zh (Bx.two w (lsB (.slice Ac nb kc) (.slice Ar rs.length kr) (.slice Ai iss.length ki)) (lsB (.slice Bc nb lc) (.slice Br rs.length lr) (.slice Bi iss.length li)))
 clear hca hcb hra hrb hR hQ hia hib e1 e2 h1 h2 hli
 go_enter Tryz.func16, Tryz.ntmps16
 go_upto_region 1 with fail
 obtain ⟨wi, hwi⟩ : ∃ wi, (w.alloc (lsB (.slice Ac nb kc) (.slice Ar rs.length kr) (.slice Ai iss.length ki))).alloc (lsB (.slice Bc nb lc) (.slice Br rs.length lr) (.slice Bi iss.length li)) = wi := ⟨_, rfl⟩
 rw [hwi] at HX ⊢
 clear hwi
 have hc0 := fun o => cell_of_row wi w.heap.size o _ _ _ HX.out.b0
 have hc1 := fun o => cell_of_row wi (w.heap.size + 1) o _ _ _ HX.out.b1
 go_wp2_with fail
 clear hc0 hc1
 go_loopw [5] (fun i wr => ∃ m : Nat, m ≤ nb ∧ i = .int .i64 m ∧ Hid (Bx [lsB (.slice Ac nb kc) (.slice Ar rs.length kr) (.slice Ai iss.length ki), lsB (.slice Bc nb lc) (.slice Br rs.length lr) (.slice Bi iss.length li)] w wr)) (fun i _ => nb - (intOf i).toNat)
 case atStart => exact ⟨0, Nat.zero_le _, rfl, HX⟩
 case round =>
  clear HX
  obtain ⟨m, hm, rfl, HX⟩ := hrel
  have hc0 := fun o => cell_of_row wr w.heap.size o _ _ _ HX.out.b0
  have hc1 := fun o => cell_of_row wr (w.heap.size + 1) o _ _ _ HX.out.b1
  by_cases hlt : m < nb
  ·obtain ⟨gs, hg1, hg2, hg3⟩ := (HCA.out.below HX.out.bb).rd
   obtain ⟨hs, hh1, hh2, hh3⟩ := (HCB.out.below HX.out.bb).rd
   obtain ⟨g, hg⟩ : ∃ g, gs[m]? = some g := ⟨_, List.getElem?_eq_getElem (by omega)⟩
   obtain ⟨h, hh⟩ : ∃ h, hs[m]? = some h := ⟨_, List.getElem?_eq_getElem (by omega)⟩
   obtain ⟨fg, hgr⟩ := hg3 m g hg
   obtain ⟨fh, hhr⟩ := hh3 m h hh
   obtain ⟨p1, q1, r1, T1, f1, rfl, hp1, hp2⟩ := hg2.at_ (by omega)
   obtain ⟨p2, q2, r2, T2, f2, rfl, hp3, hp4⟩ := hh2.at_ (by omega)
   have hv1 : r1[q1 + m]? = some (clV g) := by rw [hp2 m (by simp; omega), cls_get hg]
   have hv2 : r2[q2 + m]? = some (clV h) := by rw [hp4 m (by simp; omega), cls_get hh]
   have hk1 := hg2.le
   have hk2 := hh2.le
   have HV1 := zh hv1
   have HV2 := zh hv2
   have HS := zh (And.intro HX.out.b0 (And.intro HX.out.b1 (And.intro hp1 (And.intro hp3 (And.intro hgr hhr)))))
   have HLT := zh hlt
   clear hg1 hg2 hg3 hh1 hh2 hh3 hg hh hgr hhr hp1 hp2 hp3 hp4 hv1 hv2
   go_upto_region 6 with fail
   clear hc0 hc1
   refine zr (S := fun W => W.heap[w.heap.size]? = some (lsB (.slice (some ⟨p1, q1, none⟩) nb kc) (.slice Ar rs.length kr) (.slice Ai iss.length ki)) ∧ W.heap[w.heap.size + 1]? = some (lsB (.slice (some ⟨p2, q2, none⟩) nb lc) (.slice Br rs.length lr) (.slice Bi iss.length li)) ∧ W.heap[p1]? = some (.cells r1 T1 f1) ∧ W.heap[p2]? = some (.cells r2 T2 f2) ∧ W.heap[g]? = some (.cells (rowC (c m)) 5 fg) ∧ W.heap[h]? = some (.cells (rowC (c m)) 5 fh)) [12] (by kernel_rfl) HS.out (fun hHeld => ?_)
   (refine tz 0 ?_)
   (refine tkZ 1 (v := .slice (some ⟨p1, q1, none⟩) nb kc) rfl (by assumption) (fun W hS => yo _ _ rfl _ _ rfl _ _ _ hS.1 _ rfl (fun _ => by kernel_rfl)) ?_; (refine pts ?_))
   (refine tz 2 ?_)
   (refine tkZ 3 (v := .pointer (some ⟨p1, q1 + m, none⟩)) rfl (by assumption) (fun W hS => by clear hS; go_simp; first | done | rfl) ?_; (refine pts ?_))
   (refine tkZ 4 (v := .slice (some ⟨g, 0, none⟩) 4096 4096) rfl (by assumption) (fun W hS => yo _ _ rfl _ _ rfl _ _ _ hS.2.2.1 _ HV1.out (fun _ => by kernel_rfl)) ?_; (refine pts ?_))
   (refine tkZ 5 (v := .string (filB (c m))) rfl (by assumption) (fun W hS => by have hcv := conv_row hS.2.2.2.2.1; clear hS; go_simp; first | done | rfl) ?_; (refine pts ?_))
   (refine tz 6 ?_)
   (refine tkZ 7 (v := .slice (some ⟨p2, q2, none⟩) nb lc) rfl (by assumption) (fun W hS => yo _ _ rfl _ _ rfl _ _ _ hS.2.1 _ rfl (fun _ => by kernel_rfl)) ?_; (refine pts ?_))
   (refine tz 8 ?_)
   (refine tkZ 9 (v := .pointer (some ⟨p2, q2 + m, none⟩)) rfl (by assumption) (fun W hS => by clear hS; go_simp; first | done | rfl) ?_; (refine pts ?_))
   (refine tkZ 10 (v := .slice (some ⟨h, 0, none⟩) 4096 4096) rfl (by assumption) (fun W hS => yo _ _ rfl _ _ rfl _ _ _ hS.2.2.2.1 _ HV2.out (fun _ => by kernel_rfl)) ?_; (refine pts ?_))
   (refine tkZ 11 (v := .string (filB (c m))) rfl (by assumption) (fun W hS => by have hcv := conv_row hS.2.2.2.2.2; clear hS; go_simp; first | done | rfl) ?_; (refine pts ?_))
   refine z8 12 ?_
   simp only [List.drop_succ_cons, List.drop_zero]
   clear hHeld
   generalize filB (c m) = F at *
   go_wp2_with fail
   go_roundw
   case rel => exact ⟨m + 1, HLT.out, by go_num, zh (HX.out.stay (Below.refl _ _).drew)⟩
   case measure => have h1 := HLT.out; simp [intOf]; omega
  ·obtain rfl : m = nb := by omega
   clear hlt hm
   go_wp2_with fail
   clear hc0 hc1
   go_loopw [6] (fun i wr => ∃ k : Nat, k ≤ rs.length ∧ i = .int .i64 k ∧ Hid (Bx [lsB (.slice Ac m kc) (.slice Ar rs.length kr) (.slice Ai iss.length ki), lsB (.slice Bc m lc) (.slice Br rs.length lr) (.slice Bi iss.length li)] w wr)) (fun i _ => rs.length - (intOf i).toNat)
   case atStart => exact ⟨0, Nat.zero_le _, rfl, HX⟩
   case round =>
    clear HX
    obtain ⟨k, hk, rfl, HX⟩ := hrel
    have hc0 := fun o => cell_of_row wr w.heap.size o _ _ _ HX.out.b0
    have hc1 := fun o => cell_of_row wr (w.heap.size + 1) o _ _ _ HX.out.b1
    by_cases hlt : k < rs.length
    ·obtain ⟨r, hr⟩ : ∃ r, rs[k]? = some r := ⟨_, List.getElem?_eq_getElem hlt⟩
     obtain ⟨v1, v2, v3, hx⟩ := map_at HRA.out.2 hr
     obtain ⟨u1, u2, u3, hy⟩ := map_at HRB.out.2 hr
     have hra := HRA.out.1.below HX.out.bb
     have hrb := HRB.out.1.below HX.out.bb
     obtain ⟨⟨A1, k1, e1, hA1, hl1⟩, ⟨A2, k2, e2, hA2, hl2⟩, ⟨A3, k3, e3, hA3, hl3⟩⟩ := hra.rt _ (List.mem_of_getElem? hx)
     obtain ⟨⟨B1, l1, d1, hB1, -⟩, ⟨B2, l2, d2, hB2, -⟩, ⟨B3, l3, d3, hB3, -⟩⟩ := hrb.rt _ (List.mem_of_getElem? hy)
     dsimp only at e1 e2 e3 d1 d2 d3 hA1 hA2 hA3 hB1 hB2 hB3 hl1 hl2 hl3
     subst e1 e2 e3 d1 d2 d3
     obtain ⟨p1, q1, r1, T1, f1, rfl, hp1, hx1⟩ := RdS.elt (f := x6) (fun _ => rfl) hra.rd hx
     obtain ⟨p2, q2, r2, T2, f2, rfl, hp2, hx2⟩ := RdS.elt (f := x6) (fun _ => rfl) hrb.rd hy
     have HP1 := zh hp1
     have HP2 := zh hp2
     have HX1 := zh hx1
     have HX2 := zh hx2
     have HLT := zh hlt
     have HA := zh (And.intro hA1 (And.intro hA2 hA3))
     have HB := zh (And.intro hB1 (And.intro hB2 hB3))
     have HL := zh (And.intro hl1 (And.intro hl2 hl3))
     clear hr hx hy hra hrb hA1 hA2 hA3 hB1 hB2 hB3 hp1 hp2 hx1 hx2 hl1 hl2 hl3
     go_upto_region 12 with (first
      | (refine lmT 50 (x6 (r, .slice A1 r.code.length k1, .slice A2 r.calls.length k2, .slice A3 r.iss.length k3)) (HP1.out) (HX1.out) ?_)
      | (refine stN ?_))
     simp only [Act.put]
     obtain ⟨wk, hwk⟩ : ∃ wk, wr.alloc (.cells (x6 (r, .slice A1 r.code.length k1, .slice A2 r.calls.length k2, .slice A3 r.iss.length k3)).toArray 50) = wk := ⟨_, rfl⟩
     have hbk : Below wr.heap.size wr wk := hwk ▸ (Below.refl _ _).alloc (zn _) _
     have HK := zh (show wk.heap[wr.heap.size]? = some (rtB r A1 A2 A3 k1 k2 k3) from hwk ▸ heap_alloc_new wr _)
     have HBK := zh hbk
     rw [hwk]
     obtain ⟨gk, hgk⟩ : ∃ gk, wr.heap.size = gk := ⟨_, rfl⟩
     have HGK := zh hgk
     rw [hgk] at HK ⊢
     clear hwk hbk hgk hc0 hc1
     have hc1 := fun o => cell_of_row wk (w.heap.size + 1) o _ _ _ (za HBK.out HX.out.b1)
     have HP2 := zh (za HBK.out HP2.out)
     go_upto_region 13 with (first
      | (refine lmT 50 (x6 (r, .slice B1 r.code.length l1, .slice B2 r.calls.length l2, .slice B3 r.iss.length l3)) (HP2.out) (HX2.out) ?_)
      | (refine stN ?_))
     simp only [Act.put]
     obtain ⟨wj, hwj⟩ : ∃ wj, wk.alloc (.cells (x6 (r, .slice B1 r.code.length l1, .slice B2 r.calls.length l2, .slice B3 r.iss.length l3)).toArray 50) = wj := ⟨_, rfl⟩
     have hbj : Below wk.heap.size wk wj := hwj ▸ (Below.refl _ _).alloc (zn _) _
     have HJ := zh (show wj.heap[wk.heap.size]? = some (rtB r B1 B2 B3 l1 l2 l3) from hwj ▸ heap_alloc_new wk _)
     have HKJ := zh (za hbj HK.out)
     have HBJ := zh (HBK.out.trans (hbj.mono HBK.out.size))
     rw [hwj]
     obtain ⟨gj, hgj⟩ : ∃ gj, wk.heap.size = gj := ⟨_, rfl⟩
     rw [hgj] at HJ ⊢
     clear hwj hbj hgj hc1 HP1 HP2 HX1 HX2 HK HBK
     have HIT := zh (fun W (hb : Below wr.heap.size wr W) => items_any I r.code A1 B1 k1 l1 W (HA.out.1.below hb) (HB.out.1.below hb) HL.out.1)
     have HSM := zh (fun W (hb : Below wr.heap.size wr W) => same5_any r.calls A2 B2 k2 l2 W (HA.out.2.1.below hb) (HB.out.2.1.below hb) HL.out.2.1)
     have HIS := zh (fun W (hb : Below wr.heap.size wr W) => issues_any r.iss r.iss A3 B3 k3 l3 W (HA.out.2.2.below hb) (HB.out.2.2.below hb) HL.out.2.2 HL.out.2.2)
     have hck := fun o => cell_of_row wj gk o _ _ _ HKJ.out
     have hcj := fun o => cell_of_row wj gj o _ _ _ HJ.out
     go_upto_region 14 with (go_at_call 38; (with_reducible refine (HIT.out _ HBJ.out).mono ?_); rintro e5 w5 ⟨rfl, hb5⟩; have HB5 := zh (HBJ.out.trans (hb5.mono HBJ.out.size)); have HK5 := zh (za hb5 HKJ.out); have HJ5 := zh (za hb5 HJ.out); clear hb5)
     clear hck hcj
     have hck := fun o => cell_of_row w5 gk o _ _ _ HK5.out
     have hcj := fun o => cell_of_row w5 gj o _ _ _ HJ5.out
     go_upto_region 15 with (go_at_call 39; (with_reducible refine (HSM.out _ HB5.out).mono ?_); rintro e6 w6 ⟨rfl, hb6⟩; have HB6 := zh (HB5.out.trans (hb6.mono HB5.out.size)); have HK6 := zh (za hb6 HK5.out); have HJ6 := zh (za hb6 HJ5.out); clear hb6)
     clear hck hcj
     have hck := fun o => cell_of_row w6 gk o _ _ _ HK6.out
     have hcj := fun o => cell_of_row w6 gj o _ _ _ HJ6.out
     have hdi : decide (r.iss = r.iss) = true := decide_eq_true rfl
     go_upto_region 16 with (go_at_call 32; (with_reducible refine (HIS.out _ HB6.out).mono ?_); rintro e7 w7 ⟨rfl, hb7⟩; have HB7 := zh (HB6.out.trans (hb7.mono HB6.out.size)); have HK7 := zh (za hb7 HK6.out); have HJ7 := zh (za hb7 HJ6.out); clear hb7)
     clear hck hcj
     have hck := fun o => cell_of_row w7 gk o _ _ _ HK7.out
     have hcj := fun o => cell_of_row w7 gj o _ _ _ HJ7.out
     go_wp2_with fail
     go_roundw
     case rel => exact ⟨k + 1, HLT.out, by go_num, zh (HX.out.stay HB7.out)⟩
     case measure => have h1 := HLT.out; simp [intOf]; omega
    ·have HIS := zh (issues_any iss iss Ai Bi ki li wr (HIA.out.below HX.out.bb) (HIB.out.below HX.out.bb) HLI.out HLI.out)
     have hdi : decide (iss = iss) = true := decide_eq_true rfl
     go_wp2_with (go_at_call 32; (with_reducible refine HIS.out.mono ?_); rintro e5 w5 ⟨rfl, hb5⟩; have HB5 := zh (HX.out.bb.trans (hb5.mono HX.out.bb.size)); clear hb5)
     go_ret
     exact ⟨by first | rfl | (simp; done), HB5.out⟩
end Go.Proofs.YteofmaiojepdkaaGreat
namespace Go.Proofs.YteofmaiojepdkaaGreat
open Go Go.RowKit Go.Maps Go.Sort
def ScD (I : zk) (more : List zb) (a b c : Value) (w : World) : Prop := ∃ L k, IsLst I more L ∧ L.cls = clsL I k ∧ LstD I I.banks.length k L.rts L.iss a b c w
theorem ScD.below {I : zk} {more : List zb} {a b c : Value} {w w' : World} (h : ScD I more a b c w) (hb : Below w.heap.size w w') : ScD I more a b c w' := by
 obtain ⟨L, k, h1, h2, h3⟩ := h
 exact ⟨L, k, h1, h2, h3.below hb⟩
def ScE (I : zk) (more : List zb) (w : World) (e : Ending) (w' : World) : Prop := ∃ a b c, e = .returned (.agg #[a, b, c]) ∧ ScD I more a b c w' ∧ Below w.heap.size w w'
theorem scp_e {I : zk} (hI : I.Ok) {more : List zb} {w w' : World} {e : Ending} (h : ScP I more w e w') : ScE I more w e w' := by
 obtain ⟨L, vc, vr, vi, he, hL, hv, hb⟩ := h
 obtain ⟨c, hc, hr⟩ := hv.read hI
 exact ⟨vc, vr, vi, he, ⟨L, c, hL, hc, hr⟩, hb⟩
theorem scn_same {I : zk} {more : List zb} {a b c a' b' c' : Value} {w : World} (h : ScD I more a b c w) (h' : ScD I more a' b' c' w) :
  Calls Tryz.prog 16 #[.agg #[a, b, c], .agg #[a', b', c']] w fun e w' => e = .returned (.bool true) ∧ Below w.heap.size w w' := by
 obtain ⟨L, k, h1, h2, h3⟩ := h
 obtain ⟨L', k', h4, h5, h6⟩ := h'
 obtain rfl := h1.uniq h4
 exact same_any I I.banks.length k L.rts L.iss _ _ _ _ _ _ w h3 (h6.other (fun b o hb ho => clsL_eq (h5.symm.trans h2) hb ho))
section
variable {I : zk} (hI : I.Ok) (ba : Option Addr) (bc : Nat) (da : Option Addr) (dc : Nat) {more : List zb} (hm : (∀ p ∈ more, yO p) ∧ more.length ≤ 4) {A : Option Addr} {c B : Nat} {W : World} (hV : yG W I ba bc da dc) (ho : W.ownsRow B 47 2 (.slice A more.length c) more.length (zp more))
include hI hm hV ho
theorem scan_e : Calls Tryz.prog 17 #[.agg #[.slice ba I.banks.length bc, .int .u16 I.entry, .int .u16 I.vector, .slice da I.data.length dc, .slice none 0 0], .slice A more.length c] W (ScE I more W) :=
 (scan_any I hI ba bc da dc none 0 0 more hm.1 (by have := hm.2; omega) A c W hV (yd ho) (rd_ptr ho)).mono fun e W' h => scp_e hI h
theorem rscan_e : Calls Tryz.prog 19 #[.agg #[.slice ba I.banks.length bc, .int .u16 I.entry, .int .u16 I.vector, .slice da I.data.length dc, .slice none 0 0], .slice A more.length c] W (ScE I more W) :=
 (rscan_any I hI ba bc da dc none 0 0 more hm.1 (by have := hm.2; omega) A c W hV (yd ho)).mono fun e W' h => scp_e hI h
end
end Go.Proofs.YteofmaiojepdkaaGreat
namespace Go.Proofs.YteofmaiojepdkaaGreat
open Go Go.RowKit Go.Maps Go.Sort
def bytI (a b : Nat → Int) (en ve : Int) : zk := ⟨[filN 4096 a, filN 4096 b], en, ve, []⟩
theorem bytI_ok (a b : Nat → Int) {en ve : Int} (he : 0 ≤ en ∧ en < 65536) (hv : 0 ≤ ve ∧ ve < 65536) : (bytI a b en ve).Ok := by
 refine ⟨show 1 ≤ 2 by decide, show 2 ≤ 64 by decide, fun t ht => ?_, he, hv, fun o ho => (by cases ho), Nat.zero_le _⟩
 have h1 : t ∈ [filN 4096 a, filN 4096 b] := ht
 simp only [List.mem_cons, List.not_mem_nil, or_false] at h1
 rcases h1 with rfl | rfl <;> exact filN_size _ _
theorem u16_bd (x : Int) : 0 ≤ IntKind.u16.wrap x ∧ IntKind.u16.wrap x < 65536 := by unfold IntKind.wrap; simp [IntKind.bits, IntKind.signed]; omega
section
variable {a b : Nat → Int} {en ve : Int} (hI : (bytI a b en ve).Ok) {gb : Nat} {more : List zb} (hm : (∀ p ∈ more, yO p) ∧ more.length ≤ 4) {A : Option Addr} {c B : Nat} {W : World} (hV : yG W (bytI a b en ve) (some ⟨gb, 0, none⟩) 2 none 0) (ho : W.ownsRow B 47 2 (.slice A more.length c) more.length (zp more))
include hI hm hV ho
theorem bscan_e : Calls Tryz.prog 17 #[.agg #[.slice (some ⟨gb, 0, none⟩) 2 2, .int .u16 en, .int .u16 ve, .slice none 0 0, .slice none 0 0], .slice A more.length c] W (ScE (bytI a b en ve) more W) := scan_e hI _ 2 none 0 hm hV ho
theorem brscan_e : Calls Tryz.prog 19 #[.agg #[.slice (some ⟨gb, 0, none⟩) 2 2, .int .u16 en, .int .u16 ve, .slice none 0 0, .slice none 0 0], .slice A more.length c] W (ScE (bytI a b en ve) more W) := rscan_e hI _ 2 none 0 hm hV ho
end
abbrev byB (g : Nat) (en ve : Int) : Obj := .cells #[.slice (some ⟨g, 0, none⟩) 2 2, .int .u16 en, .int .u16 ve, .slice none 0 0, .slice none 0 0] 31
set_option maxRecDepth 100000 in
set_option maxHeartbeats 8000000 in
theorem scanbytes_any (sd : Int) (en : Int) (hen : 0 ≤ en ∧ en < 65536) (p2 : Option Addr) (n2 cap2 : Nat) (Q2 : Nat → Nat → Int) (hn2 : n2 ≤ 9223372036854775807) (hQ2 : ∀ i j, ja (Q2 i j)) (w : World) (hR : TwoV w (.slice p2 n2 cap2) n2 Q2) :
  Calls Tryz.prog 4 #[.int .u32 sd, .int .u16 en, .slice p2 n2 cap2] w fun e w' => e = .returned (.bool true) ∧ Below w.heap.size w w' := by
 have HSA := zh (fun W => sane_any W)
 have HFI := zh (fun s W => show Calls Tryz.prog 20 #[.int .u32 s, .int .i64 4096] W fun e w' => e = .returned (.string (filN 4096 (filF s))) ∧ Below W.heap.size W w' from fill_any s 4096 (by omega) W)
 have HPL := zh (fun W (hb : Below w.heap.size w W) => places_any p2 n2 cap2 Q2 hn2 W (hR.below hb))
 have HM := zh (And.intro (plsQ_ok (n := n2) hQ2) (plsQ_len n2 Q2))
 have HEN := zh hen
 clear hR hn2 hen
 generalize plsQ n2 Q2 = more at *
 go_enter Tryz.func4, Tryz.ntmps4
 go_upto_region 3 with (first
  | (go_at_call 14; (with_reducible refine (HSA.out _).mono ?_); rintro e1 w1 ⟨rfl, hb1⟩; have HB1 := zh hb1; clear hb1)
  | (go_at_call 20; (with_reducible refine (HFI.out _ _).mono ?_); rintro e2 w2 ⟨rfl, hb2⟩; first | (have HB9 := zh (HB2.out.trans (hb2.mono HB2.out.size))) | (have HB2 := zh (HB1.out.trans (hb2.mono HB1.out.size))); clear hb2)
  | (refine stN ?_))
 try simp only [Act.put]
 obtain ⟨ve, hve⟩ : ∃ ve, IntKind.u16.wrap (bits .and .u32 sd 4095) = ve := ⟨_, rfl⟩
 have hvb := u16_bd (bits .and .u32 sd 4095)
 obtain ⟨fa, hfa⟩ : ∃ f, filF sd = f := ⟨_, rfl⟩
 obtain ⟨fb, hfb⟩ : ∃ f, filF ((sd + 1) % 4294967296) = f := ⟨_, rfl⟩
 rw [hve] at hvb
 rw [hve, hfa, hfb]
 have HI := zh (bytI_ok fa fb HEN.out hvb)
 have hx := Bx.two w2 (.cells #[.string (filN 4096 fa), .string (filN 4096 fb)] 9) (byB w2.heap.size en ve)
 obtain ⟨w3, hw3⟩ : ∃ w3, (w2.alloc (.cells #[.string (filN 4096 fa), .string (filN 4096 fb)] 9)).alloc (byB w2.heap.size en ve) = w3 := ⟨_, rfl⟩
 rw [hw3] at hx ⊢
 have HV3 := zh (show yG w3 (bytI fa fb en ve) (some ⟨w2.heap.size, 0, none⟩) 2 none 0 from ⟨⟨zn _, rfl, fun _ => ⟨w2.heap.size, 0, _, _, _, rfl, hx.b0, fun j hj => by rw [Nat.zero_add, ← Array.getElem?_toList]; rfl⟩⟩, ⟨zn _, rfl, fun h => by cases h⟩⟩)
 have HG3 := zh hx.b1
 have HX3 := zh (HB9.out.trans (hx.bb.mono HB9.out.size))
 obtain ⟨gb, hgb⟩ : ∃ g, w2.heap.size = g := ⟨_, rfl⟩
 rw [hgb] at HV3 HG3 ⊢
 obtain ⟨gi, hgi⟩ : ∃ g, gb + 1 = g := ⟨_, rfl⟩
 rw [hgi] at HG3 ⊢
 clear hx hw3 hgb hgi hve hfa hfb hvb HB1 HB2 HB9 HFI HSA HEN
 refine zr (S := fun W => W.heap[gi]? = some (byB gb en ve)) [10, 11, 12] (by kernel_rfl) (za (Below.refl w3.heap.size w3).drew HG3.out) (fun hHeld => ?_)
 (refine tz 0 ?_)
 (refine tz 1 ?_)
 (refine tkZ 2 (v := .agg #[.slice (some ⟨gb, 0, none⟩) 2 2, .int .u16 en, .int .u16 ve, .slice none 0 0, .slice none 0 0]) rfl (by assumption) (fun W hS => zW _ _ rfl _ rfl _ _ _ hS (by kernel_rfl)) ?_; (refine pts ?_))
 (refine tz 3 ?_)
 (refine tkZ 6 (v := .agg #[.slice (some ⟨gb, 0, none⟩) 2 2, .int .u16 en, .int .u16 ve, .slice none 0 0, .slice none 0 0]) rfl (by assumption) (fun W hS => zW _ _ rfl _ rfl _ _ _ hS (by kernel_rfl)) ?_; (refine pts ?_))
 (refine tz 7 ?_)
 have HWD := zh (Below.refl w3.heap.size w3).drew
 obtain ⟨wd, hwd⟩ : ∃ wd, w3.drew = wd := ⟨_, rfl⟩
 rw [hwd] at HWD hHeld ⊢
 clear hwd hHeld
 refine yx 4 rfl (fun K hK => ?_)
 go_simp
 go_at_call 18
 (with_reducible refine (HPL.out _ (HX3.out.trans (HWD.out.mono HX3.out.size))).mono ?_)
 rintro e4 w4 ⟨⟨A, cc, rfl, how⟩, hb4⟩
 have HO4 := zh how
 have HB4 := zh (HWD.out.trans (hb4.mono HWD.out.size))
 clear how hb4
 go_simp
 refine hK.out _ _ (.inr (za HB4.out HG3.out)) ?_
 (refine pts ?_)
 clear hK K
 refine yx 5 rfl (fun K hK => ?_)
 go_simp
 go_at_call 17
 (with_reducible refine (bscan_e HI.out HM.out (HV3.out.below HB4.out) HO4.out).mono ?_)
 rintro e5 w5 ⟨a0, a1, a2, rfl, hd5, hb5⟩
 have HD5 := zh hd5
 have HB5 := zh (HB4.out.trans (hb5.mono HB4.out.size))
 clear hd5 hb5
 go_simp
 refine hK.out _ _ (.inr (za HB5.out HG3.out)) ?_
 (refine pts ?_)
 clear hK K
 refine yx 8 rfl (fun K hK => ?_)
 go_simp
 go_at_call 18
 (with_reducible refine (HPL.out _ (HX3.out.trans (HB5.out.mono HX3.out.size))).mono ?_)
 rintro e6 w6 ⟨⟨A6, c6, rfl, how⟩, hb6⟩
 have HO6 := zh how
 have HD6 := zh (HD5.out.below hb6)
 have HB6 := zh (HB5.out.trans (hb6.mono HB5.out.size))
 clear how hb6
 go_simp
 refine hK.out _ _ (.inr (za HB6.out HG3.out)) ?_
 (refine pts ?_)
 clear hK K
 refine yx 9 rfl (fun K hK => ?_)
 go_simp
 go_at_call 19
 (with_reducible refine (brscan_e HI.out HM.out (HV3.out.below HB6.out) HO6.out).mono ?_)
 rintro e7 w7 ⟨b0, b1, b2, rfl, hd7, hb7⟩
 have HSM := zh (scn_same (HD6.out.below hb7) hd7)
 have HB7 := zh (HB6.out.trans (hb7.mono HB6.out.size))
 clear hd7 hb7
 go_simp
 refine hK.out _ _ (.inr (za HB7.out HG3.out)) ?_
 (refine pts ?_)
 clear hK K
 refine z8 10 ?_
 simp only [List.drop_succ_cons, List.drop_zero]
 go_wp2_with (first
  | (go_at_call 16; (with_reducible refine HSM.out.mono ?_); rintro e8 w8 ⟨rfl, hb8⟩; have HB8 := zh (HB7.out.trans (hb8.mono HB7.out.size)); clear hb8))
 go_ret
 exact ⟨rfl, HX3.out.trans (HB8.out.mono HX3.out.size)⟩
end Go.Proofs.YteofmaiojepdkaaGreat
