/- The law ScanUnknown, walked. Condition: the numbers lie in their types' ranges. -/
import Derived.Test.YteofmaiojepdkaaGreatSdLcTx
set_option linter.all false
namespace Go.Proofs.YteofmaiojepdkaaGreat
open Go Go.RowKit Go.Maps Go.Sort
theorem byt_idx (s : ByteArray) (o : Nat) (h : o < s.size) : ((s[o]'h).toNat : Int) = byt s o := by
 unfold byt
 have h2 : o < s.data.toList.length := by rw [Array.length_toList]; exact h
 rw [List.getD_eq_getElem?_getD, List.getElem?_eq_getElem h2]
 rfl
theorem rd_srcU {w : World} {s : Nat} {A : Option Addr} {n cap : Nat} {xs : List Value} (h : RdS w s A n cap xs) : SrcW w s A n xs :=
 ⟨h.len, fun h0 => by
  obtain ⟨g, off, cur, T, fr, e, h1, h2⟩ := h.at_ h0
  exact ⟨_, e, fun j u hu => by
   rw [cell_add h1, h2 j (List.getElem?_eq_some_iff.1 hu).1, hu]⟩⟩
set_option maxRecDepth 100000 in
set_option maxHeartbeats 8000000 in
theorem scanunknown_any (p : Option Addr) (n cap : Nat) (Q : Nat → Nat → Int) (hn : n ≤ 9223372036854775807) (N : Nat → Int) (N2 : Nat → Int) (hN2 : ∀ k, yX (N2 k)) (w : World) (hQ : FivV w (.slice p n cap) n Q) :
  Calls Tryz.prog 10 #[.slice p n cap, .agg #[.int .i64 (N 0), .int .i64 (N 1), .int .i64 (N 2), .int .i64 (N 3)], .agg #[.int .i64 (N2 0), .int .i64 (N2 1)]] w fun e w' => e = .returned (.bool true) ∧ Below w.heap.size w w' := by
 have HSA := zh (fun W => sane_any W)
 have HLA := zh (fun W (hb : Below w.heap.size w W) => laid_any p n cap Q hn N W (hQ.below hb))
 have HX := zh (Bx.two w (boxQ N) (boxT N2))
 obtain ⟨b, hbe, hb2⟩ := and1_nat (N2 0)
 obtain ⟨o, hoe, ho2⟩ := and4095_nat (N2 1)
 have HBE := zh hbe
 have HOE := zh hoe
 clear hQ hn hbe hoe
 go_enter Tryz.func10, Tryz.ntmps10
 go_upto_region 1 with fail
 obtain ⟨wi, hwi⟩ : ∃ wi, (w.alloc (boxQ N)).alloc (boxT N2) = wi := ⟨_, rfl⟩
 rw [hwi] at HX ⊢
 clear hwi
 go_upto_region 3 with (first
  | (go_at_call 14; (with_reducible refine (HSA.out _).mono ?_); rintro e1 w1 ⟨rfl, hb1⟩; have HX1 := zh (HX.out.stay hb1); clear hb1)
  | (refine zb 23 _ rfl _ rfl _ _ _ (HX1.out.b0) ?_ ?_ ?_; kernel_rfl; kernel_rfl)
  | (go_at_call 15; (with_reducible refine (HLA.out _ HX1.out.bb).mono ?_); rintro e2 w2 ⟨⟨I, gb, gd, ⟨hI, -⟩, hI3, rfl, hV⟩, hb2⟩; have HX2 := zh (HX1.out.stay hb2); have HI := zh hI; have HV := zh hV; clear hb2 hI hI3 hV)
  | (refine wpList_store_row rfl _ _ _ rfl _ _ rfl rfl _ _ (heap_alloc_new _ _) ?_ ?_ ?_ ?_; kernel_rfl; rfl; kernel_rfl; rw [World.setRow_alloc_new]))
 have hb3 : Below w2.heap.size w2 (w2.alloc (imgI I gb gd)) := (Below.refl _ _).alloc (zn _) _
 have HX3 := zh (HX2.out.stay hb3)
 have HV3 := zh (HV.out.below hb3)
 have HG3 := zh (heap_alloc_new w2 (imgI I gb gd))
 obtain ⟨w3, hw3⟩ : ∃ w3, w2.alloc (imgI I gb gd) = w3 := ⟨_, rfl⟩
 obtain ⟨gi, hgi⟩ : ∃ gi, w2.heap.size = gi := ⟨_, rfl⟩
 rw [hw3] at HX3 HV3 HG3 ⊢
 rw [hgi] at HG3 ⊢
 clear hb3 hw3 hgi HX HX1 HX2 HV HSA HLA
 have HSC := zh (scan_q0 HI.out.ok HV3.out)
 go_upto_region 4 with (first
  | (refine zb 31 _ rfl _ rfl _ _ _ (HG3.out) ?_ ?_ ?_; kernel_rfl; kernel_rfl)
  | (go_at_call 17; (with_reducible refine HSC.out.mono ?_); rintro e5 w5 ⟨L, Bc, mc, jc, Br, mr, jr, Bi, mi, ji, rfl, hL, hlv, hb5⟩; have HLL := zh (And.intro hL hlv); have HB5 := zh hb5; clear hL hlv hb5)
  | (refine wpList_store_row rfl _ _ _ rfl _ _ rfl rfl _ _ (heap_alloc_new _ _) ?_ ?_ ?_ ?_; kernel_rfl; rfl; kernel_rfl; rw [World.setRow_alloc_new]))
 have hlw := lw_mk0c HI.out.ok HG3.out HV3.out HLL.out.2 HB5.out
 have HLA := zh HLL.out.1
 obtain ⟨gl, hgl⟩ : ∃ gl, w5.heap.size = gl := ⟨_, rfl⟩
 obtain ⟨wo, hwo⟩ : ∃ wo, w5.alloc (.cells #[.slice Bc mc jc, .slice Br mr jr, .slice Bi mi ji] 38) = wo := ⟨_, rfl⟩
 rw [hgl, hwo] at hlw ⊢
 obtain ⟨c, hcls, hw, hb6⟩ := hlw
 have HCL := zh hcls
 have HW := zh hw
 have HXO := zh (HX3.out.stay hb6)
 clear hgl hwo hw hb6 hcls HLL HB5 HSC HX3 HV3 HG3
 obtain ⟨rs, its, hrs, hits, hok, rfl⟩ := few_lst HI.out.ok HI.out.few (fun p hp => by cases hp) (by simp) HLA.out
 have HRS := zh (And.intro hrs (And.intro hits hok))
 have hn3 : I.banks.length = 3 := HI.out.few.n3
 obtain ⟨Ac, kc, hcc, hcd⟩ := HW.out.rd.cls
 injection hcc with hc1 hc2 hc3
 subst hc1 hc2 hc3
 obtain ⟨gs, hgs, hcr, hcg⟩ := hcd.rd
 have hbn : b < I.banks.length := by omega
 obtain ⟨g, hgg⟩ : ∃ g, gs[b]? = some g := ⟨_, List.getElem?_eq_getElem (by omega)⟩
 obtain ⟨fg, hgr⟩ := hcg b g hgg
 obtain ⟨gc, oc, curc, Tc, fc, rfl, hgc, hcat⟩ := hcr.at_ (by omega)
 have hcb : curc[oc + b]? = some (.slice (some ⟨g, 0, none⟩) 4096 4096) := by rw [hcat b (by simp; omega), List.getElem?_map, hgg]; rfl
 obtain ⟨v, hv⟩ : ∃ v, c b o = v := ⟨_, rfl⟩
 have hcell1 : wo.cell? ⟨gc, oc + b, none⟩ = some (.slice (some ⟨g, 0, none⟩) 4096 4096) := by rw [cell_of_row _ _ _ _ _ _ hgc]; exact hcb
 have hcell2 : wo.cell? ⟨g, o, none⟩ = some (.int .u8 v) := by rw [cell_of_row _ _ _ _ _ _ hgr, xY _ ho2, hv]
 have HVV := zh (show v = clOf I its b o from hv ▸ (clsL_eq HCL.out.symm hbn ho2))
 have hkc := hcr.le
 clear hrs hits hok hgs hcr hcg hgg hgr hgc hcat hcb hcd hv
 have hcp := fun o => cell_of_row wo (w.heap.size + 1) o _ _ _ HXO.out.b1
 have hcl := fun o => cell_of_row wo gl o _ _ _ HW.out.ls
 have hnI : ((I.banks.length : Nat) : Int) = 3 := by omega
 clear hn3
 have hbe := HBE.out
 have hoe := HOE.out
 go_upto_region 6 with fail
 clear hbe hoe hcp
 go_upto_region 9 with fail
 clear hcl hcell1 hcell2 hnI
 by_cases hv5 : v = 0 ∨ v = 5
 ·have HNO := zh (cl_none (I := I) (its := its) (b := b) (o := o) (by rw [← HVV.out]; exact hv5))
  have HB := zh HXO.out.bb
  clear HXO HVV HBE HOE hN2
  go_cut [53] (fun s wx => s = .bool false ∧ wx = wo)
  case first =>
   rcases hv5 with rfl | rfl
   all_goals
    go_wp2_with fail
    go_meet
    exact ⟨rfl, rfl⟩
  case rest =>
   obtain ⟨rfl, hwc⟩ := hcut
   rw [hwc]
   clear hv5 hwc wc
   obtain ⟨R, Ar, kr, hr0, hR, hRL⟩ := HW.out.rd.rts
   injection hr0 with hr1 hr2 hr3
   subst hr1 hr2 hr3
   have HS := zh (hRL.symm ▸ lst_lstR HI.out.ok (fun p hp => by cases hp) HLA.out : LstR I [] (R.map (·.1)))
   have HRL := zh (show R.map (·.1) = rs from hRL)
   have HR := zh hR
   have hkr := hR.rd.le
   have hlr := hR.le
   clear hR hRL
   have hcl := fun o => cell_of_row wo gl o _ _ _ HW.out.ls
   go_wp2_with fail
   clear hcl
   go_loopw [13] (fun i wr => ∃ m : Nat, m ≤ R.length ∧ i = .int .i64 m ∧ Hid (∀ x ∈ R.take m, x.1.iss.any (nearB I b o) = false) ∧ Hid (Below wo.heap.size wo wr)) (fun i _ => R.length - (intOf i).toNat)
   case atStart => exact ⟨0, Nat.zero_le _, rfl, zh (fun x hx => by cases hx), zh (Below.refl _ _)⟩
   case round =>
    obtain ⟨m, hm, rfl, HNB, HBR⟩ := hrel
    have HWR := zh (HW.out.below HBR.out)
    have hcl := fun o => cell_of_row wr gl o _ _ _ HWR.out.ls
    by_cases hlt : m < R.length
    ·obtain ⟨x, hx⟩ : ∃ x, R[m]? = some x := ⟨_, List.getElem?_eq_getElem hlt⟩
     have hrt := (HR.out.below HBR.out).rt x (List.mem_of_getElem? hx)
     obtain ⟨A3, k3, e3, hr3, hl3⟩ := hrt.oi
     obtain ⟨gr, ro, cur, T, fr, rfl, hg, -, -, hcc⟩ := RdS.eltPart (f := rtvL) (fun _ => rfl) (HR.out.below HBR.out).rd hx (a := 7) (m := 1) (by omega) (L := [x.2.2.2]) rfl
     have hci : cur[ro + m * 8 + 7]? = some (.slice A3 x.1.iss.length k3) := by
      have h1 := hcc 0 (by omega)
      rw [cell_of_row _ _ _ _ _ _ hg, e3] at h1
      exact h1
     have HXX := zh hx
     have HCI := zh hci
     have HLT := zh hlt
     have HNR := zh (fun W (h : Below wr.heap.size wr W) => near_any I HI.out.ok gb gd x.1.iss A3 k3 b o ho2 W (hr3.below h) hl3 (HS.out.iss (List.mem_map.2 ⟨x, List.mem_of_getElem? hx, rfl⟩)) (HWR.out.below h).vw)
     have HSS := zh (And.intro HWR.out.im (And.intro HWR.out.ls hg))
     clear hg hcc hci hx e3 hrt
     go_upto_region 14 with fail
     clear hcl
     refine zm (S := fun W => W.heap[gi]? = some (imgI I gb gd) ∧ W.heap[gl]? = some (.cells #[.slice (some ⟨gc, oc, none⟩) I.banks.length jc, .slice (some ⟨gr, ro, none⟩) R.length jr, .slice Bi mi ji] 38 (0, 0)) ∧ W.heap[gr]? = some (.cells cur T fr)) [] (by kernel_rfl) HSS.out (fun hHeld => ?_)
     (refine tkZ 0 (v := .agg #[.slice (some ⟨gb, 0, none⟩) I.banks.length 3, .int .u16 I.entry, .int .u16 I.vector, .slice (some ⟨gd, 0, none⟩) I.data.length 3, .slice none 0 0]) rfl (by assumption) (fun W hS => zW _ _ rfl _ rfl _ _ _ hS.1 (by kernel_rfl)) ?_; (try simp only [zA, zB, zC, Act.put, zD, zE, zF]))
     (refine tkZ 1 (v := ?_) rfl (by assumption) ?_ ?_; rotate_left; (focus (intro w hSw; (try dsimp only at hSw); go_simp; try with_reducible rfl)); (try simp only [zA, zB, zC, Act.put, zD, zE, zF]))
     (refine tkZ 2 (v := .slice (some ⟨gr, ro, none⟩) R.length jr) rfl (by assumption) (fun W hS => zq _ _ rfl _ _ rfl _ _ _ hS.2.1 _ rfl (fun _ => by kernel_rfl)) ?_; (try simp only [zA, zB, zC, Act.put, zD, zE, zF]))
     (refine tkZ 3 (v := ?_) rfl (by assumption) ?_ ?_; rotate_left; (focus (intro w hSw; (try dsimp only at hSw); go_simp; try with_reducible rfl)); (try simp only [zA, zB, zC, Act.put, zD, zE, zF]))
     (refine tkZ 4 (v := .pointer (some ⟨gr, ro + m * 8, none⟩)) rfl (by assumption) (fun W hS => by clear hS; go_simp; first | done | rfl) ?_; (try simp only [zA, zB, zC, Act.put, zD, zE, zF]))
     (refine tkZ 5 (v := .pointer (some ⟨gr, ro + m * 8 + 7, none⟩)) rfl (by assumption) (fun W hS => by clear hS; go_simp; first | done | rfl) ?_; (try simp only [zA, zB, zC, Act.put, zD, zE, zF]))
     (refine tkZ 6 (v := .slice A3 x.1.iss.length k3) rfl (by assumption) (fun W hS => zq _ _ rfl _ _ rfl _ _ _ hS.2.2 _ HCI.out (fun _ => by kernel_rfl)) ?_; (try simp only [zA, zB, zC, Act.put, zD, zE, zF]))
     (refine tkZ 7 (v := ?_) rfl (by assumption) ?_ ?_; rotate_left; (focus (intro w hSw; (try dsimp only at hSw); go_simp; try with_reducible rfl)); (try simp only [zA, zB, zC, Act.put, zD, zE, zF]))
     (refine tkZ 8 (v := ?_) rfl (by assumption) ?_ ?_; rotate_left; (focus (intro w hSw; (try dsimp only at hSw); go_simp; try with_reducible rfl)); (try simp only [zA, zB, zC, Act.put, zD, zE, zF]))
     have HWD := zh (Below.refl wr.heap.size wr).drew
     obtain ⟨wd, hwd⟩ : ∃ wd, wr.drew = wd := ⟨_, rfl⟩
     rw [hwd] at HWD hHeld ⊢
     clear hwd hHeld
     refine yk 9 rfl (fun K hK => ?_)
     go_simp
     go_at_call 31
     (with_reducible refine (HNR.out _ HWD.out).mono ?_)
     rintro e9 w9 ⟨rfl, hb9⟩
     have HB9 := zh (HWD.out.trans (hb9.mono HWD.out.size))
     clear hb9
     go_simp
     refine hK.out _ _ (.inr ⟨za HB9.out HSS.out.1, za HB9.out HSS.out.2.1, za HB9.out HSS.out.2.2⟩) ?_
     (try simp only [zA, zB, zC, Act.put, zD, zE, zF])
     clear hK K
     refine ya 10 ?_
     simp only [List.drop_succ_cons, List.drop_zero]
     cases hnb : x.1.iss.any (nearB I b o) with
     | true =>
      go_wp2_with fail
      go_ret
      exact ⟨rfl, HB.out.trans ((HBR.out.trans (HB9.out.mono HBR.out.size)).mono HB.out.size)⟩
     | false =>
      have HNX := zh hnb
      clear hnb
      go_wp2_with fail
      go_roundw
      case rel =>
       refine ⟨m + 1, HLT.out, by go_num, zh (fun y hy => ?_), zh (HBR.out.trans (HB9.out.mono HBR.out.size))⟩
       rw [List.take_succ, HXX.out, List.mem_append] at hy
       rcases hy with hy | hy
       ·exact HNB.out y hy
       ·rw [show y = x by simpa using hy]; exact HNX.out
      case measure => have h1 := HLT.out; simp [intOf]; omega
    ·obtain rfl : m = R.length := by omega
     obtain ⟨wq, rfl⟩ : ∃ wq : World, wq = wr := ⟨_, rfl⟩
     have HBQ := zh (HB.out.trans (HBR.out.mono HB.out.size))
     obtain ⟨s, hs⟩ : ∃ s, I.banks[b]? = some s := ⟨_, List.getElem?_eq_getElem hbn⟩
     have HBS := zh hs
     have hsz : s.size = 4096 := HI.out.ok.sz s (List.mem_of_getElem? hs)
     have hgd : I.banks.getD b ⟨#[]⟩ = s := by rw [List.getD_eq_getElem?_getD, hs]; rfl
     have hnn : ∀ r ∈ rs, ∀ x ∈ r.iss, ¬ (inI I x.at_ = true ∧ hitP b o x.at_ 7) := fun r hr x hx ⟨h1, h2, h3, h4⟩ => by
      rw [← HRL.out] at hr
      obtain ⟨y, hy, rfl⟩ := List.mem_map.1 hr
      have h5 := HNB.out y (by rwa [List.take_of_length_le (zn _)])
      rw [List.any_eq_false] at h5
      refine h5 x hx ?_
      unfold nearB
      rw [h1, decide_eq_true h2, decide_eq_true h3, decide_eq_true (show o < zJ x.at_ + 7 by omega)]
      rfl
     obtain ⟨x8, hx8⟩ : ∃ x8, UInt8.ofNat (bits .xor .u8 (byt s o) 85).toNat = x8 := ⟨_, rfl⟩
     have hd := putI_one HI.out.ok x8 hbn ho2
     have HJL := zh (hd.lst HI.out.ok HRS.out.1 HRS.out.2.1 (fun p hp => (HRS.out.2.2 p hp).1) (few_len HI.out.ok HI.out.few HRS.out.2.1 HRS.out.2.2) HNO.out.1 HNO.out.2 hnn)
     have HJO := zh (putI_ok HI.out.ok x8 hbn ho2)
     have HJA := zh (fun r (hr : r ∈ rs) p (hp : p ∈ r.code) => hd.atOk (HRS.out.2.2 p ((HRS.out.2.1.me p).2 ⟨r, hr, hp⟩)).1 (covN_none HNO.out.1 ((HRS.out.2.1.me p).2 ⟨r, hr, hp⟩)))
     have HX8 := zh hx8
     clear hs hgd hnn hx8 hd HNB HNO
     have HWQ := zh (HW.out.below HBR.out)
     go_upto_region 17 with (first | (refine zb 31 _ rfl _ rfl _ _ _ (HWQ.out.im) ?_ ?_ ?_; kernel_rfl; kernel_rfl) | (refine wpList_store_row rfl _ _ _ rfl _ _ rfl rfl _ _ (heap_alloc_new _ _) ?_ ?_ ?_ ?_; kernel_rfl; rfl; kernel_rfl; rw [World.setRow_alloc_new]))
     clear hcl
     have hbj : Below wq.heap.size wq (wq.alloc (imgI I gb gd)) := (Below.refl _ _).alloc (zn _) _
     have hgj := heap_alloc_new wq (imgI I gb gd)
     obtain ⟨wj, hwj⟩ : ∃ wj, wq.alloc (imgI I gb gd) = wj := ⟨_, rfl⟩
     obtain ⟨gj, hgje⟩ : ∃ g, wq.heap.size = g := ⟨_, rfl⟩
     rw [hwj] at hbj hgj ⊢
     rw [hgje] at hgj ⊢
     have HBJ := zh hbj
     have HGJ := zh hgj
     have HGQ := zh hgje
     clear hbj hgj hwj hgje
     have hbe0 : ∀ x, Below wj.heap.size wj (wj.alloc x) := fun x => (Below.refl _ _).alloc (zn _) x
     have HIJ := zh (HWQ.out.below HBJ.out)
     have hci := fun o x => cell_of_row (wj.alloc x) gi o _ _ _ (za (hbe0 x) HIJ.out.im)
     have hfj := fun o x => frozen_of_row (wj.alloc x) gj o _ _ (za (hbe0 x) HGJ.out)
     obtain ⟨iS, hiS, hzS, hzS1, hzS2⟩ := info_parts infoStr
     have hn64 := HI.out.ok.n64
     have HOE := zh (World.ownsRow_lit (base := wj.heap.size) (size := 1) (e := 9) wj #[] 0 (zn _) (by decide) rfl)
     have HSB := zh (HWQ.out.below HBJ.out).vw.bk
     go_upto_region 18 with (first
      | (at_builtin; go_must
       (refine wpList_append_src _ rfl (.tmp 74) (.tmp 76) 26 rfl wj.heap.size 9 iS (.string ⟨#[]⟩) 1 16 Tryz.underlying26 hiS hzS hzS1 hzS2 rfl (by decide) _ 0 [] rfl HOE.out (some ⟨gb, 0, none⟩) I.banks.length 3 (fun e => by cases e) (I.banks.map Value.string) rfl (rd_srcU (HSB.out.below (hbe0 _))) (fun u hu => by obtain ⟨t, -, rfl⟩ := List.mem_map.1 hu; rfl) (by unfold maxLen; omega) (by omega) (by simp) ?_
        intro v7 w7 h72 h73 h74
        rw [Nat.zero_add] at h72
        obtain ⟨An, cp, rfl, -⟩ := zL h72
        obtain ⟨gn, curn, rfl, hBn, hgn, hcn⟩ := own_ptr h72 (by omega)
        have hb7 : Below wj.heap.size wj w7 := (hbe0 _).grown h73 (by simp) (fun k hk => (HOE.out.lt k hk).1)
        have HN7 := zh (And.intro hBn (And.intro hgn (And.intro hcn (own_cap h72).1)))
        have HB7 := zh hb7
        have hcj7 := fun o => cell_of_row w7 gj o _ _ _ (za hb7 HGJ.out)
        have hfj7 := fun o => frozen_of_row w7 gj o _ _ (za hb7 HGJ.out)
        clear h72 h73 h74 hBn hgn hcn hb7)))
     clear hcj7 hfj7 hci hfj hbe0
     have hgjj : gj < wj.heap.size := (Array.getElem?_eq_some_iff.1 HGJ.out).1
     have hg8 := heap_setCell_same (za HB7.out HGJ.out) (i := 0) (.slice (some ⟨gn, 0, none⟩) I.banks.length cp)
     have hn8 : (w7.setCell ⟨gj, 0, none⟩ (.slice (some ⟨gn, 0, none⟩) I.banks.length cp)).heap[gn]? = some (.cells curn 9 (0, 0)) := by rw [heap_setCell_other (by have := HN7.out.1; omega)]; exact HN7.out.2.1
     have hb8 : Below wq.heap.size wq (w7.setCell ⟨gj, 0, none⟩ (.slice (some ⟨gn, 0, none⟩) I.banks.length cp)) := (HBJ.out.trans (HB7.out.mono HBJ.out.size)).setCell (p := ⟨gj, 0, none⟩) (Nat.le_of_eq HGQ.out) _
     obtain ⟨w8, hw8⟩ : ∃ w8, w7.setCell ⟨gj, 0, none⟩ (.slice (some ⟨gn, 0, none⟩) I.banks.length cp) = w8 := ⟨_, rfl⟩
     rw [hw8] at hg8 hn8 hb8 ⊢
     have HG8 := zh (show w8.heap[gj]? = some (.cells #[.slice (some ⟨gn, 0, none⟩) I.banks.length cp, .int .u16 I.entry, .int .u16 I.vector, .slice (some ⟨gd, 0, none⟩) I.data.length 3, .slice none 0 0] 31 (0, 0)) from hg8)
     have HN8 := zh hn8
     have HW8 := zh (HWQ.out.below hb8)
     have HB8 := zh hb8
     have HNC := zh (And.intro HN7.out.2.2.1 HN7.out.2.2.2)
     have hgq : wq.heap.size ≤ gn := Nat.le_trans (Nat.le_of_eq HGQ.out) (Nat.le_of_lt (Nat.lt_of_lt_of_le hgjj HN7.out.1))
     have HGN := zh hgq
     clear hg8 hn8 hb8 hw8 hgjj HN7 HB7 HGJ HGQ HBJ HIJ HOE HSB hgq hiS hzS hzS1 hzS2
     obtain ⟨gb', ob', cb, Tb, fb, e8, hgb, hcat⟩ := HW8.out.vw.bk.at_ (by omega)
     injection e8 with e8
     injection e8 with e81 e82
     subst e81 e82
     have hcs : cb[0 + b]? = some (.string s) := by rw [hcat b (by simp; omega), List.getElem?_map, HBS.out]; rfl
     rw [Nat.zero_add] at hcs
     have HCS := zh hcs
     have HS8 := zh (And.intro HG8.out (And.intro HW8.out.im hgb))
     clear hcat hcs hgb
     refine zm (S := fun W => W.heap[gj]? = some (.cells #[.slice (some ⟨gn, 0, none⟩) I.banks.length cp, .int .u16 I.entry, .int .u16 I.vector, .slice (some ⟨gd, 0, none⟩) I.data.length 3, .slice none 0 0] 31 (0, 0)) ∧ W.heap[gi]? = some (imgI I gb gd) ∧ W.heap[gb]? = some (.cells cb Tb fb)) [30, 31] (by kernel_rfl) HS8.out (fun hHeld => ?_)
     (refine tkZ 0 (v := ?_) rfl (by assumption) ?_ ?_; rotate_left; (focus (intro w hSw; (try dsimp only at hSw); go_simp; try with_reducible rfl)); (try simp only [zA, zB, zC, Act.put, zD, zE, zF]))
     (refine tkZ 1 (v := .slice (some ⟨gn, 0, none⟩) I.banks.length cp) rfl (by assumption) (fun W hS => zq _ _ rfl _ _ rfl _ _ _ hS.1 _ rfl (fun _ => by kernel_rfl)) ?_; (try simp only [zA, zB, zC, Act.put, zD, zE, zF]))
     (refine tkZ 2 (v := ?_) rfl (by assumption) ?_ ?_; rotate_left; (focus (intro w hSw; (try dsimp only at hSw); go_simp; try with_reducible rfl)); (try simp only [zA, zB, zC, Act.put, zD, zE, zF]))
     (refine tkZ 3 (v := ?_) rfl (by assumption) ?_ ?_; rotate_left; (focus (intro w hSw; (try dsimp only at hSw); go_simp; try with_reducible rfl)); (try simp only [zA, zB, zC, Act.put, zD, zE, zF]))
     (refine tkZ 4 (v := .slice (some ⟨gb, 0, none⟩) I.banks.length 3) rfl (by assumption) (fun W hS => zq _ _ rfl _ _ rfl _ _ _ hS.2.1 _ rfl (fun _ => by kernel_rfl)) ?_; (try simp only [zA, zB, zC, Act.put, zD, zE, zF]))
     (refine tkZ 5 (v := ?_) rfl (by assumption) ?_ ?_; rotate_left; (focus (intro w hSw; (try dsimp only at hSw); go_simp; try with_reducible rfl)); (try simp only [zA, zB, zC, Act.put, zD, zE, zF]))
     (refine tkZ 6 (v := .pointer (some ⟨gb, b, none⟩)) rfl (by assumption) (fun W hS => by clear hS; go_simp; first | done | rfl) ?_; (try simp only [zA, zB, zC, Act.put, zD, zE, zF]))
     (refine tkZ 7 (v := .string s) rfl (by assumption) (fun W hS => zq _ _ rfl _ _ rfl _ _ _ hS.2.2 _ HCS.out (fun _ => by kernel_rfl)) ?_; (try simp only [zA, zB, zC, Act.put, zD, zE, zF]))
     (refine tkZ 8 (v := ?_) rfl (by assumption) ?_ ?_; rotate_left; (focus (intro w hSw; (try dsimp only at hSw); go_simp; try with_reducible rfl)); (try simp only [zA, zB, zC, Act.put, zD, zE, zF]))
     (refine tkZ 9 (v := .string (s.extract 0 o)) rfl (by assumption) (fun W hS => by clear hS; go_simp; first | done | rfl | (intro h; omega) | (intro h; exact absurd (h (by omega)) (by omega))) ?_; (try simp only [zA, zB, zC, Act.put, zD, zE, zF]))
     (refine tkZ 10 (v := ?_) rfl (by assumption) ?_ ?_; rotate_left; (focus (intro w hSw; (try dsimp only at hSw); go_simp; try with_reducible rfl)); (try simp only [zA, zB, zC, Act.put, zD, zE, zF]))
     (refine tkZ 11 (v := .slice (some ⟨gb, 0, none⟩) I.banks.length 3) rfl (by assumption) (fun W hS => zq _ _ rfl _ _ rfl _ _ _ hS.2.1 _ rfl (fun _ => by kernel_rfl)) ?_; (try simp only [zA, zB, zC, Act.put, zD, zE, zF]))
     (refine tkZ 12 (v := ?_) rfl (by assumption) ?_ ?_; rotate_left; (focus (intro w hSw; (try dsimp only at hSw); go_simp; try with_reducible rfl)); (try simp only [zA, zB, zC, Act.put, zD, zE, zF]))
     (refine tkZ 13 (v := .pointer (some ⟨gb, b, none⟩)) rfl (by assumption) (fun W hS => by clear hS; go_simp; first | done | rfl) ?_; (try simp only [zA, zB, zC, Act.put, zD, zE, zF]))
     (refine tkZ 14 (v := .string s) rfl (by assumption) (fun W hS => zq _ _ rfl _ _ rfl _ _ _ hS.2.2 _ HCS.out (fun _ => by kernel_rfl)) ?_; (try simp only [zA, zB, zC, Act.put, zD, zE, zF]))
     (refine tkZ 15 (v := ?_) rfl (by assumption) ?_ ?_; rotate_left; (focus (intro w hSw; (try dsimp only at hSw); go_simp; try with_reducible rfl)); (try simp only [zA, zB, zC, Act.put, zD, zE, zF]))
     (refine tkZ 16 (v := .int .u8 (byt s o)) rfl (by assumption) (fun W hS => by
      clear hS
      have hx : (o : Int) < 4096 := by omega
      go_simp
      first
       | done
       | exact byt_idx s o _) ?_; (try simp only [zA, zB, zC, Act.put, zD, zE, zF]))
     (refine tkZ 17 (v := .int .u8 (bits .xor .u8 (byt s o) 85)) rfl (by assumption) (fun W hS => by clear hS; go_simp; first | done | rfl) ?_; (try simp only [zA, zB, zC, Act.put, zD, zE, zF]))
     (refine tkZ 21 (v := ?_) rfl (by assumption) ?_ ?_; rotate_left; (focus (intro w hSw; (try dsimp only at hSw); go_simp; try with_reducible rfl)); (try simp only [zA, zB, zC, Act.put, zD, zE, zF]))
     (refine tkZ 22 (v := .slice (some ⟨gb, 0, none⟩) I.banks.length 3) rfl (by assumption) (fun W hS => zq _ _ rfl _ _ rfl _ _ _ hS.2.1 _ rfl (fun _ => by kernel_rfl)) ?_; (try simp only [zA, zB, zC, Act.put, zD, zE, zF]))
     (refine tkZ 23 (v := ?_) rfl (by assumption) ?_ ?_; rotate_left; (focus (intro w hSw; (try dsimp only at hSw); go_simp; try with_reducible rfl)); (try simp only [zA, zB, zC, Act.put, zD, zE, zF]))
     (refine tkZ 24 (v := .pointer (some ⟨gb, b, none⟩)) rfl (by assumption) (fun W hS => by clear hS; go_simp; first | done | rfl) ?_; (try simp only [zA, zB, zC, Act.put, zD, zE, zF]))
     (refine tkZ 25 (v := .string s) rfl (by assumption) (fun W hS => zq _ _ rfl _ _ rfl _ _ _ hS.2.2 _ HCS.out (fun _ => by kernel_rfl)) ?_; (try simp only [zA, zB, zC, Act.put, zD, zE, zF]))
     (refine tkZ 26 (v := ?_) rfl (by assumption) ?_ ?_; rotate_left; (focus (intro w hSw; (try dsimp only at hSw); go_simp; try with_reducible rfl)); (try simp only [zA, zB, zC, Act.put, zD, zE, zF]))
     (refine tkZ 27 (v := .int .i64 ((o + 1 : Nat) : Int)) rfl (by assumption) (fun W hS => by clear hS; go_simp; first | done | rfl | exact IntWalk.i64_in _ (by omega)) ?_; (try simp only [zA, zB, zC, Act.put, zD, zE, zF]))
     (refine tkZ 28 (v := .string (s.extract (o + 1) s.size)) rfl (by assumption) (fun W hS => by clear hS; go_simp; first | done | rfl | (intro h; omega) | (intro h; exact absurd (h (by omega)) (by omega))) ?_; (try simp only [zA, zB, zC, Act.put, zD, zE, zF]))
     have HWD := zh (Below.refl w8.heap.size w8).drew
     obtain ⟨wd, hwd⟩ : ∃ wd, w8.drew = wd := ⟨_, rfl⟩
     rw [hwd] at HWD ⊢
     clear hwd hHeld
     refine yk 18 rfl (fun K hK => ?_)
     go_simp
     have HBA := zh (HWD.out.alloc HWD.out.size (.cells #[.int .u8 (bits .xor .u8 (byt s o) 85)] 5))
     have HGA := zh (heap_alloc_new wd (.cells #[.int .u8 (bits .xor .u8 (byt s o) 85)] 5))
     refine hK.out _ _ (.inr ⟨za HBA.out HS8.out.1, za HBA.out HS8.out.2.1, za HBA.out HS8.out.2.2⟩) ?_
     (try simp only [zA, zB, zC, Act.put, zD, zE, zF])
     clear hK K
     refine yk 19 rfl (fun K hK => ?_)
     have hcv := conv_one HGA.out
     go_simp
     refine hK.out _ _ (.inr ⟨za HBA.out HS8.out.1, za HBA.out HS8.out.2.1, za HBA.out HS8.out.2.2⟩) ?_
     (try simp only [zA, zB, zC, Act.put, zD, zE, zF])
     clear hK K hcv
     obtain ⟨wa, hwa⟩ : ∃ wa, wd.alloc (.cells #[.int .u8 (bits .xor .u8 (byt s o) 85)] 5) = wa := ⟨_, rfl⟩
     rw [hwa] at HBA ⊢
     clear hwa HGA
     have hHeld : wa.heap[gj]? = some (.cells #[.slice (some ⟨gn, 0, none⟩) I.banks.length cp, .int .u16 I.entry, .int .u16 I.vector, .slice (some ⟨gd, 0, none⟩) I.data.length 3, .slice none 0 0] 31 (0, 0)) ∧ wa.heap[gi]? = some (imgI I gb gd) ∧ wa.heap[gb]? = some (.cells cb Tb fb) := ⟨za HBA.out HS8.out.1, za HBA.out HS8.out.2.1, za HBA.out HS8.out.2.2⟩
     have HTT := zh (show s.extract 0 o ++ strOfNums [bits .xor .u8 (byt s o) 85] ++ s.extract (o + 1) s.size = putB s o x8 by rw [← HX8.out]; rfl)
     have hts : (strOfNums [bits .xor .u8 (byt s o) 85]).size = 1 := by rw [strOfNums_size]; rfl
     generalize strOfNums [bits .xor .u8 (byt s o) 85] = t at *
     (refine tkZ 20 (v := .string (s.extract 0 o ++ t)) rfl (by assumption) (fun W hS => by clear hS; go_simp; first | done | rfl | omega) ?_; (try simp only [zA, zB, zC, Act.put, zD, zE, zF]))
     (refine tkZ 29 (v := .string (s.extract 0 o ++ t ++ s.extract (o + 1) s.size)) rfl (by assumption) (fun W hS => by clear hS; go_simp; first | done | rfl | omega) ?_; (try simp only [zA, zB, zC, Act.put, zD, zE, zF]))
     refine ya 30 ?_
     simp only [List.drop_succ_cons, List.drop_zero]
     rw [HTT.out]
     clear hHeld hts HTT
     have HNA := zh (za HBA.out HN8.out)
     have hcbn : curn[b]? = some (.string s) := by rw [HNC.out.1 b (by omega), List.nil_append, List.getElem?_map, HBS.out]; rfl
     have hcna : wa.cell? ⟨gn, b, none⟩ = some (.string s) := by rw [cell_of_row _ _ _ _ _ _ HNA.out]; exact hcbn
     have hfna := fun o => frozen_of_row wa gn o _ _ HNA.out
     have hcpn := HNC.out.2
     go_wp2_with fail
     have hg9 := heap_setCell_same HNA.out (i := b) (.string (putB s o x8))
     obtain ⟨w9, hw9⟩ : ∃ w9, wa.setCell ⟨gn, b, none⟩ (.string (putB s o x8)) = w9 := ⟨_, rfl⟩
     have hb9 : Below wq.heap.size wq w9 := by
      rw [← hw9]
      exact (HB8.out.trans (HBA.out.mono HB8.out.size)).setCell (p := ⟨gn, b, none⟩) HGN.out _
     have hgj9 : w9.heap[gj]? = some (.cells #[.slice (some ⟨gn, 0, none⟩) I.banks.length cp, .int .u16 I.entry, .int .u16 I.vector, .slice (some ⟨gd, 0, none⟩) I.data.length 3, .slice none 0 0] 31 (0, 0)) := by
      rw [← hw9, heap_setCell_other (fun e => by have h1 := za HBA.out HG8.out; rw [e, HNA.out] at h1; injection h1 with h1; injection h1 with _ h1; exact absurd h1 (by decide))]
      exact za HBA.out HG8.out
     rw [hw9] at hg9 ⊢
     have HVJ := zh (show yw w9 (putI I b o x8) (some ⟨gn, 0, none⟩) cp (some ⟨gd, 0, none⟩) 3 from ⟨put_row HBS.out (by omega) (fun j hj => by rw [HNC.out.1 j (by omega), List.nil_append]) hg9, (HWQ.out.below hb9).vw.dt⟩)
     have HW9 := zh (HWQ.out.below hb9)
     have HGJ9 := zh hgj9
     have HB9 := zh (HBQ.out.trans (hb9.mono HBQ.out.size))
     clear hg9 hw9 hb9 hgj9 hcbn hcna hfna hcpn HNA HNC HBA HWD HG8 HN8 HW8 HB8 HS8 HCS
     go_upto_region 19 with fail
     refine zm (S := fun W => W.heap[gl]? = some (.cells #[.slice (some ⟨gc, oc, none⟩) I.banks.length jc, .slice Br R.length jr, .slice Bi mi ji] 38 (0, 0)) ∧ W.heap[gj]? = some (.cells #[.slice (some ⟨gn, 0, none⟩) I.banks.length cp, .int .u16 I.entry, .int .u16 I.vector, .slice (some ⟨gd, 0, none⟩) I.data.length 3, .slice none 0 0] 31 (0, 0))) [7] (by kernel_rfl) ⟨HW9.out.ls, HGJ9.out⟩ (fun hHeld => ?_)
     (refine tkZ 0 (v := ?_) rfl (by assumption) ?_ ?_; rotate_left; (focus (intro w hSw; (try dsimp only at hSw); go_simp; try with_reducible rfl)); (try simp only [zA, zB, zC, Act.put, zD, zE, zF]))
     (refine tkZ 1 (v := ?_) rfl (by assumption) ?_ ?_; rotate_left; (focus (intro w hSw; (try dsimp only at hSw); go_simp; try with_reducible rfl)); (try simp only [zA, zB, zC, Act.put, zD, zE, zF]))
     (refine tkZ 2 (v := .agg #[.slice (some ⟨gc, oc, none⟩) I.banks.length jc, .slice Br R.length jr, .slice Bi mi ji]) rfl (by assumption) (fun W hS => zW _ _ rfl _ rfl _ _ _ hS.1 (by kernel_rfl)) ?_; (try simp only [zA, zB, zC, Act.put, zD, zE, zF]))
     (refine tkZ 3 (v := .agg #[.slice (some ⟨gn, 0, none⟩) I.banks.length cp, .int .u16 I.entry, .int .u16 I.vector, .slice (some ⟨gd, 0, none⟩) I.data.length 3, .slice none 0 0]) rfl (by assumption) (fun W hS => zW _ _ rfl _ rfl _ _ _ hS.2 (by kernel_rfl)) ?_; (try simp only [zA, zB, zC, Act.put, zD, zE, zF]))
     have HWD := zh (Below.refl w9.heap.size w9).drew
     obtain ⟨wd, hwd⟩ : ∃ wd, w9.drew = wd := ⟨_, rfl⟩
     rw [hwd] at HWD ⊢
     clear hwd hHeld
     refine yk 4 rfl (fun K hK => ?_)
     go_simp
     go_at_call 17
     (with_reducible refine (scan_put HJO.out (HVJ.out.below HWD.out)).mono ?_)
     rintro e10 w10 ⟨Lc, cc, vc9, vr9, vi9, rfl, hLc, hcc, hd10, hb10⟩
     have HB10 := zh (HWD.out.trans (hb10.mono HWD.out.size))
     obtain rfl := HJL.out.uniq hLc
     have hclj : clsL (putI I b o x8) cc = clsL I cc := by unfold clsL; rw [show (putI I b o x8).banks.length = I.banks.length from List.length_set]
     have HDA := zh ((hd10.img HJA.out).other (c' := c) (fun b' o' hb' ho' => clsL_eq ((hclj.symm.trans hcc.symm).trans HCL.out) hb' ho'))
     clear hb10 hd10 hLc hcc hclj
     go_simp
     refine hK.out _ _ (.inr ⟨za HB10.out HW9.out.ls, za HB10.out HGJ9.out⟩) ?_
     (try simp only [zA, zB, zC, Act.put, zD, zE, zF])
     clear hK K
     refine yk 5 rfl (fun K hK => ?_)
     go_simp
     go_at_call 16
     (with_reducible refine (same_any I I.banks.length c _ _ _ _ _ _ _ _ _ (HW9.out.below HB10.out).rd HDA.out).mono ?_)
     rintro e11 w11 ⟨rfl, hb11⟩
     have HB11 := zh (HB10.out.trans (hb11.mono HB10.out.size))
     clear hb11
     go_simp
     have hHeld : w11.heap[gl]? = some (.cells #[.slice (some ⟨gc, oc, none⟩) I.banks.length jc, .slice Br R.length jr, .slice Bi mi ji] 38 (0, 0)) ∧ w11.heap[gj]? = some (.cells #[.slice (some ⟨gn, 0, none⟩) I.banks.length cp, .int .u16 I.entry, .int .u16 I.vector, .slice (some ⟨gd, 0, none⟩) I.data.length 3, .slice none 0 0] 31 (0, 0)) := ⟨za HB11.out HW9.out.ls, za HB11.out HGJ9.out⟩
     refine hK.out _ _ (.inr hHeld) ?_
     (try simp only [zA, zB, zC, Act.put, zD, zE, zF])
     clear hK K
     (refine tkZ 6 (v := .bool true) rfl (by assumption) (fun W hS => by clear hS; go_simp; first | done | rfl) ?_; (try simp only [zA, zB, zC, Act.put, zD, zE, zF]))
     refine ya 7 ?_
     simp only [List.drop_succ_cons, List.drop_zero]
     clear hHeld
     go_wp2_with fail
     go_ret
     exact ⟨rfl, HB9.out.trans (HB11.out.mono HB9.out.size)⟩
 ·have hv0 : ¬ v = 0 := fun e => hv5 (.inl e)
  have hv6 : ¬ v = 5 := fun e => hv5 (.inr e)
  have hv7 : (v != 0) = true := by simpa using hv0
  have hv8 : (v != 5) = true := by simpa using hv6
  clear hv5
  go_wp2_with fail
  go_ret
  exact ⟨rfl, HXO.out.bb⟩
end Go.Proofs.YteofmaiojepdkaaGreat
