/- The reference of chapter 05: Scan, walked. Printed by gen_rpl.py. Condition: the image's banks have 4096 bytes; the further places are places, not too many. -/
import Derived.Test.YteofmaiojepdkaaGreatTbRpM
import Derived.Test.YteofmaiojepdkaaGreatTbRpH
import Derived.Test.YteofmaiojepdkaaGreatTbRpI
set_option linter.all false
namespace Go.Proofs.YteofmaiojepdkaaGreat
open Go Go.RowKit Go.Maps Go.Sort
set_option maxRecDepth 100000 in
set_option maxHeartbeats 4000000 in
theorem rscan_any (I : zk) (hI : I.Ok) (ba : Option Addr) (bc : Nat) (da : Option Addr) (dc : Nat) (ra : Option Addr) (rn rc : Nat) (more : List zb) (hm : ∀ p ∈ more, yO p) (hml : more.length ≤ 1000000) (ma : Option Addr) (mc : Nat) (w : World) (hV : yG w I ba bc da dc) (hmo : RdS w 2 ma more.length mc (zp more)) :
  Calls Tryz.prog 19 #[.agg #[.slice ba I.banks.length bc, .int .u16 I.entry, .int .u16 I.vector, .slice da I.data.length dc, .slice ra rn rc], .slice ma more.length mc] w (ScP I more w) := by
 have HI := zh hI
 have HMP := zh hm
 have hbx := Bx.two w (z6 I ba bc da dc ra rn rc) lstZ
 have HBL := zh (fun W hv => blank_any I hI ba bc da dc ra rn rc W hv)
 have HRO := zh (fun W hv hmv => routines5_any I hI ba bc da dc ra rn rc more hm hml ma mc W hv hmv)
 have HB := zh hbx
 have HV0 := zh hV
 have HVC := zh hV
 have HMO0 := zh hmo
 clear hI hV hmo hm hbx
 go_enter Tryz.func19, Tryz.ntmps19
 go_upto_region 1 with fail
 obtain ⟨w1, hw1⟩ : ∃ w1, (w.alloc (z6 I ba bc da dc ra rn rc)).alloc lstZ = w1 := ⟨_, rfl⟩
 rw [hw1] at HB ⊢
 clear hw1
 have HV := zh (HV0.out.below HB.out.bb)
 have HMO := zh (HMO0.out.below HB.out.bb)
 have HIM := zh HB.out.b0
 have HB1 := HB
 clear HV0 HMO0
 go_cut [5] (fun v wx => ∃ (gl : Nat) (gs : List Nat) (Ac : Option Addr) (cc : Nat) (S : List RtR) (As : Option Addr) (cs : Nat), v = .pointer (some ⟨gl, 0, none⟩) ∧ Hid (gs.length = I.banks.length ∧ ((yz I more none ∧ S = []) ∨ yz I more (some (S.map (·.1))))) ∧ Hid (LsR I (z6 I ba bc da dc ra rn rc) w gl gs (.slice Ac gs.length cc) (.slice As S.length cs) S wx))
 case first =>
  refine zr (S := fun W => W.heap[w.heap.size]? = some (z6 I ba bc da dc ra rn rc)) [7] (by kernel_rfl) HIM.out (fun hHeld => ?_)
  (refine tkZ 0 (v := .agg #[.slice ba I.banks.length bc, .int .u16 I.entry, .int .u16 I.vector, .slice da I.data.length dc, .slice ra rn rc]) rfl (by assumption) (fun W hS => zW _ _ rfl _ rfl _ _ _ hS (by kernel_rfl)) ?_; (refine pts ?_))
  (refine tkZ 2 (v := .agg #[.slice ba I.banks.length bc, .int .u16 I.entry, .int .u16 I.vector, .slice da I.data.length dc, .slice ra rn rc]) rfl (by assumption) (fun W hS => zW _ _ rfl _ rfl _ _ _ hS (by kernel_rfl)) ?_; (refine pts ?_))
  (refine tz 3 ?_)
  have HWD := zh (Below.refl w1.heap.size w1).drew
  obtain ⟨wd, hwd⟩ : ∃ wd, w1.drew = wd := ⟨_, rfl⟩
  rw [hwd] at HWD ⊢
  clear hwd hHeld
  refine twoZ 1 6 rfl rfl (fun K hK => ?_) (fun K hK => ?_)
  ·go_simp
   go_at_call 43
   (with_reducible refine (HBL.out _ (HV.out.below HWD.out)).mono ?_)
   rintro e2 w2 ⟨gs, v2, rfl, hgl2, hcl2, hb2⟩
   obtain ⟨Ac, cc, rfl, -⟩ := zt hcl2.own
   have HGS := zh hgl2
   have HCL2 := zh (hcl2.mono (Nat.le_trans HB1.out.bb.size HWD.out.size))
   have HB2 := zh (HWD.out.trans (hb2.mono HWD.out.size))
   have HS2 := zh hb2
   clear hgl2 hcl2 hb2
   go_simp
   refine hK.out _ _ (.inr (za HB2.out HIM.out)) ?_
   (refine pts ?_)
   clear hK K
   refine twoZ 4 6 rfl rfl (fun K hK => ?_) (fun K hK => ?_)
   ·go_simp
    go_at_call 44
    (with_reducible refine (HRO.out _ (HV.out.below HB2.out) (HMO.out.below HB2.out)).mono ?_)
    rintro e3 w3 ⟨S, As, cs, rfl, hrn3, hri3, hb3⟩
    have HRI := zh hri3
    have HRN3 := zh (hrn3.mono (Nat.le_trans HB1.out.bb.size HB2.out.size))
    have HB3 := zh (HB2.out.trans (hb3.mono HB2.out.size))
    have HS3 := zh hb3
    clear hrn3 hri3 hb3
    go_simp
    refine hK.out _ _ (.inr (za HB3.out HIM.out)) ?_
    (refine pts ?_)
    clear hK K
    have hHeld := za HB3.out HIM.out
    (refine tz 5 ?_)
    clear hHeld
    refine yx 6 rfl (fun K hK => ?_)
    go_simp
    have HGL := zh (heap_alloc_new w3 lstZ)
    have HLB := zh HB3.out.size
    have HBA := zh (HB3.out.alloc HB3.out.size lstZ)
    have HSA := zh ((Below.refl w3.heap.size w3).alloc (zn _) lstZ)
    refine hK.out _ _ (.inr (za HBA.out HIM.out)) ?_
    (refine pts ?_)
    clear hK K
    refine z8 7 ?_
    simp only [List.drop_succ_cons, List.drop_zero]
    have HGF := zh HGL.out
    go_wp2_with (first | (refine stR (HGF.out) ?_))
    go_meet
    exact ⟨w3.heap.size, gs, Ac, cc, S, As, cs, rfl, zh (And.intro HGS.out HRI.out), zh (LsR.of (HB1.out.stay (HBA.out.trans (Below.refl _ _))) HGF.out (Nat.le_trans HB1.out.z HLB.out) ((HCL2.out.below HS3.out).below HSA.out) (HRN3.out.below HSA.out))⟩
   ·go_simp
    have HGL := zh (heap_alloc_new w2 lstZ)
    have HLB := zh HB2.out.size
    have HBA := zh (HB2.out.alloc HB2.out.size lstZ)
    have HSA := zh ((Below.refl w2.heap.size w2).alloc (zn _) lstZ)
    refine hK.out _ _ (.inr (za HBA.out HIM.out)) ?_
    (refine pts ?_)
    clear hK K
    refine yx 4 rfl (fun K hK => ?_)
    go_simp
    go_at_call 44
    (with_reducible refine (HRO.out _ (HV.out.below HBA.out) (HMO.out.below HBA.out)).mono ?_)
    rintro e3 w3 ⟨S, As, cs, rfl, hrn3, hri3, hb3⟩
    have HRI := zh hri3
    have HRN3 := zh (hrn3.mono (Nat.le_trans HB1.out.bb.size HBA.out.size))
    have HB3 := zh (HBA.out.trans (hb3.mono HBA.out.size))
    have HS3 := zh hb3
    clear hrn3 hri3 hb3
    go_simp
    refine hK.out _ _ (.inr (za HB3.out HIM.out)) ?_
    (refine pts ?_)
    clear hK K
    have hHeld := za HB3.out HIM.out
    (refine tz 5 ?_)
    clear hHeld
    refine z8 7 ?_
    simp only [List.drop_succ_cons, List.drop_zero]
    have HGF := zh (za HS3.out HGL.out)
    go_wp2_with (first | (refine stR (HGF.out) ?_))
    go_meet
    exact ⟨w2.heap.size, gs, Ac, cc, S, As, cs, rfl, zh (And.intro HGS.out HRI.out), zh (LsR.of (HB1.out.stay (HB3.out.trans (Below.refl _ _))) HGF.out (Nat.le_trans HB1.out.z HLB.out) ((HCL2.out.below HSA.out).below HS3.out) HRN3.out)⟩
  ·go_simp
   have HGL := zh (heap_alloc_new wd lstZ)
   have HLB := zh HWD.out.size
   have HBA := zh (HWD.out.alloc HWD.out.size lstZ)
   have HSA := zh ((Below.refl wd.heap.size wd).alloc (zn _) lstZ)
   refine hK.out _ _ (.inr (za HBA.out HIM.out)) ?_
   (refine pts ?_)
   clear hK K
   refine yx 1 rfl (fun K hK => ?_)
   go_simp
   go_at_call 43
   (with_reducible refine (HBL.out _ (HV.out.below HBA.out)).mono ?_)
   rintro e2 w2 ⟨gs, v2, rfl, hgl2, hcl2, hb2⟩
   obtain ⟨Ac, cc, rfl, -⟩ := zt hcl2.own
   have HGS := zh hgl2
   have HCL2 := zh (hcl2.mono (Nat.le_trans HB1.out.bb.size HBA.out.size))
   have HB2 := zh (HBA.out.trans (hb2.mono HBA.out.size))
   have HS2 := zh hb2
   clear hgl2 hcl2 hb2
   go_simp
   refine hK.out _ _ (.inr (za HB2.out HIM.out)) ?_
   (refine pts ?_)
   clear hK K
   refine yx 4 rfl (fun K hK => ?_)
   go_simp
   go_at_call 44
   (with_reducible refine (HRO.out _ (HV.out.below HB2.out) (HMO.out.below HB2.out)).mono ?_)
   rintro e3 w3 ⟨S, As, cs, rfl, hrn3, hri3, hb3⟩
   have HRI := zh hri3
   have HRN3 := zh (hrn3.mono (Nat.le_trans HB1.out.bb.size HB2.out.size))
   have HB3 := zh (HB2.out.trans (hb3.mono HB2.out.size))
   have HS3 := zh hb3
   clear hrn3 hri3 hb3
   go_simp
   refine hK.out _ _ (.inr (za HB3.out HIM.out)) ?_
   (refine pts ?_)
   clear hK K
   have hHeld := za HB3.out HIM.out
   (refine tz 5 ?_)
   clear hHeld
   refine z8 7 ?_
   simp only [List.drop_succ_cons, List.drop_zero]
   have HGF := zh (za HS3.out (za HS2.out HGL.out))
   go_wp2_with (first | (refine stR (HGF.out) ?_))
   go_meet
   exact ⟨wd.heap.size, gs, Ac, cc, S, As, cs, rfl, zh (And.intro HGS.out HRI.out), zh (LsR.of (HB1.out.stay (HB3.out.trans (Below.refl _ _))) HGF.out (Nat.le_trans HB1.out.z HLB.out) (HCL2.out.below HS3.out) HRN3.out)⟩
 case rest =>
  obtain ⟨gl, gs, Ac, cc, S, As, cs, rfl, HGI, HLS⟩ := hcut
  clear HBL HRO HB HB1 HIM HV HMO
  obtain ⟨iB, hiB, hzB, hzB1, hzB2⟩ := info_parts infoBoo
  go_upto_region 4 with (refine wpList_make_full _ rfl _ _ 104 rfl wc.heap.size 4 iB (.bool false) 1 Tryz.underlying104 hiB hzB hzB1 .i64 .i64 524288 524288 524288 rfl rfl rfl rfl (by rw [hzB2]; decide) (by decide) (zn _) ?_; intro w4 ho4 hg4)
  have H4 := zh (made_row rfl ho4)
  have hb4 := jb hg4
  have HLS4 := zh (HLS.out.below hb4)
  have HGB := zh (show w.heap.size + 2 ≤ wc.heap.size from HLS.out.bx.z)
  obtain ⟨gi, hgi⟩ : ∃ g, wc.heap.size = g := ⟨_, rfl⟩
  rw [hgi] at H4 HGB ⊢
  clear ho4 hg4 hb4 hiB hzB hzB1 hzB2 iB hgi HLS
  have hsl : S.length ≤ 2000 := by
   rcases HGI.out.2 with ⟨-, h⟩ | h
   ·rw [h]; exact Nat.zero_le _
   ·have h1 := h.2.1
    rwa [List.length_map] at h1
  have HSL := zh hsl
  obtain ⟨nn, hnn⟩ : ∃ nn : Nat, 524288 = nn := ⟨_, rfl⟩
  rw [hnn]
  have HNN := zh hnn
  have hnb : nn ≤ 1000000 := by omega
  clear hnn hsl
  have HM0 := zh (show MaL I (z6 I ba bc da dc ra rn rc) w gl gs (.slice Ac gs.length cc) (.slice As S.length cs) S gi (yN (S.take 0)) (.int .i64 0) w4 from ⟨by rw [show yN (S.take 0) = [] by simp [yN], snL_nil]; simp [cntK], HLS4.out, by rw [show yN (S.take 0) = [] by simp [yN], snL_nil]; exact H4.out, HGB.out⟩)
  clear H4 HLS4
  go_wp2_with fail
  go_loopw [6, 8] (fun vm i wr => ∃ k : Nat, k ≤ S.length ∧ i = .int .i64 k ∧ Hid (MaL I (z6 I ba bc da dc ra rn rc) w gl gs (.slice Ac gs.length cc) (.slice As S.length cs) S gi (yN (S.take k)) vm wr)) (fun _ i _ => S.length - (intOf i).toNat)
  case atStart => exact ⟨0, Nat.zero_le _, rfl, HM0⟩
  case round =>
   clear HM0
   obtain ⟨k, hk, rfl, hrel⟩ := hrel
   obtain ⟨rfl, hls, hit, -⟩ := hrel.out
   have HLS := zh hls
   have HIT := zh hit
   clear hrel hls hit
   obtain ⟨mc0, hmc⟩ : ∃ mc0, cntK (snL (yN (S.take k))) 524288 = mc0 := ⟨_, rfl⟩
   rw [hmc]
   have HMC := zh hmc
   clear hmc
   have hcl := fun o => cell_of_row wr gl o _ _ _ HLS.out.hl
   by_cases hlt : k < S.length
   ·obtain ⟨x, hx⟩ : ∃ x, S[k]? = some x := ⟨_, List.getElem?_eq_getElem hlt⟩
    have hsl := HSL.out
    have hxm := List.mem_of_getElem? hx
    have hri : yz I more (some (S.map (·.1))) := by
     rcases HGI.out.2 with ⟨-, h⟩ | h
     ·rw [h] at hxm; cases hxm
     ·exact h
    have hxv := HLS.out.rn.rv x hxm
    obtain ⟨A1, k1, e1, hr1⟩ := zt hxv.oc
    have hr2 := (yd (e1 ▸ hxv.oc)).le
    have HCL2 := zh (show x.1.code.length ≤ 9223372036854775807 from own_max hxv.oc)
    obtain ⟨gr, ro, cur, T, fr, hAe, hg, -, -, hcc⟩ := RdS.eltPart (f := x6) (fun _ => rfl) (yd HLS.out.rn.own) hx (a := 5) (m := 1) (by omega) (L := [x.2.1]) rfl
    subst hAe
    have hcr : wr.cell? ⟨gr, ro + k * 8 + 5, none⟩ = some (.slice A1 x.1.code.length k1) := by rw [← e1]; exact hcc 0 (by omega)
    have HX := zh (And.intro hx (And.intro hxm e1))
    have HRI := zh hri
    have HLT := zh hlt
    have HCS := zh (codes_snoc hx)
    clear hg hcc hx hxm hri hxv hr1 e1
    have HM0 := zh (show MaL I (z6 I ba bc da dc ra rn rc) w gl gs (.slice Ac gs.length cc) (.slice (some ⟨gr, ro, none⟩) S.length cs) S gi (yN (S.take k) ++ x.1.code.take 0) (.int .i64 mc0) wr from ⟨by rw [List.take_zero, List.append_nil, HMC.out], HLS.out, by rw [List.take_zero, List.append_nil]; exact HIT.out, HGB.out⟩)
    clear HLS HIT HMC hcr
    go_wp2_with fail
    clear hcl
    go_loopw [6, 9] (fun vm i wr => ∃ j : Nat, j ≤ x.1.code.length ∧ i = .int .i64 j ∧ Hid (MaL I (z6 I ba bc da dc ra rn rc) w gl gs (.slice Ac gs.length cc) (.slice (some ⟨gr, ro, none⟩) S.length cs) S gi (yN (S.take k) ++ x.1.code.take j) vm wr)) (fun _ i _ => x.1.code.length - (intOf i).toNat)
    case atStart => exact ⟨0, Nat.zero_le _, rfl, HM0⟩
    case round =>
     clear HM0
     obtain ⟨j, hj, rfl, hrel⟩ := hrel
     obtain ⟨rfl, hls, hit, -⟩ := hrel.out
     have HLS := zh hls
     have HIT := zh hit
     clear hrel hls hit
     obtain ⟨sn, hsn⟩ : ∃ sn, snL (yN (S.take k) ++ x.1.code.take j) = sn := ⟨_, rfl⟩
     rw [hsn] at HIT ⊢
     have HSN := zh hsn
     obtain ⟨mc0, hmc⟩ : ∃ mc0, cntK sn 524288 = mc0 := ⟨_, rfl⟩
     rw [hmc]
     have HMC := zh hmc
     have hmb : mc0 ≤ 524288 := by rw [← hmc]; exact cntK_le _ _
     have HMB := zh hmb
     clear hmc hsn hmb
     have hcl := fun o => cell_of_row wr gl o _ _ _ HLS.out.hl
     obtain ⟨gr2, ro2, cur, T, fr, hAe, hg, -, -, hcc⟩ := RdS.eltPart (f := x6) (fun _ => rfl) (yd HLS.out.rn.own) HX.out.1 (a := 5) (m := 1) (by omega) (L := [x.2.1]) rfl
     simp only [Option.some.injEq, Addr.mk.injEq, and_true] at hAe
     obtain ⟨rfl, rfl⟩ := hAe
     have hcr : wr.cell? ⟨gr, ro + k * 8 + 5, none⟩ = some (.slice A1 x.1.code.length k1) := by rw [← HX.out.2.2]; exact hcc 0 (by omega)
     have hlt := HLT.out
     clear hg hcc
     by_cases hjl : j < x.1.code.length
     ·obtain ⟨y, hy⟩ : ∃ y, x.1.code[j]? = some y := ⟨_, List.getElem?_eq_getElem hjl⟩
      have hyo := codes_ok HI.out HMP.out HRI.out (List.mem_map.2 ⟨x, HX.out.2.1, rfl⟩) (List.mem_of_getElem? hy)
      have hkb := key_bd (ok_at hyo.1).ii hyo.2
      have hcb := xp (y6 (ok_at hyo.1).ii).1
      obtain ⟨kn, hkn⟩ : ∃ kn, keyN y = kn := ⟨_, rfl⟩
      rw [hkn] at hkb
      have HKI := zh hkb.1
      have HKY := zh (fun W => key_any y (by omega) hyo.2.2 W)
      obtain ⟨g3, o3, c3, T3, f3, hA3, hg3, hexp, -, -⟩ := RdS.eltPart (f := itmL I) (fun _ => rfl) (yd (HX.out.2.2 ▸ (HLS.out.rn.rv x HX.out.2.1).oc)) hy (a := 0) (m := 2) (by omega) (L := yQ y) rfl
      subst hA3
      have HEP := zh hexp
      have HG3 := zh hg3
      have HJL := zh hjl
      have HKN := zh (show kn < nn by rw [← HNN.out]; exact hkb.2.1)
      have HTK := zh (show snL (yN (S.take k) ++ x.1.code.take (j + 1)) = putK sn kn by
       rw [List.take_succ, hy, ← HSN.out, ← hkn, snL_snoc, List.append_assoc]
       rfl)
      clear hexp hg3 hy hyo hkb hcb hkn
      go_upto_region 11 with (first
       | (refine lmT 47 ([.int .i64 y.bank, .int .u16 y.addr]) (HG3.out) (HEP.out) ?_)
       | (go_at_call 45; (with_reducible refine (HKY.out _).mono ?_); rintro e7 w7 ⟨rfl, hb7⟩; rw [HKI.out]; have HB7 := zh hb7; clear hb7))
      clear hcl hcr
      have HLS7 := zh (HLS.out.below HB7.out)
      have HIT7 := zh (za HB7.out HIT.out)
      have hkl := HKN.out
      have hjl2 := HJL.out
      have hcl2 := HCL2.out
      have hct : w7.cell? ⟨gi, kn, none⟩ = some (.bool (sn kn)) := by rw [cell_of_row _ _ _ _ _ _ HIT7.out, xQ _ (by rw [HNN.out]; exact hkl)]
      have hft := fun q => frozen_of_row w7 gi q _ _ HIT7.out
      have HL8 := zh (HLS7.out.mark (n := kn) (x := .bool true) HIT7.out (.inl rfl) HGB.out)
      have hi8 := heap_setCell_same HIT7.out (i := kn) (.bool true)
      rw [rowT_set, show (fun o => if o = kn then true else sn o) = putK sn kn from rfl, ← HTK.out] at hi8
      have HI8 := zh hi8
      clear HLS HIT HB7 HG3 HEP hi8
      cases hs : sn kn with
      | false =>
       rw [hs] at hct
       have HCP := zh (show cntK (snL (yN (S.take k) ++ x.1.code.take (j + 1))) 524288 = mc0 + 1 by rw [HTK.out, cntK_put hs, HMC.out, if_pos (by rw [HNN.out]; exact HKN.out)])
       have hmb := HMB.out
       clear hs
       go_wp2_with fail
       go_roundw
       case rel => exact ⟨j + 1, HJL.out, by go_num, zh ⟨by rw [HCP.out]; go_num, HL8.out, HI8.out, HGB.out⟩⟩
       case measure => have h1 := HJL.out; simp [intOf]; omega
      | true =>
       rw [hs] at hct
       have HCP := zh (show cntK (snL (yN (S.take k) ++ x.1.code.take (j + 1))) 524288 = mc0 by rw [HTK.out, putK_same hs, HMC.out])
       clear hs
       go_wp2_with fail
       go_roundw
       case rel => exact ⟨j + 1, HJL.out, by go_num, zh ⟨by rw [HCP.out], HL8.out, HI8.out, HGB.out⟩⟩
       case measure => have h1 := HJL.out; simp [intOf]; omega
     ·obtain rfl : j = x.1.code.length := by omega
      have HSE := zh (show sn = snL (yN (S.take (k + 1))) by rw [← HSN.out, List.take_of_length_le (zn _), ← HCS.out])
      have hsl2 := HSL.out
      go_wp2_with fail
      clear hcl hcr
      go_roundw
      case rel => exact ⟨k + 1, HLT.out, by go_num, zh ⟨by rw [← HSE.out, HMC.out], HLS.out, by rw [← HSE.out]; exact HIT.out, HGB.out⟩⟩
      case measure => have h1 := HLT.out; simp [intOf]; omega
   ·obtain rfl : k = S.length := by omega
    have htk : S.take S.length = S := List.take_of_length_le (zn _)
    have hmc := HMC.out
    have hit := HIT.out
    rw [htk] at hmc hit
    have HMC := zh hmc
    have HIT := zh hit
    have hsl := HSL.out
    have hmb : mc0 ≤ 524288 := by rw [← hmc]; exact cntK_le _ _
    clear htk hmc hit
    go_upto_region 14 with fail
    go_cut [71] (fun v wx => ∃ b : Bool, v = .bool b ∧ Hid (b = true ↔ (20000 < mc0 ∨ S.length = 0)) ∧ wx = wr)
    case first =>
     by_cases h1 : 20000 < mc0
     ·have h2 : (20000 : Int) < (mc0 : Int) := by omega
      have H1 := zh h1
      clear h1
      go_wp2_with fail
      go_meet
      exact ⟨_, rfl, zh ⟨fun _ => .inl H1.out, fun _ => rfl⟩, rfl⟩
     ·have h2 : ¬ (20000 : Int) < (mc0 : Int) := by omega
      have H1 := zh h1
      clear h1
      by_cases h3 : S.length = 0
      ·have h4 : ((S.length : Int) == 0) = true := by rw [h3]; rfl
       have H3 := zh h3
       clear h3
       go_wp2_with fail
       go_meet
       exact ⟨_, rfl, zh ⟨fun _ => .inr H3.out, fun _ => rfl⟩, rfl⟩
      ·have h4 : ((S.length : Int) == 0) = false := by simpa using h3
       have H3 := zh h3
       clear h3
       go_wp2_with fail
       go_meet
       exact ⟨_, rfl, zh ⟨(fun e => absurd e (by decide)), (fun e => (e.elim (fun e => absurd e H1.out) (fun e => absurd e H3.out)))⟩, rfl⟩
    case rest =>
     obtain ⟨bm, rfl, HBM, hwc⟩ := hcut
     rw [hwc]
     clear hwc
     cases bm with
     | true =>
      have HML := zh (scn_many HI.out HMP.out HGI.out.2 (by rw [HMC.out]; exact HBM.out.1 rfl))
      have HSP := zh (scp_many HLS.out HGI.out.1 HML.out)
      have HR1 := zh (HLS.out.bx.alloc (y8 ⟨2, ⟨0, I.entry⟩⟩)).b1
      have hci := fun j => cell_of_row wr w.heap.size j _ _ _ HLS.out.bx.b0
      have hcl := fun j => cell_of_row wr gl j _ _ _ HLS.out.hl
      clear HBM HMC HIT HGI HML
      go_wp2_with (first
       | (refine stR (HR1.out) ?_))
      refine bodyPost_ret (results_cell_row (cs := #[.slice Ac gs.length cc, .slice none 0 0, .slice (some ⟨wr.heap.size, 0, none⟩) 1 1]) (fr := (0, 0)) Tryz.results19 _ _ (w.heap.size + 1) 38 _ ?_ (setRow_heap _ _ _ _ _ _ HR1.out) Tryz.underlying38 rfl (by kernel_rfl)) rfl ?_
      ·rfl
      ·exact HSP.out
     | false =>
      have h20 : mc0 ≤ 20000 ∧ ¬ S.length = 0 := ⟨Nat.le_of_not_lt fun e => absurd (HBM.out.2 (.inl e)) (by decide), fun e => absurd (HBM.out.2 (.inr e)) (by decide)⟩
      have hri : yz I more (some (S.map (·.1))) := by
       rcases HGI.out.2 with ⟨-, h⟩ | h
       ·exact absurd (by rw [h]; rfl) h20.2
       ·exact h
      have HRI := zh hri
      have hit2 := scn_items HI.out HMP.out hri
      obtain ⟨sn, hsn⟩ : ∃ sn, snL (yN S) = sn := ⟨_, rfl⟩
      have hmc := HMC.out
      have hit := HIT.out
      rw [hsn] at hit2 hmc hit
      obtain ⟨its, hits⟩ : ∃ its, zG sn nn = its := ⟨_, rfl⟩
      have hit3 : IsItems (S.map (·.1)) its ∧ ∀ p ∈ its, okI I p ∧ yO p := by rw [← hits, ← HNN.out]; exact hit2
      have HIS := zh hit3.1
      have HOK := zh hit3.2
      have HNI := zh (show its.length ≤ 20000 by rw [← hits, ← HNN.out, marked_cnt, hmc]; exact h20.1)
      have HITS := zh hits
      have HIT := zh (show wr.heap[gi]? = some (.cells (rowT nn sn) 4 (0, 0)) by rw [← HNN.out]; exact hit)
      have HGL := zh HGI.out.1
      clear h20 hri hit2 hit3 hsn hmc hit hits HBM HMC HGI HSL hsl hmb
      obtain ⟨iI, hiI, hzI, hzI1, hzI2⟩ := info_parts infoInt
      go_upto_region 17 with (refine wpList_make_full _ rfl _ _ 70 rfl wr.heap.size 3 iI (.int .i64 0) 1 Tryz.underlying70 hiI hzI hzI1 .i64 .i64 262144 262144 262144 rfl rfl rfl rfl (by rw [hzI2]; decide) (by decide) (zn _) ?_; intro w5 ho5 hg5)
      have h5 := made_row rfl ho5
      have hb5 := jb hg5
      obtain ⟨mm, hmm⟩ : ∃ mm : Nat, 262144 = mm := ⟨_, rfl⟩
      have HMM := zh hmm
      have HCV := zh (show CvR I (z6 I ba bc da dc ra rn rc) w gl gs (.slice Ac gs.length cc) (.slice As S.length cs) S gi nn sn wr.heap.size mm (cnt0 I (zG sn 0)) w5 from ⟨HLS.out.below hb5, za hb5 HIT.out, by rw [cnt0_zero, ← hmm]; exact h5, HLS.out.bx.z⟩)
      rw [hmm]
      obtain ⟨gcv, hgcv⟩ : ∃ g, wr.heap.size = g := ⟨_, rfl⟩
      rw [hgcv] at HCV ⊢
      have hmb : mm ≤ 1000000 := by omega
      clear h5 hb5 ho5 hg5 hiI hzI hzI1 hzI2 iI hgcv hmm HLS HIT
      go_wp2_with fail
      go_loopw [12] (fun i wx => ∃ k : Nat, k ≤ nn ∧ i = .int .i64 k ∧ Hid (CvR I (z6 I ba bc da dc ra rn rc) w gl gs (.slice Ac gs.length cc) (.slice As S.length cs) S gi nn sn gcv mm (cnt0 I (zG sn k)) wx)) (fun i _ => nn - (intOf i).toNat)
      case atStart => exact ⟨0, Nat.zero_le _, rfl, HCV⟩
      case round =>
       clear HCV
       obtain ⟨k, hk, rfl, HCV⟩ := hrel
       by_cases hlt : k < nn
       ·have hci : wr.cell? ⟨gi, k, none⟩ = some (.bool (sn k)) := by rw [cell_of_row _ _ _ _ _ _ HCV.out.it, xQ _ hlt]
        have HLT := zh hlt
        cases hs : sn k with
        | false =>
         rw [hs] at hci
         have HE := zh (show zG sn (k + 1) = zG sn k by rw [xH, if_neg (by rw [hs]; decide)])
         clear hs
         go_wp2_with fail
         go_roundw
         case rel => exact ⟨k + 1, HLT.out, by go_num, by rw [HE.out]; exact HCV⟩
         case measure => have h1 := HLT.out; simp [intOf]; omega
        | true =>
         rw [hs] at hci
         have HE := zh (show zG sn (k + 1) = zG sn k ++ [ofK k] by rw [xH, if_pos hs])
         have hkn : k < 524288 := by rw [HNN.out]; exact hlt
         have hyo := HOK.out (ofK k) (by rw [← HITS.out]; exact marked_mem hlt hs)
         have HML := zh (show (zG sn k).length ≤ 20000 from Nat.le_trans (mk_len hk) (by rw [HITS.out]; exact HNI.out))
         have hsz := (szI_eq hyo.1).1
         have hend := ok_end HI.out hyo.1
         have hszb := (szI_eq hyo.1).2
         obtain ⟨y, hy⟩ : ∃ y, ofK k = y := ⟨_, rfl⟩
         obtain ⟨z, hz⟩ : ∃ z, szI I y = z := ⟨_, rfl⟩
         obtain ⟨kb, hkb⟩ : ∃ kb, k / 8192 = kb := ⟨_, rfl⟩
         obtain ⟨ko, hko⟩ : ∃ ko, k % 4096 = ko := ⟨_, rfl⟩
         have hyb : y.bank = (kb : Int) := by rw [← hy, ← hkb]; rfl
         have hof : zI y = ko := by
          rw [← hy, ← hko]
          show (((k % 8192 : Nat) : Int) % 4096).toNat = k % 4096
          omega
         have HOF := zh (fun W => of_any k hkn W)
         rw [hy] at hyo hsz hend hszb HE
         have hof2 := HOF.out
         rw [hy] at hof2
         have HOF := zh hof2
         rw [hz] at hsz hend hszb
         rw [hof] at hend
         have HAT := zh (fun W hv => rat_any I HI.out ba bc da dc ra rn rc y hyo.2.2.1 hyo.2.2.2 W hv)
         have HY := zh (And.intro hyb hof)
         have HEND := zh hend
         have HZI := zh hz
         have HSZ := zh hsz
         have HZB := zh hszb
         have HKB := zh hkb
         have HKO := zh hko
         have HS := zh hs
         clear hs hkn hyo hsz hend hszb hy hz hkb hko hyb hof hof2
         go_upto_region 21 with fail
         clear hci
         have hbx := HCV.out.ls.bx
         have HIM := zh hbx.b0
         have HVW := zh (HVC.out.below hbx.bb)
         clear hbx
         try simp only [Act.put]
         go_cut [13] (fun v wx => ∃ gx op d s im au bk, v = .pointer (some ⟨gx, 0, none⟩) ∧ Hid (wx.heap[gx]? = some (xS ⟨op, d, s, im, au, bk, z⟩)) ∧ Hid (Below wr.heap.size wr wx))
         case first =>
          refine zr (S := fun W => W.heap[w.heap.size]? = some (z6 I ba bc da dc ra rn rc)) [6] (by kernel_rfl) HIM.out (fun hHeld => ?_)
          (refine tkZ 0 (v := .agg #[.slice ba I.banks.length bc, .int .u16 I.entry, .int .u16 I.vector, .slice da I.data.length dc, .slice ra rn rc]) rfl (by assumption) (fun W hS => zW _ _ rfl _ rfl _ _ _ hS (by kernel_rfl)) ?_; (refine pts ?_))
          (refine tz 1 ?_)
          have HWD := zh (Below.refl wr.heap.size wr).drew
          obtain ⟨wd, hwd⟩ : ∃ wd, wr.drew = wd := ⟨_, rfl⟩
          rw [hwd] at HWD ⊢
          clear hwd hHeld
          refine twoZ 2 5 rfl rfl (fun K hK => ?_) (fun K hK => ?_)
          ·go_simp
           go_at_call 46
           (with_reducible refine (HOF.out _).mono ?_)
           rintro e2 w2 ⟨rfl, hb2⟩
           have HB2 := zh (HWD.out.trans (hb2.mono HWD.out.size))
           have HS2 := zh hb2
           clear hb2
           go_simp
           refine hK.out _ _ (.inr (za HB2.out HIM.out)) ?_
           (refine pts ?_)
           clear hK K
           refine twoZ 3 5 rfl rfl (fun K hK => ?_) (fun K hK => ?_)
           ·go_simp
            go_at_call 25
            (with_reducible refine (HAT.out _ (HVW.out.below HB2.out)).mono ?_)
            rintro e3 w3 ⟨rfl, hb3⟩
            rw [HSZ.out]
            have HB3 := zh (HB2.out.trans (hb3.mono HB2.out.size))
            have HS3 := zh hb3
            clear hb3
            go_simp
            refine hK.out _ _ (.inr (za HB3.out HIM.out)) ?_
            (refine pts ?_)
            clear hK K
            have hHeld := za HB3.out HIM.out
            (refine tkZ 4 (v := .agg #[.int .i64 (atI I y).1.op, .int .i64 (atI I y).1.d, .int .i64 (atI I y).1.s, .int .u16 (atI I y).1.imm, .int .u16 (atI I y).1.aux, .int .i64 (atI I y).1.bank, .int .i64 z]) rfl (by assumption) (fun W hS => by clear hS; first | kernel_rfl | (go_simp; first | done | rfl | kernel_rfl)) ?_; (refine pts ?_))
            clear hHeld
            refine yx 5 rfl (fun K hK => ?_)
            go_simp
            have HXA := zh (heap_alloc_new w3 (xS ⟨0, 0, 0, 0, 0, 0, 0⟩))
            have HLB := zh HB3.out.size
            have HBA := zh (HB3.out.alloc HB3.out.size (xS ⟨0, 0, 0, 0, 0, 0, 0⟩))
            refine hK.out _ _ (.inr (za HBA.out HIM.out)) ?_
            (refine pts ?_)
            clear hK K
            refine z8 6 ?_
            simp only [List.drop_succ_cons, List.drop_zero]
            have HGF := zh HXA.out
            go_wp2_with (first | (refine stR (HGF.out) ?_))
            go_meet
            exact ⟨_, _, _, _, _, _, _, rfl, zh (setRow_heap _ _ _ _ _ _ HGF.out), zh (below_setRow HBA.out HLB.out _)⟩
           ·go_simp
            have HXA := zh (heap_alloc_new w2 (xS ⟨0, 0, 0, 0, 0, 0, 0⟩))
            have HLB := zh HB2.out.size
            have HBA := zh (HB2.out.alloc HB2.out.size (xS ⟨0, 0, 0, 0, 0, 0, 0⟩))
            refine hK.out _ _ (.inr (za HBA.out HIM.out)) ?_
            (refine pts ?_)
            clear hK K
            refine yx 3 rfl (fun K hK => ?_)
            go_simp
            go_at_call 25
            (with_reducible refine (HAT.out _ (HVW.out.below HBA.out)).mono ?_)
            rintro e3 w3 ⟨rfl, hb3⟩
            rw [HSZ.out]
            have HB3 := zh (HBA.out.trans (hb3.mono HBA.out.size))
            have HS3 := zh hb3
            clear hb3
            go_simp
            refine hK.out _ _ (.inr (za HB3.out HIM.out)) ?_
            (refine pts ?_)
            clear hK K
            have hHeld := za HB3.out HIM.out
            (refine tkZ 4 (v := .agg #[.int .i64 (atI I y).1.op, .int .i64 (atI I y).1.d, .int .i64 (atI I y).1.s, .int .u16 (atI I y).1.imm, .int .u16 (atI I y).1.aux, .int .i64 (atI I y).1.bank, .int .i64 z]) rfl (by assumption) (fun W hS => by clear hS; first | kernel_rfl | (go_simp; first | done | rfl | kernel_rfl)) ?_; (refine pts ?_))
            clear hHeld
            refine z8 6 ?_
            simp only [List.drop_succ_cons, List.drop_zero]
            have HGF := zh (za HS3.out HXA.out)
            go_wp2_with (first | (refine stR (HGF.out) ?_))
            go_meet
            exact ⟨_, _, _, _, _, _, _, rfl, zh (setRow_heap _ _ _ _ _ _ HGF.out), zh (below_setRow HB3.out HLB.out _)⟩
          ·go_simp
           have HXA := zh (heap_alloc_new wd (xS ⟨0, 0, 0, 0, 0, 0, 0⟩))
           have HLB := zh HWD.out.size
           have HBA := zh (HWD.out.alloc HWD.out.size (xS ⟨0, 0, 0, 0, 0, 0, 0⟩))
           refine hK.out _ _ (.inr (za HBA.out HIM.out)) ?_
           (refine pts ?_)
           clear hK K
           refine yx 2 rfl (fun K hK => ?_)
           go_simp
           go_at_call 46
           (with_reducible refine (HOF.out _).mono ?_)
           rintro e2 w2 ⟨rfl, hb2⟩
           have HB2 := zh (HBA.out.trans (hb2.mono HBA.out.size))
           have HS2 := zh hb2
           clear hb2
           go_simp
           refine hK.out _ _ (.inr (za HB2.out HIM.out)) ?_
           (refine pts ?_)
           clear hK K
           refine yx 3 rfl (fun K hK => ?_)
           go_simp
           go_at_call 25
           (with_reducible refine (HAT.out _ (HVW.out.below HB2.out)).mono ?_)
           rintro e3 w3 ⟨rfl, hb3⟩
           rw [HSZ.out]
           have HB3 := zh (HB2.out.trans (hb3.mono HB2.out.size))
           have HS3 := zh hb3
           clear hb3
           go_simp
           refine hK.out _ _ (.inr (za HB3.out HIM.out)) ?_
           (refine pts ?_)
           clear hK K
           have hHeld := za HB3.out HIM.out
           (refine tkZ 4 (v := .agg #[.int .i64 (atI I y).1.op, .int .i64 (atI I y).1.d, .int .i64 (atI I y).1.s, .int .u16 (atI I y).1.imm, .int .u16 (atI I y).1.aux, .int .i64 (atI I y).1.bank, .int .i64 z]) rfl (by assumption) (fun W hS => by clear hS; first | kernel_rfl | (go_simp; first | done | rfl | kernel_rfl)) ?_; (refine pts ?_))
           clear hHeld
           refine z8 6 ?_
           simp only [List.drop_succ_cons, List.drop_zero]
           have HGF := zh (za HS3.out (za HS2.out HXA.out))
           go_wp2_with (first | (refine stR (HGF.out) ?_))
           go_meet
           exact ⟨_, _, _, _, _, _, _, rfl, zh (setRow_heap _ _ _ _ _ _ HGF.out), zh (below_setRow HB3.out HLB.out _)⟩
         case rest =>
          obtain ⟨gx, op, d, s, im, au, bk, rfl, HX, HBX⟩ := hcut
          have HCV0 := zh (show CvR I (z6 I ba bc da dc ra rn rc) w gl gs (.slice Ac gs.length cc) (.slice As S.length cs) S gi nn sn gcv mm (cntF I (zG sn k) y 0) wc by rw [cnt_start]; exact HCV.out.below HBX.out)
          clear HCV HBX HIM HAT HOF
          have hkd : (k : Int).tdiv 8192 = (kb : Int) := by rw [Int.tdiv_eq_ediv_of_nonneg (by omega), ← HKB.out]; omega
          have hkm : (k : Int).tmod 4096 = (ko : Int) := by rw [Int.tmod_eq_emod_of_nonneg (by omega), ← HKO.out]; omega
          have HKD := zh (And.intro hkd hkm)
          clear hkd hkm
          go_wp2_with fail
          go_loopw [14] (fun i wx => ∃ j : Nat, j ≤ z ∧ i = .int .i64 j ∧ Hid (CvR I (z6 I ba bc da dc ra rn rc) w gl gs (.slice Ac gs.length cc) (.slice As S.length cs) S gi nn sn gcv mm (cntF I (zG sn k) y j) wx) ∧ Hid (wx.heap[gx]? = some (xS ⟨op, d, s, im, au, bk, z⟩))) (fun i _ => z - (intOf i).toNat)
          case atStart => exact ⟨0, Nat.zero_le _, rfl, HCV0, HX⟩
          case round =>
           clear HCV0 HX
           obtain ⟨j, hj, rfl, HCV, HX⟩ := hrel
           have hcx := fun q => cell_of_row wr gx q _ _ _ HX.out
           by_cases hlj : j < z
           ·obtain ⟨bm, hbm⟩ : ∃ bm : Nat, kb * 4096 = bm := ⟨_, rfl⟩
            obtain ⟨bo, hbo⟩ : ∃ bo : Nat, bm + ko = bo := ⟨_, rfl⟩
            obtain ⟨ix, hix⟩ : ∃ ix : Nat, bo + j = ix := ⟨_, rfl⟩
            obtain ⟨fv, hfv⟩ : ∃ fv, cntF I (zG sn k) y j ix = fv := ⟨_, rfl⟩
            have hfb : 0 ≤ fv ∧ fv ≤ 20001 := by rw [← hfv]; exact cnt_bdR HML.out
            have hko4 : ko < 4096 := by rw [← HKO.out]; omega
            have hkbb : kb < 64 := by rw [← HKB.out]; have h1 := HLT.out; have h2 := HNN.out; omega
            have hend := HEND.out
            have hixm : ix < mm := by rw [← HMM.out]; omega
            have hcc : wr.cell? ⟨gcv, ix, none⟩ = some (.int .i64 fv) := by rw [cell_of_row _ _ _ _ _ _ HCV.out.cv, xQ _ hixm, hfv]
            have hfz := fun q => frozen_of_row wr gcv q _ _ HCV.out.cv
            have HPT := zh (cnt_putX (I := I) (M := zG sn k) (p := y) (j := j) HY.out.1 (by rw [HY.out.2]; omega : zI y + j < 4096) (by rw [HY.out.2, hbm, hbo, hix] : kb * 4096 + zI y + j = ix))
            have HFV := zh hfv
            have HLJ := zh hlj
            have hjb : j ≤ 100 := by have := HZB.out; omega
            have hkd := HKD.out.1
            have hkm := HKD.out.2
            have hn1 : gx ≠ gcv := fun e => by
             have h1 := HX.out
             rw [e, HCV.out.cv] at h1
             injection h1 with h1
             injection h1 with _ h1
             exact absurd h1 (by decide)
            have HN1 := zh hn1
            have HIXE := zh (ix_wrap hkbb hko4 hjb hbm hbo hix)
            clear hbm hbo hix hfv hend hn1 hkbb hko4
            go_upto_region 26 with fail
            rw [HIXE.out]
            clear hkd hkm
            go_wp2_with fail
            have hst : zg (fun q => q = gcv) wr (wr.setCell ⟨gcv, ix, none⟩ (.int .i64 (fv + 1))) := (zg.refl _ wr).setCell _ (fun _ => rfl)
            have hput := HCV.out.put ix (fv + 1)
            have hpt := HPT.out
            rw [HFV.out] at hpt
            rw [hpt] at hput
            go_roundw
            case rel => exact ⟨j + 1, HLJ.out, by go_num, zh hput, zh (hst.heap HX.out HN1.out)⟩
            case measure => have h1 := HLJ.out; simp [intOf]; omega
           ·obtain rfl : j = z := by omega
            have hcv := HCV.out
            have he : cntF I (zG sn k) y j = cnt0 I (zG sn (k + 1)) := by rw [HE.out, ← HZI.out]; exact cnt_end
            rw [he] at hcv
            have HCV := zh hcv
            clear hcv he
            go_wp2_with fail
            clear hcx
            go_roundw
            case rel => exact ⟨k + 1, HLT.out, by go_num, HCV⟩
            case measure => have h1 := HLT.out; simp [intOf]; omega
       ·obtain rfl : nn = k := by omega
        have HLS := zh HCV.out.ls
        have HIT := zh HCV.out.it
        have hcv := HCV.out.cv
        rw [HITS.out] at hcv
        have HCR := zh hcv
        have HMS := zh (ml_start (its := its) (sn := sn) HCV.out.ls)
        have HNT := zh (HLS.out.ne HIT.out (by decide) (by decide))
        have HNC := zh (HLS.out.ne HCR.out (by decide) (by decide))
        have HNM := zh (HLS.out.ne HLS.out.bx.b0 (by decide) (by decide))
        have HVW := zh (HVC.out.below HLS.out.bx.bb)
        clear hcv HCV
        obtain ⟨wq, rfl⟩ : ∃ wq : World, wq = wr := ⟨_, rfl⟩
        go_wp2_with fail
        go_loopw [16] (fun i wx => ∃ k : Nat, k ≤ nn ∧ i = .int .i64 k ∧ Hid (MlR I its sn gl w.heap.size gs (.slice Ac gs.length cc) (.slice As S.length cs) wq k wx)) (fun i _ => nn - (intOf i).toNat)
        case atStart => exact ⟨0, Nat.zero_le _, rfl, HMS⟩
        case round =>
         clear HMS
         obtain ⟨k, hk, rfl, HML⟩ := hrel
         have HTR := zh HML.out.tr
         by_cases hlt : k < nn
         ·have hci : wr.cell? ⟨gi, k, none⟩ = some (.bool (sn k)) := by rw [cell_of_row _ _ _ _ _ _ (HTR.out.heap HIT.out HNT.out), xQ _ hlt]
          have HLT := zh hlt
          cases hs : sn k with
          | false =>
           rw [hs] at hci
           have HE := zh (ml_skip HML.out hs)
           clear hs
           go_wp2_with fail
           go_roundw
           case rel => exact ⟨k + 1, HLT.out, by go_num, HE⟩
           case measure => have h1 := HLT.out; simp [intOf]; omega
          | true =>
           rw [hs] at hci
           have HOF := zh (fun W => of_any k (by rw [HNN.out]; exact hlt) W)
           have HMK := zh (fun W (hb : Below wr.heap.size wr W) => ml_call HI.out ba bc da dc ra rn rc HLS.out HGL.out HITS.out hlt hs HOK.out HVC.out hb HNN.out HMM.out HNI.out HCR.out HML.out)
           have HIM := zh (HTR.out.heap HLS.out.bx.b0 HNM.out)
           obtain ⟨y, hy⟩ : ∃ y, ofK k = y := ⟨_, rfl⟩
           rw [hy] at HOF HMK
           clear hs hy
           go_upto_region 31 with fail
           clear hci
           refine zr (S := fun W => W.heap[w.heap.size]? = some (z6 I ba bc da dc ra rn rc)) [4] (by kernel_rfl) HIM.out (fun hHeld => ?_)
           (refine tkZ 0 (v := .agg #[.slice ba I.banks.length bc, .int .u16 I.entry, .int .u16 I.vector, .slice da I.data.length dc, .slice ra rn rc]) rfl (by assumption) (fun W hS => zW _ _ rfl _ rfl _ _ _ hS (by kernel_rfl)) ?_; (refine pts ?_))
           (refine tz 1 ?_)
           (refine tz 3 ?_)
           have HWD := zh (Below.refl wr.heap.size wr).drew
           obtain ⟨wd, hwd⟩ : ∃ wd, wr.drew = wd := ⟨_, rfl⟩
           rw [hwd] at HWD ⊢
           clear hwd hHeld
           refine yx 2 rfl (fun K hK => ?_)
           go_simp
           go_at_call 46
           (with_reducible refine (HOF.out _).mono ?_)
           rintro e2 w2 ⟨rfl, hb2⟩
           have HB2 := zh (HWD.out.trans (hb2.mono HWD.out.size))
           clear hb2
           go_simp
           refine hK.out _ _ (.inr (za HB2.out HIM.out)) ?_
           (refine pts ?_)
           clear hK K
           refine z8 4 ?_
           simp only [List.drop_succ_cons, List.drop_zero]
           go_wp2_with (first
            | (go_at_call 47; (with_reducible refine (HMK.out _ HB2.out).mono ?_); rintro e3 w3 ⟨rfl, hm3⟩; have HM3 := zh hm3; clear hm3))
           go_roundw
           case rel => exact ⟨k + 1, HLT.out, by go_num, HM3⟩
           case measure => have h1 := HLT.out; simp [intOf]; omega
         ·obtain rfl : nn = k := by omega
          have HMS := zh (tl_start HITS.out HML.out)
          clear HML HTR
          go_wp2_with fail
          go_loopw [17] (fun i wx => ∃ k : Nat, k ≤ nn ∧ i = .int .i64 k ∧ Hid (TlR I its sn gl w.heap.size gs (.slice Ac gs.length cc) (.slice As S.length cs) wq k wx)) (fun i _ => nn - (intOf i).toNat)
          case atStart => exact ⟨0, Nat.zero_le _, rfl, HMS⟩
          case round =>
           clear HMS
           obtain ⟨k, hk, rfl, HML⟩ := hrel
           have HTR := zh HML.out.tr
           by_cases hlt : k < nn
           ·have hci : wr.cell? ⟨gi, k, none⟩ = some (.bool (sn k)) := by rw [cell_of_row _ _ _ _ _ _ (HTR.out.heap HIT.out HNT.out), xQ _ hlt]
            have HLT := zh hlt
            cases hs : sn k with
            | false =>
             rw [hs] at hci
             have HE := zh (tl_skip HML.out hs)
             clear hs
             go_wp2_with fail
             go_roundw
             case rel => exact ⟨k + 1, HLT.out, by go_num, HE⟩
             case measure => have h1 := HLT.out; simp [intOf]; omega
            | true =>
             rw [hs] at hci
             have HOF := zh (fun W => of_any k (by rw [HNN.out]; exact hlt) W)
             have HMK := zh (fun W (hb : Below wr.heap.size wr W) => tl_call HI.out ba bc da dc ra rn rc HLS.out HGL.out HITS.out hlt hs HOK.out HVC.out hb HML.out)
             have HIM := zh (HTR.out.heap HLS.out.bx.b0 HNM.out)
             obtain ⟨y, hy⟩ : ∃ y, ofK k = y := ⟨_, rfl⟩
             rw [hy] at HOF HMK
             clear hs hy
             go_upto_region 36 with fail
             clear hci
             refine zr (S := fun W => W.heap[w.heap.size]? = some (z6 I ba bc da dc ra rn rc)) [3] (by kernel_rfl) HIM.out (fun hHeld => ?_)
             (refine tkZ 0 (v := .agg #[.slice ba I.banks.length bc, .int .u16 I.entry, .int .u16 I.vector, .slice da I.data.length dc, .slice ra rn rc]) rfl (by assumption) (fun W hS => zW _ _ rfl _ rfl _ _ _ hS (by kernel_rfl)) ?_; (refine pts ?_))
             (refine tz 1 ?_)
             have HWD := zh (Below.refl wr.heap.size wr).drew
             obtain ⟨wd, hwd⟩ : ∃ wd, wr.drew = wd := ⟨_, rfl⟩
             rw [hwd] at HWD ⊢
             clear hwd hHeld
             refine yx 2 rfl (fun K hK => ?_)
             go_simp
             go_at_call 46
             (with_reducible refine (HOF.out _).mono ?_)
             rintro e2 w2 ⟨rfl, hb2⟩
             have HB2 := zh (HWD.out.trans (hb2.mono HWD.out.size))
             clear hb2
             go_simp
             refine hK.out _ _ (.inr (za HB2.out HIM.out)) ?_
             (refine pts ?_)
             clear hK K
             refine z8 3 ?_
             simp only [List.drop_succ_cons, List.drop_zero]
             go_wp2_with (first
              | (go_at_call 48; (with_reducible refine (HMK.out _ HB2.out).mono ?_); rintro e3 w3 ⟨rfl, hm3⟩; have HM3 := zh hm3; clear hm3))
             go_roundw
             case rel => exact ⟨k + 1, HLT.out, by go_num, HM3⟩
             case measure => have h1 := HLT.out; simp [intOf]; omega
           ·obtain rfl : nn = k := by omega
            obtain ⟨vi, hrk⟩ := tl_end HITS.out HML.out
            obtain ⟨Ai, ci, hvi, -⟩ := zt hrk.is_
            subst hvi
            have HSP := zh (scp_full (more := more) HLS.out HGL.out HRI.out HIS.out HNI.out hrk)
            have HHL := zh hrk.hl
            have HRS := zh (HTR.out.heap HLS.out.bx.b1 HLS.out.ne1)
            clear hrk HML HTR
            go_wp2_with (first
             | (refine ldT 38 (HHL.out) ?_)
             | (refine stR (HRS.out) ?_))
            refine bodyPost_ret (results_cell_row (cs := #[.slice Ac gs.length cc, .slice As S.length cs, .slice Ai ((its.filter (yb I its)).map fun p => (⟨40, p⟩ : zM)).length ci]) (fr := (0, 0)) Tryz.results19 _ _ (w.heap.size + 1) 38 _ ?_ (setRow_heap _ _ _ _ _ _ HRS.out) Tryz.underlying38 rfl (by kernel_rfl)) rfl ?_
            ·rfl
            ·exact HSP.out
end Go.Proofs.YteofmaiojepdkaaGreat
