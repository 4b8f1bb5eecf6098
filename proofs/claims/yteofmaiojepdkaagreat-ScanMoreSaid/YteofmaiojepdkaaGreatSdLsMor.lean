/- The law ScanMore, walked. Condition: the numbers lie in their types' ranges. -/
import Derived.Test.YteofmaiojepdkaaGreatSdRvC
import Derived.Test.YteofmaiojepdkaaGreatSdLsB
set_option linter.all false
namespace Go.Proofs.YteofmaiojepdkaaGreat
open Go Go.RowKit Go.Maps Go.Sort
theorem scan_qN {I : zp} (hI : I.Ok) {gb gd : Nat} {more : List zc} (hm : (∀ p ∈ more, yQ p) ∧ more.length ≤ 1000000) {A : Option Addr} {c B : Nat} {W : World} (hV : yw W I (some ⟨gb, 0, none⟩) 3 (some ⟨gd, 0, none⟩) 3) (ho : W.ownsRow B 47 2 (.slice A more.length c) more.length (zt more)) :
  Calls Tryz.prog 17 #[.agg #[.slice (some ⟨gb, 0, none⟩) I.banks.length 3, .int .u16 I.entry, .int .u16 I.vector, .slice (some ⟨gd, 0, none⟩) I.data.length 3, .slice none 0 0], .slice A more.length c] W fun e W' => ∃ L c' vc vr vi, e = .returned (.agg #[vc, vr, vi]) ∧ x7 I more L ∧ L.cls = clsL I c' ∧ LstD I I.banks.length c' L.rts L.iss vc vr vi W' ∧ Below W.heap.size W W' :=
 (scan_any I hI _ 3 _ 3 none 0 0 more hm.1 hm.2 A c W hV (xi ho) (rd_ptr ho)).mono fun e W' ⟨L, vc, vr, vi, he, hL, hv, hb⟩ => by
  obtain ⟨c, hc, hr⟩ := hv.read hI
  exact ⟨L, c, vc, vr, vi, he, hL, hc, hr, hb⟩
set_option maxRecDepth 100000 in
set_option maxHeartbeats 8000000 in
theorem scanmore_any (p : Option Addr) (n cap : Nat) (Q : Nat → Nat → Int) (hn : n ≤ 9223372036854775807) (N : Nat → Int) (p2 : Option Addr) (n2 cap2 : Nat) (Q2 : Nat → Nat → Int) (hn2 : n2 ≤ 9223372036854775807) (hQ2 : ∀ i j, yX (Q2 i j)) (w : World) (hQ : FivV w (.slice p n cap) n Q) (hR : TwoV w (.slice p2 n2 cap2) n2 Q2) :
  Calls Tryz.prog 8 #[.slice p n cap, .agg #[.int .i64 (N 0), .int .i64 (N 1), .int .i64 (N 2), .int .i64 (N 3)], .slice p2 n2 cap2] w fun e w' => e = .returned (.bool true) ∧ Below w.heap.size w w' := by
 have HSA := zh (fun W => sane_any W)
 have HLA := zh (fun W (hb : Below w.heap.size w W) => laid_any p n cap Q hn N W (hQ.below hb))
 have HPL := zh (fun W (hb : Below w.heap.size w W) => places_any p2 n2 cap2 Q2 hn2 W (hR.below hb))
 have HX := zh (Bx.one w (boxQ N))
 have HM := zh (And.intro (plsQ_ok (n := n2) hQ2) (plsQ_len n2 Q2))
 clear hQ hR hn hn2
 generalize plsQ n2 Q2 = more at *
 go_enter Tryz.func8, Tryz.ntmps8
 go_upto_region 1 with fail
 obtain ⟨wi, hwi⟩ : ∃ wi, w.alloc (boxQ N) = wi := ⟨_, rfl⟩
 rw [hwi] at HX ⊢
 clear hwi
 go_upto_region 3 with (first
  | (go_at_call 14; (with_reducible refine (HSA.out _).mono ?_); rintro e1 w1 ⟨rfl, hb1⟩; have HX1 := zh (HX.out.stay hb1); clear hb1)
  | (refine zb 23 _ rfl _ rfl _ _ _ (HX1.out.b0) ?_ ?_ ?_; kernel_rfl; kernel_rfl)
  | (go_at_call 15; (with_reducible refine (HLA.out _ HX1.out.bb).mono ?_); rintro e2 w2 ⟨⟨I, gb, gd, ⟨hI, -⟩, hI3, rfl, hV⟩, hb2⟩; have HX2 := zh (HX1.out.stay hb2); have HI := zh hI; have HV := zh hV; clear hb2 hI hI3 hV)
  | (refine wpList_store_row rfl _ _ _ rfl _ _ rfl rfl _ _ (heap_alloc_new _ _) ?_ ?_ ?_ ?_; kernel_rfl; rfl; kernel_rfl; rw [World.setRow_alloc_new]))
 have hb3 : Below w2.heap.size w2 (w2.alloc (imgI I gb gd)) := (Below.refl _ _).alloc (zn _) _
 have HX3 := zh (HX2.out.bb.trans (hb3.mono HX2.out.bb.size))
 have HV3 := zh (HV.out.below hb3)
 have HG3 := zh (heap_alloc_new w2 (imgI I gb gd))
 obtain ⟨w3, hw3⟩ : ∃ w3, w2.alloc (imgI I gb gd) = w3 := ⟨_, rfl⟩
 obtain ⟨gi, hgi⟩ : ∃ gi, w2.heap.size = gi := ⟨_, rfl⟩
 rw [hw3] at HX3 HV3 HG3 ⊢
 rw [hgi] at HG3 ⊢
 clear hb3 hw3 hgi HX HX1 HX2 HV HSA HLA
 have HSC := zh (scan_q0 HI.out.ok HV3.out)
 go_upto_region 4 with (first
  | (refine zb 31 _ rfl _ rfl _ _ _ (HG3.out) ?_ ?_ ?_; kernel_rfl; kernel_rfl)
  | (go_at_call 17; (with_reducible refine HSC.out.mono ?_); rintro e5 w5 ⟨L, Bc, mc, jc, Br, mr, jr, Bi, mi, ji, rfl, hL, hlv, hb5⟩; have HLL := zh (And.intro hL hlv); have HB5 := zh hb5; clear hL hlv hb5)
  | (refine wpList_store_row rfl _ _ _ rfl _ _ rfl rfl _ _ (heap_alloc_new _ _) ?_ ?_ ?_ ?_; kernel_rfl; rfl; kernel_rfl; rw [World.setRow_alloc_new]))
 have hlw := lw_mk0c HI.out.ok HG3.out HV3.out HLL.out.2 HB5.out
 have HLA := zh HLL.out.1
 obtain ⟨gl, hgl⟩ : ∃ gl, w5.heap.size = gl := ⟨_, rfl⟩
 obtain ⟨wo, hwo⟩ : ∃ wo, w5.alloc (.cells #[.slice Bc mc jc, .slice Br mr jr, .slice Bi mi ji] 38) = wo := ⟨_, rfl⟩
 rw [hgl, hwo] at hlw ⊢
 obtain ⟨c, hcls, hw, hb6⟩ := hlw
 have HCL := zh hcls
 have HW := zh hw
 have HB := zh (HX3.out.trans (hb6.mono HX3.out.size))
 clear hgl hwo hw hb6 hcls HLL HB5 HSC HX3 HV3 HG3
 obtain ⟨La, hLa⟩ : ∃ La, L = La := ⟨_, rfl⟩
 rw [hLa] at HW HLA HCL
 clear hLa L
 try simp only [Act.put]
 go_cut [10] (fun v wx => ∃ gl L c vc vr vi, v = .pointer (some ⟨gl, 0, none⟩) ∧ Hid (x7 I more L) ∧ Hid (LwW I gb gd gi gl L c vc vr vi wx) ∧ Hid (Below wo.heap.size wo wx))
 case first =>
  refine zm (S := fun W => W.heap[gi]? = some (imgI I gb gd)) [5] (by kernel_rfl) HW.out.im (fun hHeld => ?_)
  have HWD := zh (Below.refl wo.heap.size wo).drew
  obtain ⟨wd, hwd⟩ : ∃ wd, wo.drew = wd := ⟨_, rfl⟩
  rw [hwd] at HWD hHeld ⊢
  clear hwd
  (refine tkZ 0 (v := .agg #[.slice (some ⟨gb, 0, none⟩) I.banks.length 3, .int .u16 I.entry, .int .u16 I.vector, .slice (some ⟨gd, 0, none⟩) I.data.length 3, .slice none 0 0]) rfl (by assumption) (fun W hS => zW _ _ rfl _ rfl _ _ _ hS (by kernel_rfl)) ?_; (try simp only [zA, zB, zC, Act.put, zD, zE, zF]))
  (refine tkZ 1 (v := ?_) rfl (by assumption) ?_ ?_; rotate_left; (focus (intro w hSw; (try dsimp only at hSw); go_simp; try with_reducible rfl)); (try simp only [zA, zB, zC, Act.put, zD, zE, zF]))
  clear hHeld
  refine twoZ 2 4 rfl rfl (fun K hK => ?_) (fun K hK => ?_)
  ·go_simp
   go_at_call 18
   (with_reducible refine (HPL.out _ (HB.out.trans (HWD.out.mono HB.out.size))).mono ?_)
   rintro e4 w4 ⟨⟨A, cc, rfl, how⟩, hb4⟩
   have HO4 := zh how
   have HB4 := zh (HWD.out.trans (hb4.mono HWD.out.size))
   clear how hb4
   go_simp
   refine hK.out _ _ (.inr (za HB4.out HW.out.im)) ?_
   (try simp only [zA, zB, zC, Act.put, zD, zE, zF])
   clear hK K
   refine twoZ 3 4 rfl rfl (fun K hK => ?_) (fun K hK => ?_)
   ·go_simp
    go_at_call 17
    (with_reducible refine (scan_q HI.out.ok HM.out (HW.out.vw.below HB4.out) HO4.out).mono ?_)
    rintro e5 w5 ⟨L, A1, m1, k1, A2, m2, k2, A3, m3, k3, rfl, hL, hlv, hb5⟩
    have HLL := zh (And.intro hL hlv)
    have HB5 := zh (HB4.out.trans (hb5.mono HB4.out.size))
    clear hL hlv hb5
    go_simp
    refine hK.out _ _ (.inr (za HB5.out HW.out.im)) ?_
    (try simp only [zA, zB, zC, Act.put, zD, zE, zF])
    clear hK K
    refine yk 4 rfl (fun K hK => ?_)
    go_simp
    have HGL := zh (heap_alloc_new w5 lst0)
    have HB6 := zh (HB5.out.alloc HB5.out.size lst0)
    refine hK.out _ _ (.inr (za HB6.out HW.out.im)) ?_
    (try simp only [zA, zB, zC, Act.put, zD, zE, zF])
    clear hK K
    refine ya 5 ?_
    simp only [List.drop_succ_cons, List.drop_zero]
    go_wp2_with (first | (refine wpList_store_row rfl _ _ _ rfl _ _ rfl rfl _ _ (HGL.out) ?_ ?_ ?_ ?_; kernel_rfl; rfl; kernel_rfl))
    go_meet
    obtain ⟨c, hlw, hbw⟩ := lw_mk HI.out.ok HW.out.im HW.out.vw (HLL.out.2.below ((Below.refl _ _).alloc (zn _) lst0)) HGL.out HB5.out.size HB6.out
    exact ⟨_, _, c, _, _, _, rfl, zh HLL.out.1, zh hlw, zh hbw⟩
   ·go_simp
    have HGL := zh (heap_alloc_new w4 lst0)
    have HB5 := zh (HB4.out.alloc HB4.out.size lst0)
    have HO5 := zh (HO4.out.alloc lst0)
    refine hK.out _ _ (.inr (za HB5.out HW.out.im)) ?_
    (try simp only [zA, zB, zC, Act.put, zD, zE, zF])
    clear hK K
    refine yk 3 rfl (fun K hK => ?_)
    go_simp
    go_at_call 17
    (with_reducible refine (scan_q HI.out.ok HM.out (HW.out.vw.below HB5.out) HO5.out).mono ?_)
    rintro e5 w6 ⟨L, A1, m1, k1, A2, m2, k2, A3, m3, k3, rfl, hL, hlv, hb6⟩
    have HLL := zh (And.intro hL hlv)
    have HB6 := zh (HB5.out.trans (hb6.mono HB5.out.size))
    have HGL := zh (za hb6 HGL.out)
    clear hL hlv hb6
    go_simp
    refine hK.out _ _ (.inr (za HB6.out HW.out.im)) ?_
    (try simp only [zA, zB, zC, Act.put, zD, zE, zF])
    clear hK K
    refine ya 5 ?_
    simp only [List.drop_succ_cons, List.drop_zero]
    go_wp2_with (first | (refine wpList_store_row rfl _ _ _ rfl _ _ rfl rfl _ _ (HGL.out) ?_ ?_ ?_ ?_; kernel_rfl; rfl; kernel_rfl))
    go_meet
    obtain ⟨c, hlw, hbw⟩ := lw_mk HI.out.ok HW.out.im HW.out.vw HLL.out.2 HGL.out HB4.out.size HB6.out
    exact ⟨_, _, c, _, _, _, rfl, zh HLL.out.1, zh hlw, zh hbw⟩
  ·go_simp
   have HGL := zh (heap_alloc_new wd lst0)
   have HB4 := zh (HWD.out.alloc HWD.out.size lst0)
   refine hK.out _ _ (.inr (za HB4.out HW.out.im)) ?_
   (try simp only [zA, zB, zC, Act.put, zD, zE, zF])
   clear hK K
   refine yk 2 rfl (fun K hK => ?_)
   go_simp
   go_at_call 18
   (with_reducible refine (HPL.out _ (HB.out.trans (HB4.out.mono HB.out.size))).mono ?_)
   rintro e4 w5 ⟨⟨A, cc, rfl, how⟩, hb5⟩
   have HO5 := zh how
   have HB5 := zh (HB4.out.trans (hb5.mono HB4.out.size))
   have HGL := zh (za hb5 HGL.out)
   clear how hb5
   go_simp
   refine hK.out _ _ (.inr (za HB5.out HW.out.im)) ?_
   (try simp only [zA, zB, zC, Act.put, zD, zE, zF])
   clear hK K
   refine yk 3 rfl (fun K hK => ?_)
   go_simp
   go_at_call 17
   (with_reducible refine (scan_q HI.out.ok HM.out (HW.out.vw.below HB5.out) HO5.out).mono ?_)
   rintro e5 w6 ⟨L, A1, m1, k1, A2, m2, k2, A3, m3, k3, rfl, hL, hlv, hb6⟩
   have HLL := zh (And.intro hL hlv)
   have HB6 := zh (HB5.out.trans (hb6.mono HB5.out.size))
   have HGL := zh (za hb6 HGL.out)
   clear hL hlv hb6
   go_simp
   refine hK.out _ _ (.inr (za HB6.out HW.out.im)) ?_
   (try simp only [zA, zB, zC, Act.put, zD, zE, zF])
   clear hK K
   refine ya 5 ?_
   simp only [List.drop_succ_cons, List.drop_zero]
   go_wp2_with (first | (refine wpList_store_row rfl _ _ _ rfl _ _ rfl rfl _ _ (HGL.out) ?_ ?_ ?_ ?_; kernel_rfl; rfl; kernel_rfl))
   go_meet
   obtain ⟨c, hlw, hbw⟩ := lw_mk HI.out.ok HW.out.im HW.out.vw HLL.out.2 HGL.out HWD.out.size HB6.out
   exact ⟨_, _, c, _, _, _, rfl, zh HLL.out.1, zh hlw, zh hbw⟩
 case rest =>
  obtain ⟨gm, Lb, c2, vc2, vr2, vi2, rfl, HLB, HW2, HB2⟩ := hcut
  obtain ⟨wp, rfl⟩ : ∃ wp : World, wp = wc := ⟨_, rfl⟩
  obtain ⟨R, Ar, kr, hr0, hR, hRL⟩ := HW.out.rd.rts
  injection hr0 with hr1 hr2 hr3
  subst hr1 hr2 hr3
  obtain ⟨R2, Ar2, kr2, rfl, hR2, hRL2⟩ := HW2.out.rd.rts
  have HMP := zh (more_p HI.out HM.out.1 HM.out.2 HLA.out HLB.out)
  have HS := zh (hRL.symm ▸ lst_lstR HI.out.ok (fun p hp => by cases hp) HLA.out : LstR I [] (R.map (·.1)))
  have HS2 := zh (hRL2.symm ▸ lst_lstR HI.out.ok HM.out.1 HLB.out : LstR I more (R2.map (·.1)))
  have HRL := zh hRL
  have HRL2 := zh hRL2
  have HR := zh (hR.below HB2.out)
  have HR2 := zh hR2
  have HWP := zh (HW.out.below HB2.out)
  have HBP := zh (HB.out.trans (HB2.out.mono HB.out.size))
  have hkr := hR.rd.le
  have hlr := hR.le
  have hkr2 := hR2.rd.le
  have hlr2 := hR2.le
  have hl2 : R.length ≤ 2000 := by have := HS.out.le; rwa [List.length_map] at this
  clear hR hR2 hRL hRL2 HB2
  have hcl := fun o => cell_of_row wp gl o _ _ _ HWP.out.ls
  go_wp2_with fail
  clear hcl
  go_loopw [11, 12] (fun v i wr => ∃ m : Nat, m ≤ R.length ∧ i = .int .i64 m ∧ Hid (wr.ownsRow wp.heap.size 47 2 v m (zt ((yI R).take m))) ∧ Hid (Below wp.heap.size wp wr)) (fun _ i _ => R.length - (intOf i).toNat)
  case atStart => exact ⟨0, Nat.zero_le _, rfl, zh (World.ownsRow_nil _ _ _ _), zh (Below.refl _ _)⟩
  case round =>
   obtain ⟨m, hm, rfl, HO, HBR⟩ := hrel
   obtain ⟨Aa, ca, rfl, -⟩ := zL HO.out
   have HWR := zh (HWP.out.below HBR.out)
   have HWS := zh (HW2.out.below HBR.out)
   by_cases hlt : m < R.length
   ·obtain ⟨x, hx⟩ : ∃ x, R[m]? = some x := ⟨_, List.getElem?_eq_getElem hlt⟩
    obtain ⟨gr, ro, cur, T, fr, rfl, hg, hexp, -, -⟩ := RdS.eltPart (f := rtvL) (fun _ => rfl) HR.out.rd hx (a := 0) (m := 2) (by omega) (L := yV x.1.entry) rfl
    have hxm : x.1 ∈ R2.map (·.1) := by have h1 := HMP.out.rt x.1 (by rw [← HRL.out]; exact List.mem_map.2 ⟨_, List.mem_of_getElem? hx, rfl⟩); rwa [← HRL2.out] at h1
    have hxe : x.1.entry ∈ yI R2 := by rw [← entL_map]; exact List.mem_map.2 ⟨_, hxm, rfl⟩
    have HXX := zh hx
    have HG := zh hg
    have HEP := zh hexp
    have HLT := zh hlt
    have HRO := zh (fun W (h : Below wp.heap.size wp W) => routine5_at (HR2.out.below h).rd hlr2 hxe)
    have HAP := zh (plcs_take (l := yI R) (k := m) (x := x.1.entry) (by unfold yI; rw [List.getElem?_map, hx]; rfl))
    have HGR := zh (za HBR.out hg)
    have hcl := fun o => cell_of_row wr gl o _ _ _ HWR.out.ls
    clear hg hexp hx hxm hxe
    go_upto_region 10 with (first
     | (refine zy 47 _ rfl _ _ rfl _ _ _ (HGR.out) ([.int .i64 x.1.entry.bank, .int .u16 x.1.entry.addr]) (HEP.out) ?_ ?_ ?_; kernel_rfl; kernel_rfl)
     | (at_builtin; go_must
      (refine zS (.tmp 33) (.tmp 40) 40 47 rfl 2 16 _ xz Tryz.underlying40 rfl (by decide) (by decide) wp.heap.size (Nat.le_trans HBR.out.size (by simp)) (.slice Aa m ca) m (zt ((yI R).take m)) rfl (HO.out.alloc _) (by omega) wr.heap.size 1 _ _ _ rfl (heap_alloc_new wr _) rfl rfl (by decide) (by decide) rfl ?_
       intro ga cp w6 ho6 hg6 hv6
       have HO6 := zh ho6
       have HB6 := zh (HBR.out.trans ((((Below.refl wr.heap.size wr).alloc (zn _) _).mono HBR.out.size).grown hg6 (Nat.le_trans HBR.out.size (by simp)) (fun k hk => (HO.out.lt k hk).1)))
       clear ho6 hg6 hv6)))
    clear hcl
    have HL6 := zh (HWP.out.below HB6.out).ls
    have HM6 := zh (HW2.out.below HB6.out).ls
    have HG6 := zh (za HB6.out HG.out)
    refine zm (S := fun W => W.heap[gl]? = some (.cells #[.slice Bc mc jc, .slice (some ⟨gr, ro, none⟩) R.length jr, .slice Bi mi ji] 38 (0, 0)) ∧ W.heap[gm]? = some (.cells #[vc2, .slice Ar2 R2.length kr2, vi2] 38 (0, 0)) ∧ W.heap[gr]? = some (.cells cur T fr)) [9] (by kernel_rfl) ⟨HL6.out, HM6.out, HG6.out⟩ (fun hHeld => ?_)
    (refine tkZ 0 (v := ?_) rfl (by assumption) ?_ ?_; rotate_left; (focus (intro w hSw; (try dsimp only at hSw); go_simp; try with_reducible rfl)); (try simp only [zA, zB, zC, Act.put, zD, zE, zF]))
    (refine tkZ 1 (v := .slice Ar2 R2.length kr2) rfl (by assumption) (fun W hS => zq _ _ rfl _ _ rfl _ _ _ hS.2.1 _ rfl (fun _ => by kernel_rfl)) ?_; (try simp only [zA, zB, zC, Act.put, zD, zE, zF]))
    (refine tkZ 2 (v := ?_) rfl (by assumption) ?_ ?_; rotate_left; (focus (intro w hSw; (try dsimp only at hSw); go_simp; try with_reducible rfl)); (try simp only [zA, zB, zC, Act.put, zD, zE, zF]))
    (refine tkZ 3 (v := .slice (some ⟨gr, ro, none⟩) R.length jr) rfl (by assumption) (fun W hS => zq _ _ rfl _ _ rfl _ _ _ hS.1 _ rfl (fun _ => by kernel_rfl)) ?_; (try simp only [zA, zB, zC, Act.put, zD, zE, zF]))
    (refine tkZ 4 (v := ?_) rfl (by assumption) ?_ ?_; rotate_left; (focus (intro w hSw; (try dsimp only at hSw); go_simp; try with_reducible rfl)); (try simp only [zA, zB, zC, Act.put, zD, zE, zF]))
    (refine tkZ 5 (v := .pointer (some ⟨gr, ro + m * 8, none⟩)) rfl (by assumption) (fun W hS => by clear hS; go_simp; first | done | rfl) ?_; (try simp only [zA, zB, zC, Act.put, zD, zE, zF]))
    (refine tkZ 6 (v := ?_) rfl (by assumption) ?_ ?_; rotate_left; (focus (intro w hSw; (try dsimp only at hSw); go_simp; try with_reducible rfl)); (try simp only [zA, zB, zC, Act.put, zD, zE, zF]))
    (refine tkZ 7 (v := .agg #[.int .i64 x.1.entry.bank, .int .u16 x.1.entry.addr]) rfl (by assumption) (fun W hS => zO _ _ rfl _ _ rfl _ _ _ hS.2.2 (yV x.1.entry) HEP.out (by kernel_rfl)) ?_; (try simp only [zA, zB, zC, Act.put, zD, zE, zF]))
    have HWD := zh (HB6.out.trans ((Below.refl w6.heap.size w6).drew.mono HB6.out.size))
    obtain ⟨wd, hwd⟩ : ∃ wd, w6.drew = wd := ⟨_, rfl⟩
    rw [hwd] at HWD hHeld ⊢
    have HWO := zh (hwd ▸ (Below.refl w6.heap.size w6).drew)
    clear hwd hHeld
    refine yk 8 rfl (fun K hK => ?_)
    go_simp
    go_at_call 21
    (with_reducible refine (HRO.out _ HWD.out).mono ?_)
    rintro e9 w9 ⟨⟨k2, x2, hx2, hxn, rfl⟩, hb9⟩
    have HB9 := zh (HWD.out.trans (hb9.mono HWD.out.size))
    have HO9 := zh (zk HO6.out (zl.ofBelow (bs := fun _ => False) (HWO.out.trans (hb9.mono HWO.out.size))) (fun _ _ e => e))
    clear hb9 HWD HWO HRO
    go_simp
    refine hK.out _ _ (.inr ⟨za HB9.out HWP.out.ls, za HB9.out HW2.out.ls, za HB9.out HG.out⟩) ?_
    (try simp only [zA, zB, zC, Act.put, zD, zE, zF])
    clear hK K
    refine ya 9 ?_
    simp only [List.drop_succ_cons, List.drop_zero]
    have hk2 : k2 < R2.length := (List.getElem?_eq_some_iff.1 hx2).1
    have hq0 : ¬ (k2 : Int) < 0 := by omega
    have h12 : x2.1 = x.1 := by
     have h1 := HS2.out.rt x2.1 (List.mem_map.2 ⟨_, List.mem_of_getElem? hx2, rfl⟩)
     have h2 := HS.out.rt x.1 (List.mem_map.2 ⟨_, List.mem_of_getElem? HXX.out, rfl⟩)
     rw [hxn] at h1
     exact h1.uniq h2
    obtain ⟨gr2, ro2, e2, -⟩ := RdS.sub (f := rtvL) (fun _ => rfl) HR2.out.rd hx2
    subst e2
    have HD1 := zh (RnsD.one (HR.out.below HB9.out) HXX.out rfl (c' := jr - m) (by omega))
    have HD2 := zh (h12 ▸ RnsD.one (HR2.out.below HB9.out) hx2 rfl (c' := kr2 - k2) (by omega) : LstD I 0 (fun _ _ => 0) [x.1] [] (.slice none 0 0) (.slice (some ⟨gr2, ro2 + k2 * 8, none⟩) 1 (kr2 - k2)) (.slice none 0 0) w9)
    have HLT2 := zh hk2
    clear h12 hx2 hxn HD1
    have HD1 := zh (RnsD.one (HR.out.below HB9.out) HXX.out rfl (c' := jr - m) (by omega))
    have hn1 : ¬ jr = m := by omega
    have hn2 : ¬ kr2 = k2 := by omega
    go_upto_region 11 with fail
    refine zm (S := fun W => W.heap[gl]? = some (.cells #[.slice Bc mc jc, .slice (some ⟨gr, ro, none⟩) R.length jr, .slice Bi mi ji] 38 (0, 0)) ∧ W.heap[gm]? = some (.cells #[vc2, .slice (some ⟨gr2, ro2, none⟩) R2.length kr2, vi2] 38 (0, 0))) [] (by kernel_rfl) ⟨za HB9.out.drew HWP.out.ls, za HB9.out.drew HW2.out.ls⟩ (fun hHeld => ?_)
    (refine tkZ 0 (v := ?_) rfl (by assumption) ?_ ?_; rotate_left; (focus (intro w hSw; (try dsimp only at hSw); go_simp; try with_reducible rfl)); (try simp only [zA, zB, zC, Act.put, zD, zE, zF]))
    (refine tkZ 1 (v := .bool false) rfl (by assumption) (fun W hS => by clear hS; go_simp; first | done | rfl) ?_; (try simp only [zA, zB, zC, Act.put, zD, zE, zF]))
    (refine tkZ 2 (v := ?_) rfl (by assumption) ?_ ?_; rotate_left; (focus (intro w hSw; (try dsimp only at hSw); go_simp; try with_reducible rfl)); (try simp only [zA, zB, zC, Act.put, zD, zE, zF]))
    (refine tkZ 3 (v := ?_) rfl (by assumption) ?_ ?_; rotate_left; (focus (intro w hSw; (try dsimp only at hSw); go_simp; try with_reducible rfl)); (try simp only [zA, zB, zC, Act.put, zD, zE, zF]))
    (refine tkZ 4 (v := .slice (some ⟨gr, ro, none⟩) R.length jr) rfl (by assumption) (fun W hS => zq _ _ rfl _ _ rfl _ _ _ hS.1 _ rfl (fun _ => by kernel_rfl)) ?_; (try simp only [zA, zB, zC, Act.put, zD, zE, zF]))
    (refine tkZ 5 (v := ?_) rfl (by assumption) ?_ ?_; rotate_left; (focus (intro w hSw; (try dsimp only at hSw); go_simp; try with_reducible rfl)); (try simp only [zA, zB, zC, Act.put, zD, zE, zF]))
    (refine tkZ 6 (v := ?_) rfl (by assumption) ?_ ?_; rotate_left; (focus (intro w hSw; (try dsimp only at hSw); go_simp; try with_reducible rfl)); (try simp only [zA, zB, zC, Act.put, zD, zE, zF]))
    (refine tkZ 7 (v := .int .i64 ((m : Int) + 1)) rfl (by assumption) (fun W hS => by clear hS; go_simp; first | done | rfl | exact IntWalk.i64_in _ (by omega)) ?_; (try simp only [zA, zB, zC, Act.put, zD, zE, zF]))
    (refine tkZ 8 (v := .slice (some ⟨gr, ro + m * 8, none⟩) 1 (jr - m)) rfl (by assumption) (fun W hS => by clear hS; go_simp; first | done | rfl | (intro h; exact absurd (h (by omega)) (by omega))) ?_; (try simp only [zA, zB, zC, Act.put, zD, zE, zF]))
    (refine tkZ 9 (v := .agg #[.slice none 0 0, .slice (some ⟨gr, ro + m * 8, none⟩) 1 (jr - m), .slice none 0 0]) rfl (by assumption) (fun W hS => by clear hS; go_simp; first | done | rfl) ?_; (try simp only [zA, zB, zC, Act.put, zD, zE, zF]))
    (refine tkZ 10 (v := ?_) rfl (by assumption) ?_ ?_; rotate_left; (focus (intro w hSw; (try dsimp only at hSw); go_simp; try with_reducible rfl)); (try simp only [zA, zB, zC, Act.put, zD, zE, zF]))
    (refine tkZ 11 (v := .slice (some ⟨gr2, ro2, none⟩) R2.length kr2) rfl (by assumption) (fun W hS => zq _ _ rfl _ _ rfl _ _ _ hS.2 _ rfl (fun _ => by kernel_rfl)) ?_; (try simp only [zA, zB, zC, Act.put, zD, zE, zF]))
    (refine tkZ 12 (v := ?_) rfl (by assumption) ?_ ?_; rotate_left; (focus (intro w hSw; (try dsimp only at hSw); go_simp; try with_reducible rfl)); (try simp only [zA, zB, zC, Act.put, zD, zE, zF]))
    (refine tkZ 13 (v := ?_) rfl (by assumption) ?_ ?_; rotate_left; (focus (intro w hSw; (try dsimp only at hSw); go_simp; try with_reducible rfl)); (try simp only [zA, zB, zC, Act.put, zD, zE, zF]))
    (refine tkZ 14 (v := .int .i64 ((k2 : Int) + 1)) rfl (by assumption) (fun W hS => by clear hS; go_simp; first | done | rfl | exact IntWalk.i64_in _ (by omega)) ?_; (try simp only [zA, zB, zC, Act.put, zD, zE, zF]))
    (refine tkZ 15 (v := .slice (some ⟨gr2, ro2 + k2 * 8, none⟩) 1 (kr2 - k2)) rfl (by assumption) (fun W hS => by clear hS; go_simp; first | done | rfl | (intro h; exact absurd (h (by omega)) (by omega))) ?_; (try simp only [zA, zB, zC, Act.put, zD, zE, zF]))
    (refine tkZ 16 (v := .agg #[.slice none 0 0, .slice (some ⟨gr2, ro2 + k2 * 8, none⟩) 1 (kr2 - k2), .slice none 0 0]) rfl (by assumption) (fun W hS => by clear hS; go_simp; first | done | rfl) ?_; (try simp only [zA, zB, zC, Act.put, zD, zE, zF]))
    have HWD := zh (Below.refl w9.heap.size w9).drew
    obtain ⟨wd, hwd⟩ : ∃ wd, w9.drew = wd := ⟨_, rfl⟩
    rw [hwd] at HWD hHeld ⊢
    clear hwd hHeld
    refine yk 17 rfl (fun K hK => ?_)
    go_simp
    go_at_call 16
    (with_reducible refine (same_any I 0 (fun _ _ => 0) [x.1] [] _ _ _ _ _ _ _ (HD1.out.below HWD.out) (HD2.out.below HWD.out)).mono ?_)
    rintro e10 w10 ⟨rfl, hb10⟩
    have HB10 := zh (HWD.out.trans (hb10.mono HWD.out.size))
    clear hb10
    go_simp
    have hHeld := (⟨za HB10.out (za HB9.out HWP.out.ls), za HB10.out (za HB9.out HW2.out.ls)⟩ : w10.heap[gl]? = some (.cells #[.slice Bc mc jc, .slice (some ⟨gr, ro, none⟩) R.length jr, .slice Bi mi ji] 38 (0, 0)) ∧ w10.heap[gm]? = some (.cells #[vc2, .slice (some ⟨gr2, ro2, none⟩) R2.length kr2, vi2] 38 (0, 0)))
    refine hK.out _ _ (.inr hHeld) ?_
    (try simp only [zA, zB, zC, Act.put, zD, zE, zF])
    clear hK K
    (refine tkZ 18 (v := .bool false) rfl (by assumption) (fun W hS => by clear hS; go_simp; first | done | rfl) ?_; (try simp only [zA, zB, zC, Act.put, zD, zE, zF]))
    (refine tkZ 19 (v := .bool false) rfl (by assumption) (fun W hS => by clear hS; go_simp; first | done | rfl) ?_; (try simp only [zA, zB, zC, Act.put, zD, zE, zF]))
    refine ya 20 ?_
    simp only [List.drop_succ_cons, List.drop_zero]
    clear hHeld
    go_wp2_with fail
    go_roundw
    case rel => exact ⟨m + 1, HLT.out, by go_num, by rw [← HAP.out]; exact zh (zk HO9.out (zl.ofBelow (bs := fun _ => False) HB10.out) (fun _ _ e => e)), zh (HB9.out.trans (HB10.out.mono HB9.out.size))⟩
    case measure => have h1 := HLT.out; simp [intOf]; omega
   ·obtain rfl : m = R.length := by omega
    have HO := zh (show wr.ownsRow wp.heap.size 47 2 (.slice Aa R.length ca) R.length (zt (yI R)) by have h1 := HO.out; rwa [List.take_of_length_le (by unfold yI; rw [List.length_map]; exact zn _)] at h1)
    have hcl := fun o => cell_of_row wr gl o _ _ _ HWR.out.ls
    obtain ⟨wq, rfl⟩ : ∃ wq : World, wq = wr := ⟨_, rfl⟩
    have HBQ := zh (HBP.out.trans (HBR.out.mono HBP.out.size))
    go_upto_region 14 with (first
     | (go_at_call 18; (with_reducible refine (HPL.out _ HBQ.out).mono ?_); rintro e4 w4 ⟨⟨A4, c4, rfl, how⟩, hb4⟩; have HO4 := zh (xi how); have HB4 := zh hb4; clear how hb4))
    clear hcl
    have HBX := zh (HBR.out.trans (HB4.out.mono HBR.out.size))
    have hl4 := HM.out.2
    have hl5 := HO4.out.le
    go_wp2_with fail
    go_loopw [15] (fun i wr => ∃ j : Nat, j ≤ more.length ∧ i = .int .i64 j ∧ Hid (Below w4.heap.size w4 wr)) (fun i _ => more.length - (intOf i).toNat)
    case atStart => exact ⟨0, Nat.zero_le _, rfl, zh (Below.refl _ _)⟩
    case round =>
     obtain ⟨j, hj, rfl, HJ⟩ := hrel
     have HBJ := zh (HBX.out.trans (HJ.out.mono HBX.out.size))
     by_cases hjl : j < more.length
     ·obtain ⟨y, hy⟩ : ∃ y, more[j]? = some y := ⟨_, List.getElem?_eq_getElem hjl⟩
      obtain ⟨g3, o3, c3, T3, f3, rfl, hg3, hexp⟩ := RdS.elt (f := yV) (fun _ => rfl) (HO4.out.below HJ.out) hy
      have hye : y ∈ yI R2 := by rw [← entL_map]; have h1 := HMP.out.en y (List.mem_of_getElem? hy); rwa [← HRL2.out] at h1
      have HRO := zh (fun W (h : Below wp.heap.size wp W) => routine5_in (HR2.out.below h).rd hlr2 hye)
      have HG3 := zh hg3
      have HE3 := zh hexp
      have HJL := zh hjl
      clear hg3 hexp hy hye
      go_upto_region 17 with fail
      refine zm (S := fun W => W.heap[gm]? = some (.cells #[vc2, .slice Ar2 R2.length kr2, vi2] 38 (0, 0)) ∧ W.heap[g3]? = some (.cells c3 T3 f3)) [] (by kernel_rfl) ⟨za HBJ.out.drew HW2.out.ls, HG3.out⟩ (fun hHeld => ?_)
      (refine tkZ 0 (v := ?_) rfl (by assumption) ?_ ?_; rotate_left; (focus (intro w hSw; (try dsimp only at hSw); go_simp; try with_reducible rfl)); (try simp only [zA, zB, zC, Act.put, zD, zE, zF]))
      (refine tkZ 1 (v := .slice Ar2 R2.length kr2) rfl (by assumption) (fun W hS => zq _ _ rfl _ _ rfl _ _ _ hS.1 _ rfl (fun _ => by kernel_rfl)) ?_; (try simp only [zA, zB, zC, Act.put, zD, zE, zF]))
      (refine tkZ 2 (v := ?_) rfl (by assumption) ?_ ?_; rotate_left; (focus (intro w hSw; (try dsimp only at hSw); go_simp; try with_reducible rfl)); (try simp only [zA, zB, zC, Act.put, zD, zE, zF]))
      (refine tkZ 3 (v := ?_) rfl (by assumption) ?_ ?_; rotate_left; (focus (intro w hSw; (try dsimp only at hSw); go_simp; try with_reducible rfl)); (try simp only [zA, zB, zC, Act.put, zD, zE, zF]))
      (refine tkZ 4 (v := .pointer (some ⟨g3, o3 + j * 2, none⟩)) rfl (by assumption) (fun W hS => by clear hS; go_simp; first | done | rfl) ?_; (try simp only [zA, zB, zC, Act.put, zD, zE, zF]))
      (refine tkZ 5 (v := .agg #[.int .i64 y.bank, .int .u16 y.addr]) rfl (by assumption) (fun W hS => zO _ _ rfl _ _ rfl _ _ _ hS.2 (yV y) HE3.out (by kernel_rfl)) ?_; (try simp only [zA, zB, zC, Act.put, zD, zE, zF]))
      have HWD := zh (HBJ.out.trans ((Below.refl wr.heap.size wr).drew.mono HBJ.out.size))
      have HWJ := zh (HJ.out.trans ((Below.refl wr.heap.size wr).drew.mono HJ.out.size))
      have HWG := zh (za (Below.refl wr.heap.size wr).drew HG3.out)
      obtain ⟨wd, hwd⟩ : ∃ wd, wr.drew = wd := ⟨_, rfl⟩
      rw [hwd] at HWD HWJ HWG hHeld ⊢
      clear hwd hHeld
      refine yk 6 rfl (fun K hK => ?_)
      go_simp
      go_at_call 21
      (with_reducible refine (HRO.out _ HWD.out).mono ?_)
      rintro e9 w9 ⟨⟨q, rfl⟩, hb9⟩
      have HB9 := zh (HWD.out.trans (hb9.mono HWD.out.size))
      have HB8 := zh (HWJ.out.trans (hb9.mono HWJ.out.size))
      have hq0 : ¬ (q : Int) < 0 := by omega
      have hHeld := And.intro (za HB9.out HW2.out.ls) (za hb9 HWG.out)
      clear hb9
      go_simp
      refine hK.out _ _ (.inr hHeld) ?_
      (try simp only [zA, zB, zC, Act.put, zD, zE, zF])
      clear hK K
      (refine tkZ 7 (v := .bool false) rfl (by assumption) (fun W hS => by clear hS; go_simp; first | done | rfl) ?_; (try simp only [zA, zB, zC, Act.put, zD, zE, zF]))
      refine ya 8 ?_
      simp only [List.drop_succ_cons, List.drop_zero]
      clear hHeld
      go_wp2_with fail
      go_roundw
      case rel => exact ⟨j + 1, HJL.out, by go_num, HB8⟩
      case measure => have h1 := HJL.out; simp [intOf]; omega
     ·obtain rfl : j = more.length := by omega
      have HMN := zh (show (∀ p ∈ yI R, yQ p) ∧ (yI R).length ≤ 1000000 from ⟨fun p hp => by
       rw [← entL_map] at hp
       obtain ⟨r, hr, rfl⟩ := List.mem_map.1 hp
       exact HS.out.pl r hr, by unfold yI; rw [List.length_map]; omega⟩)
      have HOE := zh (show (wr.drew).ownsRow wp.heap.size 47 2 (.slice Aa (yI R).length ca) (yI R).length (zt (yI R)) from by
       have h1 := zk HO.out (zl.ofBelow (bs := fun _ => False) ((HB4.out.trans (HJ.out.mono HB4.out.size)).trans ((Below.refl wr.heap.size wr).drew.mono (HB4.out.trans (HJ.out.mono HB4.out.size)).size))) (fun _ _ e => e)
       unfold yI at h1 ⊢
       rwa [List.length_map])
      have hle : (yI R).length = R.length := by unfold yI; exact List.length_map _
      have HLE := zh hle
      clear hle
      go_upto_region 19 with fail
      refine zm (S := fun W => W.heap[gl]? = some (.cells #[.slice Bc mc jc, .slice Br R.length jr, .slice Bi mi ji] 38 (0, 0)) ∧ W.heap[gi]? = some (imgI I gb gd)) [8] (by kernel_rfl) ⟨za HBJ.out.drew HWP.out.ls, za HBJ.out.drew HWP.out.im⟩ (fun hHeld => ?_)
      (refine tkZ 0 (v := ?_) rfl (by assumption) ?_ ?_; rotate_left; (focus (intro w hSw; (try dsimp only at hSw); go_simp; try with_reducible rfl)); (try simp only [zA, zB, zC, Act.put, zD, zE, zF]))
      (refine tkZ 1 (v := ?_) rfl (by assumption) ?_ ?_; rotate_left; (focus (intro w hSw; (try dsimp only at hSw); go_simp; try with_reducible rfl)); (try simp only [zA, zB, zC, Act.put, zD, zE, zF]))
      (refine tkZ 2 (v := .agg #[.slice Bc mc jc, .slice Br R.length jr, .slice Bi mi ji]) rfl (by assumption) (fun W hS => zW _ _ rfl _ rfl _ _ _ hS.1 (by kernel_rfl)) ?_; (try simp only [zA, zB, zC, Act.put, zD, zE, zF]))
      (refine tkZ 3 (v := .agg #[.slice (some ⟨gb, 0, none⟩) I.banks.length 3, .int .u16 I.entry, .int .u16 I.vector, .slice (some ⟨gd, 0, none⟩) I.data.length 3, .slice none 0 0]) rfl (by assumption) (fun W hS => zW _ _ rfl _ rfl _ _ _ hS.2 (by kernel_rfl)) ?_; (try simp only [zA, zB, zC, Act.put, zD, zE, zF]))
      (refine tkZ 4 (v := ?_) rfl (by assumption) ?_ ?_; rotate_left; (focus (intro w hSw; (try dsimp only at hSw); go_simp; try with_reducible rfl)); (try simp only [zA, zB, zC, Act.put, zD, zE, zF]))
      have HWD := zh (HBJ.out.trans ((Below.refl wr.heap.size wr).drew.mono HBJ.out.size))
      obtain ⟨wd, hwd⟩ : ∃ wd, wr.drew = wd := ⟨_, rfl⟩
      rw [hwd] at HWD HOE hHeld ⊢
      clear hwd hHeld
      refine yk 5 rfl (fun K hK => ?_)
      go_simp
      go_at_call 17
      (rw [← HLE.out])
      (with_reducible refine (scan_qN HI.out.ok HMN.out (HWP.out.below HWD.out).vw HOE.out).mono ?_)
      rintro e9 w9 ⟨Lc, cc, vc9, vr9, vi9, rfl, hLc, hcc, hd9, hb9⟩
      have HB9 := zh (HWD.out.trans (hb9.mono HWD.out.size))
      rw [HLE.out]
      rw [← entL_map, HRL.out] at hLc
      obtain rfl := HMP.out.same Lc hLc
      have HD9 := zh hd9
      have HCC := zh hcc
      clear hb9 hd9 hLc hcc
      go_simp
      refine hK.out _ _ (.inr ⟨za HB9.out HWP.out.ls, za HB9.out HWP.out.im⟩) ?_
      (try simp only [zA, zB, zC, Act.put, zD, zE, zF])
      clear hK K
      refine yk 6 rfl (fun K hK => ?_)
      go_simp
      go_at_call 16
      (with_reducible refine (same_any I I.banks.length c Lc.rts Lc.iss _ _ _ _ _ _ _ (HWP.out.below HB9.out).rd (HD9.out.other (fun b o hb ho => clsL_eq (HCC.out.symm.trans HCL.out) hb ho))).mono ?_)
      rintro e10 w10 ⟨rfl, hb10⟩
      have HB10 := zh (HB9.out.trans (hb10.mono HB9.out.size))
      clear hb10
      go_simp
      have hHeld := (⟨za HB10.out HWP.out.ls, za HB10.out HWP.out.im⟩ : w10.heap[gl]? = some (.cells #[.slice Bc mc jc, .slice Br R.length jr, .slice Bi mi ji] 38 (0, 0)) ∧ w10.heap[gi]? = some (imgI I gb gd))
      refine hK.out _ _ (.inr hHeld) ?_
      (try simp only [zA, zB, zC, Act.put, zD, zE, zF])
      clear hK K
      (refine tkZ 7 (v := .bool true) rfl (by assumption) (fun W hS => by clear hS; go_simp; first | done | rfl) ?_; (try simp only [zA, zB, zC, Act.put, zD, zE, zF]))
      refine ya 8 ?_
      simp only [List.drop_succ_cons, List.drop_zero]
      clear hHeld
      go_wp2_with fail
      go_ret
      exact ⟨rfl, HBP.out.trans (HB10.out.mono HBP.out.size)⟩
end Go.Proofs.YteofmaiojepdkaaGreat
