/- The reference of chapter 05: routines, walked. Condition: the image's banks have 4096 bytes; the further places are places. -/
import Derived.Test.YteofmaiojepdkaaGreatTbRpF
set_option linter.all false
namespace Go.Proofs.YteofmaiojepdkaaGreat
open Go Go.RowKit Go.Maps Go.Sort
set_option maxRecDepth 100000 in
set_option maxHeartbeats 8000000 in
theorem routines5_any (I : zk) (hI : I.Ok) (ba : Option Addr) (bc : Nat) (da : Option Addr) (dc : Nat) (ra : Option Addr) (rn rc : Nat) (more : List zb) (hm : ∀ p ∈ more, yO p) (hml : more.length ≤ 1000000) (ma : Option Addr) (mc : Nat) (w : World) (hV : yG w I ba bc da dc) (hmo : RdS w 2 ma more.length mc (zp more)) :
  Calls Tryz.prog 44 #[.agg #[.slice ba I.banks.length bc, .int .u16 I.entry, .int .u16 I.vector, .slice da I.data.length dc, .slice ra rn rc], .slice ma more.length mc] w (RoP I more w) := by
 have HV := zh hV
 have HI := zh hI
 have HM := zh hm
 have HMO := zh hmo
 have hmle := hmo.le
 have HX := zh (Bx.one w (z6 I ba bc da dc ra rn rc))
 have hc0 := fun o => cell_of_row _ w.heap.size o _ _ _ HX.out.b0
 clear hV hI hm hmo
 go_enter Tryz.func44, Tryz.ntmps44
 go_upto_region 2 with fail
 clear hc0
 have hb1 : Below (w.alloc (z6 I ba bc da dc ra rn rc)).heap.size (w.alloc (z6 I ba bc da dc ra rn rc)) ((w.alloc (z6 I ba bc da dc ra rn rc)).alloc (zo ⟨0, I.entry⟩)) := (Below.refl _ _).alloc (zn _) _
 have hz1 : (w.alloc (z6 I ba bc da dc ra rn rc)).heap.size = w.heap.size + 1 := by simp
 have HE0 := zh (show EnV (w.heap.size + 1) (fun q => q = ⟨0, I.entry⟩) 1 (.slice (some ⟨w.heap.size + 1, 0, none⟩) 1 1) ((w.alloc (z6 I ba bc da dc ra rn rc)).alloc (zo ⟨0, I.entry⟩)) from
  ⟨[⟨0, I.entry⟩], some ⟨w.heap.size + 1, 0, none⟩, 1, rfl, by rw [← hz1]; exact wrap_lit, by simp, zn _, fun p => by simp⟩)
 have HX1 := zh (HX.out.stay hb1)
 obtain ⟨w1, hw1⟩ : ∃ w1, (w.alloc (z6 I ba bc da dc ra rn rc)).alloc (zo ⟨0, I.entry⟩) = w1 := ⟨_, rfl⟩
 rw [hw1] at HE0 HX1 ⊢
 clear hb1 hw1 hz1 HX
 have hc1 := fun o => cell_of_row w1 w.heap.size o _ _ _ HX1.out.b0
 go_upto_if 20 with fail
 clear hc1
 have hz1 : w.heap.size + 1 ≤ w1.heap.size := HX1.out.z
 go_cut [5] (fun v wx => Hid (EnV (w.heap.size + 1) (L0 I) 2 v wx) ∧ Hid (Bx [z6 I ba bc da dc ra rn rc] w wx))
 case first =>
  by_cases hv : I.vector = 0
  ·have hv2 : (I.vector != 0) = false := by simp [hv]
   have HVV := zh hv
   clear hv
   go_wp2_with fail
   go_meet
   exact ⟨zh (HE0.out.same (by decide) (fun q => by unfold L0; simp [HVV.out])), HX1⟩
  ·have hv2 : (I.vector != 0) = true := by simpa using hv
   have HVV := zh hv
   have hc1 := fun o => cell_of_row w1 w.heap.size o _ _ _ HX1.out.b0
   clear hv
   go_wp2_with (first
    | (go_at_call 26; (with_reducible refine (put_env HE0.out hz1 (by decide) ⟨0, I.vector⟩).mono ?_); rintro e2 w2 ⟨⟨v2, rfl, hen⟩, hb2⟩; have HE2 := zh hen; have HB2 := zh hb2; clear hen hb2))
   go_meet
   exact ⟨zh (HE2.out.same (by decide) (fun q => by unfold L0; simp [HVV.out])), zh (HX1.out.stay HB2.out)⟩
 case rest =>
  clear HE0 HX1
  obtain ⟨HE0, HX1⟩ := hcut
  go_wp2_with fail
  go_loopw [5, 6] (fun v i wr => ∃ k : Nat, k ≤ more.length ∧ i = .int .i64 k ∧ Hid (EnV (w.heap.size + 1) (L1 I more k) (2 + k) v wr) ∧ Hid (Bx [z6 I ba bc da dc ra rn rc] w wr)) (fun _ i _ => more.length - (intOf i).toNat)
  case atStart => exact ⟨0, Nat.zero_le _, rfl, zh (HE0.out.same (by decide) (fun q => by unfold L1; simp)), HX1⟩
  case round =>
   clear HE0 HX1
   obtain ⟨k, hk, rfl, HE0, HX1⟩ := hrel
   by_cases hlt : k < more.length
   ·obtain ⟨p, hp⟩ : ∃ p, more[k]? = some p := ⟨_, List.getElem?_eq_getElem hlt⟩
    obtain ⟨g3, o3, c3, T3, f3, rfl, hg3, hexp⟩ := RdS.elt (f := yQ) (fun _ => rfl) (HMO.out.below HX1.out.bb) hp
    have HG3 := zh hg3
    have HE3 := zh hexp
    have HPP := zh hp
    have HLT := zh hlt
    have HPE := zh (put_env HE0.out HX1.out.z (by omega) p)
    clear hg3 hexp hp
    go_wp2_with (first
     | (refine lmT 47 ([.int .i64 p.bank, .int .u16 p.addr]) (HG3.out) (HE3.out) ?_)
     | (go_at_call 26; (with_reducible refine HPE.out.mono ?_); rintro e2 w2 ⟨⟨v2, rfl, hen⟩, hb2⟩; have HE2 := zh hen; have HB2 := zh hb2; clear hen hb2))
    go_roundw
    case rel => exact ⟨k + 1, HLT.out, by go_num, zh (HE2.out.same (by omega) (L1_succ HPP.out)), zh (HX1.out.stay HB2.out)⟩
    case measure => have h1 := HLT.out; simp [intOf]; omega
   ·obtain rfl : k = more.length := by omega
    obtain ⟨V0, A0, c0, rfl, ho0, hs0, hl0, hm0⟩ := HE0.out
    have hst : EntI I more V0 [] := EntI.start (fun q => by rw [hm0 q]; unfold L1 L0; rw [List.take_of_length_le (zn _)])
    have HRT := zh (show RtL I more w (z6 I ba bc da dc ra rn rc) 2001 (.slice A0 V0.length c0) (.slice none 0 0) wr from ⟨V0, [], A0, none, c0, 0, rfl, rfl, by simp, hs0, hst, HX1.out, ho0, ⟨World.ownsRow_nil _ _ _ _, fun x hx => by cases hx⟩⟩)
    clear ho0 hs0 hl0 hm0 hst HE0 HX1
    go_wp2_with fail
    go_loopg [5, 7] 2001 (fun k v5 v7 wr => Hid (RtL I more w (z6 I ba bc da dc ra rn rc) k v5 v7 wr))
    case atStart => exact HRT
    case round =>
     clear HRT
     obtain ⟨V, R, A, A', c, c', rfl, rfl, hg, hso, hent, hx, hov, hrn⟩ := hrel.out
     have HSO := zh hso
     have HEN := zh hent
     have HX := zh hx
     have HOV := zh hov
     have HRN := zh hrn
     have HGK := zh hg
     have hcv := (yd hov).le
     have hvl := ents_le HI.out HM.out (xf zP.irr hso) hent.ent
     have hrl := own_max hrn.own
     clear hrel hg hso hent hx hov hrn
     obtain ⟨w0, rfl⟩ : ∃ w0 : World, w0 = wr := ⟨_, rfl⟩
     go_wp2_with fail
     go_loopw [8, 9] (fun v8 i wr => ∃ j : Nat, j ≤ V.length ∧ i = .int .i64 j ∧ Hid (NxL w0 V (yy R) j v8 wr)) (fun _ i _ => V.length - (intOf i).toNat)
     case atStart => exact ⟨0, Nat.zero_le _, rfl, zh ⟨none, 0, rfl, World.ownsRow_nil _ _ _ _, Below.refl _ _⟩⟩
     case round =>
      obtain ⟨j, hj, rfl, hrel⟩ := hrel
      obtain ⟨An, cn, rfl, hon, hbn⟩ := hrel.out
      have HON := zh hon
      have HBN := zh hbn
      clear hrel hon hbn
      by_cases hjl : j < V.length
      ·obtain ⟨p, hp⟩ : ∃ p, V[j]? = some p := ⟨_, List.getElem?_eq_getElem hjl⟩
       obtain ⟨g3, o3, c3, T3, f3, rfl, hg3, hexp⟩ := RdS.elt (f := yQ) (fun _ => rfl) ((yd HOV.out).below HBN.out) hp
       have HG3 := zh hg3
       have HE3 := zh hexp
       have HJL := zh hjl
       have HNS := zh (newP_snoc (E := yy R) hp)
       have hnl := newP_len (yy R) (V.take j)
       have hnl2 : (newP (yy R) (V.take j)).length ≤ 100000000 := by rw [List.length_take] at hnl; omega
       clear hg3 hexp hp hnl
       by_cases hin : p ∈ yy R
       ·have HRO := zh (routine5_in ((HRN.out.below HBN.out).readD).rd hrl hin)
        rw [if_pos hin] at HNS
        clear hin
        go_wp2_with (first
         | (refine lmT 47 ([.int .i64 p.bank, .int .u16 p.addr]) (HG3.out) (HE3.out) ?_)
         | (go_at_call 21; (with_reducible refine HRO.out.mono ?_); rintro e7 w7 ⟨⟨q, rfl⟩, hb7⟩; have HB7 := zh hb7; have hq0 : ¬ (q : Int) < 0 := by omega
            clear hb7))
        go_roundw
        case rel => exact ⟨j + 1, HJL.out, by go_num, zh ⟨An, cn, by rw [HNS.out], by rw [HNS.out]; exact zV HON.out HB7.out, HBN.out.trans (HB7.out.mono HBN.out.size)⟩⟩
        case measure => have h1 := HJL.out; simp [intOf]; omega
       ·have HRO := zh (routine5_out ((HRN.out.below HBN.out).readD).rd hrl hin)
        rw [if_neg hin] at HNS
        clear hin
        go_wp2_with (first
         | (refine lmT 47 ([.int .i64 p.bank, .int .u16 p.addr]) (HG3.out) (HE3.out) ?_)
         | (go_at_call 21; (with_reducible refine HRO.out.mono ?_); rintro e7 w7 ⟨rfl, hb7⟩; have HB7 := zh (HBN.out.trans (hb7.mono HBN.out.size)); have HG7 := zh (za hb7 HG3.out); have HO7 := zh (zV HON.out hb7); clear hb7)
         | (refine lmT 47 ([.int .i64 p.bank, .int .u16 p.addr]) (HG7.out) (HE3.out) ?_)
         | (at_builtin; go_must
          (refine zJ (.tmp 52) (.tmp 57) 40 47 rfl 2 16 _ y7 Tryz.underlying40 rfl (by decide) (by decide) w0.heap.size (Nat.le_trans HB7.out.size (by simp)) (.slice An (newP (yy R) (V.take j)).length cn) (newP (yy R) (V.take j)).length (zp (newP (yy R) (V.take j))) rfl (HO7.out.alloc _) (by omega) w7.heap.size 1 _ _ _ rfl (heap_alloc_new w7 _) rfl rfl (by decide) (by decide) rfl ?_
           intro ga cp w8 ho8 hg8 hv8
           have HO8 := zh ho8
           have HB8 := zh (HB7.out.trans ((((Below.refl w7.heap.size w7).alloc (zn _) _).mono HB7.out.size).grown hg8 (Nat.le_trans HB7.out.size (by simp)) (fun k hk => (HO7.out.lt k hk).1)))
           clear ho8 hg8 hv8)))
        go_roundw
        case rel => exact ⟨j + 1, HJL.out, by go_num, zh ⟨some ⟨ga, 0, none⟩, cp, by rw [HNS.out, List.length_append]; rfl, by rw [HNS.out, List.length_append, ← plcs_put]; exact HO8.out, HB8.out⟩⟩
        case measure => have h1 := HJL.out; simp [intOf]; omega
      ·obtain rfl : j = V.length := by omega
       rw [List.take_of_length_le (zn _)] at HON
       try rw [List.take_of_length_le (zn V.length)]
       obtain ⟨X, hX⟩ : ∃ X, newP (yy R) V = X := ⟨_, rfl⟩
       rw [hX] at HON
       try rw [hX]
       have HXX := zh hX
       have hxl : X.length ≤ V.length := hX ▸ newP_len (yy R) V
       clear hX
       have HRN1 := zh (HRN.out.below HBN.out)
       have HOV1 := zh (zV HOV.out HBN.out)
       have HX1 := zh (HX.out.stay HBN.out)
       have HWZ := zh (show w.heap.size + 1 ≤ w0.heap.size from HX.out.z)
       clear HRN HOV HX
       go_upto_region 16 with fail
       by_cases hbig : 2000 < V.length
       ·have HSM := zh (fun W => sorted5_many A' R.length c' A V.length c hbig W)
        have hb3 : (2000 : Int) < (V.length : Int) := by omega
        have HMN := zh (HEN.out.many (xf zP.irr HSO.out) hbig)
        go_cut [66] (fun v wx => v = .bool true ∧ wx = wr)
        case first =>
         by_cases hx0 : X.length = 0
         ·have hx1 : ((X.length : Int) == 0) = true := by simp [hx0]
          go_wp2_with fail
          go_meet
          exact ⟨rfl, rfl⟩
         ·have hx1 : ((X.length : Int) == 0) = false := by simpa using hx0
          go_wp2_with fail
          go_meet
          exact ⟨rfl, rfl⟩
        case rest =>
         obtain ⟨rfl, hwc⟩ := hcut
         rw [hwc]
         clear hwc wc hb3
         go_wp2_with (first
          | (go_at_call 81; (with_reducible refine (HSM.out _).mono ?_); rintro e7 w7 ⟨rfl, rfl⟩))
         go_ret
         exact ⟨[], none, 0, rfl, ⟨World.ownsRow_nil _ _ _ _, fun x hx => by cases hx⟩, .inl ⟨HMN.out, rfl⟩, HX1.out.bb⟩
       ·by_cases hx0 : X.length = 0
        ·have hd := newP_nil (by rw [HXX.out]; exact hx0)
         have HD := zh hd
         have HSR := zh (sorted5_any I R V A' c' A c wr (w.heap.size + 1) HX1.out.z HRN1.out (yd HOV1.out) (by omega) hd)
         have hx1 : ((X.length : Int) == 0) = true := by simp [hx0]
         clear hd
         go_wp2_with (first
          | (go_at_call 81; (with_reducible refine HSR.out.mono ?_); rintro e7 w7 ⟨S, AS, cS, rfl, hS, hSE, hSR, hb7⟩))
         go_ret
         exact ⟨S, AS, cS, rfl, ⟨hS.own.mono (Nat.le_add_right _ _), fun x hx => (hS.rv x hx).mono (Nat.le_add_right _ _)⟩, .inr (HEN.out.sorted HSO.out HD.out (by omega) hSE hSR), HX1.out.bb.trans (hb7.mono HX1.out.bb.size)⟩
        ·have hx1 : ((X.length : Int) == 0) = false := by simpa using hx0
         have hb3 : ¬ (2000 : Int) < (V.length : Int) := by omega
         have hxp : 0 < X.length := by omega
         have HXM := zh (show ∀ p ∈ X, p ∈ V ∧ p ∉ yy R from fun p hp => newP_mem.1 (by rw [HXX.out]; exact hp))
         have HXN := zh (show X.Nodup by rw [← HXX.out]; exact newP_nodup (xf zP.irr HSO.out))
         have hrl2 : R.length ≤ 2000 := by
          have h3 := yw HEN.out.rn fun p hp => by
           obtain ⟨r, hr, rfl⟩ := List.mem_map.1 hp
           exact HEN.out.rv r hr
          rw [List.length_map, List.length_map] at h3
          omega
         have HRM := zh (show RtM I more w (z6 I ba bc da dc ra rn rc) R X (.slice An X.length cn) 0 (.slice A V.length c) (.slice A' R.length c') wr from
          ⟨V, R, A, A', c, c', rfl, rfl, by simp, fun p hp => (HXM.out p hp).1, HSO.out, HEN.out, HX1.out, HOV1.out, HON.out.mono HWZ.out, HRN1.out⟩)
         clear HON HOV1 HRN1 HX1 HEN
         go_wp2_with fail
         go_loopw [5, 7, 11] (fun v5 v7 i wr => ∃ m : Nat, m ≤ X.length ∧ i = .int .i64 m ∧ Hid (RtM I more w (z6 I ba bc da dc ra rn rc) R X (.slice An X.length cn) m v5 v7 wr)) (fun _ _ i _ => X.length - (intOf i).toNat)
         case atStart => exact ⟨0, Nat.zero_le _, rfl, HRM⟩
         case round =>
          clear HRM
          obtain ⟨m, hm, rfl, hrel⟩ := hrel
          obtain ⟨V', R', A2, A3, c2, c3, rfl, rfl, heq, hxv, hso, hent, hx, hov, hox, hrn⟩ := hrel.out
          have HEQ := zh heq
          have HXV := zh hxv
          have HSO2 := zh hso
          have HEN := zh hent
          have HX := zh hx
          have HOV := zh hov
          have HOX := zh hox
          have HRN := zh hrn
          have hvl2 := ents_le HI.out HM.out (xf zP.irr hso) hent.ent
          have hr2l : R'.length = R.length + m := by
           have h1 := congrArg List.length heq
           unfold yy at h1
           rw [List.length_append, List.length_map, List.length_map, List.length_take] at h1
           omega
          have hr3l : R'.length ≤ R.length + X.length := by omega
          have HR2L := zh hr2l
          clear hr2l
          have hlx := (yd hox).le
          clear hrel heq hxv hso hent hx hov hox hrn
          by_cases hml2 : m < X.length
          ·obtain ⟨p, hp⟩ : ∃ p, X[m]? = some p := ⟨_, List.getElem?_eq_getElem hml2⟩
           have hpx := List.mem_of_getElem? hp
           have hpv : p ∈ V' := HXV.out p hpx
           have hpr : p ∉ yy R' := by
            rw [HEQ.out, List.mem_append]
            rintro (h | h)
            ·exact (HXM.out p hpx).2 h
            ·exact nodup_take HXN.out hp h
           have hpe : yO p := (HEN.out.ent p hpv).plOk HI.out HM.out
           obtain ⟨g3, o3, c9, T3, f3, rfl, hg3, hexp⟩ := RdS.elt (f := yQ) (fun _ => rfl) (yd HOX.out) hp
           have HPV := zh (And.intro hpv (And.intro hpr hp))
           have HS3 := zh (And.intro HX.out.b0 hg3)
           have HE3 := zh hexp
           have HLT := zh hml2
           have HON := zh (fun W hv => one_any I HI.out ba bc da dc ra rn rc p hpe W hv)
           clear hpx hpv hpr hpe hg3 hexp hp
           go_upto_region 21 with fail
           go_cut [12] (fun v wx => ∃ (gr : Nat) (r : xc) (vc vl vs : Value), v = .pointer (some ⟨gr, 0, none⟩) ∧ Hid (wx.heap[gr]? = some (xu r.entry r.thunk r.dest vc vl vs) ∧ yu I p r ∧ RtV I (w.heap.size + 1) r vc vl vs wx ∧ wr.heap.size ≤ gr) ∧ Hid (Below wr.heap.size wr wx))
           case first =>
            refine zr (S := fun W => W.heap[w.heap.size]? = some (z6 I ba bc da dc ra rn rc) ∧ W.heap[g3]? = some (.cells c9 T3 f3)) [7] (by kernel_rfl) HS3.out (fun hHeld => ?_)
            (refine tkZ 0 (v := .agg #[.slice ba I.banks.length bc, .int .u16 I.entry, .int .u16 I.vector, .slice da I.data.length dc, .slice ra rn rc]) rfl (by assumption) (fun W hS => zW _ _ rfl _ rfl _ _ _ hS.1 (by kernel_rfl)) ?_; (refine pts ?_))
            (refine tz 1 ?_)
            (refine tz 2 ?_)
            (refine tkZ 3 (v := .pointer (some ⟨g3, o3 + m * 2, none⟩)) rfl (by assumption) (fun W hS => by clear hS; go_simp; first | done | rfl) ?_; (refine pts ?_))
            (refine tkZ 4 (v := .agg #[.int .i64 p.bank, .int .u16 p.addr]) rfl (by assumption) (fun W hS => zQ _ _ rfl _ _ rfl _ _ _ hS.2 (yQ p) HE3.out (by kernel_rfl)) ?_; (refine pts ?_))
            have HWD := zh (Below.refl wr.heap.size wr).drew
            have HWZ2 := zh (show wr.drew.heap.size = wr.heap.size by first | rfl | simp)
            obtain ⟨wd, hwd⟩ : ∃ wd, wr.drew = wd := ⟨_, rfl⟩
            rw [hwd] at HWD HWZ2 ⊢
            clear hwd hHeld
            have hz0 := HX.out.z
            simp only [List.length_cons, List.length_nil] at hz0
            have HVV := zh (HV.out.below HX.out.bb)
            refine twoZ 5 6 rfl rfl (fun K hK => ?_) (fun K hK => ?_)
            ·go_simp
             go_at_call 82
             (with_reducible refine (HON.out _ (HVV.out.below HWD.out)).mono ?_)
             rintro e9 w9 ⟨r, vc, vl, vs, rfl, hir, hrv, hb9⟩
             obtain ⟨C1, k1, rfl, -⟩ := zt hrv.oc
             obtain ⟨C2, k2, rfl, -⟩ := zt hrv.ol
             obtain ⟨C3, k3, rfl, -⟩ := zt hrv.oi
             have HIR := zh (And.intro hir hrv)
             have HB9 := zh (HWD.out.trans (hb9.mono HWD.out.size))
             clear hir hrv hb9
             go_simp
             refine hK.out _ _ (.inr ⟨za HB9.out HS3.out.1, za HB9.out HS3.out.2⟩) ?_
             (refine pts ?_)
             clear hK K
             refine yx 6 rfl (fun K hK => ?_)
             go_simp
             have HGL := zh (heap_alloc_new w9 rtn00)
             have HB6 := zh (HB9.out.alloc HB9.out.size rtn00)
             refine hK.out _ _ (.inr ⟨za HB6.out HS3.out.1, za HB6.out HS3.out.2⟩) ?_
             (refine pts ?_)
             clear hK K
             refine z8 7 ?_
             simp only [List.drop_succ_cons, List.drop_zero]
             go_wp2_with (first | (refine stR (HGL.out) ?_))
             go_meet
             exact ⟨w9.heap.size, r, _, _, _, rfl, zh ⟨by rw [show r.entry = p from HIR.out.1.en]; exact setRow_heap _ _ _ _ _ _ HGL.out, HIR.out.1, ((HIR.out.2.mono (by rw [HWZ2.out]; omega)).below ((Below.refl _ w9).alloc (zn _) rtn00)).turnR HGL.out ((zg.refl (fun k => k = w9.heap.size) _).setRow _ (fun _ => rfl)), HB9.out.size⟩, zh (below_setRow HB6.out HB9.out.size _)⟩
            ·go_simp
             have HGL := zh (heap_alloc_new wd rtn00)
             have HB6 := zh (HWD.out.alloc HWD.out.size rtn00)
             refine hK.out _ _ (.inr ⟨za HB6.out HS3.out.1, za HB6.out HS3.out.2⟩) ?_
             (refine pts ?_)
             clear hK K
             refine yx 5 rfl (fun K hK => ?_)
             go_simp
             go_at_call 82
             (with_reducible refine (HON.out _ (HVV.out.below HB6.out)).mono ?_)
             rintro e9 w9 ⟨r, vc, vl, vs, rfl, hir, hrv, hb9⟩
             obtain ⟨C1, k1, rfl, -⟩ := zt hrv.oc
             obtain ⟨C2, k2, rfl, -⟩ := zt hrv.ol
             obtain ⟨C3, k3, rfl, -⟩ := zt hrv.oi
             have HIR := zh (And.intro hir hrv)
             have HB9 := zh (HB6.out.trans (hb9.mono HB6.out.size))
             have HGL := zh (za hb9 HGL.out)
             clear hir hrv hb9
             go_simp
             refine hK.out _ _ (.inr ⟨za HB9.out HS3.out.1, za HB9.out HS3.out.2⟩) ?_
             (refine pts ?_)
             clear hK K
             refine z8 7 ?_
             simp only [List.drop_succ_cons, List.drop_zero]
             go_wp2_with (first | (refine stR (HGL.out) ?_))
             go_meet
             exact ⟨wd.heap.size, r, _, _, _, rfl, zh ⟨by rw [show r.entry = p from HIR.out.1.en]; exact setRow_heap _ _ _ _ _ _ HGL.out, HIR.out.1, (HIR.out.2.mono (Nat.le_trans hz0 (Nat.le_trans (Nat.le_of_eq HWZ2.out.symm) (by simp)))).turnR HGL.out ((zg.refl (fun k => k = wd.heap.size) _).setRow _ (fun _ => rfl)), Nat.le_of_eq HWZ2.out.symm⟩, zh (below_setRow HB9.out (Nat.le_of_eq HWZ2.out.symm) _)⟩
           case rest =>
            obtain ⟨gr, r, vc, vl, vs, rfl, HR1, HB1⟩ := hcut
            obtain ⟨wx, rfl⟩ : ∃ wx : World, wx = wc := ⟨_, rfl⟩
            obtain ⟨C1, k1, rfl, -⟩ := zt HR1.out.2.2.1.oc
            obtain ⟨C2, k2, rfl, -⟩ := zt HR1.out.2.2.1.ol
            obtain ⟨C3, k3, rfl, -⟩ := zt HR1.out.2.2.1.oi
            have HXc := zh (HX.out.stay HB1.out)
            have HOVc := zh (zV HOV.out HB1.out)
            have HOXc := zh (zV HOX.out HB1.out)
            have HRNc := zh (HRN.out.below HB1.out)
            have HDL := zh (fun k hk => (HRN.out.own.lt k hk).2)
            clear HX HOV HOX HRN HON HS3
            have hclen := HR1.out.2.1.calls_len ((HEN.out.ent p HPV.out.1).plOk HI.out HM.out)
            go_upto_region 23 with (first
             | (refine ldT 50 (HR1.out.1) ?_)
             | (at_builtin; go_must
              (refine zJ (.tmp 82) (.tmp 84) 35 50 rfl 8 112 _ infoRtn Tryz.underlying35 rfl (by decide) (by decide) (w.heap.size + 1) (Nat.le_trans HXc.out.z (by simp)) (.slice A3 R'.length c3) R'.length (R'.flatMap x6) rfl (HRNc.out.own.alloc _) (by omega) wx.heap.size 1 _ _ _ rfl (heap_alloc_new wx _) rfl rfl (by decide) (by decide) rfl ?_
               intro ga cp w22 ho hg hv
               have hal := (Below.refl wx.heap.size wx).alloc (zn _) (xu r.entry r.thunk r.dest (.slice C1 r.code.length k1) (.slice C2 r.calls.length k2) (.slice C3 r.iss.length k3))
               have HRN2 := zh (RnsV.add (x := (r, Value.slice C1 r.code.length k1, Value.slice C2 r.calls.length k2, Value.slice C3 r.iss.length k3)) (HRNc.out.below hal) (HR1.out.2.2.1.below hal) ho hg)
               have HKP := zh (rt_kept (HXc.out.stay hal) (zV HOVc.out hal) (zV HOXc.out hal) (HRNc.out.below hal) hg)
               have HG2 := zh (show w22.heap[gr]? = some (xu r.entry r.thunk r.dest (.slice C1 r.code.length k1) (.slice C2 r.calls.length k2) (.slice C3 r.iss.length k3)) by
                rw [hg.block gr (by have := (Array.getElem?_eq_some_iff.1 HR1.out.1).1; simp; omega) (fun e => by have := HDL.out gr e.symm; have := HR1.out.2.2.2; omega)]
                exact za hal HR1.out.1)
               clear ho hg hv hal)))
            clear HXc HOVc HOXc HRNc HDL HB1
            have HIR := zh HR1.out.2.1
            clear HR1
            have hcg := fun o => cell_of_row w22 gr o _ _ _ HG2.out
            have HCL := zh (HRN2.out.rv (r, Value.slice C1 r.code.length k1, Value.slice C2 r.calls.length k2, Value.slice C3 r.iss.length k3) (by simp)).ol
            have HE3 := zh (show EnV (w.heap.size + 1) (LC V' r.calls 0) (V'.length + 0) (.slice A2 V'.length c2) w22 from ⟨V', A2, c2, rfl, HKP.out.2.1, HSO2.out, zn _, fun q => by unfold LC; simp⟩)
            go_wp2_with fail
            clear hcg
            go_loopw [5, 13] (fun v5 i wz => ∃ j : Nat, j ≤ r.calls.length ∧ i = .int .i64 j ∧ Hid (EnV (w.heap.size + 1) (LC V' r.calls j) (V'.length + j) v5 wz) ∧ Hid (Below w22.heap.size w22 wz)) (fun _ i _ => r.calls.length - (intOf i).toNat)
            case atStart => exact ⟨0, Nat.zero_le _, rfl, HE3, zh (Below.refl _ _)⟩
            case round =>
             clear HE3
             obtain ⟨j, hj, rfl, HE3, HBZ⟩ := hrel
             have HG3 := zh (za HBZ.out HG2.out)
             have hcg := fun o => cell_of_row wr gr o _ _ _ HG3.out
             have hzz : w.heap.size + 1 ≤ wr.heap.size := Nat.le_trans HKP.out.1.z HBZ.out.size
             by_cases hjl : j < r.calls.length
             ·obtain ⟨y, hy⟩ : ∃ y, r.calls[j]? = some y := ⟨_, List.getElem?_eq_getElem hjl⟩
              obtain ⟨g5, o5, c5, T5, f5, e5, hg5, hex5⟩ := RdS.elt (f := yQ) (fun _ => rfl) ((yd HCL.out).below HBZ.out) hy
              have hle5 := (yd HCL.out).le
              have e5 : C2 = some ⟨g5, o5, none⟩ := e5
              subst e5
              have HG5 := zh hg5
              have HE5 := zh hex5
              have HYY := zh hy
              have HJL := zh hjl
              have HPE := zh (put_env HE3.out hzz (by omega) y)
              clear hg5 hex5 hy
              go_wp2_with (first
               | (refine lmT 47 ([.int .i64 y.bank, .int .u16 y.addr]) (HG5.out) (HE5.out) ?_)
               | (go_at_call 26; (with_reducible refine HPE.out.mono ?_); rintro e2 w2 ⟨⟨v2, rfl, hen⟩, hb2⟩; have HE2 := zh hen; have HB2 := zh hb2; clear hen hb2))
              go_roundw
              case rel => exact ⟨j + 1, HJL.out, by go_num, zh (HE2.out.same (by omega) (LC_succ HYY.out)), zh (HBZ.out.trans (HB2.out.mono HBZ.out.size))⟩
              case measure => have h1 := HJL.out; simp [intOf]; omega
             ·obtain rfl : j = r.calls.length := by omega
              have hre : r.entry = p := HIR.out.en
              have HST := zh (show ∀ V9 : List zb, (∀ q, q ∈ V9 ↔ q ∈ V' ∨ q ∈ r.calls ∨ (r.thunk = true ∧ q = r.dest)) → EntI I more V9 (R'.map (·.1) ++ [r]) from fun V9 hV => HEN.out.step (by rw [hre]; exact HIR.out) (by rw [hre]; exact HPV.out.1) (by rw [entL_map, hre]; exact HPV.out.2.1) hV)
              have HEQ2 := zh (show yy (R' ++ [(r, Value.slice C1 r.code.length k1, Value.slice C2 r.calls.length k2, Value.slice C3 r.iss.length k3)]) = yy R ++ X.take (m + 1) by
               have h1 := HEQ.out
               unfold yy at h1 ⊢
               rw [List.map_append, h1, List.take_succ, HPV.out.2.2, List.append_assoc]
               show _ ++ (_ ++ [r.entry]) = _
               rw [hre]
               rfl)
              cases hth : r.thunk with
              | false =>
               have HTH := zh hth
               obtain ⟨V9, A9, c9', rfl, ho9, hs9, hl9, hm9⟩ := HE3.out
               have HM9 := zh hm9
               have HO9 := zh (And.intro ho9 hs9)
               have HLT := zh HLT.out
               clear ho9 hs9 hm9
               go_wp2_with fail
               go_roundw
               case rel =>
                refine ⟨m + 1, HLT.out, by go_num, zh ⟨V9, R' ++ [(r, Value.slice C1 r.code.length k1, Value.slice C2 r.calls.length k2, Value.slice C3 r.iss.length k3)], A9, some ⟨ga, 0, none⟩, c9', cp, rfl, by rw [List.length_append]; rfl, HEQ2.out, fun q hq => (HM9.out q).2 (.inl (HXV.out q hq)), HO9.out.2, ?_, HKP.out.1.stay HBZ.out, HO9.out.1, zV HKP.out.2.2 HBZ.out, by rw [List.length_append]; exact HRN2.out.below HBZ.out⟩⟩
                rw [List.map_append]
                exact HST.out _ (fun q => by rw [HM9.out q]; unfold LC; rw [List.take_of_length_le (zn _)]; simp [HTH.out])
               case measure => have h1 := HLT.out; simp [intOf]; omega
              | true =>
               have HTH := zh hth
               have HPE := zh (put_env HE3.out hzz (by omega) r.dest)
               have HLT := zh HLT.out
               go_wp2_with (first
                | (refine lmT 47 ([.int .i64 r.dest.bank, .int .u16 r.dest.addr]) (HG3.out) (rfl) ?_)
                | (go_at_call 26; (with_reducible refine HPE.out.mono ?_); rintro e2 w2 ⟨⟨v2, rfl, hen⟩, hb2⟩; have HE2 := zh hen; have HB2 := zh (HBZ.out.trans (hb2.mono HBZ.out.size)); clear hen hb2))
               obtain ⟨V9, A9, c9', rfl, ho9, hs9, hl9, hm9⟩ := HE2.out
               go_roundw
               case rel =>
                refine ⟨m + 1, HLT.out, by go_num, zh ⟨V9, R' ++ [(r, Value.slice C1 r.code.length k1, Value.slice C2 r.calls.length k2, Value.slice C3 r.iss.length k3)], A9, some ⟨ga, 0, none⟩, c9', cp, rfl, by rw [List.length_append]; rfl, HEQ2.out, fun q hq => (hm9 q).2 (.inl (.inl (HXV.out q hq))), hs9, ?_, HKP.out.1.stay HB2.out, ho9, zV HKP.out.2.2 HB2.out, by rw [List.length_append]; exact HRN2.out.below HB2.out⟩⟩
                rw [List.map_append]
                exact HST.out _ (fun q => by rw [hm9 q]; unfold LC; rw [List.take_of_length_le (zn _)]; simp [HTH.out, or_assoc])
               case measure => have h1 := HLT.out; simp [intOf]; omega
          ·obtain rfl : m = X.length := by omega
           go_wp2_with fail
           go_roundg (gk - 1)
           case measure => have h1 := HGK.out; omega
           case rel => exact zh ⟨V', R', A2, A3, c2, c3, rfl, rfl, by have h1 := HGK.out; have h2 := HR2L.out; omega, HSO2.out, HEN.out, HX.out, HOV.out, HRN.out⟩
end Go.Proofs.YteofmaiojepdkaaGreat
