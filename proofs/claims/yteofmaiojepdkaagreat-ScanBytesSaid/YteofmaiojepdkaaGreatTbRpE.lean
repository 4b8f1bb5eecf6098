/- The reference of chapter 05: One of an entry that is no thunk, walked. Condition: the image's banks have 4096 bytes; the entry is a place. -/
import Derived.Test.YteofmaiojepdkaaGreatTbRpK
set_option linter.all false
namespace Go.Proofs.YteofmaiojepdkaaGreat
open Go Go.RowKit Go.Maps Go.Sort
theorem wrap_lit {w : World} {p : zb} : (w.alloc (zo p)).ownsRow w.heap.size 47 2 (.slice (some ⟨w.heap.size, 0, none⟩) 1 1) 1 (zp [p]) := own_blkS (zn _) (heap_alloc_new w (zo p))
set_option maxRecDepth 100000 in
set_option maxHeartbeats 8000000 in
theorem one_plain (I : zk) (hI : I.Ok) (ba : Option Addr) (bc : Nat) (da : Option Addr) (dc : Nat) (ra : Option Addr) (rn rc : Nat) (e : zb) (he : yO e) (ht : ¬ yS I e) (w : World) (hV : yG w I ba bc da dc) :
  Calls Tryz.prog 82 #[.agg #[.slice ba I.banks.length bc, .int .u16 I.entry, .int .u16 I.vector, .slice da I.data.length dc, .slice ra rn rc], .agg #[.int .i64 e.bank, .int .u16 e.addr]] w (OneP I e w) := by
 have HV := zh hV
 have HI := zh hI
 have HE := zh he
 have HAE := zh (fun W hv => rat_any I hI ba bc da dc ra rn rc e he.2.1 he.2.2 W hv)
 have HTH := zh ht
 have hcs : ((atI I e).2 == 0) = false ∨ (((atI I e).2 == 0) = true ∧ ((atI I e).1.op == 131) = false) := by
  unfold yS okI at ht
  by_cases h1 : (atI I e).2 = 0
  ·exact .inr ⟨by simpa using h1, by simpa using fun h2 => ht ⟨h1, h2⟩⟩
  ·exact .inl (by simpa using h1)
 have HCS := zh hcs
 have hbx := (Bx.four w (z6 I ba bc da dc ra rn rc) (zo e) rtn00 (rtn01 e))
 have HB := zh hbx
 have HB3 := zh (Bx.three w (z6 I ba bc da dc ra rn rc) (zo e) rtn00)
 generalize ha : atI I e = a at *
 clear hV hI he ht hcs ha hbx
 go_enter Tryz.func82, Tryz.ntmps82
 go_upto_region 3 with (first
  | (refine ldT 47 (HB3.out.b1) ?_)
  | (refine ldT 47 (HB.out.b1) ?_)
  | (refine ldT 31 (HB.out.b0) ?_)
  | (refine stN ?_)
  | (go_at_call 25; (with_reducible refine (HAE.out _ (HV.out.below HB.out.bb)).mono ?_); rintro e2 w2 ⟨rfl, hb2⟩; have HB2 := zh hb2; clear hb2))
 (refine pts ?_)
 have hw3 : Below w2.heap.size w2 (w2.alloc (fnd5 a)) := (Below.refl _ _).alloc (zn _) _
 have HX := zh ((HB.out.stay HB2.out).stay hw3)
 have HF := zh (heap_alloc_new w2 (fnd5 a))
 obtain ⟨w3, hw3e⟩ : ∃ w3, w2.alloc (fnd5 a) = w3 := ⟨_, rfl⟩
 rw [hw3e] at HX HF ⊢
 clear hw3 hw3e HB HB3 HB2 HAE
 go_cut [28] (fun s wx => s = .bool false ∧ wx = w3)
 case first =>
  have hc3 := fun o => cell_of_row w3 w2.heap.size o _ _ _ HF.out
  rcases HCS.out with e1 | ⟨e1, e2⟩
  ·go_wp2_with fail
   go_meet
   exact ⟨rfl, rfl⟩
  ·go_wp2_with fail
   go_meet
   exact ⟨rfl, rfl⟩
 case rest =>
  obtain ⟨rfl, hwc⟩ := hcut
  rw [hwc]
  clear hwc wc HF HCS
  obtain ⟨iB, hiB, hzB, hzB1, hzB2⟩ := info_parts infoBoo
  go_upto_region 9 with (refine wpList_make_full _ rfl _ _ 104 rfl w3.heap.size 4 iB (.bool false) 1 Tryz.underlying104 hiB hzB hzB1 .i64 .i64 524288 524288 524288 rfl rfl rfl rfl (by rw [hzB2]; decide) (by decide) (zn _) ?_; intro w4 ho4 hg4)
  have H4 := zh (made_row rfl ho4)
  have HX4 := zh (HX.out.stay (jb hg4))
  have HGS := zh (show w.heap.size + 4 ≤ w3.heap.size from HX.out.z)
  obtain ⟨gs, hgs⟩ : ∃ g, w3.heap.size = g := ⟨_, rfl⟩
  rw [hgs] at H4 HGS ⊢
  clear ho4 hg4 hiB hzB hzB1 hzB2 iB hgs HX
  go_wp2_with (first | (refine ldT 47 (HX4.out.b1) ?_))
  have hb5 : Below w4.heap.size w4 (w4.alloc (zo e)) := (Below.refl _ _).alloc (zn _) _
  have HN := zh (show OnW w (z6 I ba bc da dc ra rn rc) e gs [] [] (fun _ => false) [e] (.slice none 0 0) (.slice none 0 0) (.slice (some ⟨w4.heap.size, 0, none⟩) 1 1) (w4.alloc (zo e)) from
   ⟨(HX4.out.stay hb5).cut3, (HX4.out.stay hb5).b3, za hb5 H4.out, World.ownsRow_nil _ _ _ _, World.ownsRow_nil _ _ _ _, wrap_lit.mono HX4.out.z, (fun k hk => by cases hk), HGS.out⟩)
  obtain ⟨g0, hg0⟩ : ∃ g, w4.heap.size = g := ⟨_, rfl⟩
  obtain ⟨w5, hw5⟩ : ∃ w5, w4.alloc (zo e) = w5 := ⟨_, rfl⟩
  rw [hw5, hg0] at HN
  rw [hw5, hg0]
  clear hb5 hw5 hg0 H4 HX4
  obtain ⟨nn, hnn⟩ : ∃ nn : Nat, 524288 = nn := ⟨_, rfl⟩
  rw [hnn]
  have HNN := zh hnn
  have hnb : nn ≤ 1000000 := by omega
  clear hnn
  go_loopg [8] (1000 * lack (univ e) [] + 1) (fun k v8 wr => Hid (OneL I w (z6 I ba bc da dc ra rn rc) e gs k v8 wr))
  case atStart => exact zh ⟨[], [e], [], [], fun _ => false, _, _, _, _, rfl, ⟨zn _, by have := lack_le e []; omega⟩, HN.out, OneI.start I e⟩
  case round =>
   clear HN
   obtain ⟨D, Wl, C, S, sn, vC, vS, A, c, rfl, hk, hn0, hon0⟩ := hrel.out
   have HN := zh hn0
   have HON := zh hon0
   clear hrel hn0 hon0
   rcases List.eq_nil_or_concat Wl with rfl | ⟨Q, p, hq⟩
   ·obtain ⟨AC0, cC0, rfl, -⟩ := zt HN.out.oc
    obtain ⟨AS0, cS0, rfl, -⟩ := zt HN.out.oi
    have HRT := zh (HON.out.done HE.out HTH.out)
    have HEN := zh (HN.out.en (I := I))
    clear HN
    go_wp2_with fail
    go_loopw [14] (fun i wx => ∃ k : Nat, k ≤ nn ∧ i = .int .i64 k ∧ Hid (EnL I w (z6 I ba bc da dc ra rn rc) e gs C S sn (.slice AC0 C.length cC0) (.slice AS0 S.length cS0) k wx)) (fun i _ => nn - (intOf i).toNat)
    case atStart => exact ⟨0, Nat.zero_le _, rfl, zh ⟨none, 0, HEN.out⟩⟩
    case round =>
     clear HEN
     obtain ⟨k, hkk, rfl, hrel⟩ := hrel
     obtain ⟨AK, cK, hen⟩ := hrel.out
     have HEN := zh hen
     clear hrel hen
     by_cases hlt : k < nn
     ·have hcs : wr.cell? ⟨gs, k, none⟩ = some (.bool (sn k)) := by rw [cell_of_row _ _ _ _ _ _ HEN.out.se]; exact xQ _ (by rw [HNN.out]; exact hlt)
      have HLT := zh hlt
      have HMS := zh (xH sn k)
      have hml := marked_len sn k
      cases hs : sn k with
      | false =>
       rw [hs] at hcs HMS
       rw [if_neg (by decide)] at HMS
       clear hs
       go_wp2_with fail
       go_roundw
       case rel => exact ⟨k + 1, HLT.out, by go_num, zh ⟨AK, cK, by rw [HMS.out]; exact HEN.out⟩⟩
       case measure => have h1 := HLT.out; simp [intOf]; omega
      | true =>
       rw [hs] at hcs HMS
       rw [if_pos rfl] at HMS
       clear hs
       go_upto_region 32 with fail
       clear hcs
       have HS := zh (And.intro HEN.out.ou HEN.out.hx.b0)
       have hpk : yO (ofK k) := by have h5 := HNN.out; unfold yO ofK ja; dsimp only; omega
       have HPK := zh hpk
       have HOF := zh (fun W => of_any k (by rw [HNN.out]; exact hlt) W)
       clear hpk
       refine zr (S := fun W => W.heap[w.heap.size + 3]? = some (xu e false ⟨0, 0⟩ (.slice AK (zG sn k).length cK) (.slice AC0 C.length cC0) (.slice AS0 S.length cS0)) ∧ W.heap[w.heap.size]? = some (z6 I ba bc da dc ra rn rc)) [11, 12, 13] (by kernel_rfl) HS.out (fun hHeld => ?_)
       (refine tz 0 ?_)
       (refine tkZ 1 (v := .slice AK (zG sn k).length cK) rfl (by assumption) (fun W hS => yo _ _ rfl _ _ rfl _ _ _ hS.1 _ rfl (fun _ => by kernel_rfl)) ?_; (refine pts ?_))
       (refine tz 2 ?_)
       (refine tkZ 4 (v := .agg #[.slice ba I.banks.length bc, .int .u16 I.entry, .int .u16 I.vector, .slice da I.data.length dc, .slice ra rn rc]) rfl (by assumption) (fun W hS => zW _ _ rfl _ rfl _ _ _ hS.2 (by kernel_rfl)) ?_; (refine pts ?_))
       (refine tz 5 ?_)
       have HWD := zh (Below.refl wr.heap.size wr).drew
       obtain ⟨wd, hwd⟩ : ∃ wd, wr.drew = wd := ⟨_, rfl⟩
       rw [hwd] at HWD ⊢
       clear hwd hHeld
       refine yx 3 rfl (fun K hK => ?_)
       go_simp
       go_at_call 46
       (with_reducible refine (HOF.out _).mono ?_)
       rintro e6 w6 ⟨rfl, hb6⟩
       have HB6 := zh (HWD.out.trans (hb6.mono HWD.out.size))
       clear hb6
       go_simp
       refine hK.out _ _ (.inr ⟨za HB6.out HS.out.1, za HB6.out HS.out.2⟩) ?_
       (refine pts ?_)
       clear hK K
       refine yx 6 rfl (fun K hK => ?_)
       go_simp
       go_at_call 46
       (with_reducible refine (HOF.out _).mono ?_)
       rintro e7 w7 ⟨rfl, hb7⟩
       have HB7 := zh (HB6.out.trans (hb7.mono HB6.out.size))
       clear hb7
       go_simp
       refine hK.out _ _ (.inr ⟨za HB7.out HS.out.1, za HB7.out HS.out.2⟩) ?_
       (refine pts ?_)
       clear hK K
       obtain ⟨q, hq⟩ : ∃ q, ofK k = q := ⟨_, rfl⟩
       rw [hq] at HPK HMS ⊢
       clear hq
       have HAT := zh (rat_any I HI.out ba bc da dc ra rn rc q HPK.out.2.1 HPK.out.2.2 w7 ((HV.out.below HEN.out.hx.bb).below HB7.out))
       refine yx 7 rfl (fun K hK => ?_)
       go_simp
       go_at_call 25
       (with_reducible refine HAT.out.mono ?_)
       rintro e8 w8 ⟨rfl, hb8⟩
       have HB8 := zh (HB7.out.trans (hb8.mono HB7.out.size))
       clear hb8
       go_simp
       have hHeld : w8.heap[w.heap.size + 3]? = some (xu e false ⟨0, 0⟩ (.slice AK (zG sn k).length cK) (.slice AC0 C.length cC0) (.slice AS0 S.length cS0)) ∧ w8.heap[w.heap.size]? = some (z6 I ba bc da dc ra rn rc) := ⟨za HB8.out HS.out.1, za HB8.out HS.out.2⟩
       refine hK.out _ _ (.inr hHeld) ?_
       (refine pts ?_)
       clear hK K
       (refine tkZ 8 (v := .agg #[.int .i64 (atI I q).1.op, .int .i64 (atI I q).1.d, .int .i64 (atI I q).1.s, .int .u16 (atI I q).1.imm, .int .u16 (atI I q).1.aux, .int .i64 (atI I q).1.bank, .int .i64 (atI I q).1.size]) rfl (by assumption) (fun W hS => by clear hS; first | kernel_rfl | (go_simp; first | done | rfl | kernel_rfl)) ?_; (refine pts ?_))
       (refine tkZ 9 (v := .agg #[.int .i64 q.bank, .int .u16 q.addr, .int .i64 (atI I q).1.op, .int .i64 (atI I q).1.d, .int .i64 (atI I q).1.s, .int .u16 (atI I q).1.imm, .int .u16 (atI I q).1.aux, .int .i64 (atI I q).1.bank, .int .i64 (atI I q).1.size]) rfl (by assumption) (fun W hS => by clear hS; go_simp; first | done | rfl) ?_; (refine pts ?_))
       clear hHeld
       refine yx 10 rfl (fun K hK => ?_)
       go_simp
       have HBA := zh (HB8.out.alloc HB8.out.size (itmB q (atI I q).1))
       have HGA := zh (heap_alloc_new w8 (itmB q (atI I q).1))
       refine hK.out _ _ (.inr ⟨za HBA.out HS.out.1, za HBA.out HS.out.2⟩) ?_
       (refine pts ?_)
       clear hK K
       refine z8 11 ?_
       simp only [List.drop_succ_cons, List.drop_zero]
       have HEA := zh (HEN.out.below HBA.out)
       obtain ⟨wa, hwa⟩ : ∃ wa, w8.alloc (itmB q (atI I q).1) = wa := ⟨_, rfl⟩
       obtain ⟨ga, hga⟩ : ∃ g, w8.heap.size = g := ⟨_, rfl⟩
       rw [hwa] at HEA HGA ⊢
       rw [hga] at HGA ⊢
       clear hwa hga HBA HB8
       go_wp2_with (first
        | (at_builtin; go_must
         (refine zJ (.tmp 139) (.tmp 148) 48 55 rfl 9 64 _ infoItm Tryz.underlying48 rfl (by decide) (by decide) (w.heap.size + 4) HEA.out.z (.slice AK (zG sn k).length cK) (zG sn k).length (x9 I (zG sn k)) rfl HEA.out.ok (by omega) ga 1 _ _ _ rfl HGA.out rfl rfl (by decide) (by decide) rfl ?_
          intro gb cp w9 ho9 hg9 hv9
          have HAD := zh (HEA.out.add ho9 hg9)
          have hco9 := fun o => cell_of_row w9 (w.heap.size + 3) o _ _ _ HAD.out.2
          have hfo9 := fun o => frozen_of_row w9 (w.heap.size + 3) o _ _ HAD.out.2
          clear ho9 hg9 hv9)))
       go_roundw
       case rel => exact ⟨k + 1, HLT.out, by go_num, zh ⟨some ⟨gb, 0, none⟩, cp, by rw [HMS.out, List.length_append]; exact HAD.out.1⟩⟩
       case measure => have h1 := HLT.out; simp [intOf]; omega
     ·obtain rfl : k = nn := by omega
      have H2 := zh HEN.out.hx.b2
      have hzz := HEN.out.z
      go_wp2_with (first
       | (refine ldT 50 (HEN.out.ou) ?_)
       | (refine stR (H2.out) ?_))
      have htw : zg (fun k => k = w.heap.size + 2) wr (wr.setRow (w.heap.size + 2) #[.int .i64 e.bank, .int .u16 e.addr, .bool false, .int .i64 0, .int .u16 0, .slice AK (zG sn k).length cK, .slice AC0 C.length cC0, .slice AS0 S.length cS0]) := (zg.refl _ wr).setRow _ (fun _ => rfl)
      have hst : ∀ {T : TypeId} {s : Nat} {v : Value} {n : Nat} {xs : List Value}, wr.ownsRow (w.heap.size + 4) T s v n xs → (wr.setRow (w.heap.size + 2) #[.int .i64 e.bank, .int .u16 e.addr, .bool false, .int .i64 0, .int .u16 0, .slice AK (zG sn k).length cK, .slice AC0 C.length cC0, .slice AS0 S.length cS0]).ownsRow (w.heap.size + 4) T s v n xs := fun ho => zi ho htw (fun k hk e => by have := (ho.lt k hk).1; omega)
      refine bodyPost_ret (results_cell_row (cs := #[.int .i64 e.bank, .int .u16 e.addr, .bool false, .int .i64 0, .int .u16 0, .slice AK (zG sn k).length cK, .slice AC0 C.length cC0, .slice AS0 S.length cS0]) (fr := (0, 0)) Tryz.results82 _ _ (w.heap.size + 2) 50 _ ?_ (setRow_heap _ _ _ _ _ _ H2.out) Tryz.underlying50 rfl (by kernel_rfl)) rfl ?_
      ·rfl
      ·exact ⟨⟨e, false, ⟨0, 0⟩, zG sn k, C, S⟩, _, _, _, rfl, by have h1 := HRT.out; rwa [HNN.out] at h1, ⟨(hst HEN.out.ok).mono (Nat.le_add_right _ _), (hst HEN.out.oc).mono (Nat.le_add_right _ _), (hst HEN.out.oi).mono (Nat.le_add_right _ _)⟩, below_setRow HEN.out.hx.bb (by omega) _⟩
   ·rw [List.concat_eq_append] at hq
    subst hq
    have hlen : (Q ++ [p]).length = Q.length + 1 := by simp
    rw [hlen] at HN hk ⊢
    have howp := HN.out.ow
    rw [hlen] at howp
    obtain ⟨gt, curt, hA, -, hgt, hct⟩ := own_ptr howp (Nat.succ_pos _)
    subst hA
    have hext : (curt.extract (Q.length * 2) (Q.length * 2 + 2)).toList = yQ p := ext_at (c := curt) (o := Q.length * 2) (L := yQ p) (fun j hj => by
     have hj2 : j < 2 := hj
     rw [hct _ (by omega), xx, List.getElem?_append_right (by rw [plcsL_len]; omega), plcsL_len, show Q.length * 2 + j - Q.length * 2 = j by omega]
     show (yQ p ++ [])[j]? = _
     rw [List.append_nil])
    have hcap : Q.length + 1 ≤ c := by have := (own_cap howp).1; omega
    have HGT := zh hgt
    have HEX := zh hext
    have HPL := zh (HON.out.plOk HE.out)
    have HK := zh hk
    have hQ9 : Q.length ≤ 16777217001 := by omega
    clear hgt hct hext howp hk hlen
    go_upto_region 12 with (first
     | (refine lmT 47 ([.int .i64 p.bank, .int .u16 p.addr]) (HGT.out) (HEX.out) ?_)
     | (refine stN ?_))
    have hbp : Below wr.heap.size wr (wr.alloc (zo p)) := (Below.refl _ _).alloc (zn _) _
    have HNP := zh ((HN.out.pop rfl).below hbp)
    have HP := zh (heap_alloc_new wr (zo p))
    obtain ⟨gp, hgp⟩ : ∃ g, wr.heap.size = g := ⟨_, rfl⟩
    obtain ⟨wp, hwp⟩ : ∃ wp, wr.alloc (zo p) = wp := ⟨_, rfl⟩
    have HGP := zh (show gt < gp from hgp ▸ (HN.out.ow.lt gt rfl).2)
    rw [hwp] at HNP HP ⊢
    rw [hgp] at HP ⊢
    clear hbp hgp hwp HN HGT HEX
    go_upto_region 13 with fail
    have HAT := zh (fun W hv => rat_any I HI.out ba bc da dc ra rn rc p HPL.out.2.1 HPL.out.2.2 W hv)
    go_upto_region 14 with (first
     | (refine ldT 31 (HNP.out.hx.b0) ?_)
     | (refine ldT 47 (HP.out) ?_)
     | (go_at_call 25; (with_reducible refine (HAT.out _ (HV.out.below HNP.out.hx.bb)).mono ?_); rintro e6 w6 ⟨rfl, hb6⟩; have HB6 := zh hb6; clear hb6)
     | (refine stN ?_))
    have hb7 : Below w6.heap.size w6 (w6.alloc (fnd5 (atI I p))) := (Below.refl _ _).alloc (zn _) _
    have HN7 := zh ((HNP.out.below HB6.out).below hb7)
    have HP7 := zh (za hb7 (za HB6.out HP.out))
    have HF7 := zh (heap_alloc_new w6 (fnd5 (atI I p)))
    have HGF := zh (show gp < w6.heap.size from (Array.getElem?_eq_some_iff.1 (za HB6.out HP.out)).1)
    obtain ⟨gf, hgf⟩ : ∃ g, w6.heap.size = g := ⟨_, rfl⟩
    obtain ⟨w7, hw7⟩ : ∃ w7, w6.alloc (fnd5 (atI I p)) = w7 := ⟨_, rfl⟩
    rw [hw7] at HN7 HP7 HF7 ⊢
    rw [hgf] at HF7 HGF ⊢
    clear hb7 hgf hw7 HNP HP HB6 HAT
    obtain ⟨As, cS, rfl, -⟩ := zt HN7.out.oi
    have hcf := fun o => cell_of_row w7 gf o _ _ _ HF7.out
    by_cases hok : okI I p
    ·have hin := (ok_at hok).ii
     have hkb := key_bd hin HPL.out
     have hcb := xp (y6 hin).1
     have hne : ((atI I p).2 != 0) = false := by unfold okI at hok; simp [hok]
     have HKY := zh (fun W => key_any p ⟨hcb.1, hcb.2.1⟩ HPL.out.2 W)
     have HKE := zh (And.intro hkb.1 hok)
     obtain ⟨kk, hkk⟩ : ∃ kk, keyN p = kk := ⟨_, rfl⟩
     have hkl : kk < nn := by rw [← HNN.out]; exact hkk ▸ hkb.2.1
     have HKK := zh hkk
     clear hin hkb hcb hok hkk
     go_upto_region 16 with fail
     clear hne hcf
     go_upto_if 80 with (first
      | (refine ldT 47 (HP7.out) ?_)
      | (go_at_call 45; (with_reducible refine (HKY.out _).mono ?_); rintro e8 w8 ⟨rfl, hb8⟩; rw [HKE.out.1, HKK.out]; have HB8 := zh hb8
         have hcs8 : w8.cell? ⟨gs, kk, none⟩ = some (.bool (sn kk)) := by rw [cell_of_row _ _ _ _ _ _ (za hb8 HN7.out.se)]; exact xQ _ (by rw [HNN.out]; exact hkl)
         clear hb8))
     clear hcs8
     have HN8 := zh (HN7.out.below HB8.out)
     have HP8 := zh (za HB8.out HP7.out)
     have HF8 := zh (za HB8.out HF7.out)
     clear HN7 HP7 HF7
     cases hs : sn kk with
     | true =>
      have HSN := zh hs
      clear hs
      go_wp2_with fail
      go_roundg (1000 * lack (univ e) D + Q.length)
      case measure => have := HK.out; omega
      case rel => exact zh ⟨D, Q, C, S, sn, vC, _, _, _, rfl, ⟨zn _, by have := HK.out; omega⟩, HN8.out, HON.out.skip HE.out HKE.out.2 (by rw [HKK.out]; exact HSN.out)⟩
     | false =>
      have HSN := zh hs
      clear hs
      go_upto_region 18 with (first
       | (refine ldT 47 (HP8.out) ?_)
       | (go_at_call 45; (with_reducible refine (HKY.out _).mono ?_); rintro e9 w9 ⟨rfl, hb9⟩; rw [HKE.out.1, HKK.out]; have HB9 := zh hb9
          have hcs9 : w9.cell? ⟨gs, kk, none⟩ = some (.bool (sn kk)) := by rw [cell_of_row _ _ _ _ _ _ (za hb9 HN8.out.se)]; exact xQ _ (by rw [HNN.out]; exact hkl)
          have hfs9 := fun o => frozen_of_row w9 gs o _ _ (za hb9 HN8.out.se)
          clear hb9))
      clear hcs9 hfs9
      have HGS2 := zh HN8.out.hs
      have hgse : ∀ {g : Nat} {cs : Array Value} {T : TypeId}, w9.heap[g]? = some (.cells cs T (0, 0)) → T ≠ 4 → (w9.setCell ⟨gs, kk, none⟩ (.bool true)).heap[g]? = some (.cells cs T (0, 0)) := fun {g cs T} hg hT => by
       rw [heap_setCell_other (fun e => by have h1 := za HB9.out HN8.out.se; rw [← e, hg] at h1; injection h1 with h1; injection h1 with _ h1; exact hT h1)]
       exact hg
      have HNA := zh ((HN8.out.below HB9.out).mark kk)
      have HPA := zh (hgse (za HB9.out HP8.out) (by decide))
      have HFA := zh (hgse (za HB9.out HF8.out) (by decide))
      obtain ⟨wa, hwa⟩ : ∃ wa, w9.setCell ⟨gs, kk, none⟩ (.bool true) = wa := ⟨_, rfl⟩
      rw [hwa] at HNA HPA HFA ⊢
      clear hgse hwa HB9 HN8 HP8 HF8 HB8
      have hib := ins_bd HKE.out.2
      have hsz := szI_eq HKE.out.2
      have HFL := zh (fun W hv => rflows_any I HI.out ba bc da dc ra rn rc (atI I p).1 hib.1 hib.2.2 (by omega) p HPL.out.2.1 HPL.out.2.2 W hv)
      have HFB := zh (fl_bd HPL.out HKE.out.2)
      clear hib hsz
      go_upto_region 19 with (first
       | (refine ldT 31 (HNA.out.hx.b0) ?_)
       | (refine ldT 47 (HPA.out) ?_)
       | (refine lmT 53 ([.int .i64 (atI I p).1.op, .int .i64 (atI I p).1.d, .int .i64 (atI I p).1.s, .int .u16 (atI I p).1.imm, .int .u16 (atI I p).1.aux, .int .i64 (atI I p).1.bank, .int .i64 (atI I p).1.size]) (HFA.out) (rfl) ?_)
       | (go_at_call 23; (with_reducible refine (HFL.out _ (HV.out.below HNA.out.hx.bb)).mono ?_); rintro eb wb ⟨⟨vn, vc, vi, vt, rfl, hn, hc, hi, ht⟩, hbb⟩
          obtain ⟨An, cn, rfl⟩ := own_sl hn
          obtain ⟨Ac, cc, rfl⟩ := own_sl hc
          obtain ⟨Ai, ci, rfl⟩ := own_sl hi
          obtain ⟨At, ct, rfl⟩ := own_sl ht
          have HBB := zh hbb
          have HRN := zh (And.intro hn (And.intro hc hi))
          clear hbb hn hc hi ht)
       | (refine stN ?_))
      obtain ⟨F, hF⟩ : ∃ F, fl I p = F := ⟨_, rfl⟩
      have hF2 : yU I (atI I p).1 p = F := hF
      rw [hF2] at HRN ⊢
      rw [hF] at HFB
      have HFE := zh hF
      have hbc : Below wb.heap.size wb (wb.alloc (.cells #[.slice An F.nx.length cn, .slice Ac F.cl.length cc, .slice Ai F.iss.length ci, .slice At F.tb.length ct] 62)) := (Below.refl _ _).alloc (zn _) _
      have HNC := zh ((HNA.out.below HBB.out).below hbc)
      have HLW := zh (show FlW gp wb.heap.size wa.heap.size p F (.slice An F.nx.length cn) (.slice At F.tb.length ct) Ac Ai cc ci _ from ⟨za hbc (za HBB.out HPA.out), heap_alloc_new wb (.cells #[.slice An F.nx.length cn, .slice Ac F.cl.length cc, .slice Ai F.iss.length ci, .slice At F.tb.length ct] 62), zV HRN.out.2.1 hbc, zV HRN.out.2.2 hbc⟩)
      have HRX := zh (zV HRN.out.1 hbc)
      obtain ⟨gw, hgw⟩ : ∃ g, wb.heap.size = g := ⟨_, rfl⟩
      obtain ⟨wc2, hwc⟩ : ∃ wc2, wb.alloc (.cells #[.slice An F.nx.length cn, .slice Ac F.cl.length cc, .slice Ai F.iss.length ci, .slice At F.tb.length ct] 62) = wc2 := ⟨_, rfl⟩
      rw [hwc] at HNC HLW HRX ⊢
      rw [hgw] at HLW ⊢
      have hgta : gt < wa.heap.size := (HNA.out.ow.lt gt rfl).2
      have HGTA := zh hgta
      clear hF hF2 hbc hgw hwc HNA HPA HFA HBB HRN HFL hgta HKY
      have hcw := fun o => cell_of_row wc2 gw o _ _ _ HLW.out.fw
      obtain ⟨iP, hiP, hzP, hzP1, hzP2⟩ := info_parts y7
      have hln := HFB.out.ln
      go_upto_region 20 with (first
       | (at_builtin; go_must
        (refine wpList_append_src wc2 rfl (.tmp 90) (.tmp 92) 40 rfl (w.heap.size + 4) 47 iP _ 2 16 Tryz.underlying40 hiP hzP hzP1 hzP2 (by decide) (by decide) (.slice (some ⟨gt, 0, none⟩) Q.length c) Q.length (zp Q) rfl HNC.out.ow An F.nx.length cn (own_none HRX.out) (zp F.nx) rfl (rd_src (yd HRX.out)) (plcsL_one _) (by unfold maxLen; omega) (by omega) HNC.out.z ?_
         intro v' w13 h2 h3 h4
         have HPU := zh (And.intro h2 (And.intro h3 h4))
         clear h2 h3 h4)))
      clear hcw hiP hzP hzP1 hzP2 hln
      have HND := zh (HNC.out.push HPU.out.1 HPU.out.2.1 HPU.out.2.2)
      have HLD := zh (HLW.out.push HGP.out HGTA.out HNC.out.ow HPU.out.2.1)
      obtain ⟨Av, cv, hv, -⟩ := zt HND.out.ow
      subst hv
      obtain ⟨AC, cC, rfl, -⟩ := zt HND.out.oc
      obtain ⟨sn', hsn⟩ : ∃ sn' : Nat → Bool, (fun j => if j = kk then true else sn j) = sn' := ⟨_, rfl⟩
      obtain ⟨Q', hQ'⟩ : ∃ Q' : List zb, Q ++ F.nx = Q' := ⟨_, rfl⟩
      rw [hsn, hQ'] at HND
      have HSQ := zh (And.intro hsn hQ')
      have hlens := HON.out.lens HE.out
      have hlc := HFB.out.lc
      have hli := iss_le3 F
      have hlq : Q'.length = Q.length + F.nx.length := by rw [← hQ']; exact List.length_append
      try rw [hQ']
      clear hsn hQ'
      have HLQ := zh hlq
      clear HNC HLW HRX HPU hlq
      have hcw := fun o => cell_of_row w13 gw o _ _ _ HLD.out.fw
      go_wp2_with fail
      clear hcw
      go_loopw [12] (fun i wx => ∃ j : Nat, j ≤ F.cl.length ∧ i = .int .i64 j ∧ Hid (ClL w (z6 I ba bc da dc ra rn rc) e gs C S sn' Q' (.slice As S.length cS) (.slice Av Q'.length cv) gp gw wa.heap.size p F (.slice An F.nx.length cn) (.slice At F.tb.length ct) Ac Ai cc ci j wx)) (fun i _ => F.cl.length - (intOf i).toNat)
      case atStart => exact ⟨0, Nat.zero_le _, rfl, zh ⟨C, AC, cC, zn _, HND.out, ⟨HON.out.sc, fun q => by simp⟩, HLD.out⟩⟩
      case round =>
       clear HND HLD
       obtain ⟨j, hj, rfl, hrel⟩ := hrel
       obtain ⟨C', A', c', hcl, hnd, hcc, hld⟩ := hrel.out
       have HND := zh hnd
       have HCC := zh hcc
       have HLD := zh hld
       clear hrel hnd hcc hld
       have hcw := fun o => cell_of_row wr gw o _ _ _ HLD.out.fw
       by_cases hjl : j < F.cl.length
       ·obtain ⟨y, hy⟩ : ∃ y, F.cl[j]? = some y := ⟨_, List.getElem?_eq_getElem hjl⟩
        have hle := (yd HLD.out.oc).le
        obtain ⟨g5, o5, c5, T5, f5, rfl, hg5, hex5⟩ := RdS.elt (f := yQ) (fun _ => rfl) (yd HLD.out.oc) hy
        have HS := zh (And.intro HND.out.ou (And.intro HLD.out.fw hg5))
        have HE5 := zh hex5
        have HJL := zh hjl
        have HTK := zh (y2 hy)
        clear hg5 hex5 hy
        go_upto_region 23 with fail
        clear hcw
        refine zr (S := fun W => W.heap[w.heap.size + 3]? = some (xu e false ⟨0, 0⟩ (.slice none 0 0) (.slice A' C'.length c') (.slice As S.length cS)) ∧ W.heap[gw]? = some (.cells #[.slice An F.nx.length cn, .slice (some ⟨g5, o5, none⟩) F.cl.length cc, .slice Ai F.iss.length ci, .slice At F.tb.length ct] 62 (0, 0)) ∧ W.heap[g5]? = some (.cells c5 T5 f5)) [8, 9] (by kernel_rfl) HS.out (fun hHeld => ?_)
        (refine tz 0 ?_)
        (refine tkZ 1 (v := .slice A' C'.length c') rfl (by assumption) (fun W hS => yo _ _ rfl _ _ rfl _ _ _ hS.1 _ rfl (fun _ => by kernel_rfl)) ?_; (refine pts ?_))
        (refine tz 2 ?_)
        (refine tkZ 3 (v := .slice (some ⟨g5, o5, none⟩) F.cl.length cc) rfl (by assumption) (fun W hS => yo _ _ rfl _ _ rfl _ _ _ hS.2.1 _ rfl (fun _ => by kernel_rfl)) ?_; (refine pts ?_))
        (refine tz 4 ?_)
        (refine tkZ 5 (v := .pointer (some ⟨g5, o5 + j * 2, none⟩)) rfl (by assumption) (fun W hS => by clear hS; go_simp; first | done | rfl) ?_; (refine pts ?_))
        (refine tkZ 6 (v := .agg #[.int .i64 y.bank, .int .u16 y.addr]) rfl (by assumption) (fun W hS => zQ _ _ rfl _ _ rfl _ _ _ hS.2.2 (yQ y) HE5.out (by kernel_rfl)) ?_; (refine pts ?_))
        have HWD := zh (Below.refl wr.heap.size wr).drew
        have HWZ := zh (show wr.drew.heap.size = wr.heap.size by first | rfl | simp)
        obtain ⟨wd, hwd⟩ : ∃ wd, wr.drew = wd := ⟨_, rfl⟩
        rw [hwd] at HWD HWZ ⊢
        clear hwd hHeld
        have HPT := zh (put5_any C' y A' c' wd (yd (zV HND.out.oc HWD.out)) (by omega))
        refine yx 7 rfl (fun K hK => ?_)
        go_simp
        go_at_call 26
        (with_reducible refine HPT.out.mono ?_)
        rintro e8 w8 ⟨A8, c8, rfl, -, hx8, hb8⟩
        have HX8 := zh hx8
        have HB8 := zh (HWD.out.trans (hb8.mono HWD.out.size))
        clear hx8 hb8
        go_simp
        refine hK.out _ _ (.inr ⟨za HB8.out HS.out.1, za HB8.out HS.out.2.1, za HB8.out HS.out.2.2⟩) ?_
        (refine pts ?_)
        clear hK K
        refine z8 8 ?_
        simp only [List.drop_succ_cons, List.drop_zero]
        have hco8 := fun o => cell_of_row w8 (w.heap.size + 3) o _ _ _ (za HB8.out HS.out.1)
        have hfo8 := fun o => frozen_of_row w8 (w.heap.size + 3) o _ _ (za HB8.out HS.out.1)
        go_wp2_with fail
        go_roundw
        case rel => exact ⟨j + 1, HJL.out, by go_num, zh ⟨insP C' y, A8, c8, by have := insP_len HCC.out.1 y; omega, HND.out.setC HB8.out (by rcases HX8.out with ⟨rfl, rfl, h⟩ | h; exact .inl ⟨by rw [h], h⟩; exact .inr (h.mono (Nat.le_of_eq HWZ.out.symm))), ⟨insP_so HCC.out.1 y, fun q => by rw [insP_me HCC.out.1, HCC.out.2 q, HTK.out q]; constructor <;> (intro h; rcases h with h | h | h <;> simp [h])⟩, (HLD.out.below HB8.out).out (za HB8.out HS.out.1)⟩⟩
        case measure => have h1 := HJL.out; simp [intOf]; omega
       ·obtain rfl : j = F.cl.length := by omega
        have HCD := zh (show C'.Pairwise zP ∧ ∀ q, q ∈ C' ↔ q ∈ C ∨ q ∈ F.cl from ⟨HCC.out.1, fun q => by have h1 := HCC.out.2 q; rwa [List.take_of_length_le (zn _)] at h1⟩)
        clear HCC
        go_wp2_with fail
        clear hcw
        go_loopw [13] (fun i wx => ∃ j : Nat, j ≤ F.iss.length ∧ i = .int .i64 j ∧ Hid (IsL w (z6 I ba bc da dc ra rn rc) e gs C' S sn' Q' (.slice A' C'.length c') (.slice Av Q'.length cv) gp gw wa.heap.size p F (.slice An F.nx.length cn) (.slice At F.tb.length ct) Ac Ai cc ci j wx)) (fun i _ => F.iss.length - (intOf i).toNat)
        case atStart => exact ⟨0, Nat.zero_le _, rfl, zh ⟨S, As, cS, zn _, HND.out, ⟨HON.out.si, fun q => by simp⟩, HLD.out⟩⟩
        case round =>
         clear HND HLD
         obtain ⟨j, hj, rfl, hrel⟩ := hrel
         obtain ⟨S', A9, c9, hsl, hnd, hss, hld⟩ := hrel.out
         have HND := zh hnd
         have HSS := zh hss
         have HLD := zh hld
         clear hrel hnd hss hld
         have hcw := fun o => cell_of_row wr gw o _ _ _ HLD.out.fw
         by_cases hjl : j < F.iss.length
         ·obtain ⟨y, hy⟩ : ∃ y, F.iss[j]? = some y := ⟨_, List.getElem?_eq_getElem hjl⟩
          have hle := (yd HLD.out.oi).le
          obtain ⟨g5, o5, c5, T5, f5, rfl, hg5, hat5⟩ := (yd HLD.out.oi).at_ (by omega)
          have hv5 : c5[o5 + j]? = some (.int .i64 y) := by
           rw [hat5 j (by unfold errL; rw [List.length_map]; exact hjl)]
           unfold errL
           rw [List.getElem?_map, hy]
           rfl
          have HS := zh (And.intro HND.out.ou (And.intro HLD.out.fw (And.intro hg5 HLD.out.pl)))
          have HE5 := zh hv5
          have HJL := zh hjl
          have HTK := zh (mem_take_succE hy)
          clear hg5 hat5 hv5 hy
          go_upto_region 27 with fail
          clear hcw
          refine zr (S := fun W => W.heap[w.heap.size + 3]? = some (xu e false ⟨0, 0⟩ (.slice none 0 0) (.slice A' C'.length c') (.slice A9 S'.length c9)) ∧ W.heap[gw]? = some (.cells #[.slice An F.nx.length cn, .slice Ac F.cl.length cc, .slice (some ⟨g5, o5, none⟩) F.iss.length ci, .slice At F.tb.length ct] 62 (0, 0)) ∧ W.heap[g5]? = some (.cells c5 T5 f5) ∧ W.heap[gp]? = some (zo p)) [10, 11] (by kernel_rfl) HS.out (fun hHeld => ?_)
          (refine tz 0 ?_)
          (refine tkZ 1 (v := .slice A9 S'.length c9) rfl (by assumption) (fun W hS => yo _ _ rfl _ _ rfl _ _ _ hS.1 _ rfl (fun _ => by kernel_rfl)) ?_; (refine pts ?_))
          (refine tz 2 ?_)
          (refine tkZ 3 (v := .slice (some ⟨g5, o5, none⟩) F.iss.length ci) rfl (by assumption) (fun W hS => yo _ _ rfl _ _ rfl _ _ _ hS.2.1 _ rfl (fun _ => by kernel_rfl)) ?_; (refine pts ?_))
          (refine tz 4 ?_)
          (refine tkZ 5 (v := .pointer (some ⟨g5, o5 + j, none⟩)) rfl (by assumption) (fun W hS => by clear hS; go_simp; first | done | rfl) ?_; (refine pts ?_))
          (refine tkZ 6 (v := .int .i64 y) rfl (by assumption) (fun W hS => yo _ _ rfl _ _ rfl _ _ _ hS.2.2.1 _ HE5.out (fun _ => by kernel_rfl)) ?_; (refine pts ?_))
          (refine tkZ 7 (v := .agg #[.int .i64 p.bank, .int .u16 p.addr]) rfl (by assumption) (fun W hS => zW _ _ rfl _ rfl _ _ _ hS.2.2.2 (by kernel_rfl)) ?_; (refine pts ?_))
          (refine tkZ 8 (v := .agg #[.int .i64 y, .int .i64 p.bank, .int .u16 p.addr]) rfl (by assumption) (fun W hS => by clear hS; go_simp; first | done | rfl) ?_; (refine pts ?_))
          have HWD := zh (Below.refl wr.heap.size wr).drew
          have HWZ := zh (show wr.drew.heap.size = wr.heap.size by first | rfl | simp)
          obtain ⟨wd, hwd⟩ : ∃ wd, wr.drew = wd := ⟨_, rfl⟩
          rw [hwd] at HWD HWZ ⊢
          clear hwd hHeld
          have HPI := zh (pis5_any S' ⟨y, p⟩ A9 c9 wd (yd (zV HND.out.oi HWD.out)) (by omega))
          refine yx 9 rfl (fun K hK => ?_)
          go_simp
          go_at_call 113
          (with_reducible refine HPI.out.mono ?_)
          rintro e8 w8 ⟨A8, c8, rfl, -, hx8, hb8⟩
          have HX8 := zh hx8
          have HB8 := zh (HWD.out.trans (hb8.mono HWD.out.size))
          clear hx8 hb8
          go_simp
          refine hK.out _ _ (.inr ⟨za HB8.out HS.out.1, za HB8.out HS.out.2.1, za HB8.out HS.out.2.2.1, za HB8.out HS.out.2.2.2⟩) ?_
          (refine pts ?_)
          clear hK K
          refine z8 10 ?_
          simp only [List.drop_succ_cons, List.drop_zero]
          have hco8 := fun o => cell_of_row w8 (w.heap.size + 3) o _ _ _ (za HB8.out HS.out.1)
          have hfo8 := fun o => frozen_of_row w8 (w.heap.size + 3) o _ _ (za HB8.out HS.out.1)
          go_wp2_with fail
          go_roundw
          case rel => exact ⟨j + 1, HJL.out, by go_num, zh ⟨insS S' ⟨y, p⟩, A8, c8, by have := insS_len HSS.out.1 ⟨y, p⟩; omega, HND.out.setS HB8.out (by rcases HX8.out with ⟨rfl, rfl, h⟩ | h; exact .inl ⟨by rw [h], h⟩; exact .inr (h.mono (Nat.le_of_eq HWZ.out.symm))), ⟨insS_so HSS.out.1 _, fun x => by rw [insS_me HSS.out.1, HSS.out.2 x, HTK.out x.kind]; exact iss_or⟩, (HLD.out.below HB8.out).out (za HB8.out HS.out.1)⟩⟩
          case measure => have h1 := HJL.out; simp [intOf]; omega
         ·obtain rfl : j = F.iss.length := by omega
          go_wp2_with fail
          obtain ⟨hD1, hD2⟩ := HON.out.yes HE.out HKE.out.2 (by rw [HKK.out]; exact HSN.out) HCD.out.1 (by rw [HFE.out]; exact HCD.out.2) HSS.out.1 (by rw [HFE.out]; intro x; have h1 := HSS.out.2 x; rwa [List.take_of_length_le (zn _)] at h1)
          rw [HFE.out, HKK.out, HSQ.out.1, HSQ.out.2] at hD1
          have HD := zh (And.intro hD1 hD2)
          clear hD1 hD2
          go_roundg (1000 * lack (univ e) (D ++ [p]) + Q'.length)
          case measure => have h1 := HK.out; have h2 := HD.out.2; have h3 := HFB.out.ln; have h4 := HLQ.out; omega
          case rel => exact zh ⟨D ++ [p], Q', C', S', _, _, _, _, _, rfl, ⟨zn _, by have h1 := HK.out; have h2 := HD.out.2; have h3 := HFB.out.ln; have h4 := HLQ.out; omega⟩, HND.out, HD.out.1⟩
    ·have hne : ((atI I p).2 != 0) = true := by unfold okI at hok; simpa using hok
     have HOK := zh hok
     have hlens := HON.out.lens HE.out
     have hco := fun o => cell_of_row w7 (w.heap.size + 3) o _ _ _ HN7.out.ou
     have HPI := zh (pis5_any S ⟨(atI I p).2, p⟩ As cS w7 (yd HN7.out.oi) (by omega))
     clear hok hlens
     go_wp2_with (first
      | (refine ldT 47 (HP7.out) ?_)
      | (go_at_call 113; (with_reducible refine HPI.out.mono ?_); rintro e8 w8 ⟨A8, c8, rfl, hr8, hx8, hb8⟩
         have HX8 := zh hx8
         have HB8 := zh hb8
         have hco8 := fun o => cell_of_row w8 (w.heap.size + 3) o _ _ _ (za hb8 HN7.out.ou)
         have hfo8 := fun o => frozen_of_row w8 (w.heap.size + 3) o _ _ (za hb8 HN7.out.ou)
         clear hr8 hx8 hb8))
     obtain ⟨D', hD1, hD2⟩ := HON.out.no HE.out HOK.out (insS_so HON.out.si ⟨(atI I p).2, p⟩) (fun x => insS_me HON.out.si ⟨(atI I p).2, p⟩ x)
     have HD := zh (And.intro hD1 hD2)
     clear hD1 hD2
     go_roundg (1000 * lack (univ e) D + Q.length)
     case measure => have := HK.out; omega
     case rel => exact zh ⟨D', Q, C, _, sn, vC, _, _, _, rfl, ⟨by have := HD.out.2; omega, by have := HK.out; omega⟩, HN7.out.setS HB8.out (by rcases HX8.out with ⟨rfl, rfl, h⟩ | h; exact .inl ⟨by rw [h], h⟩; exact .inr h), HD.out.1⟩
theorem one_any (I : zk) (hI : I.Ok) (ba : Option Addr) (bc : Nat) (da : Option Addr) (dc : Nat) (ra : Option Addr) (rn rc : Nat) (e : zb) (he : yO e) (w : World) (hV : yG w I ba bc da dc) :
  Calls Tryz.prog 82 #[.agg #[.slice ba I.banks.length bc, .int .u16 I.entry, .int .u16 I.vector, .slice da I.data.length dc, .slice ra rn rc], .agg #[.int .i64 e.bank, .int .u16 e.addr]] w (OneP I e w) := by
 by_cases ht : yS I e
 ·exact one_thunk I hI ba bc da dc ra rn rc e he.2.1 he.2.2 ht w hV
 ·exact one_plain I hI ba bc da dc ra rn rc e he ht w hV
end Go.Proofs.YteofmaiojepdkaaGreat
