/- The law ScanClosed, walked. Condition: the numbers lie in their types' ranges. -/
import Derived.Test.YteofmaiojepdkaaGreatSdLsClox
import Derived.Test.YteofmaiojepdkaaGreatSdRfD
set_option linter.all false
namespace Go.Proofs.YteofmaiojepdkaaGreat
open Go Go.RowKit Go.Maps Go.Sort
theorem lw_mk0 {I : zp} (hI : I.Ok) {gb gd gi B : Nat} {L : LstS} {vc vr vi : Value} {w3 W : World} (him : w3.heap[gi]? = some (imgI I gb gd)) (hV : yw w3 I (some ⟨gb, 0, none⟩) 3 (some ⟨gd, 0, none⟩) 3) (h : LstV I B L vc vr vi W) (hb : Below w3.heap.size w3 W) :
  ∃ c, LwW I gb gd gi W.heap.size L c vc vr vi (W.alloc (.cells #[vc, vr, vi] 38)) ∧ Below w3.heap.size w3 (W.alloc (.cells #[vc, vr, vi] 38)) := by
 have hb0 := (Below.refl W.heap.size W).alloc (zn _) (.cells #[vc, vr, vi] 38)
 have hb' := hb.trans (hb0.mono hb.size)
 obtain ⟨c, -, hr⟩ := h.read hI
 exact ⟨c, ⟨za hb' him, hV.below hb', heap_alloc_new _ _, hr.below hb0⟩, hb'⟩
theorem among_in {l : List zc} {p : zc} {A : Option Addr} {c : Nat} {w : World} (h : RdS w 2 A l.length c (zt l)) (hl : l.length ≤ 9223372036854775807) (hp : p ∈ l) :
  Calls Tryz.prog 22 #[.slice A l.length c, .agg #[.int .i64 p.bank, .int .u16 p.addr]] w fun e w' => e = .returned (.bool true) ∧ Below w.heap.size w w' :=
 (among_any l p A c w h hl).mono fun e w' ⟨he, hb⟩ => ⟨by rw [he, decide_eq_true hp], hb⟩
set_option maxRecDepth 100000 in
set_option maxHeartbeats 8000000 in
theorem scanclosed_any (p : Option Addr) (n cap : Nat) (Q : Nat → Nat → Int) (hn : n ≤ 9223372036854775807) (N : Nat → Int) (w : World) (hQ : FivV w (.slice p n cap) n Q) :
  Calls Tryz.prog 5 #[.slice p n cap, .agg #[.int .i64 (N 0), .int .i64 (N 1), .int .i64 (N 2), .int .i64 (N 3)]] w fun e w' => e = .returned (.bool true) ∧ Below w.heap.size w w' := by
 have HSA := zh (fun W => sane_any W)
 have HLA := zh (fun W (hb : Below w.heap.size w W) => laid_any p n cap Q hn N W (hQ.below hb))
 have HX := zh (Bx.one w (boxQ N))
 clear hQ hn
 go_enter Tryz.func5, Tryz.ntmps5
 go_upto_region 1 with fail
 obtain ⟨wi, hwi⟩ : ∃ wi, w.alloc (boxQ N) = wi := ⟨_, rfl⟩
 rw [hwi] at HX ⊢
 clear hwi
 go_upto_region 3 with (first
  | (go_at_call 14; (with_reducible refine (HSA.out _).mono ?_); rintro e1 w1 ⟨rfl, hb1⟩; have HX1 := zh (HX.out.stay hb1); clear hb1)
  | (refine zb 23 _ rfl _ rfl _ _ _ (HX1.out.b0) ?_ ?_ ?_; kernel_rfl; kernel_rfl)
  | (go_at_call 15; (with_reducible refine (HLA.out _ HX1.out.bb).mono ?_); rintro e2 w2 ⟨⟨I, gb, gd, ⟨hI, -⟩, hI3, rfl, hV⟩, hb2⟩; have HX2 := zh (HX1.out.stay hb2); have HI := zh hI; have HV := zh hV; clear hb2 hI hI3 hV)
  | (refine wpList_store_row rfl _ _ _ rfl _ _ rfl rfl _ _ (heap_alloc_new _ _) ?_ ?_ ?_ ?_; kernel_rfl; rfl; kernel_rfl; rw [World.setRow_alloc_new]))
 have hb3 : Below w2.heap.size w2 (w2.alloc (imgI I gb gd)) := (Below.refl _ _).alloc (zn _) _
 have HX3 := zh (HX2.out.bb.trans (hb3.mono HX2.out.bb.size))
 have HV3 := zh (HV.out.below hb3)
 have HG3 := zh (heap_alloc_new w2 (imgI I gb gd))
 obtain ⟨w3, hw3⟩ : ∃ w3, w2.alloc (imgI I gb gd) = w3 := ⟨_, rfl⟩
 obtain ⟨gi, hgi⟩ : ∃ gi, w2.heap.size = gi := ⟨_, rfl⟩
 rw [hw3] at HX3 HV3 HG3 ⊢
 rw [hgi] at HG3 ⊢
 clear hb3 hw3 hgi HX HX1 HX2 HV HSA HLA
 have HSC := zh (scan_q0 HI.out.ok HV3.out)
 go_upto_region 4 with (first
  | (refine zb 31 _ rfl _ rfl _ _ _ (HG3.out) ?_ ?_ ?_; kernel_rfl; kernel_rfl)
  | (go_at_call 17; (with_reducible refine HSC.out.mono ?_); rintro e5 w5 ⟨L, Bc, mc, jc, Br, mr, jr, Bi, mi, ji, rfl, hL, hlv, hb5⟩; have HLL := zh (And.intro hL hlv); have HB5 := zh hb5; clear hL hlv hb5)
  | (refine wpList_store_row rfl _ _ _ rfl _ _ rfl rfl _ _ (heap_alloc_new _ _) ?_ ?_ ?_ ?_; kernel_rfl; rfl; kernel_rfl; rw [World.setRow_alloc_new]))
 have hlw := lw_mk0 HI.out.ok HG3.out HV3.out HLL.out.2 HB5.out
 have HL := zh HLL.out.1
 obtain ⟨gl, hgl⟩ : ∃ gl, w5.heap.size = gl := ⟨_, rfl⟩
 obtain ⟨wo, hwo⟩ : ∃ wo, w5.alloc (.cells #[.slice Bc mc jc, .slice Br mr jr, .slice Bi mi ji] 38) = wo := ⟨_, rfl⟩
 rw [hgl, hwo] at hlw ⊢
 obtain ⟨c, hw, hb6⟩ := hlw
 have HW := zh hw
 have HB := zh (HX3.out.trans (hb6.mono HX3.out.size))
 clear hgl hwo hw hb6 HLL HB5 HSC HX3 HV3 HG3
 obtain ⟨R, Ar, kr, hr0, hR, hRL⟩ := HW.out.rd.rts
 injection hr0 with hr1 hr2 hr3
 subst hr1 hr2 hr3
 have HS := zh (hRL.symm ▸ lst_lstR HI.out.ok (fun p hp => by cases hp) HL.out : LstR I [] (R.map (·.1)))
 have HR := zh hR
 have hkr := hR.rd.le
 have hlr := hR.le
 clear hR hRL HL
 have hcl := fun o => cell_of_row wo gl o _ _ _ HW.out.ls
 go_wp2_with fail
 clear hcl
 go_loopw [8] (fun i wr => ∃ m : Nat, m ≤ R.length ∧ i = .int .i64 m ∧ Hid (Below wo.heap.size wo wr)) (fun i _ => R.length - (intOf i).toNat)
 case atStart => exact ⟨0, Nat.zero_le _, rfl, zh (Below.refl _ _)⟩
 case round =>
  obtain ⟨m, hm, rfl, HBR⟩ := hrel
  have HWR := zh (HW.out.below HBR.out)
  have hcl := fun o => cell_of_row wr gl o _ _ _ HWR.out.ls
  by_cases hlt : m < R.length
  ·obtain ⟨x, hx⟩ : ∃ x, R[m]? = some x := ⟨_, List.getElem?_eq_getElem hlt⟩
   have hrt := (HR.out.below HBR.out).rt x (List.mem_of_getElem? hx)
   obtain ⟨gr, ro, cur, T, fr, rfl, hg, hex⟩ := RdS.elt (f := rtvL) (fun _ => rfl) (HR.out.below HBR.out).rd hx
   have HXX := zh hx
   obtain ⟨r, v1, v2, v3⟩ := x
   obtain ⟨⟨A1, k1, e1, hr1, hl1⟩, ⟨A2, k2, e2, hr2, hl2⟩, ⟨A3, k3, e3, hr3, hl3⟩⟩ := hrt
   dsimp only at e1 e2 e3 hr1 hl1 hr2 hl2 hr3 hl3
   subst e1 e2 e3
   have HG := zh hg
   have HEX := zh hex
   have HR1 := zh hr1
   have HR2 := zh hr2
   have HR3 := zh hr3
   have hk1 := hr1.le
   have hk2 := hr2.le
   have hk3 := hr3.le
   have HLT := zh hlt
   clear hg hex hr1 hr2 hr3 hx
   go_upto_region 8 with (first
    | (refine zy 50 _ rfl _ _ rfl _ _ _ (HG.out) (rtvL (r, .slice A1 r.code.length k1, .slice A2 r.calls.length k2, .slice A3 r.iss.length k3)) (HEX.out) ?_ ?_ ?_; kernel_rfl; kernel_rfl)
    | (refine wpList_store_row rfl _ _ _ rfl _ _ rfl rfl _ _ (heap_alloc_new _ _) ?_ ?_ ?_ ?_; kernel_rfl; rfl; kernel_rfl; rw [World.setRow_alloc_new]))
   obtain ⟨wk, hwk⟩ : ∃ wk, wr.alloc (.cells (rtvL (r, .slice A1 r.code.length k1, .slice A2 r.calls.length k2, .slice A3 r.iss.length k3)).toArray 50) = wk := ⟨_, rfl⟩
   have hbk : Below wr.heap.size wr wk := hwk ▸ (Below.refl _ _).alloc (zn _) _
   have HK := zh (show wk.heap[wr.heap.size]? = some (rtnO r A1 A2 A3 k1 k2 k3) from hwk ▸ heap_alloc_new wr _)
   have HBK := zh (HBR.out.trans (hbk.mono HBR.out.size))
   have HR1 := zh (HR1.out.below hbk)
   have HR2 := zh (HR2.out.below hbk)
   have HR3 := zh (HR3.out.below hbk)
   rw [hwk]
   obtain ⟨gk, hgk⟩ : ∃ gk, wr.heap.size = gk := ⟨_, rfl⟩
   rw [hgk] at HK ⊢
   clear hwk hbk hgk hcl HWR HG HEX HBR
   have HWK := zh (HW.out.below HBK.out)
   have hck := fun o => cell_of_row wk gk o _ _ _ HK.out
   have hcl := fun o => cell_of_row wk gl o _ _ _ HWK.out.ls
   have hir : ye I r.entry r := HS.out.rt r (List.mem_map.2 ⟨_, List.mem_of_getElem? HXX.out, rfl⟩)
   have HIR := zh hir
   clear hir
   cases hth : r.thunk with
   | true =>
    have hdm : r.dest ∈ yI R := by
     have h1 := HS.out.th r (List.mem_map.2 ⟨_, List.mem_of_getElem? HXX.out, rfl⟩) hth
     rw [List.map_map] at h1
     exact h1
    have HDM := zh hdm
    have hthk : yc I r.entry := of_decide_eq_true (HIR.out.th ▸ hth)
    have hlc : r.code.length = 1 := by rw [(HIR.out.thk hthk).2.1]; rfl
    have hli : r.iss.length = 0 := by rw [(HIR.out.thk hthk).2.2.2]; rfl
    have HRO := zh (fun W (h : Below wo.heap.size wo W) => routine5_in (HR.out.below h).rd hlr hdm)
    clear hdm hthk
    go_wp2_with (first
     | (refine zy 47 _ rfl _ _ rfl _ _ _ (HK.out) ([.int .i64 r.dest.bank, .int .u16 r.dest.addr]) (rfl) ?_ ?_ ?_; kernel_rfl; kernel_rfl)
     | (go_at_call 21; (with_reducible refine (HRO.out _ HBK.out).mono ?_); rintro e7 w7 ⟨⟨q, rfl⟩, hb7⟩
        have HB7 := zh (HBK.out.trans (hb7.mono HBK.out.size))
        have hck := fun o => cell_of_row w7 gk o _ _ _ (za hb7 HK.out)
        have hq0 : ¬ (q : Int) < 0 := by omega
        clear hb7))
    have HLT := zh HLT.out
    go_roundw
    case rel => exact ⟨m + 1, HLT.out, by go_num, HB7⟩
    case measure => have h1 := HLT.out; simp [intOf]; omega
   | false =>
    have hpe : yQ r.entry := HS.out.pl r (List.mem_map.2 ⟨_, List.mem_of_getElem? HXX.out, rfl⟩)
    have HLE := zh (And.intro (HIR.out.code_le hpe) (HIR.out.iss_le hpe))
    have hnt : ¬ yc I r.entry := of_decide_eq_false (HIR.out.th ▸ hth)
    have HNT := zh hnt
    clear hpe hnt
    go_wp2_with fail
    clear hck hcl
    go_loopw [10, 11] (fun v i wr => ∃ j : Nat, j ≤ r.code.length ∧ i = .int .i64 j ∧ Hid (wr.ownsRow wk.heap.size 47 2 v j (zt (r.code.take j))) ∧ Hid (Below wk.heap.size wk wr)) (fun v i _ => r.code.length - (intOf i).toNat)
    case atStart => exact ⟨0, Nat.zero_le _, rfl, zh (World.ownsRow_nil _ _ _ _), zh (Below.refl _ _)⟩
    case round =>
     obtain ⟨j, hj, rfl, HO, HJ⟩ := hrel
     obtain ⟨Aa, ca, rfl, -⟩ := zL HO.out
     have HKJ := zh (za HJ.out HK.out)
     have hcr := fun o => cell_of_row wr gk o _ _ _ HKJ.out
     by_cases hjl : j < r.code.length
     ·obtain ⟨y, hy⟩ : ∃ y, r.code[j]? = some y := ⟨_, List.getElem?_eq_getElem hjl⟩
      have HRJ := zh (HR1.out.below HJ.out)
      obtain ⟨g3, o3, c3, T3, f3, rfl, hg3, hexp, -, -⟩ := RdS.eltPart (f := itmL I) (fun _ => rfl) HRJ.out hy (a := 0) (m := 2) (by omega) (L := yV y) rfl
      have HEP := zh hexp
      have HG3 := zh hg3
      have HJL := zh hjl
      have HAT := zh (show zt (r.code.take j) ++ [.int .i64 y.bank, .int .u16 y.addr] = zt (r.code.take (j + 1)) by rw [List.take_succ, hy, xQ]; rfl)
      have HJB := zh (show j ≤ 1000000000 by have := HLE.out.1; omega)
      clear hexp hg3 hy
      go_wp2_with (first
       | (refine zy 47 _ rfl _ _ rfl _ _ _ (HG3.out) ([.int .i64 y.bank, .int .u16 y.addr]) (HEP.out) ?_ ?_ ?_; kernel_rfl; kernel_rfl)
       | (at_builtin; go_must
        (refine zS (.tmp 62) (.tmp 69) 40 47 rfl 2 16 _ xz Tryz.underlying40 rfl (by decide) (by decide) wk.heap.size (Nat.le_trans HJ.out.size (by simp)) (.slice Aa j ca) j (zt (r.code.take j)) rfl (HO.out.alloc _) (Nat.le_trans HJB.out (by decide)) wr.heap.size 1 _ _ _ rfl (heap_alloc_new wr _) rfl rfl (by decide) (by decide) rfl ?_
         intro ga cp w6 ho6 hg6 hv6
         have HO6 := zh ho6
         have HB6 := zh (HJ.out.trans ((((Below.refl wr.heap.size wr).alloc (zn _) _).mono HJ.out.size).grown hg6 (Nat.le_trans HJ.out.size (by simp)) (fun k hk => (HO.out.lt k hk).1)))
         clear ho6 hg6 hv6)))
      go_roundw
      case rel => exact ⟨j + 1, HJL.out, by go_num, by rw [← HAT.out]; exact HO6, HB6⟩
      case measure => have h1 := HJL.out; simp [intOf]; omega
     ·obtain rfl : j = r.code.length := by omega
      have HBJ := zh (HBK.out.trans (HJ.out.mono HBK.out.size))
      have HO := zh (show wr.ownsRow wk.heap.size 47 2 (.slice Aa r.code.length ca) r.code.length (zt r.code) by have := HO.out; rwa [List.take_length] at this)
      obtain ⟨wc, rfl⟩ : ∃ wc : World, wc = wr := ⟨_, rfl⟩
      go_wp2_with fail
      clear hcr
      go_loopw [10, 12] (fun v i wr => ∃ j : Nat, j ≤ r.iss.length ∧ i = .int .i64 j ∧ Hid (wr.ownsRow wk.heap.size 47 2 v (r.code.length + j) (zt (r.code ++ (r.iss.take j).map (·.at_)))) ∧ Hid (Below wk.heap.size wk wr)) (fun v i _ => r.iss.length - (intOf i).toNat)
      case atStart => exact ⟨0, Nat.zero_le _, rfl, zh (by simpa using HO.out), HJ⟩
      case round =>
       obtain ⟨q, hq, rfl, HP, HQ⟩ := hrel
       obtain ⟨Ab, cb, rfl, -⟩ := zL HP.out
       have HKQ := zh (za HQ.out HK.out)
       have hcr := fun o => cell_of_row wr gk o _ _ _ HKQ.out
       by_cases hql : q < r.iss.length
       ·obtain ⟨y, hy⟩ : ∃ y, r.iss[q]? = some y := ⟨_, List.getElem?_eq_getElem hql⟩
        have HRQ := zh (HR3.out.below HQ.out)
        obtain ⟨g3, o3, c3, T3, f3, rfl, hg3, hexp, -, -⟩ := RdS.eltPart (f := issL) (fun _ => rfl) HRQ.out hy (a := 1) (m := 2) (by omega) (L := yV y.at_) rfl
        have HEP := zh hexp
        have HG3 := zh hg3
        have HQL := zh hql
        have HAT := zh (show zt (r.code ++ (r.iss.take q).map (·.at_)) ++ [.int .i64 y.at_.bank, .int .u16 y.at_.addr] = zt (r.code ++ (r.iss.take (q + 1)).map (·.at_)) by rw [List.take_succ, hy, List.map_append, ← List.append_assoc, xQ (r.code ++ _)]; rfl)
        have HQB := zh (show r.code.length + q ≤ 1000000000 by have := HLE.out; omega)
        clear hexp hg3 hy
        go_wp2_with (first
         | (refine zy 47 _ rfl _ _ rfl _ _ _ (HG3.out) ([.int .i64 y.at_.bank, .int .u16 y.at_.addr]) (HEP.out) ?_ ?_ ?_; kernel_rfl; kernel_rfl)
         | (at_builtin; go_must
          (refine zS (.tmp 78) (.tmp 85) 40 47 rfl 2 16 _ xz Tryz.underlying40 rfl (by decide) (by decide) wk.heap.size (Nat.le_trans HQ.out.size (by simp)) (.slice Ab (r.code.length + q) cb) (r.code.length + q) (zt (r.code ++ (r.iss.take q).map (·.at_))) rfl (HP.out.alloc _) (Nat.le_trans HQB.out (by decide)) wr.heap.size 1 _ _ _ rfl (heap_alloc_new wr _) rfl rfl (by decide) (by decide) rfl ?_
           intro ga cp w6 ho6 hg6 hv6
           have HO6 := zh ho6
           have HB6 := zh (HQ.out.trans ((((Below.refl wr.heap.size wr).alloc (zn _) _).mono HQ.out.size).grown hg6 (Nat.le_trans HQ.out.size (by simp)) (fun k hk => (HP.out.lt k hk).1)))
           clear ho6 hg6 hv6)))
        go_roundw
        case rel => exact ⟨q + 1, HQL.out, by go_num, by rw [← HAT.out]; exact HO6, HB6⟩
        case measure => have h1 := HQL.out; simp [intOf]; omega
       ·obtain rfl : q = r.iss.length := by omega
        have hkn : ∀ p, Rch I r.entry p → p ∈ r.code ++ r.iss.map (·.at_) := fun p hp => List.mem_append.2 (HIR.out.known HNT.out hp)
        have hnx : ∀ p ∈ r.code, ∀ q ∈ (fl I p).nx, q ∈ r.code ++ r.iss.map (·.at_) := fun p hp q hq => List.mem_append.2 (HIR.out.next HNT.out hp hq)
        have hpl : wr.ownsRow wk.heap.size 47 2 (.slice Ab (r.code.length + r.iss.length) cb) (r.code.length + r.iss.length) (zt (r.code ++ r.iss.map (·.at_))) := by have := HP.out; rwa [List.take_length] at this
        have hKl : r.code.length + r.iss.length = (r.code ++ r.iss.map (·.at_)).length := by simp
        have hKb : (r.code ++ r.iss.map (·.at_)).length ≤ 9223372036854775807 := by have := HLE.out; rw [← hKl]; omega
        obtain ⟨K, hKe⟩ : ∃ K, r.code ++ r.iss.map (·.at_) = K := ⟨_, rfl⟩
        rw [hKe] at hkn hnx hpl hKl hKb
        rw [hKl] at hpl ⊢
        have HKN := zh hkn
        have HNX := zh hnx
        have HP2 := zh (xi hpl)
        have HAM := zh (fun W q (h : Below wr.heap.size wr W) (hq : q ∈ K) => among_in (p := q) (HP2.out.below h) hKb hq)
        have HBQ := zh (HBJ.out.mono (zn _))
        have HBQ := zh (HBK.out.trans (HQ.out.mono HBK.out.size))
        clear hkn hnx hpl hKl hKb hKe HP HO HJ HBJ
        go_upto_region 22 with (first
         | (refine zy 47 _ rfl _ _ rfl _ _ _ (HKQ.out) ([.int .i64 r.entry.bank, .int .u16 r.entry.addr]) (rfl) ?_ ?_ ?_; kernel_rfl; kernel_rfl)
         | (go_at_call 22; (with_reducible refine (HAM.out _ r.entry (Below.refl _ _) (HKN.out _ .start)).mono ?_); rintro e7 w7 ⟨rfl, hb7⟩; have HB7 := zh hb7; have hcr := fun o => cell_of_row w7 gk o _ _ _ (za hb7 HKQ.out); clear hb7))
        go_wp2_with fail
        clear hcr
        obtain ⟨wl, rfl⟩ : ∃ wl : World, wl = wr := ⟨_, rfl⟩
        go_loopw [13] (fun i wr => ∃ j : Nat, j ≤ r.code.length ∧ i = .int .i64 j ∧ Hid (Below wl.heap.size wl wr)) (fun i _ => r.code.length - (intOf i).toNat)
        case atStart => exact ⟨0, Nat.zero_le _, rfl, HB7⟩
        case round =>
         obtain ⟨j, hj, rfl, HJ⟩ := hrel
         have HKJ := zh (za HJ.out HKQ.out)
         have hcr := fun o => cell_of_row wr gk o _ _ _ HKJ.out
         have HBJ := zh (HBQ.out.trans (HJ.out.mono HBQ.out.size))
         by_cases hjl : j < r.code.length
         ·obtain ⟨y, hy⟩ : ∃ y, r.code[j]? = some y := ⟨_, List.getElem?_eq_getElem hjl⟩
          have hyo := HS.out.cd r (List.mem_map.2 ⟨_, List.mem_of_getElem? HXX.out, rfl⟩) y (List.mem_of_getElem? hy)
          have HRJ := zh ((HR1.out.below HQ.out).below HJ.out)
          obtain ⟨g3, o3, c3, T3, f3, rfl, hg3, hexp, -, -⟩ := RdS.eltPart (f := itmL I) (fun _ => rfl) HRJ.out hy (a := 0) (m := 2) (by omega) (L := yV y) rfl
          obtain ⟨g4, o4, c4, T4, f4, e4, hg4, hexi, -, -⟩ := RdS.eltPart (f := itmL I) (fun _ => rfl) HRJ.out hy (a := 2) (m := 7) (by omega) (L := [.int .i64 (atI I y).1.op, .int .i64 (atI I y).1.d, .int .i64 (atI I y).1.s, .int .u16 (atI I y).1.imm, .int .u16 (atI I y).1.aux, .int .i64 (atI I y).1.bank, .int .i64 (atI I y).1.size]) rfl
          injection e4 with e4
          injection e4 with e41 e42
          subst e41 e42
          obtain rfl : c3 = c4 := by rw [hg3] at hg4; injection hg4 with h; injection h with h _
          have HEP := zh hexp
          have HEI := zh hexi
          have HG3 := zh hg3
          have HJL := zh hjl
          have HYC := zh (List.mem_of_getElem? hy)
          have hib := ins_bd hyo.1
          have HWJ := zh (HW.out.below HBJ.out)
          have HFL := zh (fun W (hV : yw W I (some ⟨gb, 0, none⟩) 3 (some ⟨gd, 0, none⟩) 3) => (rflows_any I HI.out.ok _ 3 _ 3 none 0 0 (atI I y).1 hib.1 hib.2.2 (ok_size hyo.1) y hyo.2.2.1 hyo.2.2.2 W hV : Calls Tryz.prog 23 _ W (FlqP W (fl I y))))
          have HYO := zh hyo.1
          have HFD := zh (fl_bd hyo.2 hyo.1)
          clear hg3 hg4 hexp hexi hy hyo hib
          go_upto_region 25 with fail
          clear hcr
          go_cut [14] (fun v wx => ∃ gf An cn Ac cc vi vt, v = .pointer (some ⟨gf, 0, none⟩) ∧ Hid (wx.heap[gf]? = some (.cells #[.slice An (fl I y).nx.length cn, .slice Ac (fl I y).cl.length cc, vi, vt] 62 (0, 0)) ∧ RdS wx 2 An (fl I y).nx.length cn (zt (fl I y).nx) ∧ RdS wx 2 Ac (fl I y).cl.length cc (zt (fl I y).cl)) ∧ Hid (Below wr.heap.size wr wx))
          case first =>
           refine zm (S := fun W => W.heap[gi]? = some (imgI I gb gd) ∧ W.heap[gk]? = some (rtnO r (some ⟨g3, o3, none⟩) A2 A3 k1 k2 k3) ∧ W.heap[g3]? = some (.cells c3 T3 f3)) [15] (by kernel_rfl) ⟨HWJ.out.im, HKJ.out, HG3.out⟩ (fun hHeld => ?_)
           (refine tkZ 0 (v := .agg #[.slice (some ⟨gb, 0, none⟩) I.banks.length 3, .int .u16 I.entry, .int .u16 I.vector, .slice (some ⟨gd, 0, none⟩) I.data.length 3, .slice none 0 0]) rfl (by assumption) (fun W hS => zW _ _ rfl _ rfl _ _ _ hS.1 (by kernel_rfl)) ?_; (try simp only [zA, zB, zC, Act.put, zD, zE, zF]))
           (refine tkZ 1 (v := ?_) rfl (by assumption) ?_ ?_; rotate_left; (focus (intro w hSw; (try dsimp only at hSw); go_simp; try with_reducible rfl)); (try simp only [zA, zB, zC, Act.put, zD, zE, zF]))
           (refine tkZ 2 (v := .slice (some ⟨g3, o3, none⟩) r.code.length k1) rfl (by assumption) (fun W hS => zq _ _ rfl _ _ rfl _ _ _ hS.2.1 _ rfl (fun _ => by kernel_rfl)) ?_; (try simp only [zA, zB, zC, Act.put, zD, zE, zF]))
           (refine tkZ 3 (v := ?_) rfl (by assumption) ?_ ?_; rotate_left; (focus (intro w hSw; (try dsimp only at hSw); go_simp; try with_reducible rfl)); (try simp only [zA, zB, zC, Act.put, zD, zE, zF]))
           (refine tkZ 4 (v := .pointer (some ⟨g3, o3 + j * 9, none⟩)) rfl (by assumption) (fun W hS => by clear hS; go_simp; first | done | rfl) ?_; (try simp only [zA, zB, zC, Act.put, zD, zE, zF]))
           (refine tkZ 5 (v := ?_) rfl (by assumption) ?_ ?_; rotate_left; (focus (intro w hSw; (try dsimp only at hSw); go_simp; try with_reducible rfl)); (try simp only [zA, zB, zC, Act.put, zD, zE, zF]))
           (refine tkZ 6 (v := .agg #[.int .i64 (atI I y).1.op, .int .i64 (atI I y).1.d, .int .i64 (atI I y).1.s, .int .u16 (atI I y).1.imm, .int .u16 (atI I y).1.aux, .int .i64 (atI I y).1.bank, .int .i64 (atI I y).1.size]) rfl (by assumption) (fun W hS => zO _ _ rfl _ _ rfl _ _ _ hS.2.2 [.int .i64 (atI I y).1.op, .int .i64 (atI I y).1.d, .int .i64 (atI I y).1.s, .int .u16 (atI I y).1.imm, .int .u16 (atI I y).1.aux, .int .i64 (atI I y).1.bank, .int .i64 (atI I y).1.size] HEI.out (by kernel_rfl)) ?_; (try simp only [zA, zB, zC, Act.put, zD, zE, zF]))
           (refine tkZ 7 (v := ?_) rfl (by assumption) ?_ ?_; rotate_left; (focus (intro w hSw; (try dsimp only at hSw); go_simp; try with_reducible rfl)); (try simp only [zA, zB, zC, Act.put, zD, zE, zF]))
           (refine tkZ 8 (v := .slice (some ⟨g3, o3, none⟩) r.code.length k1) rfl (by assumption) (fun W hS => zq _ _ rfl _ _ rfl _ _ _ hS.2.1 _ rfl (fun _ => by kernel_rfl)) ?_; (try simp only [zA, zB, zC, Act.put, zD, zE, zF]))
           (refine tkZ 9 (v := ?_) rfl (by assumption) ?_ ?_; rotate_left; (focus (intro w hSw; (try dsimp only at hSw); go_simp; try with_reducible rfl)); (try simp only [zA, zB, zC, Act.put, zD, zE, zF]))
           (refine tkZ 10 (v := .pointer (some ⟨g3, o3 + j * 9, none⟩)) rfl (by assumption) (fun W hS => by clear hS; go_simp; first | done | rfl) ?_; (try simp only [zA, zB, zC, Act.put, zD, zE, zF]))
           (refine tkZ 11 (v := ?_) rfl (by assumption) ?_ ?_; rotate_left; (focus (intro w hSw; (try dsimp only at hSw); go_simp; try with_reducible rfl)); (try simp only [zA, zB, zC, Act.put, zD, zE, zF]))
           (refine tkZ 12 (v := .agg #[.int .i64 y.bank, .int .u16 y.addr]) rfl (by assumption) (fun W hS => zO _ _ rfl _ _ rfl _ _ _ hS.2.2 (yV y) HEP.out (by kernel_rfl)) ?_; (try simp only [zA, zB, zC, Act.put, zD, zE, zF]))
           have HWD := zh (Below.refl wr.heap.size wr).drew
           obtain ⟨wd, hwd⟩ : ∃ wd, wr.drew = wd := ⟨_, rfl⟩
           rw [hwd] at HWD hHeld ⊢
           clear hwd
           have HS3 := zh (fun W (hb : Below wr.heap.size wr W) => show W.heap[gi]? = some (imgI I gb gd) ∧ W.heap[gk]? = some (rtnO r (some ⟨g3, o3, none⟩) A2 A3 k1 k2 k3) ∧ W.heap[g3]? = some (.cells c3 T3 f3) from ⟨za hb HWJ.out.im, za hb HKJ.out, za hb HG3.out⟩)
           clear hHeld
           refine twoZ 13 14 rfl rfl (fun K' hK => ?_) (fun K' hK => ?_)
           ·go_simp
            go_at_call 23
            (with_reducible refine (HFL.out _ (HWJ.out.below HWD.out).vw).mono ?_)
            rintro e9 w9 ⟨⟨vn, vc, vi, vt, rfl, hn, hc, hi, ht⟩, hb9⟩
            obtain ⟨An, cn, rfl⟩ := own_sl hn
            obtain ⟨Ac, cc, rfl⟩ := own_sl hc
            obtain ⟨Ai, ci, rfl⟩ := own_sl hi
            obtain ⟨At, ct, rfl⟩ := own_sl ht
            have HB9 := zh (HWD.out.trans (hb9.mono HWD.out.size))
            have HRN := zh (And.intro (xi hn) (xi hc))
            clear hb9 hn hc hi ht
            go_simp
            refine hK.out _ _ (.inr (HS3.out _ HB9.out)) ?_
            (try simp only [zA, zB, zC, Act.put, zD, zE, zF])
            clear hK K'
            refine yk 14 rfl (fun K' hK => ?_)
            go_simp
            have HGF := zh (heap_alloc_new w9 flwZ)
            have HB10 := zh (HB9.out.alloc HB9.out.size flwZ)
            refine hK.out _ _ (.inr (HS3.out _ HB10.out)) ?_
            (try simp only [zA, zB, zC, Act.put, zD, zE, zF])
            clear hK K'
            refine ya 15 ?_
            simp only [List.drop_succ_cons, List.drop_zero]
            go_wp2_with (first | (refine wpList_store_row rfl _ _ _ rfl _ _ rfl rfl _ _ (HGF.out) ?_ ?_ ?_ ?_; kernel_rfl; rfl; kernel_rfl))
            go_meet
            have hbs := fun cs => below_setRow ((Below.refl w9.heap.size w9).alloc (zn _) flwZ) (zn _) cs
            exact ⟨_, _, _, _, _, _, _, rfl, zh ⟨setRow_heap _ _ _ _ _ _ HGF.out, HRN.out.1.below (hbs _), HRN.out.2.below (hbs _)⟩, zh (below_setRow HB10.out HB9.out.size _)⟩
           ·go_simp
            have HGF := zh (heap_alloc_new wd flwZ)
            have HB8 := zh (HWD.out.alloc HWD.out.size flwZ)
            refine hK.out _ _ (.inr (HS3.out _ HB8.out)) ?_
            (try simp only [zA, zB, zC, Act.put, zD, zE, zF])
            clear hK K'
            refine yk 13 rfl (fun K' hK => ?_)
            go_simp
            go_at_call 23
            (with_reducible refine (HFL.out _ (HWJ.out.below HB8.out).vw).mono ?_)
            rintro e9 w9 ⟨⟨vn, vc, vi, vt, rfl, hn, hc, hi, ht⟩, hb9⟩
            obtain ⟨An, cn, rfl⟩ := own_sl hn
            obtain ⟨Ac, cc, rfl⟩ := own_sl hc
            obtain ⟨Ai, ci, rfl⟩ := own_sl hi
            obtain ⟨At, ct, rfl⟩ := own_sl ht
            have HB9 := zh (HB8.out.trans (hb9.mono HB8.out.size))
            have HGF := zh (za hb9 HGF.out)
            have HRN := zh (And.intro hn hc)
            clear hb9 hn hc hi ht
            go_simp
            refine hK.out _ _ (.inr (HS3.out _ HB9.out)) ?_
            (try simp only [zA, zB, zC, Act.put, zD, zE, zF])
            clear hK K'
            refine ya 15 ?_
            simp only [List.drop_succ_cons, List.drop_zero]
            go_wp2_with (first | (refine wpList_store_row rfl _ _ _ rfl _ _ rfl rfl _ _ (HGF.out) ?_ ?_ ?_ ?_; kernel_rfl; rfl; kernel_rfl))
            go_meet
            have hts := fun cs => (zl.refl (fun k => k = wd.heap.size) w9).setRow cs (fun _ => rfl)
            have hne : ∀ {s n : Nat} {T : TypeId} {v : Value} {xs : List Value}, w9.ownsRow (wd.alloc flwZ).heap.size T s v n xs → ∀ k, v.ownBlock = some k → ¬ k = wd.heap.size := fun h k hk => by have := (h.lt k hk).1; simp at this; omega
            exact ⟨_, _, _, _, _, _, _, rfl, zh ⟨setRow_heap _ _ _ _ _ _ HGF.out, xi (zk HRN.out.1 (hts _) (hne HRN.out.1)), xi (zk HRN.out.2 (hts _) (hne HRN.out.2))⟩, zh (below_setRow HB9.out HWD.out.size _)⟩
          case rest =>
           obtain ⟨gf, An, cn, Ac, cc, vi, vt, rfl, HF, HFB⟩ := hcut
           obtain ⟨wj, rfl⟩ : ∃ wj : World, wj = wr := ⟨_, rfl⟩
           obtain ⟨wf, rfl⟩ : ∃ wf : World, wf = wc := ⟨_, rfl⟩
           have HBF := zh (HJ.out.trans (HFB.out.mono HJ.out.size))
           have HBO := zh (HBJ.out.trans (HFB.out.mono HBJ.out.size))
           have HKF := zh (za HFB.out HKJ.out)
           have hln := HFD.out.ln
           have hlc := HFD.out.lc
           have hcf := fun o => cell_of_row wf gf o _ _ _ HF.out.1
           go_wp2_with fail
           clear hcf
           go_loopw [15] (fun i wr => ∃ a : Nat, a ≤ (fl I y).nx.length ∧ i = .int .i64 a ∧ Hid (Below wf.heap.size wf wr)) (fun i _ => (fl I y).nx.length - (intOf i).toNat)
           case atStart => exact ⟨0, Nat.zero_le _, rfl, zh (Below.refl _ _)⟩
           case round =>
            obtain ⟨a, ha, rfl, HA⟩ := hrel
            have HFA := zh (za HA.out HF.out.1)
            have hcf := fun o => cell_of_row wr gf o _ _ _ HFA.out
            by_cases hal : a < (fl I y).nx.length
            ·obtain ⟨z, hz⟩ : ∃ z, (fl I y).nx[a]? = some z := ⟨_, List.getElem?_eq_getElem hal⟩
             have hle := HF.out.2.1.le
             obtain ⟨g5, o5, c5, T5, f5, rfl, hg5, hex5⟩ := RdS.elt (f := yV) (fun _ => rfl) (HF.out.2.1.below HA.out) hz
             have HG5 := zh hg5
             have HE5 := zh hex5
             have HAL := zh hal
             have HAC := zh (HAM.out wr z (HBF.out.trans (HA.out.mono HBF.out.size)) (HNX.out y HYC.out z (List.mem_of_getElem? hz)))
             clear hg5 hex5 hz
             go_wp2_with (first
              | (refine zy 47 _ rfl _ _ rfl _ _ _ (HG5.out) ([.int .i64 z.bank, .int .u16 z.addr]) (HE5.out) ?_ ?_ ?_; kernel_rfl; kernel_rfl)
              | (go_at_call 22; (with_reducible refine HAC.out.mono ?_); rintro e8 w8 ⟨rfl, hb8⟩; have HB8 := zh (HA.out.trans (hb8.mono HA.out.size)); clear hb8))
             go_roundw
             case rel => exact ⟨a + 1, HAL.out, by go_num, HB8⟩
             case measure => have h1 := HAL.out; simp [intOf]; omega
            ·obtain rfl : a = (fl I y).nx.length := by omega
             have HFC := zh (And.intro HFA.out (HF.out.2.2.below HA.out))
             have HBG := zh (HBF.out.trans (HA.out.mono HBF.out.size))
             have HBH := zh (HBO.out.trans (HA.out.mono HBO.out.size))
             have HKG := zh (za HA.out HKF.out)
             obtain ⟨wg, rfl⟩ : ∃ wg : World, wg = wr := ⟨_, rfl⟩
             go_wp2_with fail
             clear hcf
             go_loopw [16] (fun i wr => ∃ a : Nat, a ≤ (fl I y).cl.length ∧ i = .int .i64 a ∧ Hid (Below wg.heap.size wg wr)) (fun i _ => (fl I y).cl.length - (intOf i).toNat)
             case atStart => exact ⟨0, Nat.zero_le _, rfl, zh (Below.refl _ _)⟩
             case round =>
              obtain ⟨a, ha, rfl, HA⟩ := hrel
              have HFE := zh (za HA.out HFC.out.1)
              have hcf := fun o => cell_of_row wr gf o _ _ _ HFE.out
              by_cases hal : a < (fl I y).cl.length
              ·obtain ⟨z, hz⟩ : ∃ z, (fl I y).cl[a]? = some z := ⟨_, List.getElem?_eq_getElem hal⟩
               have hle := HFC.out.2.le
               obtain ⟨g5, o5, c5, T5, f5, rfl, hg5, hex5⟩ := RdS.elt (f := yV) (fun _ => rfl) (HFC.out.2.below HA.out) hz
               have hrm : r ∈ R.map (·.1) := List.mem_map.2 ⟨_, List.mem_of_getElem? HXX.out, rfl⟩
               have hzc : z ∈ r.calls := HIR.out.call HNT.out HYC.out (List.mem_of_getElem? hz)
               have hze : z ∈ yI R := by have h1 := HS.out.cl r hrm z hzc; rw [List.map_map] at h1; exact h1
               have HG5 := zh hg5
               have HE5 := zh hex5
               have HAL := zh hal
               have HKR := zh (za HA.out HKG.out)
               have HBR := zh (HBH.out.trans (HA.out.mono HBH.out.size))
               have HLR := zh (HW.out.below HBR.out).ls
               have HAC := zh (fun W (h : Below wr.heap.size wr W) => among_in ((((HR2.out.below HQ.out).below HBG.out).below HA.out).below h) hl2 hzc)
               have HRC := zh (fun W (h : Below wr.heap.size wr W) => routine5_in ((HR.out.below HBR.out).below h).rd hlr hze)
               clear hg5 hex5 hz hrm hzc hze
               go_upto_region 34 with fail
               clear hcf
               refine zm (S := fun W => W.heap[gk]? = some (rtnO r (some ⟨g3, o3, none⟩) A2 A3 k1 k2 k3) ∧ W.heap[gf]? = some (.cells #[.slice An (fl I y).nx.length cn, .slice (some ⟨g5, o5, none⟩) (fl I y).cl.length cc, vi, vt] 62 (0, 0)) ∧ W.heap[g5]? = some (.cells c5 T5 f5) ∧ W.heap[gl]? = some (.cells #[.slice Bc mc jc, .slice (some ⟨gr, ro, none⟩) R.length jr, .slice Bi mi ji] 38 (0, 0))) [19] (by kernel_rfl) ⟨HKR.out, HFE.out, HG5.out, HLR.out⟩ (fun hHeld => ?_)
               (refine tkZ 0 (v := ?_) rfl (by assumption) ?_ ?_; rotate_left; (focus (intro w hSw; (try dsimp only at hSw); go_simp; try with_reducible rfl)); (try simp only [zA, zB, zC, Act.put, zD, zE, zF]))
               (refine tkZ 1 (v := .slice A2 r.calls.length k2) rfl (by assumption) (fun W hS => zq _ _ rfl _ _ rfl _ _ _ hS.1 _ rfl (fun _ => by kernel_rfl)) ?_; (try simp only [zA, zB, zC, Act.put, zD, zE, zF]))
               (refine tkZ 2 (v := ?_) rfl (by assumption) ?_ ?_; rotate_left; (focus (intro w hSw; (try dsimp only at hSw); go_simp; try with_reducible rfl)); (try simp only [zA, zB, zC, Act.put, zD, zE, zF]))
               (refine tkZ 3 (v := .slice (some ⟨g5, o5, none⟩) (fl I y).cl.length cc) rfl (by assumption) (fun W hS => zq _ _ rfl _ _ rfl _ _ _ hS.2.1 _ rfl (fun _ => by kernel_rfl)) ?_; (try simp only [zA, zB, zC, Act.put, zD, zE, zF]))
               (refine tkZ 4 (v := ?_) rfl (by assumption) ?_ ?_; rotate_left; (focus (intro w hSw; (try dsimp only at hSw); go_simp; try with_reducible rfl)); (try simp only [zA, zB, zC, Act.put, zD, zE, zF]))
               (refine tkZ 5 (v := .pointer (some ⟨g5, o5 + a * 2, none⟩)) rfl (by assumption) (fun W hS => by clear hS; go_simp; first | done | rfl) ?_; (try simp only [zA, zB, zC, Act.put, zD, zE, zF]))
               (refine tkZ 6 (v := .agg #[.int .i64 z.bank, .int .u16 z.addr]) rfl (by assumption) (fun W hS => zO _ _ rfl _ _ rfl _ _ _ hS.2.2.1 (yV z) HE5.out (by kernel_rfl)) ?_; (try simp only [zA, zB, zC, Act.put, zD, zE, zF]))
               have HWD := zh (Below.refl wr.heap.size wr).drew
               obtain ⟨wd, hwd⟩ : ∃ wd, wr.drew = wd := ⟨_, rfl⟩
               rw [hwd] at HWD hHeld ⊢
               clear hwd
               have HS4 := zh (fun W (hb : Below wr.heap.size wr W) => show W.heap[gk]? = some (rtnO r (some ⟨g3, o3, none⟩) A2 A3 k1 k2 k3) ∧ W.heap[gf]? = some (.cells #[.slice An (fl I y).nx.length cn, .slice (some ⟨g5, o5, none⟩) (fl I y).cl.length cc, vi, vt] 62 (0, 0)) ∧ W.heap[g5]? = some (.cells c5 T5 f5) ∧ W.heap[gl]? = some (.cells #[.slice Bc mc jc, .slice (some ⟨gr, ro, none⟩) R.length jr, .slice Bi mi ji] 38 (0, 0)) from ⟨za hb HKR.out, za hb HFE.out, za hb HG5.out, za hb HLR.out⟩)
               clear hHeld
               refine yk 7 rfl (fun K' hK => ?_)
               go_simp
               go_at_call 22
               (with_reducible refine (HAC.out _ HWD.out).mono ?_)
               rintro e9 w9 ⟨rfl, hb9⟩
               have HB9 := zh (HWD.out.trans (hb9.mono HWD.out.size))
               clear hb9
               go_simp
               refine hK.out _ _ (.inr (HS4.out _ HB9.out)) ?_
               (try simp only [zA, zB, zC, Act.put, zD, zE, zF])
               clear hK K'
               have hHeld := HS4.out _ HB9.out
               (refine tkZ 8 (v := .bool false) rfl (by assumption) (fun W hS => by clear hS; go_simp; first | done | rfl) ?_; (try simp only [zA, zB, zC, Act.put, zD, zE, zF]))
               (refine tkZ 9 (v := ?_) rfl (by assumption) ?_ ?_; rotate_left; (focus (intro w hSw; (try dsimp only at hSw); go_simp; try with_reducible rfl)); (try simp only [zA, zB, zC, Act.put, zD, zE, zF]))
               (refine tkZ 10 (v := ?_) rfl (by assumption) ?_ ?_; rotate_left; (focus (intro w hSw; (try dsimp only at hSw); go_simp; try with_reducible rfl)); (try simp only [zA, zB, zC, Act.put, zD, zE, zF]))
               (refine tkZ 11 (v := .slice (some ⟨gr, ro, none⟩) R.length jr) rfl (by assumption) (fun W hS => zq _ _ rfl _ _ rfl _ _ _ hS.2.2.2 _ rfl (fun _ => by kernel_rfl)) ?_; (try simp only [zA, zB, zC, Act.put, zD, zE, zF]))
               (refine tkZ 12 (v := ?_) rfl (by assumption) ?_ ?_; rotate_left; (focus (intro w hSw; (try dsimp only at hSw); go_simp; try with_reducible rfl)); (try simp only [zA, zB, zC, Act.put, zD, zE, zF]))
               (refine tkZ 13 (v := .slice (some ⟨g5, o5, none⟩) (fl I y).cl.length cc) rfl (by assumption) (fun W hS => zq _ _ rfl _ _ rfl _ _ _ hS.2.1 _ rfl (fun _ => by kernel_rfl)) ?_; (try simp only [zA, zB, zC, Act.put, zD, zE, zF]))
               (refine tkZ 14 (v := ?_) rfl (by assumption) ?_ ?_; rotate_left; (focus (intro w hSw; (try dsimp only at hSw); go_simp; try with_reducible rfl)); (try simp only [zA, zB, zC, Act.put, zD, zE, zF]))
               (refine tkZ 15 (v := .pointer (some ⟨g5, o5 + a * 2, none⟩)) rfl (by assumption) (fun W hS => by clear hS; go_simp; first | done | rfl) ?_; (try simp only [zA, zB, zC, Act.put, zD, zE, zF]))
               (refine tkZ 16 (v := .agg #[.int .i64 z.bank, .int .u16 z.addr]) rfl (by assumption) (fun W hS => zO _ _ rfl _ _ rfl _ _ _ hS.2.2.1 (yV z) HE5.out (by kernel_rfl)) ?_; (try simp only [zA, zB, zC, Act.put, zD, zE, zF]))
               clear hHeld
               refine yk 17 rfl (fun K' hK => ?_)
               go_simp
               go_at_call 21
               (with_reducible refine (HRC.out _ HB9.out).mono ?_)
               rintro e10 w10 ⟨⟨q, rfl⟩, hb10⟩
               have HB10 := zh (HB9.out.trans (hb10.mono HB9.out.size))
               clear hb10
               have hq0 : ¬ (q : Int) < 0 := by omega
               go_simp
               refine hK.out _ _ (.inr (HS4.out _ HB10.out)) ?_
               (try simp only [zA, zB, zC, Act.put, zD, zE, zF])
               clear hK K'
               have hHeld := HS4.out _ HB10.out
               (refine tkZ 18 (v := .bool false) rfl (by assumption) (fun W hS => by clear hS; go_simp; first | done | rfl | simp [hq0]) ?_; (try simp only [zA, zB, zC, Act.put, zD, zE, zF]))
               clear hHeld
               refine ya 19 ?_
               simp only [List.drop_succ_cons, List.drop_zero]
               go_wp2_with fail
               go_roundw
               case rel => exact ⟨a + 1, HAL.out, by go_num, zh (HA.out.trans (HB10.out.mono HA.out.size))⟩
               case measure => have h1 := HAL.out; simp [intOf]; omega
              ·obtain rfl : a = (fl I y).cl.length := by omega
               have HJL := zh HJL.out
               go_wp2_with fail
               go_roundw
               case rel => exact ⟨j + 1, HJL.out, by go_num, zh (HBG.out.trans (HA.out.mono HBG.out.size))⟩
               case measure => have h1 := HJL.out; simp [intOf]; omega
         ·obtain rfl : j = r.code.length := by omega
          have HLT := zh HLT.out
          go_wp2_with fail
          go_roundw
          case rel => exact ⟨m + 1, HLT.out, by go_num, HBJ⟩
          case measure => have h1 := HLT.out; simp [intOf]; omega
  ·go_wp2_with fail
   go_ret
   exact ⟨rfl, HB.out.trans (HBR.out.mono HB.out.size)⟩
end Go.Proofs.YteofmaiojepdkaaGreat
