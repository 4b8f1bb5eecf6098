/- The law ScanClasses, walked. Condition: the numbers lie in their types' ranges. -/
import Derived.Test.YteofmaiojepdkaaGreatTeRpA
import Derived.Test.YteofmaiojepdkaaGreatTeLsA
set_option linter.all false
namespace Go.Proofs.YteofmaiojepdkaaGreat
open Go Go.RowKit Go.Maps Go.Sort
def AllL (L : List zb) (v : Value) (W : World) : Prop := ∃ (M : List zb) (A : Option Addr) (k : Nat), v = .slice A M.length k ∧ RdS W 2 A M.length k (zK M) ∧ M.Pairwise zO ∧ ∀ p, p ∈ M ↔ p ∈ L
def CvL (gcv gfs : Nat) (f g : Nat → Int) (W : World) : Prop := W.heap[gcv]? = some (.cells (rowI 12288 f) 3 (0, 0)) ∧ W.heap[gfs]? = some (.cells (rowI 12288 g) 3 (0, 0))
theorem cnt_bdF {I : zp} {M : List zb} {p : zb} {j n : Nat} (h : M.length ≤ 20000) : 0 ≤ cntF I M p j n ∧ cntF I M p j n ≤ 20001 := by
 unfold cntF
 have : yM I M (n / 4096) (n % 4096) ≤ M.length := by unfold yM; exact List.countP_le_length
 split <;> omega
set_option maxRecDepth 100000 in
set_option maxHeartbeats 8000000 in
theorem scanclasses_any (p : Option Addr) (n cap : Nat) (Q : Nat → Nat → Int) (hn : n ≤ 9223372036854775807) (N : Nat → Int) (p2 : Option Addr) (n2 cap2 : Nat) (Q2 : Nat → Nat → Int) (hn2 : n2 ≤ 9223372036854775807) (hQ2 : ∀ i j, yX (Q2 i j)) (w : World) (hQ : FivV w (.slice p n cap) n Q) (hR : TwoV w (.slice p2 n2 cap2) n2 Q2) :
  Calls Tryz.prog 7 #[.slice p n cap, .agg #[.int .i64 (N 0), .int .i64 (N 1), .int .i64 (N 2), .int .i64 (N 3)], .slice p2 n2 cap2] w fun e w' => e = .returned (.bool true) ∧ Below w.heap.size w w' := by
 have HSA := zh (fun W => sane_any W)
 have HLA := zh (fun W (hb : Below w.heap.size w W) => laid_any p n cap Q hn N W (hQ.below hb))
 have HPL := zh (fun W (hb : Below w.heap.size w W) => places_any p2 n2 cap2 Q2 hn2 W (hR.below hb))
 have HX := zh (Bx.one w (boxQ N))
 have HM := zh (And.intro (plsQ_ok (n := n2) hQ2) (plsQ_len n2 Q2))
 clear hQ hR hn hn2
 generalize plsQ n2 Q2 = more at *
 go_enter Tryz.func7, Tryz.ntmps7
 go_upto_region 1 with fail
 obtain ⟨wi, hwi⟩ : ∃ wi, w.alloc (boxQ N) = wi := ⟨_, rfl⟩
 rw [hwi] at HX ⊢
 clear hwi
 go_upto_region 3 with (first
  | (go_at_call 14; (with_reducible refine (HSA.out _).mono ?_); rintro e1 w1 ⟨rfl, hb1⟩; have HX1 := zh (HX.out.stay hb1); clear hb1)
  | (refine ldT 23 (HX1.out.b0) ?_)
  | (go_at_call 15; (with_reducible refine (HLA.out _ HX1.out.bb).mono ?_); rintro e2 w2 ⟨⟨I, gb, gd, ⟨hI, -⟩, hI3, rfl, hV⟩, hb2⟩; have HX2 := zh (HX1.out.stay hb2); have HI := zh hI; have HV := zh hV; clear hb2 hI hI3 hV)
  | (refine stN ?_))
 have hb3 : Below w2.heap.size w2 (w2.alloc (imgI I gb gd)) := (Below.refl _ _).alloc (zn _) _
 have HX3 := zh (HX2.out.bb.trans (hb3.mono HX2.out.bb.size))
 have HV3 := zh (HV.out.below hb3)
 have HG3 := zh (heap_alloc_new w2 (imgI I gb gd))
 obtain ⟨w3, hw3⟩ : ∃ w3, w2.alloc (imgI I gb gd) = w3 := ⟨_, rfl⟩
 obtain ⟨gi, hgi⟩ : ∃ gi, w2.heap.size = gi := ⟨_, rfl⟩
 rw [hw3] at HX3 HV3 HG3 ⊢
 rw [hgi] at HG3 ⊢
 clear hb3 hw3 hgi HX HX1 HX2 HV HSA HLA
 simp only [Act.put]
 go_cut [9] (fun v wx => ∃ gl L c vc vr vi, v = .pointer (some ⟨gl, 0, none⟩) ∧ Hid (IsLst I more L ∧ L.cls = clsL I c) ∧ Hid (LwW I gb gd gi gl L c vc vr vi wx) ∧ Hid (Below w.heap.size w wx))
 case first =>
  refine zu (S := fun W => W.heap[gi]? = some (imgI I gb gd)) [5] (by kernel_rfl) HG3.out (fun hHeld => ?_)
  have HWD := zh (Below.refl w3.heap.size w3).drew
  obtain ⟨wd, hwd⟩ : ∃ wd, w3.drew = wd := ⟨_, rfl⟩
  rw [hwd] at HWD hHeld ⊢
  clear hwd
  (refine tkZ 0 (v := .agg #[.slice (some ⟨gb, 0, none⟩) I.banks.length 3, .int .u16 I.entry, .int .u16 I.vector, .slice (some ⟨gd, 0, none⟩) I.data.length 3, .slice none 0 0]) rfl (by assumption) (fun W hS => yr _ _ rfl _ rfl _ _ _ hS (by kernel_rfl)) ?_; (refine pts ?_))
  (refine tz 1 ?_)
  clear hHeld
  refine twoZ 2 4 rfl rfl (fun K hK => ?_) (fun K hK => ?_)
  ·go_simp
   go_at_call 18
   (with_reducible refine (HPL.out _ (HX3.out.trans (HWD.out.mono HX3.out.size))).mono ?_)
   rintro e4 w4 ⟨⟨A, cc, rfl, how⟩, hb4⟩
   have HO4 := zh how
   have HB4 := zh (HWD.out.trans (hb4.mono HWD.out.size))
   clear how hb4
   go_simp
   refine hK.out _ _ (.inr (za HB4.out HG3.out)) ?_
   (refine pts ?_)
   clear hK K
   refine twoZ 3 4 rfl rfl (fun K hK => ?_) (fun K hK => ?_)
   ·go_simp
    go_at_call 17
    (with_reducible refine (scan_q HI.out.ok HM.out (HV3.out.below HB4.out) HO4.out).mono ?_)
    rintro e5 w5 ⟨L, A1, m1, k1, A2, m2, k2, A3, m3, k3, rfl, hL, hlv, hb5⟩
    have HLL := zh (And.intro hL hlv)
    have HB5 := zh (HB4.out.trans (hb5.mono HB4.out.size))
    clear hL hlv hb5
    go_simp
    refine hK.out _ _ (.inr (za HB5.out HG3.out)) ?_
    (refine pts ?_)
    clear hK K
    refine yI 4 rfl (fun K hK => ?_)
    go_simp
    have HGL := zh (heap_alloc_new w5 lst0)
    have HB6 := zh (HB5.out.alloc HB5.out.size lst0)
    refine hK.out _ _ (.inr (za HB6.out HG3.out)) ?_
    (refine pts ?_)
    clear hK K
    refine ys 5 ?_
    simp only [List.drop_succ_cons, List.drop_zero]
    go_wp2_with (first | (refine stR (HGL.out) ?_))
    go_meet
    obtain ⟨c, hcc, hlw, hbw⟩ := lw_mkc HI.out.ok HG3.out HV3.out (HLL.out.2.below ((Below.refl _ _).alloc (zn _) lst0)) HGL.out HB5.out.size HB6.out
    exact ⟨_, _, c, _, _, _, rfl, zh ⟨HLL.out.1, hcc⟩, zh hlw, zh (HX3.out.trans (hbw.mono HX3.out.size))⟩
   ·go_simp
    have HGL := zh (heap_alloc_new w4 lst0)
    have HB5 := zh (HB4.out.alloc HB4.out.size lst0)
    have HO5 := zh (HO4.out.alloc lst0)
    refine hK.out _ _ (.inr (za HB5.out HG3.out)) ?_
    (refine pts ?_)
    clear hK K
    refine yI 3 rfl (fun K hK => ?_)
    go_simp
    go_at_call 17
    (with_reducible refine (scan_q HI.out.ok HM.out (HV3.out.below HB5.out) HO5.out).mono ?_)
    rintro e5 w6 ⟨L, A1, m1, k1, A2, m2, k2, A3, m3, k3, rfl, hL, hlv, hb6⟩
    have HLL := zh (And.intro hL hlv)
    have HB6 := zh (HB5.out.trans (hb6.mono HB5.out.size))
    have HGL := zh (za hb6 HGL.out)
    clear hL hlv hb6
    go_simp
    refine hK.out _ _ (.inr (za HB6.out HG3.out)) ?_
    (refine pts ?_)
    clear hK K
    refine ys 5 ?_
    simp only [List.drop_succ_cons, List.drop_zero]
    go_wp2_with (first | (refine stR (HGL.out) ?_))
    go_meet
    obtain ⟨c, hcc, hlw, hbw⟩ := lw_mkc HI.out.ok HG3.out HV3.out HLL.out.2 HGL.out HB4.out.size HB6.out
    exact ⟨_, _, c, _, _, _, rfl, zh ⟨HLL.out.1, hcc⟩, zh hlw, zh (HX3.out.trans (hbw.mono HX3.out.size))⟩
  ·go_simp
   have HGL := zh (heap_alloc_new wd lst0)
   have HB4 := zh (HWD.out.alloc HWD.out.size lst0)
   refine hK.out _ _ (.inr (za HB4.out HG3.out)) ?_
   (refine pts ?_)
   clear hK K
   refine yI 2 rfl (fun K hK => ?_)
   go_simp
   go_at_call 18
   (with_reducible refine (HPL.out _ (HX3.out.trans (HB4.out.mono HX3.out.size))).mono ?_)
   rintro e4 w5 ⟨⟨A, cc, rfl, how⟩, hb5⟩
   have HO5 := zh how
   have HB5 := zh (HB4.out.trans (hb5.mono HB4.out.size))
   have HGL := zh (za hb5 HGL.out)
   clear how hb5
   go_simp
   refine hK.out _ _ (.inr (za HB5.out HG3.out)) ?_
   (refine pts ?_)
   clear hK K
   refine yI 3 rfl (fun K hK => ?_)
   go_simp
   go_at_call 17
   (with_reducible refine (scan_q HI.out.ok HM.out (HV3.out.below HB5.out) HO5.out).mono ?_)
   rintro e5 w6 ⟨L, A1, m1, k1, A2, m2, k2, A3, m3, k3, rfl, hL, hlv, hb6⟩
   have HLL := zh (And.intro hL hlv)
   have HB6 := zh (HB5.out.trans (hb6.mono HB5.out.size))
   have HGL := zh (za hb6 HGL.out)
   clear hL hlv hb6
   go_simp
   refine hK.out _ _ (.inr (za HB6.out HG3.out)) ?_
   (refine pts ?_)
   clear hK K
   refine ys 5 ?_
   simp only [List.drop_succ_cons, List.drop_zero]
   go_wp2_with (first | (refine stR (HGL.out) ?_))
   go_meet
   obtain ⟨c, hcc, hlw, hbw⟩ := lw_mkc HI.out.ok HG3.out HV3.out HLL.out.2 HGL.out HWD.out.size HB6.out
   exact ⟨_, _, c, _, _, _, rfl, zh ⟨HLL.out.1, hcc⟩, zh hlw, zh (HX3.out.trans (hbw.mono HX3.out.size))⟩
 case rest =>
  clear HX3 HV3 HG3 HPL
  obtain ⟨gl, L, c, vc, vr, vi, rfl, HL, HW, HB⟩ := hcut
  obtain ⟨R, Ar, kr, rfl, hR, hRL⟩ := HW.out.rd.rts
  obtain ⟨wo, rfl⟩ : ∃ wo : World, wo = wc := ⟨_, rfl⟩
  have HS := zh (hRL.symm ▸ lst_lstR HI.out.ok HM.out.1 HL.out.1 : LstR I more (R.map (·.1)))
  obtain ⟨rs, its, hrs, hits, hok, rfl⟩ := few_lst HI.out.ok HI.out.few HM.out.1 (by have := HM.out.2; omega) HL.out.1
  have HRL := zh (show R.map (·.1) = rs from hRL)
  have HIT := zh (And.intro hits hok)
  have hne : R.length ≠ 0 := fun e => few_ne hrs (by rw [← HRL.out, List.eq_nil_of_length_eq_zero e]; rfl)
  have HLN := zh (few_len HI.out.ok HI.out.few hits hok)
  have HCL := zh (show clsL I c = clsL I (clOf I its) from HL.out.2.symm)
  have HR := zh hR
  have hkr := hR.rd.le
  have hlr := hR.le
  have hn3 : I.banks.length = 3 := HI.out.few.n3
  clear hR hRL HL hrs hits hok
  obtain ⟨Ac, kc, rfl, hcd⟩ := HW.out.rd.cls
  have HCD := zh hcd
  clear hcd
  have hcl := fun o => cell_of_row wo gl o _ _ _ HW.out.ls
  have hnI : ((I.banks.length : Nat) : Int) = 3 := by omega
  have hnR : ¬ ((R.length : Nat) : Int) = 0 := by omega
  have HN3 := zh hn3
  clear hn3
  go_upto_region 6 with fail
  have hq0 : ((R.length : Int) == 0) = false := by simpa using hne
  try simp only [hq0]
  clear hnI hnR hq0 hne
  go_wp2_with fail
  clear hcl
  go_loopw [10, 11] (fun v i wr => ∃ m : Nat, m ≤ R.length ∧ i = .int .i64 m ∧ Hid (AllL (codesL (R.take m)) v wr) ∧ Hid (Below wo.heap.size wo wr)) (fun _ i _ => R.length - (intOf i).toNat)
  case atStart => exact ⟨0, Nat.zero_le _, rfl, zh ⟨[], none, 0, rfl, ⟨zn _, rfl, fun h => absurd h (Nat.lt_irrefl 0)⟩, .nil, fun p => by simp [codesL]⟩, zh (Below.refl _ _)⟩
  case round =>
   obtain ⟨m, hm, rfl, hrel, HBR⟩ := hrel
   obtain ⟨M, A, k, rfl, hmm⟩ := hrel.out
   have HMM := zh hmm
   clear hrel hmm
   have HWR := zh (HW.out.below HBR.out)
   have hcl := fun o => cell_of_row wr gl o _ _ _ HWR.out.ls
   by_cases hlt : m < R.length
   ·obtain ⟨x, hx⟩ : ∃ x, R[m]? = some x := ⟨_, List.getElem?_eq_getElem hlt⟩
    obtain ⟨gr, ro, cur, T, fr, rfl, hg, -, -, hcc⟩ := RdS.eltPart (f := rtvL) (fun _ => rfl) HR.out.rd hx (a := 5) (m := 1) (by omega) (L := [x.2.1]) rfl
    obtain ⟨A1, k1, e1, hr1, hl1⟩ := HR.out.rt x (List.mem_of_getElem? hx) |>.oc
    have hci : cur[ro + m * 8 + 5]? = some (.slice A1 x.1.code.length k1) := by
     have h1 := hcc 0 (by omega)
     rw [cell_of_row _ _ _ _ _ _ hg, e1] at h1
     exact h1
    have HXX := zh hx
    have HCI := zh hci
    have HG := zh hg
    have HR1 := zh hr1
    have HLT := zh hlt
    have hk1 := hr1.le
    have HCS := zh (codes_snoc hx)
    clear hg hcc hci hx e1 hr1
    go_wp2_with fail
    clear hcl
    obtain ⟨wk, rfl⟩ : ∃ wk : World, wk = wr := ⟨_, rfl⟩
    go_loopw [10, 12] (fun v i wr => ∃ j : Nat, j ≤ x.1.code.length ∧ i = .int .i64 j ∧ Hid (AllL (codesL (R.take m) ++ x.1.code.take j) v wr) ∧ Hid (Below wo.heap.size wo wr)) (fun _ i _ => x.1.code.length - (intOf i).toNat)
    case atStart => exact ⟨0, Nat.zero_le _, rfl, zh ⟨M, A, k, rfl, HMM.out.1, HMM.out.2.1, fun p => by rw [HMM.out.2.2 p]; simp⟩, HBR⟩
    case round =>
     clear HMM HBR HWR
     obtain ⟨j, hj, rfl, hrel, HBR⟩ := hrel
     obtain ⟨M, A, k, rfl, hmm⟩ := hrel.out
     have HMM := zh hmm
     clear hrel hmm
     have HWR := zh (HW.out.below HBR.out)
     have hcl := fun o => cell_of_row wr gl o _ _ _ HWR.out.ls
     have hgr := za HBR.out HG.out
     have hcr : wr.cell? ⟨gr, ro + m * 8 + 5, none⟩ = some (.slice A1 x.1.code.length k1) := by rw [cell_of_row _ _ _ _ _ _ hgr]; exact HCI.out
     have hlt := HLT.out
     by_cases hjl : j < x.1.code.length
     ·obtain ⟨y, hy⟩ : ∃ y, x.1.code[j]? = some y := ⟨_, List.getElem?_eq_getElem hjl⟩
      obtain ⟨g3, o3, c3, T3, f3, rfl, hg3, hexp, -, -⟩ := RdS.eltPart (f := itmL I) (fun _ => rfl) (HR1.out.below HBR.out) hy (a := 0) (m := 2) (by omega) (L := x7 y) rfl
      have HEP := zh hexp
      have HG3 := zh hg3
      have HJL := zh hjl
      have HTK := zh (mem_take_succ hy)
      have hML : M.length ≤ 20000 := by
       refine Nat.le_trans (ym (xy zO.irr HMM.out.2.1) fun q hq => ?_) HLN.out
       have hmr : ∀ z ∈ R, ∀ p ∈ z.1.code, p ∈ its := fun z hz p hp => (HIT.out.1.me p).2 ⟨z.1, by rw [← HRL.out]; exact List.mem_map.2 ⟨z, hz, rfl⟩, hp⟩
       rcases List.mem_append.1 ((HMM.out.2.2 q).1 hq) with h | h
       ·obtain ⟨z, hz, hp⟩ := List.mem_flatMap.1 h
        exact hmr z (List.mem_of_mem_take hz) q hp
       ·exact hmr x (List.mem_of_getElem? HXX.out) q (List.mem_of_mem_take h)
      have HPT := zh (put5_any M y A k wr HMM.out.1 (by omega))
      clear hexp hg3 hy hgr
      go_upto_region 12 with (first
       | (refine lmT 47 ([.int .i64 y.bank, .int .u16 y.addr]) (HG3.out) (HEP.out) ?_)
       | (go_at_call 26; (with_reducible refine HPT.out.mono ?_); rintro e7 w7 ⟨A7, c7, rfl, hr7, -, hb7⟩; have HR7 := zh hr7; have HB7 := zh (HBR.out.trans (hb7.mono HBR.out.size)); clear hr7 hb7))
      clear hcl hcr
      go_wp2_with fail
      go_roundw
      case rel => exact ⟨j + 1, HJL.out, by go_num, zh ⟨insP M y, A7, c7, rfl, HR7.out, insP_so HMM.out.2.1 y, fun p => by rw [insP_me HMM.out.2.1, HMM.out.2.2 p, List.mem_append, List.mem_append, HTK.out p]; constructor <;> (intro h; rcases h with h | h | h <;> simp [h])⟩, HB7⟩
      case measure => have h1 := HJL.out; simp [intOf]; omega
     ·obtain rfl : j = x.1.code.length := by omega
      have HLT := zh HLT.out
      go_wp2_with fail
      clear hcl hcr
      go_roundw
      case rel => exact ⟨m + 1, HLT.out, by go_num, zh ⟨M, A, k, rfl, HMM.out.1, HMM.out.2.1, fun p => by rw [HMM.out.2.2 p, HCS.out, List.take_of_length_le (zn _)]⟩, HBR⟩
      case measure => have h1 := HLT.out; simp [intOf]; omega
   ·obtain rfl : m = R.length := by omega
    obtain rfl : M = its := je zO.irr zO.tr HMM.out.2.1 HIT.out.1.so fun p => by
     rw [HMM.out.2.2 p, HIT.out.1.me p, List.take_of_length_le (zn _)]
     unfold codesL
     rw [List.mem_flatMap, ← HRL.out]
     constructor
     ·rintro ⟨z, h1, h2⟩; exact ⟨z.1, List.mem_map.2 ⟨z, h1, rfl⟩, h2⟩
     ·rintro ⟨r, h1, h2⟩
      obtain ⟨z, h3, rfl⟩ := List.mem_map.1 h1
      exact ⟨z, h3, h2⟩
    have HALL := zh HMM.out.1
    have hAl := HALL.out.le
    have HBQ := zh (HB.out.trans (HBR.out.mono HB.out.size))
    have HWQ := zh (HW.out.below HBR.out)
    clear HMM HWR
    obtain ⟨wq, rfl⟩ : ∃ wq : World, wq = wr := ⟨_, rfl⟩
    obtain ⟨iN, hiN, hzN, hzN1, hzN2⟩ := info_parts infoInt
    go_upto_region 15 with (refine wpList_make_full _ rfl _ _ 70 rfl wq.heap.size 3 iN (.int .i64 0) 1 Tryz.underlying70 hiN hzN hzN1 .i64 .i64 12288 12288 12288 rfl rfl rfl rfl (by rw [hzN2]; decide) (by decide) (zn _) ?_; intro w3 ho3 hg3)
    clear hcl
    have H3 := zh (made_row rfl ho3)
    have HB3 := zh (xV hg3)
    obtain ⟨gcv, hgcv⟩ : ∃ g, wq.heap.size = g := ⟨_, rfl⟩
    rw [hgcv] at H3 ⊢
    clear ho3 hg3
    go_upto_region 16 with (refine wpList_make_full _ rfl _ _ 70 rfl w3.heap.size 3 iN (.int .i64 0) 1 Tryz.underlying70 hiN hzN hzN1 .i64 .i64 12288 12288 12288 rfl rfl rfl rfl (by rw [hzN2]; decide) (by decide) (zn _) ?_; intro w4 ho4 hg4)
    have H4 := zh (made_row rfl ho4)
    have hb4 := xV hg4
    have H34 := zh (za hb4 H3.out)
    have HZ := zh (show wq.heap.size ≤ w3.heap.size from HB3.out.size)
    have HGN := zh (show gcv < w3.heap.size from (Array.getElem?_eq_some_iff.1 H3.out).1)
    obtain ⟨gfs, hgfs⟩ : ∃ g, w3.heap.size = g := ⟨_, rfl⟩
    have HB4 := zh (HB3.out.trans (hb4.mono HB3.out.size))
    rw [hgfs] at H4 HZ HGN ⊢
    have HGC := zh (show wq.heap.size ≤ gcv from Nat.le_of_eq hgcv)
    clear ho4 hg4 hb4 H3 HB3 hiN hzN hzN1 hzN2 iN hgcv hgfs
    obtain ⟨nn, hnn⟩ : ∃ nn : Nat, 12288 = nn := ⟨_, rfl⟩
    rw [hnn]
    have HNN := zh hnn
    have hnb : nn ≤ 1000000 := by omega
    clear hnn
    go_wp2_with fail
    go_loopw [15] (fun i wx => ∃ m : Nat, m ≤ M.length ∧ i = .int .i64 m ∧ Hid (CvL gcv gfs (cnt0 I (M.take m)) (fstF (M.take m)) wx) ∧ Hid (Below wq.heap.size wq wx)) (fun i _ => M.length - (intOf i).toNat)
    case atStart => exact ⟨0, Nat.zero_le _, rfl, zh ⟨H34.out, H4.out⟩, HB4⟩
    case round =>
     clear H34 H4 HB4
     obtain ⟨m, hm, rfl, hcv0, HBX⟩ := hrel
     have HC := zh hcv0.out.1
     have HF := zh hcv0.out.2
     clear hcv0
     by_cases hlt : m < M.length
     ·obtain ⟨y, hy⟩ : ∃ y, M[m]? = some y := ⟨_, List.getElem?_eq_getElem hlt⟩
      obtain ⟨hyo, hyp⟩ := HIT.out.2 y (List.mem_of_getElem? hy)
      have hin := (ok_at hyo).ii
      have hcb := xX (xU hin).1
      have hbl := (xU hin).2
      have hsz := (szI_eq hyo).1
      have hend := ok_end HI.out.ok hyo
      obtain ⟨b, hb⟩ := Int.eq_ofNat_of_zero_le hcb.1
      have hb3 : b < 3 := by have := HN3.out; omega
      obtain ⟨yb, ya⟩ := y
      dsimp only at hb
      subst hb
      obtain ⟨g3, o3, c3, T3, f3, rfl, hg3, hexp⟩ := RdS.elt (f := x7) (fun _ => rfl) (HALL.out.below HBX.out) hy
      have HS3 := zh (And.intro (HWQ.out.below HBX.out).im hg3)
      have HEP := zh hexp
      have HYO := zh (And.intro hyo (And.intro hyp (And.intro hin hsz)))
      have HLT := zh hlt
      have HTK := zh (show M.take (m + 1) = M.take m ++ [⟨(b : Int), ya⟩] by rw [List.take_succ, hy]; rfl)
      have HVX := zh (HWQ.out.below HBX.out).vw
      clear hyo hyp hin hcb hbl hg3 hexp hy
      go_upto_region 19 with fail
      refine zu (S := fun W => W.heap[gi]? = some (imgI I gb gd) ∧ W.heap[g3]? = some (.cells c3 T3 f3)) [12] (by kernel_rfl) HS3.out (fun hHeld => ?_)
      (refine tkZ 0 (v := .agg #[.slice (some ⟨gb, 0, none⟩) I.banks.length 3, .int .u16 I.entry, .int .u16 I.vector, .slice (some ⟨gd, 0, none⟩) I.data.length 3, .slice none 0 0]) rfl (by assumption) (fun W hS => yr _ _ rfl _ rfl _ _ _ hS.1 (by kernel_rfl)) ?_; (refine pts ?_))
      (refine tz 1 ?_)
      (refine tz 2 ?_)
      (refine tkZ 3 (v := .pointer (some ⟨g3, o3 + m * 2, none⟩)) rfl (by assumption) (fun W hS => by clear hS; go_simp; first | done | rfl) ?_; (refine pts ?_))
      (refine tkZ 4 (v := .agg #[.int .i64 b, .int .u16 ya]) rfl (by assumption) (fun W hS => yk _ _ rfl _ _ rfl _ _ _ hS.2 (x7 ⟨b, ya⟩) HEP.out (by kernel_rfl)) ?_; (refine pts ?_))
      have HWD := zh (Below.refl wr.heap.size wr).drew
      obtain ⟨wd, hwd⟩ : ∃ wd, wr.drew = wd := ⟨_, rfl⟩
      rw [hwd] at HWD hHeld ⊢
      clear hwd hHeld
      have HOF := zh (roff_in I HI.out.ok (some ⟨gb, 0, none⟩) 3 (some ⟨gd, 0, none⟩) 3 none 0 0 ⟨b, ya⟩ HYO.out.2.1.2.1 HYO.out.2.1.2.2 _ (HVX.out.below HWD.out) HYO.out.2.2.1)
      refine yI 5 rfl (fun K hK => ?_)
      go_simp
      go_at_call 27
      (with_reducible refine HOF.out.mono ?_)
      rintro e5 w5 ⟨rfl, hb5⟩
      have HB5 := zh (HWD.out.trans (hb5.mono HWD.out.size))
      clear hb5
      go_simp
      refine hK.out _ _ (.inr ⟨za HB5.out HS3.out.1, za HB5.out HS3.out.2⟩) ?_
      (refine pts ?_)
      clear hK K
      have hHeld := And.intro (za HB5.out HS3.out.1) (za HB5.out HS3.out.2)
      (refine tz 6 ?_)
      (refine tz 7 ?_)
      (refine tz 8 ?_)
      (refine tz 9 ?_)
      (refine tz 10 ?_)
      (refine tz 11 ?_)
      refine ys 12 ?_
      simp only [List.drop_succ_cons, List.drop_zero]
      clear hHeld HOF
      obtain ⟨o, ho⟩ : ∃ o, zx ⟨(b : Int), ya⟩ = o := ⟨_, rfl⟩
      have ho4 : o < 4096 := by rw [← ho]; unfold zx; omega
      rw [ho] at hend ⊢
      have HO := zh ho
      obtain ⟨z, hz⟩ : ∃ z, szI I ⟨(b : Int), ya⟩ = z := ⟨_, rfl⟩
      rw [hz] at hend hsz
      have HZI := zh hz
      have HSZ := zh hsz
      clear ho hz hsz
      have hb2 : ¬ (2 : Int) < (b : Int) := by omega
      go_upto_region 22 with fail
      clear hb2
      have HS5 := zh (And.intro (za HB5.out HS3.out.1) (za HB5.out HS3.out.2))
      refine zu (S := fun W => W.heap[gi]? = some (imgI I gb gd) ∧ W.heap[g3]? = some (.cells c3 T3 f3)) [8] (by kernel_rfl) HS5.out (fun hHeld => ?_)
      (refine tkZ 0 (v := .agg #[.slice (some ⟨gb, 0, none⟩) I.banks.length 3, .int .u16 I.entry, .int .u16 I.vector, .slice (some ⟨gd, 0, none⟩) I.data.length 3, .slice none 0 0]) rfl (by assumption) (fun W hS => yr _ _ rfl _ rfl _ _ _ hS.1 (by kernel_rfl)) ?_; (refine pts ?_))
      (refine tz 1 ?_)
      (refine tz 2 ?_)
      (refine tkZ 3 (v := .pointer (some ⟨g3, o3 + m * 2, none⟩)) rfl (by assumption) (fun W hS => by clear hS; go_simp; first | done | rfl) ?_; (refine pts ?_))
      (refine tkZ 4 (v := .agg #[.int .i64 b, .int .u16 ya]) rfl (by assumption) (fun W hS => yk _ _ rfl _ _ rfl _ _ _ hS.2 (x7 ⟨b, ya⟩) HEP.out (by kernel_rfl)) ?_; (refine pts ?_))
      have HWE := zh (HB5.out.trans ((Below.refl w5.heap.size w5).drew.mono HB5.out.size))
      obtain ⟨wd2, hwd⟩ : ∃ wd, w5.drew = wd := ⟨_, rfl⟩
      rw [hwd] at HWE hHeld ⊢
      clear hwd hHeld
      have HAT := zh (rat_any I HI.out.ok (some ⟨gb, 0, none⟩) 3 (some ⟨gd, 0, none⟩) 3 none 0 0 ⟨b, ya⟩ HYO.out.2.1.2.1 HYO.out.2.1.2.2 _ (HVX.out.below HWE.out))
      refine yI 5 rfl (fun K hK => ?_)
      go_simp
      go_at_call 25
      (with_reducible refine HAT.out.mono ?_)
      rintro e6 w6 ⟨rfl, hb6⟩
      rw [HSZ.out]
      have HB6 := zh (HWE.out.trans (hb6.mono HWE.out.size))
      clear hb6
      go_simp
      refine hK.out _ _ (.inr ⟨za HB6.out HS3.out.1, za HB6.out HS3.out.2⟩) ?_
      (refine pts ?_)
      clear hK K
      have hHeld := And.intro (za HB6.out HS3.out.1) (za HB6.out HS3.out.2)
      (refine tkZ 6 (v := .agg #[.int .i64 (atI I ⟨(b : Int), ya⟩).1.op, .int .i64 (atI I ⟨(b : Int), ya⟩).1.d, .int .i64 (atI I ⟨(b : Int), ya⟩).1.s, .int .u16 (atI I ⟨(b : Int), ya⟩).1.imm, .int .u16 (atI I ⟨(b : Int), ya⟩).1.aux, .int .i64 (atI I ⟨(b : Int), ya⟩).1.bank, .int .i64 z]) rfl (by assumption) (fun W hS => by clear hS; first | kernel_rfl | (go_simp; first | done | rfl | kernel_rfl)) ?_; (refine pts ?_))
      (refine tkZ 7 (v := .int .i64 z) rfl (by assumption) (fun W hS => by clear hS; first | kernel_rfl | (go_simp; first | done | rfl | kernel_rfl)) ?_; (refine pts ?_))
      refine ys 8 ?_
      simp only [List.drop_succ_cons, List.drop_zero]
      clear hHeld HAT
      have hf6 := za HB6.out HF.out
      have hc6 := za HB6.out HC.out
      obtain ⟨bm, hbm⟩ : ∃ bm : Nat, b * 4096 = bm := ⟨_, rfl⟩
      obtain ⟨ix, hix⟩ : ∃ ix : Nat, bm + o = ix := ⟨_, rfl⟩
      have hidx : ix < nn := by have := HNN.out; omega
      have hcf : w6.cell? ⟨gfs, ix, none⟩ = some (.int .i64 (fstF (M.take m) ix)) := by rw [cell_of_row _ _ _ _ _ _ hf6]; exact rowV_get _ (by rw [HNN.out]; exact hidx)
      have hff := fun q => frozen_of_row w6 gfs q _ _ hf6
      have e1 : wrap64 ((b : Int) * 4096) = (bm : Int) := by unfold wrap64; omega
      have e2 : wrap64 ((bm : Int) + (o : Int)) = (ix : Int) := by unfold wrap64; omega
      have HIX := zh (And.intro hbm hix)
      clear hbm hix
      have HF6 := zh hf6
      have HC6 := zh hc6
      clear hf6 hc6
      have HB3x := zh hb3
      have HO4 := zh ho4
      have HEN := zh hend
      clear hb3 ho4 hend
      go_upto_region 24 with fail
      clear hcf hff hidx
      have hzb : z ≤ 4096 := by have h1 := HEN.out; omega
      have hne : gcv ≠ gfs := by have := HGN.out; omega
      have hf7 := heap_setCell_same HF6.out (i := ix) (.int .i64 1)
      have hc7 : (w6.setCell ⟨gfs, ix, none⟩ (.int .i64 1)).heap[gcv]? = some (.cells (rowI 12288 (cnt0 I (M.take m))) 3 (0, 0)) := by rw [heap_setCell_other hne]; exact HC6.out
      have hb7 : Below wq.heap.size wq (w6.setCell ⟨gfs, ix, none⟩ (.int .i64 1)) := (HBX.out.trans (HB6.out.mono HBX.out.size)).setCell (p := ⟨gfs, ix, none⟩) HZ.out _
      obtain ⟨w7, hw7⟩ : ∃ w7, w6.setCell ⟨gfs, ix, none⟩ (.int .i64 1) = w7 := ⟨_, rfl⟩
      rw [hw7] at hf7 hc7 hb7 ⊢
      have hfp := fst_putX (M := M.take m) (p := ⟨(b : Int), ya⟩) (b := b) (ix := ix) rfl (by rw [HO.out]; exact HO4.out) (by rw [HO.out, HIX.out.1]; exact HIX.out.2)
      rw [rowI_set, hfp, ← HTK.out] at hf7
      have HCV := zh (show CvL gcv gfs (cntF I (M.take m) ⟨(b : Int), ya⟩ 0) (fstF (M.take (m + 1))) w7 from ⟨by rw [cnt_start]; exact hc7, hf7⟩)
      have HB7 := zh hb7
      have hml : (M.take m).length ≤ 20000 := by have := HLN.out; rw [List.length_take]; omega
      have HML := zh hml
      clear hf7 hc7 hb7 hw7 hfp HF6 HC6 HC HF HS3 HS5 HB5 HB6 HWE HWD hml
      go_wp2_with fail
      go_loopw [20] (fun i wx => ∃ j : Nat, j ≤ z ∧ i = .int .i64 j ∧ Hid (CvL gcv gfs (cntF I (M.take m) ⟨(b : Int), ya⟩ j) (fstF (M.take (m + 1))) wx) ∧ Hid (Below wq.heap.size wq wx)) (fun i _ => z - (intOf i).toNat)
      case atStart => exact ⟨0, Nat.zero_le _, rfl, HCV, HB7⟩
      case round =>
       clear HCV HB7
       obtain ⟨j, hj, rfl, HCV, HBJ⟩ := hrel
       by_cases hjl : j < z
       ·obtain ⟨iy, hiy⟩ : ∃ iy : Nat, ix + j = iy := ⟨_, rfl⟩
        have hidj : iy < nn := by have h1 := HNN.out; have h2 := HIX.out; have h3 := HB3x.out; have h4 := HO4.out; have h5 := HEN.out; omega
        have e3 : wrap64 ((ix : Int) + (j : Int)) = (iy : Int) := by unfold wrap64; omega
        obtain ⟨v, hv⟩ : ∃ v, cntF I (M.take m) ⟨(b : Int), ya⟩ j iy = v := ⟨_, rfl⟩
        have hvb := cnt_bdF (I := I) (p := ⟨(b : Int), ya⟩) (j := j) (n := iy) HML.out
        rw [hv] at hvb
        have hcc : wr.cell? ⟨gcv, iy, none⟩ = some (.int .i64 v) := by rw [cell_of_row _ _ _ _ _ _ HCV.out.1, ← hv]; exact rowV_get _ (by rw [HNN.out]; exact hidj)
        have hfc := fun q => frozen_of_row wr gcv q _ _ HCV.out.1
        have HVV := zh hv
        have HJL := zh hjl
        have HIY := zh hiy
        clear hv hiy
        go_wp2_with fail
        clear hcc hfc e3
        have hc8 := heap_setCell_same HCV.out.1 (i := iy) (.int .i64 (v + 1))
        have hf8 : (wr.setCell ⟨gcv, iy, none⟩ (.int .i64 (v + 1))).heap[gfs]? = some (.cells (rowI 12288 (fstF (M.take (m + 1)))) 3 (0, 0)) := by rw [heap_setCell_other hne.symm]; exact HCV.out.2
        have hcp := cnt_putX (I := I) (M := M.take m) (p := ⟨(b : Int), ya⟩) (b := b) (ix := iy) rfl (j := j) (by rw [HO.out]; have h4 := HEN.out; have h5 := HJL.out; omega) (by rw [HO.out, HIX.out.1, HIX.out.2]; exact HIY.out)
        rw [HVV.out] at hcp
        rw [rowI_set, hcp] at hc8
        have HC9 := zh (show CvL gcv gfs (cntF I (M.take m) ⟨(b : Int), ya⟩ (j + 1)) (fstF (M.take (m + 1))) (wr.setCell ⟨gcv, iy, none⟩ (.int .i64 (v + 1))) from ⟨hc8, hf8⟩)
        have HB9 := zh (HBJ.out.setCell (p := ⟨gcv, iy, none⟩) HGC.out (.int .i64 (v + 1)))
        clear hc8 hf8 hcp
        go_roundw
        case rel => exact ⟨j + 1, HJL.out, by go_num, HC9, HB9⟩
        case measure => have h1 := HJL.out; simp [intOf]; omega
       ·obtain rfl : j = z := by omega
        have hm1 := HLT.out
        have hm2 := HLN.out
        have HC9 := zh (show CvL gcv gfs (cnt0 I (M.take (m + 1))) (fstF (M.take (m + 1))) wr by have h1 := HCV.out; rw [← HZI.out, cnt_end, ← HTK.out] at h1; exact h1)
        go_wp2_with fail
        go_roundw
        case rel => exact ⟨m + 1, HLT.out, by go_num, HC9, HBJ⟩
        case measure => have h1 := HLT.out; simp [intOf]; omega
     ·obtain rfl : m = M.length := by omega
      have HC := zh (show wr.heap[gcv]? = some (.cells (rowI 12288 (cnt0 I M)) 3 (0, 0)) by have h1 := HC.out; rwa [List.take_of_length_le (zn _)] at h1)
      have HF := zh (show wr.heap[gfs]? = some (.cells (rowI 12288 (fstF M)) 3 (0, 0)) by have h1 := HF.out; rwa [List.take_of_length_le (zn _)] at h1)
      have hbo := HBR.out.trans (HBX.out.mono HBR.out.size)
      obtain ⟨gs, hgs, hcr, hcg⟩ := (HCD.out.below hbo).rd
      obtain ⟨gc, oc, curc, Tc, fc, hAc, hgc, hcat⟩ := hcr.at_ (by have := HN3.out; omega)
      subst hAc
      obtain ⟨wy, rfl⟩ : ∃ wy : World, wy = wr := ⟨_, rfl⟩
      have HWY := zh (HWQ.out.below HBX.out)
      have HBY := zh (HBQ.out.trans (HBX.out.mono HBQ.out.size))
      have HGS := zh (And.intro hgs (And.intro hcg (And.intro hgc hcat)))
      have hkc := hcr.le
      clear hbo hgs hcr hcg hgc hcat
      go_wp2_with fail
      go_loopw [21] (fun i wx => ∃ k : Nat, k ≤ nn ∧ i = .int .i64 k ∧ Hid (Below wy.heap.size wy wx)) (fun i _ => nn - (intOf i).toNat)
      case atStart => exact ⟨0, Nat.zero_le _, rfl, zh (Below.refl _ _)⟩
      case round =>
       as_aux_lemma =>
        obtain ⟨k, hk, rfl, HB9⟩ := hrel
        by_cases hkl : k < nn
        ·obtain ⟨qb, hqb⟩ : ∃ qb, k / 4096 = qb := ⟨_, rfl⟩
         obtain ⟨qo, hqo⟩ : ∃ qo, k % 4096 = qo := ⟨_, rfl⟩
         have hk2 : k < 12288 := by rw [HNN.out]; exact hkl
         have hn3 := HN3.out
         have hqn : qb < I.banks.length := by omega
         obtain ⟨g, hg⟩ : ∃ g, gs[qb]? = some g := ⟨_, List.getElem?_eq_getElem (by rw [HGS.out.1]; exact hqn)⟩
         have hqo4 : qo < 4096 := by omega
         obtain ⟨fg, hgr⟩ := HGS.out.2.1 qb g hg
         have h1 : wr.cell? ⟨gc, oc + qb, none⟩ = some (.slice (some ⟨g, 0, none⟩) 4096 4096) := by
          rw [cell_of_row _ _ _ _ _ _ (za HB9.out HGS.out.2.2.1), HGS.out.2.2.2 qb (by rw [List.length_map]; have := HGS.out.1; omega), List.getElem?_map, hg]
          rfl
         obtain ⟨v, hv⟩ : ∃ v, c qb qo = v := ⟨_, rfl⟩
         obtain ⟨cv, hcv⟩ : ∃ cv, cnt0 I M k = cv := ⟨_, rfl⟩
         obtain ⟨fs, hfs⟩ : ∃ fs, fstF M k = fs := ⟨_, rfl⟩
         have h2 : wr.cell? ⟨g, qo, none⟩ = some (.int .u8 v) := by rw [cell_of_row _ _ _ _ _ _ (za HB9.out hgr), xK _ hqo4, hv]
         have h3 : wr.cell? ⟨gcv, k, none⟩ = some (.int .i64 cv) := by rw [cell_of_row _ _ _ _ _ _ (za HB9.out HC.out), ← hcv]; exact rowV_get _ hk2
         have h4 : wr.cell? ⟨gfs, k, none⟩ = some (.int .i64 fs) := by rw [cell_of_row _ _ _ _ _ _ (za HB9.out HF.out), ← hfs]; exact rowV_get _ hk2
         have hcl := fun o => cell_of_row wr gl o _ _ _ (HWY.out.below HB9.out).ls
         have hcase : (cv = 0 ∧ (v = 0 ∨ v = 4 ∨ v = 5)) ∨ (cv = 1 ∧ ((fs = 1 ∧ v = 1) ∨ (fs = 0 ∧ v = 2))) ∨ (2 ≤ cv ∧ v = 3) := by
          have h5 := cls_cases (I := I) (its := M) (fun p hp => sz_pos (HIT.out.2 p hp).1) qb qo
          have h6 : v = clOf I M qb qo := hv ▸ clsL_eq HCL.out hqn hqo4
          have h7 : cv = (yM I M qb qo : Int) := by rw [← hcv]; unfold cnt0; rw [hqb, hqo]
          have h8 : fs = if M.any (stA qb qo) then 1 else 0 := by rw [← hfs]; unfold fstF; rw [hqb, hqo]
          rw [h6, h7]
          rcases h5 with ⟨k1, k2⟩ | ⟨k1, ⟨k2, k3⟩ | ⟨k2, k3⟩⟩ | ⟨k1, k2⟩
          ·exact .inl ⟨by omega, k2⟩
          ·exact .inr (.inl ⟨by omega, .inl ⟨by rw [h8, k2]; rfl, k3⟩⟩)
          ·exact .inr (.inl ⟨by omega, .inr ⟨by rw [h8, k2]; rfl, k3⟩⟩)
          ·exact .inr (.inr ⟨by omega, k2⟩)
         have hwv : wrap64 v = v := by rcases hcase with ⟨-, h | h | h⟩ | ⟨-, ⟨-, h⟩ | ⟨-, h⟩⟩ | ⟨-, h⟩ <;> (rw [h]; unfold wrap64; omega)
         have hv0 : 0 ≤ v := by rcases hcase with ⟨-, h | h | h⟩ | ⟨-, ⟨-, h⟩ | ⟨-, h⟩⟩ | ⟨-, h⟩ <;> (rw [h]; decide)
         have hv5 : v ≤ 5 := by rcases hcase with ⟨-, h | h | h⟩ | ⟨-, ⟨-, h⟩ | ⟨-, h⟩⟩ | ⟨-, h⟩ <;> (rw [h]; decide)
         have HWV := zh hwv
         clear hwv
         have HCA := zh hcase
         clear hcase
         have e1 : Value.int .i64 (wrap64 ((k : Int).tdiv 4096)) = Value.int .i64 (qb : Int) := by
          rw [show (k : Int).tdiv 4096 = (qb : Int) by rw [Int.tdiv_eq_ediv_of_nonneg (by omega)]; omega]
          exact congrArg (Value.int .i64) (by unfold wrap64; omega)
         have e2 : Value.int .i64 (wrap64 ((k : Int).tmod 4096)) = Value.int .i64 (qo : Int) := by
          rw [show (k : Int).tmod 4096 = (qo : Int) by rw [Int.tmod_eq_emod_of_nonneg (by omega)]; omega]
          exact congrArg (Value.int .i64) (by unfold wrap64; omega)
         have e3 : Value.int .i64 ((k : Int) / 4096) = Value.int .i64 (qb : Int) := congrArg (Value.int .i64) (by omega)
         have e4 : Value.int .i64 ((k : Int) % 4096) = Value.int .i64 (qo : Int) := congrArg (Value.int .i64) (by omega)
         have HKL := zh hkl
         clear hn3 hqb hqo hg hgr hv hcv hfs
         go_upto_region 35 with fail
         clear hcl h1 h2 e1 e2 e3 e4 hv0 hv5
         try rw [HWV.out]
         clear HWV
         go_cut [24] (fun u wx => ∃ b24 : Bool, u = .bool b24 ∧ Hid (b24 = decide (cv = 1)) ∧ wx = wr)
         case first =>
          rcases HCA.out with ⟨rfl, -⟩ | ⟨rfl, ⟨rfl, rfl⟩ | ⟨rfl, rfl⟩⟩ | ⟨hc2, rfl⟩
          case inr.inr =>
           have hc3 : ¬ cv = 1 := by omega
           have hc6 : (cv == 1) = false := by simpa using hc3
           go_wp2_with fail
           go_meet
           exact ⟨_, rfl, zh (decide_eq_false hc3).symm, rfl⟩
          all_goals
           go_wp2_with fail
           go_meet
           exact ⟨_, rfl, zh rfl, rfl⟩
         case rest =>
          obtain ⟨b24, rfl, H24, hwc⟩ := hcut
          rw [hwc]
          clear hwc wc h4
          first | (go_cut [25] (fun u wx => ∃ b25 : Bool, u = .bool b25 ∧ Hid (b25 = decide (cv = 0)) ∧ wx = wr)) | (go_upto_region 36 with fail; go_cut [25] (fun u wx => ∃ b25 : Bool, u = .bool b25 ∧ Hid (b25 = decide (cv = 0)) ∧ wx = wr))
          case first =>
           rcases HCA.out with ⟨rfl, rfl | rfl | rfl⟩ | ⟨rfl, -⟩ | ⟨hc2, -⟩
           case inr.inr =>
            have hc4 : ¬ cv = 0 := by omega
            have hc7 : (cv == 0) = false := by simpa using hc4
            go_wp2_with fail
            go_meet
            exact ⟨_, rfl, zh (decide_eq_false hc4).symm, rfl⟩
           all_goals
            go_wp2_with fail
            go_meet
            exact ⟨_, rfl, zh rfl, rfl⟩
          case rest =>
           obtain ⟨b25, rfl, H25, hwc⟩ := hcut
           rw [hwc]
           clear hwc wc
           first | (go_cut [215] (fun u wx => u = .bool false ∧ wx = wr)) | (go_upto_region 37 with fail; go_cut [215] (fun u wx => u = .bool false ∧ wx = wr))
           case first =>
            rcases HCA.out with ⟨hc1, -⟩ | ⟨hc1, -⟩ | ⟨hc2, rfl⟩
            ·obtain rfl : b24 = false := H24.out.trans (decide_eq_false (by omega))
             obtain rfl : b25 = true := H25.out.trans (decide_eq_true hc1)
             clear hc1
             go_wp2_with fail
             go_meet
             exact ⟨rfl, rfl⟩
            ·obtain rfl : b24 = true := H24.out.trans (decide_eq_true hc1)
             clear hc1
             go_wp2_with fail
             go_meet
             exact ⟨rfl, rfl⟩
            ·obtain rfl : b24 = false := H24.out.trans (decide_eq_false (by omega))
             obtain rfl : b25 = false := H25.out.trans (decide_eq_false (by omega))
             have hc5 : (1 : Int) < cv := by omega
             go_wp2_with fail
             go_meet
             exact ⟨rfl, rfl⟩
           case rest =>
            obtain ⟨rfl, hwc⟩ := hcut
            rw [hwc]
            clear hwc wc h3
            go_wp2_with fail
            go_roundw
            case rel => exact ⟨k + 1, HKL.out, by go_num, HB9⟩
            case measure => have h1 := HKL.out; simp [intOf]; omega
        ·obtain rfl : k = nn := by omega
         go_wp2_with fail
         go_ret
         exact ⟨rfl, HBY.out.trans (HB9.out.mono HBY.out.size)⟩
end Go.Proofs.YteofmaiojepdkaaGreat
