/- The law LinkTables, walked. The conditions: the numbers lie in their types' ranges. (Printed by gen_lnd.py.) -/
import Derived.Test.YthebmoggbgldmaaLaLmM
import Derived.Test.YthebmoggbgldmaaLaLmS
import Derived.Test.YthebmoggbgldmaaLaRFldB
import Derived.Test.YthebmoggbgldmaaLaLnA
set_option linter.all false
namespace Go.Proofs.Ythebmoggbgldmaa
open Go Go.RowKit Go.Maps
noncomputable def lnsTo (E : zL) : Nat → List Int
 | 0 => []
 | k + 1 => lnsTo E k ++ [E.off k]
theorem lnsTo_len (E : zL) : ∀ k, (lnsTo E k).length = k
 | 0 => rfl
 | k + 1 => by show (lnsTo E k ++ [_]).length = _; rw [List.length_append, lnsTo_len E k]; rfl
theorem lnsTo_get (E : zL) : ∀ (k j : Nat), j < k → (lnsTo E k)[j]? = some (E.off j)
 | 0, j, h => by omega
 | k + 1, j, h => by
  show (lnsTo E k ++ [_])[j]? = _
  have hl := lnsTo_len E k
  by_cases hj : j < k
  ·rw [List.getElem?_append_left (by omega)]
   exact lnsTo_get E k j hj
  ·have : j = k := by omega
   subst this
   rw [List.getElem?_append_right (by omega), hl, Nat.sub_self]
   rfl
theorem tabs_same (E : zL) {j : Nat} (hj : j < E.ls.length) (ht : E.ls[j].tab.length = 0) : (E.tabsTo (j + 1)).length = (E.tabsTo j).length := by
 rw [x6 E hj, List.length_append]
 have := tabB_len E E.ls[j]
 omega
set_option maxRecDepth 100000 in
set_option maxHeartbeats 4000000 in
theorem linktables_any (lo : Option Addr) (ll lcap : Nat) (Q : Nat → Nat → Int) (hQ : ∀ i j, zX (Q i j)) (hll : ll < 9223372036854775808) (bank addr : Int) (hb : zX bank) (ha : zX addr) (w : World) (hS : SixV w (.slice lo ll lcap) ll Q) :
  Calls Try.prog 6 #[.slice lo ll lcap, .int .i64 bank, .int .i64 addr] w fun e w' => e = .returned (.bool true) ∧ Below w.heap.size w w' := by
 have HSN := zh (fun W => sanity_any W)
 have HMD := zh (show ∀ W, Below w.heap.size w W → Calls Try.prog 10 #[.slice lo ll lcap, .int .i64 0, .int .i64 0] W (MdPost (min ll 120) 0 0 W) from fun W hb => made19_any lo ll lcap 0 0 (min ll 120) Q hQ rfl (by omega) (by omega) (by omega) W (hS.below hb))
 obtain ⟨bk, hbk⟩ : ∃ z, bank % 64 = z := ⟨_, rfl⟩
 obtain ⟨aa, haa⟩ : ∃ z, addr % 2000 = z := ⟨_, rfl⟩
 have hbk0 : 0 ≤ bk ∧ bk < 64 := by omega
 have haa0 : 0 ≤ aa ∧ aa < 2000 := by omega
 have HMB := zh (fun W => by have := jk bank 64 hb (by omega) (by omega) W; rw [hbk] at this; exact this)
 have HMA := zh (fun W => by have := jk addr 2000 ha (by omega) (by omega) W; rw [haa] at this; exact this)
 have hw1 : IntKind.u16.wrap aa = aa := IntWalk.u16_in _ (by omega)
 have hw2 : IntKind.u16.wrap (4096 + aa) = 4096 + aa := IntWalk.u16_in _ (by omega)
 clear hQ hb ha hS hbk haa
 go_enter Try.func6, Try.ntmps6
 go_upto_region 2 with (go_at_call 7; refine (HSN.out _).mono ?_; rintro e w1 ⟨rfl, hb1⟩)
 have HB1 := zh hb1
 clear hb1
 go_upto_region 3 with (first | (go_at_call 10; refine (HMD.out _ HB1.out).mono ?_; rintro e w2 ⟨ls, nm, ao, cap, rfl, hlen, hmade, hcap, hLv, hb2⟩; have HLEN := zh hlen; clear hlen) | (refine wpList_store_row rfl _ _ _ rfl _ _ rfl rfl _ _ (heap_alloc_new _ _) ?_ ?_ ?_ ?_; kernel_rfl; rfl; kernel_rfl; rw [World.setRow_alloc_new]))
 go_upto_region 4 with (first | (go_at_call 11; refine (HMB.out _).mono ?_; rintro e wz ⟨rfl, rfl⟩) | (go_at_call 11; refine (HMA.out _).mono ?_; rintro e wz ⟨rfl, rfl⟩) | (refine wpList_store_row rfl _ _ _ rfl _ _ rfl rfl _ _ (heap_alloc_new _ _) ?_ ?_ ?_ ?_; kernel_rfl; rfl; kernel_rfl; rw [World.setRow_alloc_new]))
 try simp only [hw1, hw2]
 clear hw1 hw2
 obtain ⟨h8, h9⟩ := yy w2 (.cells #[.string nm, .slice ao ls.length cap] 32) (.cells #[.int .i64 bk, .int .u16 (4096 + aa)] 37)
 have hbb : Below w2.heap.size w2 ((w2.alloc (.cells #[.string nm, .slice ao ls.length cap] 32)).alloc (.cells #[.int .i64 bk, .int .u16 (4096 + aa)] 37)) := ((Below.refl _ _).alloc (zn _) _).alloc (by simp) _
 obtain ⟨wb, hwb⟩ : ∃ W : World, (w2.alloc (.cells #[.string nm, .slice ao ls.length cap] 32)).alloc (.cells #[.int .i64 bk, .int .u16 (4096 + aa)] 37) = W := ⟨_, rfl⟩
 rw [hwb] at h8 h9 hbb ⊢
 obtain ⟨g8, hg8⟩ : ∃ g : Nat, w2.heap.size = g := ⟨_, rfl⟩
 obtain ⟨g9, hg9⟩ : ∃ g : Nat, w2.heap.size + 1 = g := ⟨_, rfl⟩
 rw [hg9] at h9
 try rw [hg9]
 rw [hg8] at h8
 try rw [hg8]
 have hmd2 : ∀ (i : Nat) (l : zu), ls[i]? = some l → MadeOk ls.length 0 0 i l := by rw [HLEN.out]; exact hmade
 have hls := made_lines hmd2 (by rw [HLEN.out]; omega)
 have hck := made_chunk hmd2
 obtain ⟨E, hE⟩ : ∃ E : zL, E = ⟨ls, ⟨bk, 4096 + aa⟩, [], []⟩ := ⟨_, rfl⟩
 have hE1 : E.ls = ls := by rw [hE]
 have hE2 : E.pl = ⟨bk, 4096 + aa⟩ := by rw [hE]
 have hE3 : E.funcs = [] := by rw [hE]
 have hE4 : E.data = [] := by rw [hE]
 have hnum : E.Num := ⟨by rw [hE1]; exact hls, by rw [hE2]; exact ⟨by show 0 ≤ 4096 + aa; omega, by show 4096 + aa < 65536; omega, by show -9223372036854775808 ≤ bk; omega, by show bk ≤ 9223372036854775807; omega⟩, (by rw [hE3]; intro p hp; cases hp), (by rw [hE4]; intro p hp; cases hp), by rw [hE3]; decide, by rw [hE4]; decide⟩
 have hmde : MdE E := ⟨hnum.ok (by rw [hE1, hE3, hE4]; exact hck), by rw [hE1]; exact hck, by rw [hE1]; exact hmd2, hE3, hE4, by rw [hE2]; show 4096 ≤ 4096 + aa; omega, by rw [hE2]; show 4096 + aa < 6096; omega, by rw [hE2]; exact hbk0⟩
 have HME := zh hmde
 have HLV := zh (hLv.below hbb)
 have HAS := zh (show ∀ W, yJ W (.slice ao ls.length cap) ls → Calls Try.prog 13 #[.agg #[.string nm, .slice ao ls.length cap], .agg #[.int .i64 bk, .int .u16 (4096 + aa)], .slice none 0 0, .slice none 0 0] W (AsPost E W) from fun W hL => by
  have := xv E hnum nm ao none none cap 0 0 W (by rw [hE1]; exact hL) (by rw [hE3]; exact nilP W) (by rw [hE4]; exact nilO W)
  rw [hE1, hE2, hE3, hE4] at this
  exact this)
 have H8 := zh h8
 have H9 := zh h9
 have HBB := zh (HB1.out.trans ((hb2.mono HB1.out.size).trans (hbb.mono (Nat.le_trans HB1.out.size hb2.size))))
 clear h8 h9 hbb hwb hg8 hg9 hb2 hLv hmade hmd2 hls hck hnum hmde hE4 hE3 HB1 HMD HMB HMA hcap
 go_upto_region 5 with (first | (refine zs _ _ rfl _ rfl _ _ _ (H8.out) ?_ ?_ ?_; kernel_rfl; kernel_rfl) | (refine zs _ _ rfl _ rfl _ _ _ (H9.out) ?_ ?_ ?_; kernel_rfl; kernel_rfl) | (go_at_call 13; refine (HAS.out _ HLV.out).mono ?_; rintro e w4 ⟨s, pv, ps, er, rfl, hown, hb4, hans⟩))
 have HL4 := zh (HLV.out.below hb4)
 have H84 := zh (zf hb4 H8.out)
 have H94 := zh (zf hb4 H9.out)
 have HB4 := zh (HBB.out.trans (hb4.mono HBB.out.size))
 clear hb4 hown H8 H9 HBB HLV HAS
 rcases hans with ⟨hr, -⟩ | ⟨-, hfit, rfl, rfl, rfl⟩ | ⟨-, hfit, rfl, rfl, rfl⟩
 ·exact absurd HME.out.right hr
 ·go_wp2_with fail
  go_ret
  exact ⟨rfl, HB4.out⟩
 ·obtain ⟨sc, hsc⟩ : ∃ s : ByteArray, zO E.code = s := ⟨_, rfl⟩
  rw [hsc]
  have HSC := zh hsc
  have HSZ := zh (show sc.size = E.code.length by rw [← hsc]; exact yo _)
  have HFT := zh hfit
  have HEE := zh (And.intro hE1 hE2)
  have HLN := zh (show ls.length ≤ 120 by have := HLEN.out; omega)
  have HC4 := zh (show E.code.length ≤ 4096 by
   have := hfit
   unfold zL.fits at this
   have := of_decide_eq_true this
   have h5 := HME.out.lo
   omega)
  clear hsc hfit hE1 hE2 HSN hE
  go_wp2_with fail
  go_loopw [13, 14, 15] (fun lv ov i wr => ∃ k : Nat, k ≤ ls.length ∧ i = .int .i64 k ∧ ov = .int .i64 (E.off k) ∧ Hid (wr.ownsRow w4.heap.size 3 1 lv (lnsTo E k).length ((lnsTo E k).map (Value.int .i64))) ∧ Hid (Below w4.heap.size w4 wr)) (fun _ _ i _ => ls.length - (intOf i).toNat)
  case atStart => exact ⟨0, Nat.zero_le _, rfl, rfl, zh ⟨rfl, .inl ⟨rfl, rfl⟩⟩, zh (Below.refl _ _)⟩
  case round =>
   obtain ⟨k, hk, rfl, rfl, HAV, HBW⟩ := hrel
   have c81 := cell_of_row wr g8 1 _ _ _ (zf HBW.out H84.out)
   have hk120 : (k : Int) < 1000 := by have := HLN.out; omega
   by_cases hkn : k < ls.length
   ·have hkE : k < E.ls.length := by rw [HEE.out.1]; exact hkn
    have hst := HME.out.step hkE
    have hwin := HME.out.win HFT.out hkE
    have hmo := HME.out.mono (show k + 1 ≤ E.ls.length by omega) (zn _)
    have hln := HME.out.len
    have hss := HSZ.out
    have hc4 := HC4.out
    obtain ⟨o, ho⟩ := Int.eq_ofNat_of_zero_le hwin.1
    have ho' : E.off k = (o : Int) := ho
    have hoN : o ≤ sc.size := by omega
    have hoI3 : (o : Int) ≤ (sc.size : Int) := by omega
    have hmin : min (o : Int) (sc.size : Int) = (o : Int) := by omega
    obtain ⟨x, hx⟩ : ∃ x, insAt E k = x := ⟨_, rfl⟩
    have hxl : x.size = E.off (k + 1) - E.off k := by rw [← hx, jI hkE]; exact (HME.out.line hkE).2.1
    have HDC := zh (show ∀ W, Calls Try.prog 17 #[.string (sc.extract o sc.size)] W fun e w' => e = .returned (.tuple #[.agg #[.int .i64 x.op, .int .i64 x.d, .int .i64 x.s, .int .u16 x.imm, .int .u16 x.aux, .int .i64 x.bank, .int .i64 x.size], .int .i64 0]) ∧ Below W.heap.size W w' from fun W => by
     have hd := HME.out.dec hkE
     have hse : sc.extract o sc.size = zO (E.code.drop o) := by rw [← HSC.out]; exact strOf_drop _ _
     have := rdecode_any (sc.extract o sc.size) (by rw [hse, yo, List.length_drop]; omega) W
     rw [hse, show o = (E.off k).toNat by omega, hd.1, hd.2, ← jI hkE, hx] at this
     rw [hse, show o = (E.off k).toNat by omega]
     exact this)
    have HNX := zh (show IntKind.i64.wrap ((o : Int) + x.size) = E.off (k + 1) by rw [hxl, ho', show (o : Int) + (E.off (k + 1) - o) = E.off (k + 1) by omega]; exact IntWalk.i64_in _ (by omega))
    have HLT := zh (show lnsTo E (k + 1) = lnsTo E k ++ [(o : Int)] by show lnsTo E k ++ [E.off k] = _; rw [ho'])
    have ho4 : (o : Int) < 4097 := by omega
    rw [ho']
    have HZL := zh (show (lnsTo E k).length ≤ 1000000 by rw [lnsTo_len]; have := HLN.out; omega)
    have hb1 := (Below.refl wr.heap.size wr).alloc (zn _) (.cells #[.int .i64 (o : Int)] 3)
    have HAV1 := zh (zZ HAV.out (zN.ofBelow (bs := fun _ => False) hb1) fun _ _ h => h)
    have HG1 := zh (heap_alloc_new wr (.cells #[.int .i64 (o : Int)] 3))
    have HB1 := zh (HBW.out.trans (hb1.mono HBW.out.size))
    clear hst hwin hmo hln hss ho ho' hxl hx hkE hb1 hc4
    go_upto_region 13 with (at_builtin; refine yK rfl _ _ rfl w4.heap.size HB1.out.size _ (lnsTo E k) (by rfl) HAV1.out HZL.out wr.heap.size (o : Int) rfl HG1.out ?_; intro ga cp6 w6 ho6 hg6 hk6; have HAV6 := zh ho6; have HB6 := zh (rowS_below HB1.out HB1.out.size HAV1.out hg6); clear ho6 hg6 hk6)
    go_upto_region 14 with (first | (go_at_call 17; refine (HDC.out _).mono ?_; rintro e w5 ⟨rfl, hb5⟩) | (refine wpList_store_row rfl _ _ _ rfl _ _ rfl rfl _ _ (heap_alloc_new _ _) ?_ ?_ ?_ ?_; kernel_rfl; rfl; kernel_rfl; rw [World.setRow_alloc_new]))
    have h16 := heap_alloc_new w5 (.cells #[.int .i64 x.op, .int .i64 x.d, .int .i64 x.s, .int .u16 x.imm, .int .u16 x.aux, .int .i64 x.bank, .int .i64 x.size] 53)
    have hb6 : Below w6.heap.size w6 (w5.alloc (.cells #[.int .i64 x.op, .int .i64 x.d, .int .i64 x.s, .int .u16 x.imm, .int .u16 x.aux, .int .i64 x.bank, .int .i64 x.size] 53)) := hb5.alloc hb5.size _
    obtain ⟨wd, hwd⟩ : ∃ W : World, w5.alloc (.cells #[.int .i64 x.op, .int .i64 x.d, .int .i64 x.s, .int .u16 x.imm, .int .u16 x.aux, .int .i64 x.bank, .int .i64 x.size] 53) = W := ⟨_, rfl⟩
    rw [hwd] at h16 hb6 ⊢
    obtain ⟨g16, hg16⟩ : ∃ g : Nat, w5.heap.size = g := ⟨_, rfl⟩
    rw [hg16] at h16
    try rw [hg16]
    have c166 := cell_of_row wd g16 6 _ _ _ h16
    have HBX := zh (HB6.out.trans (hb6.mono HB6.out.size))
    have HAVX := zh (show wd.ownsRow w4.heap.size 3 1 (.slice (some ⟨ga, 0, none⟩) ((lnsTo E k).length + 1) cp6) (lnsTo E (k + 1)).length ((lnsTo E (k + 1)).map (Value.int .i64)) by rw [HLT.out]; exact zZ HAV6.out (zN.ofBelow (bs := fun _ => False) hb6) fun _ _ h => h)
    clear hwd hg16 h16 hb5 hb6 HAV HDC HB1 HG1 HAV1 HAV6 HB6
    have hnx := HNX.out
    go_wp2_with fail
    go_roundw
    case rel => exact ⟨k + 1, by omega, by go_num, rfl, HAVX, HBX⟩
    case measure => simp [intOf]; omega
   ·have hkk : k = ls.length := by omega
    subst hkk
    obtain ⟨wo, rfl⟩ : ∃ wo : World, wo = wr := ⟨_, rfl⟩
    obtain ⟨a13, c13, rfl, -⟩ := xV HAV.out
    have hN0 : 0 ≤ E.off ls.length := by have := (HME.out.ok.off (show ls.length ≤ E.ls.length by rw [HEE.out.1]; omega)).1; exact this
    obtain ⟨oN, hoN'⟩ := Int.eq_ofNat_of_zero_le hN0
    have hoN : E.off ls.length = (oN : Int) := hoN'
    rw [hoN]
    have HON := zh hoN
    have HTT := zh (show (E.code.length : Int) = oN + (E.tabsTo ls.length).length by have := HME.out.len; rw [HEE.out.1, hoN] at this; exact this)
    clear hkn hN0 hoN' hoN
    go_wp2_with fail
    clear c81
    go_loopw [14, 18] (fun ov i wr => ∃ j : Nat, j ≤ ls.length ∧ i = .int .i64 j ∧ ov = .int .i64 ((oN + (E.tabsTo j).length : Nat) : Int) ∧ Hid (Below wo.heap.size wo wr)) (fun _ i _ => ls.length - (intOf i).toNat)
    case atStart => exact ⟨0, Nat.zero_le _, rfl, rfl, zh (Below.refl _ _)⟩
    case round =>
     obtain ⟨j, hj, rfl, rfl, HBJ⟩ := hrel
     have hj120 : (j : Int) < 1000 := by have := HLN.out; omega
     have H8J := zh (zf HBJ.out (zf HBW.out H84.out))
     have H9J := zh (zf HBJ.out (zf HBW.out H94.out))
     have c81 := cell_of_row wr g8 1 _ _ _ H8J.out
     by_cases hjn : j < ls.length
     ·have hjE : j < E.ls.length := by rw [HEE.out.1]; exact hjn
      have hji : (j : Int) < (ls.length : Int) := by omega
      obtain ⟨l, hl⟩ : ∃ l, ls[j]? = some l := ⟨_, List.getElem?_eq_getElem hjn⟩
      have hlE : E.ls[j] = l := by
       have h9 : E.ls[j]? = some l := by rw [HEE.out.1]; exact hl
       rw [List.getElem?_eq_getElem hjE] at h9
       exact Option.some.inj h9
      obtain ⟨q, off, c, T', fr', tv, hao, hq, hrow, hI⟩ := HL4.out.at hl
      subst hao
      obtain ⟨ta, tcp, rfl, -⟩ := id hI
      have HQ := zh (zf HBJ.out (zf HBW.out hq))
      have cop : wr.cell? ⟨q, off + j * 12 + 11, none⟩ = some (.slice ta l.tab.length tcp) := by
       rw [cell_of_row wr q _ _ _ _ HQ.out]
       exact jq hrow (by omega)
      obtain ⟨tn, htn⟩ : ∃ t : Nat, oN + (E.tabsTo j).length = t := ⟨_, rfl⟩
      rw [htn]
      go_upto_region 21 with fail
      clear cop
      by_cases ht : l.tab.length = 0
      ·have hsame := tabs_same E hjE (by rw [hlE]; exact ht)
       have ht0 : ((l.tab.length : Int) == 0) = true := by simp [ht]
       go_wp2_with fail
       go_roundw
       case rel => exact ⟨j + 1, by omega, by go_num, by rw [hsame, htn], HBJ⟩
       case measure => simp [intOf]; omega
      ·have ht0 : ((l.tab.length : Int) == 0) = false := by rw [beq_eq_false_iff_ne]; omega
       obtain ⟨-, hbank, haux, htl2, hble, hent⟩ := HME.out.tab HFT.out hjE (by rw [hlE]; omega)
       rw [hlE] at hbank htl2 hent
       have hpa : E.pl.addr = 4096 + aa := by rw [HEE.out.2]
       have hONE : E.off E.ls.length = (oN : Int) := by rw [HEE.out.1]; exact HON.out
       obtain ⟨x, hx⟩ : ∃ x, insAt E j = x := ⟨_, rfl⟩
       rw [← hlE, ← jI hjE, hx] at hbank
       rw [hlE] at hbank
       rw [← jI hjE, hx, hpa, hONE] at haux
       rw [hONE] at hble hent
       have hxa : x.aux = 4096 + aa + (tn : Int) := by rw [haux]; omega
       have hsz := HSZ.out
       have hc4 := HC4.out
       have hle : tn + 2 * l.tab.length ≤ sc.size := by omega
       have hT1 := HTT.out
       have hw := HME.out.win HFT.out hjE
       obtain ⟨oj, hoj'⟩ := Int.eq_ofNat_of_zero_le hw.1
       have hoj : E.off j = (oj : Int) := hoj'
       have hmo := HME.out.mono (show j ≤ E.ls.length by omega) (zn _)
       have hojs : oj ≤ sc.size := by
        have := HME.out.len
        omega
       have hojI : (oj : Int) ≤ (sc.size : Int) := by omega
       have hmin : min (oj : Int) (sc.size : Int) = (oj : Int) := by omega
       have HDC := zh (show ∀ W, Calls Try.prog 17 #[.string (sc.extract oj sc.size)] W fun e w' => e = .returned (.tuple #[.agg #[.int .i64 x.op, .int .i64 x.d, .int .i64 x.s, .int .u16 x.imm, .int .u16 x.aux, .int .i64 x.bank, .int .i64 x.size], .int .i64 0]) ∧ Below W.heap.size W w' from fun W => by
        have hd := HME.out.dec hjE
        have hse : sc.extract oj sc.size = zO (E.code.drop oj) := by rw [← HSC.out]; exact strOf_drop _ _
        have := rdecode_any (sc.extract oj sc.size) (by rw [hse, yo, List.length_drop]; omega) W
        rw [hse, show oj = (E.off j).toNat by omega, hd.1, hd.2, ← jI hjE, hx] at this
        rw [hse, show oj = (E.off j).toNat by omega]
        exact this)
       obtain ⟨gL, cpL, curL, hei, hBL, hncL, hgL, hcL, -⟩ := own_block HAV.out (by rw [lnsTo_len]; omega)
       simp only [Value.slice.injEq] at hei
       obtain ⟨rfl, -, rfl⟩ := hei
       have hcur : ∀ d, d < ls.length → curL[d]? = some (.int .i64 (E.off d)) := fun d hd => by
        rw [hcL d (by rw [lnsTo_len]; omega), List.getElem?_map, lnsTo_get E _ d hd]; rfl
       have HCUR := zh hcur
       have HGL := zh (zf HBJ.out hgL)
       have c13 : wr.cell? ⟨gL, j, none⟩ = some (.int .i64 (oj : Int)) := by
        rw [cell_of_row wr gL _ _ _ _ HGL.out, hcur j hjn, hoj]
       have hjL : (j : Int) < ((lnsTo E ls.length).length : Int) := by rw [lnsTo_len]; omega
       have HENT := zh (show ∀ (m : Nat) (t : Int), l.tab[m]? = some t → ∃ d od b0 b1 : Nat, t = d ∧ d < ls.length ∧ E.off d = (od : Int) ∧ od < 4097 ∧ b0 < 256 ∧ b1 < 256 ∧ (b0 : Int) + 256 * b1 = 4096 + aa + od ∧ (∀ W, (Instr.index 9 (.string sc) (.int .i64 ((tn + 2 * m : Nat) : Int))).run Try.prog W = .ok (.int .u8 (b0 : Int)) W) ∧ (∀ W, (Instr.index 9 (.string sc) (.int .i64 ((tn + 2 * m + 1 : Nat) : Int))).run Try.prog W = .ok (.int .u8 (b1 : Int)) W) from fun m t hm => by
        obtain ⟨d, rfl, hd, h0, h1⟩ := hent m t hm
        have hml := (List.getElem?_eq_some_iff.1 hm).1
        have hwd := HME.out.win HFT.out hd
        obtain ⟨od, hod'⟩ := Int.eq_ofNat_of_zero_le hwd.1
        have hod : E.off d = (od : Int) := hod'
        rw [hpa, hod] at h0 h1
        rw [show (oN : Int).toNat = oN from rfl, htn] at h0 h1
        rw [hpa] at hwd
        have hA : 0 ≤ 4096 + aa + (od : Int) ∧ 4096 + aa + (od : Int) < 8192 := by omega
        refine ⟨d, od, ((4096 + aa + (od : Int)) % 256).toNat, ((4096 + aa + (od : Int)) / 256).toNat, rfl, by rw [← HEE.out.1]; exact hd, hod, by omega, by omega, by omega, by omega, fun W => ?_, fun W => ?_⟩
        ·have h9 := zS sc (tn + 2 * m) (by omega) W
         rw [show byt sc (tn + 2 * m) = (4096 + aa + (od : Int)) % 256 by rw [← HSC.out]; exact byt_in _ _ _ h0 (by omega) (by omega)] at h9
         rw [Int.toNat_of_nonneg (by omega)]
         exact h9
        ·have h9 := zS sc (tn + 2 * m + 1) (by omega) W
         rw [show byt sc (tn + 2 * m + 1) = (4096 + aa + (od : Int)) / 256 by rw [← HSC.out]; exact byt_in _ _ _ h1 (by omega) (by omega)] at h9
         rw [Int.toNat_of_nonneg (by omega)]
         exact h9)
       have hbd : (tn : Int) + 2 * (l.tab.length : Int) ≤ (sc.size : Int) := by omega
       have HTL2 := zh (show oN + (E.tabsTo (j + 1)).length = tn + 2 * l.tab.length by omega)
       have HITV := zh ((hI.below HBW.out).below HBJ.out)
       have hl9 : l.tab.length ≤ 4096 := by omega
       have htn9 : tn ≤ 4096 := by omega
       have HBK := zh hbank
       have HXA := zh hxa
       have HTN := zh htn
       clear hent htl2 hble hcur hmo hoj hoj' hw hT1 hc4 hrow hI hq hgL hcL hBL hncL hbank haux hxa hx hpa hONE hlE htn hsz hle hojs hl
       go_upto_region 23 with (first | (go_at_call 17; refine (HDC.out _).mono ?_; rintro e w5 ⟨rfl, hb5⟩) | (refine wpList_store_row rfl _ _ _ rfl _ _ rfl rfl _ _ (heap_alloc_new _ _) ?_ ?_ ?_ ?_; kernel_rfl; rfl; kernel_rfl; rw [World.setRow_alloc_new]))
       have h20 := heap_alloc_new w5 (.cells #[.int .i64 x.op, .int .i64 x.d, .int .i64 x.s, .int .u16 x.imm, .int .u16 x.aux, .int .i64 x.bank, .int .i64 x.size] 53)
       have hb6 : Below wr.heap.size wr (w5.alloc (.cells #[.int .i64 x.op, .int .i64 x.d, .int .i64 x.s, .int .u16 x.imm, .int .u16 x.aux, .int .i64 x.bank, .int .i64 x.size] 53)) := hb5.alloc hb5.size _
       obtain ⟨wd, hwd⟩ : ∃ W : World, w5.alloc (.cells #[.int .i64 x.op, .int .i64 x.d, .int .i64 x.s, .int .u16 x.imm, .int .u16 x.aux, .int .i64 x.bank, .int .i64 x.size] 53) = W := ⟨_, rfl⟩
       rw [hwd] at h20 hb6 ⊢
       obtain ⟨g20, hg20⟩ : ∃ g : Nat, w5.heap.size = g := ⟨_, rfl⟩
       rw [hg20] at h20
       try rw [hg20]
       have c205 : wd.cell? ⟨g20, 5, none⟩ = some (.int .i64 (l.tab.length : Int)) := by rw [cell_of_row wd g20 5 _ _ _ h20, ← HBK.out]; rfl
       have c204 : wd.cell? ⟨g20, 4, none⟩ = some (.int .u16 (4096 + aa + (tn : Int))) := by rw [cell_of_row wd g20 4 _ _ _ h20, ← HXA.out]; rfl
       have H9D := zh (zf hb6 H9J.out)
       have c91 := cell_of_row wd g9 1 _ _ _ H9D.out
       have HBD := zh (HBJ.out.trans (hb6.mono HBJ.out.size))
       have HQD := zh (zf hb6 HQ.out)
       have HGLD := zh (zf hb6 HGL.out)
       have HTVD := zh (HITV.out.below hb6)
       clear hwd hg20 h20 hb5 hb6 HDC c13 c81 HQ HGL HITV hmin hojI hjL
       go_upto_if 129 with fail
       clear c205 c204 c91
       obtain ⟨wq, rfl⟩ : ∃ wq : World, wq = wr := ⟨_, rfl⟩
       go_wp2_with fail
       go_loopw [22] (fun i wr => ∃ m : Nat, m ≤ l.tab.length ∧ i = .int .i64 m ∧ Hid (Below wd.heap.size wd wr)) (fun i _ => l.tab.length - (intOf i).toNat)
       case atStart => exact ⟨0, Nat.zero_le _, rfl, zh (Below.refl _ _)⟩
       case round =>
        obtain ⟨m, hm, rfl, HBM⟩ := hrel
        by_cases hml : m < l.tab.length
        ·have hmi : (m : Int) < (l.tab.length : Int) := by omega
         obtain ⟨t, htm⟩ : ∃ t, l.tab[m]? = some t := ⟨_, List.getElem?_eq_getElem hml⟩
         obtain ⟨d, od, b0, b1, hd, hdl, hod, hod4, hb0, hb1, hbb, ix0, ix1⟩ := HENT.out m t htm
         obtain ⟨q2, off2, c2, T2, fr2, hta, hq2, hc2⟩ := HTVD.out.at htm
         subst hta
         have HQ2 := zh (zf HBM.out hq2)
         have HC2 := zh (show c2[off2 + m]? = some (.int .i64 (d : Int)) by rw [hc2, hd])
         have HGLM := zh (zf HBM.out HGLD.out)
         have HOD := zh (show curL[d]? = some (.int .i64 (od : Int)) by rw [HCUR.out d hdl, hod])
         have H9M := zh (zf HBM.out H9D.out)
         have hdI : (d : Int) < ((lnsTo E ls.length).length : Int) := by rw [lnsTo_len]; omega
         have HW1 := zh (show IntKind.i64.wrap (2 * (m : Int)) = ((2 * m : Nat) : Int) by rw [show 2 * (m : Int) = ((2 * m : Nat) : Int) by omega]; exact IntWalk.i64_in _ (by omega))
         have HW2 := zh (show IntKind.i64.wrap ((tn : Int) + ((2 * m : Nat) : Int)) = ((tn + 2 * m : Nat) : Int) by rw [show (tn : Int) + ((2 * m : Nat) : Int) = ((tn + 2 * m : Nat) : Int) by omega]; exact IntWalk.i64_in _ (by omega))
         have HW3 := zh (show IntKind.i64.wrap (((tn + 2 * m : Nat) : Int) + 1) = ((tn + 2 * m + 1 : Nat) : Int) by rw [show ((tn + 2 * m : Nat) : Int) + 1 = ((tn + 2 * m + 1 : Nat) : Int) by omega]; exact IntWalk.i64_in _ (by omega))
         have HW4 := zh (show IntKind.i64.wrap (b0 : Int) = (b0 : Int) from IntWalk.i64_in _ (by omega))
         have HW5 := zh (show IntKind.i64.wrap (b1 : Int) = (b1 : Int) from IntWalk.i64_in _ (by omega))
         have HW6 := zh (show IntKind.i64.wrap (256 * (b1 : Int)) = 256 * (b1 : Int) from IntWalk.i64_in _ (by omega))
         have HW7 := zh (show IntKind.i64.wrap ((b0 : Int) + 256 * (b1 : Int)) = 4096 + aa + (od : Int) by rw [hbb]; exact IntWalk.i64_in _ (by omega))
         have HW8 := zh (show IntKind.i64.wrap (4096 + aa) = 4096 + aa from IntWalk.i64_in _ (by omega))
         have HW9 := zh (show IntKind.i64.wrap (4096 + aa + (od : Int)) = 4096 + aa + (od : Int) from IntWalk.i64_in _ (by omega))
         obtain ⟨p0, hp0⟩ : ∃ p : Nat, tn + 2 * m = p := ⟨_, rfl⟩
         obtain ⟨m2, hm2⟩ : ∃ p : Nat, 2 * m = p := ⟨_, rfl⟩
         have HX0 := zh ix0
         have HX1 := zh ix1
         rw [hp0] at HW2 HW3 HX0 HX1
         rw [hm2] at HW1 HW2
         clear hd hdl hod hq2 hc2 hbb ix0 ix1 htm hp0 hm2
         go_upto_region 28 with fail
         refine ye [] 17 (z5 [isV (.string sc), isV (.int .i64 tn), isV (.int .i64 m), isV (.int .i64 ((m2 : Int))), isV (.int .i64 ((p0 : Int))), isV (.int .u8 (b0 : Int)), isV (.int .i64 ((b0 : Int))), isV (.string sc), isV (.int .i64 tn), isV (.int .i64 m), isV (.int .i64 ((m2 : Int))), isV (.int .i64 ((p0 : Int))), isV (.int .i64 (((p0 + 1 : Nat) : Int))), isV (.int .u8 (b1 : Int)), isV (.int .i64 ((b1 : Int))), isV (.int .i64 (256 * (b1 : Int))), isV (.int .i64 (4096 + aa + (od : Int)))]) (nth [[0], [1], [2], [3], [4], [5], [6], [7], [8], [9], [10], [11], [12], [13], [14], [15], [16]]) (nth [[], [], [], [], [], [], [], [], [], [], [], [], [], [], [], [], []]) (nth [[], [], [], [2], [1, 3], [0, 4], [5], [], [], [], [9], [8, 10], [11], [7, 12], [13], [14], [6, 15]]) [16] (fun w5 => Below wr.heap.size wr w5 ∧ True ∧ wr.heap.size ≤ w5.heap.size ∧ True) (by kernel_rfl) (by kernel_rfl) (⟨(Below.refl _ _).drew, trivial, zn _, trivial⟩) (fun w w' h hb => ⟨h.1.trans (hb.mono h.1.size), trivial, Nat.le_trans h.2.2.1 hb.size, trivial⟩) (zG ((za (zc _)  (za (zc _)  (za (zc _)  (za (zc _)  (za (zc _)  (za (zc _)  (za (zc _)  (za (zc _)  (za (zc _)  (za (zc _)  (za (zc _)  (za (zc _)  (za (zc _)  (za (zc _)  (za (zc _)  (za (zc _)  (za (zc _) zy))))))))))))))))))) (fun f F hF => ?_)
         simp only [List.take_succ_cons, List.take_zero, yb, Act.put, zD, zE, zF, Nat.reduceAdd] at hF
         subst hF
         refine ⟨ze ?_ (ze ?_ (ze ?_ (ze ?_ (ze ?_ (ze ?_ (ze ?_ (ze ?_ (ze ?_ (ze ?_ (ze ?_ (ze ?_ (ze ?_ (ze ?_ (ze ?_ (ze ?_ (ze ?_ (yf))))))))))))))))), ?_⟩
         ·intro w5 hS hF hD K hK
          rw [if_pos (by rfl)]
          exact svV hK rfl rfl rfl rfl (by first | rfl | kernel_rfl)  (by show _ = _; kernel_rfl)
         ·intro w5 hS hF hD K hK
          rw [if_pos (by rfl)]
          exact svV hK rfl rfl rfl rfl (by first | rfl | kernel_rfl)  (by show _ = _; kernel_rfl)
         ·intro w5 hS hF hD K hK
          rw [if_pos (by rfl)]
          exact svV hK rfl rfl rfl rfl (by first | rfl | kernel_rfl)  (by show _ = _; kernel_rfl)
         ·intro w5 hS hF hD K hK
          obtain ⟨(e2 : f 2 = _), -⟩ := hF
          try simp only [e2]
          rw [if_pos (by rfl)]
          exact zx (v := .int .i64 (IntKind.i64.wrap (2 * (m : Int)))) (by (show _ = _); kernel_rfl) (hK.out _ _ rfl (zq rfl rfl rfl (congrArg (Value.int .i64) HW1.out)))
         ·intro w5 hS hF hD K hK
          obtain ⟨(e1 : f 1 = _), (e3 : f 3 = _), -⟩ := hF
          try simp only [e1, e3]
          rw [if_pos (by rfl)]
          exact zx (v := .int .i64 (IntKind.i64.wrap ((tn : Int) + (m2 : Int)))) (by (show _ = _); kernel_rfl) (hK.out _ _ rfl (zq rfl rfl rfl (congrArg (Value.int .i64) HW2.out)))
         ·intro w5 hS hF hD K hK
          obtain ⟨(e0 : f 0 = _), (e4 : f 4 = _), -⟩ := hF
          try simp only [e0, e4]
          rw [if_pos (by rfl)]
          have ix0 := HX0.out; go_simp; refine hK.out _ _ rfl (zq rfl rfl rfl ?_); first | rfl | kernel_rfl
         ·intro w5 hS hF hD K hK
          obtain ⟨(e5 : f 5 = _), -⟩ := hF
          try simp only [e5]
          rw [if_pos (by rfl)]
          exact zx (v := .int .i64 (IntKind.i64.wrap ((b0 : Int)))) (by (show _ = _); kernel_rfl) (hK.out _ _ rfl (zq rfl rfl rfl (congrArg (Value.int .i64) HW4.out)))
         ·intro w5 hS hF hD K hK
          rw [if_pos (by rfl)]
          exact svV hK rfl rfl rfl rfl (by first | rfl | kernel_rfl)  (by show _ = _; kernel_rfl)
         ·intro w5 hS hF hD K hK
          rw [if_pos (by rfl)]
          exact svV hK rfl rfl rfl rfl (by first | rfl | kernel_rfl)  (by show _ = _; kernel_rfl)
         ·intro w5 hS hF hD K hK
          rw [if_pos (by rfl)]
          exact svV hK rfl rfl rfl rfl (by first | rfl | kernel_rfl)  (by show _ = _; kernel_rfl)
         ·intro w5 hS hF hD K hK
          obtain ⟨(e9 : f 9 = _), -⟩ := hF
          try simp only [e9]
          rw [if_pos (by rfl)]
          exact zx (v := .int .i64 (IntKind.i64.wrap (2 * (m : Int)))) (by (show _ = _); kernel_rfl) (hK.out _ _ rfl (zq rfl rfl rfl (congrArg (Value.int .i64) HW1.out)))
         ·intro w5 hS hF hD K hK
          obtain ⟨(e8 : f 8 = _), (e10 : f 10 = _), -⟩ := hF
          try simp only [e8, e10]
          rw [if_pos (by rfl)]
          exact zx (v := .int .i64 (IntKind.i64.wrap ((tn : Int) + (m2 : Int)))) (by (show _ = _); kernel_rfl) (hK.out _ _ rfl (zq rfl rfl rfl (congrArg (Value.int .i64) HW2.out)))
         ·intro w5 hS hF hD K hK
          obtain ⟨(e11 : f 11 = _), -⟩ := hF
          try simp only [e11]
          rw [if_pos (by rfl)]
          exact zx (v := .int .i64 (IntKind.i64.wrap ((p0 : Int) + 1))) (by (show _ = _); kernel_rfl) (hK.out _ _ rfl (zq rfl rfl rfl (congrArg (Value.int .i64) HW3.out)))
         ·intro w5 hS hF hD K hK
          obtain ⟨(e7 : f 7 = _), (e12 : f 12 = _), -⟩ := hF
          try simp only [e7, e12]
          rw [if_pos (by rfl)]
          have ix1 := HX1.out; push_cast at ix1; go_simp; refine hK.out _ _ rfl (zq rfl rfl rfl ?_); first | rfl | kernel_rfl
         ·intro w5 hS hF hD K hK
          obtain ⟨(e13 : f 13 = _), -⟩ := hF
          try simp only [e13]
          rw [if_pos (by rfl)]
          exact zx (v := .int .i64 (IntKind.i64.wrap ((b1 : Int)))) (by (show _ = _); kernel_rfl) (hK.out _ _ rfl (zq rfl rfl rfl (congrArg (Value.int .i64) HW5.out)))
         ·intro w5 hS hF hD K hK
          obtain ⟨(e14 : f 14 = _), -⟩ := hF
          try simp only [e14]
          rw [if_pos (by rfl)]
          exact zx (v := .int .i64 (IntKind.i64.wrap (256 * (b1 : Int)))) (by (show _ = _); kernel_rfl) (hK.out _ _ rfl (zq rfl rfl rfl (congrArg (Value.int .i64) HW6.out)))
         ·intro w5 hS hF hD K hK
          obtain ⟨(e6 : f 6 = _), (e15 : f 15 = _), -⟩ := hF
          try simp only [e6, e15]
          rw [if_pos (by rfl)]
          exact zx (v := .int .i64 (IntKind.i64.wrap ((b0 : Int) + 256 * (b1 : Int)))) (by (show _ = _); kernel_rfl) (hK.out _ _ rfl (zq rfl rfl rfl (congrArg (Value.int .i64) HW7.out)))
         intro w5 hS hF
         obtain ⟨(e16 : f 16 = _), -⟩ := hF
         try simp only [e16]
         simp only [List.drop_succ_cons, List.drop_zero]
         have HBM5 := zh (HBM.out.trans (hS.1.mono HBM.out.size))
         have HQ5 := zh (zf hS.1 HQ2.out)
         have HGL5 := zh (zf hS.1 HGLM.out)
         have H95 := zh (zf hS.1 H9M.out)
         clear hS HQ2 HGLM H9M HX0 HX1 HW1 HW2 HW3 HW4 HW5 HW6 HW7 e16
         obtain ⟨we, rfl⟩ : ∃ we : World, we = w5 := ⟨_, rfl⟩
         go_upto_region 29 with fail
         refine zV [] 13 (z5 [isV (.int .i64 (4096 + aa + (od : Int))), isV (.pointer (some ⟨g9, 1, none⟩)), isV (.int .u16 (4096 + aa)), isV (.int .i64 (4096 + aa)), isV (.slice (some ⟨gL, 0, none⟩) (lnsTo E ls.length).length c13), isV (.slice (some ⟨q2, off2, none⟩) l.tab.length tcp), isV (.int .i64 m), isV (.pointer (some ⟨q2, off2 + m, none⟩)), isV (.int .i64 (d : Int)), isV (.pointer (some ⟨gL, d, none⟩)), isV (.int .i64 (od : Int)), isV (.int .i64 (4096 + aa + (od : Int))), isV (.bool false)]) (nth [[0], [1], [2], [3], [4], [5], [6], [7], [8], [9], [10], [11], [12]]) (nth [[], [], [], [], [], [], [], [], [], [], [], [], []]) (nth [[], [], [1], [2], [], [], [], [5, 6], [7], [4, 8], [9], [3, 10], [0, 11]]) [12] (fun w5 => Below we.heap.size we w5 ∧ True ∧ we.heap.size ≤ w5.heap.size ∧ True) (by kernel_rfl) (by kernel_rfl) (⟨(Below.refl _ _).drew, trivial, zn _, trivial⟩) (fun w w' h hb => ⟨h.1.trans (hb.mono h.1.size), trivial, Nat.le_trans h.2.2.1 hb.size, trivial⟩) (zG ((za (zc _)  (za (zc _)  (za (zc _)  (za (zc _)  (za (zc _)  (za (zc _)  (za (zc _)  (za (zc _)  (za (zc _)  (za (zc _)  (za (zc _)  (za (zc _)  (za (zc _) zy))))))))))))))) (fun f F hF => ?_)
         simp only [List.take_succ_cons, List.take_zero, yb, Act.put, zD, zE, zF, Nat.reduceAdd] at hF
         subst hF
         refine ⟨zd ?_ (zd ?_ (zd ?_ (zd ?_ (zd ?_ (zd ?_ (zd ?_ (zd ?_ (zd ?_ (zd ?_ (zd ?_ (zd ?_ (zd ?_ (yd))))))))))))), ?_⟩
         ·intro w5 hS hF hD K hK
          rw [if_pos (by rfl)]
          exact svV hK rfl rfl rfl rfl (by first | rfl | kernel_rfl)  (by show _ = _; kernel_rfl)
         ·intro w5 hS hF hD K hK
          rw [if_pos (by rfl)]
          exact svV hK rfl rfl rfl rfl (by first | rfl | kernel_rfl)  (by show _ = _; kernel_rfl)
         ·intro w5 hS hF hD K hK
          obtain ⟨(e1 : f 1 = _), -⟩ := hF
          try simp only [e1]
          rw [if_pos (by rfl)]
          exact svC hK rfl rfl rfl rfl (by first | rfl | kernel_rfl)  rfl rfl (zf hS.1 H95.out) (by kernel_rfl) (fun _ => by kernel_rfl)
         ·intro w5 hS hF hD K hK
          obtain ⟨(e2 : f 2 = _), -⟩ := hF
          try simp only [e2]
          rw [if_pos (by rfl)]
          exact zx (v := .int .i64 (IntKind.i64.wrap (4096 + aa))) (by (show _ = _); kernel_rfl) (hK.out _ _ rfl (zq rfl rfl rfl (congrArg (Value.int .i64) HW8.out)))
         ·intro w5 hS hF hD K hK
          rw [if_pos (by rfl)]
          exact svV hK rfl rfl rfl rfl (by first | rfl | kernel_rfl)  (by show _ = _; kernel_rfl)
         ·intro w5 hS hF hD K hK
          rw [if_pos (by rfl)]
          exact svV hK rfl rfl rfl rfl (by first | rfl | kernel_rfl)  (by show _ = _; kernel_rfl)
         ·intro w5 hS hF hD K hK
          rw [if_pos (by rfl)]
          exact svV hK rfl rfl rfl rfl (by first | rfl | kernel_rfl)  (by show _ = _; kernel_rfl)
         ·intro w5 hS hF hD K hK
          obtain ⟨(e5 : f 5 = _), (e6 : f 6 = _), -⟩ := hF
          try simp only [e5, e6]
          rw [if_pos (by rfl)]
          go_simp
          refine hK.out _ _ rfl (zq rfl rfl rfl ?_)
          first | rfl | kernel_rfl
         ·intro w5 hS hF hD K hK
          obtain ⟨(e7 : f 7 = _), -⟩ := hF
          try simp only [e7]
          rw [if_pos (by rfl)]
          exact svC hK rfl rfl rfl rfl (by first | rfl | kernel_rfl)  rfl rfl (zf hS.1 HQ5.out) (HC2.out) (fun _ => by kernel_rfl)
         ·intro w5 hS hF hD K hK
          obtain ⟨(e4 : f 4 = _), (e8 : f 8 = _), -⟩ := hF
          try simp only [e4, e8]
          rw [if_pos (by rfl)]
          go_simp
          refine hK.out _ _ rfl (zq rfl rfl rfl ?_)
          first | rfl | kernel_rfl
         ·intro w5 hS hF hD K hK
          obtain ⟨(e9 : f 9 = _), -⟩ := hF
          try simp only [e9]
          rw [if_pos (by rfl)]
          exact svC hK rfl rfl rfl rfl (by first | rfl | kernel_rfl)  rfl rfl (zf hS.1 HGL5.out) (HOD.out) (fun _ => by kernel_rfl)
         ·intro w5 hS hF hD K hK
          obtain ⟨(e3 : f 3 = _), (e10 : f 10 = _), -⟩ := hF
          try simp only [e3, e10]
          rw [if_pos (by rfl)]
          exact zx (v := .int .i64 (IntKind.i64.wrap (4096 + aa + (od : Int)))) (by (show _ = _); kernel_rfl) (hK.out _ _ rfl (zq rfl rfl rfl (congrArg (Value.int .i64) HW9.out)))
         ·intro w5 hS hF hD K hK
          obtain ⟨(e0 : f 0 = _), (e11 : f 11 = _), -⟩ := hF
          try simp only [e0, e11]
          rw [if_pos (by rfl)]
          go_simp
          refine hK.out _ _ rfl (zq rfl rfl rfl ?_)
          first | rfl | kernel_rfl
         intro w5 hS hF
         obtain ⟨(e12 : f 12 = _), -⟩ := hF
         try simp only [e12]
         refine yN (by kernel_rfl) ?_
         have HB7 := zh (HBM5.out.trans (hS.1.mono HBM5.out.size))
         clear hS
         go_wp2_with fail
         go_roundw
         case rel => exact ⟨m + 1, by omega, by go_num, HB7⟩
         case measure => simp [intOf]; omega
        ·have hme : m = l.tab.length := by omega
         subst hme
         go_wp2_with fail
         go_roundw
         case rel => exact ⟨j + 1, by omega, by go_num, by rw [HTL2.out]; go_num, zh (HBD.out.trans (HBM.out.mono HBD.out.size))⟩
         case measure => simp [intOf]; omega
     ·have hje : j = ls.length := by omega
      subst hje
      have hfin : (((oN + (E.tabsTo ls.length).length : Nat) : Int) == (sc.size : Int)) = true := by
       have h1 := HTT.out
       have h2 := HSZ.out
       simp only [beq_iff_eq]
       omega
      have hfin2 : (((oN : Int) + ((E.tabsTo ls.length).length : Int)) == (sc.size : Int)) = true := by rw [← hfin]; rw [Int.natCast_add]
      go_wp2_with fail
      go_ret
      exact ⟨rfl, HB4.out.trans ((HBW.out.trans (HBJ.out.mono HBW.out.size)).mono HB4.out.size)⟩
end Go.Proofs.Ythebmoggbgldmaa
