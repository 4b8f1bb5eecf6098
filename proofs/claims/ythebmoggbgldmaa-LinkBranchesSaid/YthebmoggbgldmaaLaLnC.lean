/- The law LinkBranches, walked. The conditions: the numbers lie in their types' ranges. (Printed by gen_lnc.py.) -/
import Derived.Test.YthebmoggbgldmaaLaLmM
import Derived.Test.YthebmoggbgldmaaLaLmS
import Derived.Test.YthebmoggbgldmaaLaRFldB
import Derived.Test.YthebmoggbgldmaaLaLnA
import Derived.Test.YthebmoggbgldmaaLaRTgt
set_option linter.all false
namespace Go.Proofs.Ythebmoggbgldmaa
open Go Go.RowKit Go.Maps
theorem ll20 {E : zL} (h : MdE E) {ll : Nat} (hl : E.ls.length = min ll 120) (hf : E.fits = false) : (20 : Int) < (ll : Int) := by
 by_cases hh : E.ls.length ≤ 20
 ·rw [h.small hh] at hf; cases hf
 ·omega
set_option maxRecDepth 100000 in
set_option maxHeartbeats 4000000 in
theorem linkbranches_any (lo : Option Addr) (ll lcap : Nat) (Q : Nat → Nat → Int) (hQ : ∀ i j, zX (Q i j)) (hll : ll < 9223372036854775808) (bank addr : Int) (hb : zX bank) (ha : zX addr) (w : World) (hS : SixV w (.slice lo ll lcap) ll Q) :
  Calls Try.prog 5 #[.slice lo ll lcap, .int .i64 bank, .int .i64 addr] w fun e w' => e = .returned (.bool true) ∧ Below w.heap.size w w' := by
 have HSN := zh (fun W => sanity_any W)
 have HMD := zh (show ∀ W, Below w.heap.size w W → Calls Try.prog 10 #[.slice lo ll lcap, .int .i64 0, .int .i64 0] W (MdPost (min ll 120) 0 0 W) from fun W hb => made19_any lo ll lcap 0 0 (min ll 120) Q hQ rfl (by omega) (by omega) (by omega) W (hS.below hb))
 obtain ⟨bk, hbk⟩ : ∃ z, bank % 64 = z := ⟨_, rfl⟩
 obtain ⟨aa, haa⟩ : ∃ z, addr % 2000 = z := ⟨_, rfl⟩
 have hbk0 : 0 ≤ bk ∧ bk < 64 := by omega
 have haa0 : 0 ≤ aa ∧ aa < 2000 := by omega
 have HMB := zh (fun W => by have := jk bank 64 hb (by omega) (by omega) W; rw [hbk] at this; exact this)
 have HMA := zh (fun W => by have := jk addr 2000 ha (by omega) (by omega) W; rw [haa] at this; exact this)
 have hw1 : IntKind.u16.wrap aa = aa := IntWalk.u16_in _ (by omega)
 have hw2 : IntKind.u16.wrap (4096 + aa) = 4096 + aa := IntWalk.u16_in _ (by omega)
 clear hQ hb ha hS hbk haa
 go_enter Try.func5, Try.ntmps5
 go_upto_region 2 with (go_at_call 7; refine (HSN.out _).mono ?_; rintro e w1 ⟨rfl, hb1⟩)
 have HB1 := zh hb1
 clear hb1
 go_upto_region 3 with (first | (go_at_call 10; refine (HMD.out _ HB1.out).mono ?_; rintro e w2 ⟨ls, nm, ao, cap, rfl, hlen, hmade, hcap, hLv, hb2⟩; have HLEN := zh hlen; clear hlen) | (refine wpList_store_row rfl _ _ _ rfl _ _ rfl rfl _ _ (heap_alloc_new _ _) ?_ ?_ ?_ ?_; kernel_rfl; rfl; kernel_rfl; rw [World.setRow_alloc_new]))
 go_upto_region 4 with (first | (go_at_call 11; refine (HMB.out _).mono ?_; rintro e wz ⟨rfl, rfl⟩) | (go_at_call 11; refine (HMA.out _).mono ?_; rintro e wz ⟨rfl, rfl⟩) | (refine wpList_store_row rfl _ _ _ rfl _ _ rfl rfl _ _ (heap_alloc_new _ _) ?_ ?_ ?_ ?_; kernel_rfl; rfl; kernel_rfl; rw [World.setRow_alloc_new]))
 try simp only [hw1, hw2]
 clear hw1 hw2
 obtain ⟨h8, h9⟩ := yy w2 (.cells #[.string nm, .slice ao ls.length cap] 32) (.cells #[.int .i64 bk, .int .u16 (4096 + aa)] 37)
 have hbb : Below w2.heap.size w2 ((w2.alloc (.cells #[.string nm, .slice ao ls.length cap] 32)).alloc (.cells #[.int .i64 bk, .int .u16 (4096 + aa)] 37)) := ((Below.refl _ _).alloc (zn _) _).alloc (by simp) _
 obtain ⟨wb, hwb⟩ : ∃ W : World, (w2.alloc (.cells #[.string nm, .slice ao ls.length cap] 32)).alloc (.cells #[.int .i64 bk, .int .u16 (4096 + aa)] 37) = W := ⟨_, rfl⟩
 rw [hwb] at h8 h9 hbb ⊢
 obtain ⟨g8, hg8⟩ : ∃ g : Nat, w2.heap.size = g := ⟨_, rfl⟩
 obtain ⟨g9, hg9⟩ : ∃ g : Nat, w2.heap.size + 1 = g := ⟨_, rfl⟩
 rw [hg9] at h9
 try rw [hg9]
 rw [hg8] at h8
 try rw [hg8]
 have hmd2 : ∀ (i : Nat) (l : zu), ls[i]? = some l → MadeOk ls.length 0 0 i l := by rw [HLEN.out]; exact hmade
 have hls := made_lines hmd2 (by rw [HLEN.out]; omega)
 have hck := made_chunk hmd2
 obtain ⟨E, hE⟩ : ∃ E : zL, E = ⟨ls, ⟨bk, 4096 + aa⟩, [], []⟩ := ⟨_, rfl⟩
 have hE1 : E.ls = ls := by rw [hE]
 have hE2 : E.pl = ⟨bk, 4096 + aa⟩ := by rw [hE]
 have hE3 : E.funcs = [] := by rw [hE]
 have hE4 : E.data = [] := by rw [hE]
 have hnum : E.Num := ⟨by rw [hE1]; exact hls, by rw [hE2]; exact ⟨by show 0 ≤ 4096 + aa; omega, by show 4096 + aa < 65536; omega, by show -9223372036854775808 ≤ bk; omega, by show bk ≤ 9223372036854775807; omega⟩, (by rw [hE3]; intro p hp; cases hp), (by rw [hE4]; intro p hp; cases hp), by rw [hE3]; decide, by rw [hE4]; decide⟩
 have hmde : MdE E := ⟨hnum.ok (by rw [hE1, hE3, hE4]; exact hck), by rw [hE1]; exact hck, by rw [hE1]; exact hmd2, hE3, hE4, by rw [hE2]; show 4096 ≤ 4096 + aa; omega, by rw [hE2]; show 4096 + aa < 6096; omega, by rw [hE2]; exact hbk0⟩
 have HME := zh hmde
 have HLV := zh (hLv.below hbb)
 have HAS := zh (show ∀ W, yJ W (.slice ao ls.length cap) ls → Calls Try.prog 13 #[.agg #[.string nm, .slice ao ls.length cap], .agg #[.int .i64 bk, .int .u16 (4096 + aa)], .slice none 0 0, .slice none 0 0] W (AsPost E W) from fun W hL => by
  have := xv E hnum nm ao none none cap 0 0 W (by rw [hE1]; exact hL) (by rw [hE3]; exact nilP W) (by rw [hE4]; exact nilO W)
  rw [hE1, hE2, hE3, hE4] at this
  exact this)
 have H8 := zh h8
 have H9 := zh h9
 have HBB := zh (HB1.out.trans ((hb2.mono HB1.out.size).trans (hbb.mono (Nat.le_trans HB1.out.size hb2.size))))
 clear h8 h9 hbb hwb hg8 hg9 hb2 hLv hmade hmd2 hls hck hnum hmde hE4 hE3 HB1 HMD HMB HMA hcap
 go_upto_region 5 with (first | (refine zs _ _ rfl _ rfl _ _ _ (H8.out) ?_ ?_ ?_; kernel_rfl; kernel_rfl) | (refine zs _ _ rfl _ rfl _ _ _ (H9.out) ?_ ?_ ?_; kernel_rfl; kernel_rfl) | (go_at_call 13; refine (HAS.out _ HLV.out).mono ?_; rintro e w4 ⟨s, pv, ps, er, rfl, hown, hb4, hans⟩))
 have HL4 := zh (HLV.out.below hb4)
 have H84 := zh (zf hb4 H8.out)
 have H94 := zh (zf hb4 H9.out)
 have HB4 := zh (HBB.out.trans (hb4.mono HBB.out.size))
 clear hb4 hown H8 H9 HBB HLV HAS
 rcases hans with ⟨hr, -⟩ | ⟨-, hfit, rfl, rfl, rfl⟩ | ⟨-, hfit, rfl, rfl, rfl⟩
 ·exact absurd HME.out.right hr
 ·have hl21 : (20 : Int) < (ll : Int) := ll20 HME.out (by rw [hE1]; exact HLEN.out) hfit
  go_wp2_with fail
  go_ret
  exact ⟨rfl, HB4.out⟩
 ·obtain ⟨sc, hsc⟩ : ∃ s : ByteArray, zO E.code = s := ⟨_, rfl⟩
  rw [hsc]
  have HSC := zh hsc
  have HSZ := zh (show sc.size = E.code.length by rw [← hsc]; exact yo _)
  have HFT := zh hfit
  have HEE := zh (And.intro hE1 hE2)
  clear hsc hfit hE1 hE2 HSN hE
  go_wp2_with fail
  go_loopw [13, 14, 15, 16] (fun iv lv ov i wr => ∃ k : Nat, k ≤ ls.length ∧ i = .int .i64 k ∧ ov = .int .i64 (E.off k) ∧ Hid (wr.ownsRow w4.heap.size 53 7 iv k (insTo E k)) ∧ Hid (wr.ownsRow w4.heap.size 35 1 lv k (adrTo E k)) ∧ Hid (Below w4.heap.size w4 wr)) (fun _ _ _ i _ => ls.length - (intOf i).toNat)
  case atStart => exact ⟨0, Nat.zero_le _, rfl, rfl, zh ⟨rfl, .inl ⟨rfl, rfl⟩⟩, zh ⟨rfl, .inl ⟨rfl, rfl⟩⟩, zh (Below.refl _ _)⟩
  case round =>
   obtain ⟨k, hk, rfl, rfl, HIV, HAV, HBW⟩ := hrel
   have c81 := cell_of_row wr g8 1 _ _ _ (zf HBW.out H84.out)
   by_cases hkn : k < ls.length
   ·have hkE : k < E.ls.length := by rw [HEE.out.1]; exact hkn
    have hst := HME.out.step hkE
    have hwin := HME.out.win HFT.out hkE
    have hmo := HME.out.mono (show k + 1 ≤ E.ls.length by omega) (zn _)
    have hln := HME.out.len
    have hss := HSZ.out
    have hpa : E.pl.addr = 4096 + aa := by rw [HEE.out.2]
    have hc4 : E.code.length ≤ 4096 := by
     have := HFT.out
     unfold zL.fits at this
     have := of_decide_eq_true this
     have h5 := HME.out.lo
     omega
    obtain ⟨o, ho⟩ := Int.eq_ofNat_of_zero_le hwin.1
    have ho' : E.off k = (o : Int) := ho
    have hoN : o ≤ sc.size := by omega
    have hoI : (o : Int) < (sc.size : Int) := by omega
    have hoI2 : ¬ (sc.size : Int) ≤ (o : Int) := by omega
    have hoI3 : (o : Int) ≤ (sc.size : Int) := by omega
    obtain ⟨x, hx⟩ : ∃ x, insAt E k = x := ⟨_, rfl⟩
    have hxl : x.size = E.off (k + 1) - E.off k := by rw [← hx, jI hkE]; exact (HME.out.line hkE).2.1
    have HDC := zh (show ∀ W, Calls Try.prog 17 #[.string (sc.extract o sc.size)] W fun e w' => e = .returned (.tuple #[.agg #[.int .i64 x.op, .int .i64 x.d, .int .i64 x.s, .int .u16 x.imm, .int .u16 x.aux, .int .i64 x.bank, .int .i64 x.size], .int .i64 0]) ∧ Below W.heap.size W w' from fun W => by
     have hd := HME.out.dec hkE
     have hse : sc.extract o sc.size = zO (E.code.drop o) := by rw [← HSC.out]; exact strOf_drop _ _
     have := rdecode_any (sc.extract o sc.size) (by rw [hse, yo, List.length_drop]; omega) W
     rw [hse, show o = (E.off k).toNat by omega, hd.1, hd.2, ← jI hkE, hx] at this
     rw [hse, show o = (E.off k).toNat by omega]
     exact this)
    have HNX := zh (show IntKind.i64.wrap ((o : Int) + x.size) = E.off (k + 1) by rw [hxl, ho', show (o : Int) + (E.off (k + 1) - o) = E.off (k + 1) by omega]; exact IntWalk.i64_in _ (by omega))
    have HU1 := zh (show IntKind.u16.wrap (o : Int) = o from IntWalk.u16_in _ (by omega))
    have HU2 := zh (show IntKind.u16.wrap (4096 + aa + o) = E.pl.addr + E.off k by rw [hpa, ho']; exact IntWalk.u16_in _ (by omega))
    have HIT := zh (show insTo E (k + 1) = insTo E k ++ insV x by show insTo E k ++ insV (insAt E k) = _; rw [hx])
    have HOF := zh ho'
    have HAT := zh (show adrTo E (k + 1) = adrTo E k ++ [.int .u16 (4096 + aa + o)] by show adrTo E k ++ [.int .u16 (E.pl.addr + E.off k)] = _; rw [hpa, ho'])
    have ho4 : (o : Int) < 4096 := by omega
    rw [ho']
    clear hst hwin hmo hln hss hpa ho ho' hxl hx hkE
    go_upto_region 20 with (first | (go_at_call 17; refine (HDC.out _).mono ?_; rintro e w5 ⟨rfl, hb5⟩) | (refine wpList_store_row rfl _ _ _ rfl _ _ rfl rfl _ _ (heap_alloc_new _ _) ?_ ?_ ?_ ?_; kernel_rfl; rfl; kernel_rfl; rw [World.setRow_alloc_new]))
    have h17 := heap_alloc_new w5 (.cells #[.int .i64 x.op, .int .i64 x.d, .int .i64 x.s, .int .u16 x.imm, .int .u16 x.aux, .int .i64 x.bank, .int .i64 x.size] 53)
    have hb6 : Below wr.heap.size wr (w5.alloc (.cells #[.int .i64 x.op, .int .i64 x.d, .int .i64 x.s, .int .u16 x.imm, .int .u16 x.aux, .int .i64 x.bank, .int .i64 x.size] 53)) := hb5.alloc hb5.size _
    obtain ⟨wd, hwd⟩ : ∃ W : World, w5.alloc (.cells #[.int .i64 x.op, .int .i64 x.d, .int .i64 x.s, .int .u16 x.imm, .int .u16 x.aux, .int .i64 x.bank, .int .i64 x.size] 53) = W := ⟨_, rfl⟩
    rw [hwd] at h17 hb6 ⊢
    obtain ⟨g17, hg17⟩ : ∃ g : Nat, w5.heap.size = g := ⟨_, rfl⟩
    rw [hg17] at h17
    try rw [hg17]
    have hge : wr.heap.size ≤ g17 := by have := hb5.size; omega
    have hsz5 : w4.heap.size ≤ wd.heap.size := Nat.le_trans HBW.out.size hb6.size
    have hb7 := (Below.refl wd.heap.size wd).alloc (zn _) (.cells #[.int .i64 x.op, .int .i64 x.d, .int .i64 x.s, .int .u16 x.imm, .int .u16 x.aux, .int .i64 x.bank, .int .i64 x.size] 53)
    have hqq : ∀ q, u13.ownBlock = some q → q ≠ g17 := fun q hq e => by
     obtain ⟨-, cs, h9⟩ := z7 HIV.out q hq
     have := (Array.getElem?_eq_some_iff.1 h9).1
     omega
    have HIV7 := zh (zZ HIV.out (zN.ofBelow (bs := fun _ => False) (hb6.trans (hb7.mono hb6.size))) fun _ _ h => h)
    have HAV7 := zh (zZ HAV.out (zN.ofBelow (bs := fun _ => False) (hb6.trans (hb7.mono hb6.size))) fun _ _ h => h)
    have H177 := zh (zf hb7 h17)
    have H17 := zh h17
    have HB7 := zh (HBW.out.trans ((hb6.trans (hb7.mono hb6.size)).mono HBW.out.size))
    have HS7 := zh (show w4.heap.size ≤ (wd.alloc (.cells #[.int .i64 x.op, .int .i64 x.d, .int .i64 x.s, .int .u16 x.imm, .int .u16 x.aux, .int .i64 x.bank, .int .i64 x.size] 53)).heap.size from HB7.out.size)
    have HSR := zh (show SrcW (wd.alloc (.cells #[.int .i64 x.op, .int .i64 x.d, .int .i64 x.s, .int .u16 x.imm, .int .u16 x.aux, .int .i64 x.bank, .int .i64 x.size] 53)) 7 (some ⟨wd.heap.size, 0, none⟩) 1 (insV x) from src_of (heap_alloc_new wd (.cells #[.int .i64 x.op, .int .i64 x.d, .int .i64 x.s, .int .u16 x.imm, .int .u16 x.aux, .int .i64 x.bank, .int .i64 x.size] 53)) rfl)
    have HOC := zh (show ∀ u ∈ insV x, u.oneCell' = true from fun u hu => List.all_eq_true.1 (by rfl : (insV x).all (·.oneCell') = true) u hu)
    have HZ1 := zh (show k + 1 ≤ maxLen by unfold maxLen; have := HLEN.out; omega)
    have HZ2 := zh (show (k + 1) * 48 ≤ 140737488355328 by have := HLEN.out; omega)
    have HZ3 := zh (show (k + 1) * 2 ≤ 140737488355328 by have := HLEN.out; omega)
    obtain ⟨iI, hiI, hzI, hzI1, hzI2⟩ := info_parts infoIns19
    have HII := zh (And.intro hiI (And.intro hzI (And.intro hzI1 hzI2)))
    obtain ⟨iU, hiU, hzU, hzU1, hzU2⟩ := info_parts infoU16
    have HIU := zh (And.intro hiU (And.intro hzU (And.intro hzU1 hzU2)))
    clear hwd hg17 h17 hb5 hb6 hb7 hiI hzI hzI1 hzI2 hiU hzU hzU1 hzU2 c81 HIV HAV hoN hoI hoI2 hoI3 HDC hge hsz5
    go_upto_region 21 with (first | (refine zs _ _ rfl _ rfl _ _ _ (H17.out) ?_ ?_ ?_; kernel_rfl; kernel_rfl) | (at_builtin; refine xm _ rfl _ _ 50 rfl w4.heap.size 53 iI _ 7 48 Try.underlying50 HII.out.1 HII.out.2.1 HII.out.2.2.1 HII.out.2.2.2 rfl (by decide) _ k _ rfl HIV7.out (some ⟨wd.heap.size, 0, none⟩) 1 1 (fun h => by cases h) (insV x) rfl HSR.out HOC.out HZ1.out HZ2.out HS7.out ?_; intro v8 w8 ho8 hg8 hk8; have HHK := zh hk8; clear hk8))
    have HIV8 := zh ho8
    have HAV8 := zh (rowS_row HIV7.out hg8 HAV7.out (by decide))
    have HB8 := zh (rowS_below HB7.out HS7.out HIV7.out hg8)
    have H178 := zh ((hg8.block g17 (Array.getElem?_eq_some_iff.1 H177.out).1 (fun e => hqq g17 e.symm rfl)).trans H177.out)
    have c91 := cell_of_row w8 g9 1 _ _ _ (zf HB8.out H94.out)
    have hb9 := (Below.refl w8.heap.size w8).alloc (zn _) (.cells #[.int .u16 (4096 + aa + o)] 35)
    have HIV9 := zh (zZ HIV8.out (zN.ofBelow (bs := fun _ => False) hb9) fun _ _ h => h)
    have HAV9 := zh (zZ HAV8.out (zN.ofBelow (bs := fun _ => False) hb9) fun _ _ h => h)
    have H179 := zh (zf hb9 H178.out)
    have HB9 := zh (HB8.out.trans (hb9.mono HB8.out.size))
    have HS9 := zh (show w4.heap.size ≤ (w8.alloc (.cells #[.int .u16 (4096 + aa + o)] 35)).heap.size from HB9.out.size)
    have HSR2 := zh (show SrcW (w8.alloc (.cells #[.int .u16 (4096 + aa + o)] 35)) 1 (some ⟨w8.heap.size, 0, none⟩) 1 [.int .u16 (4096 + aa + o)] from src_of (heap_alloc_new w8 (.cells #[.int .u16 (4096 + aa + o)] 35)) rfl)
    have HOC2 := zh (show ∀ u ∈ [Value.int .u16 (4096 + aa + o)], u.oneCell' = true from fun u hu => by simp at hu; subst hu; rfl)
    clear ho8 hg8 hb9 HIV7 HAV7 H177 H17 HB7 HS7 HSR HOC hqq
    go_upto_region 22 with (at_builtin; refine xm _ rfl _ _ 51 rfl w4.heap.size 35 iU _ 1 2 Try.underlying51 HIU.out.1 HIU.out.2.1 HIU.out.2.2.1 HIU.out.2.2.2 rfl (by decide) _ k _ rfl HAV9.out (some ⟨w8.heap.size, 0, none⟩) 1 1 (fun h => by cases h) [.int .u16 (4096 + aa + o)] rfl HSR2.out HOC2.out HZ1.out HZ3.out HS9.out ?_; intro v10 w10 ho10 hg10 hk10; have HHL := zh hk10; clear hk10)
    have HAVX := zh (show w10.ownsRow w4.heap.size 35 1 v10 (k + 1) (adrTo E (k + 1)) by rw [HAT.out]; exact ho10)
    have HIVX := zh (show w10.ownsRow w4.heap.size 53 7 v8 (k + 1) (insTo E (k + 1)) by rw [HIT.out]; exact rowS_row HAV9.out hg10 HIV9.out (by decide))
    have HBX := zh (rowS_below HB9.out HS9.out HAV9.out hg10)
    have c176 := cell_of_row w10 g17 6 _ _ _ (rowS_kept HAV9.out hg10 H179.out (by decide))
    clear ho10 hg10 HIV8 HAV8 HB8 H178 c91 HIV9 HAV9 H179 HB9 HS9 HSR2 HOC2 HAT HIT HU1 HU2
    have hnx := HNX.out
    have hk120 : (k : Int) < 1000 := by have := HLEN.out; omega
    go_wp2_with fail
    go_roundw
    case rel => exact ⟨k + 1, by omega, by go_num, rfl, HIVX, HAVX, HBX⟩
    case measure => simp [intOf]; omega
   ·have hkk : k = ls.length := by omega
    subst hkk
    have hk120 : (ls.length : Int) < 1000 := by have := HLEN.out; omega
    obtain ⟨wo, rfl⟩ : ∃ wo : World, wo = wr := ⟨_, rfl⟩
    obtain ⟨a13, c13, rfl, -⟩ := xV HIV.out
    obtain ⟨a14, c14, rfl, -⟩ := xV HAV.out
    clear hkn
    go_wp2_with fail
    clear c81
    go_loopw [19] (fun i wr => ∃ j : Nat, j ≤ ls.length ∧ i = .int .i64 j ∧ Hid (Below wo.heap.size wo wr)) (fun i _ => ls.length - (intOf i).toNat)
    case atStart => exact ⟨0, Nat.zero_le _, rfl, zh (Below.refl _ _)⟩
    case round =>
     obtain ⟨j, hj, rfl, HBJ⟩ := hrel
     by_cases hjn : j < ls.length
     ·have hjE : j < E.ls.length := by rw [HEE.out.1]; exact hjn
      have hji : (j : Int) < (ls.length : Int) := by omega
      obtain ⟨l, hl⟩ : ∃ l, ls[j]? = some l := ⟨_, List.getElem?_eq_getElem hjn⟩
      have hlE : E.ls[j] = l := by
       have h9 : E.ls[j]? = some l := by rw [HEE.out.1]; exact hl
       rw [List.getElem?_eq_getElem hjE] at h9
       exact Option.some.inj h9
      obtain ⟨q, off, c, T', fr', tv, hao, hq, hrow, hI⟩ := HL4.out.at hl
      subst hao
      obtain ⟨gi, cpi, curi, hei, hBi, hnci, hgi, hci, hri⟩ := own_block HIV.out (by omega)
      simp only [Value.slice.injEq] at hei
      obtain ⟨rfl, -, rfl⟩ := hei
      obtain ⟨ga, cpa, cura, hea, hBa, hnca, hga, hca, hra⟩ := own_block HAV.out (by omega)
      simp only [Value.slice.injEq] at hea
      obtain ⟨rfl, -, rfl⟩ := hea
      obtain ⟨x, hx⟩ : ∃ x, insAt E j = x := ⟨_, rfl⟩
      have HGI := zh (zf HBJ.out hgi)
      have HGA := zh (zf HBJ.out hga)
      have HQ := zh (zf HBJ.out (zf HBW.out hq))
      have H8J := zh (zf HBJ.out (zf HBW.out H84.out))
      have H9J := zh (zf HBJ.out (zf HBW.out H94.out))
      have HRI := zh (show (curi.extract (j * 7) (j * 7 + (insV x).length)).toList = insV x by
       have h9 := hri j hjn
       rw [insTo_get E _ j hjn, hx] at h9
       exact h9)
      obtain ⟨A, hA⟩ : ∃ A : Int, E.pl.addr + E.off j = A := ⟨_, rfl⟩
      have HCA := zh (show cura[j]? = some (.int .u16 A) by rw [hca j (by omega), adrTo_get E _ j hjn, hA])
      obtain ⟨fo, hfo⟩ : ∃ z : Int, zK l.ins.op = z := ⟨_, rfl⟩
      have HFO := zh (fun W => by have := y2 l.ins.op W; rw [hfo] at this; exact this)
      have c81 := cell_of_row wr g8 1 _ _ _ H8J.out
      have cop : wr.cell? ⟨q, off + j * 12 + 1, none⟩ = some (.int .i64 l.ins.op) := by
       rw [cell_of_row wr q _ _ _ _ HQ.out]
       exact jq hrow (by omega)
      have HTV := zh (show fo = 2 ∨ fo = 3 → ∃ d : Nat, d < ls.length ∧ l.dest = d ∧ c[off + j * 12 + 8]? = some (.int .i64 d) ∧ cura[d]? = some (.int .u16 (E.pl.addr + E.off d)) ∧ ∀ W, Calls Try.prog 19 #[.agg #[.int .i64 x.op, .int .i64 x.d, .int .i64 x.s, .int .u16 x.imm, .int .u16 x.aux, .int .i64 x.bank, .int .i64 x.size], .agg #[.int .i64 bk, .int .u16 A]] W fun e w' => e = .returned (.tuple #[.agg #[.int .i64 bk, .int .u16 (E.pl.addr + E.off d)], .bool true]) ∧ Below W.heap.size W w' from fun hb => by
       obtain ⟨d, hd1, hd2, hd3⟩ := HME.out.goes HFT.out hjE (by rw [hlE, hfo]; exact hb)
       rw [hlE] at hd1
       have hw := HME.out.win HFT.out hjE
       have hlo := HME.out.lo
       have hdl : d < ls.length := by rw [← HEE.out.1]; exact hd2
       have hpb : E.pl.bank = bk := by rw [HEE.out.2]
       refine ⟨d, hdl, hd1, ?_, ?_, fun W => ?_⟩
       ·have h9 := jq hrow (show 8 < 12 by omega)
        rw [h9]
        show some (Value.int .i64 l.dest) = _
        rw [hd1]
       ·rw [hca d (by omega), adrTo_get E _ d hdl]
       ·have h9 := rtarget_any x (by rw [← hx, jI hjE]; exact (HME.out.line hjE).2.2) ⟨bk, A⟩ (by show 0 ≤ A; omega) (by show A < 65536; omega) W
        rw [← hx, jI hjE, ← hpb, ← hA, hd3, hpb, hA, ← jI hjE, hx] at h9
        exact h9)
      have HHA := zh hA
      clear hq hrow hI hBi hnci hgi hci hri hBa hnca hga hca hra hx hA hl hlE hfo hjE
      go_upto_region 27 with (go_at_call 18; refine (HFO.out _).mono ?_; rintro e w5 ⟨rfl, hb5⟩)
      clear c81 cop
      go_cut [105] (fun s wx => s = .bool (decide (fo ≠ 2 ∧ fo ≠ 3)) ∧ wx = w5)
      case first =>
       rcases (show fo = 2 ∨ fo = 3 ∨ (fo ≠ 2 ∧ fo ≠ 3) by omega) with h2 | h3 | ⟨h2, h3⟩
       ·subst h2
        go_wp2_with fail
        go_meet
        exact ⟨rfl, rfl⟩
       ·subst h3
        go_wp2_with fail
        go_meet
        exact ⟨rfl, rfl⟩
       ·have e2 : (fo != 2) = true := by simp [h2]
        have e3 : (fo != 3) = true := by simp [h3]
        go_wp2_with fail
        go_meet
        exact ⟨by rw [decide_eq_true ⟨h2, h3⟩], rfl⟩
      case rest =>
      obtain ⟨rfl, rfl⟩ := hcut
      have HB5 := zh hb5
      clear hb5
      by_cases hfb : fo = 2 ∨ fo = 3
      ·rw [decide_eq_false (by omega)]
       obtain ⟨d, hdl, hd1, hd2, hd3, hd4⟩ := HTV.out hfb
       obtain ⟨D, hD⟩ : ∃ A : Int, E.pl.addr + E.off d = A := ⟨_, rfl⟩
       rw [hD] at hd3 hd4
       have HD2 := zh hd2
       have HD3 := zh hd3
       have HTG := zh hd4
       have hdi : (d : Int) < (ls.length : Int) := by omega
       have HGI5 := zh (zf HB5.out HGI.out)
       have HGA5 := zh (zf HB5.out HGA.out)
       have HQ5 := zh (zf HB5.out HQ.out)
       have H85 := zh (zf HB5.out H8J.out)
       have H95 := zh (zf HB5.out H9J.out)
       clear hD hd1 hd2 hd3 hd4 HTV HGI HGA HQ H8J H9J hfb
       go_upto_region 28 with fail
       refine ye [15] 17 (z5 [isV (.slice (some ⟨gi, 0, none⟩) ls.length c13), isV (.int .i64 j), isV (.pointer (some ⟨gi, j * 7, none⟩)), isV (.agg #[.int .i64 x.op, .int .i64 x.d, .int .i64 x.s, .int .u16 x.imm, .int .u16 x.aux, .int .i64 x.bank, .int .i64 x.size]), isV (.pointer (some ⟨g9, 0, none⟩)), isV (.int .i64 bk), isV (.slice (some ⟨ga, 0, none⟩) ls.length c14), isV (.int .i64 j), isV (.pointer (some ⟨ga, j, none⟩)), isV (.int .u16 A), isV (.agg #[.int .i64 bk, .int .u16 A]), isV (.tuple #[.agg #[.int .i64 bk, .int .u16 D], .bool true]), isV (.tuple #[.agg #[.int .i64 bk, .int .u16 D], .bool true]), isV (.agg #[.int .i64 bk, .int .u16 D]), isV (.bool true), newR wc.heap.size 37 2, newV wc.heap.size (.cells #[.int .i64 bk, .int .u16 D] 37 (0, 0))]) (nth [[0], [1], [2], [3], [4], [5], [6], [7], [8], [9], [10], [11], [12], [13], [14], [15], [15]]) (nth [[], [], [], [], [], [], [], [], [], [], [], [], [], [], [], [], [15]]) (nth [[], [], [0, 1], [2], [], [4], [], [], [6, 7], [8], [5, 9], [3, 10], [11], [12], [12], [], [15, 13, 11, 0, 1, 2, 3, 4, 5, 6, 7, 8, 9, 10, 12]]) [14, 16] (yU wc.heap.size wc wc.heap.size []) (by kernel_rfl) (by kernel_rfl) (⟨(Below.refl _ _).drew, zn _, zn _, (by intro x hx; cases hx), trivial⟩) (yU.grow) (zG ((za (zc _)  (za (zc _)  (za (zc _)  (za (zc _)  (za (zc _)  (za (zc _)  (za (zc _)  (za (zc _)  (za (zc _)  (za (zc _)  (za (zc _)  (za (zc _)  (za (zc _)  (za (zc _)  (za (zc _)  (za (zi.newR _ _ _)  (za (zi.newV _ _) zy))))))))))))))))))) (fun f F hF => ?_)
       simp only [List.take_succ_cons, List.take_zero, yb, Act.put, zD, zE, zF, Nat.reduceAdd] at hF
       subst hF
       refine ⟨ze ?_ (ze ?_ (ze ?_ (ze ?_ (ze ?_ (ze ?_ (ze ?_ (ze ?_ (ze ?_ (ze ?_ (ze ?_ (ze ?_ (ze ?_ (ze ?_ (ze ?_ (ze ?_ (ze ?_ (yf))))))))))))))))), ?_⟩
       ·intro w5 hS hF hD K hK
        rw [if_pos (by rfl)]
        exact svV hK rfl rfl rfl rfl (by first | rfl | kernel_rfl)  (by show _ = _; kernel_rfl)
       ·intro w5 hS hF hD K hK
        rw [if_pos (by rfl)]
        exact svV hK rfl rfl rfl rfl (by first | rfl | kernel_rfl)  (by show _ = _; kernel_rfl)
       ·intro w5 hS hF hD K hK
        obtain ⟨(e0 : f 0 = _), (e1 : f 1 = _), -⟩ := hF
        try simp only [e0, e1]
        rw [if_pos (by rfl)]
        go_simp
        refine hK.out _ _ rfl (zq rfl rfl rfl ?_)
        first | rfl | kernel_rfl
       ·intro w5 hS hF hD K hK
        obtain ⟨(e2 : f 2 = _), -⟩ := hF
        try simp only [e2]
        rw [if_pos (by rfl)]
        exact zx (xd _ _ rfl _ _ rfl _ _ _ (zf hS.1 HGI5.out) (insV x) HRI.out (by kernel_rfl)) (hK.out _ _ rfl (zq rfl rfl rfl (by first | rfl | kernel_rfl)))
       ·intro w5 hS hF hD K hK
        rw [if_pos (by rfl)]
        exact svV hK rfl rfl rfl rfl (by first | rfl | kernel_rfl)  (by show _ = _; kernel_rfl)
       ·intro w5 hS hF hD K hK
        obtain ⟨(e4 : f 4 = _), -⟩ := hF
        try simp only [e4]
        rw [if_pos (by rfl)]
        exact svC hK rfl rfl rfl rfl (by first | rfl | kernel_rfl)  rfl rfl (zf hS.1 H95.out) (by kernel_rfl) (fun _ => by kernel_rfl)
       ·intro w5 hS hF hD K hK
        rw [if_pos (by rfl)]
        exact svV hK rfl rfl rfl rfl (by first | rfl | kernel_rfl)  (by show _ = _; kernel_rfl)
       ·intro w5 hS hF hD K hK
        rw [if_pos (by rfl)]
        exact svV hK rfl rfl rfl rfl (by first | rfl | kernel_rfl)  (by show _ = _; kernel_rfl)
       ·intro w5 hS hF hD K hK
        obtain ⟨(e6 : f 6 = _), (e7 : f 7 = _), -⟩ := hF
        try simp only [e6, e7]
        rw [if_pos (by rfl)]
        go_simp
        refine hK.out _ _ rfl (zq rfl rfl rfl ?_)
        first | rfl | kernel_rfl
       ·intro w5 hS hF hD K hK
        obtain ⟨(e8 : f 8 = _), -⟩ := hF
        try simp only [e8]
        rw [if_pos (by rfl)]
        exact svC hK rfl rfl rfl rfl (by first | rfl | kernel_rfl)  rfl rfl (zf hS.1 HGA5.out) (HCA.out) (fun _ => by kernel_rfl)
       ·intro w5 hS hF hD K hK
        obtain ⟨(e5 : f 5 = _), (e9 : f 9 = _), -⟩ := hF
        try simp only [e5, e9]
        rw [if_pos (by rfl)]
        exact svV hK rfl rfl rfl rfl (by first | rfl | kernel_rfl)  (by show _ = _; kernel_rfl)
       ·intro w5 hS hF hD K hK
        obtain ⟨(e3 : f 3 = _), (e10 : f 10 = _), -⟩ := hF
        try simp only [e3, e10]
        rw [if_pos (by rfl)]
        go_simp
        go_at_call 19; refine (HTG.out _).mono ?_; rintro e w9 ⟨rfl, hbelow⟩; go_simp
        refine hK.out _ _ rfl (zP rfl rfl rfl hbelow ?_)
        first | rfl | kernel_rfl
       ·intro w5 hS hF hD K hK
        obtain ⟨(e11 : f 11 = _), -⟩ := hF
        try simp only [e11]
        rw [if_pos (by rfl)]
        exact svV hK rfl rfl rfl rfl (by first | rfl | kernel_rfl)  (by show _ = _; kernel_rfl)
       ·intro w5 hS hF hD K hK
        obtain ⟨(e12 : f 12 = _), -⟩ := hF
        try simp only [e12]
        rw [if_pos (by rfl)]
        exact svV hK rfl rfl rfl rfl (by first | rfl | kernel_rfl)  (by show _ = _; kernel_rfl)
       ·intro w5 hS hF hD K hK
        obtain ⟨(e12 : f 12 = _), -⟩ := hF
        try simp only [e12]
        rw [if_pos (by rfl)]
        exact svV hK rfl rfl rfl rfl (by first | rfl | kernel_rfl)  (by show _ = _; kernel_rfl)
       ·intro w5 hS hF hD K hK
        rw [if_pos (by rfl)]
        go_simp
        refine hK.out _ _ rfl (zr.new rfl rfl hS.2.2.1 rfl ?_)
        first | rfl | kernel_rfl
       ·intro w5 hS hF hD K hK
        obtain ⟨e15, (e13 : f 13 = _), (e11 : f 11 = _), (e0 : f 0 = _), (e1 : f 1 = _), (e2 : f 2 = _), (e3 : f 3 = _), (e4 : f 4 = _), (e5 : f 5 = _), (e6 : f 6 = _), (e7 : f 7 = _), (e8 : f 8 = _), (e9 : f 9 = _), (e10 : f 10 = _), (e12 : f 12 = _), -⟩ := hF
        obtain ⟨g15, c15, e15, hB15, hg15, hn15⟩ := e15
        replace e15 : f 15 = _ := e15
        try simp only [e15, e13, e11, e0, e1, e2, e3, e4, e5, e6, e7, e8, e9, e10, e12]
        rw [if_pos (by rfl)]
        refine wp_store_row _ _ _ rfl g15 _ rfl rfl _ _ hg15 (by kernel_rfl) hn15 (by kernel_rfl) ?_
        exact hK.out _ _ rfl (zr.set rfl rfl rfl rfl rfl e15 hB15 hB15 hg15 hS (ya.isV (ya.isV (ya.isV (ya.isV (ya.isV (ya.isV (ya.isV (ya.isV (ya.isV (ya.isV (ya.isV (ya.isV (ya.isV (ya.isV (ya.isV (ya.out (by rfl) (ya.out (by rfl) ya.nil))))))))))))))))))
       intro w5 hS hF
       obtain ⟨(e14 : f 14 = _), e16, -⟩ := hF
       obtain ⟨g15, e16, hB15, hg15⟩ := e16
       replace e16 : f 15 = _ := e16
       try simp only [e14, e16]
       simp only [List.drop_succ_cons, List.drop_zero]
       obtain ⟨gt, rfl⟩ : ∃ g : Nat, g = g15 := ⟨_, rfl⟩
       have HGT := zh hg15
       have HB6 := zh (HB5.out.trans (hS.1.mono HB5.out.size))
       have HGA6 := zh (zf hS.1 HGA5.out)
       have HQ6 := zh (zf hS.1 HQ5.out)
       have H86 := zh (zf hS.1 H85.out)
       have H96 := zh (zf hS.1 H95.out)
       clear hS hg15 HTG HRI HCA HGI5 HGA5 HQ5 H85 H95
       obtain ⟨we, rfl⟩ : ∃ we : World, we = w5 := ⟨_, rfl⟩
       go_upto_region 29 with fail
       refine zV [] 23 (z5 [isV (.bool true), isV (.bool false), isV (.bool false), isV (.pointer (some ⟨gt, 0, none⟩)), isV (.int .i64 bk), isV (.pointer (some ⟨g9, 0, none⟩)), isV (.int .i64 bk), isV (.bool false), isV (.bool false), isV (.bool false), isV (.pointer (some ⟨gt, 1, none⟩)), isV (.int .u16 D), isV (.slice (some ⟨ga, 0, none⟩) ls.length c14), isV (.pointer (some ⟨g8, 1, none⟩)), isV (.slice (some ⟨q, off, none⟩) ls.length cap), isV (.int .i64 j), isV (.pointer (some ⟨q, off + j * 12, none⟩)), isV (.pointer (some ⟨q, off + j * 12 + 8, none⟩)), isV (.int .i64 d), isV (.pointer (some ⟨ga, d, none⟩)), isV (.int .u16 D), isV (.bool false), isV (.bool false)]) (nth [[0], [1], [2], [3], [4], [5], [6], [7], [8], [9], [10], [11], [12], [13], [14], [15], [16], [17], [18], [19], [20], [21], [22]]) (nth [[], [], [], [], [], [], [], [], [], [], [], [], [], [], [], [], [], [], [], [], [], [], []]) (nth [[], [0], [1], [2], [3, 2], [2], [5, 2], [4, 6, 2], [2, 7], [8, 2], [9], [10, 9], [9], [9], [13, 9], [9], [14, 15, 9], [16, 9], [17, 9], [12, 18, 9], [19, 9], [11, 20, 9], [9, 21]]) [22] (fun w5 => Below we.heap.size we w5 ∧ True ∧ we.heap.size ≤ w5.heap.size ∧ True) (by kernel_rfl) (by kernel_rfl) (⟨(Below.refl _ _).drew, trivial, zn _, trivial⟩) (fun w w' h hb => ⟨h.1.trans (hb.mono h.1.size), trivial, Nat.le_trans h.2.2.1 hb.size, trivial⟩) (zG ((za (zc _)  (za (zc _)  (za (zc _)  (za (zc _)  (za (zc _)  (za (zc _)  (za (zc _)  (za (zc _)  (za (zc _)  (za (zc _)  (za (zc _)  (za (zc _)  (za (zc _)  (za (zc _)  (za (zc _)  (za (zc _)  (za (zc _)  (za (zc _)  (za (zc _)  (za (zc _)  (za (zc _)  (za (zc _)  (za (zc _) zy))))))))))))))))))))))))) (fun f F hF => ?_)
       simp only [List.take_succ_cons, List.take_zero, yb, Act.put, zD, zE, zF, Nat.reduceAdd] at hF
       subst hF
       refine ⟨zd ?_ (zd ?_ (zd ?_ (zd ?_ (zd ?_ (zd ?_ (zd ?_ (zd ?_ (zd ?_ (zd ?_ (zd ?_ (zd ?_ (zd ?_ (zd ?_ (zd ?_ (zd ?_ (zd ?_ (zd ?_ (zd ?_ (zd ?_ (zd ?_ (zd ?_ (zd ?_ (yd))))))))))))))))))))))), ?_⟩
       ·intro w5 hS hF hD K hK
        rw [if_pos (by rfl)]
        exact svV hK rfl rfl rfl rfl (by first | rfl | kernel_rfl)  (by show _ = _; kernel_rfl)
       ·intro w5 hS hF hD K hK
        obtain ⟨(e0 : f 0 = _), -⟩ := hF
        try simp only [e0]
        rw [if_pos (by rfl)]
        exact svV hK rfl rfl rfl rfl (by first | rfl | kernel_rfl)  (by show _ = _; kernel_rfl)
       ·intro w5 hS hF hD K hK
        obtain ⟨(e1 : f 1 = _), -⟩ := hF
        try simp only [e1]
        rw [if_pos (by rfl)]
        exact svV hK rfl rfl rfl rfl (by first | rfl | kernel_rfl)  (by show _ = _; kernel_rfl)
       ·intro w5 hS hF hD K hK
        obtain ⟨(e2 : f 2 = _), -⟩ := hF
        try simp only [e2]
        rw [if_pos (by rfl)]
        exact svV hK rfl rfl rfl rfl (by first | rfl | kernel_rfl)  (by show _ = _; kernel_rfl)
       ·intro w5 hS hF hD K hK
        obtain ⟨(e3 : f 3 = _), (e2 : f 2 = _), -⟩ := hF
        try simp only [e3, e2]
        rw [if_pos (by rfl)]
        exact svC hK rfl rfl rfl rfl (by first | rfl | kernel_rfl)  rfl rfl (zf hS.1 HGT.out) (by kernel_rfl) (fun _ => by kernel_rfl)
       ·intro w5 hS hF hD K hK
        obtain ⟨(e2 : f 2 = _), -⟩ := hF
        try simp only [e2]
        rw [if_pos (by rfl)]
        exact svV hK rfl rfl rfl rfl (by first | rfl | kernel_rfl)  (by show _ = _; kernel_rfl)
       ·intro w5 hS hF hD K hK
        obtain ⟨(e5 : f 5 = _), (e2 : f 2 = _), -⟩ := hF
        try simp only [e5, e2]
        rw [if_pos (by rfl)]
        exact svC hK rfl rfl rfl rfl (by first | rfl | kernel_rfl)  rfl rfl (zf hS.1 H96.out) (by kernel_rfl) (fun _ => by kernel_rfl)
       ·intro w5 hS hF hD K hK
        obtain ⟨(e4 : f 4 = _), (e6 : f 6 = _), (e2 : f 2 = _), -⟩ := hF
        try simp only [e4, e6, e2]
        rw [if_pos (by rfl)]
        go_simp
        refine hK.out _ _ rfl (zq rfl rfl rfl ?_)
        first | rfl | kernel_rfl
       ·intro w5 hS hF hD K hK
        obtain ⟨(e2 : f 2 = _), (e7 : f 7 = _), -⟩ := hF
        try simp only [e2, e7]
        rw [if_pos (by rfl)]
        exact svV hK rfl rfl rfl rfl (by first | rfl | kernel_rfl)  (by show _ = _; kernel_rfl)
       ·intro w5 hS hF hD K hK
        obtain ⟨(e8 : f 8 = _), (e2 : f 2 = _), -⟩ := hF
        try simp only [e8, e2]
        rw [if_pos (by rfl)]
        exact svV hK rfl rfl rfl rfl (by first | rfl | kernel_rfl)  (by show _ = _; kernel_rfl)
       ·intro w5 hS hF hD K hK
        obtain ⟨(e9 : f 9 = _), -⟩ := hF
        try simp only [e9]
        rw [if_pos (by rfl)]
        exact svV hK rfl rfl rfl rfl (by first | rfl | kernel_rfl)  (by show _ = _; kernel_rfl)
       ·intro w5 hS hF hD K hK
        obtain ⟨(e10 : f 10 = _), (e9 : f 9 = _), -⟩ := hF
        try simp only [e10, e9]
        rw [if_pos (by rfl)]
        exact svC hK rfl rfl rfl rfl (by first | rfl | kernel_rfl)  rfl rfl (zf hS.1 HGT.out) (by kernel_rfl) (fun _ => by kernel_rfl)
       ·intro w5 hS hF hD K hK
        obtain ⟨(e9 : f 9 = _), -⟩ := hF
        try simp only [e9]
        rw [if_pos (by rfl)]
        exact svV hK rfl rfl rfl rfl (by first | rfl | kernel_rfl)  (by show _ = _; kernel_rfl)
       ·intro w5 hS hF hD K hK
        obtain ⟨(e9 : f 9 = _), -⟩ := hF
        try simp only [e9]
        rw [if_pos (by rfl)]
        exact svV hK rfl rfl rfl rfl (by first | rfl | kernel_rfl)  (by show _ = _; kernel_rfl)
       ·intro w5 hS hF hD K hK
        obtain ⟨(e13 : f 13 = _), (e9 : f 9 = _), -⟩ := hF
        try simp only [e13, e9]
        rw [if_pos (by rfl)]
        exact svC hK rfl rfl rfl rfl (by first | rfl | kernel_rfl)  rfl rfl (zf hS.1 H86.out) (by kernel_rfl) (fun _ => by kernel_rfl)
       ·intro w5 hS hF hD K hK
        obtain ⟨(e9 : f 9 = _), -⟩ := hF
        try simp only [e9]
        rw [if_pos (by rfl)]
        exact svV hK rfl rfl rfl rfl (by first | rfl | kernel_rfl)  (by show _ = _; kernel_rfl)
       ·intro w5 hS hF hD K hK
        obtain ⟨(e14 : f 14 = _), (e15 : f 15 = _), (e9 : f 9 = _), -⟩ := hF
        try simp only [e14, e15, e9]
        rw [if_pos (by rfl)]
        go_simp
        refine hK.out _ _ rfl (zq rfl rfl rfl ?_)
        first | rfl | kernel_rfl
       ·intro w5 hS hF hD K hK
        obtain ⟨(e16 : f 16 = _), (e9 : f 9 = _), -⟩ := hF
        try simp only [e16, e9]
        rw [if_pos (by rfl)]
        go_simp
        refine hK.out _ _ rfl (zq rfl rfl rfl ?_)
        first | rfl | kernel_rfl
       ·intro w5 hS hF hD K hK
        obtain ⟨(e17 : f 17 = _), (e9 : f 9 = _), -⟩ := hF
        try simp only [e17, e9]
        rw [if_pos (by rfl)]
        exact svC hK rfl rfl rfl rfl (by first | rfl | kernel_rfl)  rfl rfl (zf hS.1 HQ6.out) (HD2.out) (fun _ => by kernel_rfl)
       ·intro w5 hS hF hD K hK
        obtain ⟨(e12 : f 12 = _), (e18 : f 18 = _), (e9 : f 9 = _), -⟩ := hF
        try simp only [e12, e18, e9]
        rw [if_pos (by rfl)]
        go_simp
        refine hK.out _ _ rfl (zq rfl rfl rfl ?_)
        first | rfl | kernel_rfl
       ·intro w5 hS hF hD K hK
        obtain ⟨(e19 : f 19 = _), (e9 : f 9 = _), -⟩ := hF
        try simp only [e19, e9]
        rw [if_pos (by rfl)]
        exact svC hK rfl rfl rfl rfl (by first | rfl | kernel_rfl)  rfl rfl (zf hS.1 HGA6.out) (HD3.out) (fun _ => by kernel_rfl)
       ·intro w5 hS hF hD K hK
        obtain ⟨(e11 : f 11 = _), (e20 : f 20 = _), (e9 : f 9 = _), -⟩ := hF
        try simp only [e11, e20, e9]
        rw [if_pos (by rfl)]
        go_simp
        refine hK.out _ _ rfl (zq rfl rfl rfl ?_)
        first | rfl | kernel_rfl
       ·intro w5 hS hF hD K hK
        obtain ⟨(e9 : f 9 = _), (e21 : f 21 = _), -⟩ := hF
        try simp only [e9, e21]
        rw [if_pos (by rfl)]
        exact svV hK rfl rfl rfl rfl (by first | rfl | kernel_rfl)  (by show _ = _; kernel_rfl)
       intro w5 hS hF
       obtain ⟨(e22 : f 22 = _), -⟩ := hF
       try simp only [e22]
       refine yN (by kernel_rfl) ?_
       have HB7 := zh (HB6.out.trans (hS.1.mono HB6.out.size))
       clear hS
       go_wp2_with fail
       go_roundw
       case rel => exact ⟨j + 1, by omega, by go_num, zh (HBJ.out.trans (HB7.out.mono HBJ.out.size))⟩
       case measure => simp [intOf]; omega
      ·rw [decide_eq_true (by omega)]
       go_wp2_with fail
       go_roundw
       case rel => exact ⟨j + 1, by omega, by go_num, zh (HBJ.out.trans (HB5.out.mono HBJ.out.size))⟩
       case measure => simp [intOf]; omega
     ·have hje : j = ls.length := by omega
      subst hje
      go_wp2_with fail
      go_ret
      exact ⟨rfl, HB4.out.trans ((HBW.out.trans (HBJ.out.mono HBW.out.size)).mono HB4.out.size)⟩
end Go.Proofs.Ythebmoggbgldmaa
