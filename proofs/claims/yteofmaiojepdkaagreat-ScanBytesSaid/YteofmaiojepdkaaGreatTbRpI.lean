/- The reference of chapters 03 and 05: ObjectAt, blank, walked. Condition: addresses are words; the image's banks have 4096 bytes. -/
import Derived.Test.YteofmaiojepdkaaGreatTbRpR
set_option linter.all false
namespace Go.Proofs.YteofmaiojepdkaaGreat
open Go Go.RowKit Go.Maps Go.Sort
abbrev objB (o : ObjI) : Obj := .cells #[.int .i64 o.bank, .int .u16 o.addr, .int .u16 o.size] 137
set_option maxRecDepth 100000 in
set_option maxHeartbeats 1000000 in
theorem robj_any (I : zk) (hI : I.Ok) (ba : Option Addr) (bc : Nat) (da : Option Addr) (dc : Nat) (b a : Int) (a0 : 0 ≤ a) (a1 : a < 65536) (w : World) (hV : yG w I ba bc da dc) :
  Calls Tryz.prog 80 #[.slice da I.data.length dc, .int .i64 b, .int .u16 a] w (ObjPost (inObj I b a) w) := by
 have hlen := hI.od
 have hob := hI.ob
 have hV' := hV.dt
 have hin : inObj I b a = I.data.any (hitO b a) := rfl
 rw [hin]
 obtain ⟨D, hD⟩ : ∃ D, I.data = D := ⟨_, rfl⟩
 rw [hD] at hlen hob hV' ⊢
 have HV := zh hV'
 have HOB := zh hob
 clear hin hV hV' hob hI hD
 have hle : D.length ≤ dc := HV.out.le
 go_enter Tryz.func80, Tryz.ntmps80
 go_wp2_with fail
 go_loopw [9] (fun i wr => ∃ k : Nat, k ≤ D.length ∧ i = .int .i64 k ∧ Hid ((D.take k).any (hitO b a) = false) ∧ Hid (Below w.heap.size w wr)) (fun i _ => D.length - (intOf i).toNat)
 case atStart => exact ⟨0, Nat.zero_le _, rfl, zh rfl, zh (Below.refl _ _)⟩
 case round =>
  obtain ⟨k, hk, rfl, HNO, HB⟩ := hrel
  by_cases hlt : k < D.length
  ·obtain ⟨o, ho⟩ : ∃ o, D[k]? = some o := ⟨_, List.getElem?_eq_getElem hlt⟩
   have hom := HOB.out o (List.mem_of_getElem? ho)
   obtain ⟨⟨c0, c1⟩, ⟨x0, x1⟩, ⟨y0, y1⟩⟩ := hom
   obtain ⟨g, off, cur, T, fr, rfl, hg, hex⟩ := RdS.elt (f := objL) (fun _ => rfl) (HV.out.below HB.out) ho
   have HG := zh hg
   have HEX := zh hex
   have HO := zh ho
   have HLT := zh hlt
   clear hg hex ho
   go_upto_region 5 with (first
    | (refine lmT 137 ([.int .i64 o.bank, .int .u16 o.addr, .int .u16 o.size]) (HG.out) (HEX.out) ?_)
    | (refine stN ?_))
   have HN := zh (heap_alloc_new wr (objB o))
   have HB5 := zh (HB.out.alloc HB.out.size (objB o))
   obtain ⟨w5, hw5⟩ : ∃ w5, wr.alloc (objB o) = w5 := ⟨_, rfl⟩
   obtain ⟨gn, hgn⟩ : ∃ g, wr.heap.size = g := ⟨_, rfl⟩
   rw [hw5] at HN HB5 ⊢
   rw [hgn] at HN ⊢
   clear hw5 hgn
   have hcn := fun q => cell_of_row w5 gn q _ _ _ HN.out
   have e1 : wrap64 (o.addr + o.size) = o.addr + o.size := by unfold wrap64; omega
   by_cases h1 : o.bank = b
   ·by_cases h2 : o.addr ≤ a
    ·by_cases h3 : a < o.addr + o.size
     ·have HANY := zh (show D.any (hitO b a) = true from List.any_eq_true.2 ⟨o, List.mem_of_getElem? HO.out, by simp [hitO, h1, h2, h3]⟩)
      have h4 : (o.bank == b) = true := by simp [h1]
      clear h1
      go_wp2_with fail
      go_quiet (fail)
      go_wp2
      go_ret3
      refine ⟨k, a - o.addr, ?_, below_drewN HB5.out _⟩
      rw [HANY.out]
      rfl
     ·have HNA := zh (show hitO b a o = false by simp [hitO, h3])
      have h4 : (o.bank == b) = true := by simp [h1]
      have h5 : o.addr + o.size ≤ a := by omega
      clear h1
      go_wp2_with fail
      go_roundw
      case rel => exact ⟨k + 1, HLT.out, by go_num, zh (by rw [any_take _ _ _ _ HO.out, HNO.out, HNA.out]; rfl), HB5⟩
      case measure => have h1 := HLT.out; simp [intOf]; omega
    ·have HNA := zh (show hitO b a o = false by simp [hitO, h2])
     have h4 : (o.bank == b) = true := by simp [h1]
     have h5 : a < o.addr := by omega
     clear h1
     go_wp2_with fail
     go_roundw
     case rel => exact ⟨k + 1, HLT.out, by go_num, zh (by rw [any_take _ _ _ _ HO.out, HNO.out, HNA.out]; rfl), HB5⟩
     case measure => have h1 := HLT.out; simp [intOf]; omega
   ·have HNA := zh (show hitO b a o = false by simp [hitO, h1])
    have h4 : (o.bank == b) = false := by simp [h1]
    go_wp2_with fail
    go_roundw
    case rel => exact ⟨k + 1, HLT.out, by go_num, zh (by rw [any_take _ _ _ _ HO.out, HNO.out, HNA.out]; rfl), HB5⟩
    case measure => have h1 := HLT.out; simp [intOf]; omega
  ·obtain rfl : k = D.length := by omega
   have HNO := zh (show D.any (hitO b a) = false by have := HNO.out; rwa [List.take_of_length_le (zn _)] at this)
   go_wp2_with fail
   go_ret3
   exact ⟨0, 0, by rw [HNO.out]; rfl, HB.out⟩
set_option maxRecDepth 100000 in
set_option maxHeartbeats 4000000 in
theorem blank_any (I : zk) (hI : I.Ok) (ba : Option Addr) (bc : Nat) (da : Option Addr) (dc : Nat) (ra : Option Addr) (rn rc : Nat) (w : World) (hV : yG w I ba bc da dc) :
  Calls Tryz.prog 43 #[.agg #[.slice ba I.banks.length bc, .int .u16 I.entry, .int .u16 I.vector, .slice da I.data.length dc, .slice ra rn rc]] w fun e w' => ∃ gs v, e = .returned v ∧ gs.length = I.banks.length ∧ xM w.heap.size gs (fun b o => yj I b o) v w' ∧ Below w.heap.size w w' := by
 have HI := zh hI
 have HV := zh hV
 have HB0 := zh (Bx.one w (z6 I ba bc da dc ra rn rc))
 have hn1 := hI.n64
 have hle := hV.bk.le
 have hc0 := fun o => cell_of_row _ w.heap.size o _ _ _ HB0.out.b0
 clear hI hV
 go_enter Tryz.func43, Tryz.ntmps43
 go_wp2_with fail
 clear hc0
 go_loopw [3, 4] (fun vo i wr => ∃ gs : List Nat, gs.length ≤ I.banks.length ∧ i = .int .i64 gs.length ∧ Hid (xM w.heap.size gs (fun b o => yj I b o) vo wr) ∧ Hid (Bx [z6 I ba bc da dc ra rn rc] w wr)) (fun _ i _ => I.banks.length - (intOf i).toNat)
 case atStart => exact ⟨[], Nat.zero_le _, rfl, zh ⟨World.ownsRow_nil _ _ _ _, List.nodup_nil, by simp, by simp⟩, HB0⟩
 case round =>
  clear HB0
  obtain ⟨gs, hgl, rfl, HC, HB⟩ := hrel
  by_cases hlt : gs.length < I.banks.length
  ·obtain ⟨s, hs⟩ : ∃ s, I.banks[gs.length]? = some s := ⟨_, List.getElem?_eq_getElem hlt⟩
   have hsz : s.size = 4096 := HI.out.sz s (List.mem_of_getElem? hs)
   obtain ⟨g, off, hAe, hgs, hcell, -, -⟩ := (HV.out.below HB.out.bb).bank hs
   subst hAe
   have HLT := zh hlt
   have HGL := zh hgl
   have hc0 := fun o => cell_of_row wr w.heap.size o _ _ _ HB.out.b0
   clear hgl hs
   obtain ⟨iU, hiU, hzU, hzU1, hzU2⟩ := info_parts infoU8
   go_upto_region 6 with (refine wpList_make_full _ rfl _ _ 73 rfl wr.heap.size 5 iU (.int .u8 0) 1 Tryz.underlying73 hiU hzU hzU1 .i64 .i64 4096 4096 4096 rfl rfl rfl rfl (by rw [hzU2]; decide) (by decide) (zn _) ?_; intro w3 ho3 hg3)
   clear hc0
   have h3 := own_fullS ho3
   rw [← rowC_zero] at h3
   have hb3 := jb hg3
   have H3 := zh h3
   have HC3 := zh (HC.out.below hb3)
   have HB3 := zh (HB.out.stay hb3)
   have HZ := zh HB.out.z
   obtain ⟨gc, hgc⟩ : ∃ gc, wr.heap.size = gc := ⟨_, rfl⟩
   have HNG := zh (show ∀ g ∈ gs, g < gc from fun g hg => by
    obtain ⟨b, hb, he⟩ := List.mem_iff_getElem.1 hg
    have h1 := HC.out.row b g (by rw [List.getElem?_eq_getElem hb, he])
    rw [← hgc]
    exact (Array.getElem?_eq_some_iff.1 h1).1)
   rw [hgc] at H3 HZ ⊢
   clear ho3 hg3 h3 hb3 hgc hiU hzU hzU1 hzU2 iU
   go_wp2_with fail
   obtain ⟨wo, rfl⟩ : ∃ wo : World, wo = wr := ⟨_, rfl⟩
   go_loopw [6] (fun i wr => ∃ k : Nat, k ≤ 4096 ∧ i = .int .i64 k ∧ Hid (wr.heap[gc]? = some (.cells (rowC (upN (fun o => yj I gs.length o) k)) 5 (0, 0))) ∧ Hid (xM w.heap.size gs (fun b o => yj I b o) u3 wr) ∧ Hid (Bx [z6 I (some ⟨g, off, none⟩) bc da dc ra rn rc] w wr)) (fun i _ => 4096 - (intOf i).toNat)
   case atStart => exact ⟨0, by omega, rfl, zh (by rw [upN_zero]; exact H3.out), HC3, HB3⟩
   case round =>
    clear H3 HC3 HB3 HC HB
    obtain ⟨k, hk, rfl, H3, HC, HB⟩ := hrel
    by_cases hkl : k < 4096
    ·have HOB := zh (fun W hv => robj_any I HI.out (some ⟨g, off, none⟩) bc da dc gs.length (k : Int) (by omega) (by omega) W hv)
     have hwr : IntKind.u16.wrap (k : Int) = k := by unfold IntKind.wrap; simp [IntKind.bits, IntKind.signed]; omega
     have hc0 := fun o => cell_of_row wr w.heap.size o _ _ _ HB.out.b0
     have HVR := zh (HV.out.below HB.out.bb)
     have hkc : wr.cell? ⟨gc, k, none⟩ = some (.int .u8 0) := by
      rw [cell_of_row _ _ _ _ _ _ H3.out, yM _ hkl]
      unfold upN
      rw [if_neg (by omega)]
     have hgcl := (Array.getElem?_eq_some_iff.1 H3.out).1
     have HKL := zh hkl
     generalize hfo : inObj I gs.length k = fo at HOB
     have HFO := zh (show yj I gs.length k = if fo then 5 else 0 by unfold yj; rw [hfo])
     clear hfo
     go_upto_region 10 with (go_at_call 80; (with_reducible refine (HOB.out _ HVR.out).mono ?_); rintro e5 w5 ⟨x5, y5, rfl, hb5⟩; have H35 := zh (za hb5 H3.out); have HC5 := zh (HC.out.below hb5); have HB5 := zh (HB.out.stay hb5); have HS5 := zh hb5.size; clear hb5)
     have hk1 := HKL.out
     clear hkc hc0
     cases fo with
     | true =>
      have hk5 : w5.cell? ⟨gc, k, none⟩ = some (.int .u8 0) := by
       rw [cell_of_row _ _ _ _ _ _ H35.out, yM _ hk1]
       unfold upN
       rw [if_neg (by omega)]
      have hf5 : w5.frozen? ⟨gc, k, none⟩ = false := frozen_of_row _ _ _ _ _ H35.out
      have hk6 : (k : Int) < 65536 := by omega
      go_upto_if 44 with fail
      go_wp2_with fail
      go_roundw
      case rel => exact ⟨k + 1, HKL.out, by go_num, zh (by rw [← upN_put (fun o => yj I gs.length o) k 5 HFO.out, ← rowC_set]; exact heap_setCell_same H35.out (i := k) _), zh (HC5.out.aside H35.out HNG.out), zh (HB5.out.keep ((Below.refl _ _).setCell (p := ⟨gc, k, none⟩) HZ.out _))⟩
      case measure => have h1 := HKL.out; simp [intOf]; omega
     | false =>
      go_wp2_with fail
      go_roundw
      case rel => exact ⟨k + 1, HKL.out, by go_num, zh (by rw [upN_same (fun o => yj I gs.length o) k HFO.out]; exact H35.out), HC5, HB5⟩
      case measure => have h1 := HKL.out; simp [intOf]; omega
    ·obtain rfl : k = 4096 := by omega
     have h3 := H3.out
     rw [upN_full] at h3
     have H3F := zh h3
     clear h3 H3
     have hgcl := (Array.getElem?_eq_some_iff.1 H3F.out).1
     have HOa := zh (HC.out.own.alloc (.cells #[clV gc] 73))
     have hb2 : Below wr.heap.size wr (wr.alloc (.cells #[clV gc] 73)) := (Below.refl _ _).alloc (zn _) _
     have HCa := zh (HC.out.below hb2)
     have HBa := zh (HB.out.stay hb2)
     have H3a := zh (za hb2 H3F.out)
     have HBS := zh (show w.heap.size ≤ (wr.alloc (.cells #[clV gc] 73)).heap.size from Nat.le_trans HB.out.bb.size hb2.size)
     have hgl2 : gs.length ≤ 100000000000 := by have := HGL.out; omega
     have HG2 := zh hgl2
     have hk1 := HLT.out
     clear hb2 hgl2
     go_wp2_with (first
      | (refine zJ (.tmp 48) (.tmp 50) 34 73 rfl 1 24 _ infoBys Tryz.underlying34 rfl (by decide) (by decide) w.heap.size HBS.out u3 gs.length (gs.map clV) rfl HOa.out HG2.out wr.heap.size 1 _ _ _ rfl (heap_alloc_new wr _) rfl rfl (by decide) (by decide) rfl ?_
         intro ga cp w6 ho6 hg6 hv6
         have HO6 := zh ho6
         have HGR := zh hg6
         clear ho6 hg6 hv6))
     have hbx := HBa.out.grown1 HGR.out (fun e => ye HOa.out HBa.out.b0 (fun _ _ => zm (by decide)) _ e rfl) (fun k e => (HOa.out.lt k e).1)
     go_roundw
     case rel => exact ⟨gs ++ [gc], by have := HLT.out; simp; omega, by simp, zh (HCa.out.snoc H3a.out HNG.out (Nat.le_of_succ_le (by have := HZ.out; simpa using this)) HO6.out HGR.out), zh hbx⟩
     case measure => have h1 := HLT.out; simp [intOf]; omega
  ·have hge : gs.length = I.banks.length := by omega
   have hc0 := fun o => cell_of_row wr w.heap.size o _ _ _ HB.out.b0
   go_wp2_with fail
   go_ret
   exact ⟨gs, _, rfl, hge, HC.out, HB.out.bb⟩
end Go.Proofs.YteofmaiojepdkaaGreat
