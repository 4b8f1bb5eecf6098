/- The reference of chapter 05: what One holds in memory while it works. No condition beyond what each states. -/
import Derived.Test.YteofmaiojepdkaaGreatTbRpJ
set_option linter.all false
namespace Go.Proofs.YteofmaiojepdkaaGreat
open Go Go.RowKit Go.Maps Go.Sort
theorem ext_cell {c : Array Value} {o n r : Nat} {xs : List Value} (h : (c.extract o (o + n)).toList = xs) (hr : r < n) : c[o + r]? = xs[r]? := by
 rw [← h, Array.toList_extract, List.extract_eq_drop_take, List.getElem?_take, if_pos (by omega), List.getElem?_drop, Array.getElem?_toList]
@[go_sem] theorem flw_tab (a b c d : Value) (W : World) : (Instr.field 62 (.agg #[a, b, c, d]) 3).run Tryz.prog W = .ok d W := by kernel_rfl
def tbU (c : Nat → Nat → Int) (q : zb) : Nat → Nat → Int := fun b o => if (q.bank = b ∧ zI q = o) ∧ (c b o = 0 ∨ c b o = 5) then 4 else c b o
def tbL (c : Nat → Nat → Int) (l : List zb) : Nat → Nat → Int := l.foldl tbU c
theorem tbL_snoc (c : Nat → Nat → Int) (l : List zb) (q : zb) : tbL c (l ++ [q]) = tbU (tbL c l) q := by unfold tbL; rw [List.foldl_append]; rfl
theorem tbU_put {c : Nat → Nat → Int} {q : zb} {pb o : Nat} (hb : q.bank = pb) (ho : zI q = o) (h : c pb o = 0 ∨ c pb o = 5) : (fun b' o' => if b' = pb ∧ o' = o then (4 : Int) else c b' o') = tbU c q := by
 funext b' o'
 unfold tbU
 rw [hb, ho]
 by_cases h1 : b' = pb ∧ o' = o
 ·obtain ⟨rfl, rfl⟩ := h1
  rw [if_pos ⟨rfl, rfl⟩, if_pos ⟨⟨rfl, rfl⟩, h⟩]
 ·rw [if_neg h1, if_neg (fun e => h1 ⟨by have := e.1.1; omega, e.1.2.symm⟩)]
theorem tbU_same {c : Nat → Nat → Int} {q : zb} {pb o : Nat} (hb : q.bank = pb) (ho : zI q = o) (h : ¬ (c pb o = 0 ∨ c pb o = 5)) : tbU c q = c := by
 funext b' o'
 unfold tbU
 rw [hb, ho]
 refine if_neg fun e => h ?_
 have h1 : b' = pb := by have := e.1.1; omega
 have h2 : o' = o := e.1.2.symm
 subst h1 h2
 exact e.2
theorem flow_tb (I : zk) (x : Ins) (p : zb) (h : ¬ x.op = 133) : (yU I x p).tb = [] := by
 have h0 := fall_tb x p
 have h1 : (toF (zR x p) (optT (zU x p))).tb = [] := by rw [toF_tb]; exact h0
 unfold yU
 split
 ·split <;> exact h0
 ·split
  ·exact h1
  ·split
   ·exact h0
   ·split <;> exact h0
def TbJ (c : Nat → Nat → Int) (bl B : Nat) (gs : List Nat) (vc vr vi : Value) (iss : List zM) (w0 w3 : World) (tb : List zb) (k : Nat) (W : World) : Prop := RkW bl B gs (tbL c (tb.take k)) vc vr vi iss w0 W ∧ zg (fun j => j = bl ∨ j ∈ gs) w3 W
set_option maxRecDepth 100000 in
set_option maxHeartbeats 4000000 in
theorem rtables_any (I : zk) (hI : I.Ok) (ba : Option Addr) (bc : Nat) (da : Option Addr) (dc : Nat) (ra : Option Addr) (rn rc : Nat) (p : zb) (hok : okI I p) (hp : yO p) (bl B : Nat) (gs : List Nat) (hgs : gs.length = I.banks.length) (c : Nat → Nat → Int) (vc vr vi : Value) (iss : List zM) (w0 w : World) (hV : yG w I ba bc da dc) (hR : RkW bl B gs c vc vr vi iss w0 w) :
  Calls Tryz.prog 48 #[.agg #[.slice ba I.banks.length bc, .int .u16 I.entry, .int .u16 I.vector, .slice da I.data.length dc, .slice ra rn rc], .pointer (some ⟨bl, 0, none⟩), .agg #[.int .i64 p.bank, .int .u16 p.addr]] w
   (RmkP bl B gs (tbL c (fl I p).tb) vc vr iss w0) := by
 have HAT := zh (fun W hv => rat_any I hI ba bc da dc ra rn rc p hp.2.1 hp.2.2 W hv)
 have hib := ins_bd hok
 have HFL := zh (fun W hv => rflows_any I hI ba bc da dc ra rn rc (atI I p).1 hib.1 hib.2.2 (ok_size hok) p hp.2.1 hp.2.2 W hv)
 have HFB := zh (fl_bd hp hok)
 have HTA := zh (show ∀ q ∈ (fl I p).tb, 0 ≤ q.addr ∧ q.addr < 65536 from flow_addr I (atI I p).1 p)
 have HNT := zh (flow_tb I (atI I p).1 p)
 have hfl : yU I (atI I p).1 p = fl I p := rfl
 rw [hfl] at HFL HNT
 have HGS := zh hgs
 have HV := zh hV
 have HR := zh hR
 have HB := zh (Bx.two w (z6 I ba bc da dc ra rn rc) (zo p))
 generalize hx : (atI I p).1 = x at *
 obtain ⟨x8, hx8⟩ : ∃ x8, (atI I p).2 = x8 := ⟨_, rfl⟩
 rw [hx8] at HAT
 have HCI := zh hI
 clear hib hfl hgs hV hR hok hx hx8 hI
 go_enter Tryz.func48, Tryz.ntmps48
 go_upto_region 2 with (first
  | (refine ldT 47 (HB.out.b1) ?_)
  | (refine ldT 31 (HB.out.b0) ?_)
  | (refine stN ?_)
  | (go_at_call 25; (with_reducible refine (HAT.out _ (HV.out.below HB.out.bb)).mono ?_); rintro e2 w2 ⟨rfl, hb2⟩; have HB2 := zh hb2; clear hb2))
 (refine pts ?_)
 have hb3 : Below w2.heap.size w2 (w2.alloc (xS x)) := (Below.refl _ _).alloc (zn _) _
 have HX := zh ((HB.out.stay HB2.out).stay hb3)
 have HI3 := zh (heap_alloc_new w2 (xS x))
 have HW3 := zh (HB.out.bb.trans ((HB2.out.trans (hb3.mono HB2.out.size)).mono HB.out.bb.size))
 obtain ⟨gx, hgx⟩ : ∃ gx, w2.heap.size = gx := ⟨_, rfl⟩
 obtain ⟨w3, hw3⟩ : ∃ w3, w2.alloc (xS x) = w3 := ⟨_, rfl⟩
 rw [hw3] at HX HI3 HW3 ⊢
 rw [hgx] at HI3 ⊢
 clear hb3 hgx hw3 HB HB2 HAT
 have hcx := fun q => cell_of_row w3 gx q _ _ _ HI3.out
 by_cases h133 : x.op = 133
 ·have h1 : (x.op == 133) = true := by simpa using h133
  clear h133
  go_upto_region 3 with fail
  clear hcx h1
  go_upto_region 4 with (first
   | (refine ldT 47 (HX.out.b1) ?_)
   | (refine ldT 31 (HX.out.b0) ?_)
   | (refine ldT 53 (HI3.out) ?_)
   | (go_at_call 23; (with_reducible refine (HFL.out _ (HV.out.below HX.out.bb)).mono ?_); rintro e4 w4 ⟨⟨vn, vcl, vi4, vt, rfl, -, -, -, hot⟩, hb4⟩; obtain ⟨At, ct, rfl⟩ := own_sl hot; have HT4 := zh hot; have HB4 := zh hb4; clear hot hb4))
  (refine pts ?_)
  have HW4 := zh (HW3.out.trans (HB4.out.mono HW3.out.size))
  have htl : (fl I p).tb.length ≤ 600 := HFB.out.lt
  have hlc : (fl I p).tb.length ≤ ct := (yd HT4.out).le
  have HTI := zh HFB.out.tb
  obtain ⟨tb, htb⟩ : ∃ tb, (fl I p).tb = tb := ⟨_, rfl⟩
  rw [htb] at htl hlc HTI HTA HT4 ⊢
  have HTLL := zh htl
  have HTBE := zh htb
  clear htb HFB HFL HNT
  have HJ := zh (show TbJ c bl B gs vc vr vi iss w0 w4 tb 0 w4 from ⟨HR.out.below HW4.out, zg.refl _ _⟩)
  go_wp2_with fail
  go_loopw [8] (fun i wr => ∃ k : Nat, k ≤ tb.length ∧ i = .int .i64 k ∧ Hid (TbJ c bl B gs vc vr vi iss w0 w4 tb k wr)) (fun i _ => tb.length - (intOf i).toNat)
  case atStart => exact ⟨0, Nat.zero_le _, rfl, HJ⟩
  case round =>
   clear HJ
   obtain ⟨k, hk, rfl, HJ⟩ := hrel
   by_cases hlt : k < tb.length
   ·obtain ⟨q, hq⟩ : ∃ q, tb[k]? = some q := ⟨_, List.getElem?_eq_getElem hlt⟩
    have hqm := List.mem_of_getElem? hq
    have hqi := HTI.out q hqm
    have hqa := HTA.out q hqm
    obtain ⟨pb, hpb⟩ := Int.eq_ofNat_of_zero_le (xp (y6 hqi).1).1
    have hpl : pb < gs.length := by have h1 := (y6 hqi).2; have h2 := HGS.out; omega
    obtain ⟨gr, hgr⟩ : ∃ gr, gs[pb]? = some gr := ⟨_, List.getElem?_eq_getElem hpl⟩
    have hrt := zi HT4.out HJ.out.2 (fun j hj => by
     obtain ⟨-, cs, hcc⟩ := zz HT4.out j hj
     exact (HR.out.below HW4.out).ne hcc (by decide) (by decide))
    have hrow := (yd hrt).row hlt
    rw [show zp tb = tb.flatMap yQ from rfl, xT yQ 2 (fun _ => rfl) tb k q hq] at hrow
    obtain ⟨g3, off3, cur3, T3, fr3, hAt, hg3, hex3, -, -⟩ := hrow
    subst hAt
    obtain ⟨o, ho⟩ : ∃ o, zI q = o := ⟨_, rfl⟩
    have htm : q.addr.tmod 4096 = (o : Int) := by
     have h2 : zI q = (q.addr % 4096).toNat := rfl
     rw [Int.tmod_eq_emod_of_nonneg hqa.1]
     omega
    have hq0 : wr.cell? ⟨g3, off3 + k * 2, none⟩ = some (.int .i64 pb) := by
     rw [cell_of_row _ _ _ _ _ _ hg3]
     have h1 := ext_cell hex3 (r := 0) (by omega)
     rw [← hpb]
     exact h1
    have hq1 : wr.cell? ⟨g3, off3 + k * 2 + 1, none⟩ = some (.int .u16 q.addr) := by
     rw [cell_of_row _ _ _ _ _ _ hg3]
     exact ext_cell hex3 (r := 1) (by omega)
    have hqa0 := hqa.1
    have hqa1 := hqa.2
    have HQ := zh (show tb.take (k + 1) = tb.take k ++ [q] by rw [List.take_succ, hq]; rfl)
    have HLT := zh hlt
    have HGR := zh hgr
    have HPB := zh hpb
    have HO := zh ho
    have ho4 : o < 4096 := by rw [← ho]; exact offP_lt q
    have HO4 := zh ho4
    have hpli : (pb : Int) < (gs.length : Int) := by omega
    have HQ0 := zh hq0
    have hk2 := hlt
    clear hrt hqm hqi hqa hq hgr hg3 hex3 hpb ho hpl
    go_upto_region 8 with fail
    clear hq1 htm
    obtain ⟨gv, cap, hvc, hle, hcell, -⟩ := HJ.out.1.cl.slice HGR.out
    subst hvc
    have HBD := zh (Below.refl wr.heap.size wr).drew
    have hrw := HJ.out.1.cl.row pb gr HGR.out
    have hoi : (o : Int) < 4096 := by omega
    have hct : wr.cell? ⟨gr, o, none⟩ = some (.int .u8 (tbL c (tb.take k) pb o)) := by rw [cell_of_row _ _ _ _ _ _ hrw, yM _ ho4]
    obtain ⟨cc, hcc⟩ : ∃ cc, tbL c (tb.take k) pb o = cc := ⟨_, rfl⟩
    rw [hcc] at hct
    have HCE := zh hcell
    have HCT := zh hct
    have HCC := zh hcc
    clear hcell hrw hct hcc hq0 ho4
    refine zr (S := fun W => (∀ j, W.cell? ⟨bl, j, none⟩ = (#[.slice (some ⟨gv, 0, none⟩) gs.length cap, vr, vi] : Array Value)[j]?) ∧ W.cell? ⟨g3, off3 + k * 2, none⟩ = some (.int .i64 pb) ∧ W.cell? ⟨gv, pb, none⟩ = some (.slice (some ⟨gr, 0, none⟩) 4096 4096) ∧ W.cell? ⟨gr, o, none⟩ = some (.int .u8 cc)) [14] (by kernel_rfl) ⟨fun j => cell_of_row _ _ _ _ _ _ (za HBD.out HJ.out.1.hl), HQ0.out, HCE.out, HCT.out⟩ (fun hHeld => ?_)
    (refine tz 0 ?_)
    (refine tz 1 ?_)
    (refine tz 2 ?_)
    (refine tz 3 ?_)
    (refine tz 4 ?_)
    (refine tz 5 ?_)
    (refine tz 6 ?_)
    (refine tz 7 ?_)
    (refine tz 8 ?_)
    (refine tz 9 ?_)
    (refine tz 10 ?_)
    (refine tz 11 ?_)
    (refine tz 12 ?_)
    (refine tz 13 ?_)
    refine z8 14 ?_
    simp only [List.drop_succ_cons, List.drop_zero]
    obtain ⟨wd, hwd⟩ : ∃ wd, wr.drew = wd := ⟨_, rfl⟩
    rw [hwd] at HBD hHeld ⊢
    have HS := zh hHeld
    have HJD := zh (show TbJ c bl B gs (.slice (some ⟨gv, 0, none⟩) gs.length cap) vr vi iss w0 w4 tb k wd from ⟨HJ.out.1.below HBD.out, HJ.out.2.trans (zg.ofBelow (bs := fun _ => False) HBD.out) (fun _ _ e => e.elim)⟩)
    clear hwd hHeld HCE HCT HQ0 HJ
    by_cases hcz : cc = 0 ∨ cc = 5
    ·have HCZ := zh hcz
     have hcs : cc = 0 ∨ ((cc == 0) = false ∧ cc = 5) := by
      rcases hcz with h | h
      ·exact .inl h
      ·exact .inr ⟨by rw [h]; rfl, h⟩
     clear hcz
     rcases hcs with h1 | ⟨h1, h2⟩
     ·have h1 : (cc == 0) = true := by rw [h1]; rfl
      go_upto_region 10 with fail
      have HBE := zh (Below.refl wd.heap.size wd).drew
      refine zr (S := fun W => (∀ j, W.cell? ⟨bl, j, none⟩ = (#[.slice (some ⟨gv, 0, none⟩) gs.length cap, vr, vi] : Array Value)[j]?) ∧ W.cell? ⟨g3, off3 + k * 2, none⟩ = some (.int .i64 pb) ∧ W.cell? ⟨gv, pb, none⟩ = some (.slice (some ⟨gr, 0, none⟩) 4096 4096)) [13] (by kernel_rfl) ⟨HS.out.1, HS.out.2.1, HS.out.2.2.1⟩ (fun hHeld => ?_)
      (refine tz 0 ?_)
      (refine tz 1 ?_)
      (refine tz 2 ?_)
      (refine tz 3 ?_)
      (refine tz 4 ?_)
      (refine tz 5 ?_)
      (refine tz 6 ?_)
      (refine tz 7 ?_)
      (refine tz 8 ?_)
      (refine tz 9 ?_)
      (refine tz 10 ?_)
      (refine tz 11 ?_)
      (refine tz 12 ?_)
      refine z8 13 ?_
      simp only [List.drop_succ_cons, List.drop_zero]
      obtain ⟨we, hwe⟩ : ∃ we, wd.drew = we := ⟨_, rfl⟩
      rw [hwe] at HBE ⊢
      clear hHeld
      have HJE := zh (show TbJ c bl B gs (.slice (some ⟨gv, 0, none⟩) gs.length cap) vr vi iss w0 w4 tb k we from ⟨HJD.out.1.below HBE.out, HJD.out.2.trans (zg.ofBelow (bs := fun _ => False) HBE.out) (fun _ _ e => e.elim)⟩)
      have hrw := HJE.out.1.cl.row pb gr HGR.out
      have hct : we.cell? ⟨gr, o, none⟩ = some (.int .u8 (tbL c (tb.take k) pb o)) := by rw [cell_of_row _ _ _ _ _ _ hrw, yM _ HO4.out]
      have hft : we.frozen? ⟨gr, o, none⟩ = false := frozen_of_row _ _ _ _ _ hrw
      have hk2 := HLT.out
      have hk3 := HTLL.out
      clear hrw hwe
      go_wp2_with fail
      go_roundw
      case rel =>
       refine ⟨k + 1, HLT.out, by go_num, zh ⟨?_, HJE.out.2.setCell _ (fun _ => .inr (List.mem_of_getElem? HGR.out))⟩⟩
       rw [HQ.out, tbL_snoc, ← tbU_put HPB.out HO.out (by rw [HCC.out]; exact HCZ.out)]
       exact HJE.out.1.put HGR.out 4
      case measure => have h1 := HLT.out; simp [intOf]; omega
     ·have h2 : (cc == 5) = true := by rw [h2]; rfl
      go_upto_region 10 with fail
      have HBE := zh (Below.refl wd.heap.size wd).drew
      refine zr (S := fun W => (∀ j, W.cell? ⟨bl, j, none⟩ = (#[.slice (some ⟨gv, 0, none⟩) gs.length cap, vr, vi] : Array Value)[j]?) ∧ W.cell? ⟨g3, off3 + k * 2, none⟩ = some (.int .i64 pb) ∧ W.cell? ⟨gv, pb, none⟩ = some (.slice (some ⟨gr, 0, none⟩) 4096 4096)) [13] (by kernel_rfl) ⟨HS.out.1, HS.out.2.1, HS.out.2.2.1⟩ (fun hHeld => ?_)
      (refine tz 0 ?_)
      (refine tz 1 ?_)
      (refine tz 2 ?_)
      (refine tz 3 ?_)
      (refine tz 4 ?_)
      (refine tz 5 ?_)
      (refine tz 6 ?_)
      (refine tz 7 ?_)
      (refine tz 8 ?_)
      (refine tz 9 ?_)
      (refine tz 10 ?_)
      (refine tz 11 ?_)
      (refine tz 12 ?_)
      refine z8 13 ?_
      simp only [List.drop_succ_cons, List.drop_zero]
      obtain ⟨we, hwe⟩ : ∃ we, wd.drew = we := ⟨_, rfl⟩
      rw [hwe] at HBE ⊢
      clear hHeld
      have HJE := zh (show TbJ c bl B gs (.slice (some ⟨gv, 0, none⟩) gs.length cap) vr vi iss w0 w4 tb k we from ⟨HJD.out.1.below HBE.out, HJD.out.2.trans (zg.ofBelow (bs := fun _ => False) HBE.out) (fun _ _ e => e.elim)⟩)
      have hrw := HJE.out.1.cl.row pb gr HGR.out
      have hct : we.cell? ⟨gr, o, none⟩ = some (.int .u8 (tbL c (tb.take k) pb o)) := by rw [cell_of_row _ _ _ _ _ _ hrw, yM _ HO4.out]
      have hft : we.frozen? ⟨gr, o, none⟩ = false := frozen_of_row _ _ _ _ _ hrw
      have hk2 := HLT.out
      have hk3 := HTLL.out
      clear hrw hwe
      go_wp2_with fail
      go_roundw
      case rel =>
       refine ⟨k + 1, HLT.out, by go_num, zh ⟨?_, HJE.out.2.setCell _ (fun _ => .inr (List.mem_of_getElem? HGR.out))⟩⟩
       rw [HQ.out, tbL_snoc, ← tbU_put HPB.out HO.out (by rw [HCC.out]; exact HCZ.out)]
       exact HJE.out.1.put HGR.out 4
      case measure => have h1 := HLT.out; simp [intOf]; omega
    ·have HCZ := zh hcz
     have h1 : (cc == 0) = false := by simpa using fun e => hcz (.inl e)
     have h2 : (cc == 5) = false := by simpa using fun e => hcz (.inr e)
     clear hcz
     go_wp2_with fail
     go_roundw
     case rel => exact ⟨k + 1, HLT.out, by go_num, zh ⟨by rw [HQ.out, tbL_snoc, tbU_same HPB.out HO.out (by rw [HCC.out]; exact HCZ.out)]; exact HJD.out.1, HJD.out.2⟩⟩
     case measure => have h1 := HLT.out; simp [intOf]; omega
   ·obtain rfl : k = tb.length := by omega
    have hj := HJ.out.1
    rw [List.take_of_length_le (zn _)] at hj
    have HJ := zh hj
    clear hj
    go_wp2_with fail
    go_end0
    exact ⟨rfl, vi, by rw [HTBE.out]; exact HJ.out⟩
 ·have h1 : (x.op == 133) = false := by simpa using h133
  have HTB := zh (HNT.out h133)
  clear h133
  go_wp2_with fail
  go_end0
  exact ⟨rfl, vi, by rw [HTB.out]; exact HR.out.below HW3.out⟩
end Go.Proofs.YteofmaiojepdkaaGreat
namespace Go.Proofs.YteofmaiojepdkaaGreat
def snL (l : List zb) (k : Nat) : Bool := l.any fun p => decide (keyN p = k)
def putK (sn : Nat → Bool) (n : Nat) : Nat → Bool := fun k => if k = n then true else sn k
theorem snL_snoc (l : List zb) (p : zb) : putK (snL l) (keyN p) = snL (l ++ [p]) := by
 funext k
 unfold putK snL
 rw [List.any_append]
 by_cases h : k = keyN p
 ·simp [h]
 ·rw [if_neg h]
  simp [show ¬ keyN p = k from fun e => h e.symm]
theorem snL_nil : snL [] = fun _ => false := rfl
def cntK (sn : Nat → Bool) (n : Nat) : Nat := (List.range n).countP sn
theorem marked_cnt (sn : Nat → Bool) (n : Nat) : (zG sn n).length = cntK sn n := by
 unfold zG cntK
 rw [List.length_map, List.countP_eq_length_filter]
theorem cntK_le (sn : Nat → Bool) (n : Nat) : cntK sn n ≤ n := by rw [← marked_cnt]; exact marked_len sn n
theorem cntK_put {sn : Nat → Bool} {k : Nat} (h : sn k = false) : ∀ n, cntK (putK sn k) n = cntK sn n + if k < n then 1 else 0
 | 0 => by simp [cntK]
 | n + 1 => by
  have ih := cntK_put h n
  unfold cntK at ih ⊢
  rw [List.range_succ, List.countP_append, List.countP_append, ih, List.countP_singleton, List.countP_singleton]
  by_cases h1 : n = k
  ·subst h1
   rw [if_neg (Nat.lt_irrefl n), if_pos (Nat.lt_succ_self n)]
   simp [putK, h]
  ·have h2 : putK sn k n = sn n := if_neg h1
   rw [h2]
   have h4 : (if k < n + 1 then 1 else 0) = (if k < n then 1 else 0) := by
    by_cases h3 : k < n
    ·rw [if_pos h3, if_pos (show k < n + 1 by omega)]
    ·rw [if_neg h3, if_neg (show ¬ k < n + 1 by omega)]
   rw [h4]
   omega
theorem putK_same {sn : Nat → Bool} {k : Nat} (h : sn k = true) : putK sn k = sn := by
 funext j
 unfold putK
 by_cases h1 : j = k
 ·rw [if_pos h1, h1, h]
 ·rw [if_neg h1]
theorem snL_items {I : zk} {l : List zb} (h : ∀ p ∈ l, okI I p ∧ yO p) {p : zb} : p ∈ zG (snL l) 524288 ↔ p ∈ l := by
 rw [mem_marked]
 constructor
 ·rintro ⟨k, h1, h2, rfl⟩
  obtain ⟨q, hq, he⟩ := List.any_eq_true.1 h2
  have h3 := (key_bd (ok_at (h q hq).1).ii (h q hq).2).2.2
  rw [← of_decide_eq_true he, h3]
  exact hq
 ·intro hp
  have h3 := key_bd (ok_at (h p hp).1).ii (h p hp).2
  exact ⟨keyN p, h3.2.1, List.any_eq_true.2 ⟨p, hp, by simp⟩, h3.2.2⟩
theorem marked_mem {sn : Nat → Bool} {k n : Nat} (hk : k < n) (h : sn k = true) : ofK k ∈ zG sn n := mem_marked.2 ⟨k, hk, h, rfl⟩
theorem marked_take {sn : Nat → Bool} : ∀ {k n : Nat}, k ≤ n → zG sn k = (zG sn n).take (zG sn k).length
 | k, n, h => by
  have h1 : ∃ m, zG sn n = zG sn k ++ m := by
   obtain ⟨d, rfl⟩ : ∃ d, n = k + d := ⟨n - k, by omega⟩
   clear h
   induction d with
   | zero => exact ⟨[], by simp⟩
   | succ d ih =>
    obtain ⟨m, hm⟩ := ih
    rw [show k + (d + 1) = k + d + 1 by omega, xH, hm]
    split
    ·exact ⟨m ++ [ofK (k + d)], by simp⟩
    ·exact ⟨m, rfl⟩
  obtain ⟨m, hm⟩ := h1
  rw [hm]
  simp
theorem marked_at {sn : Nat → Bool} {k n : Nat} (hk : k < n) (h : sn k = true) : (zG sn n)[(zG sn k).length]? = some (ofK k) := by
 have h1 := marked_take (sn := sn) (show k + 1 ≤ n by omega)
 rw [xH, if_pos h] at h1
 have h2 := congrArg (fun l => l[(zG sn k).length]?) h1
 simp only [List.getElem?_append_right (zn _), Nat.sub_self, List.getElem?_cons_zero] at h2
 rw [List.getElem?_take_of_lt (by simp)] at h2
 exact h2.symm
section
variable {I : zk} {its : List zb}
theorem tbU_clT (hb : ∀ b o, yj I b o = 0 ∨ yj I b o = 5) (l : List zb) (q : zb) : tbU (clT (I := I) (its := its) l) q = clT (I := I) (its := its) (l ++ [q]) := by
 funext b o
 rw [clT_snoc]
 unfold tbU
 have k1 : yX I its b o = 0 → clT (I := I) (its := its) l b o = 0 ∨ clT (I := I) (its := its) l b o = 5 ∨ clT (I := I) (its := its) l b o = 4 := fun h2 => by
  by_cases h3 : tbM l b o = true
  ·exact .inr (.inr (if_pos ⟨h2, h3⟩))
  ·have h4 : clT (I := I) (its := its) l b o = yj I b o := by
    have h5 := (covN_pos (I := I) (its := its) (b := b) (o := o)).1 h2
    have h6 : clT (I := I) (its := its) l b o = clM I its its b o := if_neg (fun e => h3 e.2)
    rw [h6]
    unfold clM
    rw [h5]
    rfl
   rw [h4]
   exact (hb b o).imp id .inl
 have k2 : ¬ yX I its b o = 0 → ¬ (clT (I := I) (its := its) l b o = 0 ∨ clT (I := I) (its := its) l b o = 5) := fun h2 => by
  have h4 : clT (I := I) (its := its) l b o = clM I its its b o := if_neg (fun e => h2 e.1)
  have h5 : its.any (covP I b o) = true := by
   cases h : its.any (covP I b o) with
   | true => rfl
   | false => exact absurd ((covN_pos (I := I) (its := its) (b := b) (o := o)).2 h) h2
  rw [h4]
  unfold clM
  rw [h5, if_pos rfl]
  split
  ·omega
  ·split <;> omega
 generalize clT (I := I) (its := its) l b o = x at k1 k2 ⊢
 by_cases h2 : yX I its b o = 0
 ·rcases k1 h2 with rfl | rfl | rfl <;> by_cases h1 : q.bank = b ∧ zI q = o <;> simp [h1, h2]
 ·have h3 := not_or.1 (k2 h2)
  simp [h2, h3.1, h3.2]
theorem tbL_clT (hb : ∀ b o, yj I b o = 0 ∨ yj I b o = 5) (l : List zb) : ∀ m : List zb, tbL (clT (I := I) (its := its) l) m = clT (I := I) (its := its) (l ++ m)
 | [] => by rw [List.append_nil]; rfl
 | q :: m => by
  show tbL (tbU (clT (I := I) (its := its) l) q) m = _
  rw [tbU_clT hb, tbL_clT hb (l ++ [q]) m, List.append_assoc]
  rfl
theorem clBase_05 (I : zk) (b o : Nat) : yj I b o = 0 ∨ yj I b o = 5 := by
 unfold yj
 split
 ·exact .inr rfl
 ·exact .inl rfl
end
end Go.Proofs.YteofmaiojepdkaaGreat
namespace Go.Proofs.YteofmaiojepdkaaGreat
open Go Go.RowKit Go.Maps Go.Sort
structure OnW (w : World) (im : Obj) (e : zb) (gs : Nat) (C : List zb) (S : List zM) (sn : Nat → Bool) (Wl : List zb) (vC vS vW : Value) (W : World) : Prop where
 hx : Bx [im, zo e, rtn00] w W
 ou : W.heap[w.heap.size + 3]? = some (xu e false ⟨0, 0⟩ (.slice none 0 0) vC vS)
 se : W.heap[gs]? = some (.cells (rowT 524288 sn) 4 (0, 0))
 oc : W.ownsRow (w.heap.size + 4) 47 2 vC C.length (zp C)
 oi : W.ownsRow (w.heap.size + 4) 58 3 vS S.length (yf S)
 ow : W.ownsRow (w.heap.size + 4) 47 2 vW Wl.length (zp Wl)
 d1 : ∀ k, vC.ownBlock = some k → vW.ownBlock ≠ some k
 hs : w.heap.size + 4 ≤ gs
section
variable {w : World} {im : Obj} {e : zb} {gs : Nat} {C : List zb} {S : List zM} {sn : Nat → Bool} {Wl : List zb} {vC vS vW : Value} {W W' : World}
theorem Bx.cut3 {a b c d : Obj} {w W : World} (h : Bx [a, b, c, d] w W) : Bx [a, b, c] w W :=
 ⟨fun i o hi => h.at_ i o (by
  match i, hi with
  | 0, hi => exact hi
  | 1, hi => exact hi
  | 2, hi => exact hi), by have := h.z; simp at this ⊢; omega, h.bb⟩
theorem zV {B s n : Nat} {T : TypeId} {v : Value} {xs : List Value} (h : W.ownsRow B T s v n xs) (hb : Below W.heap.size W W') : W'.ownsRow B T s v n xs := zi h (zg.ofBelow (bs := fun _ => False) hb) (fun _ _ e => e)
theorem OnW.z (h : OnW w im e gs C S sn Wl vC vS vW W) : w.heap.size + 4 ≤ W.heap.size := (Array.getElem?_eq_some_iff.1 h.ou).1
theorem OnW.below (h : OnW w im e gs C S sn Wl vC vS vW W) (hb : Below W.heap.size W W') : OnW w im e gs C S sn Wl vC vS vW W' :=
 ⟨h.hx.stay hb, za hb h.ou, za hb h.se, zV h.oc hb, zV h.oi hb, zV h.ow hb, h.d1, h.hs⟩
theorem OnW.keepOut (h : OnW w im e gs C S sn Wl vC vS vW W) {i : Nat} {v : Value} : Bx [im, zo e, rtn00] w (W.setCell ⟨w.heap.size + 3, i, none⟩ v) ∧ (W.setCell ⟨w.heap.size + 3, i, none⟩ v).heap[gs]? = some (.cells (rowT 524288 sn) 4 (0, 0)) := by
 have hs := h.hs
 exact ⟨h.hx.keep ((Below.refl _ _).setCell (p := ⟨w.heap.size + 3, i, none⟩) (zn _) _), by rw [heap_setCell_other (by omega)]; exact h.se⟩
theorem OnW.ownOut {B s n : Nat} {T : TypeId} {u : Value} {xs : List Value} {g : Nat} {cs : Array Value} (ho : W.ownsRow B T s u n xs) (hg : W.heap[g]? = some (.cells cs 50 (0, 0))) {i : Nat} {v : Value} (hT : 50 ≠ T := by decide) : (W.setCell ⟨g, i, none⟩ v).ownsRow B T s u n xs :=
 zi ho ((zg.refl (fun k => k = g) W).setCell _ (fun _ => rfl)) (ye ho hg (fun _ _ => zm hT))
theorem OnW.setC (h : OnW w im e gs C S sn Wl vC vS vW W) (hb : Below W.heap.size W W') {C' : List zb} {A : Option Addr} {c : Nat} (hr : vC = .slice A C'.length c ∧ C' = C ∨ W'.ownsRow W.heap.size 47 2 (.slice A C'.length c) C'.length (zp C')) :
  OnW w im e gs C' S sn Wl (.slice A C'.length c) vS vW (W'.setCell ⟨w.heap.size + 3, 6, none⟩ (.slice A C'.length c)) := by
 have h1 := h.below hb
 have hz := h.z
 have hoc : W'.ownsRow (w.heap.size + 4) 47 2 (.slice A C'.length c) C'.length (zp C') := by
  rcases hr with ⟨e1, e2⟩ | hr
  ·rw [← e1, e2]; exact h1.oc
  ·exact hr.mono hz
 refine ⟨h1.keepOut.1, ?_, h1.keepOut.2, OnW.ownOut hoc h1.ou, OnW.ownOut h1.oi h1.ou, OnW.ownOut h1.ow h1.ou, fun k hk => ?_, h.hs⟩
 ·have := heap_setCell_same h1.ou (i := 6) (.slice A C'.length c)
  rw [this]
  rfl
 ·rcases hr with ⟨e1, e2⟩ | hr
  ·rw [← e1] at hk; exact h.d1 k hk
  ·intro e2
   have h3 := (hr.lt k hk).1
   have h4 := (h.ow.lt k e2).2
   omega
theorem OnW.setS (h : OnW w im e gs C S sn Wl vC vS vW W) (hb : Below W.heap.size W W') {S' : List zM} {A : Option Addr} {c : Nat} (hr : vS = .slice A S'.length c ∧ S' = S ∨ W'.ownsRow W.heap.size 58 3 (.slice A S'.length c) S'.length (yf S')) :
  OnW w im e gs C S' sn Wl vC (.slice A S'.length c) vW (W'.setCell ⟨w.heap.size + 3, 7, none⟩ (.slice A S'.length c)) := by
 have h1 := h.below hb
 have hz := h.z
 have hoi : W'.ownsRow (w.heap.size + 4) 58 3 (.slice A S'.length c) S'.length (yf S') := by
  rcases hr with ⟨e1, e2⟩ | hr
  ·rw [← e1, e2]; exact h1.oi
  ·exact hr.mono hz
 refine ⟨h1.keepOut.1, ?_, h1.keepOut.2, OnW.ownOut h1.oc h1.ou, OnW.ownOut hoi h1.ou, OnW.ownOut h1.ow h1.ou, h.d1, h.hs⟩
 have := heap_setCell_same h1.ou (i := 7) (.slice A S'.length c)
 rw [this]
 rfl
theorem OnW.mark (h : OnW w im e gs C S sn Wl vC vS vW W) (k : Nat) : OnW w im e gs C S (fun j => if j = k then true else sn j) Wl vC vS vW (W.setCell ⟨gs, k, none⟩ (.bool true)) := by
 have hs := h.hs
 have hst : ∀ {T : TypeId} {s : Nat} {v : Value} {n : Nat} {xs : List Value}, W.ownsRow (w.heap.size + 4) T s v n xs → (hT : 4 ≠ T := by decide) → (W.setCell ⟨gs, k, none⟩ (.bool true)).ownsRow (w.heap.size + 4) T s v n xs := fun ho hT => zi ho ((zg.refl (fun k => k = gs) W).setCell _ (fun _ => rfl)) (ye ho h.se (fun _ _ => zm hT))
 refine ⟨h.hx.keep ((Below.refl _ _).setCell (p := ⟨gs, k, none⟩) (by show w.heap.size + 3 ≤ gs; omega) _), by rw [heap_setCell_other (by omega)]; exact h.ou, ?_, hst h.oc, hst h.oi, hst h.ow, h.d1, h.hs⟩
 have := heap_setCell_same h.se (i := k) (.bool true)
 rw [this, rowT_set]
theorem OnW.pop {A : Option Addr} {n c : Nat} {p : zb} (h : OnW w im e gs C S sn (Wl ++ [p]) vC vS (.slice A n c) W) (hn : n = Wl.length + 1) : OnW w im e gs C S sn Wl vC vS (.slice A Wl.length c) W := by
 have h1 := h.ow
 rw [List.length_append, List.length_singleton, ← hn] at h1
 have h2 := own_cut h1 (k := Wl.length) (by omega)
 rw [xx, List.take_left' (plcsL_len _)] at h2
 exact ⟨h.hx, h.ou, h.se, h.oc, h.oi, h2, fun k hk e => h.d1 k hk (by cases A <;> exact e), h.hs⟩
theorem OnW.push (h : OnW w im e gs C S sn Wl vC vS vW W) {v' : Value} {N : List zb} (ho : W'.ownsRow (w.heap.size + 4) 47 2 v' (Wl.length + N.length) (zp Wl ++ zp N)) (hg : W.grownBy W' vW.ownBlock) (hv : v'.ownBlock = vW.ownBlock ∨ v'.ownBlock = some W.heap.size) : OnW w im e gs C S sn (Wl ++ N) vC vS v' W' := by
 have hrow : ∀ {g : Nat} {cs : Array Value} {T : TypeId}, W.heap[g]? = some (.cells cs T (0, 0)) → T ≠ 47 → W'.heap[g]? = some (.cells cs T (0, 0)) := fun hgg hT => jd h.ow hg hgg hT
 refine ⟨h.hx.keep ?_, hrow h.ou (by decide), hrow h.se (by decide), h.oc.kept hg ?_, h.oi.kept hg (xw h.oi h.ow (by decide)), by rw [xx, List.length_append]; exact ho, fun k hk => ?_, h.hs⟩
 ·exact (Below.refl _ W).mono h.hx.z |>.grown hg h.hx.z (fun k hk => by have := (h.ow.lt k hk).1; show w.heap.size + 3 ≤ k; omega)
 ·cases hk : vC.ownBlock with
  | none => exact .inl rfl
  | some k => exact .inr fun e => h.d1 k hk e.symm
 ·rcases hv with e1 | e1
  ·rw [e1]; exact h.d1 k hk
  ·rw [e1]
   intro e2
   injection e2 with e2
   have := (h.oc.lt k hk).2
   omega
end
theorem rd_src {w : World} {s : Nat} {A : Option Addr} {n cap : Nat} {xs : List Value} (h : RdS w s A n cap xs) : SrcW w s A n xs :=
 ⟨h.len, fun h0 => by
  obtain ⟨g, off, cur, T, fr, e, h1, h2⟩ := h.at_ h0
  exact ⟨_, e, fun j u hu => by
   rw [cell_add h1, h2 j (List.getElem?_eq_some_iff.1 hu).1, hu]⟩⟩
theorem mem_take_succE {l : List Int} {m : Nat} {x : Int} (hx : l[m]? = some x) (p : Int) : p ∈ l.take (m + 1) ↔ p ∈ l.take m ∨ p = x := by
 rw [List.take_succ, hx, List.mem_append]
 simp
theorem iss_or {x : zM} {S : List zM} {p : zb} {l : List Int} {y : Int} : (x = ⟨y, p⟩ ∨ (x ∈ S ∨ (x.at_ = p ∧ x.kind ∈ l))) ↔ (x ∈ S ∨ (x.at_ = p ∧ (x.kind ∈ l ∨ x.kind = y))) := by
 constructor
 ·rintro (rfl | h | ⟨h1, h2⟩)
  ·exact .inr ⟨rfl, .inr rfl⟩
  ·exact .inl h
  ·exact .inr ⟨h1, .inl h2⟩
 ·rintro (h | ⟨h1, h2 | h2⟩)
  ·exact .inr (.inl h)
  ·exact .inr (.inr ⟨h1, h2⟩)
  ·exact .inl (zM.ext' h2 h1)
theorem own_none {w : World} {B s n c : Nat} {T : TypeId} {A : Option Addr} {xs : List Value} (h : w.ownsRow B T s (.slice A n c) n xs) (hA : A = none) : c = 0 := by
 rcases h.2 with ⟨h1, -⟩ | ⟨g, cap, cur, h1, -⟩
 ·injection h1
 ·rw [hA] at h1; cases h1
structure FlW (gp gw B : Nat) (p : zb) (f : zO) (vn vt : Value) (Ac Ai : Option Addr) (cc ci : Nat) (W : World) : Prop where
 pl : W.heap[gp]? = some (zo p)
 fw : W.heap[gw]? = some (.cells #[vn, .slice Ac f.cl.length cc, .slice Ai f.iss.length ci, vt] 62 (0, 0))
 oc : W.ownsRow B 47 2 (.slice Ac f.cl.length cc) f.cl.length (zp f.cl)
 oi : W.ownsRow B 56 1 (.slice Ai f.iss.length ci) f.iss.length (errL f.iss)
section
variable {gp gw B : Nat} {p : zb} {f : zO} {vn vt : Value} {Ac Ai : Option Addr} {cc ci : Nat} {W W' : World}
theorem FlW.below (h : FlW gp gw B p f vn vt Ac Ai cc ci W) (hb : Below W.heap.size W W') : FlW gp gw B p f vn vt Ac Ai cc ci W' := ⟨za hb h.pl, za hb h.fw, zV h.oc hb, zV h.oi hb⟩
theorem FlW.push (h : FlW gp gw B p f vn vt Ac Ai cc ci W) {gt B0 n c : Nat} {xs : List Value} (h1 : gt < gp) (h2 : gt < B) (ho : W.ownsRow B0 47 2 (.slice (some ⟨gt, 0, none⟩) n c) n xs) (hg : W.grownBy W' (Value.slice (some ⟨gt, 0, none⟩) n c).ownBlock) : FlW gp gw B p f vn vt Ac Ai cc ci W' := by
 have hne : ∀ {T : TypeId} {s m : Nat} {v : Value} {ys : List Value}, W.ownsRow B T s v m ys → v.ownBlock = none ∨ v.ownBlock ≠ (Value.slice (some ⟨gt, 0, none⟩) n c).ownBlock := fun {T s m v ys} hv => by
  cases hk : v.ownBlock with
  | none => exact .inl rfl
  | some k =>
   refine .inr fun e => ?_
   have h3 := (hv.lt k hk).1
   have e : k = gt := Option.some.inj e
   omega
 refine ⟨?_, jd ho hg h.fw (by decide), h.oc.kept hg (hne h.oc), h.oi.kept hg (hne h.oi)⟩
 have hlt := (Array.getElem?_eq_some_iff.1 h.pl).1
 rw [hg.block gp hlt (fun e => by have e : gp = gt := Option.some.inj e; omega)]
 exact h.pl
theorem FlW.out (h : FlW gp gw B p f vn vt Ac Ai cc ci W) {g : Nat} {cs : Array Value} (hg : W.heap[g]? = some (.cells cs 50 (0, 0))) {i : Nat} {v : Value} : FlW gp gw B p f vn vt Ac Ai cc ci (W.setCell ⟨g, i, none⟩ v) := by
 have h1 : gp ≠ g := fun e => by have h1 := h.pl; rw [e, hg] at h1; injection h1 with h1; injection h1 with _ h1; exact absurd h1 (by decide)
 have h2 : gw ≠ g := fun e => by have h1 := h.fw; rw [e, hg] at h1; injection h1 with h1; injection h1 with _ h1; exact absurd h1 (by decide)
 exact ⟨by rw [heap_setCell_other h1]; exact h.pl, by rw [heap_setCell_other h2]; exact h.fw, OnW.ownOut h.oc hg, OnW.ownOut h.oi hg⟩
end
structure EnW (I : zk) (w : World) (im : Obj) (e : zb) (gs : Nat) (M C : List zb) (S : List zM) (sn : Nat → Bool) (vK vC vS : Value) (W : World) : Prop where
 hx : Bx [im, zo e, rtn00] w W
 ou : W.heap[w.heap.size + 3]? = some (xu e false ⟨0, 0⟩ vK vC vS)
 se : W.heap[gs]? = some (.cells (rowT 524288 sn) 4 (0, 0))
 ok : W.ownsRow (w.heap.size + 4) 55 9 vK M.length (x9 I M)
 oc : W.ownsRow (w.heap.size + 4) 47 2 vC C.length (zp C)
 oi : W.ownsRow (w.heap.size + 4) 58 3 vS S.length (yf S)
 hs : w.heap.size + 4 ≤ gs
section
variable {I : zk} {w : World} {im : Obj} {e : zb} {gs : Nat} {M C : List zb} {S : List zM} {sn : Nat → Bool} {Wl : List zb} {vK vC vS vW : Value} {W W' : World}
theorem OnW.en (h : OnW w im e gs C S sn Wl vC vS vW W) : EnW I w im e gs [] C S sn (.slice none 0 0) vC vS W := ⟨h.hx, h.ou, h.se, World.ownsRow_nil _ _ _ _, h.oc, h.oi, h.hs⟩
theorem EnW.z (h : EnW I w im e gs M C S sn vK vC vS W) : w.heap.size + 4 ≤ W.heap.size := (Array.getElem?_eq_some_iff.1 h.ou).1
theorem EnW.below (h : EnW I w im e gs M C S sn vK vC vS W) (hb : Below W.heap.size W W') : EnW I w im e gs M C S sn vK vC vS W' :=
 ⟨h.hx.stay hb, za hb h.ou, za hb h.se, zV h.ok hb, zV h.oc hb, zV h.oi hb, h.hs⟩
theorem EnW.add (h : EnW I w im e gs M C S sn vK vC vS W) {v' : Value} {q : zb} (ho : W'.ownsRow (w.heap.size + 4) 55 9 v' (M.length + 1) (x9 I M ++ itmL I q)) (hg : W.grownBy W' vK.ownBlock) : EnW I w im e gs (M ++ [q]) C S sn v' vC vS (W'.setCell ⟨w.heap.size + 3, 5, none⟩ v') ∧ W'.heap[w.heap.size + 3]? = some (xu e false ⟨0, 0⟩ vK vC vS) := by
 have hrow : ∀ {g : Nat} {cs : Array Value} {T : TypeId}, W.heap[g]? = some (.cells cs T (0, 0)) → T ≠ 55 → W'.heap[g]? = some (.cells cs T (0, 0)) := fun hgg hT => jd h.ok hg hgg hT
 have hou := hrow h.ou (by decide)
 have hs := h.hs
 have hoc := h.oc.kept hg (xw h.oc h.ok (by decide))
 have hoi := h.oi.kept hg (xw h.oi h.ok (by decide))
 have hxx : Bx [im, zo e, rtn00] w W' := h.hx.keep ((Below.refl _ W).mono h.hx.z |>.grown hg h.hx.z (fun k hk => by have := (h.ok.lt k hk).1; show w.heap.size + 3 ≤ k; omega))
 refine ⟨⟨hxx.keep ((Below.refl _ _).setCell (p := ⟨w.heap.size + 3, 5, none⟩) (zn _) _), ?_, by rw [heap_setCell_other (by omega)]; exact hrow h.se (by decide), ?_, OnW.ownOut hoc hou, OnW.ownOut hoi hou, h.hs⟩, hou⟩
 ·have := heap_setCell_same hou (i := 5) v'
  rw [this]
  rfl
 ·have h1 : x9 I (M ++ [q]) = x9 I M ++ itmL I q := by unfold x9; rw [List.flatMap_append]; simp
  rw [h1, List.length_append]
  exact OnW.ownOut ho hou
end
def OneL (I : zk) (w : World) (im : Obj) (e : zb) (gs k : Nat) (v8 : Value) (W : World) : Prop := ∃ (D Wl C : List zb) (S : List zM) (sn : Nat → Bool) (vC vS : Value) (A : Option Addr) (c : Nat), v8 = .slice A Wl.length c ∧ (1000 * lack (univ e) D + Wl.length ≤ k ∧ k ≤ 16777217001) ∧ OnW w im e gs C S sn Wl vC vS (.slice A Wl.length c) W ∧ OneI I e D Wl C S sn
def ClL (w : World) (im : Obj) (e : zb) (gs : Nat) (C : List zb) (S : List zM) (sn : Nat → Bool) (Wl : List zb) (vS vW : Value) (gp gw B : Nat) (p : zb) (F : zO) (vn vt : Value) (Ac Ai : Option Addr) (cc ci j : Nat) (W : World) : Prop := ∃ (C' : List zb) (A' : Option Addr) (c' : Nat), C'.length ≤ C.length + j ∧ OnW w im e gs C' S sn Wl (.slice A' C'.length c') vS vW W ∧ (C'.Pairwise zP ∧ ∀ q, q ∈ C' ↔ q ∈ C ∨ q ∈ F.cl.take j) ∧ FlW gp gw B p F vn vt Ac Ai cc ci W
def IsL (w : World) (im : Obj) (e : zb) (gs : Nat) (C : List zb) (S : List zM) (sn : Nat → Bool) (Wl : List zb) (vC vW : Value) (gp gw B : Nat) (p : zb) (F : zO) (vn vt : Value) (Ac Ai : Option Addr) (cc ci j : Nat) (W : World) : Prop := ∃ (S' : List zM) (A' : Option Addr) (c' : Nat), S'.length ≤ S.length + j ∧ OnW w im e gs C S' sn Wl vC (.slice A' S'.length c') vW W ∧ (S'.Pairwise yR ∧ ∀ x : zM, x ∈ S' ↔ x ∈ S ∨ (x.at_ = p ∧ x.kind ∈ F.iss.take j)) ∧ FlW gp gw B p F vn vt Ac Ai cc ci W
def EnL (I : zk) (w : World) (im : Obj) (e : zb) (gs : Nat) (C : List zb) (S : List zM) (sn : Nat → Bool) (vC vS : Value) (k : Nat) (W : World) : Prop := ∃ (AK : Option Addr) (cK : Nat), EnW I w im e gs (zG sn k) C S sn (.slice AK (zG sn k).length cK) vC vS W
end Go.Proofs.YteofmaiojepdkaaGreat
