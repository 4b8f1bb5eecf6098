/- package scan: mark, walked. Condition: the image's banks have 4096 bytes; the items are the instructions of the image at their places. -/
import Derived.Test.YteofmaiojepdkaaGreatTbSkW
set_option linter.all false
namespace Go.Proofs.YteofmaiojepdkaaGreat
open Go Go.RowKit Go.Maps Go.Sort
def insL (I : zk) (l : List zb) : List (zb × Value) := l.map fun p => (p, insV (atI I p).1)
theorem insL_keys (I : zk) (l : List zb) : (insL I l).map (·.1) = l := by unfold insL; rw [List.map_map]; exact List.map_id _
theorem insL_get {I : zk} {l : List zb} (hn : l.Nodup) {p : zb} (hp : p ∈ l) : yT p (insL I l) = some (insV (atI I p).1) := getL_of_mem (by rw [insL_keys]; exact hn) (List.mem_map.2 ⟨p, hp, rfl⟩)
theorem covN_le {I : zk} {l : List zb} {b o : Nat} : yX I l b o ≤ l.length := by unfold yX; exact List.countP_le_length
def MkP (I : zk) (its0 : List zb) (E B bl : Nat) (gs : List Nat) (vc vr : Value) (w : World) (e : Ending) (w' : World) : Prop := e = .returned (.tuple #[]) ∧ ∃ its vi, its.Perm its0 ∧ its.Pairwise zP ∧ w'.heap[bl]? = some (.cells #[vc, vr, vi] 38 (0, 0)) ∧ xM E gs (clOf I its) vc w' ∧ w'.ownsRow B 58 3 vi (((its.filter (yb I its)).map fun p => (⟨40, p⟩ : zM))).length (yf ((its.filter (yb I its)).map fun p => (⟨40, p⟩ : zM))) ∧ zg (fun j => j = bl ∨ j ∈ gs) w w'
theorem MkF.item {I : zk} {ba : Option Addr} {bc : Nat} {da : Option Addr} {dc : Nat} {ra : Option Addr} {rn rc : Nat} {wE : World} {C : MkC} {W : World} (h : MkF I ba bc da dc ra rn rc wE C W) {m : Nat} {p : zb} (hp : C.its[m]? = some p) :
  C.its.length ≤ C.cap ∧ ∃ g off cur T fr, C.A = some ⟨g, off, none⟩ ∧ W.heap[g]? = some (.cells cur T fr) ∧ (cur.extract (off + m * 2) (off + m * 2 + 2)).toList = [.int .i64 p.bank, .int .u16 p.addr] := by
 have h1 := yd h.own
 refine ⟨h1.le, ?_⟩
 have hrow := h1.row (List.getElem?_eq_some_iff.1 hp).1
 rw [show zp C.its = C.its.flatMap yQ from rfl, xT yQ 2 (fun _ => rfl) C.its m p hp] at hrow
 obtain ⟨g, off, cur, T, fr, hAe, hg, hex, -, -⟩ := hrow
 exact ⟨g, off, cur, T, fr, hAe, hg, hex⟩
theorem szI_eq {I : zk} {p : zb} (h : okI I p) : (atI I p).1.size = (szI I p : Int) ∧ szI I p ≤ 100 := by
 have h1 := ok_size h
 unfold szI
 omega
theorem cov_step {I : zk} {its : List zb} {m : Nat} {p : zb} (hp : its[m]? = some p) : (fun b o => yX I (its.take m) b o + if inK p (szI I p) b o then 1 else 0) = fun b o => yX I (its.take (m + 1)) b o := by
 funext b o
 rw [List.take_succ, hp]
 show _ = yX I (its.take m ++ [p]) b o
 rw [covN_snoc]
 rfl
set_option maxRecDepth 100000 in
set_option maxHeartbeats 4000000 in
theorem mark_any (I : zk) (hI : I.Ok) (ba : Option Addr) (bc : Nat) (da : Option Addr) (dc : Nat) (ra : Option Addr) (rn rc : Nat) (wE : World) (hVE : yG wE I ba bc da dc) (its0 : List zb) (hnd : its0.Nodup) (hok : ∀ p ∈ its0, okI I p ∧ yO p) (hlen : its0.length ≤ 100000) (gi bl : Nat) (gs : List Nat) (hgs : gs.length = I.banks.length) (vc vr : Value) (w : World) (hbE : Below wE.heap.size wE w) (hbl : wE.heap.size ≤ bl) (hgi : w.heap[gi]? = some (yc yL (insL I its0))) (hl : w.heap[bl]? = some (.cells #[vc, vr, .slice none 0 0] 38 (0, 0))) (hc : xM wE.heap.size gs (fun b o => yj I b o) vc w) :
  Calls Tryz.prog 42 #[.agg #[.slice ba I.banks.length bc, .int .u16 I.entry, .int .u16 I.vector, .slice da I.data.length dc, .slice ra rn rc], .pointer (some ⟨bl, 0, none⟩), .map (some gi)] w (MkP I its0 wE.heap.size w.heap.size bl gs vc vr w) := by
 have HI := zh hI
 have HVE := zh hVE
 have HOK := zh hok
 have HA := Bx.three w (z6 I ba bc da dc ra rn rc) (.cells #[.pointer (some ⟨bl, 0, none⟩)] 102) (.cells #[.map (some gi)] 100)
 have hgl : gi < w.heap.size := (Array.getElem?_eq_some_iff.1 hgi).1
 have HBE := zh hbE
 have HCL := zh hc
 have HHL := zh hl
 have HGI := zh hgi
 have HBB := zh HA.bb
 have HB := zh HA
 have HZ := zh (show (((w.alloc (z6 I ba bc da dc ra rn rc)).alloc (.cells #[.pointer (some ⟨bl, 0, none⟩)] 102)).alloc (.cells #[.map (some gi)] 100)).heap.size = w.heap.size + 3 by simp)
 have hmm := @run_makeMap Tryz.prog
 have HND := zh hnd
 clear hI hVE hok hbE hgi hl hc HA hnd
 go_enter Tryz.func42, Tryz.ntmps42
 go_upto_region 1 with fail
 obtain ⟨w3, hw3⟩ : ∃ w3, ((w.alloc (z6 I ba bc da dc ra rn rc)).alloc (.cells #[.pointer (some ⟨bl, 0, none⟩)] 102)).alloc (.cells #[.map (some gi)] 100) = w3 := ⟨_, rfl⟩
 rw [hw3] at HB HBB HZ ⊢
 clear hw3
 have hc2 := fun o => cell_of_row w3 (w.heap.size + 2) o _ _ _ HB.out.b2
 have HKE := zh (keysI_any gi w3)
 have HSK := zh (sortedKeysI gi (insL I its0) w3 (za HBB.out HGI.out) (by rw [insL_keys]; exact HND.out) (by unfold insL; rw [List.length_map]; omega))
 go_upto_region 2 with (first
  | (go_at_call 75; (with_reducible refine HKE.out.mono ?_); rintro e7 w7 ⟨rfl, rfl⟩)
  | (go_at_call 72; (with_reducible refine HSK.out.mono ?_); rintro e4 w4 ⟨v4, its, rfl, hp4, hs4, ho4, hb4⟩
     obtain ⟨A4, c4, rfl, -⟩ := zt ho4
     have HP4 := zh (show its.Perm its0 by rw [insL_keys] at hp4; exact hp4)
     have HS4 := zh hs4
     have HO4 := zh ho4
     have HB4 := zh hb4
     clear hp4 hs4 ho4 hb4))
 clear hc2 HKE HSK
 go_upto_region 4 with (refine stN ?_)
 have hB6 := Bx.two w4 (.map #[] 0) (.cells #[.map (some w4.heap.size)] 150)
 obtain ⟨w6, hw6⟩ : ∃ w6, (w4.alloc (.map #[] 0)).alloc (.cells #[.map (some w4.heap.size)] 150) = w6 := ⟨_, rfl⟩
 rw [hw6] at hB6 ⊢
 clear hmm
 have hz := HZ.out
 have hb36 : Below w3.heap.size w3 w6 := HB4.out.trans (hB6.bb.mono HB4.out.size)
 have hb06 : Below w.heap.size w w6 := HBB.out.trans (hb36.mono HBB.out.size)
 have hz4 := HB4.out.size
 obtain ⟨C, hC⟩ : ∃ C : MkC, C = ⟨w.heap.size, w.heap.size + 1, w.heap.size + 2, bl, gi, w4.heap.size + 1, w4.heap.size, w3.heap.size, A4, c4, gs, vc, vr, its, insL I its0⟩ := ⟨_, rfl⟩
 have hM6 : MkW I ba bc da dc ra rn rc wE C (fun b o => yX I (its.take 0) b o) (fun b o => yj I b o) (.slice none 0 0) [] w w6 := by
  rw [hC]
  exact ⟨⟨HBE.out.trans (hb06.mono HBE.out.size), za hb36 HB.out.b0, za hb36 HB.out.b1, za hb36 HB.out.b2, za hb06 HGI.out, zi HO4.out (zg.ofBelow (bs := fun _ => False) hB6.bb) (fun _ _ e => e)⟩,
   ⟨hB6.b1, [], hB6.b0, ⟨List.nodup_nil, fun b o => by simp [yT, yX]⟩⟩, za hb06 HHL.out, HCL.out.below hb06, World.ownsRow_nil _ _ _ _, zg.ofBelow hb06, by show w4.heap.size ≠ gi; omega, by show w.heap.size ≤ w4.heap.size; omega, HBE.out.size, hbl⟩
 have HM6 := zh hM6
 have HCE := zh hC
 have hil : its.length ≤ 100000 := by have := HP4.out.length_eq; omega
 have HIL := zh hil
 have HNI := zh (show its.Nodup from HP4.out.nodup_iff.2 HND.out)
 have HGT := zh (show ∀ p ∈ its, yT p (insL I its0) = some (insV (atI I p).1) from fun p hp => insL_get HND.out (HP4.out.mem_iff.1 hp))
 have HPK := zh (show ∀ p ∈ its, okI I p ∧ yO p from fun p hp => HOK.out p (HP4.out.mem_iff.1 hp))
 have EBI := zh (show C.bi = w.heap.size by rw [HCE.out])
 have EBP := zh (show C.bp = w.heap.size + 1 by rw [HCE.out])
 have EBT := zh (show C.bt = w.heap.size + 2 by rw [HCE.out])
 have EBL := zh (show C.bl = bl by rw [HCE.out])
 have EGI := zh (show C.gi = gi by rw [HCE.out])
 have EBV := zh (show C.bv = w4.heap.size + 1 by rw [HCE.out])
 have EGV := zh (show C.gv = w4.heap.size by rw [HCE.out])
 have EA := zh (show C.A = A4 by rw [HCE.out])
 have ECAP := zh (show C.cap = c4 by rw [HCE.out])
 have EGS := zh (show C.gs = gs by rw [HCE.out])
 have EITS := zh (show C.its = its by rw [HCE.out])
 have EL := zh (show C.L = insL I its0 by rw [HCE.out])
 have EVC := zh (show C.vc = vc by rw [HCE.out])
 have EVR := zh (show C.vr = vr by rw [HCE.out])
 clear hC hM6 hw6 hB6 hz hb36 hb06 hz4 HB HBB HZ HGI HHL HCL HBE HO4 HB4 hil hlen
 go_wp2_with fail
 go_loopw [28] (fun i wr => ∃ m : Nat, m ≤ its.length ∧ i = .int .i64 m ∧ Hid (MkW I ba bc da dc ra rn rc wE C (fun b o => yX I (its.take m) b o) (fun b o => yj I b o) (.slice none 0 0) [] w wr)) (fun i _ => its.length - (intOf i).toNat)
 case atStart => exact ⟨0, Nat.zero_le _, rfl, HM6⟩
 case round =>
  clear HM6
  obtain ⟨m, hm, rfl, HM⟩ := hrel
  by_cases hlt : m < its.length
  ·obtain ⟨p, hp⟩ : ∃ p, its[m]? = some p := ⟨_, List.getElem?_eq_getElem hlt⟩
   have hpm := List.mem_of_getElem? hp
   obtain ⟨hle, g, off, cur, T, fr, hAe, hg, hex⟩ := HM.out.fr.item (m := m) (p := p) (by rw [EITS.out]; exact hp)
   rw [EA.out] at hAe
   rw [EITS.out, ECAP.out] at hle
   subst hAe
   have hkp := HPK.out p hpm
   have hsz := szI_eq hkp.1
   have HG := zh hg
   have HEX := zh hex
   have HP := zh hp
   have HLT := zh hlt
   have hb1 : Below wr.heap.size wr (wr.alloc (zo p)) := (Below.refl _ _).alloc (zn _) _
   have hm1 := HM.out.below hb1
   have HM1 := zh hm1
   have HP1 := zh (heap_alloc_new wr (zo p))
   have hbi := hm1.fr.bi
   have hbt := hm1.fr.bt
   have hgi := hm1.fr.gi
   have hcv := hm1.cv
   rw [EBI.out] at hbi
   rw [EBT.out, EGI.out] at hbt
   rw [EGI.out, EL.out] at hgi
   rw [EBV.out, EGV.out] at hcv
   have HEC := zh (each_cov I HI.out ba bc da dc ra rn rc (w.heap.size) (w.heap.size + 2) gi (insL I its0) p hkp.2.2.1 hkp.2.2.2 (ok_at hkp.1).ii (atI I p).1 (szI I p) hsz.1 hsz.2 (HGT.out p hpm) (w4.heap.size + 1) w4.heap.size (fun b o => yX I (its.take m) b o) (fun b o => by have h1 := covN_le (I := I) (l := its.take m) (b := b) (o := o); rw [List.length_take] at h1; have := HIL.out; omega) (wr.alloc (zo p)) hbi (HVE.out.below hm1.fr.be) hbt hgi hcv)
   have hk1 := hlt
   have hk2 := HIL.out
   clear hp hpm hg hex hkp hsz hb1 hm1 hbi hbt hgi hcv
   go_upto_region 7 with (first
    | (refine lmT 47 ([.int .i64 p.bank, .int .u16 p.addr]) (HG.out) (HEX.out) ?_)
    | (refine stN ?_))
   obtain ⟨w7, hw7⟩ : ∃ w7, wr.alloc (zo p) = w7 := ⟨_, rfl⟩
   rw [hw7] at HM1 HP1 HEC ⊢
   clear hw7
   go_wp2_with (first
    | (refine ldT 47 (HP1.out) ?_)
    | (go_at_call 76; (with_reducible refine HEC.out.mono ?_); rintro e8 w8 ⟨rfl, hc8, ht8⟩; have HC8 := zh hc8; have HT8 := zh ht8; clear hc8 ht8))
   have hcv8 := HC8.out
   rw [cov_step HP.out] at hcv8
   have HM8 := zh (HM1.out.cov (f' := fun b o => yX I (its.take (m + 1)) b o) (by rw [EBV.out, EGV.out]; exact hcv8) (by rw [EGV.out]; exact HT8.out))
   clear hcv8
   go_roundw
   case rel => exact ⟨m + 1, HLT.out, by go_num, HM8⟩
   case measure => have h1 := HLT.out; simp [intOf]; omega
  ·obtain rfl : m = its.length := by omega
   have hm0 := HM.out
   rw [List.take_of_length_le (zn _)] at hm0
   have HM0 := zh hm0
   clear hm0 HM
   obtain ⟨wo, rfl⟩ : ∃ wo : World, wo = wr := ⟨_, rfl⟩
   go_wp2_with fail
   go_loopw [39] (fun i wr => ∃ (m : Nat) (vi : Value), m ≤ its.length ∧ i = .int .i64 m ∧ Hid (MkW I ba bc da dc ra rn rc wE C (fun b o => yX I its b o) (fun b o => clM I its (its.take m) b o) vi (((its.take m).filter (yb I its)).map fun p => (⟨40, p⟩ : zM)) w wr)) (fun i _ => its.length - (intOf i).toNat)
   case atStart => exact ⟨0, _, Nat.zero_le _, rfl, by simp only [List.take_zero, List.filter_nil, List.map_nil, clM_nil]; exact HM0⟩
   case round =>
    clear HM0
    obtain ⟨m, vi, hm, rfl, HM⟩ := hrel
    by_cases hlt : m < its.length
    ·obtain ⟨p, hp⟩ : ∃ p, its[m]? = some p := ⟨_, List.getElem?_eq_getElem hlt⟩
     have hpm := List.mem_of_getElem? hp
     obtain ⟨hle, g, off, cur, T, fr, hAe, hg, hex⟩ := HM.out.fr.item (m := m) (p := p) (by rw [EITS.out]; exact hp)
     rw [EA.out] at hAe
     rw [EITS.out, ECAP.out] at hle
     subst hAe
     have hkp := HPK.out p hpm
     have hsz := szI_eq hkp.1
     have HG := zh hg
     have HEX := zh hex
     have HP := zh hp
     have HLT := zh hlt
     have hb1 : Below wr.heap.size wr (wr.alloc (zo p)) := (Below.refl _ _).alloc (zn _) _
     have HM1 := zh (HM.out.below hb1)
     have HP1 := zh (heap_alloc_new wr (zo p))
     have hk1 := hlt
     have hk2 := HIL.out
     clear hp hg hex hb1
     go_upto_region 12 with (first
      | (refine lmT 47 ([.int .i64 p.bank, .int .u16 p.addr]) (HG.out) (HEX.out) ?_)
      | (refine stN ?_))
     obtain ⟨w7, hw7⟩ : ∃ w7, wr.alloc (zo p) = w7 := ⟨_, rfl⟩
     rw [hw7] at HM1 HP1 ⊢
     clear hw7
     have hb2 : Below w7.heap.size w7 (w7.alloc (.cells #[.bool false] 4)) := (Below.refl _ _).alloc (zn _) _
     have hm2 := HM1.out.below hb2
     have HM2 := zh hm2
     have HP2 := zh (za hb2 HP1.out)
     have HS2 := zh (heap_alloc_new w7 (.cells #[.bool false] 4))
     have hz7 := HM1.out.tr.size
     have HZ7 := zh hz7
     have hbi := hm2.fr.bi
     have hbp := hm2.fr.bp
     have hbt := hm2.fr.bt
     have hgi := hm2.fr.gi
     have hcv := hm2.cv
     have hhl := hm2.hl
     have hcl := hm2.cl
     rw [EBI.out] at hbi
     rw [EBP.out, EBL.out] at hbp
     rw [EBT.out, EGI.out] at hbt
     rw [EGI.out, EL.out] at hgi
     rw [EBV.out, EGV.out] at hcv
     rw [EBL.out, EVC.out, EVR.out] at hhl
     rw [EGS.out, EVC.out] at hcl
     have HEC := zh (each_cls I HI.out ba bc da dc ra rn rc (w.heap.size) (w.heap.size + 2) gi (insL I its0) p hkp.2.2.1 hkp.2.2.2 (ok_at hkp.1).ii (atI I p).1 (szI I p) hsz.1 hsz.2 (ok_end HI.out hkp.1) (HGT.out p hpm) wE.heap.size (w4.heap.size + 1) w4.heap.size w7.heap.size (w.heap.size + 1) bl (fun b o => yX I its b o) (fun b o => by have h1 := covN_le (I := I) (l := its) (b := b) (o := o); have := HIL.out; omega) gs hgs _ vc vr vi false (w7.alloc (.cells #[.bool false] 4)) hbi (HVE.out.below hm2.fr.be) hbt hgi ⟨hcv, HS2.out, hbp, hhl, hcl, zg.refl _ _⟩)
     clear hpm hkp hsz hb2 hm2 hz7 hbi hbp hbt hgi hcv hhl hcl
     go_upto_region 13 with fail
     obtain ⟨w8, hw8⟩ : ∃ w8, w7.alloc (.cells #[.bool false] 4) = w8 := ⟨_, rfl⟩
     rw [hw8] at HM2 HP2 HS2 HEC ⊢
     clear hw8
     go_upto_region 14 with (first
      | (refine ldT 47 (HP2.out) ?_)
      | (go_at_call 76; (with_reducible refine HEC.out.mono ?_); rintro e9 w9 ⟨rfl, hj9⟩; have HJ9 := zh hj9; clear hj9))
     have hse : (false || (List.range (szI I p)).any fun j => decide (1 < yX I its p.bank.toNat (zI p + j))) = yb I its p := by rw [Bool.false_or]; rfl
     have hj9 := HJ9.out
     rw [hse] at hj9
     have hce : (fun b o => if inK p (szI I p) b o then clsK (yX I its b o) ((o : Int) - zI p) else clM I its (its.take m) b o) = fun b o => clM I its (its.take (m + 1)) b o := by
      funext b o
      rw [clM_snoc HP.out]
      rfl
     rw [hce] at hj9
     have HS9 := zh hj9.hs
     have HP9 := zh (hj9.tr.heap HP2.out (fun e => by
      rcases e with e | e
      ·have h1 := HS2.out; rw [← e, HP2.out] at h1; injection h1 with h1; injection h1 with _ h1; exact absurd h1 (by decide)
      ·obtain ⟨b, hb, he⟩ := List.mem_iff_getElem.1 e
       have h1 := HM2.out.cl.row b wr.heap.size (by rw [EGS.out, List.getElem?_eq_getElem hb, he])
       rw [HP2.out] at h1; injection h1 with h1; injection h1 with _ h1; exact absurd h1 (by decide)))
     have HM9 := zh (HM2.out.cls (bs := w7.heap.size) (sh := yb I its p) (c' := fun b o => clM I its (its.take (m + 1)) b o) ⟨false, HS2.out⟩ HZ7.out (by rw [EBV.out, EGV.out, EBP.out, EBL.out, EGS.out, EVC.out, EVR.out]; exact hj9))
     clear hse hj9 hce HJ9 HM2 HP2 HS2 HEC HM1 HP1 HM
     have hcs := fun j => cell_of_row w9 w7.heap.size j _ _ _ HS9.out
     have hk1 := HLT.out
     have hk2 := HIL.out
     go_upto_if 47 with fail
     clear hcs
     have hfs : ((its.take (m + 1)).filter (yb I its)).map (fun p => (⟨40, p⟩ : zM)) = ((its.take m).filter (yb I its)).map (fun p => (⟨40, p⟩ : zM)) ++ (if yb I its p then [⟨40, p⟩] else []) := by
      rw [List.take_succ, HP.out]
      show (((its.take m ++ [p]).filter (yb I its)).map _) = _
      rw [List.filter_append, List.map_append, List.filter_cons]
      cases yb I its p <;> simp
     cases hsh : yb I its p with
     | false =>
      rw [hsh, if_neg (by decide), List.append_nil] at hfs
      have HFS := zh hfs
      clear hfs hsh
      go_wp2_with fail
      go_roundw
      case rel => exact ⟨m + 1, vi, HLT.out, by go_num, by rw [HFS.out]; exact HM9⟩
      case measure => have h1 := HLT.out; simp [intOf]; omega
     | true =>
      rw [hsh, if_pos rfl] at hfs
      have HFS := zh hfs
      clear hfs hsh
      generalize hgI : ((its.take m).filter (yb I its)).map (fun p => (⟨40, p⟩ : zM)) = iss at *
      have hil2 : iss.length ≤ 100000 := by
       rw [← hgI, List.length_map]
       have h1 := List.length_filter_le (yb I its) (its.take m)
       rw [List.length_take] at h1
       omega
      have HIL2 := zh hil2
      clear hgI hil2
      have hvi := zt HM9.out.is_
      obtain ⟨Ai, ci, hvi, -⟩ := hvi
      subst hvi
      have hd := (Below.refl w9.heap.size w9).drew
      have hbp := HM9.out.fr.bp
      have hhl := HM9.out.hl
      rw [EBP.out, EBL.out] at hbp
      rw [EBL.out, EVC.out, EVR.out] at hhl
      have HBP := zh hbp
      have HHL := zh hhl
      clear hbp hhl
      go_wp2_with fail
      refine zr (S := fun W => (∀ j, W.cell? ⟨w.heap.size + 1, j, none⟩ = (#[.pointer (some ⟨bl, 0, none⟩)] : Array Value)[j]?) ∧ (∀ j, W.cell? ⟨bl, j, none⟩ = (#[vc, vr, .slice Ai iss.length ci] : Array Value)[j]?) ∧ (∀ j, W.cell? ⟨wr.heap.size, j, none⟩ = (#[.int .i64 p.bank, .int .u16 p.addr] : Array Value)[j]?)) [9, 10, 11] (by kernel_rfl) ⟨fun j => cell_of_row _ _ _ _ _ _ (za hd HBP.out), fun j => cell_of_row _ _ _ _ _ _ (za hd HHL.out), fun j => cell_of_row _ _ _ _ _ _ (za hd HP9.out)⟩ (fun hHeld => ?_)
      (refine tz 0 ?_)
      (refine tz 1 ?_)
      (refine tz 2 ?_)
      (refine tz 3 ?_)
      (refine tz 4 ?_)
      (refine tz 5 ?_)
      (refine tz 6 ?_)
      refine yx 7 rfl (fun K hK => ?_)
      go_simp
      have hb10 : Below w9.heap.size w9 (w9.alloc (y8 ⟨40, p⟩)).drew := ((Below.refl _ _).alloc (zn _) _).drew
      have hi10 : (w9.alloc (y8 ⟨40, p⟩)).drew.heap[w9.heap.size]? = some (y8 ⟨40, p⟩) := heap_alloc_new w9 (y8 ⟨40, p⟩)
      have HM10 := zh (HM9.out.below hb10)
      have HI10 := zh hi10
      have HB10 := zh (za hb10 HBP.out)
      have HL10 := zh (za hb10 HHL.out)
      have HP10 := zh (za hb10 HP9.out)
      have hHeld2 : (∀ j, (w9.alloc (y8 ⟨40, p⟩)).drew.cell? ⟨w.heap.size + 1, j, none⟩ = (#[.pointer (some ⟨bl, 0, none⟩)] : Array Value)[j]?) ∧ (∀ j, (w9.alloc (y8 ⟨40, p⟩)).drew.cell? ⟨bl, j, none⟩ = (#[vc, vr, .slice Ai iss.length ci] : Array Value)[j]?) ∧ (∀ j, (w9.alloc (y8 ⟨40, p⟩)).drew.cell? ⟨wr.heap.size, j, none⟩ = (#[.int .i64 p.bank, .int .u16 p.addr] : Array Value)[j]?) := ⟨fun j => cell_of_row _ _ _ _ _ _ HB10.out, fun j => cell_of_row _ _ _ _ _ _ HL10.out, fun j => cell_of_row _ _ _ _ _ _ HP10.out⟩
      refine hK.out _ _ (.inr hHeld2) ?_
      (refine pts ?_)
      clear hK K hHeld hb10 hi10
      have HBS := zh HM10.out.tr.size
      have HNC := zh (show iss.length ≤ 100000000000 by have := HIL2.out; omega)
      refine yx 8 rfl (fun K hK => ?_)
      refine xq (.tmp 52) (.tmp 55) 36 58 rfl 3 24 _ infoIss Tryz.underlying36 rfl (by decide) (by decide) w.heap.size HBS.out (.slice Ai iss.length ci) iss.length (yf iss) rfl HM10.out.is_ HNC.out w9.heap.size 1 _ _ _ rfl HI10.out rfl rfl (by decide) (by decide) ?_
      intro ga cp w11 ho11 hg11 hv11
      have hm11 := HM10.out.issue (x := ⟨40, p⟩) (vi' := .slice (some ⟨ga, 0, none⟩) (iss.length + 1) cp) ho11 hg11
      have hx11 : ∀ {b : Nat} {o : Obj}, (w9.alloc (y8 ⟨40, p⟩)).drew.heap[b]? = some o → (∀ cs fr, o ≠ .cells cs 58 fr) → w11.heap[b]? = some o := fun hb hn => ((zg.refl (fun k => (Value.slice Ai iss.length ci).ownBlock = some k) _).grown hg11 (fun k e _ => e)).heap hb (xY HM10.out.is_ hb hn)
      have HM11 := zh hm11.1
      have hl11 := hm11.2
      rw [EBL.out, EVC.out, EVR.out] at hl11
      have HL11 := zh hl11
      refine hK.out _ _ (.inr ⟨fun j => cell_of_row _ _ _ _ _ _ (hx11 HB10.out (fun _ _ => zm (by decide))), fun j => cell_of_row _ _ _ _ _ _ HL11.out, fun j => cell_of_row _ _ _ _ _ _ (hx11 HP10.out (fun _ _ => zm (by decide)))⟩) ?_
      (refine pts ?_)
      clear hK K hHeld2 ho11 hg11 hv11 hm11 hx11 hl11
      refine z8 9 ?_
      simp only [List.drop_succ_cons, List.drop_zero]
      have hcl := fun j => cell_of_row w11 bl j _ _ _ HL11.out
      have hfl := fun j => frozen_of_row w11 bl j _ _ HL11.out
      have hk1 := HLT.out
      have hk2 := HIL.out
      go_wp2_with fail
      go_roundw
      case rel => exact ⟨m + 1, _, HLT.out, by go_num, zh (by have h := HM11.out; rw [EBL.out] at h; rw [HFS.out]; exact h)⟩
      case measure => have h1 := HLT.out; simp [intOf]; omega
    ·obtain rfl : m = its.length := by omega
     have hm0 := HM.out
     rw [List.take_of_length_le (zn _)] at hm0
     have HM0 := zh hm0
     clear hm0 HM
     obtain ⟨wo, rfl⟩ : ∃ wo : World, wo = wr := ⟨_, rfl⟩
     go_wp2_with fail
     go_loopw [62] (fun i wr => ∃ m : Nat, m ≤ its.length ∧ i = .int .i64 m ∧ Hid (MkW I ba bc da dc ra rn rc wE C (fun b o => yX I its b o) (fun b o => clT (I := I) (its := its) ((its.take m).flatMap fun p => (fl I p).tb) b o) vi ((its.filter (yb I its)).map fun p => (⟨40, p⟩ : zM)) w wr)) (fun i _ => its.length - (intOf i).toNat)
     case atStart => exact ⟨0, Nat.zero_le _, rfl, by simp only [List.take_zero, List.flatMap_nil, clT_nil]; exact HM0⟩
     case round =>
      clear HM0
      obtain ⟨m, hm, rfl, HM⟩ := hrel
      by_cases hlt : m < its.length
      ·obtain ⟨p, hp⟩ : ∃ p, its[m]? = some p := ⟨_, List.getElem?_eq_getElem hlt⟩
       have hpm := List.mem_of_getElem? hp
       obtain ⟨hle, g, off, cur, T, fr, hAe, hg, hex⟩ := HM.out.fr.item (m := m) (p := p) (by rw [EITS.out]; exact hp)
       rw [EA.out] at hAe
       rw [EITS.out, ECAP.out] at hle
       subst hAe
       have hkp := HPK.out p hpm
       have HKP := zh hkp
       have HG := zh hg
       have HEX := zh hex
       have HP := zh hp
       have HLT := zh hlt
       have hb1 : Below wr.heap.size wr (wr.alloc (zo p)) := (Below.refl _ _).alloc (zn _) _
       have HM1 := zh (HM.out.below hb1)
       have HP1 := zh (heap_alloc_new wr (zo p))
       have hib := ins_bd hkp.1
       have HFO := zh (fun W hv => follow_any I HI.out ba bc da dc ra rn rc (atI I p).1 hib.1 hib.2.2 (ok_size hkp.1) p hkp.2.2.1 hkp.2.2.2 W hv)
       have hgp := HGT.out p hpm
       have hgd : (yT p (insL I its0)).getD (insV yr) = .agg #[.int .i64 (atI I p).1.op, .int .i64 (atI I p).1.d, .int .i64 (atI I p).1.s, .int .u16 (atI I p).1.imm, .int .u16 (atI I p).1.aux, .int .i64 (atI I p).1.bank, .int .i64 (atI I p).1.size] := by rw [hgp]; rfl
       have HGD := zh hgd
       have HFB := zh (fl_bd hkp.2 hkp.1)
       have hfl : yU I (atI I p).1 p = fl I p := rfl
       rw [hfl] at HFO
       have hk1 := hlt
       have hk2 := HIL.out
       clear hp hg hex hb1 hib hgp hgd hfl hkp hpm
       go_upto_region 20 with (first
        | (refine lmT 47 ([.int .i64 p.bank, .int .u16 p.addr]) (HG.out) (HEX.out) ?_)
        | (refine stN ?_))
       obtain ⟨w7, hw7⟩ : ∃ w7, wr.alloc (zo p) = w7 := ⟨_, rfl⟩
       rw [hw7] at HM1 HP1 ⊢
       clear hw7
       have hd := (Below.refl w7.heap.size w7).drew
       have HMd := zh (HM1.out.below hd)
       have hbi := HMd.out.fr.bi
       have hbt := HMd.out.fr.bt
       have hgi := HMd.out.fr.gi
       rw [EBI.out] at hbi
       rw [EBT.out, EGI.out] at hbt
       rw [EGI.out, EL.out] at hgi
       have HBI := zh hbi
       have HBT := zh hbt
       have HGI := zh hgi
       have HPd := zh (za hd HP1.out)
       clear hbi hbt hgi hd HM HM1 HP1
       refine zr (S := fun W => (∀ j, W.cell? ⟨w.heap.size, j, none⟩ = (#[.slice ba I.banks.length bc, .int .u16 I.entry, .int .u16 I.vector, .slice da I.data.length dc, .slice ra rn rc] : Array Value)[j]?) ∧ (∀ j, W.cell? ⟨w.heap.size + 2, j, none⟩ = (#[.map (some gi)] : Array Value)[j]?) ∧ (∀ j, W.cell? ⟨wr.heap.size, j, none⟩ = (#[.int .i64 p.bank, .int .u16 p.addr] : Array Value)[j]?) ∧ W.heap[gi]? = some (yc yL (insL I its0))) [] (by kernel_rfl) ⟨fun j => cell_of_row _ _ _ _ _ _ HBI.out, fun j => cell_of_row _ _ _ _ _ _ HBT.out, fun j => cell_of_row _ _ _ _ _ _ HPd.out, HGI.out⟩ (fun hHeld => ?_)
       (refine tz 0 ?_)
       (refine tz 1 ?_)
       (refine tz 2 ?_)
       (refine tz 4 ?_)
       (refine tz 10 ?_)
       (refine tkZ 3 (v := .agg #[.int .i64 (atI I p).1.op, .int .i64 (atI I p).1.d, .int .i64 (atI I p).1.s, .int .u16 (atI I p).1.imm, .int .u16 (atI I p).1.aux, .int .i64 (atI I p).1.bank, .int .i64 (atI I p).1.size]) rfl (by assumption) (fun W hS => by
        rw [exec_lookupL xj Tryz.underlying100 hS.2.2.2 _ _ false rfl rfl p rfl (zero_insV W)]
        rw [if_neg (by decide), HGD.out]) ?_; (refine pts ?_))
       refine yx 5 rfl (fun K hK => ?_)
       go_simp
       with_reducible refine (HFO.out _ (HVE.out.below HMd.out.fr.be)).mono ?_
       rintro e8 w8 ⟨gf, gf2, lf, vn, vcl, vt, rfl, hfw, hb8⟩
       have hot := hfw.ot
       obtain ⟨At, ct, hvt, -⟩ := zt hot
       subst hvt
       have HM8 := zh (HMd.out.below hb8)
       have HF8 := zh hfw.blk
       have HT8 := zh hot
       have hHeld2 : (∀ j, w8.cell? ⟨w.heap.size, j, none⟩ = (#[.slice ba I.banks.length bc, .int .u16 I.entry, .int .u16 I.vector, .slice da I.data.length dc, .slice ra rn rc] : Array Value)[j]?) ∧ (∀ j, w8.cell? ⟨w.heap.size + 2, j, none⟩ = (#[.map (some gi)] : Array Value)[j]?) ∧ (∀ j, w8.cell? ⟨wr.heap.size, j, none⟩ = (#[.int .i64 p.bank, .int .u16 p.addr] : Array Value)[j]?) ∧ w8.heap[gi]? = some (yc yL (insL I its0)) := ⟨fun j => cell_of_row _ _ _ _ _ _ (za hb8 HBI.out), fun j => cell_of_row _ _ _ _ _ _ (za hb8 HBT.out), fun j => cell_of_row _ _ _ _ _ _ (za hb8 HPd.out), za hb8 HGI.out⟩
       go_simp
       refine hK.out _ _ (.inr hHeld2) ?_
       (refine pts ?_)
       clear hK K hHeld hfw hb8 hot
       have hHeld := hHeld2
       clear hHeld2
       (refine tz 6 ?_)
       (refine tz 7 ?_)
       have hcf := fun j => cell_of_row w8 gf j _ _ _ HF8.out
       refine yx 8 rfl (fun K hK => ?_)
       go_simp
       refine hK.out _ _ (.inr hHeld) ?_
       (refine pts ?_)
       clear hK K
       (refine tz 9 ?_)
       refine ⟨by kernel_rfl, ?_⟩
       clear hHeld hcf
       simp only [Exit.then]
       have htl : (fl I p).tb.length ≤ 600 := HFB.out.lt
       have hlc : (fl I p).tb.length ≤ ct := (yd HT8.out).le
       have HTI := zh HFB.out.tb
       have HTA := zh (show ∀ q ∈ (fl I p).tb, 0 ≤ q.addr ∧ q.addr < 65536 from flow_addr I (atI I p).1 p)
       obtain ⟨tb, htb⟩ : ∃ tb, (fl I p).tb = tb := ⟨_, rfl⟩
       have HTB := zh htb
       rw [htb] at htl hlc HT8 HTI HTA ⊢
       have HTLL := zh htl
       clear htb HFO HF8 HGD HBI HBT HGI HPd HMd HFB
       go_wp2_with fail
       obtain ⟨wq, rfl⟩ : ∃ wq : World, wq = wr := ⟨_, rfl⟩
       go_loopw [76] (fun i wr => ∃ n : Nat, n ≤ tb.length ∧ i = .int .i64 n ∧ Hid (MkW I ba bc da dc ra rn rc wE C (fun b o => yX I its b o) (fun b o => clT (I := I) (its := its) ((its.take m).flatMap (fun p => (fl I p).tb) ++ tb.take n) b o) vi ((its.filter (yb I its)).map fun p => (⟨40, p⟩ : zM)) w wr) ∧ Hid (wr.ownsRow (w7.drew.heap.size + 3) 47 2 (.slice At tb.length ct) tb.length (zp tb))) (fun i _ => tb.length - (intOf i).toNat)
       case atStart => exact ⟨0, Nat.zero_le _, rfl, by rw [List.take_zero, List.append_nil]; exact HM8, HT8⟩
       case round =>
        clear HM8 HT8
        obtain ⟨n, hn, rfl, HM, HT⟩ := hrel
        by_cases hltn : n < tb.length
        ·obtain ⟨q, hq⟩ : ∃ q, tb[n]? = some q := ⟨_, List.getElem?_eq_getElem hltn⟩
         have hqm := List.mem_of_getElem? hq
         have hqi := HTI.out q hqm
         have hqa := HTA.out q hqm
         obtain ⟨pb, hpb⟩ := Int.eq_ofNat_of_zero_le (xp (y6 hqi).1).1
         have hpl : pb < gs.length := by have := (y6 hqi).2; omega
         obtain ⟨gr, hgr⟩ : ∃ gr, gs[pb]? = some gr := ⟨_, List.getElem?_eq_getElem hpl⟩
         have hrow := (yd HT.out).row hltn
         rw [show zp tb = tb.flatMap yQ from rfl, xT yQ 2 (fun _ => rfl) tb n q hq] at hrow
         obtain ⟨g3, off3, cur3, T3, fr3, hAt, hg3, hex3, -, -⟩ := hrow
         subst hAt
         have HG3 := zh hg3
         have HEX3 := zh hex3
         have HQ := zh hq
         have HLTN := zh hltn
         have HGR := zh hgr
         have HPL := zh hpl
         have hb1 : Below wr.heap.size wr (wr.alloc (zo q)) := (Below.refl _ _).alloc (zn _) _
         have HM1 := zh (HM.out.below hb1)
         have HP1 := zh (heap_alloc_new wr (zo q))
         have HT1 := zh (HT.out.alloc (zo q))
         have HOF := zh (fun W hv => ioff_in I HI.out ba bc da dc ra rn rc q hqa.1 hqa.2 W hv hqi)
         have HPB := zh hpb
         clear hqm hqi hqa hq hgr hpl hg3 hex3 hb1 hpb
         go_upto_region 23 with (first
          | (refine lmT 47 ([.int .i64 q.bank, .int .u16 q.addr]) (HG3.out) (HEX3.out) ?_)
          | (refine stN ?_))
         obtain ⟨w10, hw10⟩ : ∃ w10, wr.alloc (zo q) = w10 := ⟨_, rfl⟩
         rw [hw10] at HM1 HP1 HT1 ⊢
         clear hw10
         have hbi := HM1.out.fr.bi
         rw [EBI.out] at hbi
         have HBI := zh hbi
         clear hbi
         go_upto_region 24 with (first
          | (refine ldT 47 (HP1.out) ?_)
          | (refine ldT 31 (HBI.out) ?_)
          | (go_at_call 64; (with_reducible refine (HOF.out _ (HVE.out.below HM1.out.fr.be)).mono ?_); rintro e11 w11 ⟨rfl, hb11⟩; have HM11 := zh (HM1.out.below hb11); have HT11 := zh (zi HT1.out (zg.ofBelow (bs := fun _ => False) hb11) (fun _ _ e => e)); clear hb11))
         rw [HPB.out]
         clear HM HT HM1 HP1 HT1 HBI
         have hcv := HM11.out.cv
         rw [EBV.out, EGV.out] at hcv
         obtain ⟨hcb, Lc, hLc, hMc⟩ := hcv
         have hvc := hMc.val pb (zI q)
         have HLc := zh hLc
         have HVc := zh hvc
         have hcc := fun j => cell_of_row w11 (w4.heap.size + 1) j _ _ _ hcb
         clear hcb hLc hMc hvc
         go_upto_if 92 with (refine yq cellKey Tryz.underlying150 HLc.out rfl _ _ rfl rfl (pb, zI q) rfl (zero_int _) ?_; rw [HVc.out])
         clear hcc
         have htk : tb.take (n + 1) = tb.take n ++ [q] := by rw [List.take_succ, HQ.out]; rfl
         by_cases hz0 : yX I its pb (zI q) = 0
         ·have hd0 : ((yX I its pb (zI q) : Int) == 0) = true := by rw [hz0]; rfl
          have HZ0 := zh hz0
          clear hz0
          have hmm := HM11.out
          have hbp := hmm.fr.bp
          have hhl := hmm.hl
          have hcl := hmm.cl
          rw [EBP.out, EBL.out] at hbp
          rw [EBL.out, EVC.out, EVR.out] at hhl
          rw [EGS.out, EVC.out] at hcl
          obtain ⟨gvb, capb, hvcb, hleb, hcellb, -⟩ := hcl.slice HGR.out
          have hrow := hcl.row pb gr HGR.out
          have hofl := offP_lt q
          have hct : w11.cell? ⟨gr, zI q, none⟩ = some (.int .u8 (clT (I := I) (its := its) ((its.take m).flatMap (fun p => (fl I p).tb) ++ tb.take n) pb (zI q))) := by
           rw [cell_of_row _ _ _ _ _ _ hrow, yM _ hofl]
          have hft : w11.frozen? ⟨gr, zI q, none⟩ = false := frozen_of_row _ _ _ _ _ hrow
          have hcb : w11.cell? ⟨gvb, pb, none⟩ = some (.slice (some ⟨gr, 0, none⟩) 4096 4096) := hcellb
          have hp1 := fun j => cell_of_row w11 (w.heap.size + 1) j _ _ _ hbp
          rw [hvcb] at hhl
          have hp2 := fun j => cell_of_row w11 bl j _ _ _ hhl
          have hpli : (pb : Int) < (gs.length : Int) := by have := HPL.out; omega
          have hoi : (zI q : Int) < 4096 := by omega
          have hk1 := HLTN.out
          have hk2 := HTLL.out
          clear hmm hbp hhl hcl hrow hcellb hofl hvcb
          go_wp2_with fail
          have hm12 := HM11.out.tab (b := pb) (g := gr) (o := zI q) (by rw [EGS.out]; exact HGR.out) 4
          have hce : (fun b' o' => if b' = pb ∧ o' = zI q then (4 : Int) else clT (I := I) (its := its) ((its.take m).flatMap (fun p => (fl I p).tb) ++ tb.take n) b' o') = fun b o => clT (I := I) (its := its) ((its.take m).flatMap (fun p => (fl I p).tb) ++ tb.take (n + 1)) b o := by
           funext b o
           rw [htk, ← List.append_assoc, clT_snoc, HPB.out]
           by_cases h : b = pb ∧ o = zI q
           ·obtain ⟨rfl, rfl⟩ := h
            rw [if_pos ⟨rfl, rfl⟩, if_pos ⟨⟨rfl, rfl⟩, HZ0.out⟩]
           ·rw [if_neg h, if_neg (fun e => h ⟨by have := e.1.1; omega, e.1.2.symm⟩)]
          rw [hce] at hm12
          have hrow2 := HM11.out.cl.row pb gr (by rw [EGS.out]; exact HGR.out)
          have ht12 := zi HT11.out ((zg.refl (fun j => j = gr) w11).setCell (g := gr) (i := zI q) (.int .u8 4) (fun _ => rfl)) (ye HT11.out hrow2 (fun _ _ => zm (by decide)))
          go_roundw
          case rel => exact ⟨n + 1, HLTN.out, by go_num, zh hm12, zh ht12⟩
          case measure => have h1 := HLTN.out; simp [intOf]; omega
         ·have hd0 : ((yX I its pb (zI q) : Int) == 0) = false := by simpa using hz0
          have HZ0 := zh hz0
          clear hz0
          have hk1 := HLTN.out
          have hk2 := HTLL.out
          go_wp2_with fail
          have hm12 := HM11.out
          have hce : (fun b o => clT (I := I) (its := its) ((its.take m).flatMap (fun p => (fl I p).tb) ++ tb.take n) b o) = fun b o => clT (I := I) (its := its) ((its.take m).flatMap (fun p => (fl I p).tb) ++ tb.take (n + 1)) b o := by
           funext b o
           rw [htk, ← List.append_assoc, clT_snoc, HPB.out, if_neg]
           intro e
           have h1 : b = pb := by have := e.1.1; omega
           have h2 : o = zI q := e.1.2.symm
           subst h1 h2
           exact HZ0.out e.2
          rw [hce] at hm12
          go_roundw
          case rel => exact ⟨n + 1, HLTN.out, by go_num, zh hm12, HT11⟩
          case measure => have h1 := HLTN.out; simp [intOf]; omega
        ·obtain rfl : n = tb.length := by omega
         have hm0 := HM.out
         rw [List.take_of_length_le (zn _)] at hm0
         have hfm : (its.take m).flatMap (fun p => (fl I p).tb) ++ tb = (its.take (m + 1)).flatMap (fun p => (fl I p).tb) := by
          rw [List.take_succ, HP.out]
          show _ = (its.take m ++ [p]).flatMap _
          rw [List.flatMap_append, List.flatMap_cons, List.flatMap_nil, List.append_nil, HTB.out]
         rw [hfm] at hm0
         have HM9 := zh hm0
         clear hm0 hfm HM
         have hk1 := HLT.out
         have hk2 := HIL.out
         go_wp2_with fail
         go_roundw
         case rel => exact ⟨m + 1, HLT.out, by go_num, HM9⟩
         case measure => have h1 := HLT.out; simp [intOf]; omega
      ·obtain rfl : m = its.length := by omega
       go_wp2_with fail
       go_end0
       have hm0 := HM.out
       rw [List.take_of_length_le (zn _)] at hm0
       have hce : (fun b o => clT (I := I) (its := its) (its.flatMap fun p => (fl I p).tb) b o) = clOf I its := by
        funext b o
        exact clT_all b o
       rw [hce] at hm0
       have hhl := hm0.hl
       have hcl := hm0.cl
       have htr := hm0.tr
       rw [EBL.out, EVC.out, EVR.out] at hhl
       rw [EGS.out, EVC.out] at hcl
       rw [EBL.out, EGS.out] at htr
       exact ⟨rfl, its, vi, HP4.out, HS4.out, hhl, hcl, hm0.is_, htr⟩
end Go.Proofs.YteofmaiojepdkaaGreat
