/- The reference of chapter 05: mark, walked. Condition: the image's banks have 4096 bytes; the place is that of an instruction. -/
import Derived.Test.YteofmaiojepdkaaGreatTbRfD
set_option linter.all false
namespace Go.Proofs.YteofmaiojepdkaaGreat
open Go Go.RowKit Go.Maps Go.Sort
@[go_sem] theorem fnd_ins (o d s i u b z e : Int) (W : World) : (Instr.field 67 (.agg #[.int .i64 o, .int .i64 d, .int .i64 s, .int .u16 i, .int .u16 u, .int .i64 b, .int .i64 z, .int .i64 e]) 0).run Tryz.prog W = .ok (.agg #[.int .i64 o, .int .i64 d, .int .i64 s, .int .u16 i, .int .u16 u, .int .i64 b, .int .i64 z]) W := by kernel_rfl
structure RkW (bl B : Nat) (gs : List Nat) (c : Nat → Nat → Int) (vc vr vi : Value) (iss : List zM) (w0 W : World) : Prop where
 hl : W.heap[bl]? = some (.cells #[vc, vr, vi] 38 (0, 0))
 cl : xM B gs c vc W
 is_ : W.ownsRow w0.heap.size 58 3 vi iss.length (yf iss)
 tr : zg (fun j => j = bl ∨ j ∈ gs) w0 W
section
variable {bl B : Nat} {gs : List Nat} {c : Nat → Nat → Int} {vc vr vi vi' : Value} {iss : List zM} {w0 W W' : World}
theorem RkW.below (h : RkW bl B gs c vc vr vi iss w0 W) (hb : Below W.heap.size W W') : RkW bl B gs c vc vr vi iss w0 W' :=
 ⟨za hb h.hl, h.cl.below hb, zi h.is_ (zg.ofBelow (bs := fun _ => False) hb) (fun _ _ e => e), h.tr.trans (zg.ofBelow (bs := fun _ => False) hb) (fun _ _ e => e.elim)⟩
theorem RkW.ne (h : RkW bl B gs c vc vr vi iss w0 W) {k : Nat} {cs : Array Value} {T : TypeId} {fr : Nat × Nat} (hk : W.heap[k]? = some (.cells cs T fr)) (h1 : T ≠ 38) (h2 : T ≠ 5) : ¬ (k = bl ∨ k ∈ gs) := fun e => by
 rcases e with rfl | e
 ·rw [h.hl] at hk
  injection hk with hk
  injection hk with _ hk
  exact h1 hk.symm
 ·obtain ⟨b, hb, he⟩ := List.mem_iff_getElem.1 e
  have h3 := h.cl.row b k (by rw [List.getElem?_eq_getElem hb, he])
  rw [h3] at hk
  injection hk with hk
  injection hk with _ hk
  exact h2 hk.symm
theorem RkW.put (h : RkW bl B gs c vc vr vi iss w0 W) {b g o : Nat} (hg : gs[b]? = some g) (x : Int) : RkW bl B gs (fun b' o' => if b' = b ∧ o' = o then x else c b' o') vc vr vi iss w0 (W.setCell ⟨g, o, none⟩ (.int .u8 x)) := by
 have hgm := List.mem_of_getElem? hg
 have hrow := h.cl.row b g hg
 have t : zg (fun k => k = g) W (W.setCell ⟨g, o, none⟩ (.int .u8 x)) := (zg.refl _ W).setCell _ (fun _ => rfl)
 have hn : ∀ {k : Nat} {ob : Obj}, W.heap[k]? = some ob → (∀ cs fr, ob ≠ .cells cs 5 fr) → ¬ k = g := fun hk hno e => by
  rw [e, hrow] at hk
  injection hk with hk
  exact hno _ _ hk.symm
 exact ⟨t.heap h.hl (hn h.hl (fun _ _ => zm (by decide))), h.cl.put x hg, zi h.is_ t (ye h.is_ hrow (fun _ _ => zm (by decide))), h.tr.trans t (fun k hk e => .inr (by rw [e]; exact hgm))⟩
theorem RkW.issue (h : RkW bl B gs c vc vr vi iss w0 W) {x : zM} (ho : W'.ownsRow w0.heap.size 58 3 vi' (iss.length + 1) (yf iss ++ issL x)) (hg : W.grownBy W' vi.ownBlock) : RkW bl B gs c vc vr vi' (iss ++ [x]) w0 (W'.setCell ⟨bl, 2, none⟩ vi') ∧ W'.heap[bl]? = some (.cells #[vc, vr, vi] 38 (0, 0)) := by
 have t1 : zg (fun k => vi.ownBlock = some k) W W' := (zg.refl _ W).grown hg (fun k e _ => e)
 have hx1 : ∀ {b : Nat} {o : Obj}, W.heap[b]? = some o → (∀ cs fr, o ≠ .cells cs 58 fr) → W'.heap[b]? = some o := fun hb hn => t1.heap hb (xY h.is_ hb hn)
 have hbl1 := hx1 h.hl (fun _ _ => zm (by decide))
 have t2 : zg (fun k => k = bl) W' (W'.setCell ⟨bl, 2, none⟩ vi') := (zg.refl _ W').setCell _ (fun _ => rfl)
 have hcl1 : xM B gs c vc W' := h.cl.turn t1 (fun k cs T fr hk hT e => by
  obtain ⟨-, cs', hc'⟩ := zz h.is_ k e
  rw [hc'] at hk
  injection hk with hk
  injection hk with _ hk
  rcases hT with hT | hT <;> rw [← hk] at hT <;> exact absurd hT (by decide))
 refine ⟨⟨?_, hcl1.turn t2 (fun k cs T fr hk hT e => ?_), ?_, (h.tr.trans t1 (fun k hk e => by have := (h.is_.lt k e).1; omega)).trans t2 (fun k hk e => .inl e)⟩, hbl1⟩
 ·rw [heap_setCell_same hbl1 (i := 2) vi']; rfl
 ·rw [e, hbl1] at hk
  injection hk with hk
  injection hk with _ hk
  rcases hT with hT | hT <;> rw [← hk] at hT <;> exact absurd hT (by decide)
 ·have : yf (iss ++ [x]) = yf iss ++ issL x := by simp [yf]
  rw [this, List.length_append]
  exact zi ho t2 (ye ho hbl1 (fun _ _ => zm (by decide)))
end
def clJ (f : Nat → Nat → Nat) (c : Nat → Nat → Int) (p : zb) (k b o : Nat) : Int := if inK p k b o then clsK (f b o) ((o : Int) - zI p) else c b o
def shK (f : Nat → Nat → Nat) (b o k : Nat) : Bool := (List.range k).any fun j => decide (1 < f b (o + j))
theorem shK_succ (f : Nat → Nat → Nat) (b o k : Nat) : shK f b o (k + 1) = (shK f b o k || decide (1 < f b (o + k))) := any_range_succ _ k
theorem clJ_zero (f : Nat → Nat → Nat) (c : Nat → Nat → Int) (p : zb) : clJ f c p 0 = c := by funext b o; unfold clJ; rw [inK_zero]; rfl
theorem clJ_put (f : Nat → Nat → Nat) (c : Nat → Nat → Int) (p : zb) (k pb ok : Nat) (x : Int) (hb : p.bank = pb) (hok : zI p + k = ok) (hx : clsK (f pb ok) k = x) : (fun b' o' => if b' = pb ∧ o' = ok then x else clJ f c p k b' o') = clJ f c p (k + 1) := by
 subst hok
 funext b o
 unfold clJ
 rw [inK_succ p k b o pb hb]
 by_cases h : b = pb ∧ o = zI p + k
 ·obtain ⟨rfl, rfl⟩ := h
  rw [if_pos ⟨rfl, rfl⟩, inK_not, ← hx]
  simp
  congr 1
  omega
 ·rw [if_neg h]
  simp [h]
def MkJ (f : Nat → Nat → Nat) (c : Nat → Nat → Int) (p : zb) (bl B : Nat) (gs : List Nat) (vc vr vi : Value) (iss : List zM) (w0 w3 : World) (k : Nat) (W : World) : Prop := RkW bl B gs (clJ f c p k) vc vr vi iss w0 W ∧ zg (fun j => j = bl ∨ j ∈ gs) w3 W
def RmkP (bl B : Nat) (gs : List Nat) (c : Nat → Nat → Int) (vc vr : Value) (iss : List zM) (w0 : World) (e : Ending) (w' : World) : Prop := e = .returned (.tuple #[]) ∧ ∃ vi', RkW bl B gs c vc vr vi' iss w0 w'
set_option maxRecDepth 100000 in
set_option maxHeartbeats 4000000 in
theorem rmark_any (I : zk) (hI : I.Ok) (ba : Option Addr) (bc : Nat) (da : Option Addr) (dc : Nat) (ra : Option Addr) (rn rc : Nat) (p : zb) (hok : okI I p) (hp : yO p) (bl B : Nat) (gs : List Nat) (hgs : gs.length = I.banks.length) (c : Nat → Nat → Int) (vc vr vi : Value) (iss : List zM) (hil : iss.length ≤ 1000000) (gcv nn : Nat) (hnn : nn ≤ 1000000) (cv : Nat → Int) (f : Nat → Nat → Nat) (w0 w : World) (hV : yG w I ba bc da dc) (hR : RkW bl B gs c vc vr vi iss w0 w) (hcv : w.heap[gcv]? = some (.cells (rowI nn cv) 3 (0, 0)))
  (hf : ∀ b o : Nat, p.bank = b → o < 4096 → ∃ bm ix : Nat, b * 4096 = bm ∧ bm + o = ix ∧ ix < nn ∧ cv ix = f b o) :
  Calls Tryz.prog 47 #[.agg #[.slice ba I.banks.length bc, .int .u16 I.entry, .int .u16 I.vector, .slice da I.data.length dc, .slice ra rn rc], .pointer (some ⟨bl, 0, none⟩), .agg #[.int .i64 p.bank, .int .u16 p.addr], .slice (some ⟨gcv, 0, none⟩) nn nn] w
   (RmkP bl B gs (fun b o => if covP I b o p then clsK (f b o) ((o : Int) - zI p) else c b o) vc vr (iss ++ if shK f p.bank.toNat (zI p) (szI I p) then [⟨40, p⟩] else []) w0) := by
 obtain ⟨pbi, ya⟩ := p
 have hcb := xp (y6 (ok_at hok).ii).1
 have hbI := (y6 (ok_at hok).ii).2
 obtain ⟨pb, hpb⟩ := Int.eq_ofNat_of_zero_le hcb.1
 have hpb' : pbi = (pb : Int) := hpb
 subst hpb'
 have hsz := szI_eq hok
 have hend := ok_end hI hok
 have hof := offP_lt ⟨(pb : Int), ya⟩
 obtain ⟨g, hg⟩ : ∃ g, gs[pb]? = some g := ⟨_, List.getElem?_eq_getElem (by have h1 : ((pb : Int)) < I.banks.length := hbI; omega)⟩
 obtain ⟨o, ho⟩ : ∃ o, zI ⟨(pb : Int), ya⟩ = o := ⟨_, rfl⟩
 obtain ⟨z, hz⟩ : ∃ z, szI I ⟨(pb : Int), ya⟩ = z := ⟨_, rfl⟩
 have htm : ya.tmod 4096 = (o : Int) := by
  have h1 : 0 ≤ ya := hp.2.1
  have h2 : zI ⟨(pb : Int), ya⟩ = (ya % 4096).toNat := rfl
  rw [Int.tmod_eq_emod_of_nonneg h1]
  omega
 have hya0 : 0 ≤ ya := hp.2.1
 have hya1 : ya < 65536 := hp.2.2
 have HFF := zh (fun o => hf pb o rfl)
 have HZI := zh hz
 have HOO := zh ho
 have hsz1 := hsz.1
 have hsz2 := hsz.2
 rw [hz] at hsz1 hsz2 hend
 rw [ho] at hend hof
 have HSZ := zh hsz1
 have HEN := zh hend
 have HOL := zh hof
 have HG := zh hg
 have HGS := zh hgs
 have HIL := zh hil
 have hcl : (fun b o => if covP I b o ⟨(pb : Int), ya⟩ then clsK (f b o) ((o : Int) - zI ⟨(pb : Int), ya⟩) else c b o) = clJ f c ⟨(pb : Int), ya⟩ z := by
  rw [← hz]; rfl
 rw [hcl, ho, hz, show ((pb : Int)).toNat = pb from rfl]
 obtain ⟨il, hil2⟩ : ∃ il, (if shK f pb o z then [(⟨40, ⟨(pb : Int), ya⟩⟩ : zM)] else []) = il := ⟨_, rfl⟩
 rw [hil2]
 have HILS := zh hil2
 clear hil2
 have HAT := zh (fun W hv => rat_any I hI ba bc da dc ra rn rc ⟨(pb : Int), ya⟩ hya0 hya1 W hv)
 have HV := zh hV
 have HR := zh hR
 have HCV := zh hcv
 have HB := zh (Bx.two w (z6 I ba bc da dc ra rn rc) (zo ⟨(pb : Int), ya⟩))
 have HN := zh hnn
 clear hcb hpb hsz hend hof ho hz hf hsz1 hsz2 hg hgs hil hcl hV hR hcv hok hp hbI hI hnn
 go_enter Tryz.func47, Tryz.ntmps47
 go_upto_region 2 with (first
  | (refine ldT 47 (HB.out.b1) ?_)
  | (refine ldT 31 (HB.out.b0) ?_)
  | (refine stN ?_)
  | (go_at_call 25; (with_reducible refine (HAT.out _ (HV.out.below HB.out.bb)).mono ?_); rintro e2 w2 ⟨rfl, hb2⟩; rw [HSZ.out]; have HB2 := zh hb2; clear hb2))
 (refine pts ?_)
 generalize hx : (atI I ⟨(pb : Int), ya⟩).1 = x at *
 obtain ⟨x8, hx8⟩ : ∃ x8, (atI I ⟨(pb : Int), ya⟩).2 = x8 := ⟨_, rfl⟩
 rw [hx8]
 clear hx hx8
 have hb3 : Below w2.heap.size w2 (w2.alloc (xS ⟨x.op, x.d, x.s, x.imm, x.aux, x.bank, z⟩)) := (Below.refl _ _).alloc (zn _) _
 have HX := zh ((HB.out.stay HB2.out).stay hb3)
 have HI3 := zh (heap_alloc_new w2 (xS ⟨x.op, x.d, x.s, x.imm, x.aux, x.bank, z⟩))
 have HW3 := zh (HB.out.bb.trans ((HB2.out.trans (hb3.mono HB2.out.size)).mono HB.out.bb.size))
 obtain ⟨gx, hgx⟩ : ∃ gx, w2.heap.size = gx := ⟨_, rfl⟩
 obtain ⟨w3, hw3⟩ : ∃ w3, w2.alloc (xS ⟨x.op, x.d, x.s, x.imm, x.aux, x.bank, z⟩) = w3 := ⟨_, rfl⟩
 rw [hw3] at HX HI3 HW3 ⊢
 rw [hgx] at HI3 ⊢
 clear hb3 hgx hw3 HB HB2 HAT
 have HJ := zh (show MkJ f c ⟨(pb : Int), ya⟩ bl B gs vc vr vi iss w0 w3 0 w3 from ⟨by rw [clJ_zero]; exact HR.out.below HW3.out, zg.refl _ _⟩)
 have HC3 := zh (za HW3.out HCV.out)
 have HNX := zh ((HR.out.below HW3.out).ne HI3.out (by decide) (by decide))
 have HNP := zh ((HR.out.below HW3.out).ne HX.out.b1 (by decide) (by decide))
 have HNC := zh ((HR.out.below HW3.out).ne HC3.out (by decide) (by decide))
 have hcp := fun q => cell_of_row w3 (w.heap.size + 1) q _ _ _ HX.out.b1
 go_upto_region 4 with fail
 clear hcp
 go_wp2_with fail
 go_loopw [10, 11] (fun s i wr => ∃ k : Nat, k ≤ z ∧ i = .int .i64 k ∧ s = .bool (shK f pb o k) ∧ Hid (MkJ f c ⟨(pb : Int), ya⟩ bl B gs vc vr vi iss w0 w3 k wr)) (fun _ i _ => z - (intOf i).toNat)
 case atStart => exact ⟨0, Nat.zero_le _, rfl, rfl, HJ⟩
 case round =>
  clear HJ
  obtain ⟨k, hk, rfl, rfl, HJ⟩ := hrel
  have HXR := zh (HJ.out.2.heap HI3.out HNX.out)
  have HPR := zh (HJ.out.2.heap HX.out.b1 HNP.out)
  have HCR := zh (HJ.out.2.heap HC3.out HNC.out)
  have hcx := fun q => cell_of_row wr gx q _ _ _ HXR.out
  by_cases hlt : k < z
  ·obtain ⟨ok, hok⟩ : ∃ ok, o + k = ok := ⟨_, rfl⟩
   obtain ⟨bm, ix, hbm, hix, hixn, hcf⟩ := HFF.out ok (by have h1 := HEN.out; omega)
   obtain ⟨bo, hbo⟩ : ∃ bo, bm + o = bo := ⟨_, rfl⟩
   obtain ⟨fv, hfv⟩ : ∃ fv, f pb ok = fv := ⟨_, rfl⟩
   have hN := HN.out
   have hok4 : ok < 4096 := by have h1 := HEN.out; omega
   have HO4 := zh hok4
   have HE4 := zh (show IntKind.i64.wrap ((o : Int) + (k : Int)) = (ok : Int) by rw [IntWalk.i64_in _ (by omega)]; omega)
   have e1 : Value.int .i64 (wrap64 ((pb : Int) * 4096)) = Value.int .i64 (bm : Int) := congrArg (Value.int .i64) (by unfold wrap64; omega)
   have e2 : Value.int .i64 (wrap64 ((bm : Int) + (o : Int))) = Value.int .i64 (bo : Int) := congrArg (Value.int .i64) (by unfold wrap64; omega)
   have e3 : Value.int .i64 (wrap64 ((bo : Int) + (k : Int))) = Value.int .i64 (ix : Int) := congrArg (Value.int .i64) (by unfold wrap64; omega)
   have hcc : wr.cell? ⟨gcv, ix, none⟩ = some (.int .i64 fv) := by rw [cell_of_row _ _ _ _ _ _ HCR.out, xQ _ hixn, hcf, hfv]
   have hcp := fun q => cell_of_row wr (w.heap.size + 1) q _ _ _ HPR.out
   have HFV := zh hfv
   have HOK := zh hok
   have HLT := zh hlt
   have hkz : k < z := hlt
   clear hbm hix hcf hbo hfv hok hok4 hN
   have hcase : (1 < fv ∧ k = 0) ∨ (1 < fv ∧ ¬ k = 0) ∨ (¬ 1 < fv ∧ k = 0) ∨ (¬ 1 < fv ∧ ¬ k = 0) := by omega
   rcases hcase with ⟨h1, h2⟩ | ⟨h1, h2⟩ | ⟨h1, h2⟩ | ⟨h1, h2⟩
   all_goals
    have HK := zh (show clsK (f pb ok) k = (if 1 < fv then 3 else if k = 0 then 1 else 2) by rw [HFV.out]; unfold clsK; simp)
    have HS := zh (show shK f pb o (k + 1) = (shK f pb o k || decide (1 < fv)) by rw [shK_succ, HOK.out, HFV.out])
    rw [show decide (1 < fv) = _ from rfl] at HS
   ·rw [if_pos h1] at HK
    rw [decide_eq_true h1, Bool.or_true] at HS
    have h3 : (1 : Int) < (fv : Int) := by omega
    have h4 : ((k : Int) == 0) = true := by rw [h2]; rfl
    clear h2
    go_upto_region 13 with fail
    clear h1 h3 h4 hcc hcp hcx e1 e2 e3
    obtain ⟨gv, cap, hvc, hle, hcell, -⟩ := HJ.out.1.cl.slice HG.out
    subst hvc
    have hbi : (pb : Int) < (gs.length : Int) := by have h5 := (List.getElem?_eq_some_iff.1 HG.out).1; omega
    have hoi : (ok : Int) < 4096 := by have h5 := HO4.out; omega
    have HCE := zh hcell
    have HBD := zh (Below.refl wr.heap.size wr).drew
    clear hcell
    refine zr (S := fun W => (∀ j, W.cell? ⟨bl, j, none⟩ = (#[.slice (some ⟨gv, 0, none⟩) gs.length cap, vr, vi] : Array Value)[j]?) ∧ (∀ j, W.cell? ⟨w.heap.size + 1, j, none⟩ = (#[.int .i64 pb, .int .u16 ya] : Array Value)[j]?) ∧ W.cell? ⟨gv, pb, none⟩ = some (.slice (some ⟨g, 0, none⟩) 4096 4096)) [13] (by kernel_rfl) ⟨fun j => cell_of_row _ _ _ _ _ _ (za HBD.out HJ.out.1.hl), fun j => cell_of_row _ _ _ _ _ _ (za HBD.out HPR.out), HCE.out⟩ (fun hHeld => ?_)
    (refine tz 0 ?_)
    (refine tz 1 ?_)
    (refine tz 2 ?_)
    (refine tz 3 ?_)
    (refine tz 4 ?_)
    (refine tz 5 ?_)
    (refine tz 6 ?_)
    (refine tz 7 ?_)
    (refine tz 8 ?_)
    (refine tz 9 ?_)
    (refine tkZ 10 (v := .int .i64 ok) rfl (by assumption) (fun W hS => by clear hS; go_simp; first | done | (rw [HE4.out]; done) | exact HE4.out | rfl) ?_; (refine pts ?_))
    (refine tz 11 ?_)
    (refine tz 12 ?_)
    refine z8 13 ?_
    simp only [List.drop_succ_cons, List.drop_zero]
    have hrw := za HBD.out (HJ.out.1.cl.row pb g HG.out)
    obtain ⟨wd, hwd⟩ : ∃ wd, wr.drew = wd := ⟨_, rfl⟩
    have HJD := zh (show MkJ f c ⟨(pb : Int), ya⟩ bl B gs (.slice (some ⟨gv, 0, none⟩) gs.length cap) vr vi iss w0 w3 k wd from hwd ▸ ⟨HJ.out.1.below HBD.out, HJ.out.2.drew⟩)
    rw [hwd] at hrw ⊢
    clear hHeld hwd
    have hct : wd.cell? ⟨g, ok, none⟩ = some (.int .u8 (clJ f c ⟨(pb : Int), ya⟩ k pb ok)) := by rw [cell_of_row _ _ _ _ _ _ hrw, yM _ HO4.out]
    have hft : wd.frozen? ⟨g, ok, none⟩ = false := frozen_of_row _ _ _ _ _ hrw
    clear hrw
    have hzb : z ≤ 4096 := by have h1 := HEN.out; omega
    go_wp2_with fail
    go_roundw
    case rel =>
     refine ⟨_ + 1, HLT.out, by go_num, congrArg Value.bool HS.out.symm, zh ⟨?_, HJD.out.2.setCell _ (fun _ => .inr (List.mem_of_getElem? HG.out))⟩⟩
     rw [← clJ_put f c ⟨(pb : Int), ya⟩ _ pb ok _ rfl (by rw [HOO.out]; exact HOK.out) HK.out]
     exact HJD.out.1.put HG.out _
    case measure => have h1 := HLT.out; simp [intOf]; omega
   ·rw [if_pos h1] at HK
    rw [decide_eq_true h1, Bool.or_true] at HS
    have h3 : (1 : Int) < (fv : Int) := by omega
    have h4 : ((k : Int) == 0) = false := by simp; omega
    clear h2
    go_upto_region 13 with fail
    clear h1 h3 h4 hcc hcp hcx e1 e2 e3
    obtain ⟨gv, cap, hvc, hle, hcell, -⟩ := HJ.out.1.cl.slice HG.out
    subst hvc
    have hbi : (pb : Int) < (gs.length : Int) := by have h5 := (List.getElem?_eq_some_iff.1 HG.out).1; omega
    have hoi : (ok : Int) < 4096 := by have h5 := HO4.out; omega
    have HCE := zh hcell
    have HBD := zh (Below.refl wr.heap.size wr).drew
    clear hcell
    refine zr (S := fun W => (∀ j, W.cell? ⟨bl, j, none⟩ = (#[.slice (some ⟨gv, 0, none⟩) gs.length cap, vr, vi] : Array Value)[j]?) ∧ (∀ j, W.cell? ⟨w.heap.size + 1, j, none⟩ = (#[.int .i64 pb, .int .u16 ya] : Array Value)[j]?) ∧ W.cell? ⟨gv, pb, none⟩ = some (.slice (some ⟨g, 0, none⟩) 4096 4096)) [13] (by kernel_rfl) ⟨fun j => cell_of_row _ _ _ _ _ _ (za HBD.out HJ.out.1.hl), fun j => cell_of_row _ _ _ _ _ _ (za HBD.out HPR.out), HCE.out⟩ (fun hHeld => ?_)
    (refine tz 0 ?_)
    (refine tz 1 ?_)
    (refine tz 2 ?_)
    (refine tz 3 ?_)
    (refine tz 4 ?_)
    (refine tz 5 ?_)
    (refine tz 6 ?_)
    (refine tz 7 ?_)
    (refine tz 8 ?_)
    (refine tz 9 ?_)
    (refine tkZ 10 (v := .int .i64 ok) rfl (by assumption) (fun W hS => by clear hS; go_simp; first | done | (rw [HE4.out]; done) | exact HE4.out | rfl) ?_; (refine pts ?_))
    (refine tz 11 ?_)
    (refine tz 12 ?_)
    refine z8 13 ?_
    simp only [List.drop_succ_cons, List.drop_zero]
    have hrw := za HBD.out (HJ.out.1.cl.row pb g HG.out)
    obtain ⟨wd, hwd⟩ : ∃ wd, wr.drew = wd := ⟨_, rfl⟩
    have HJD := zh (show MkJ f c ⟨(pb : Int), ya⟩ bl B gs (.slice (some ⟨gv, 0, none⟩) gs.length cap) vr vi iss w0 w3 k wd from hwd ▸ ⟨HJ.out.1.below HBD.out, HJ.out.2.drew⟩)
    rw [hwd] at hrw ⊢
    clear hHeld hwd
    have hct : wd.cell? ⟨g, ok, none⟩ = some (.int .u8 (clJ f c ⟨(pb : Int), ya⟩ k pb ok)) := by rw [cell_of_row _ _ _ _ _ _ hrw, yM _ HO4.out]
    have hft : wd.frozen? ⟨g, ok, none⟩ = false := frozen_of_row _ _ _ _ _ hrw
    clear hrw
    have hzb : z ≤ 4096 := by have h1 := HEN.out; omega
    go_wp2_with fail
    go_roundw
    case rel =>
     refine ⟨_ + 1, HLT.out, by go_num, congrArg Value.bool HS.out.symm, zh ⟨?_, HJD.out.2.setCell _ (fun _ => .inr (List.mem_of_getElem? HG.out))⟩⟩
     rw [← clJ_put f c ⟨(pb : Int), ya⟩ _ pb ok _ rfl (by rw [HOO.out]; exact HOK.out) HK.out]
     exact HJD.out.1.put HG.out _
    case measure => have h1 := HLT.out; simp [intOf]; omega
   ·rw [if_neg h1, if_pos h2] at HK
    rw [decide_eq_false h1, Bool.or_false] at HS
    have h3 : ¬ (1 : Int) < (fv : Int) := by omega
    have h4 : ((k : Int) == 0) = true := by rw [h2]; rfl
    clear h2
    go_upto_region 13 with fail
    clear h1 h3 h4 hcc hcp hcx e1 e2 e3
    obtain ⟨gv, cap, hvc, hle, hcell, -⟩ := HJ.out.1.cl.slice HG.out
    subst hvc
    have hbi : (pb : Int) < (gs.length : Int) := by have h5 := (List.getElem?_eq_some_iff.1 HG.out).1; omega
    have hoi : (ok : Int) < 4096 := by have h5 := HO4.out; omega
    have HCE := zh hcell
    have HBD := zh (Below.refl wr.heap.size wr).drew
    clear hcell
    refine zr (S := fun W => (∀ j, W.cell? ⟨bl, j, none⟩ = (#[.slice (some ⟨gv, 0, none⟩) gs.length cap, vr, vi] : Array Value)[j]?) ∧ (∀ j, W.cell? ⟨w.heap.size + 1, j, none⟩ = (#[.int .i64 pb, .int .u16 ya] : Array Value)[j]?) ∧ W.cell? ⟨gv, pb, none⟩ = some (.slice (some ⟨g, 0, none⟩) 4096 4096)) [13] (by kernel_rfl) ⟨fun j => cell_of_row _ _ _ _ _ _ (za HBD.out HJ.out.1.hl), fun j => cell_of_row _ _ _ _ _ _ (za HBD.out HPR.out), HCE.out⟩ (fun hHeld => ?_)
    (refine tz 0 ?_)
    (refine tz 1 ?_)
    (refine tz 2 ?_)
    (refine tz 3 ?_)
    (refine tz 4 ?_)
    (refine tz 5 ?_)
    (refine tz 6 ?_)
    (refine tz 7 ?_)
    (refine tz 8 ?_)
    (refine tz 9 ?_)
    (refine tkZ 10 (v := .int .i64 ok) rfl (by assumption) (fun W hS => by clear hS; go_simp; first | done | (rw [HE4.out]; done) | exact HE4.out | rfl) ?_; (refine pts ?_))
    (refine tz 11 ?_)
    (refine tz 12 ?_)
    refine z8 13 ?_
    simp only [List.drop_succ_cons, List.drop_zero]
    have hrw := za HBD.out (HJ.out.1.cl.row pb g HG.out)
    obtain ⟨wd, hwd⟩ : ∃ wd, wr.drew = wd := ⟨_, rfl⟩
    have HJD := zh (show MkJ f c ⟨(pb : Int), ya⟩ bl B gs (.slice (some ⟨gv, 0, none⟩) gs.length cap) vr vi iss w0 w3 k wd from hwd ▸ ⟨HJ.out.1.below HBD.out, HJ.out.2.drew⟩)
    rw [hwd] at hrw ⊢
    clear hHeld hwd
    have hct : wd.cell? ⟨g, ok, none⟩ = some (.int .u8 (clJ f c ⟨(pb : Int), ya⟩ k pb ok)) := by rw [cell_of_row _ _ _ _ _ _ hrw, yM _ HO4.out]
    have hft : wd.frozen? ⟨g, ok, none⟩ = false := frozen_of_row _ _ _ _ _ hrw
    clear hrw
    have hzb : z ≤ 4096 := by have h1 := HEN.out; omega
    go_wp2_with fail
    go_roundw
    case rel =>
     refine ⟨_ + 1, HLT.out, by go_num, congrArg Value.bool HS.out.symm, zh ⟨?_, HJD.out.2.setCell _ (fun _ => .inr (List.mem_of_getElem? HG.out))⟩⟩
     rw [← clJ_put f c ⟨(pb : Int), ya⟩ _ pb ok _ rfl (by rw [HOO.out]; exact HOK.out) HK.out]
     exact HJD.out.1.put HG.out _
    case measure => have h1 := HLT.out; simp [intOf]; omega
   ·rw [if_neg h1, if_neg h2] at HK
    rw [decide_eq_false h1, Bool.or_false] at HS
    have h3 : ¬ (1 : Int) < (fv : Int) := by omega
    have h4 : ((k : Int) == 0) = false := by simp; omega
    clear h2
    go_upto_region 13 with fail
    clear h1 h3 h4 hcc hcp hcx e1 e2 e3
    obtain ⟨gv, cap, hvc, hle, hcell, -⟩ := HJ.out.1.cl.slice HG.out
    subst hvc
    have hbi : (pb : Int) < (gs.length : Int) := by have h5 := (List.getElem?_eq_some_iff.1 HG.out).1; omega
    have hoi : (ok : Int) < 4096 := by have h5 := HO4.out; omega
    have HCE := zh hcell
    have HBD := zh (Below.refl wr.heap.size wr).drew
    clear hcell
    refine zr (S := fun W => (∀ j, W.cell? ⟨bl, j, none⟩ = (#[.slice (some ⟨gv, 0, none⟩) gs.length cap, vr, vi] : Array Value)[j]?) ∧ (∀ j, W.cell? ⟨w.heap.size + 1, j, none⟩ = (#[.int .i64 pb, .int .u16 ya] : Array Value)[j]?) ∧ W.cell? ⟨gv, pb, none⟩ = some (.slice (some ⟨g, 0, none⟩) 4096 4096)) [13] (by kernel_rfl) ⟨fun j => cell_of_row _ _ _ _ _ _ (za HBD.out HJ.out.1.hl), fun j => cell_of_row _ _ _ _ _ _ (za HBD.out HPR.out), HCE.out⟩ (fun hHeld => ?_)
    (refine tz 0 ?_)
    (refine tz 1 ?_)
    (refine tz 2 ?_)
    (refine tz 3 ?_)
    (refine tz 4 ?_)
    (refine tz 5 ?_)
    (refine tz 6 ?_)
    (refine tz 7 ?_)
    (refine tz 8 ?_)
    (refine tz 9 ?_)
    (refine tkZ 10 (v := .int .i64 ok) rfl (by assumption) (fun W hS => by clear hS; go_simp; first | done | (rw [HE4.out]; done) | exact HE4.out | rfl) ?_; (refine pts ?_))
    (refine tz 11 ?_)
    (refine tz 12 ?_)
    refine z8 13 ?_
    simp only [List.drop_succ_cons, List.drop_zero]
    have hrw := za HBD.out (HJ.out.1.cl.row pb g HG.out)
    obtain ⟨wd, hwd⟩ : ∃ wd, wr.drew = wd := ⟨_, rfl⟩
    have HJD := zh (show MkJ f c ⟨(pb : Int), ya⟩ bl B gs (.slice (some ⟨gv, 0, none⟩) gs.length cap) vr vi iss w0 w3 k wd from hwd ▸ ⟨HJ.out.1.below HBD.out, HJ.out.2.drew⟩)
    rw [hwd] at hrw ⊢
    clear hHeld hwd
    have hct : wd.cell? ⟨g, ok, none⟩ = some (.int .u8 (clJ f c ⟨(pb : Int), ya⟩ k pb ok)) := by rw [cell_of_row _ _ _ _ _ _ hrw, yM _ HO4.out]
    have hft : wd.frozen? ⟨g, ok, none⟩ = false := frozen_of_row _ _ _ _ _ hrw
    clear hrw
    have hzb : z ≤ 4096 := by have h1 := HEN.out; omega
    go_wp2_with fail
    go_roundw
    case rel =>
     refine ⟨_ + 1, HLT.out, by go_num, congrArg Value.bool HS.out.symm, zh ⟨?_, HJD.out.2.setCell _ (fun _ => .inr (List.mem_of_getElem? HG.out))⟩⟩
     rw [← clJ_put f c ⟨(pb : Int), ya⟩ _ pb ok _ rfl (by rw [HOO.out]; exact HOK.out) HK.out]
     exact HJD.out.1.put HG.out _
    case measure => have h1 := HLT.out; simp [intOf]; omega
  ·obtain rfl : k = z := by omega
   cases hsh : shK f pb o k with
   | false =>
    have HSH := zh (show iss ++ il = iss by rw [← HILS.out, hsh]; simp)
    clear hsh
    go_wp2_with fail
    go_end0
    exact ⟨rfl, vi, by rw [HSH.out]; exact HJ.out.1⟩
   | true =>
    have HSH := zh (show iss ++ il = iss ++ [⟨40, ⟨(pb : Int), ya⟩⟩] by rw [← HILS.out, hsh]; rfl)
    clear hsh
    go_upto_region 15 with fail
    clear hcx
    obtain ⟨Ai, ci, hvi, -⟩ := zt HJ.out.1.is_
    subst hvi
    have HBD := zh (Below.refl wr.heap.size wr).drew
    refine zr (S := fun W => (∀ j, W.cell? ⟨bl, j, none⟩ = (#[vc, vr, .slice Ai iss.length ci] : Array Value)[j]?) ∧ (∀ j, W.cell? ⟨w.heap.size + 1, j, none⟩ = (#[.int .i64 pb, .int .u16 ya] : Array Value)[j]?)) [9, 10, 11] (by kernel_rfl) ⟨fun j => cell_of_row _ _ _ _ _ _ (za HBD.out HJ.out.1.hl), fun j => cell_of_row _ _ _ _ _ _ (za HBD.out HPR.out)⟩ (fun hHeld => ?_)
    (refine tz 0 ?_)
    (refine tz 1 ?_)
    (refine tz 2 ?_)
    (refine tz 3 ?_)
    (refine tz 4 ?_)
    (refine tz 5 ?_)
    (refine tz 6 ?_)
    refine yx 7 rfl (fun K hK => ?_)
    go_simp
    have hb10 : Below wr.heap.size wr (wr.alloc (y8 ⟨40, ⟨(pb : Int), ya⟩⟩)).drew := ((Below.refl _ _).alloc (zn _) _).drew
    have hi10 : (wr.alloc (y8 ⟨40, ⟨(pb : Int), ya⟩⟩)).drew.heap[wr.heap.size]? = some (y8 ⟨40, ⟨(pb : Int), ya⟩⟩) := heap_alloc_new wr (y8 ⟨40, ⟨(pb : Int), ya⟩⟩)
    have HM10 := zh (HJ.out.1.below hb10)
    have HI10 := zh hi10
    have HP10 := zh (za hb10 HPR.out)
    have hHeld2 : (∀ j, (wr.alloc (y8 ⟨40, ⟨(pb : Int), ya⟩⟩)).drew.cell? ⟨bl, j, none⟩ = (#[vc, vr, .slice Ai iss.length ci] : Array Value)[j]?) ∧ (∀ j, (wr.alloc (y8 ⟨40, ⟨(pb : Int), ya⟩⟩)).drew.cell? ⟨w.heap.size + 1, j, none⟩ = (#[.int .i64 pb, .int .u16 ya] : Array Value)[j]?) := ⟨fun j => cell_of_row _ _ _ _ _ _ HM10.out.hl, fun j => cell_of_row _ _ _ _ _ _ HP10.out⟩
    refine hK.out _ _ (.inr hHeld2) ?_
    (refine pts ?_)
    clear hK K hHeld hb10 hi10
    have HBS := zh HM10.out.tr.size
    have HNC := zh (show iss.length ≤ 100000000000 by have := HIL.out; omega)
    refine yx 8 rfl (fun K hK => ?_)
    refine xq (.tmp 58) (.tmp 61) 36 58 rfl 3 24 _ infoIss Tryz.underlying36 rfl (by decide) (by decide) w0.heap.size HBS.out (.slice Ai iss.length ci) iss.length (yf iss) rfl HM10.out.is_ HNC.out wr.heap.size 1 _ _ _ rfl HI10.out rfl rfl (by decide) (by decide) ?_
    intro ga cp w11 ho11 hg11 hv11
    have hm11 := HM10.out.issue (x := ⟨40, ⟨(pb : Int), ya⟩⟩) (vi' := .slice (some ⟨ga, 0, none⟩) (iss.length + 1) cp) ho11 hg11
    have hx11 : ∀ {b : Nat} {o : Obj}, (wr.alloc (y8 ⟨40, ⟨(pb : Int), ya⟩⟩)).drew.heap[b]? = some o → (∀ cs fr, o ≠ .cells cs 58 fr) → w11.heap[b]? = some o := fun hb hn => ((zg.refl (fun k => (Value.slice Ai iss.length ci).ownBlock = some k) _).grown hg11 (fun k e _ => e)).heap hb (xY HM10.out.is_ hb hn)
    have HM11 := zh hm11.1
    have HL11 := zh hm11.2
    refine hK.out _ _ (.inr ⟨fun j => cell_of_row _ _ _ _ _ _ HL11.out, fun j => cell_of_row _ _ _ _ _ _ (hx11 HP10.out (fun _ _ => zm (by decide)))⟩) ?_
    (refine pts ?_)
    clear hK K hHeld2 ho11 hg11 hv11 hm11 hx11
    refine z8 9 ?_
    simp only [List.drop_succ_cons, List.drop_zero]
    have hcl := fun j => cell_of_row w11 bl j _ _ _ HL11.out
    have hfl := fun j => frozen_of_row w11 bl j _ _ HL11.out
    go_wp2_with fail
    go_end0
    exact ⟨rfl, _, by rw [HSH.out]; exact HM11.out⟩
end Go.Proofs.YteofmaiojepdkaaGreat
