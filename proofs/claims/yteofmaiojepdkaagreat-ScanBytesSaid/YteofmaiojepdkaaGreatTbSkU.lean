/- Chapter 05 in plain Lean: the classes, instruction by instruction. No condition beyond what each states. -/
import Derived.Test.YteofmaiojepdkaaGreatTbSkR
set_option linter.all false
namespace Go.Proofs.YteofmaiojepdkaaGreat
open Go Go.RowKit Go.Maps Go.Sort
abbrev celB (b o : Nat) : Obj := .cells #[.int .i64 b, .int .i64 o] 153
theorem zero_int (w : World) : (zeroValue 3).run Tryz.prog w = .ok (.int .i64 0) w := by kernel_rfl
structure CovM (L : List ((Nat × Nat) × Value)) (f : Nat → Nat → Nat) : Prop where
 nd : (L.map (·.1)).Nodup
 val : ∀ b o, (yT (b, o) L).getD (.int .i64 0) = .int .i64 (f b o)
def CovW (bc gc : Nat) (f : Nat → Nat → Nat) (W : World) : Prop := W.heap[bc]? = some (.cells #[.map (some gc)] 150 (0, 0)) ∧ ∃ L, W.heap[gc]? = some (yc celV L) ∧ CovM L f
theorem CovM.put {L : List ((Nat × Nat) × Value)} {f : Nat → Nat → Nat} (h : CovM L f) (b o : Nat) : CovM (xG (b, o) (.int .i64 (f b o + 1 : Nat)) L) (fun b' o' => if b' = b ∧ o' = o then f b o + 1 else f b' o') := by
 refine ⟨nodup_put h.nd, fun b' o' => ?_⟩
 by_cases hk : b' = b ∧ o' = o
 ·obtain ⟨rfl, rfl⟩ := hk
  rw [getL_put_same, if_pos ⟨rfl, rfl⟩]
  rfl
 ·rw [getL_put_ne (fun e => hk (by injection e with e1 e2; exact ⟨e1, e2⟩)), if_neg hk]
  exact h.val b' o'
theorem CovW.turn {bc gc : Nat} {f : Nat → Nat → Nat} {W W' : World} {bs : Nat → Prop} (h : CovW bc gc f W) (t : zg bs W W') (h1 : ¬ bs bc) (h2 : ¬ bs gc) : CovW bc gc f W' := by
 obtain ⟨hb, L, hL, hM⟩ := h
 exact ⟨t.heap hb h1, L, t.heap hL h2, hM⟩
theorem CovW.below {bc gc : Nat} {f : Nat → Nat → Nat} {W W' : World} (h : CovW bc gc f W) (hb : Below W.heap.size W W') : CovW bc gc f W' := h.turn (zg.ofBelow (bs := fun _ => False) hb) (fun e => e) (fun e => e)
set_option maxRecDepth 100000 in
set_option maxHeartbeats 4000000 in
theorem cov_any (bc gc : Nat) (f : Nat → Nat → Nat) (b o : Nat) (k : Int) (w : World) (h : CovW bc gc f w) (hf : f b o ≤ 1000000000) :
  Calls Tryz.prog 77 #[.agg #[.int .i64 b, .int .i64 o], .int .i64 k, .pointer (some ⟨bc, 0, none⟩)] w fun e w' => e = .returned (.tuple #[]) ∧ CovW bc gc (fun b' o' => if b' = b ∧ o' = o then f b o + 1 else f b' o') w' ∧ zg (fun k => k = gc) w w' := by
 obtain ⟨hb, L, hL, hM⟩ := h
 have HM := zh hM
 have HA := Bx.one w (celB b o)
 have hd := (Below.refl (w.alloc (celB b o)).heap.size (w.alloc (celB b o))).drew
 have H0 := zh (za (HA.bb.drew) hb)
 have H1 := zh (za hd HA.b0)
 have H2 := zh (za (HA.bb.drew) hL)
 have HF := zh hf
 have hv := hM.val b o
 have HV := zh hv
 clear hb hL hM HA hd hf hv
 go_enter Tryz.func77, Tryz.ntmps77
 go_wp2_with fail
 refine zr (S := fun W => (∀ j, W.cell? ⟨bc, j, none⟩ = (#[.map (some gc)] : Array Value)[j]?) ∧ (∀ j, W.cell? ⟨w.heap.size, j, none⟩ = (#[.int .i64 b, .int .i64 o] : Array Value)[j]?) ∧ ∃ L', W.heap[gc]? = some (yc celV L') ∧ (yT (b, o) L').getD (.int .i64 0) = .int .i64 (f b o)) [6] (by kernel_rfl) ⟨fun j => cell_of_row _ _ _ _ _ _ H0.out, fun j => cell_of_row _ _ _ _ _ _ H1.out, L, H2.out, HV.out⟩ (fun hHeld => ?_)
 (refine tz 0 ?_)
 (refine tz 1 ?_)
 (refine tkZ 2 rfl (by assumption) (v := .int .i64 (f b o)) (fun W hS => by
  obtain ⟨L', hL', hv'⟩ := hS.2.2
  rw [exec_lookupL cellKey Tryz.underlying150 hL' _ _ false rfl rfl (b, o) rfl (zero_int W)]
  rw [if_neg (by decide), hv']) ?_; (refine pts ?_))
 (refine tz 3 ?_)
 refine yx 4 rfl (fun K hK => ?_)
 refine wp_mapEntryL cellKey Tryz.underlying150 H2.out _ _ rfl rfl (b, o) rfl (zero_int _) ?_
 intro j l1 w1 h1 hg1 hz1 h4 h5 h6
 have ht1 : zg (fun k => k = gc) (w.alloc (celB b o)).drew w1 := (zg.refl _ _).grown hg1 (fun k e _ => by injection e with e; exact e.symm)
 have H01 := zh (ht1.heap H0.out (fun e => by have h := H0.out; rw [e, H2.out] at h; cases h))
 have H11 := zh (ht1.heap H1.out (fun e => by have h := H1.out; rw [e, H2.out] at h; cases h))
 have H21 := zh h1
 have HT1 := zh ht1
 have HJ := zh h4
 have HP := zh h5
 refine hK.out _ _ (.inr ⟨fun j => cell_of_row _ _ _ _ _ _ H01.out, fun j => cell_of_row _ _ _ _ _ _ H11.out, l1, H21.out, h6.trans HV.out⟩) ?_
 (refine pts ?_)
 clear hK K hHeld
 have hHeld : (∀ j, w1.cell? ⟨bc, j, none⟩ = (#[.map (some gc)] : Array Value)[j]?) ∧ (∀ j, w1.cell? ⟨w.heap.size, j, none⟩ = (#[.int .i64 b, .int .i64 o] : Array Value)[j]?) ∧ ∃ L', w1.heap[gc]? = some (yc celV L') ∧ (yT (b, o) L').getD (.int .i64 0) = .int .i64 (f b o) := ⟨fun j => cell_of_row _ _ _ _ _ _ H01.out, fun j => cell_of_row _ _ _ _ _ _ H11.out, l1, H21.out, h6.trans HV.out⟩
 clear h1 hg1 hz1 h4 h5 h6 ht1
 (refine tz 5 ?_)
 refine z8 6 ?_
 simp only [List.drop_succ_cons, List.drop_zero]
 obtain ⟨u, hu⟩ := HJ.out
 refine wpList_plain rfl fun K hK => ?_
 refine wp_entryStoreL H21.out hu _ _ _ rfl rfl rfl (.int .i64 (f b o + 1 : Nat)) ?_ ?_
 ·show Value.int .i64 (IntKind.i64.wrap ((f b o : Nat) + 1)) = _
  rw [IntWalk.i64_in _ (by have := HF.out; omega)]
  rfl
 intro w2 h2 hg2 hz2
 refine hK _ _ ?_
 rw [HP.out] at h2
 have ht2 : zg (fun k => k = gc) w1 w2 := (zg.refl _ _).grown hg2 (fun k e _ => by injection e with e; exact e.symm)
 have HX := zh (show CovW bc gc (fun b' o' => if b' = b ∧ o' = o then f b o + 1 else f b' o') w2 from ⟨ht2.heap H01.out (fun e => by have h := H01.out; rw [e, H21.out] at h; cases h), _, h2, HM.out.put b o⟩)
 have HT2 := zh (((zg.ofBelow ((Below.refl _ w).alloc (zn _) (celB b o)).drew).trans HT1.out (fun _ _ h => h)).trans ht2 (fun _ _ h => h))
 clear h2 hg2 hz2 hu ht2
 go_wp2_with fail
 go_end0
 exact ⟨rfl, HX.out, HT2.out⟩
def clsK (n : Nat) (k : Int) : Int := if 1 < n then 3 else if k = 0 then 1 else 2
theorem xM.slice {B : Nat} {gs : List Nat} {c : Nat → Nat → Int} {v : Value} {W : World} (h : xM B gs c v W) {b g : Nat} (hg : gs[b]? = some g) : ∃ gv cap, v = .slice (some ⟨gv, 0, none⟩) gs.length cap ∧ gs.length ≤ cap ∧ W.cell? ⟨gv, b, none⟩ = some (clV g) ∧ W.heap[gv]? ≠ none := by
 have hb := (List.getElem?_eq_some_iff.1 hg).1
 rcases h.own.2 with ⟨-, h0⟩ | ⟨gv, cap, cur, rfl, -, hv, hn, -, hz, ht⟩
 ·omega
 ·refine ⟨gv, cap, rfl, hn, ?_, by rw [hv]; exact fun e => by cases e⟩
  rw [cell_of_row _ _ _ _ _ _ hv]
  have h1 : (cur.toList.take (gs.length * 1))[b]? = (gs.map clV)[b]? := by rw [ht]
  rw [List.getElem?_take_of_lt (by omega), Array.getElem?_toList, List.getElem?_map, hg] at h1
  exact h1
theorem xM.put {B : Nat} {gs : List Nat} {c : Nat → Nat → Int} {v : Value} {W : World} (h : xM B gs c v W) {b g o : Nat} (x : Int) (hg : gs[b]? = some g) : xM B gs (fun b' o' => if b' = b ∧ o' = o then x else c b' o') v (W.setCell ⟨g, o, none⟩ (.int .u8 x)) := by
 refine ⟨zi h.own ((zg.refl (fun j => j = g) W).setCell _ (fun _ => rfl)) (ye h.own (h.row b g hg) (fun _ _ => zm (by decide))), h.nd, h.lb, fun b' g' hg' => ?_⟩
 by_cases hb : b' = b
 ·subst hb
  rw [hg] at hg'
  injection hg' with hg'
  subst hg'
  have e := heap_setCell_same (h.row b' g hg) (i := o) (.int .u8 x)
  rw [rowC_set] at e
  have hr : rowC (fun o' => if o' = o then x else c b' o') = rowC (fun o' => if b' = b' ∧ o' = o then x else c b' o') := rowC_congr fun o' _ => by simp only [true_and]
  exact e.trans (congrArg (fun r => some (Obj.cells r 5 (0, 0))) hr)
 ·have hgg : g' ≠ g := fun e => hb (by
   subst e
   exact (List.getElem?_inj (List.getElem?_eq_some_iff.1 hg').1 h.nd).1 (hg'.trans hg.symm))
  have hr : rowC (c b') = rowC (fun o' => if b' = b ∧ o' = o then x else c b' o') := rowC_congr fun o' _ => by rw [if_neg (fun e => hb e.1)]
  rw [heap_setCell_other hgg]
  exact (h.row b' g' hg').trans (congrArg (fun r => some (Obj.cells r 5 (0, 0))) hr)
set_option maxRecDepth 100000 in
set_option maxHeartbeats 4000000 in
theorem cls_any (B bc gc bs bp bl : Nat) (f : Nat → Nat → Nat) (sh : Bool) (gs : List Nat) (c : Nat → Nat → Int) (vc vr vi : Value) (b o g : Nat) (k : Nat) (w : World) (h : CovW bc gc f w) (hs : w.heap[bs]? = some (.cells #[.bool sh] 4 (0, 0))) (hp : w.heap[bp]? = some (.cells #[.pointer (some ⟨bl, 0, none⟩)] 102 (0, 0))) (hl : w.heap[bl]? = some (.cells #[vc, vr, vi] 38 (0, 0))) (hc : xM B gs c vc w) (hg : gs[b]? = some g) (ho : o < 4096) (hf : f b o ≤ 1000000000) (hgl : gs.length ≤ 64) :
  Calls Tryz.prog 78 #[.agg #[.int .i64 b, .int .i64 o], .int .i64 k, .pointer (some ⟨bc, 0, none⟩), .pointer (some ⟨bs, 0, none⟩), .pointer (some ⟨bp, 0, none⟩)] w fun e w' => e = .returned (.tuple #[]) ∧ xM B gs (fun b' o' => if b' = b ∧ o' = o then clsK (f b o) k else c b' o') vc w' ∧ w'.heap[bs]? = some (.cells #[.bool (sh || decide (1 < f b o))] 4 (0, 0)) ∧ zg (fun j => j = bs ∨ j = g) w w' := by
 obtain ⟨hb, L, hL, hM⟩ := h
 have HA := Bx.one w (celB b o)
 have H0 := zh (za HA.bb hb)
 have H1 := zh HA.b0
 have H2 := zh (za HA.bb hL)
 have HS := zh (za HA.bb hs)
 have HP := zh (za HA.bb hp)
 have HL := zh (za HA.bb hl)
 have HC := zh (hc.below HA.bb)
 have HT := zh (show zg (fun j => j = bs) w (w.alloc (celB b o)) from zg.ofBelow HA.bb)
 have hv := hM.val b o
 have hsl := (Array.getElem?_eq_some_iff.1 hs).1
 have HV := zh hv
 have HG := zh hg
 have HGL := zh hgl
 have HO := zh ho
 have hc0 := fun j => cell_of_row _ bc j _ _ _ H0.out
 have hc1 := fun j => cell_of_row _ w.heap.size j _ _ _ H1.out
 have HSL := zh hsl
 clear hb hL hM HA hs hp hl hc hv hg hgl ho
 go_enter Tryz.func78, Tryz.ntmps78
 go_upto_block 0 with fail
 clear hc0 hc1
 obtain ⟨w1, hw1⟩ : ∃ w1, w.alloc (celB b o) = w1 := ⟨_, rfl⟩
 rw [hw1] at H0 H1 H2 HS HP HL HC HT ⊢
 clear hw1
 go_cut [7] (fun s wx => s = .int .u8 (clsK (f b o) k) ∧ Hid (wx.heap[bs]? = some (.cells #[.bool (sh || decide (1 < f b o))] 4 (0, 0))) ∧ Hid (wx.heap[bp]? = some (.cells #[.pointer (some ⟨bl, 0, none⟩)] 102 (0, 0))) ∧ Hid (wx.heap[bl]? = some (.cells #[vc, vr, vi] 38 (0, 0))) ∧ Hid (xM B gs c vc wx) ∧ Hid (wx.heap[w.heap.size]? = some (celB b o)) ∧ Hid (zg (fun j => j = bs) w wx))
 case first =>
  have hc0 := fun j => cell_of_row _ bc j _ _ _ H0.out
  have hf0 := fun j => frozen_of_row _ bs j _ _ HS.out
  have hcs := fun j => cell_of_row _ bs j _ _ _ HS.out
  by_cases h1 : 1 < f b o
  ·have hi1 : (1 : Int) < (f b o : Int) := by omega
   have HH := zh h1
   clear h1
   go_wp2_with (first
    | (refine ldT 153 (H1.out) ?_)
    | (refine yq cellKey Tryz.underlying150 H2.out rfl _ _ rfl rfl (b, o) rfl (zero_int _) ?_; rw [HV.out]))
   go_meet
   have hne : ∀ {x : Nat} {ob : Obj}, w1.heap[x]? = some ob → (∀ cs fr, ob ≠ .cells cs 4 fr) → (w1.setCell ⟨bs, 0, none⟩ (.bool true)).heap[x]? = some ob := fun hx hno => by
    rw [heap_setCell_other (fun e => by
     rw [e, HS.out] at hx
     injection hx with hx
     exact hno _ _ hx.symm)]
    exact hx
   have ht : zg (fun j => j = bs) w1 (w1.setCell ⟨bs, 0, none⟩ (.bool true)) := (zg.refl _ w1).setCell _ (fun _ => rfl)
   have hd : decide (1 < f b o) = true := decide_eq_true HH.out
   exact ⟨by unfold clsK; rw [if_pos HH.out], zh (by rw [hd, Bool.or_true]; exact heap_setCell_same HS.out (i := 0) _), zh (hne HP.out (fun _ _ => zm (by decide))), zh (hne HL.out (fun _ _ => zm (by decide))), zh (HC.out.turn ht (fun k cs T fr hk hT e => by rw [e, HS.out] at hk; injection hk with hk; injection hk with _ hk; rcases hT with hT | hT <;> rw [← hk] at hT <;> exact absurd hT (by decide))), zh (hne H1.out (fun _ _ => zm (by decide))), zh (HT.out.trans ht (fun _ _ e => e))⟩
  ·have hi1 : ¬ (1 : Int) < (f b o : Int) := by omega
   have HH := zh h1
   clear h1
   by_cases h2 : k = 0
   ·subst h2
    go_wp2_with (first
     | (refine ldT 153 (H1.out) ?_)
     | (refine yq cellKey Tryz.underlying150 H2.out rfl _ _ rfl rfl (b, o) rfl (zero_int _) ?_; rw [HV.out]))
    go_meet
    have hd : decide (1 < f b o) = false := decide_eq_false HH.out
    exact ⟨by unfold clsK; rw [if_neg HH.out]; rfl, zh (by rw [hd, Bool.or_false]; exact HS.out), HP, HL, HC, H1, HT⟩
   ·have hk0 : ((k : Int) == 0) = false := by simp; omega
    have HK := zh h2
    clear h2
    go_wp2_with (first
     | (refine ldT 153 (H1.out) ?_)
     | (refine yq cellKey Tryz.underlying150 H2.out rfl _ _ rfl rfl (b, o) rfl (zero_int _) ?_; rw [HV.out]))
    go_meet
    have hd : decide (1 < f b o) = false := decide_eq_false HH.out
    exact ⟨by unfold clsK; rw [if_neg HH.out]; rw [if_neg (by have := HK.out; omega)], zh (by rw [hd, Bool.or_false]; exact HS.out), HP, HL, HC, H1, HT⟩
 case rest =>
  obtain ⟨rfl, HS1, HP1, HL1, HC1, HX1, HT1⟩ := hcut
  obtain ⟨gv, cap, hvc, hle, hcell, -⟩ := HC1.out.slice HG.out
  subst hvc
  have hbl := (List.getElem?_eq_some_iff.1 HG.out).1
  have hbi : (b : Int) < (gs.length : Int) := by omega
  have hoi : (o : Int) < 4096 := by have := HO.out; omega
  have hd := (Below.refl wc.heap.size wc).drew
  have HCE := zh hcell
  clear hcell H0 H1 H2 HS HP HL HC HT HV
  go_wp2_with fail
  refine zr (S := fun W => (∀ j, W.cell? ⟨bp, j, none⟩ = (#[.pointer (some ⟨bl, 0, none⟩)] : Array Value)[j]?) ∧ (∀ j, W.cell? ⟨bl, j, none⟩ = (#[.slice (some ⟨gv, 0, none⟩) gs.length cap, vr, vi] : Array Value)[j]?) ∧ (∀ j, W.cell? ⟨w.heap.size, j, none⟩ = (#[.int .i64 b, .int .i64 o] : Array Value)[j]?) ∧ W.cell? ⟨gv, b, none⟩ = some (.slice (some ⟨g, 0, none⟩) 4096 4096)) [12] (by kernel_rfl) ⟨fun j => cell_of_row _ _ _ _ _ _ (za hd HP1.out), fun j => cell_of_row _ _ _ _ _ _ (za hd HL1.out), fun j => cell_of_row _ _ _ _ _ _ (za hd HX1.out), HCE.out⟩ (fun hHeld => ?_)
  (refine tz 0 ?_)
  (refine tz 1 ?_)
  (refine tz 2 ?_)
  (refine tz 3 ?_)
  (refine tz 4 ?_)
  (refine tz 5 ?_)
  (refine tz 6 ?_)
  (refine tz 7 ?_)
  (refine tz 8 ?_)
  (refine tz 9 ?_)
  (refine tz 10 ?_)
  (refine tz 11 ?_)
  refine z8 12 ?_
  simp only [List.drop_succ_cons, List.drop_zero]
  have hrw := HC1.out.row b g HG.out
  have hct : wc.drew.cell? ⟨g, o, none⟩ = some (.int .u8 (c b o)) := by
   rw [cell_of_row _ _ _ _ _ _ (za hd hrw), yM _ HO.out]
  have hft : wc.drew.frozen? ⟨g, o, none⟩ = false := frozen_of_row _ _ _ _ _ (za hd hrw)
  clear hHeld hrw hd
  go_wp2_with fail
  go_end0
  have hbg : bs ≠ g := fun e => by
   have h1 := HC1.out.row b g HG.out
   rw [← e, HS1.out] at h1
   injection h1 with h1
   exact zm (by decide) h1
  refine ⟨rfl, (HC1.out.put (o := o) (clsK (f b o) k) HG.out).below (Below.refl _ _).drew, ?_, ?_⟩
  ·show (wc.setCell ⟨g, o, none⟩ _).heap[bs]? = _
   rw [heap_setCell_other hbg]
   exact HS1.out
  ·exact ((HT1.out.mono (fun _ _ e => .inl e)).setCell _ (fun _ => .inr rfl)).drew
end Go.Proofs.YteofmaiojepdkaaGreat
namespace Go.Proofs.YteofmaiojepdkaaGreat
open Go Go.RowKit Go.Maps Go.Sort
def insV (x : Ins) : Value := .agg #[.int .i64 x.op, .int .i64 x.d, .int .i64 x.s, .int .u16 x.imm, .int .u16 x.aux, .int .i64 x.bank, .int .i64 x.size]
theorem zero_insV (w : World) : (zeroValue 53).run Tryz.prog w = .ok (insV yr) w := by kernel_rfl
@[go_sem] theorem cel_build (b o : Int) (W : World) : (Instr.build 153 #[(0, .int .i64 b), (1, .int .i64 o)]).run Tryz.prog W = .ok (.agg #[.int .i64 b, .int .i64 o]) W := run_build W _ _ _ (by kernel_rfl)
@[go_sem] theorem ins_size (o d s i u b z : Int) (W : World) : (Instr.field 53 (.agg #[.int .i64 o, .int .i64 d, .int .i64 s, .int .u16 i, .int .u16 u, .int .i64 b, .int .i64 z]) 6).run Tryz.prog W = .ok (.int .i64 z) W := by kernel_rfl
theorem offP_lt (p : zb) : zI p < 4096 := by unfold zI; omega
set_option maxRecDepth 100000 in
set_option maxHeartbeats 4000000 in
theorem each_any (I : zk) (hI : I.Ok) (ba : Option Addr) (bc : Nat) (da : Option Addr) (dc : Nat) (ra : Option Addr) (rn rc : Nat) (bi bt gi : Nat) (its : List (zb × Value)) (p : zb) (p0 : 0 ≤ p.addr) (p1 : p.addr < 65536) (hin : inI I p = true) (x : Ins) (n : Nat) (hx : x.size = n) (hn : n ≤ 100) (hget : yT p its = some (insV x))
  (g : Nat) (caps : Array Value) (eg : ∀ args w, (callFunc g args).run Tryz.prog w = .ok (.enter g args) w) (J : Nat → World → Prop) (hbel : ∀ k W W', J k W → Below W.heap.size W W' → J k W')
  (hstep : ∀ k W, k < n → J k W → Calls Tryz.prog g (#[.agg #[.int .i64 p.bank, .int .i64 ((zI p : Int) + (k : Int))], .int .i64 k] ++ caps) W fun e w' => e = .returned (.tuple #[]) ∧ J (k + 1) w')
  (w : World) (hbi : w.heap[bi]? = some (z6 I ba bc da dc ra rn rc)) (hV : yG w I ba bc da dc) (hbt : w.heap[bt]? = some (.cells #[.map (some gi)] 100 (0, 0))) (hgi : w.heap[gi]? = some (yc yL its)) (h0 : J 0 w) :
  Calls Tryz.prog 76 #[.agg #[.int .i64 p.bank, .int .u16 p.addr], .func (.func g) #[] caps, .pointer (some ⟨bi, 0, none⟩), .pointer (some ⟨bt, 0, none⟩)] w fun e w' => e = .returned (.tuple #[]) ∧ J n w' := by
 have HA := Bx.one w (zo p)
 have HBI := zh (za HA.bb hbi)
 have HBT := zh (za HA.bb hbt)
 have HGI := zh (za HA.bb hgi)
 have HP := zh HA.b0
 have HVI := zh (hV.below HA.bb)
 have HJ := zh (hbel 0 _ _ h0 HA.bb)
 have HOF := zh (fun W hv => ioff_in I hI ba bc da dc ra rn rc p p0 p1 W hv hin)
 have HST := zh hstep
 have HBE := zh hbel
 have hgd : (yT p its).getD (insV yr) = .agg #[.int .i64 x.op, .int .i64 x.d, .int .i64 x.s, .int .u16 x.imm, .int .u16 x.aux, .int .i64 x.bank, .int .i64 x.size] := by rw [hget]; rfl
 rw [hx] at hgd
 have HGD := zh hgd
 have hof := offP_lt p
 clear HA hbi hbt hgi hV h0 hI hin hx hget hbel hstep hgd
 go_enter Tryz.func76, Tryz.ntmps76
 go_upto_region 1 with fail
 obtain ⟨w1, hw1⟩ : ∃ w1, w.alloc (zo p) = w1 := ⟨_, rfl⟩
 rw [hw1] at HBI HBT HGI HP HVI HJ ⊢
 clear hw1
 go_upto_region 2 with (first
  | (refine ldT 47 (HP.out) ?_)
  | (refine ldT 31 (HBI.out) ?_)
  | (go_at_call 64; (with_reducible refine (HOF.out _ HVI.out).mono ?_); rintro e2 w2 ⟨rfl, hb2⟩; have HB2 := zh hb2; clear hb2))
 have HP2 := zh (za HB2.out HP.out)
 have HG2 := zh (za HB2.out HGI.out)
 have HT2 := zh (za HB2.out HBT.out)
 have HJ2 := zh (HBE.out 0 _ _ HJ.out HB2.out)
 have hct := fun o => cell_of_row w2 bt o _ _ _ HT2.out
 go_wp2_with (first
  | (refine ldT 47 (HP2.out) ?_)
  | (refine yq xj Tryz.underlying100 HG2.out rfl _ _ rfl rfl p rfl (zero_insV _) ?_; rw [HGD.out]))
 clear hct
 go_loopw [21] (fun i wr => ∃ k : Nat, k ≤ n ∧ i = .int .i64 k ∧ Hid (J k wr)) (fun i _ => n - (intOf i).toNat)
 case atStart => exact ⟨0, Nat.zero_le _, rfl, HJ2⟩
 case round =>
  clear HJ2
  obtain ⟨k, hk, rfl, HJ⟩ := hrel
  by_cases hlt : k < n
  ·have HS := zh (HST.out k wr hlt HJ.out)
   have hk1 : k < n := hlt
   have hwo : wrap64 ((zI p : Int) + (k : Int)) = (zI p : Int) + k := by unfold wrap64; omega
   have HKL := zh hlt
   go_wp2_with (go_at_fn g; refine HS.out.mono ?_; rintro e3 w3 ⟨rfl, hj3⟩; have HJ3 := zh hj3; clear hj3)
   go_roundw
   case rel => exact ⟨k + 1, HKL.out, by go_num, HJ3⟩
   case measure => have h1 := HKL.out; simp [intOf]; omega
  ·obtain rfl : k = n := by omega
   go_wp2
   go_end0
   exact ⟨rfl, HJ.out⟩
def inK (p : zb) (k b o : Nat) : Bool := decide (p.bank = b) && decide (zI p ≤ o) && decide (o < zI p + k)
theorem inK_zero (p : zb) (b o : Nat) : inK p 0 b o = false := by
 unfold inK
 by_cases h : zI p ≤ o
 ·simp [h]
 ·simp [h]
theorem inK_succ (p : zb) (k b o pb : Nat) (hb : p.bank = pb) : inK p (k + 1) b o = (inK p k b o || decide (b = pb ∧ o = zI p + k)) := by
 unfold inK
 rw [hb]
 by_cases h1 : b = pb
 ·subst h1
  by_cases h2 : o = zI p + k
  ·subst h2; simp
  ·have e1 : decide (o < zI p + (k + 1)) = decide (o < zI p + k) := by
    rw [decide_eq_decide]; omega
   rw [e1]
   simp [h2]
 ·have : ¬ ((pb : Int) = (b : Int)) := by omega
  simp [this, h1]
theorem inK_not (p : zb) (k b : Nat) : inK p k b (zI p + k) = false := by unfold inK; simp
theorem each_cov (I : zk) (hI : I.Ok) (ba : Option Addr) (bc : Nat) (da : Option Addr) (dc : Nat) (ra : Option Addr) (rn rc : Nat) (bi bt gi : Nat) (its : List (zb × Value)) (p : zb) (p0 : 0 ≤ p.addr) (p1 : p.addr < 65536) (hin : inI I p = true) (x : Ins) (n : Nat) (hx : x.size = n) (hn : n ≤ 100) (hget : yT p its = some (insV x))
  (bv gv : Nat) (f : Nat → Nat → Nat) (hf : ∀ b o, f b o ≤ 100000000) (w : World) (hbi : w.heap[bi]? = some (z6 I ba bc da dc ra rn rc)) (hV : yG w I ba bc da dc) (hbt : w.heap[bt]? = some (.cells #[.map (some gi)] 100 (0, 0))) (hgi : w.heap[gi]? = some (yc yL its)) (hc : CovW bv gv f w) :
  Calls Tryz.prog 76 #[.agg #[.int .i64 p.bank, .int .u16 p.addr], .func (.func 77) #[] #[.pointer (some ⟨bv, 0, none⟩)], .pointer (some ⟨bi, 0, none⟩), .pointer (some ⟨bt, 0, none⟩)] w fun e w' => e = .returned (.tuple #[]) ∧ CovW bv gv (fun b o => f b o + if inK p n b o then 1 else 0) w' ∧ zg (fun k => k = gv) w w' := by
 have hcb := xp (y6 hin).1
 obtain ⟨pb, hpb⟩ := Int.eq_ofNat_of_zero_le hcb.1
 refine each_any I hI ba bc da dc ra rn rc bi bt gi its p p0 p1 hin x n hx hn hget 77 #[.pointer (some ⟨bv, 0, none⟩)] (enters_of Tryz.func77 (by kernel_rfl) rfl)
  (fun k W => CovW bv gv (fun b o => f b o + if inK p k b o then 1 else 0) W ∧ zg (fun k => k = gv) w W) (fun k W W' h hb => ⟨h.1.below hb, h.2.trans (zg.ofBelow (bs := fun _ => False) hb) (fun _ _ e => e.elim)⟩) (fun k W hk hJ => ?_) w hbi hV hbt hgi ⟨by simpa [inK_zero] using hc, zg.refl _ _⟩
 have h1 := cov_any bv gv (fun b o => f b o + if inK p k b o then 1 else 0) pb (zI p + k) (k : Int) W hJ.1 (by
  have := hf pb (zI p + k)
  split <;> omega)
 rw [hpb]
 refine h1.mono ?_
 rintro e w' ⟨rfl, h2, h3⟩
 refine ⟨rfl, ?_, hJ.2.trans h3 (fun _ _ e => e)⟩
 have he : (fun b' o' => if b' = pb ∧ o' = zI p + k then (f pb (zI p + k) + if inK p k pb (zI p + k) then 1 else 0) + 1 else f b' o' + if inK p k b' o' then 1 else 0) = fun b o => f b o + if inK p (k + 1) b o then 1 else 0 := by
  funext b o
  rw [inK_succ p k b o pb hpb]
  by_cases h : b = pb ∧ o = zI p + k
  ·obtain ⟨rfl, rfl⟩ := h
   rw [if_pos ⟨rfl, rfl⟩, inK_not]
   simp
  ·rw [if_neg h]
   simp [h]
 rw [← he]
 exact h2
theorem any_range_succ (q : Nat → Bool) (k : Nat) : (List.range (k + 1)).any q = ((List.range k).any q || q k) := by rw [List.range_succ, List.any_append]; simp
structure ClsJ (B bv gv bs bp bl : Nat) (f : Nat → Nat → Nat) (gs : List Nat) (c : Nat → Nat → Int) (vc vr vi : Value) (sh : Bool) (bs' : Nat → Prop) (w0 W : World) : Prop where
 cv : CovW bv gv f W
 hs : W.heap[bs]? = some (.cells #[.bool sh] 4 (0, 0))
 hp : W.heap[bp]? = some (.cells #[.pointer (some ⟨bl, 0, none⟩)] 102 (0, 0))
 hl : W.heap[bl]? = some (.cells #[vc, vr, vi] 38 (0, 0))
 cl : xM B gs c vc W
 tr : zg bs' w0 W
theorem ClsJ.below {B bv gv bs bp bl : Nat} {f : Nat → Nat → Nat} {gs : List Nat} {c : Nat → Nat → Int} {vc vr vi : Value} {sh : Bool} {bs' : Nat → Prop} {w0 W W' : World} (h : ClsJ B bv gv bs bp bl f gs c vc vr vi sh bs' w0 W) (hb : Below W.heap.size W W') : ClsJ B bv gv bs bp bl f gs c vc vr vi sh bs' w0 W' :=
 ⟨h.cv.below hb, za hb h.hs, za hb h.hp, za hb h.hl, h.cl.below hb, h.tr.trans (zg.ofBelow (bs := fun _ => False) hb) (fun _ _ e => e.elim)⟩
theorem each_cls (I : zk) (hI : I.Ok) (ba : Option Addr) (bc : Nat) (da : Option Addr) (dc : Nat) (ra : Option Addr) (rn rc : Nat) (bi bt gi : Nat) (its : List (zb × Value)) (p : zb) (p0 : 0 ≤ p.addr) (p1 : p.addr < 65536) (hin : inI I p = true) (x : Ins) (n : Nat) (hx : x.size = n) (hn : n ≤ 100) (hend : zI p + n ≤ 4096) (hget : yT p its = some (insV x))
  (B bv gv bs bp bl : Nat) (f : Nat → Nat → Nat) (hf : ∀ b o, f b o ≤ 100000000) (gs : List Nat) (hgs : gs.length = I.banks.length) (c : Nat → Nat → Int) (vc vr vi : Value) (sh : Bool) (w : World) (hbi : w.heap[bi]? = some (z6 I ba bc da dc ra rn rc)) (hV : yG w I ba bc da dc) (hbt : w.heap[bt]? = some (.cells #[.map (some gi)] 100 (0, 0))) (hgi : w.heap[gi]? = some (yc yL its))
  (hJ : ClsJ B bv gv bs bp bl f gs c vc vr vi sh (fun j => j = bs ∨ j ∈ gs) w w) :
  Calls Tryz.prog 76 #[.agg #[.int .i64 p.bank, .int .u16 p.addr], .func (.func 78) #[] #[.pointer (some ⟨bv, 0, none⟩), .pointer (some ⟨bs, 0, none⟩), .pointer (some ⟨bp, 0, none⟩)], .pointer (some ⟨bi, 0, none⟩), .pointer (some ⟨bt, 0, none⟩)] w fun e w' => e = .returned (.tuple #[]) ∧
   ClsJ B bv gv bs bp bl f gs (fun b o => if inK p n b o then clsK (f b o) ((o : Int) - zI p) else c b o) vc vr vi (sh || (List.range n).any fun j => decide (1 < f p.bank.toNat (zI p + j))) (fun j => j = bs ∨ j ∈ gs) w w' := by
 have hcb := xp (y6 hin).1
 have hbl := (y6 hin).2
 have hn64 := hI.n64
 obtain ⟨pb, hpb⟩ := Int.eq_ofNat_of_zero_le hcb.1
 obtain ⟨g, hg⟩ : ∃ g, gs[pb]? = some g := ⟨_, List.getElem?_eq_getElem (by omega)⟩
 have htn : p.bank.toNat = pb := by omega
 rw [htn]
 refine each_any I hI ba bc da dc ra rn rc bi bt gi its p p0 p1 hin x n hx hn hget 78 #[.pointer (some ⟨bv, 0, none⟩), .pointer (some ⟨bs, 0, none⟩), .pointer (some ⟨bp, 0, none⟩)] (enters_of Tryz.func78 (by kernel_rfl) rfl)
  (fun k W => ClsJ B bv gv bs bp bl f gs (fun b o => if inK p k b o then clsK (f b o) ((o : Int) - zI p) else c b o) vc vr vi (sh || (List.range k).any fun j => decide (1 < f pb (zI p + j))) (fun j => j = bs ∨ j ∈ gs) w W) (fun k W W' h hb => h.below hb) (fun k W hk hJ => ?_) w hbi hV hbt hgi (by simpa [inK_zero] using hJ)
 have h1 := cls_any B bv gv bs bp bl f (sh || (List.range k).any fun j => decide (1 < f pb (zI p + j))) gs _ vc vr vi pb (zI p + k) g k W hJ.cv hJ.hs hJ.hp hJ.hl hJ.cl hg (by omega) (Nat.le_trans (hf _ _) (by decide)) (by omega)
 rw [hpb]
 refine h1.mono ?_
 rintro e w' ⟨rfl, h2, h3, h4⟩
 have hgm : g ∈ gs := List.mem_of_getElem? hg
 have hcell : ∀ {b : Nat} {cs : Array Value} {T : TypeId} {fr : Nat × Nat}, W.heap[b]? = some (.cells cs T fr) → T ≠ 4 → T ≠ 5 → w'.heap[b]? = some (.cells cs T fr) := fun hb n1 n2 => h4.heap hb (fun e => by
  rcases e with rfl | rfl
  ·rw [hJ.hs] at hb
   injection hb with hb
   injection hb with _ hb
   exact n1 hb.symm
  ·rw [hJ.cl.row pb _ hg] at hb
   injection hb with hb
   injection hb with _ hb
   exact n2 hb.symm)
 obtain ⟨hb, L, hL, hM⟩ := hJ.cv
 refine ⟨rfl, ⟨hcell hb (by decide) (by decide), L, h4.heap hL (fun e => ?_), hM⟩, ?_, hcell hJ.hp (by decide) (by decide), hcell hJ.hl (by decide) (by decide), ?_, hJ.tr.trans h4 (fun _ _ e => e.imp id (fun e => by rw [e]; exact hgm))⟩
 ·rcases e with e | e
  ·rw [e, hJ.hs] at hL; cases hL
  ·rw [e, hJ.cl.row pb _ hg] at hL; cases hL
 ·rw [any_range_succ, ← Bool.or_assoc]
  exact h3
 ·have he : (fun b' o' => if b' = pb ∧ o' = zI p + k then clsK (f pb (zI p + k)) k else if inK p k b' o' then clsK (f b' o') ((o' : Int) - zI p) else c b' o') = fun b o => if inK p (k + 1) b o then clsK (f b o) ((o : Int) - zI p) else c b o := by
   funext b o
   rw [inK_succ p k b o pb hpb]
   by_cases h : b = pb ∧ o = zI p + k
   ·obtain ⟨rfl, rfl⟩ := h
    rw [if_pos ⟨rfl, rfl⟩, inK_not]
    simp
    congr 1
    omega
   ·rw [if_neg h]
    simp [h]
  rw [← he]
  exact h2
end Go.Proofs.YteofmaiojepdkaaGreat
namespace Go.Proofs.YteofmaiojepdkaaGreat
theorem bankI_size {I : zk} (hI : I.Ok) {p : zb} (h : inI I p = true) : (bankI I p).size = 4096 := by
 have h1 := y6 h
 have h2 := xp h1.1
 unfold bankI
 have hlt : p.bank.toNat < I.banks.length := by omega
 rw [List.getD_eq_getElem?_getD, List.getElem?_eq_getElem hlt]
 exact hI.sz _ (List.getElem_mem hlt)
theorem ok_end {I : zk} (hI : I.Ok) {p : zb} (h : okI I p) : zI p + szI I p ≤ 4096 := by
 have ho := ok_at h
 obtain ⟨h1, h2, h3, -⟩ := dec_unique _ ho.dec
 obtain ⟨-, -, hl⟩ := enc_valid _ h1 h2
 have hc : ∀ n, (zK I p n).size ≤ 4096 - zI p := fun n => by
  unfold zK
  split
  ·rw [ByteArray.size_extract, bankI_size hI ho.ii]
   omega
  ·exact Nat.zero_le _
 have hc := hc (zx (byt (zK I p 1) 0))
 have hof : zI p < 4096 := by unfold zI; omega
 unfold szI
 rw [ho.eq]
 omega
section
variable (I : zk) (its : List zb)
def stP (b o : Nat) (p : zb) : Bool := decide (p.bank = b) && decide (zI p = o) && decide (0 < szI I p)
theorem st_cov {I : zk} {b o : Nat} {p : zb} (h : stP I b o p = true) : covP I b o p = true := by
 unfold stP at h
 unfold covP
 simp only [Bool.and_eq_true, decide_eq_true_eq] at h ⊢
 omega
def clM (m : List zb) (b o : Nat) : Int := if m.any (covP I b o) then (if 1 < yX I its b o then 3 else if m.any (stP I b o) then 1 else 2) else yj I b o
end
section
variable {I : zk} {its : List zb}
theorem covN_pos {b o : Nat} : yX I its b o = 0 ↔ its.any (covP I b o) = false := by
 unfold yX
 rw [List.countP_eq_zero]
 simp
theorem covN_take {b o : Nat} (m : Nat) : yX I (its.take m) b o ≤ yX I its b o := by
 unfold yX
 exact (List.take_sublist m its).countP_le
theorem covN_snoc {l : List zb} {p : zb} {b o : Nat} : yX I (l ++ [p]) b o = yX I l b o + if covP I b o p then 1 else 0 := by
 unfold yX
 rw [List.countP_append, List.countP_singleton]
theorem clM_nil (b o : Nat) : clM I its [] b o = yj I b o := by simp [clM]
theorem clM_snoc {m : Nat} {p : zb} (hp : its[m]? = some p) (b o : Nat) :
  clM I its (its.take (m + 1)) b o = if covP I b o p then (if 1 < yX I its b o then 3 else if (o : Int) - zI p = 0 then 1 else 2) else clM I its (its.take m) b o := by
 have ht : its.take (m + 1) = its.take m ++ [p] := by rw [List.take_succ, hp]; rfl
 have hle := covN_take (I := I) (its := its) (b := b) (o := o) (m + 1)
 rw [ht, covN_snoc] at hle
 rw [ht]
 unfold clM
 rw [List.any_append, List.any_append]
 simp only [List.any_cons, List.any_nil, Bool.or_false]
 by_cases hc : covP I b o p = true
 ·rw [hc, Bool.or_true, if_pos rfl, if_pos rfl]
  by_cases h1 : 1 < yX I its b o
  ·rw [if_pos h1, if_pos h1]
  ·rw [if_neg h1, if_neg h1]
   rw [hc, if_pos rfl] at hle
   have h0 : yX I (its.take m) b o = 0 := by omega
   have h2 : (its.take m).any (stP I b o) = false := by
    cases h3 : (its.take m).any (stP I b o) with
    | false => rfl
    | true =>
     obtain ⟨q, hq, hs⟩ := List.any_eq_true.1 h3
     have h4 := covN_pos.1 h0
     have h5 : (its.take m).any (covP I b o) = true := List.any_eq_true.2 ⟨q, hq, st_cov hs⟩
     rw [h4] at h5
     cases h5
   rw [h2, Bool.false_or]
   have h6 : stP I b o p = decide ((o : Int) - zI p = 0) := by
    unfold covP at hc
    unfold stP
    simp only [Bool.and_eq_true, decide_eq_true_eq] at hc
    by_cases h7 : (o : Int) - zI p = 0
    ·have h8 : zI p = o := by omega
     have h9 : 0 < szI I p := by omega
     simp [h7, hc.1.1, h8, h9]
    ·have h8 : ¬ zI p = o := by omega
     simp [h7, h8]
   rw [h6]
   by_cases h7 : (o : Int) - zI p = 0
   ·rw [if_pos h7, decide_eq_true h7, if_pos rfl]
   ·rw [if_neg h7, decide_eq_false h7, if_neg (by decide)]
 ·have hc' : covP I b o p = false := by simpa using hc
  have hs : stP I b o p = false := by
   cases h : stP I b o p with
   | false => rfl
   | true => exact absurd (st_cov h) hc
  rw [hc', hs, Bool.or_false, Bool.or_false, if_neg (by decide : ¬ false = true)]
def tbM (l : List zb) (b o : Nat) : Bool := l.any fun q => decide (q.bank = b) && decide (zI q = o)
def clT (l : List zb) (b o : Nat) : Int := if yX I its b o = 0 ∧ tbM l b o = true then 4 else clM I its its b o
theorem clT_nil (b o : Nat) : clT (I := I) (its := its) [] b o = clM I its its b o := by simp [clT, tbM]
theorem clT_snoc (l : List zb) (q : zb) (b o : Nat) : clT (I := I) (its := its) (l ++ [q]) b o = if (q.bank = b ∧ zI q = o) ∧ yX I its b o = 0 then 4 else clT (I := I) (its := its) l b o := by
 unfold clT tbM
 rw [List.any_append]
 simp only [List.any_cons, List.any_nil, Bool.or_false, Bool.or_eq_true, Bool.and_eq_true, decide_eq_true_eq]
 by_cases h0 : yX I its b o = 0
 ·by_cases h1 : q.bank = b ∧ zI q = o
  ·simp [h0, h1]
  ·simp [h0, h1]
 ·simp [h0]
theorem clT_all (b o : Nat) : clT (I := I) (its := its) (its.flatMap fun p => (fl I p).tb) b o = clOf I its b o := by
 have ht : tbM (its.flatMap fun p => (fl I p).tb) b o = inTab I its b o := by
  unfold tbM inTab
  rw [List.any_flatMap]
 unfold clT clOf
 rw [ht]
 by_cases h0 : yX I its b o = 0
 ·rw [if_pos h0]
  by_cases h1 : inTab I its b o = true
  ·rw [if_pos ⟨h0, h1⟩, if_pos h1]
  ·rw [if_neg (fun h => h1 h.2), if_neg h1]
   unfold clM
   rw [covN_pos.1 h0, if_neg (by decide)]
 ·rw [if_neg (fun h => h0 h.1), if_neg h0]
  have h1 : its.any (covP I b o) = true := by
   cases h : its.any (covP I b o) with
   | true => rfl
   | false => exact absurd (covN_pos.2 h) h0
  unfold clM
  rw [h1, if_pos rfl]
  by_cases h2 : yX I its b o = 1
  ·rw [if_pos h2, if_neg (by omega)]
   rfl
  ·rw [if_neg h2, if_pos (by omega)]
end
theorem seen_addr {a : Int} {p q : zb} (h : yt a p = some q) : q.addr = a := by
 unfold yt at h
 split at h
 ·split at h
  ·injection h with h; rw [← h]
  ·cases h
 ·injection h with h; rw [← h]
theorem toF_tb (f : zO) (o : Option zb) : (toF f o).tb = f.tb := by unfold toF; split <;> rfl
theorem ent_addr {I : zk} {p : zb} {f : zO} {a : Int} (ha : 0 ≤ a ∧ a < 65536) (hf : ∀ q ∈ f.tb, 0 ≤ q.addr ∧ q.addr < 65536) : ∀ q ∈ (entF I p f a).tb, 0 ≤ q.addr ∧ q.addr < 65536 := by
 unfold entF
 split
 ·rename_i lo hi h1 h2
  split
  ·exact hf
  ·intro q hq
   rw [toF_tb] at hq
   rcases List.mem_append.1 hq with hq | hq
   ·exact hf q hq
   ·simp only [List.mem_cons, List.not_mem_nil, or_false] at hq
    rcases hq with rfl | rfl
    ·rw [seen_addr h1]; exact ha
    ·rw [seen_addr h2]; omega
 ·exact hf
theorem tab_addr {I : zk} {x : Ins} {p : zb} {f : zO} (hf : ∀ q ∈ f.tb, 0 ≤ q.addr ∧ q.addr < 65536) : ∀ k, ∀ q ∈ (tabF I x p f k).tb, 0 ≤ q.addr ∧ q.addr < 65536
 | 0 => hf
 | k + 1 => ent_addr (by omega) (tab_addr hf k)
theorem fall_tb (x : Ins) (p : zb) : (zR x p).tb = [] := by
 unfold zR
 split
 ·split <;> rfl
 ·rfl
theorem flow_addr (I : zk) (x : Ins) (p : zb) : ∀ q ∈ (yU I x p).tb, 0 ≤ q.addr ∧ q.addr < 65536 := by
 have h0 : ∀ q ∈ (zR x p).tb, 0 ≤ q.addr ∧ q.addr < 65536 := by rw [fall_tb]; simp
 have h1 : ∀ q ∈ (toF (zR x p) (optT (zU x p))).tb, 0 ≤ q.addr ∧ q.addr < 65536 := by rw [toF_tb]; exact h0
 unfold yU
 split
 ·split <;> exact h0
 ·split
  ·exact h1
  ·split
   ·exact tab_addr h1 _
   ·split
    ·exact h0
    ·split <;> exact h0
end Go.Proofs.YteofmaiojepdkaaGreat
