/- package scan: the closures of mark, walked. No condition beyond what each states. -/
import Derived.Test.YteofmaiojepdkaaGreatSaSkT
set_option linter.all false
namespace Go.Proofs.YteofmaiojepdkaaGreat
open Go Go.RowKit Go.Maps Go.Sort
abbrev celB (b o : Nat) : Obj := .cells #[.int .i64 b, .int .i64 o] 153
theorem zero_int (w : World) : (zeroValue 3).run Tryz.prog w = .ok (.int .i64 0) w := by kernel_rfl
/-- How often each byte is covered. -/
structure CovM (L : List ((Nat × Nat) × Value)) (f : Nat → Nat → Nat) : Prop where
  nd : (L.map (·.1)).Nodup
  val : ∀ b o, (z6 (b, o) L).getD (.int .i64 0) = .int .i64 (f b o)
def CovW (bc gc : Nat) (f : Nat → Nat → Nat) (W : World) : Prop := W.heap[bc]? = some (.cells #[.map (some gc)] 150 (0, 0)) ∧ ∃ L, W.heap[gc]? = some (zL celV L) ∧ CovM L f
theorem CovM.put {L : List ((Nat × Nat) × Value)} {f : Nat → Nat → Nat} (h : CovM L f) (b o : Nat) : CovM (yu (b, o) (.int .i64 (f b o + 1 : Nat)) L) (fun b' o' => if b' = b ∧ o' = o then f b o + 1 else f b' o') := by
  refine ⟨nodup_put h.nd, fun b' o' => ?_⟩
  by_cases hk : b' = b ∧ o' = o
  · obtain ⟨rfl, rfl⟩ := hk
    rw [getL_put_same, if_pos ⟨rfl, rfl⟩]
    rfl
  · rw [getL_put_ne (fun e => hk (by injection e with e1 e2; exact ⟨e1, e2⟩)), if_neg hk]
    exact h.val b' o'
theorem CovW.turn {bc gc : Nat} {f : Nat → Nat → Nat} {W W' : World} {bs : Nat → Prop} (h : CovW bc gc f W) (t : y6 bs W W') (h1 : ¬ bs bc) (h2 : ¬ bs gc) : CovW bc gc f W' := by
  obtain ⟨hb, L, hL, hM⟩ := h
  exact ⟨t.heap hb h1, L, t.heap hL h2, hM⟩
theorem CovW.below {bc gc : Nat} {f : Nat → Nat → Nat} {W W' : World} (h : CovW bc gc f W) (hb : Below W.heap.size W W') : CovW bc gc f W' := h.turn (y6.ofBelow (bs := fun _ => False) hb) (fun e => e) (fun e => e)
set_option maxRecDepth 100000 in
set_option maxHeartbeats 4000000 in
theorem cov_any (bc gc : Nat) (f : Nat → Nat → Nat) (b o : Nat) (k : Int) (w : World) (h : CovW bc gc f w) (hf : f b o ≤ 1000000000) :
    Calls Tryz.prog 77 #[.agg #[.int .i64 b, .int .i64 o], .int .i64 k, .pointer (some ⟨bc, 0, none⟩)] w fun e w' => e = .returned (.tuple #[]) ∧ CovW bc gc (fun b' o' => if b' = b ∧ o' = o then f b o + 1 else f b' o') w' ∧ y6 (fun k => k = gc) w w' := by
  obtain ⟨hb, L, hL, hM⟩ := h
  have HM := zh hM
  have HA := Bx.one w (celB b o)
  have hd := (Below.refl (w.alloc (celB b o)).heap.size (w.alloc (celB b o))).drew
  have H0 := zh (zb (HA.bb.drew) hb)
  have H1 := zh (zb hd HA.b0)
  have H2 := zh (zb (HA.bb.drew) hL)
  have HF := zh hf
  have hv := hM.val b o
  have HV := zh hv
  clear hb hL hM HA hd hf hv
  go_enter Tryz.func77, Tryz.ntmps77
  go_wp2_with fail
  refine zK (S := fun W => (∀ j, W.cell? ⟨bc, j, none⟩ = (#[.map (some gc)] : Array Value)[j]?) ∧ (∀ j, W.cell? ⟨w.heap.size, j, none⟩ = (#[.int .i64 b, .int .i64 o] : Array Value)[j]?) ∧ ∃ L', W.heap[gc]? = some (zL celV L') ∧ (z6 (b, o) L').getD (.int .i64 0) = .int .i64 (f b o)) [6] (by kernel_rfl) ⟨fun j => cell_of_row _ _ _ _ _ _ H0.out, fun j => cell_of_row _ _ _ _ _ _ H1.out, L, H2.out, HV.out⟩ (fun hHeld => ?_)
  (refine tkZ 0 (v := ?_) rfl (by assumption) ?_ ?_; rotate_left; (focus (intro w hSw; (try dsimp only at hSw); go_simp; try with_reducible rfl)); (try simp only [zA, zB, zC, Act.put, zD, zE, zF]))
  (refine tkZ 1 (v := ?_) rfl (by assumption) ?_ ?_; rotate_left; (focus (intro w hSw; (try dsimp only at hSw); go_simp; try with_reducible rfl)); (try simp only [zA, zB, zC, Act.put, zD, zE, zF]))
  (refine tkZ 2 rfl (by assumption) (v := .int .i64 (f b o)) (fun W hS => by
    obtain ⟨L', hL', hv'⟩ := hS.2.2
    rw [exec_lookupL cellKey Tryz.underlying150 hL' _ _ false rfl rfl (b, o) rfl (zero_int W)]
    rw [if_neg (by decide), hv']) ?_; (try simp only [zA, zB, zC, Act.put, zD, zE, zF]))
  (refine tkZ 3 (v := ?_) rfl (by assumption) ?_ ?_; rotate_left; (focus (intro w hSw; (try dsimp only at hSw); go_simp; try with_reducible rfl)); (try simp only [zA, zB, zC, Act.put, zD, zE, zF]))
  refine oneZ 4 rfl (fun K hK => ?_)
  refine wp_mapEntryL cellKey Tryz.underlying150 H2.out _ _ rfl rfl (b, o) rfl (zero_int _) ?_
  intro j l1 w1 h1 hg1 hz1 h4 h5 h6
  have ht1 : y6 (fun k => k = gc) (w.alloc (celB b o)).drew w1 := (y6.refl _ _).grown hg1 (fun k e _ => by injection e with e; exact e.symm)
  have H01 := zh (ht1.heap H0.out (fun e => by have h := H0.out; rw [e, H2.out] at h; cases h))
  have H11 := zh (ht1.heap H1.out (fun e => by have h := H1.out; rw [e, H2.out] at h; cases h))
  have H21 := zh h1
  have HT1 := zh ht1
  have HJ := zh h4
  have HP := zh h5
  refine hK.out _ _ (.inr ⟨fun j => cell_of_row _ _ _ _ _ _ H01.out, fun j => cell_of_row _ _ _ _ _ _ H11.out, l1, H21.out, h6.trans HV.out⟩) ?_
  (try simp only [zA, zB, zC, Act.put, zD, zE, zF])
  clear hK K hHeld
  have hHeld : (∀ j, w1.cell? ⟨bc, j, none⟩ = (#[.map (some gc)] : Array Value)[j]?) ∧ (∀ j, w1.cell? ⟨w.heap.size, j, none⟩ = (#[.int .i64 b, .int .i64 o] : Array Value)[j]?) ∧ ∃ L', w1.heap[gc]? = some (zL celV L') ∧ (z6 (b, o) L').getD (.int .i64 0) = .int .i64 (f b o) := ⟨fun j => cell_of_row _ _ _ _ _ _ H01.out, fun j => cell_of_row _ _ _ _ _ _ H11.out, l1, H21.out, h6.trans HV.out⟩
  clear h1 hg1 hz1 h4 h5 h6 ht1
  (refine tkZ 5 (v := ?_) rfl (by assumption) ?_ ?_; rotate_left; (focus (intro w hSw; (try dsimp only at hSw); go_simp; try with_reducible rfl)); (try simp only [zA, zB, zC, Act.put, zD, zE, zF]))
  refine tailZ 6 ?_
  simp only [List.drop_succ_cons, List.drop_zero]
  obtain ⟨u, hu⟩ := HJ.out
  refine wpList_plain rfl fun K hK => ?_
  refine wp_entryStoreL H21.out hu _ _ _ rfl rfl rfl (.int .i64 (f b o + 1 : Nat)) ?_ ?_
  · show Value.int .i64 (IntKind.i64.wrap ((f b o : Nat) + 1)) = _
    rw [IntWalk.i64_in _ (by have := HF.out; omega)]
    rfl
  intro w2 h2 hg2 hz2
  refine hK _ _ ?_
  rw [HP.out] at h2
  have ht2 : y6 (fun k => k = gc) w1 w2 := (y6.refl _ _).grown hg2 (fun k e _ => by injection e with e; exact e.symm)
  have HX := zh (show CovW bc gc (fun b' o' => if b' = b ∧ o' = o then f b o + 1 else f b' o') w2 from ⟨ht2.heap H01.out (fun e => by have h := H01.out; rw [e, H21.out] at h; cases h), _, h2, HM.out.put b o⟩)
  have HT2 := zh (((y6.ofBelow ((Below.refl _ w).alloc (zn _) (celB b o)).drew).trans HT1.out (fun _ _ h => h)).trans ht2 (fun _ _ h => h))
  clear h2 hg2 hz2 hu ht2
  go_wp2_with fail
  go_end0
  exact ⟨rfl, HX.out, HT2.out⟩
/-- The class of a byte that n instructions cover, the k-th of one. -/
def clsK (n : Nat) (k : Int) : Int := if 1 < n then 3 else if k = 0 then 1 else 2
theorem y3.slice {B : Nat} {gs : List Nat} {c : Nat → Nat → Int} {v : Value} {W : World} (h : y3 B gs c v W) {b g : Nat} (hg : gs[b]? = some g) : ∃ gv cap, v = .slice (some ⟨gv, 0, none⟩) gs.length cap ∧ gs.length ≤ cap ∧ W.cell? ⟨gv, b, none⟩ = some (clV g) ∧ W.heap[gv]? ≠ none := by
  have hb := (List.getElem?_eq_some_iff.1 hg).1
  rcases h.own.2 with ⟨-, h0⟩ | ⟨gv, cap, cur, rfl, -, hv, hn, -, hz, ht⟩
  · omega
  · refine ⟨gv, cap, rfl, hn, ?_, by rw [hv]; exact fun e => by cases e⟩
    rw [cell_of_row _ _ _ _ _ _ hv]
    have h1 : (cur.toList.take (gs.length * 1))[b]? = (gs.map clV)[b]? := by rw [ht]
    rw [List.getElem?_take_of_lt (by omega), Array.getElem?_toList, List.getElem?_map, hg] at h1
    exact h1
theorem y3.put {B : Nat} {gs : List Nat} {c : Nat → Nat → Int} {v : Value} {W : World} (h : y3 B gs c v W) {b g o : Nat} (x : Int) (hg : gs[b]? = some g) : y3 B gs (fun b' o' => if b' = b ∧ o' = o then x else c b' o') v (W.setCell ⟨g, o, none⟩ (.int .u8 x)) := by
  refine ⟨y7 h.own ((y6.refl (fun j => j = g) W).setCell _ (fun _ => rfl)) (xc h.own (h.row b g hg) (fun _ _ => zg (by decide))), h.nd, h.lb, fun b' g' hg' => ?_⟩
  by_cases hb : b' = b
  · subst hb
    rw [hg] at hg'
    injection hg' with hg'
    subst hg'
    have e := heap_setCell_same (h.row b' g hg) (i := o) (.int .u8 x)
    rw [rowC_set] at e
    have hr : rowC (fun o' => if o' = o then x else c b' o') = rowC (fun o' => if b' = b' ∧ o' = o then x else c b' o') := rowC_congr fun o' _ => by simp only [true_and]
    exact e.trans (congrArg (fun r => some (Obj.cells r 5 (0, 0))) hr)
  · have hgg : g' ≠ g := fun e => hb (by
      subst e
      exact (List.getElem?_inj (List.getElem?_eq_some_iff.1 hg').1 h.nd).1 (hg'.trans hg.symm))
    have hr : rowC (c b') = rowC (fun o' => if b' = b ∧ o' = o then x else c b' o') := rowC_congr fun o' _ => by rw [if_neg (fun e => hb e.1)]
    rw [heap_setCell_other hgg]
    exact (h.row b' g' hg').trans (congrArg (fun r => some (Obj.cells r 5 (0, 0))) hr)
set_option maxRecDepth 100000 in
set_option maxHeartbeats 4000000 in
theorem cls_any (B bc gc bs bp bl : Nat) (f : Nat → Nat → Nat) (sh : Bool) (gs : List Nat) (c : Nat → Nat → Int) (vc vr vi : Value) (b o g : Nat) (k : Nat) (w : World) (h : CovW bc gc f w) (hs : w.heap[bs]? = some (.cells #[.bool sh] 4 (0, 0))) (hp : w.heap[bp]? = some (.cells #[.pointer (some ⟨bl, 0, none⟩)] 102 (0, 0))) (hl : w.heap[bl]? = some (.cells #[vc, vr, vi] 38 (0, 0))) (hc : y3 B gs c vc w) (hg : gs[b]? = some g) (ho : o < 4096) (hf : f b o ≤ 1000000000) (hgl : gs.length ≤ 64) :
    Calls Tryz.prog 78 #[.agg #[.int .i64 b, .int .i64 o], .int .i64 k, .pointer (some ⟨bc, 0, none⟩), .pointer (some ⟨bs, 0, none⟩), .pointer (some ⟨bp, 0, none⟩)] w fun e w' => e = .returned (.tuple #[]) ∧ y3 B gs (fun b' o' => if b' = b ∧ o' = o then clsK (f b o) k else c b' o') vc w' ∧ w'.heap[bs]? = some (.cells #[.bool (sh || decide (1 < f b o))] 4 (0, 0)) ∧ y6 (fun j => j = bs ∨ j = g) w w' := by
  obtain ⟨hb, L, hL, hM⟩ := h
  have HA := Bx.one w (celB b o)
  have H0 := zh (zb HA.bb hb)
  have H1 := zh HA.b0
  have H2 := zh (zb HA.bb hL)
  have HS := zh (zb HA.bb hs)
  have HP := zh (zb HA.bb hp)
  have HL := zh (zb HA.bb hl)
  have HC := zh (hc.below HA.bb)
  have HT := zh (show y6 (fun j => j = bs) w (w.alloc (celB b o)) from y6.ofBelow HA.bb)
  have hv := hM.val b o
  have hsl := (Array.getElem?_eq_some_iff.1 hs).1
  have HV := zh hv
  have HG := zh hg
  have HGL := zh hgl
  have HO := zh ho
  have hc0 := fun j => cell_of_row _ bc j _ _ _ H0.out
  have hc1 := fun j => cell_of_row _ w.heap.size j _ _ _ H1.out
  have HSL := zh hsl
  clear hb hL hM HA hs hp hl hc hv hg hgl ho
  go_enter Tryz.func78, Tryz.ntmps78
  go_upto_block 0 with fail
  clear hc0 hc1
  obtain ⟨w1, hw1⟩ : ∃ w1, w.alloc (celB b o) = w1 := ⟨_, rfl⟩
  rw [hw1] at H0 H1 H2 HS HP HL HC HT ⊢
  clear hw1
  go_cut [7] (fun s wx => s = .int .u8 (clsK (f b o) k) ∧ Hid (wx.heap[bs]? = some (.cells #[.bool (sh || decide (1 < f b o))] 4 (0, 0))) ∧ Hid (wx.heap[bp]? = some (.cells #[.pointer (some ⟨bl, 0, none⟩)] 102 (0, 0))) ∧ Hid (wx.heap[bl]? = some (.cells #[vc, vr, vi] 38 (0, 0))) ∧ Hid (y3 B gs c vc wx) ∧ Hid (wx.heap[w.heap.size]? = some (celB b o)) ∧ Hid (y6 (fun j => j = bs) w wx))
  case first =>
    have hc0 := fun j => cell_of_row _ bc j _ _ _ H0.out
    have hf0 := fun j => frozen_of_row _ bs j _ _ HS.out
    have hcs := fun j => cell_of_row _ bs j _ _ _ HS.out
    by_cases h1 : 1 < f b o
    · have hi1 : (1 : Int) < (f b o : Int) := by omega
      have HH := zh h1
      clear h1
      go_wp2_with (first
        | (refine za 153 _ rfl _ rfl _ _ _ (H1.out) ?_ ?_ ?_; kernel_rfl; kernel_rfl)
        | (refine zT cellKey Tryz.underlying150 H2.out rfl _ _ rfl rfl (b, o) rfl (zero_int _) ?_; rw [HV.out]))
      go_meet
      have hne : ∀ {x : Nat} {ob : Obj}, w1.heap[x]? = some ob → (∀ cs fr, ob ≠ .cells cs 4 fr) → (w1.setCell ⟨bs, 0, none⟩ (.bool true)).heap[x]? = some ob := fun hx hno => by
        rw [heap_setCell_other (fun e => by
          rw [e, HS.out] at hx
          injection hx with hx
          exact hno _ _ hx.symm)]
        exact hx
      have ht : y6 (fun j => j = bs) w1 (w1.setCell ⟨bs, 0, none⟩ (.bool true)) := (y6.refl _ w1).setCell _ (fun _ => rfl)
      have hd : decide (1 < f b o) = true := decide_eq_true HH.out
      exact ⟨by unfold clsK; rw [if_pos HH.out], zh (by rw [hd, Bool.or_true]; exact heap_setCell_same HS.out (i := 0) _), zh (hne HP.out (fun _ _ => zg (by decide))), zh (hne HL.out (fun _ _ => zg (by decide))), zh (HC.out.turn ht (fun k cs T fr hk hT e => by rw [e, HS.out] at hk; injection hk with hk; injection hk with _ hk; rcases hT with hT | hT <;> rw [← hk] at hT <;> exact absurd hT (by decide))), zh (hne H1.out (fun _ _ => zg (by decide))), zh (HT.out.trans ht (fun _ _ e => e))⟩
    · have hi1 : ¬ (1 : Int) < (f b o : Int) := by omega
      have HH := zh h1
      clear h1
      by_cases h2 : k = 0
      · subst h2
        go_wp2_with (first
          | (refine za 153 _ rfl _ rfl _ _ _ (H1.out) ?_ ?_ ?_; kernel_rfl; kernel_rfl)
          | (refine zT cellKey Tryz.underlying150 H2.out rfl _ _ rfl rfl (b, o) rfl (zero_int _) ?_; rw [HV.out]))
        go_meet
        have hd : decide (1 < f b o) = false := decide_eq_false HH.out
        exact ⟨by unfold clsK; rw [if_neg HH.out]; rfl, zh (by rw [hd, Bool.or_false]; exact HS.out), HP, HL, HC, H1, HT⟩
      · have hk0 : ((k : Int) == 0) = false := by simp; omega
        have HK := zh h2
        clear h2
        go_wp2_with (first
          | (refine za 153 _ rfl _ rfl _ _ _ (H1.out) ?_ ?_ ?_; kernel_rfl; kernel_rfl)
          | (refine zT cellKey Tryz.underlying150 H2.out rfl _ _ rfl rfl (b, o) rfl (zero_int _) ?_; rw [HV.out]))
        go_meet
        have hd : decide (1 < f b o) = false := decide_eq_false HH.out
        exact ⟨by unfold clsK; rw [if_neg HH.out]; rw [if_neg (by have := HK.out; omega)], zh (by rw [hd, Bool.or_false]; exact HS.out), HP, HL, HC, H1, HT⟩
  case rest =>
    obtain ⟨rfl, HS1, HP1, HL1, HC1, HX1, HT1⟩ := hcut
    obtain ⟨gv, cap, hvc, hle, hcell, -⟩ := HC1.out.slice HG.out
    subst hvc
    have hbl := (List.getElem?_eq_some_iff.1 HG.out).1
    have hbi : (b : Int) < (gs.length : Int) := by omega
    have hoi : (o : Int) < 4096 := by have := HO.out; omega
    have hd := (Below.refl wc.heap.size wc).drew
    have HCE := zh hcell
    clear hcell H0 H1 H2 HS HP HL HC HT HV
    go_wp2_with fail
    refine zK (S := fun W => (∀ j, W.cell? ⟨bp, j, none⟩ = (#[.pointer (some ⟨bl, 0, none⟩)] : Array Value)[j]?) ∧ (∀ j, W.cell? ⟨bl, j, none⟩ = (#[.slice (some ⟨gv, 0, none⟩) gs.length cap, vr, vi] : Array Value)[j]?) ∧ (∀ j, W.cell? ⟨w.heap.size, j, none⟩ = (#[.int .i64 b, .int .i64 o] : Array Value)[j]?) ∧ W.cell? ⟨gv, b, none⟩ = some (.slice (some ⟨g, 0, none⟩) 4096 4096)) [12] (by kernel_rfl) ⟨fun j => cell_of_row _ _ _ _ _ _ (zb hd HP1.out), fun j => cell_of_row _ _ _ _ _ _ (zb hd HL1.out), fun j => cell_of_row _ _ _ _ _ _ (zb hd HX1.out), HCE.out⟩ (fun hHeld => ?_)
    (refine tkZ 0 (v := ?_) rfl (by assumption) ?_ ?_; rotate_left; (focus (intro w hSw; (try dsimp only at hSw); go_simp; try with_reducible rfl)); (try simp only [zA, zB, zC, Act.put, zD, zE, zF]))
    (refine tkZ 1 (v := ?_) rfl (by assumption) ?_ ?_; rotate_left; (focus (intro w hSw; (try dsimp only at hSw); go_simp; try with_reducible rfl)); (try simp only [zA, zB, zC, Act.put, zD, zE, zF]))
    (refine tkZ 2 (v := ?_) rfl (by assumption) ?_ ?_; rotate_left; (focus (intro w hSw; (try dsimp only at hSw); go_simp; try with_reducible rfl)); (try simp only [zA, zB, zC, Act.put, zD, zE, zF]))
    (refine tkZ 3 (v := ?_) rfl (by assumption) ?_ ?_; rotate_left; (focus (intro w hSw; (try dsimp only at hSw); go_simp; try with_reducible rfl)); (try simp only [zA, zB, zC, Act.put, zD, zE, zF]))
    (refine tkZ 4 (v := ?_) rfl (by assumption) ?_ ?_; rotate_left; (focus (intro w hSw; (try dsimp only at hSw); go_simp; try with_reducible rfl)); (try simp only [zA, zB, zC, Act.put, zD, zE, zF]))
    (refine tkZ 5 (v := ?_) rfl (by assumption) ?_ ?_; rotate_left; (focus (intro w hSw; (try dsimp only at hSw); go_simp; try with_reducible rfl)); (try simp only [zA, zB, zC, Act.put, zD, zE, zF]))
    (refine tkZ 6 (v := ?_) rfl (by assumption) ?_ ?_; rotate_left; (focus (intro w hSw; (try dsimp only at hSw); go_simp; try with_reducible rfl)); (try simp only [zA, zB, zC, Act.put, zD, zE, zF]))
    (refine tkZ 7 (v := ?_) rfl (by assumption) ?_ ?_; rotate_left; (focus (intro w hSw; (try dsimp only at hSw); go_simp; try with_reducible rfl)); (try simp only [zA, zB, zC, Act.put, zD, zE, zF]))
    (refine tkZ 8 (v := ?_) rfl (by assumption) ?_ ?_; rotate_left; (focus (intro w hSw; (try dsimp only at hSw); go_simp; try with_reducible rfl)); (try simp only [zA, zB, zC, Act.put, zD, zE, zF]))
    (refine tkZ 9 (v := ?_) rfl (by assumption) ?_ ?_; rotate_left; (focus (intro w hSw; (try dsimp only at hSw); go_simp; try with_reducible rfl)); (try simp only [zA, zB, zC, Act.put, zD, zE, zF]))
    (refine tkZ 10 (v := ?_) rfl (by assumption) ?_ ?_; rotate_left; (focus (intro w hSw; (try dsimp only at hSw); go_simp; try with_reducible rfl)); (try simp only [zA, zB, zC, Act.put, zD, zE, zF]))
    (refine tkZ 11 (v := ?_) rfl (by assumption) ?_ ?_; rotate_left; (focus (intro w hSw; (try dsimp only at hSw); go_simp; try with_reducible rfl)); (try simp only [zA, zB, zC, Act.put, zD, zE, zF]))
    refine tailZ 12 ?_
    simp only [List.drop_succ_cons, List.drop_zero]
    have hrw := HC1.out.row b g HG.out
    have hct : wc.drew.cell? ⟨g, o, none⟩ = some (.int .u8 (c b o)) := by
      rw [cell_of_row _ _ _ _ _ _ (zb hd hrw), yY _ HO.out]
    have hft : wc.drew.frozen? ⟨g, o, none⟩ = false := frozen_of_row _ _ _ _ _ (zb hd hrw)
    clear hHeld hrw hd
    go_wp2_with fail
    go_end0
    have hbg : bs ≠ g := fun e => by
      have h1 := HC1.out.row b g HG.out
      rw [← e, HS1.out] at h1
      injection h1 with h1
      exact zg (by decide) h1
    refine ⟨rfl, (HC1.out.put (o := o) (clsK (f b o) k) HG.out).below (Below.refl _ _).drew, ?_, ?_⟩
    · show (wc.setCell ⟨g, o, none⟩ _).heap[bs]? = _
      rw [heap_setCell_other hbg]
      exact HS1.out
    · exact ((HT1.out.mono (fun _ _ e => .inl e)).setCell _ (fun _ => .inr rfl)).drew
/-! ### each -/
end Go.Proofs.YteofmaiojepdkaaGreat
