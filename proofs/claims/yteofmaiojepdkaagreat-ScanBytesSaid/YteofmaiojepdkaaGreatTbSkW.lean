/- package scan: what mark works on, in memory. No condition. -/
import Derived.Test.YteofmaiojepdkaaGreatTbSkU
import Derived.Test.YteofmaiojepdkaaGreatTbSkS
set_option linter.all false
namespace Go.Proofs.YteofmaiojepdkaaGreat
open Go Go.RowKit Go.Maps Go.Sort
structure MkC where
 bi : Nat
 bp : Nat
 bt : Nat
 bl : Nat
 gi : Nat
 bv : Nat
 gv : Nat
 B1 : Nat
 A : Option Addr
 cap : Nat
 gs : List Nat
 vc : Value
 vr : Value
 its : List zb
 L : List (zb × Value)
section
variable (I : zk) (ba : Option Addr) (bc : Nat) (da : Option Addr) (dc : Nat) (ra : Option Addr) (rn rc : Nat) (wE : World) (C : MkC)
structure MkF (W : World) : Prop where
 be : Below wE.heap.size wE W
 bi : W.heap[C.bi]? = some (z6 I ba bc da dc ra rn rc)
 bp : W.heap[C.bp]? = some (.cells #[.pointer (some ⟨C.bl, 0, none⟩)] 102 (0, 0))
 bt : W.heap[C.bt]? = some (.cells #[.map (some C.gi)] 100 (0, 0))
 gi : W.heap[C.gi]? = some (yc yL C.L)
 own : W.ownsRow C.B1 47 2 (.slice C.A C.its.length C.cap) C.its.length (zp C.its)
structure MkW (f : Nat → Nat → Nat) (c : Nat → Nat → Int) (vi : Value) (iss : List zM) (w0 W : World) : Prop where
 fr : MkF I ba bc da dc ra rn rc wE C W
 cv : CovW C.bv C.gv f W
 hl : W.heap[C.bl]? = some (.cells #[C.vc, C.vr, vi] 38 (0, 0))
 cl : xM wE.heap.size C.gs c C.vc W
 is_ : W.ownsRow w0.heap.size 58 3 vi iss.length (yf iss)
 tr : zg (fun j => j = C.bl ∨ j ∈ C.gs) w0 W
 nv : C.gv ≠ C.gi
 lv : w0.heap.size ≤ C.gv
 le : wE.heap.size ≤ w0.heap.size
 lb : wE.heap.size ≤ C.bl
end
section
variable {I : zk} {ba : Option Addr} {bc : Nat} {da : Option Addr} {dc : Nat} {ra : Option Addr} {rn rc : Nat} {wE : World} {C : MkC} {W W' w0 : World} {f f' : Nat → Nat → Nat} {c c' : Nat → Nat → Int} {vi vi' : Value} {iss : List zM}
theorem MkF.turn {bs : Nat → Prop} (h : MkF I ba bc da dc ra rn rc wE C W) (t : zg bs W W') (hl : ∀ k, bs k → wE.heap.size ≤ k) (hm : ¬ bs C.gi) (hc : ∀ k cs T fr, W.heap[k]? = some (.cells cs T fr) → bs k → T = 4 ∨ T = 5 ∨ T = 38 ∨ T = 58) : MkF I ba bc da dc ra rn rc wE C W' :=
 ⟨h.be.trans (t.toBelow h.be.size hl), t.heap h.bi (fun e => absurd (hc _ _ _ _ h.bi e) (by decide)), t.heap h.bp (fun e => absurd (hc _ _ _ _ h.bp e) (by decide)), t.heap h.bt (fun e => absurd (hc _ _ _ _ h.bt e) (by decide)), t.heap h.gi hm, zi h.own t (fun k hk e => by obtain ⟨-, cs, hcc⟩ := zz h.own k hk; exact absurd (hc _ _ _ _ hcc e) (by decide))⟩
theorem MkF.below (h : MkF I ba bc da dc ra rn rc wE C W) (hb : Below W.heap.size W W') : MkF I ba bc da dc ra rn rc wE C W' :=
 h.turn (zg.ofBelow (bs := fun _ => False) hb) (fun _ e => e.elim) (fun e => e) (fun _ _ _ _ _ e => e.elim)
theorem MkW.below (h : MkW I ba bc da dc ra rn rc wE C f c vi iss w0 W) (hb : Below W.heap.size W W') : MkW I ba bc da dc ra rn rc wE C f c vi iss w0 W' :=
 ⟨h.fr.below hb, h.cv.below hb, za hb h.hl, h.cl.below hb, zi h.is_ (zg.ofBelow (bs := fun _ => False) hb) (fun _ _ e => e), h.tr.trans (zg.ofBelow (bs := fun _ => False) hb) (fun _ _ e => e.elim), h.nv, h.lv, h.le, h.lb⟩
theorem MkW.cov (h : MkW I ba bc da dc ra rn rc wE C f c vi iss w0 W) (hc : CovW C.bv C.gv f' W') (t : zg (fun k => k = C.gv) W W') : MkW I ba bc da dc ra rn rc wE C f' c vi iss w0 W' := by
 obtain ⟨-, L, hL, -⟩ := h.cv
 have hlv := h.lv
 have hle := h.le
 have hn : ∀ k cs T fr, W.heap[k]? = some (.cells cs T fr) → ¬ k = C.gv := fun k cs T fr hk e => by rw [e, hL] at hk; cases hk
 exact ⟨h.fr.turn t (fun k e => by omega) (fun e => h.nv e.symm) (fun k cs T fr hk e => absurd e (hn _ _ _ _ hk)), hc, t.heap h.hl (hn _ _ _ _ h.hl), h.cl.turn t (fun k cs T fr hk _ => hn _ _ _ _ hk), zi h.is_ t (fun k hk => by obtain ⟨-, cs, hcc⟩ := zz h.is_ k hk; exact hn _ _ _ _ hcc), h.tr.trans t (fun k hk e => by omega), h.nv, h.lv, h.le, h.lb⟩
theorem MkW.cls {bs : Nat} {sh : Bool} (h : MkW I ba bc da dc ra rn rc wE C f c vi iss w0 W) (hs : ∃ b, W.heap[bs]? = some (.cells #[.bool b] 4 (0, 0))) (hbs : w0.heap.size ≤ bs) (hj : ClsJ wE.heap.size C.bv C.gv bs C.bp C.bl f C.gs c' C.vc C.vr vi sh (fun j => j = bs ∨ j ∈ C.gs) W W') : MkW I ba bc da dc ra rn rc wE C f c' vi iss w0 W' := by
 obtain ⟨b0, hs⟩ := hs
 have hle := h.le
 have hrow : ∀ g ∈ C.gs, ∃ cs, W.heap[g]? = some (.cells cs 5 (0, 0)) := fun g hg => by
  obtain ⟨b, hb, he⟩ := List.mem_iff_getElem.1 hg
  exact ⟨_, h.cl.row b g (by rw [List.getElem?_eq_getElem hb, he])⟩
 have hn : ∀ k cs T fr, W.heap[k]? = some (.cells cs T fr) → (k = bs ∨ k ∈ C.gs) → T = 4 ∨ T = 5 := fun k cs T fr hk e => by
  rcases e with rfl | e
  ·rw [hs] at hk
   injection hk with hk
   injection hk with _ hk
   exact .inl hk.symm
  ·obtain ⟨cs', hc'⟩ := hrow k e
   rw [hc'] at hk
   injection hk with hk
   injection hk with _ hk
   exact .inr hk.symm
 have hmap : ¬ (C.gi = bs ∨ C.gi ∈ C.gs) := fun e => by
  rcases e with e | e
  ·have h1 := h.fr.gi; rw [e, hs] at h1; cases h1
  ·obtain ⟨cs', hc'⟩ := hrow _ e
   have h1 := h.fr.gi; rw [hc'] at h1; cases h1
 exact ⟨h.fr.turn hj.tr (fun k e => by rcases e with rfl | e; exact Nat.le_trans hle hbs; exact h.cl.lb k e) hmap (fun k cs T fr hk e => (hn _ _ _ _ hk e).imp id .inl), hj.cv, hj.hl, hj.cl, zi h.is_ hj.tr (fun k hk e => by obtain ⟨-, cs, hcc⟩ := zz h.is_ k hk; exact absurd (hn _ _ _ _ hcc e) (by decide)), h.tr.trans hj.tr (fun k hk e => e.elim (fun e => by omega) .inr), h.nv, h.lv, h.le, h.lb⟩
theorem MkW.issue (h : MkW I ba bc da dc ra rn rc wE C f c vi iss w0 W) {x : zM} (ho : W'.ownsRow w0.heap.size 58 3 vi' (iss.length + 1) (yf iss ++ issL x)) (hg : W.grownBy W' vi.ownBlock) : MkW I ba bc da dc ra rn rc wE C f c vi' (iss ++ [x]) w0 (W'.setCell ⟨C.bl, 2, none⟩ vi') ∧ W'.heap[C.bl]? = some (.cells #[C.vc, C.vr, vi] 38 (0, 0)) := by
 have hle := h.le
 have t1 : zg (fun k => vi.ownBlock = some k) W W' := (zg.refl _ W).grown hg (fun k e _ => e)
 have hx1 : ∀ {b : Nat} {o : Obj}, W.heap[b]? = some o → (∀ cs fr, o ≠ .cells cs 58 fr) → W'.heap[b]? = some o := fun hb hn => t1.heap hb (xY h.is_ hb hn)
 have hbl1 := hx1 h.hl (fun _ _ => zm (by decide))
 have t2 : zg (fun k => k = C.bl) W' (W'.setCell ⟨C.bl, 2, none⟩ vi') := (zg.refl _ W').setCell _ (fun _ => rfl)
 have f1 : MkF I ba bc da dc ra rn rc wE C W' := h.fr.turn t1 (fun k e => Nat.le_trans hle (h.is_.lt k e).1) (fun e => xY h.is_ h.fr.gi (fun _ _ => zY) e) (fun k cs T fr hk e => by
  obtain ⟨-, cs', hc'⟩ := zz h.is_ k e
  rw [hc'] at hk
  injection hk with hk
  injection hk with _ hk
  exact .inr (.inr (.inr hk.symm)))
 have hbn : ∀ {b : Nat} {o : Obj}, W'.heap[b]? = some o → (∀ cs fr, o ≠ .cells cs 38 fr) → ¬ b = C.bl := fun hb hn e => by
  rw [e, hbl1] at hb
  injection hb with hb
  exact hn _ _ hb.symm
 have f2 : MkF I ba bc da dc ra rn rc wE C (W'.setCell ⟨C.bl, 2, none⟩ vi') := f1.turn t2 (fun k e => by rw [e]; exact h.lb) (hbn f1.gi (fun _ _ => zY)) (fun k cs T fr hk e => by
  rw [e, hbl1] at hk
  injection hk with hk
  injection hk with _ hk
  exact .inr (.inr (.inl hk.symm)))
 have hcv := h.cv
 have hcv1 : CovW C.bv C.gv f W' := by
  obtain ⟨hb, L, hL, hM⟩ := hcv
  exact ⟨hx1 hb (fun _ _ => zm (by decide)), L, hx1 hL (fun _ _ e => by cases e), hM⟩
 have hcv2 : CovW C.bv C.gv f (W'.setCell ⟨C.bl, 2, none⟩ vi') := by
  obtain ⟨hb, L, hL, hM⟩ := hcv1
  exact ⟨t2.heap hb (hbn hb (fun _ _ => zm (by decide))), L, t2.heap hL (hbn hL (fun _ _ e => by cases e)), hM⟩
 have hcl1 : xM wE.heap.size C.gs c C.vc W' := h.cl.turn t1 (fun k cs T fr hk hT e => by
  obtain ⟨-, cs', hc'⟩ := zz h.is_ k e
  rw [hc'] at hk
  injection hk with hk
  injection hk with _ hk
  rcases hT with hT | hT <;> rw [← hk] at hT <;> exact absurd hT (by decide))
 refine ⟨⟨f2, hcv2, ?_, hcl1.turn t2 (fun k cs T fr hk hT e => ?_), ?_, (h.tr.trans t1 (fun k hk e => by have := (h.is_.lt k e).1; omega)).trans t2 (fun k hk e => .inl e), h.nv, h.lv, h.le, h.lb⟩, hbl1⟩
 ·rw [heap_setCell_same hbl1 (i := 2) vi']; rfl
 ·rw [e, hbl1] at hk
  injection hk with hk
  injection hk with _ hk
  rcases hT with hT | hT <;> rw [← hk] at hT <;> exact absurd hT (by decide)
 ·have : yf (iss ++ [x]) = yf iss ++ issL x := by simp [yf]
  rw [this, List.length_append]
  exact zi ho t2 (ye ho hbl1 (fun _ _ => zm (by decide)))
theorem MkW.tab (h : MkW I ba bc da dc ra rn rc wE C f c vi iss w0 W) {b g o : Nat} (hg : C.gs[b]? = some g) (x : Int) : MkW I ba bc da dc ra rn rc wE C f (fun b' o' => if b' = b ∧ o' = o then x else c b' o') vi iss w0 (W.setCell ⟨g, o, none⟩ (.int .u8 x)) := by
 have hgm := List.mem_of_getElem? hg
 have hrow := h.cl.row b g hg
 have t : zg (fun k => k = g) W (W.setCell ⟨g, o, none⟩ (.int .u8 x)) := (zg.refl _ W).setCell _ (fun _ => rfl)
 have hn : ∀ {k : Nat} {ob : Obj}, W.heap[k]? = some ob → (∀ cs fr, ob ≠ .cells cs 5 fr) → ¬ k = g := fun hk hno e => by
  rw [e, hrow] at hk
  injection hk with hk
  exact hno _ _ hk.symm
 obtain ⟨hb, L, hL, hM⟩ := h.cv
 exact ⟨h.fr.turn t (fun k e => by rw [e]; exact h.cl.lb g hgm) (hn h.fr.gi (fun _ _ => zY)) (fun k cs T fr hk e => by
  rw [e, hrow] at hk
  injection hk with hk
  injection hk with _ hk
  exact .inr (.inl hk.symm)), ⟨t.heap hb (hn hb (fun _ _ => zm (by decide))), L, t.heap hL (hn hL (fun _ _ e => by cases e)), hM⟩, t.heap h.hl (hn h.hl (fun _ _ => zm (by decide))), h.cl.put x hg, zi h.is_ t (ye h.is_ hrow (fun _ _ => zm (by decide))), h.tr.trans t (fun k hk e => .inr (by rw [e]; exact hgm)), h.nv, h.lv, h.le, h.lb⟩
end
end Go.Proofs.YteofmaiojepdkaaGreat
