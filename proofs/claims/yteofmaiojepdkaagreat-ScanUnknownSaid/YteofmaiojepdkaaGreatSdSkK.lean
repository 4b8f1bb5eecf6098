/- package scan: what a routine's closure works on, in memory. No condition. -/
import Derived.Test.YteofmaiojepdkaaGreatSdSkI
set_option linter.all false
namespace Go.Proofs.YteofmaiojepdkaaGreat
open Go Go.RowKit Go.Maps Go.Sort
def itmL (I : zp) (p : zc) : List Value := [.int .i64 p.bank, .int .u16 p.addr, .int .i64 (atI I p).1.op, .int .i64 (atI I p).1.d, .int .i64 (atI I p).1.s, .int .u16 (atI I p).1.imm, .int .u16 (atI I p).1.aux, .int .i64 (atI I p).1.bank, .int .i64 (atI I p).1.size]
def itmsL (I : zp) (l : List zc) : List Value := l.flatMap (itmL I)
def issL (x : yi) : List Value := [.int .i64 x.kind, .int .i64 x.at_.bank, .int .u16 x.at_.addr]
def xl (l : List yi) : List Value := l.flatMap issL
def xJ (l : List zc) : List (zc × Value) := l.map fun p => (p, .bool true)
theorem trueL_keys (l : List zc) : (xJ l).map (·.1) = l := by unfold xJ; rw [List.map_map]; exact List.map_id _
theorem trueL_put {l : List zc} {p : zc} (h : p ∉ l) : xr p (.bool true) (xJ l) = xJ (l ++ [p]) := by
 rw [putL_new (by rw [trueL_keys]; exact h)]
 simp [xJ]
theorem trueL_same : ∀ {l : List zc} {p : zc}, p ∈ l → xr p (.bool true) (xJ l) = xJ l
 | x :: l, p, h => by
  unfold xJ
  rw [List.map_cons]
  by_cases e : p = x
  ·subst e; simp [xr]
  ·have h2 : p ∈ l := by simpa [e] using h
   have := trueL_same h2
   unfold xJ at this
   simp [xr, e, this]
structure VsA where
 gs : Nat
 gk : Nat
 bd : Nat
 bs : Nat
 br : Nat
 bq : Nat
 bc : Nat
 gd : Nat
 gc : Nat
structure VsW (I : zp) (e : zc) (A : VsA) (w0 : World) (D cd Q C : List zc) (iss : List yi) (vcd vis vq : Value) (W : World) : Prop where
 kn : KnW I A.gk W
 tr : zl (fun k => k = A.gk) w0 W
 hbd : W.heap[A.bd]? = some (.cells #[.map (some A.gd)] 141 (0, 0))
 hd : W.heap[A.gd]? = some (yb yy (xJ D))
 nd : D.Nodup
 hbs : W.heap[A.bs]? = some (.cells #[.pointer (some ⟨A.gs, 0, none⟩)] 93 (0, 0))
 hbr : W.heap[A.br]? = some (.cells #[.int .i64 e.bank, .int .u16 e.addr, .bool false, .int .i64 0, .int .u16 0, vcd, .slice none 0 0, vis] 50 (0, 0))
 hbq : W.heap[A.bq]? = some (.cells #[vq] 40 (0, 0))
 hbc : W.heap[A.bc]? = some (.cells #[.map (some A.gc)] 141 (0, 0))
 hc : W.heap[A.gc]? = some (yb yy (xJ C))
 nc : C.Nodup
 oc : W.ownsRow w0.heap.size 55 9 vcd cd.length (itmsL I cd)
 oi : W.ownsRow w0.heap.size 58 3 vis iss.length (xl iss)
 oq : jp W w0.heap.size 47 2 vq Q.length (zt Q)
 lbd : w0.heap.size ≤ A.bd
 lbs : A.bs ≠ A.gk
 lbr : w0.heap.size ≤ A.br
 lbq : w0.heap.size ≤ A.bq
 lbc : w0.heap.size ≤ A.bc
 lgd : w0.heap.size ≤ A.gd
 lgc : w0.heap.size ≤ A.gc
 ngg : A.gd ≠ A.gc
 nbb : A.bd ≠ A.bc
 lgk : A.gk < w0.heap.size
section
variable {I : zp} {e : zc} {A : VsA} {w0 W W' : World} {D cd Q C : List zc} {iss : List yi} {vcd vis vq : Value}
theorem VsW.below (h : VsW I e A w0 D cd Q C iss vcd vis vq W) (hb : Below W.heap.size W W') : VsW I e A w0 D cd Q C iss vcd vis vq W' := by
 have t : zl (fun _ => False) W W' := zl.ofBelow hb
 obtain ⟨L, hL, hM⟩ := h.kn
 exact ⟨⟨L, za hb hL, hM⟩, h.tr.trans t (fun _ _ e => e.elim), za hb h.hbd, za hb h.hd, h.nd, za hb h.hbs, za hb h.hbr, za hb h.hbq, za hb h.hbc, za hb h.hc, h.nc,
  zk h.oc t (fun _ _ e => e), zk h.oi t (fun _ _ e => e), h.oq.turn t (fun _ _ e => e), h.lbd, h.lbs, h.lbr, h.lbq, h.lbc, h.lgd, h.lgc, h.ngg, h.nbb, h.lgk⟩
theorem yp {w : World} {B s n c : Nat} {T : TypeId} {v : Value} {xs : List Value} {o : Obj} (h : w.ownsRow B T s v n xs) (hc : w.heap[c]? = some o) (ho : ∀ cs fr, o ≠ .cells cs T fr) : ∀ k, v.ownBlock = some k → ¬ k = c := fun k hk e => by
 obtain ⟨-, cs, h2⟩ := zH h k hk
 rw [e, hc] at h2
 injection h2 with h2
 exact ho _ _ h2
theorem ownQ_ne {w : World} {B s n c : Nat} {T : TypeId} {v : Value} {xs : List Value} {o : Obj} (h : jp w B T s v n xs) (hc : w.heap[c]? = some o) (ho : ∀ cs fr, o ≠ .cells cs T fr) : ∀ k, v.ownBlock = some k → ¬ k = c := fun k hk e => by
 obtain ⟨-, g, off, cap, cur, rfl, -, h2, -⟩ := h
 simp only [Value.ownBlock, Option.some.injEq] at hk
 subst hk
 rw [e, hc] at h2
 injection h2 with h2
 exact ho _ _ h2
theorem VsW.learn (h : VsW I e A w0 D cd Q C iss vcd vis vq W) (t : zl (fun k => k = A.gk) W W') (hk : KnW I A.gk W') : VsW I e A w0 D cd Q C iss vcd vis vq W' := by
 have hl := h.lgk
 refine ⟨hk, h.tr.trans t (fun _ _ e => e), t.heap h.hbd (by have := h.lbd; omega), t.heap h.hd (by have := h.lgd; omega), h.nd, t.heap h.hbs h.lbs, t.heap h.hbr (by have := h.lbr; omega), t.heap h.hbq (by have := h.lbq; omega), t.heap h.hbc (by have := h.lbc; omega), t.heap h.hc (by have := h.lgc; omega), h.nc,
  zk h.oc t (fun k hk e => by have := h.oc.lt k hk; omega), zk h.oi t (fun k hk e => by have := h.oi.lt k hk; omega), h.oq.turn t (fun k hk e => by have := h.oq.lt k hk; omega), h.lbd, h.lbs, h.lbr, h.lbq, h.lbc, h.lgd, h.lgc, h.ngg, h.nbb, h.lgk⟩
theorem kn_keep {c : Nat} (h : KnW I A.gk W) (t : zl (fun k => k = c) W W') (hne : A.gk ≠ c) : KnW I A.gk W' := by
 obtain ⟨L, hL, hM⟩ := h
 exact ⟨L, t.heap hL hne, hM⟩
theorem VsW.done (h : VsW I e A w0 D cd Q C iss vcd vis vq W) {p : zc} (hp : p ∉ D) (hm : W'.heap[A.gd]? = some (yb yy (xr p (.bool true) (xJ D)))) (hg : W.grownBy W' (some A.gd)) : VsW I e A w0 (D ++ [p]) cd Q C iss vcd vis vq W' := by
 have t : zl (fun k => k = A.gd) W W' := (zl.refl _ W).grown hg (fun k e _ => by injection e with e; exact e.symm)
 have hl := h.lgd
 have hk := h.lgk
 rw [trueL_put hp] at hm
 have hx : ∀ {b : Nat} {cs : Array Value} {T : TypeId} {fr : Nat × Nat}, W.heap[b]? = some (.cells cs T fr) → W'.heap[b]? = some (.cells cs T fr) := fun hb => t.heap hb (fun e => by rw [e, h.hd] at hb; cases hb)
 have ho : ∀ (cs : Array Value) (T : TypeId) (fr : Nat × Nat), yb yy (xJ D) ≠ .cells cs T fr := fun _ _ _ e => by cases e
 exact ⟨kn_keep h.kn t (by omega), h.tr.trans t (fun x hx e => by omega), hx h.hbd, hm, List.nodup_append.2 ⟨h.nd, by simp, fun a ha b hb e => hp (by rw [List.mem_singleton.1 hb] at e; rw [← e]; exact ha)⟩, hx h.hbs, hx h.hbr, hx h.hbq, hx h.hbc, t.heap h.hc (fun e => h.ngg e.symm), h.nc,
  zk h.oc t (yp h.oc h.hd (fun cs fr => ho cs _ fr)), zk h.oi t (yp h.oi h.hd (fun cs fr => ho cs _ fr)), h.oq.turn t (ownQ_ne h.oq h.hd (fun cs fr => ho cs _ fr)), h.lbd, h.lbs, h.lbr, h.lbq, h.lbc, h.lgd, h.lgc, h.ngg, h.nbb, h.lgk⟩
theorem VsW.called (h : VsW I e A w0 D cd Q C iss vcd vis vq W) {p : zc} (hm : W'.heap[A.gc]? = some (yb yy (xr p (.bool true) (xJ C)))) (hg : W.grownBy W' (some A.gc)) : VsW I e A w0 D cd Q (if p ∈ C then C else C ++ [p]) iss vcd vis vq W' := by
 have t : zl (fun k => k = A.gc) W W' := (zl.refl _ W).grown hg (fun k e _ => by injection e with e; exact e.symm)
 have hl := h.lgc
 have hk := h.lgk
 have hx : ∀ {b : Nat} {cs : Array Value} {T : TypeId} {fr : Nat × Nat}, W.heap[b]? = some (.cells cs T fr) → W'.heap[b]? = some (.cells cs T fr) := fun hb => t.heap hb (fun e => by rw [e, h.hc] at hb; cases hb)
 have ho : ∀ (cs : Array Value) (T : TypeId) (fr : Nat × Nat), yb yy (xJ C) ≠ .cells cs T fr := fun _ _ _ e => by cases e
 have hC : xr p (.bool true) (xJ C) = xJ (if p ∈ C then C else C ++ [p]) := by
  by_cases hp : p ∈ C
  ·rw [if_pos hp, trueL_same hp]
  ·rw [if_neg hp, trueL_put hp]
 rw [hC] at hm
 have hnd : (if p ∈ C then C else C ++ [p]).Nodup := by
  by_cases hp : p ∈ C
  ·rw [if_pos hp]; exact h.nc
  ·rw [if_neg hp]; exact List.nodup_append.2 ⟨h.nc, by simp, fun a ha b hb e => hp (by rw [List.mem_singleton.1 hb] at e; rw [← e]; exact ha)⟩
 exact ⟨kn_keep h.kn t (by omega), h.tr.trans t (fun x hx e => by omega), hx h.hbd, t.heap h.hd h.ngg, h.nd, hx h.hbs, hx h.hbr, hx h.hbq, hx h.hbc, hm, hnd,
  zk h.oc t (yp h.oc h.hc (fun cs fr => ho cs _ fr)), zk h.oi t (yp h.oi h.hc (fun cs fr => ho cs _ fr)), h.oq.turn t (ownQ_ne h.oq h.hc (fun cs fr => ho cs _ fr)), h.lbd, h.lbs, h.lbr, h.lbq, h.lbc, h.lgd, h.lgc, h.ngg, h.nbb, h.lgk⟩
theorem y2 {w : World} {B s n b : Nat} {T : TypeId} {v : Value} {xs : List Value} {o : Obj} (h : w.ownsRow B T s v n xs) (hb : w.heap[b]? = some o) (ho : ∀ cs fr, o ≠ .cells cs T fr) : ¬ v.ownBlock = some b := fun e => yp h hb ho b e rfl
theorem rowQ_ne {w : World} {B s n b : Nat} {T : TypeId} {v : Value} {xs : List Value} {o : Obj} (h : jp w B T s v n xs) (hb : w.heap[b]? = some o) (ho : ∀ cs fr, o ≠ .cells cs T fr) : ¬ v.ownBlock = some b := fun e => ownQ_ne h hb ho b e rfl
theorem zo {cs cs' : Array Value} {T T' : TypeId} {fr fr' : Nat × Nat} (h : T ≠ T') : Obj.cells cs T fr ≠ .cells cs' T' fr' := fun e => h (by injection e)
theorem zY {enc : zc → Value} {l : List (zc × Value)} {cs' : Array Value} {T' : TypeId} {fr' : Nat × Nat} : yb enc l ≠ .cells cs' T' fr' := fun e => by cases e
theorem VsW.code (h : VsW I e A w0 D cd Q C iss vcd vis vq W) {w1 : World} {v' : Value} {p : zc} (ho : w1.ownsRow w0.heap.size 55 9 v' (cd.length + 1) (itmsL I cd ++ itmL I p)) (hg : W.grownBy w1 vcd.ownBlock) :
  VsW I e A w0 D (cd ++ [p]) Q C iss v' vis vq (w1.setCell ⟨A.br, 5, none⟩ v') ∧ w1.heap[A.br]? = some (.cells #[.int .i64 e.bank, .int .u16 e.addr, .bool false, .int .i64 0, .int .u16 0, vcd, .slice none 0 0, vis] 50 (0, 0)) := by
 have t1 : zl (fun k => vcd.ownBlock = some k) W w1 := (zl.refl _ W).grown hg (fun k e _ => e)
 have hx1 : ∀ {b : Nat} {o : Obj}, W.heap[b]? = some o → (∀ cs fr, o ≠ .cells cs 55 fr) → w1.heap[b]? = some o := fun hb hn => t1.heap hb (y2 h.oc hb hn)
 have hbr1 := hx1 h.hbr (fun _ _ => zo (by decide))
 have t2 : zl (fun k => k = A.br) w1 (w1.setCell ⟨A.br, 5, none⟩ v') := (zl.refl _ w1).setCell _ (fun _ => rfl)
 have hx2 : ∀ {b : Nat} {o : Obj}, W.heap[b]? = some o → (∀ cs fr, o ≠ .cells cs 55 fr) → (∀ cs fr, o ≠ .cells cs 50 fr) → (w1.setCell ⟨A.br, 5, none⟩ v').heap[b]? = some o := fun hb hn hn2 => t2.heap (hx1 hb hn) (fun e => by
  rw [e, h.hbr] at hb
  injection hb with hb
  exact hn2 _ _ hb.symm)
 obtain ⟨L, hL, hM⟩ := h.kn
 have hB := h.lbr
 refine ⟨⟨⟨L, hx2 hL (fun _ _ => zY) (fun _ _ => zY), hM⟩, (h.tr.trans t1 (fun k hk e => by have := (h.oc.lt k e).1; omega)).trans t2 (fun k hk e => by omega), hx2 h.hbd (fun _ _ => zo (by decide)) (fun _ _ => zo (by decide)), hx2 h.hd (fun _ _ => zY) (fun _ _ => zY), h.nd, hx2 h.hbs (fun _ _ => zo (by decide)) (fun _ _ => zo (by decide)), ?_, hx2 h.hbq (fun _ _ => zo (by decide)) (fun _ _ => zo (by decide)), hx2 h.hbc (fun _ _ => zo (by decide)) (fun _ _ => zo (by decide)), hx2 h.hc (fun _ _ => zY) (fun _ _ => zY), h.nc, ?_, ?_, ?_, h.lbd, h.lbs, h.lbr, h.lbq, h.lbc, h.lgd, h.lgc, h.ngg, h.nbb, h.lgk⟩, hbr1⟩
 ·rw [heap_setCell_same hbr1 (i := 5) v']; rfl
 ·have : itmsL I (cd ++ [p]) = itmsL I cd ++ itmL I p := by simp [itmsL]
  rw [this, List.length_append]
  exact zk ho t2 (yp ho hbr1 (fun _ _ => zo (by decide)))
 ·have h1 := zk h.oi t1 (fun k hk e => by
   obtain ⟨-, cs, hc⟩ := zH h.oi k hk
   exact y2 h.oc hc (fun _ _ => zo (by decide)) e)
  exact zk h1 t2 (yp h1 hbr1 (fun _ _ => zo (by decide)))
 ·have h1 := h.oq.turn t1 (fun k hk e => by
   obtain ⟨-, cs, hc⟩ := zH h.oc k e
   exact rowQ_ne h.oq hc (fun _ _ => zo (by decide)) hk)
  exact h1.turn t2 (ownQ_ne h1 hbr1 (fun _ _ => zo (by decide)))
theorem VsW.issue (h : VsW I e A w0 D cd Q C iss vcd vis vq W) {w1 : World} {v' : Value} {x : yi} (ho : w1.ownsRow w0.heap.size 58 3 v' (iss.length + 1) (xl iss ++ issL x)) (hg : W.grownBy w1 vis.ownBlock) :
  VsW I e A w0 D cd Q C (iss ++ [x]) vcd v' vq (w1.setCell ⟨A.br, 7, none⟩ v') ∧ w1.heap[A.br]? = some (.cells #[.int .i64 e.bank, .int .u16 e.addr, .bool false, .int .i64 0, .int .u16 0, vcd, .slice none 0 0, vis] 50 (0, 0)) := by
 have t1 : zl (fun k => vis.ownBlock = some k) W w1 := (zl.refl _ W).grown hg (fun k e _ => e)
 have hx1 : ∀ {b : Nat} {o : Obj}, W.heap[b]? = some o → (∀ cs fr, o ≠ .cells cs 58 fr) → w1.heap[b]? = some o := fun hb hn => t1.heap hb (y2 h.oi hb hn)
 have hbr1 := hx1 h.hbr (fun _ _ => zo (by decide))
 have t2 : zl (fun k => k = A.br) w1 (w1.setCell ⟨A.br, 7, none⟩ v') := (zl.refl _ w1).setCell _ (fun _ => rfl)
 have hx2 : ∀ {b : Nat} {o : Obj}, W.heap[b]? = some o → (∀ cs fr, o ≠ .cells cs 58 fr) → (∀ cs fr, o ≠ .cells cs 50 fr) → (w1.setCell ⟨A.br, 7, none⟩ v').heap[b]? = some o := fun hb hn hn2 => t2.heap (hx1 hb hn) (fun e => by
  rw [e, h.hbr] at hb
  injection hb with hb
  exact hn2 _ _ hb.symm)
 obtain ⟨L, hL, hM⟩ := h.kn
 have hB := h.lbr
 refine ⟨⟨⟨L, hx2 hL (fun _ _ => zY) (fun _ _ => zY), hM⟩, (h.tr.trans t1 (fun k hk e => by have := (h.oi.lt k e).1; omega)).trans t2 (fun k hk e => by omega), hx2 h.hbd (fun _ _ => zo (by decide)) (fun _ _ => zo (by decide)), hx2 h.hd (fun _ _ => zY) (fun _ _ => zY), h.nd, hx2 h.hbs (fun _ _ => zo (by decide)) (fun _ _ => zo (by decide)), ?_, hx2 h.hbq (fun _ _ => zo (by decide)) (fun _ _ => zo (by decide)), hx2 h.hbc (fun _ _ => zo (by decide)) (fun _ _ => zo (by decide)), hx2 h.hc (fun _ _ => zY) (fun _ _ => zY), h.nc, ?_, ?_, ?_, h.lbd, h.lbs, h.lbr, h.lbq, h.lbc, h.lgd, h.lgc, h.ngg, h.nbb, h.lgk⟩, hbr1⟩
 ·rw [heap_setCell_same hbr1 (i := 7) v']; rfl
 ·have h1 := zk h.oc t1 (fun k hk e => by
   obtain ⟨-, cs, hc⟩ := zH h.oc k hk
   exact y2 h.oi hc (fun _ _ => zo (by decide)) e)
  exact zk h1 t2 (yp h1 hbr1 (fun _ _ => zo (by decide)))
 ·have : xl (iss ++ [x]) = xl iss ++ issL x := by simp [xl]
  rw [this, List.length_append]
  exact zk ho t2 (yp ho hbr1 (fun _ _ => zo (by decide)))
 ·have h1 := h.oq.turn t1 (fun k hk e => by
   obtain ⟨-, cs, hc⟩ := zH h.oi k e
   exact rowQ_ne h.oq hc (fun _ _ => zo (by decide)) hk)
  exact h1.turn t2 (ownQ_ne h1 hbr1 (fun _ _ => zo (by decide)))
theorem VsW.queue (h : VsW I e A w0 D cd Q C iss vcd vis vq W) {w1 : World} {v' : Value} {Q' : List zc} (ho : jp w1 w0.heap.size 47 2 v' Q'.length (zt Q')) (hg : W.grownBy w1 vq.ownBlock) :
  VsW I e A w0 D cd Q' C iss vcd vis v' (w1.setCell ⟨A.bq, 0, none⟩ v') ∧ w1.heap[A.bq]? = some (.cells #[vq] 40 (0, 0)) := by
 have t1 : zl (fun k => vq.ownBlock = some k) W w1 := (zl.refl _ W).grown hg (fun k e _ => e)
 have hx1 : ∀ {b : Nat} {o : Obj}, W.heap[b]? = some o → (∀ cs fr, o ≠ .cells cs 47 fr) → w1.heap[b]? = some o := fun hb hn => t1.heap hb (rowQ_ne h.oq hb hn)
 have hbq1 := hx1 h.hbq (fun _ _ => zo (by decide))
 have t2 : zl (fun k => k = A.bq) w1 (w1.setCell ⟨A.bq, 0, none⟩ v') := (zl.refl _ w1).setCell _ (fun _ => rfl)
 have hx2 : ∀ {b : Nat} {o : Obj}, W.heap[b]? = some o → (∀ cs fr, o ≠ .cells cs 47 fr) → (∀ cs fr, o ≠ .cells cs 40 fr) → (w1.setCell ⟨A.bq, 0, none⟩ v').heap[b]? = some o := fun hb hn hn2 => t2.heap (hx1 hb hn) (fun e => by
  rw [e, h.hbq] at hb
  injection hb with hb
  exact hn2 _ _ hb.symm)
 obtain ⟨L, hL, hM⟩ := h.kn
 have hB := h.lbq
 refine ⟨⟨⟨L, hx2 hL (fun _ _ => zY) (fun _ _ => zY), hM⟩, (h.tr.trans t1 (fun k hk e => by have := (h.oq.lt k e).1; omega)).trans t2 (fun k hk e => by omega), hx2 h.hbd (fun _ _ => zo (by decide)) (fun _ _ => zo (by decide)), hx2 h.hd (fun _ _ => zY) (fun _ _ => zY), h.nd, hx2 h.hbs (fun _ _ => zo (by decide)) (fun _ _ => zo (by decide)), hx2 h.hbr (fun _ _ => zo (by decide)) (fun _ _ => zo (by decide)), ?_, hx2 h.hbc (fun _ _ => zo (by decide)) (fun _ _ => zo (by decide)), hx2 h.hc (fun _ _ => zY) (fun _ _ => zY), h.nc, ?_, ?_, ?_, h.lbd, h.lbs, h.lbr, h.lbq, h.lbc, h.lgd, h.lgc, h.ngg, h.nbb, h.lgk⟩, hbq1⟩
 ·rw [heap_setCell_same hbq1 (i := 0) v']; rfl
 ·have h1 := zk h.oc t1 (fun k hk e => by
   obtain ⟨-, cs, hc⟩ := zH h.oc k hk
   exact rowQ_ne h.oq hc (fun _ _ => zo (by decide)) e)
  exact zk h1 t2 (yp h1 hbq1 (fun _ _ => zo (by decide)))
 ·have h1 := zk h.oi t1 (fun k hk e => by
   obtain ⟨-, cs, hc⟩ := zH h.oi k hk
   exact rowQ_ne h.oq hc (fun _ _ => zo (by decide)) e)
  exact zk h1 t2 (yp h1 hbq1 (fun _ _ => zo (by decide)))
 ·exact ho.turn t2 (ownQ_ne ho hbq1 (fun _ _ => zo (by decide)))
end
end Go.Proofs.YteofmaiojepdkaaGreat
