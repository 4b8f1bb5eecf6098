/- package scan: what a routine's closure works on, in memory. No condition. -/
import Derived.Test.YteofmaiojepdkaaGreatSaSkJ
set_option linter.all false
namespace Go.Proofs.YteofmaiojepdkaaGreat
open Go Go.RowKit Go.Maps Go.Sort
def itmL (I : zj) (p : zc) : List Value := [.int .i64 p.bank, .int .u16 p.addr, .int .i64 (atI I p).1.op, .int .i64 (atI I p).1.d, .int .i64 (atI I p).1.s, .int .u16 (atI I p).1.imm, .int .u16 (atI I p).1.aux, .int .i64 (atI I p).1.bank, .int .i64 (atI I p).1.size]
def itmsL (I : zj) (l : List zc) : List Value := l.flatMap (itmL I)
def issL (x : zP) : List Value := [.int .i64 x.kind, .int .i64 x.at_.bank, .int .u16 x.at_.addr]
def yK (l : List zP) : List Value := l.flatMap issL
def yG (l : List zc) : List (zc × Value) := l.map fun p => (p, .bool true)
theorem trueL_keys (l : List zc) : (yG l).map (·.1) = l := by unfold yG; rw [List.map_map]; exact List.map_id _
theorem trueL_put {l : List zc} {p : zc} (h : p ∉ l) : yu p (.bool true) (yG l) = yG (l ++ [p]) := by
  rw [putL_new (by rw [trueL_keys]; exact h)]
  simp [yG]
theorem trueL_same : ∀ {l : List zc} {p : zc}, p ∈ l → yu p (.bool true) (yG l) = yG l
  | x :: l, p, h => by
    unfold yG
    rw [List.map_cons]
    by_cases e : p = x
    · subst e; simp [yu]
    · have h2 : p ∈ l := by simpa [e] using h
      have := trueL_same h2
      unfold yG at this
      simp [yu, e, this]
structure VsA where
  gs : Nat
  gk : Nat
  bd : Nat
  bs : Nat
  br : Nat
  bq : Nat
  bc : Nat
  gd : Nat
  gc : Nat
structure VsW (I : zj) (e : zc) (A : VsA) (w0 : World) (D cd Q C : List zc) (iss : List zP) (vcd vis vq : Value) (W : World) : Prop where
  kn : KnW I A.gk W
  tr : y6 (fun k => k = A.gk) w0 W
  hbd : W.heap[A.bd]? = some (.cells #[.map (some A.gd)] 141 (0, 0))
  hd : W.heap[A.gd]? = some (zL xa (yG D))
  nd : D.Nodup
  hbs : W.heap[A.bs]? = some (.cells #[.pointer (some ⟨A.gs, 0, none⟩)] 93 (0, 0))
  hbr : W.heap[A.br]? = some (.cells #[.int .i64 e.bank, .int .u16 e.addr, .bool false, .int .i64 0, .int .u16 0, vcd, .slice none 0 0, vis] 50 (0, 0))
  hbq : W.heap[A.bq]? = some (.cells #[vq] 40 (0, 0))
  hbc : W.heap[A.bc]? = some (.cells #[.map (some A.gc)] 141 (0, 0))
  hc : W.heap[A.gc]? = some (zL xa (yG C))
  nc : C.Nodup
  oc : W.ownsRow w0.heap.size 55 9 vcd cd.length (itmsL I cd)
  oi : W.ownsRow w0.heap.size 58 3 vis iss.length (yK iss)
  oq : y4 W w0.heap.size 47 2 vq Q.length (zt Q)
  lbd : w0.heap.size ≤ A.bd
  lbs : A.bs ≠ A.gk
  lbr : w0.heap.size ≤ A.br
  lbq : w0.heap.size ≤ A.bq
  lbc : w0.heap.size ≤ A.bc
  lgd : w0.heap.size ≤ A.gd
  lgc : w0.heap.size ≤ A.gc
  ngg : A.gd ≠ A.gc
  nbb : A.bd ≠ A.bc
  lgk : A.gk < w0.heap.size
section
variable {I : zj} {e : zc} {A : VsA} {w0 W W' : World} {D cd Q C : List zc} {iss : List zP} {vcd vis vq : Value}
theorem VsW.below (h : VsW I e A w0 D cd Q C iss vcd vis vq W) (hb : Below W.heap.size W W') : VsW I e A w0 D cd Q C iss vcd vis vq W' := by
  have t : y6 (fun _ => False) W W' := y6.ofBelow hb
  obtain ⟨L, hL, hM⟩ := h.kn
  exact ⟨⟨L, zb hb hL, hM⟩, h.tr.trans t (fun _ _ e => e.elim), zb hb h.hbd, zb hb h.hd, h.nd, zb hb h.hbs, zb hb h.hbr, zb hb h.hbq, zb hb h.hbc, zb hb h.hc, h.nc,
    y7 h.oc t (fun _ _ e => e), y7 h.oi t (fun _ _ e => e), h.oq.turn t (fun _ _ e => e), h.lbd, h.lbs, h.lbr, h.lbq, h.lbc, h.lgd, h.lgc, h.ngg, h.nbb, h.lgk⟩
theorem xc {w : World} {B s n c : Nat} {T : TypeId} {v : Value} {xs : List Value} {o : Obj} (h : w.ownsRow B T s v n xs) (hc : w.heap[c]? = some o) (ho : ∀ cs fr, o ≠ .cells cs T fr) : ∀ k, v.ownBlock = some k → ¬ k = c := fun k hk e => by
  obtain ⟨-, cs, h2⟩ := y8 h k hk
  rw [e, hc] at h2
  injection h2 with h2
  exact ho _ _ h2
theorem ownQ_ne {w : World} {B s n c : Nat} {T : TypeId} {v : Value} {xs : List Value} {o : Obj} (h : y4 w B T s v n xs) (hc : w.heap[c]? = some o) (ho : ∀ cs fr, o ≠ .cells cs T fr) : ∀ k, v.ownBlock = some k → ¬ k = c := fun k hk e => by
  obtain ⟨-, g, off, cap, cur, rfl, -, h2, -⟩ := h
  simp only [Value.ownBlock, Option.some.injEq] at hk
  subst hk
  rw [e, hc] at h2
  injection h2 with h2
  exact ho _ _ h2
/-- 'at' has learnt more. -/
theorem VsW.learn (h : VsW I e A w0 D cd Q C iss vcd vis vq W) (t : y6 (fun k => k = A.gk) W W') (hk : KnW I A.gk W') : VsW I e A w0 D cd Q C iss vcd vis vq W' := by
  have hl := h.lgk
  refine ⟨hk, h.tr.trans t (fun _ _ e => e), t.heap h.hbd (by have := h.lbd; omega), t.heap h.hd (by have := h.lgd; omega), h.nd, t.heap h.hbs h.lbs, t.heap h.hbr (by have := h.lbr; omega), t.heap h.hbq (by have := h.lbq; omega), t.heap h.hbc (by have := h.lbc; omega), t.heap h.hc (by have := h.lgc; omega), h.nc,
    y7 h.oc t (fun k hk e => by have := h.oc.lt k hk; omega), y7 h.oi t (fun k hk e => by have := h.oi.lt k hk; omega), h.oq.turn t (fun k hk e => by have := h.oq.lt k hk; omega), h.lbd, h.lbs, h.lbr, h.lbq, h.lbc, h.lgd, h.lgc, h.ngg, h.nbb, h.lgk⟩
theorem kn_keep {c : Nat} (h : KnW I A.gk W) (t : y6 (fun k => k = c) W W') (hne : A.gk ≠ c) : KnW I A.gk W' := by
  obtain ⟨L, hL, hM⟩ := h
  exact ⟨L, t.heap hL hne, hM⟩
/-- A place more is done. -/
theorem VsW.done (h : VsW I e A w0 D cd Q C iss vcd vis vq W) {p : zc} (hp : p ∉ D) (hm : W'.heap[A.gd]? = some (zL xa (yu p (.bool true) (yG D)))) (hg : W.grownBy W' (some A.gd)) : VsW I e A w0 (D ++ [p]) cd Q C iss vcd vis vq W' := by
  have t : y6 (fun k => k = A.gd) W W' := (y6.refl _ W).grown hg (fun k e _ => by injection e with e; exact e.symm)
  have hl := h.lgd
  have hk := h.lgk
  rw [trueL_put hp] at hm
  have hx : ∀ {b : Nat} {cs : Array Value} {T : TypeId} {fr : Nat × Nat}, W.heap[b]? = some (.cells cs T fr) → W'.heap[b]? = some (.cells cs T fr) := fun hb => t.heap hb (fun e => by rw [e, h.hd] at hb; cases hb)
  have ho : ∀ (cs : Array Value) (T : TypeId) (fr : Nat × Nat), zL xa (yG D) ≠ .cells cs T fr := fun _ _ _ e => by cases e
  exact ⟨kn_keep h.kn t (by omega), h.tr.trans t (fun x hx e => by omega), hx h.hbd, hm, List.nodup_append.2 ⟨h.nd, by simp, fun a ha b hb e => hp (by rw [List.mem_singleton.1 hb] at e; rw [← e]; exact ha)⟩, hx h.hbs, hx h.hbr, hx h.hbq, hx h.hbc, t.heap h.hc (fun e => h.ngg e.symm), h.nc,
    y7 h.oc t (xc h.oc h.hd (fun cs fr => ho cs _ fr)), y7 h.oi t (xc h.oi h.hd (fun cs fr => ho cs _ fr)), h.oq.turn t (ownQ_ne h.oq h.hd (fun cs fr => ho cs _ fr)), h.lbd, h.lbs, h.lbr, h.lbq, h.lbc, h.lgd, h.lgc, h.ngg, h.nbb, h.lgk⟩
/-- A place more is called. -/
theorem VsW.called (h : VsW I e A w0 D cd Q C iss vcd vis vq W) {p : zc} (hm : W'.heap[A.gc]? = some (zL xa (yu p (.bool true) (yG C)))) (hg : W.grownBy W' (some A.gc)) : VsW I e A w0 D cd Q (if p ∈ C then C else C ++ [p]) iss vcd vis vq W' := by
  have t : y6 (fun k => k = A.gc) W W' := (y6.refl _ W).grown hg (fun k e _ => by injection e with e; exact e.symm)
  have hl := h.lgc
  have hk := h.lgk
  have hx : ∀ {b : Nat} {cs : Array Value} {T : TypeId} {fr : Nat × Nat}, W.heap[b]? = some (.cells cs T fr) → W'.heap[b]? = some (.cells cs T fr) := fun hb => t.heap hb (fun e => by rw [e, h.hc] at hb; cases hb)
  have ho : ∀ (cs : Array Value) (T : TypeId) (fr : Nat × Nat), zL xa (yG C) ≠ .cells cs T fr := fun _ _ _ e => by cases e
  have hC : yu p (.bool true) (yG C) = yG (if p ∈ C then C else C ++ [p]) := by
    by_cases hp : p ∈ C
    · rw [if_pos hp, trueL_same hp]
    · rw [if_neg hp, trueL_put hp]
  rw [hC] at hm
  have hnd : (if p ∈ C then C else C ++ [p]).Nodup := by
    by_cases hp : p ∈ C
    · rw [if_pos hp]; exact h.nc
    · rw [if_neg hp]; exact List.nodup_append.2 ⟨h.nc, by simp, fun a ha b hb e => hp (by rw [List.mem_singleton.1 hb] at e; rw [← e]; exact ha)⟩
  exact ⟨kn_keep h.kn t (by omega), h.tr.trans t (fun x hx e => by omega), hx h.hbd, t.heap h.hd h.ngg, h.nd, hx h.hbs, hx h.hbr, hx h.hbq, hx h.hbc, hm, hnd,
    y7 h.oc t (xc h.oc h.hc (fun cs fr => ho cs _ fr)), y7 h.oi t (xc h.oi h.hc (fun cs fr => ho cs _ fr)), h.oq.turn t (ownQ_ne h.oq h.hc (fun cs fr => ho cs _ fr)), h.lbd, h.lbs, h.lbr, h.lbq, h.lbc, h.lgd, h.lgc, h.ngg, h.nbb, h.lgk⟩
theorem yX {w : World} {B s n b : Nat} {T : TypeId} {v : Value} {xs : List Value} {o : Obj} (h : w.ownsRow B T s v n xs) (hb : w.heap[b]? = some o) (ho : ∀ cs fr, o ≠ .cells cs T fr) : ¬ v.ownBlock = some b := fun e => xc h hb ho b e rfl
theorem rowQ_ne {w : World} {B s n b : Nat} {T : TypeId} {v : Value} {xs : List Value} {o : Obj} (h : y4 w B T s v n xs) (hb : w.heap[b]? = some o) (ho : ∀ cs fr, o ≠ .cells cs T fr) : ¬ v.ownBlock = some b := fun e => ownQ_ne h hb ho b e rfl
theorem zg {cs cs' : Array Value} {T T' : TypeId} {fr fr' : Nat × Nat} (h : T ≠ T') : Obj.cells cs T fr ≠ .cells cs' T' fr' := fun e => h (by injection e)
theorem zz {enc : zc → Value} {l : List (zc × Value)} {cs' : Array Value} {T' : TypeId} {fr' : Nat × Nat} : zL enc l ≠ .cells cs' T' fr' := fun e => by cases e
/-- An item more. -/
theorem VsW.code (h : VsW I e A w0 D cd Q C iss vcd vis vq W) {w1 : World} {v' : Value} {p : zc} (ho : w1.ownsRow w0.heap.size 55 9 v' (cd.length + 1) (itmsL I cd ++ itmL I p)) (hg : W.grownBy w1 vcd.ownBlock) :
    VsW I e A w0 D (cd ++ [p]) Q C iss v' vis vq (w1.setCell ⟨A.br, 5, none⟩ v') ∧ w1.heap[A.br]? = some (.cells #[.int .i64 e.bank, .int .u16 e.addr, .bool false, .int .i64 0, .int .u16 0, vcd, .slice none 0 0, vis] 50 (0, 0)) := by
  have t1 : y6 (fun k => vcd.ownBlock = some k) W w1 := (y6.refl _ W).grown hg (fun k e _ => e)
  have hx1 : ∀ {b : Nat} {o : Obj}, W.heap[b]? = some o → (∀ cs fr, o ≠ .cells cs 55 fr) → w1.heap[b]? = some o := fun hb hn => t1.heap hb (yX h.oc hb hn)
  have hbr1 := hx1 h.hbr (fun _ _ => zg (by decide))
  have t2 : y6 (fun k => k = A.br) w1 (w1.setCell ⟨A.br, 5, none⟩ v') := (y6.refl _ w1).setCell _ (fun _ => rfl)
  have hx2 : ∀ {b : Nat} {o : Obj}, W.heap[b]? = some o → (∀ cs fr, o ≠ .cells cs 55 fr) → (∀ cs fr, o ≠ .cells cs 50 fr) → (w1.setCell ⟨A.br, 5, none⟩ v').heap[b]? = some o := fun hb hn hn2 => t2.heap (hx1 hb hn) (fun e => by
    rw [e, h.hbr] at hb
    injection hb with hb
    exact hn2 _ _ hb.symm)
  obtain ⟨L, hL, hM⟩ := h.kn
  have hB := h.lbr
  refine ⟨⟨⟨L, hx2 hL (fun _ _ => zz) (fun _ _ => zz), hM⟩, (h.tr.trans t1 (fun k hk e => by have := (h.oc.lt k e).1; omega)).trans t2 (fun k hk e => by omega), hx2 h.hbd (fun _ _ => zg (by decide)) (fun _ _ => zg (by decide)), hx2 h.hd (fun _ _ => zz) (fun _ _ => zz), h.nd, hx2 h.hbs (fun _ _ => zg (by decide)) (fun _ _ => zg (by decide)), ?_, hx2 h.hbq (fun _ _ => zg (by decide)) (fun _ _ => zg (by decide)), hx2 h.hbc (fun _ _ => zg (by decide)) (fun _ _ => zg (by decide)), hx2 h.hc (fun _ _ => zz) (fun _ _ => zz), h.nc, ?_, ?_, ?_, h.lbd, h.lbs, h.lbr, h.lbq, h.lbc, h.lgd, h.lgc, h.ngg, h.nbb, h.lgk⟩, hbr1⟩
  · rw [heap_setCell_same hbr1 (i := 5) v']; rfl
  · have : itmsL I (cd ++ [p]) = itmsL I cd ++ itmL I p := by simp [itmsL]
    rw [this, List.length_append]
    exact y7 ho t2 (xc ho hbr1 (fun _ _ => zg (by decide)))
  · have h1 := y7 h.oi t1 (fun k hk e => by
      obtain ⟨-, cs, hc⟩ := y8 h.oi k hk
      exact yX h.oc hc (fun _ _ => zg (by decide)) e)
    exact y7 h1 t2 (xc h1 hbr1 (fun _ _ => zg (by decide)))
  · have h1 := h.oq.turn t1 (fun k hk e => by
      obtain ⟨-, cs, hc⟩ := y8 h.oc k e
      exact rowQ_ne h.oq hc (fun _ _ => zg (by decide)) hk)
    exact h1.turn t2 (ownQ_ne h1 hbr1 (fun _ _ => zg (by decide)))
/-- An issue more. -/
theorem VsW.issue (h : VsW I e A w0 D cd Q C iss vcd vis vq W) {w1 : World} {v' : Value} {x : zP} (ho : w1.ownsRow w0.heap.size 58 3 v' (iss.length + 1) (yK iss ++ issL x)) (hg : W.grownBy w1 vis.ownBlock) :
    VsW I e A w0 D cd Q C (iss ++ [x]) vcd v' vq (w1.setCell ⟨A.br, 7, none⟩ v') ∧ w1.heap[A.br]? = some (.cells #[.int .i64 e.bank, .int .u16 e.addr, .bool false, .int .i64 0, .int .u16 0, vcd, .slice none 0 0, vis] 50 (0, 0)) := by
  have t1 : y6 (fun k => vis.ownBlock = some k) W w1 := (y6.refl _ W).grown hg (fun k e _ => e)
  have hx1 : ∀ {b : Nat} {o : Obj}, W.heap[b]? = some o → (∀ cs fr, o ≠ .cells cs 58 fr) → w1.heap[b]? = some o := fun hb hn => t1.heap hb (yX h.oi hb hn)
  have hbr1 := hx1 h.hbr (fun _ _ => zg (by decide))
  have t2 : y6 (fun k => k = A.br) w1 (w1.setCell ⟨A.br, 7, none⟩ v') := (y6.refl _ w1).setCell _ (fun _ => rfl)
  have hx2 : ∀ {b : Nat} {o : Obj}, W.heap[b]? = some o → (∀ cs fr, o ≠ .cells cs 58 fr) → (∀ cs fr, o ≠ .cells cs 50 fr) → (w1.setCell ⟨A.br, 7, none⟩ v').heap[b]? = some o := fun hb hn hn2 => t2.heap (hx1 hb hn) (fun e => by
    rw [e, h.hbr] at hb
    injection hb with hb
    exact hn2 _ _ hb.symm)
  obtain ⟨L, hL, hM⟩ := h.kn
  have hB := h.lbr
  refine ⟨⟨⟨L, hx2 hL (fun _ _ => zz) (fun _ _ => zz), hM⟩, (h.tr.trans t1 (fun k hk e => by have := (h.oi.lt k e).1; omega)).trans t2 (fun k hk e => by omega), hx2 h.hbd (fun _ _ => zg (by decide)) (fun _ _ => zg (by decide)), hx2 h.hd (fun _ _ => zz) (fun _ _ => zz), h.nd, hx2 h.hbs (fun _ _ => zg (by decide)) (fun _ _ => zg (by decide)), ?_, hx2 h.hbq (fun _ _ => zg (by decide)) (fun _ _ => zg (by decide)), hx2 h.hbc (fun _ _ => zg (by decide)) (fun _ _ => zg (by decide)), hx2 h.hc (fun _ _ => zz) (fun _ _ => zz), h.nc, ?_, ?_, ?_, h.lbd, h.lbs, h.lbr, h.lbq, h.lbc, h.lgd, h.lgc, h.ngg, h.nbb, h.lgk⟩, hbr1⟩
  · rw [heap_setCell_same hbr1 (i := 7) v']; rfl
  · have h1 := y7 h.oc t1 (fun k hk e => by
      obtain ⟨-, cs, hc⟩ := y8 h.oc k hk
      exact yX h.oi hc (fun _ _ => zg (by decide)) e)
    exact y7 h1 t2 (xc h1 hbr1 (fun _ _ => zg (by decide)))
  · have : yK (iss ++ [x]) = yK iss ++ issL x := by simp [yK]
    rw [this, List.length_append]
    exact y7 ho t2 (xc ho hbr1 (fun _ _ => zg (by decide)))
  · have h1 := h.oq.turn t1 (fun k hk e => by
      obtain ⟨-, cs, hc⟩ := y8 h.oi k e
      exact rowQ_ne h.oq hc (fun _ _ => zg (by decide)) hk)
    exact h1.turn t2 (ownQ_ne h1 hbr1 (fun _ _ => zg (by decide)))
/-- The queue is another one. -/
theorem VsW.queue (h : VsW I e A w0 D cd Q C iss vcd vis vq W) {w1 : World} {v' : Value} {Q' : List zc} (ho : y4 w1 w0.heap.size 47 2 v' Q'.length (zt Q')) (hg : W.grownBy w1 vq.ownBlock) :
    VsW I e A w0 D cd Q' C iss vcd vis v' (w1.setCell ⟨A.bq, 0, none⟩ v') ∧ w1.heap[A.bq]? = some (.cells #[vq] 40 (0, 0)) := by
  have t1 : y6 (fun k => vq.ownBlock = some k) W w1 := (y6.refl _ W).grown hg (fun k e _ => e)
  have hx1 : ∀ {b : Nat} {o : Obj}, W.heap[b]? = some o → (∀ cs fr, o ≠ .cells cs 47 fr) → w1.heap[b]? = some o := fun hb hn => t1.heap hb (rowQ_ne h.oq hb hn)
  have hbq1 := hx1 h.hbq (fun _ _ => zg (by decide))
  have t2 : y6 (fun k => k = A.bq) w1 (w1.setCell ⟨A.bq, 0, none⟩ v') := (y6.refl _ w1).setCell _ (fun _ => rfl)
  have hx2 : ∀ {b : Nat} {o : Obj}, W.heap[b]? = some o → (∀ cs fr, o ≠ .cells cs 47 fr) → (∀ cs fr, o ≠ .cells cs 40 fr) → (w1.setCell ⟨A.bq, 0, none⟩ v').heap[b]? = some o := fun hb hn hn2 => t2.heap (hx1 hb hn) (fun e => by
    rw [e, h.hbq] at hb
    injection hb with hb
    exact hn2 _ _ hb.symm)
  obtain ⟨L, hL, hM⟩ := h.kn
  have hB := h.lbq
  refine ⟨⟨⟨L, hx2 hL (fun _ _ => zz) (fun _ _ => zz), hM⟩, (h.tr.trans t1 (fun k hk e => by have := (h.oq.lt k e).1; omega)).trans t2 (fun k hk e => by omega), hx2 h.hbd (fun _ _ => zg (by decide)) (fun _ _ => zg (by decide)), hx2 h.hd (fun _ _ => zz) (fun _ _ => zz), h.nd, hx2 h.hbs (fun _ _ => zg (by decide)) (fun _ _ => zg (by decide)), hx2 h.hbr (fun _ _ => zg (by decide)) (fun _ _ => zg (by decide)), ?_, hx2 h.hbc (fun _ _ => zg (by decide)) (fun _ _ => zg (by decide)), hx2 h.hc (fun _ _ => zz) (fun _ _ => zz), h.nc, ?_, ?_, ?_, h.lbd, h.lbs, h.lbr, h.lbq, h.lbc, h.lgd, h.lgc, h.ngg, h.nbb, h.lgk⟩, hbq1⟩
  · rw [heap_setCell_same hbq1 (i := 0) v']; rfl
  · have h1 := y7 h.oc t1 (fun k hk e => by
      obtain ⟨-, cs, hc⟩ := y8 h.oc k hk
      exact rowQ_ne h.oq hc (fun _ _ => zg (by decide)) e)
    exact y7 h1 t2 (xc h1 hbq1 (fun _ _ => zg (by decide)))
  · have h1 := y7 h.oi t1 (fun k hk e => by
      obtain ⟨-, cs, hc⟩ := y8 h.oi k hk
      exact rowQ_ne h.oq hc (fun _ _ => zg (by decide)) e)
    exact y7 h1 t2 (xc h1 hbq1 (fun _ _ => zg (by decide)))
  · exact ho.turn t2 (ownQ_ne ho hbq1 (fun _ _ => zg (by decide)))
end
end Go.Proofs.YteofmaiojepdkaaGreat
