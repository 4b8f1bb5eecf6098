/- package scan: what compares (cmp.Compare, cmp.Or, compare), walked. No condition. -/
import Derived.Test.YteofmaiojepdkaaGreatTbSkG
import Derived.Sort.Grow
import Derived.Lib.Small
import Derived.Handy
set_option linter.all false
namespace Go.Proofs.YteofmaiojepdkaaGreat
open Go Go.RowKit Go.Maps
theorem RdS.turn {w w' : World} {bs : Nat → Prop} {s : Nat} {A : Option Addr} {n cap : Nat} {xs : List Value} (h : RdS w s A n cap xs) (t : zg bs w w') (hb : ∀ k cs T fr, w.heap[k]? = some (.cells cs T fr) → ¬ bs k) : RdS w' s A n cap xs :=
 ⟨h.le, h.len, fun h0 => by
  obtain ⟨g, off, cur, T, fr, e, h1, h2⟩ := h.at_ h0
  exact ⟨g, off, cur, T, fr, e, t.heap h1 (hb _ _ _ _ h1), h2⟩⟩
theorem yG.turn {w w' : World} {bs : Nat → Prop} {I : zk} {ba : Option Addr} {bc : Nat} {da : Option Addr} {dc : Nat} (h : yG w I ba bc da dc) (t : zg bs w w') (hb : ∀ k cs T fr, w.heap[k]? = some (.cells cs T fr) → ¬ bs k) : yG w' I ba bc da dc := ⟨h.bk.turn t hb, h.dt.turn t hb⟩
abbrev fndV (a : Ins × Int) : Value := .agg #[.int .i64 a.1.op, .int .i64 a.1.d, .int .i64 a.1.s, .int .u16 a.1.imm, .int .u16 a.1.aux, .int .i64 a.1.bank, .int .i64 a.1.size, .int .i64 a.2]
abbrev fndB (a : Ins × Int) : Obj := .cells #[.int .i64 a.1.op, .int .i64 a.1.d, .int .i64 a.1.s, .int .u16 a.1.imm, .int .u16 a.1.aux, .int .i64 a.1.bank, .int .i64 a.1.size, .int .i64 a.2] 176
structure KnM (I : zk) (L : List (zb × Value)) : Prop where
 nd : (L.map (·.1)).Nodup
 val : ∀ p v, yT p L = some v → v = fndV (atI I p)
def KnW (I : zk) (gk : Nat) (w : World) : Prop := ∃ L, w.heap[gk]? = some (yc yL L) ∧ KnM I L
theorem KnM.put {I : zk} {L : List (zb × Value)} (h : KnM I L) (p : zb) : KnM I (xG p (fndV (atI I p)) L) := ⟨nodup_put h.nd, fun q v hq => by
 by_cases e : q = p
 ·subst e
  rw [getL_put_same] at hq
  injection hq with hq
  exact hq.symm
 ·rw [getL_put_ne e] at hq
  exact h.val q v hq⟩
structure ScnW (I : zk) (ba : Option Addr) (bc : Nat) (da : Option Addr) (dc : Nat) (ra : Option Addr) (rn rc gs gk : Nat) (w : World) : Prop where
 blk : w.heap[gs]? = some (.cells #[.slice ba I.banks.length bc, .int .u16 I.entry, .int .u16 I.vector, .slice da I.data.length dc, .slice ra rn rc, .map (some gk)] 96 (0, 0))
 kn : KnW I gk w
 img : yG w I ba bc da dc
theorem ScnW.turn {I : zk} {ba : Option Addr} {bc : Nat} {da : Option Addr} {dc : Nat} {ra : Option Addr} {rn rc gs gk : Nat} {w w' : World} (h : ScnW I ba bc da dc ra rn rc gs gk w) (t : zg (fun k => k = gk) w w') (hk : KnW I gk w') : ScnW I ba bc da dc ra rn rc gs gk w' := by
 obtain ⟨L, hL, -⟩ := h.kn
 have hn : ∀ k cs T fr, w.heap[k]? = some (.cells cs T fr) → ¬ k = gk := fun k cs T fr h1 e => by rw [e, hL] at h1; cases h1
 exact ⟨t.heap h.blk (hn _ _ _ _ h.blk), hk, h.img.turn t hn⟩
theorem ScnW.below {I : zk} {ba : Option Addr} {bc : Nat} {da : Option Addr} {dc : Nat} {ra : Option Addr} {rn rc gs gk : Nat} {w w' : World} (h : ScnW I ba bc da dc ra rn rc gs gk w) (hb : Below w.heap.size w w') : ScnW I ba bc da dc ra rn rc gs gk w' := by
 obtain ⟨L, hL, hL2⟩ := h.kn
 exact ⟨za hb h.blk, ⟨L, za hb hL, hL2⟩, h.img.below hb⟩
abbrev fndB0 : Obj := .cells #[.int .i64 0, .int .i64 0, .int .i64 0, .int .u16 0, .int .u16 0, .int .i64 0, .int .i64 0, .int .i64 0] 176
def AtP (I : zk) (gk : Nat) (p : zb) (w : World) (e : Ending) (w' : World) : Prop := e = .returned (fndV (atI I p)) ∧ KnW I gk w' ∧ zg (fun k => k = gk) w w'
abbrev fnd0 : Value := .agg #[.int .i64 0, .int .i64 0, .int .i64 0, .int .u16 0, .int .u16 0, .int .i64 0, .int .i64 0, .int .i64 0]
theorem zero_found (w : World) : (zeroValue 176).run Tryz.prog w = .ok fnd0 w := by kernel_rfl
set_option maxRecDepth 100000 in
set_option maxHeartbeats 4000000 in
theorem at_known (I : zk) (ba : Option Addr) (bc : Nat) (da : Option Addr) (dc : Nat) (ra : Option Addr) (rn rc gs gk : Nat) (p : zb) (w : World) (h : ScnW I ba bc da dc ra rn rc gs gk w) (L : List (zb × Value)) (hL : w.heap[gk]? = some (yc yL L)) (hM : KnM I L) (hk : yT p L = some (fndV (atI I p))) :
  Calls Tryz.prog 93 #[.pointer (some ⟨gs, 0, none⟩), .agg #[.int .i64 p.bank, .int .u16 p.addr]] w (AtP I gk p w) := by
 have H := zh h
 have HL := zh hL
 have HK := zh hk
 have HA := zh (Bx.two w (zo p) fndB0)
 have HHM := zh hM
 clear h hL hk hM
 generalize ha : atI I p = a at *
 have HAA := zh ha
 clear ha
 go_enter Tryz.func93, Tryz.ntmps93
 go_wp2_with fail
 refine zr (S := fun W => (∀ o, W.cell? ⟨gs, o, none⟩ = (#[.slice ba I.banks.length bc, .int .u16 I.entry, .int .u16 I.vector, .slice da I.data.length dc, .slice ra rn rc, .map (some gk)] : Array Value)[o]?) ∧ (∀ o, W.cell? ⟨w.heap.size, o, none⟩ = (#[.int .i64 p.bank, .int .u16 p.addr] : Array Value)[o]?) ∧ W.heap[gk]? = some (yc yL L)) [11] (by kernel_rfl)
  ⟨fun o => cell_of_row _ _ _ _ _ _ (za HA.out.bb.drew H.out.blk), fun o => cell_of_row _ _ _ _ _ _ (HA.out.stay (Below.refl _ _).drew).b0, za HA.out.bb.drew HL.out⟩ (fun hHeld => ?_)
 obtain ⟨w0, hw0⟩ : ∃ w0, ((w.alloc (zo p)).alloc fndB0).drew = w0 := ⟨_, rfl⟩
 have HA := zh (HA.out.stay (hw0 ▸ (Below.refl _ _).drew : Below ((w.alloc (zo p)).alloc fndB0).heap.size ((w.alloc (zo p)).alloc fndB0) w0))
 rw [hw0] at hHeld ⊢
 clear hw0
 (refine tz 0 ?_)
 (refine tz 1 ?_)
 (refine tz 2 ?_)
 (refine tz 3 ?_)
 (refine tz 4 ?_)
 (refine tkZ 5 rfl (by assumption) (fun W hS => exec_lookupL xj Tryz.underlying94 hS.2.2 _ _ true rfl rfl p rfl (zero_found W)) ?_; (refine pts ?_))
 rw [HK.out]
 (refine tz 6 ?_)
 (refine tz 7 ?_)
 (refine tz 8 ?_)
 refine yx 9 rfl (fun K hK => ?_)
 go_simp
 have hs1 : Bx [fndB0] w0 (w0.alloc fndB0) := Bx.one w0 fndB0
 have HA1 := zh (HA.out.stay hs1.bb)
 refine hK.out _ _ (.inr ⟨fun o => cell_of_row _ _ _ _ _ _ (za HA1.out.bb H.out.blk), fun o => cell_of_row _ _ _ _ _ _ HA1.out.b0, za HA1.out.bb HL.out⟩) ?_
 (refine pts ?_)
 clear hK K
 refine yx 10 rfl (fun K hK => ?_)
 refine wp_store_row _ _ _ rfl w0.heap.size _ rfl rfl _ _ hs1.b0 ?_ ?_ ?_ ?_
 ·kernel_rfl
 ·rfl
 ·kernel_rfl
 obtain ⟨w2, hw2⟩ : ∃ w2, (w0.alloc fndB0).setRow w0.heap.size #[.int .i64 a.1.op, .int .i64 a.1.d, .int .i64 a.1.s, .int .u16 a.1.imm, .int .u16 a.1.aux, .int .i64 a.1.bank, .int .i64 a.1.size, .int .i64 a.2] = w2 := ⟨_, rfl⟩
 have hb2 : Below w0.heap.size w0 w2 := by rw [← hw2]; exact below_setRow hs1.bb (zn _) _
 have hT : w2.heap[w0.heap.size]? = some (fndB a) := by rw [← hw2]; exact setRow_heap _ _ _ _ _ _ hs1.b0
 have HT := zh hT
 have HA2 := zh (HA.out.stay hb2)
 rw [hw2]
 clear hT hb2 hw2 hs1
 refine hK.out _ _ (.inr ⟨fun o => cell_of_row _ _ _ _ _ _ (za HA2.out.bb H.out.blk), fun o => cell_of_row _ _ _ _ _ _ HA2.out.b0, za HA2.out.bb HL.out⟩) ?_
 (refine pts ?_)
 clear hK K
 refine z8 11 ?_
 simp only [List.drop_succ_cons, List.drop_zero]
 go_wp2_with (first
  | (refine ldT 176 (HT.out) ?_)
  | (refine stR (HA2.out.b1) ?_))
 refine bodyPost_ret (results_cell_row (cs := #[.int .i64 a.1.op, .int .i64 a.1.d, .int .i64 a.1.s, .int .u16 a.1.imm, .int .u16 a.1.aux, .int .i64 a.1.bank, .int .i64 a.1.size, .int .i64 a.2]) (fr := (0, 0)) Tryz.results93 _ _ (w.heap.size + 1) 176 _ ?_ (setRow_heap _ _ _ _ _ _ HA2.out.b1) Tryz.underlying176 rfl (by kernel_rfl)) rfl ?_
 ·rfl
 ·have hb3 := below_setRow HA2.out.bb (g := w.heap.size + 1) (by omega) #[.int .i64 a.1.op, .int .i64 a.1.d, .int .i64 a.1.s, .int .u16 a.1.imm, .int .u16 a.1.aux, .int .i64 a.1.bank, .int .i64 a.1.size, .int .i64 a.2]
  exact ⟨by rw [HAA.out], ⟨L, za hb3 HL.out, HHM.out⟩, zg.ofBelow hb3⟩
set_option maxRecDepth 100000 in
set_option maxHeartbeats 4000000 in
theorem at_new (I : zk) (hI : I.Ok) (ba : Option Addr) (bc : Nat) (da : Option Addr) (dc : Nat) (ra : Option Addr) (rn rc gs gk : Nat) (p : zb) (p0 : 0 ≤ p.addr) (p1 : p.addr < 65536) (w : World) (h : ScnW I ba bc da dc ra rn rc gs gk w) (L : List (zb × Value)) (hL : w.heap[gk]? = some (yc yL L)) (hM : KnM I L) (hk : yT p L = none) :
  Calls Tryz.prog 93 #[.pointer (some ⟨gs, 0, none⟩), .agg #[.int .i64 p.bank, .int .u16 p.addr]] w (AtP I gk p w) := by
 have H := zh h
 have HL := zh hL
 have HK := zh hk
 have HA := zh (Bx.two w (zo p) fndB0)
 have HHM := zh hM
 clear h hL hk hM
 have HDC := zh (fun W (hw : yG W I ba bc da dc) => sdecode_any I hI ba bc da dc ra rn rc p p0 p1 W hw)
 generalize ha : atI I p = a at *
 have HAA := zh ha
 clear ha
 go_enter Tryz.func93, Tryz.ntmps93
 go_wp2_with fail
 refine zr (S := fun W => (∀ o, W.cell? ⟨gs, o, none⟩ = (#[.slice ba I.banks.length bc, .int .u16 I.entry, .int .u16 I.vector, .slice da I.data.length dc, .slice ra rn rc, .map (some gk)] : Array Value)[o]?) ∧ (∀ o, W.cell? ⟨w.heap.size, o, none⟩ = (#[.int .i64 p.bank, .int .u16 p.addr] : Array Value)[o]?) ∧ W.heap[gk]? = some (yc yL L)) [11] (by kernel_rfl)
  ⟨fun o => cell_of_row _ _ _ _ _ _ (za HA.out.bb.drew H.out.blk), fun o => cell_of_row _ _ _ _ _ _ (HA.out.stay (Below.refl _ _).drew).b0, za HA.out.bb.drew HL.out⟩ (fun hHeld => ?_)
 obtain ⟨w0, hw0⟩ : ∃ w0, ((w.alloc (zo p)).alloc fndB0).drew = w0 := ⟨_, rfl⟩
 have HA := zh (HA.out.stay (hw0 ▸ (Below.refl _ _).drew : Below ((w.alloc (zo p)).alloc fndB0).heap.size ((w.alloc (zo p)).alloc fndB0) w0))
 rw [hw0] at hHeld ⊢
 clear hw0
 (refine tz 0 ?_)
 (refine tz 1 ?_)
 (refine tz 2 ?_)
 (refine tz 3 ?_)
 (refine tz 4 ?_)
 (refine tkZ 5 rfl (by assumption) (fun W hS => exec_lookupL xj Tryz.underlying94 hS.2.2 _ _ true rfl rfl p rfl (zero_found W)) ?_; (refine pts ?_))
 rw [HK.out]
 (refine tz 6 ?_)
 (refine tz 7 ?_)
 (refine tz 8 ?_)
 refine yx 9 rfl (fun K hK => ?_)
 go_simp
 have hs1 : Bx [fndB0] w0 (w0.alloc fndB0) := Bx.one w0 fndB0
 have HA1 := zh (HA.out.stay hs1.bb)
 refine hK.out _ _ (.inr ⟨fun o => cell_of_row _ _ _ _ _ _ (za HA1.out.bb H.out.blk), fun o => cell_of_row _ _ _ _ _ _ HA1.out.b0, za HA1.out.bb HL.out⟩) ?_
 (refine pts ?_)
 clear hK K
 refine yx 10 rfl (fun K hK => ?_)
 refine wp_store_row _ _ _ rfl w0.heap.size _ rfl rfl _ _ hs1.b0 ?_ ?_ ?_ ?_
 ·kernel_rfl
 ·rfl
 ·kernel_rfl
 obtain ⟨w2, hw2⟩ : ∃ w2, (w0.alloc fndB0).setRow w0.heap.size #[.int .i64 0, .int .i64 0, .int .i64 0, .int .u16 0, .int .u16 0, .int .i64 0, .int .i64 0, .int .i64 0] = w2 := ⟨_, rfl⟩
 have hb2 : Below w0.heap.size w0 w2 := by rw [← hw2]; exact below_setRow hs1.bb (zn _) _
 have hT : w2.heap[w0.heap.size]? = some fndB0 := by rw [← hw2]; exact setRow_heap _ _ _ _ _ _ hs1.b0
 have HT := zh hT
 have HA2 := zh (HA.out.stay hb2)
 rw [hw2]
 clear hT hb2 hw2 hs1
 refine hK.out _ _ (.inr ⟨fun o => cell_of_row _ _ _ _ _ _ (za HA2.out.bb H.out.blk), fun o => cell_of_row _ _ _ _ _ _ HA2.out.b0, za HA2.out.bb HL.out⟩) ?_
 (refine pts ?_)
 clear hK K
 refine z8 11 ?_
 simp only [List.drop_succ_cons, List.drop_zero]
 go_wp2_with fail
 have HQ2 := zh (show w0.heap.size < w2.heap.size from (Array.getElem?_eq_some_iff.1 HT.out).1)
 have HQZ : w.heap.size + 2 ≤ w0.heap.size := HA.out.z
 have HQZ := zh HQZ
 obtain ⟨wd, hwd⟩ : ∃ wd, w2.drew = wd := ⟨_, rfl⟩
 have HA3 := zh (HA2.out.stay (hwd ▸ (Below.refl _ w2).drew : Below w2.heap.size w2 wd))
 have hTd : wd.heap[w0.heap.size]? = some fndB0 := by rw [← hwd]; exact HT.out
 have HTD := zh hTd
 refine zr (S := fun W' => (∀ o, W'.cell? ⟨gs, o, none⟩ = (#[.slice ba I.banks.length bc, .int .u16 I.entry, .int .u16 I.vector, .slice da I.data.length dc, .slice ra rn rc, .map (some gk)] : Array Value)[o]?) ∧ (∀ o, W'.cell? ⟨w.heap.size, o, none⟩ = (#[.int .i64 p.bank, .int .u16 p.addr] : Array Value)[o]?)) [12] (by kernel_rfl) (by
  rw [hwd]
  exact ⟨fun o => cell_of_row _ _ _ _ _ _ (za HA3.out.bb H.out.blk), fun o => cell_of_row _ _ _ _ _ _ HA3.out.b0⟩) (fun hHeld => ?_)
 rw [hwd] at hHeld ⊢
 clear hwd hTd HT HA HA1 HA2 hHeld
 have hHeld : (∀ o, wd.cell? ⟨gs, o, none⟩ = (#[.slice ba I.banks.length bc, .int .u16 I.entry, .int .u16 I.vector, .slice da I.data.length dc, .slice ra rn rc, .map (some gk)] : Array Value)[o]?) ∧ (∀ o, wd.cell? ⟨w.heap.size, o, none⟩ = (#[.int .i64 p.bank, .int .u16 p.addr] : Array Value)[o]?) := ⟨fun o => cell_of_row _ _ _ _ _ _ (za HA3.out.bb H.out.blk), fun o => cell_of_row _ _ _ _ _ _ HA3.out.b0⟩
 (refine tz 0 ?_)
 (refine tz 1 ?_)
 (refine tz 2 ?_)
 (refine tz 3 ?_)
 (refine tz 4 ?_)
 refine yx 5 rfl (fun K hK => ?_)
 go_simp
 with_reducible refine (HDC.out _ (H.out.img.below HA3.out.bb)).mono ?_
 rintro e w3 ⟨rfl, hb3⟩
 have HA4 := zh (HA3.out.stay hb3)
 have HT4 := zh (za hb3 HTD.out)
 have HQ3 := zh hb3.size
 clear hb3 hHeld
 go_simp
 have hHeld : (∀ o, w3.cell? ⟨gs, o, none⟩ = (#[.slice ba I.banks.length bc, .int .u16 I.entry, .int .u16 I.vector, .slice da I.data.length dc, .slice ra rn rc, .map (some gk)] : Array Value)[o]?) ∧ (∀ o, w3.cell? ⟨w.heap.size, o, none⟩ = (#[.int .i64 p.bank, .int .u16 p.addr] : Array Value)[o]?) := ⟨fun o => cell_of_row _ _ _ _ _ _ (za HA4.out.bb H.out.blk), fun o => cell_of_row _ _ _ _ _ _ HA4.out.b0⟩
 refine hK.out _ _ (.inr hHeld) ?_
 (refine pts ?_)
 clear hK K
 (refine tz 6 ?_)
 (refine tz 7 ?_)
 (refine tz 8 ?_)
 (refine tz 9 ?_)
 refine yx 10 rfl (fun K hK => ?_)
 refine wp_store_at _ _ _ rfl w0.heap.size 0 rfl _ rfl _ _ HT4.out [.int .i64 a.1.op, .int .i64 a.1.d, .int .i64 a.1.s, .int .u16 a.1.imm, .int .u16 a.1.aux, .int .i64 a.1.bank, .int .i64 a.1.size] rfl (by simp) ?_ ?_ #[.int .i64 a.1.op, .int .i64 a.1.d, .int .i64 a.1.s, .int .u16 a.1.imm, .int .u16 a.1.aux, .int .i64 a.1.bank, .int .i64 a.1.size, .int .i64 0] rfl ?_
 ·kernel_rfl
 ·kernel_rfl
 obtain ⟨w4, hw4⟩ : ∃ w4, w3.setRow w0.heap.size #[.int .i64 a.1.op, .int .i64 a.1.d, .int .i64 a.1.s, .int .u16 a.1.imm, .int .u16 a.1.aux, .int .i64 a.1.bank, .int .i64 a.1.size, .int .i64 0] = w4 := ⟨_, rfl⟩
 have h54 : w4.heap[w0.heap.size]? = some (.cells #[.int .i64 a.1.op, .int .i64 a.1.d, .int .i64 a.1.s, .int .u16 a.1.imm, .int .u16 a.1.aux, .int .i64 a.1.bank, .int .i64 a.1.size, .int .i64 0] 176 (0, 0)) := by rw [← hw4]; exact setRow_heap _ _ _ _ _ _ HT4.out
 have H54 := zh h54
 have hbb : Below (w.heap.size + 2) w3 w4 := by rw [← hw4]; exact below_setRow (Below.refl _ _) HQZ.out _
 have HA5 := zh (HA4.out.keep hbb)
 rw [hw4]
 clear hw4 h54 hbb
 have hHeld : (∀ o, w4.cell? ⟨gs, o, none⟩ = (#[.slice ba I.banks.length bc, .int .u16 I.entry, .int .u16 I.vector, .slice da I.data.length dc, .slice ra rn rc, .map (some gk)] : Array Value)[o]?) ∧ (∀ o, w4.cell? ⟨w.heap.size, o, none⟩ = (#[.int .i64 p.bank, .int .u16 p.addr] : Array Value)[o]?) := ⟨fun o => cell_of_row _ _ _ _ _ _ (za HA5.out.bb H.out.blk), fun o => cell_of_row _ _ _ _ _ _ HA5.out.b0⟩
 refine hK.out _ _ (.inr hHeld) ?_
 (refine pts ?_)
 clear hK K
 (refine tz 11 ?_)
 refine z8 12 ?_
 simp only [List.drop_succ_cons, List.drop_zero]
 clear hHeld
 have hc4 := fun o => cell_of_row w4 w0.heap.size o _ _ _ H54.out
 have hf4 := fun o => frozen_of_row w4 w0.heap.size o _ _ H54.out
 go_wp2_with fail
 clear hc4 hf4
 obtain ⟨w5, hw5⟩ : ∃ w5, w4.setCell ⟨w0.heap.size, 7, none⟩ (.int .i64 a.2) = w5 := ⟨_, rfl⟩
 have h55 : w5.heap[w0.heap.size]? = some (fndB a) := by rw [← hw5]; exact heap_setCell_same H54.out (i := 7) (.int .i64 a.2)
 have H55 := zh h55
 have hbb : Below (w.heap.size + 2) w4 w5 := by rw [← hw5]; exact (Below.refl _ _).setCell (p := ⟨w0.heap.size, 7, none⟩) HQZ.out _
 have HA6 := zh (HA5.out.keep hbb)
 rw [hw5]
 clear hw5 h55 hbb
 refine zr (S := fun W' => (∀ o, W'.cell? ⟨gs, o, none⟩ = (#[.slice ba I.banks.length bc, .int .u16 I.entry, .int .u16 I.vector, .slice da I.data.length dc, .slice ra rn rc, .map (some gk)] : Array Value)[o]?) ∧ (∀ o, W'.cell? ⟨w.heap.size, o, none⟩ = (#[.int .i64 p.bank, .int .u16 p.addr] : Array Value)[o]?) ∧ (∀ o, W'.cell? ⟨w0.heap.size, o, none⟩ = (#[.int .i64 a.1.op, .int .i64 a.1.d, .int .i64 a.1.s, .int .u16 a.1.imm, .int .u16 a.1.aux, .int .i64 a.1.bank, .int .i64 a.1.size, .int .i64 a.2] : Array Value)[o]?)) [6] (by kernel_rfl) ⟨fun o => cell_of_row _ _ _ _ _ _ (za (HA6.out.bb.drew) H.out.blk), fun o => cell_of_row _ _ _ _ _ _ (HA6.out.stay (Below.refl _ _).drew).b0, fun o => cell_of_row _ _ _ _ _ _ (za (Below.refl _ _).drew H55.out)⟩ (fun hHeld => ?_)
 (refine tz 0 ?_)
 (refine tz 1 ?_)
 (refine tz 2 ?_)
 (refine tz 3 ?_)
 (refine tz 4 ?_)
 (refine tz 5 ?_)
 refine z8 6 ?_
 simp only [List.drop_succ_cons, List.drop_zero]
 clear hHeld
 have HM := zh (za (HA6.out.bb.drew) HL.out)
 have HHK := zh (show gk < w.heap.size from (Array.getElem?_eq_some_iff.1 HL.out).1)
 have HA7 := zh (HA6.out.stay (Below.refl _ _).drew)
 have H57 := zh (za (Below.refl _ w5).drew H55.out)
 go_wp2_with (first
  | (refine zZ xj Tryz.underlying94 HM.out rfl _ _ _ rfl rfl p rfl (fndV a) rfl ?_; intro w7 hm7 hg7 hz7
     have HF7 := zh ((hg7.block w0.heap.size (Array.getElem?_eq_some_iff.1 H57.out).1 (fun e => by injection e with e; have h1 := HHK.out; have h2 := HQZ.out; omega)).trans H57.out)
     have HA8 := zh ((hg7.block (w.heap.size + 1) (Array.getElem?_eq_some_iff.1 HA7.out.b1).1 (fun e => by injection e with e; have h1 := HHK.out; omega)).trans HA7.out.b1))
  | (refine ldT 176 (HF7.out) ?_)
  | (refine stR (HA8.out) ?_))
 refine bodyPost_ret (results_cell_row (cs := #[.int .i64 a.1.op, .int .i64 a.1.d, .int .i64 a.1.s, .int .u16 a.1.imm, .int .u16 a.1.aux, .int .i64 a.1.bank, .int .i64 a.1.size, .int .i64 a.2]) (fr := (0, 0)) Tryz.results93 _ _ (w.heap.size + 1) 176 _ ?_ (setRow_heap _ _ _ _ _ _ HA8.out) Tryz.underlying176 rfl (by kernel_rfl)) rfl ?_
 ·rfl
 ·have h1 := HHK.out
  have ht : zg (fun k => k = gk) w w7 := (zg.ofBelow HA7.out.bb).grown hg7 (fun k e _ => by injection e with e; exact e.symm)
  refine ⟨by rw [HAA.out], ⟨xG p (fndV a) L, ?_, ?_⟩, ht.setRow _ (fun h => by omega)⟩
  ·have hx := below_setRow (Below.refl (w.heap.size) w7) (show w.heap.size ≤ w.heap.size + 1 by omega) #[.int .i64 a.1.op, .int .i64 a.1.d, .int .i64 a.1.s, .int .u16 a.1.imm, .int .u16 a.1.aux, .int .i64 a.1.bank, .int .i64 a.1.size, .int .i64 a.2]
   rw [hx.block gk h1]
   exact hm7
  ·have := HHM.out.put p
   rwa [HAA.out] at this
theorem at_any (I : zk) (hI : I.Ok) (ba : Option Addr) (bc : Nat) (da : Option Addr) (dc : Nat) (ra : Option Addr) (rn rc gs gk : Nat) (p : zb) (p0 : 0 ≤ p.addr) (p1 : p.addr < 65536) (w : World) (h : ScnW I ba bc da dc ra rn rc gs gk w) :
  Calls Tryz.prog 93 #[.pointer (some ⟨gs, 0, none⟩), .agg #[.int .i64 p.bank, .int .u16 p.addr]] w (AtP I gk p w) := by
 obtain ⟨L, hL, hM⟩ := h.kn
 cases hk : yT p L with
 | none => exact at_new I hI ba bc da dc ra rn rc gs gk p p0 p1 w h L hL hM hk
 | some v => exact at_known I ba bc da dc ra rn rc gs gk p w h L hL hM (by rw [hk, hM.val p v hk])
end Go.Proofs.YteofmaiojepdkaaGreat
namespace Go.Proofs.YteofmaiojepdkaaGreat
open Go Go.RowKit Go.Maps Go.Sort
def Grw (w w' : World) : Prop := ∃ q os', w' = grow (w.drewN q) os'
theorem Grw.refl (w : World) : Grw w w := ⟨0, #[], by simp [grow, World.drewN]⟩
theorem Grw.alloc {w w' : World} (h : Grw w w') (o : Obj) : Grw w (w'.alloc o) := by
 obtain ⟨q, os, rfl⟩ := h
 exact ⟨q, os ++ #[o], by rw [alloc_eq_grow, grow_grow]⟩
theorem Grw.drew {w w' : World} (h : Grw w w') : Grw w w'.drew := by
 obtain ⟨q, os, rfl⟩ := h
 exact ⟨q + 1, os, rfl⟩
theorem Grw.trans {a b c : World} (h : Grw a b) (k : Grw b c) : Grw a c := by
 obtain ⟨q, os, rfl⟩ := h
 obtain ⟨r, os', rfl⟩ := k
 exact ⟨q + r, os ++ os', by simp [grow, World.drewN, Nat.add_assoc]⟩
theorem Grw.below {w w' : World} (h : Grw w w') : Below w.heap.size w w' := by
 obtain ⟨q, os, rfl⟩ := h
 exact ⟨rfl, rfl, rfl, by simp, fun k hk => by
  show (w.heap ++ os)[k]? = _
  rw [Array.getElem?_append_left hk]⟩
set_option maxRecDepth 100000 in
theorem nan_int (x : Int) (w : World) : Calls Tryz.prog 129 #[.int .i64 x] w fun e w' => e = .returned (.bool false) ∧ w' = w := by
 have e1 : (x != x) = false := by simp
 go_enter Tryz.func129, Tryz.ntmps129
 go_wp2
 go_ret
 exact ⟨rfl, rfl⟩
set_option maxRecDepth 100000 in
theorem nan_word (x : Int) (w : World) : Calls Tryz.prog 130 #[.int .u16 x] w fun e w' => e = .returned (.bool false) ∧ w' = w := by
 have e1 : (x != x) = false := by simp
 go_enter Tryz.func130, Tryz.ntmps130
 go_wp2
 go_ret
 exact ⟨rfl, rfl⟩
set_option maxRecDepth 100000 in
theorem nan_err (x : Int) (w : World) : Calls Tryz.prog 125 #[.int .i64 x] w fun e w' => e = .returned (.bool false) ∧ w' = w := by
 have e1 : (x != x) = false := by simp
 go_enter Tryz.func125, Tryz.ntmps125
 go_wp2
 go_ret
 exact ⟨rfl, rfl⟩
set_option maxRecDepth 100000 in
theorem cmp_int (x y : Int) (w : World) : Calls Tryz.prog 106 #[.int .i64 x, .int .i64 y] w fun e w' => e = .returned (.int .i64 (Lib.compareInt x y)) ∧ w' = w := by
 have HN := zh (fun x W => nan_int x W)
 unfold Lib.compareInt
 by_cases h1 : x < y
 ·rw [if_pos h1]
  go_enter Tryz.func106, Tryz.ntmps106
  go_wp2_with (go_at_call 129; refine (HN.out _ _).mono ?_; rintro e w' ⟨rfl, rfl⟩)
  go_ret
  exact ⟨rfl, rfl⟩
 ·rw [if_neg h1]
  by_cases h2 : x > y
  ·rw [if_pos h2]
   go_enter Tryz.func106, Tryz.ntmps106
   go_wp2_with (go_at_call 129; refine (HN.out _ _).mono ?_; rintro e w' ⟨rfl, rfl⟩)
   go_ret
   exact ⟨rfl, rfl⟩
  ·rw [if_neg h2]
   go_enter Tryz.func106, Tryz.ntmps106
   go_wp2_with (go_at_call 129; refine (HN.out _ _).mono ?_; rintro e w' ⟨rfl, rfl⟩)
   go_ret
   exact ⟨rfl, rfl⟩
set_option maxRecDepth 100000 in
theorem cmp_word (x y : Int) (w : World) : Calls Tryz.prog 107 #[.int .u16 x, .int .u16 y] w fun e w' => e = .returned (.int .i64 (Lib.compareInt x y)) ∧ w' = w := by
 have HN := zh (fun x W => nan_word x W)
 unfold Lib.compareInt
 by_cases h1 : x < y
 ·rw [if_pos h1]
  go_enter Tryz.func107, Tryz.ntmps107
  go_wp2_with (go_at_call 130; refine (HN.out _ _).mono ?_; rintro e w' ⟨rfl, rfl⟩)
  go_ret
  exact ⟨rfl, rfl⟩
 ·rw [if_neg h1]
  by_cases h2 : x > y
  ·rw [if_pos h2]
   go_enter Tryz.func107, Tryz.ntmps107
   go_wp2_with (go_at_call 130; refine (HN.out _ _).mono ?_; rintro e w' ⟨rfl, rfl⟩)
   go_ret
   exact ⟨rfl, rfl⟩
  ·rw [if_neg h2]
   go_enter Tryz.func107, Tryz.ntmps107
   go_wp2_with (go_at_call 130; refine (HN.out _ _).mono ?_; rintro e w' ⟨rfl, rfl⟩)
   go_ret
   exact ⟨rfl, rfl⟩
set_option maxRecDepth 100000 in
theorem cmp_err (x y : Int) (w : World) : Calls Tryz.prog 101 #[.int .i64 x, .int .i64 y] w fun e w' => e = .returned (.int .i64 (Lib.compareInt x y)) ∧ w' = w := by
 have HN := zh (fun x W => nan_err x W)
 unfold Lib.compareInt
 by_cases h1 : x < y
 ·rw [if_pos h1]
  go_enter Tryz.func101, Tryz.ntmps101
  go_wp2_with (go_at_call 125; refine (HN.out _ _).mono ?_; rintro e w' ⟨rfl, rfl⟩)
  go_ret
  exact ⟨rfl, rfl⟩
 ·rw [if_neg h1]
  by_cases h2 : x > y
  ·rw [if_pos h2]
   go_enter Tryz.func101, Tryz.ntmps101
   go_wp2_with (go_at_call 125; refine (HN.out _ _).mono ?_; rintro e w' ⟨rfl, rfl⟩)
   go_ret
   exact ⟨rfl, rfl⟩
  ·rw [if_neg h2]
   go_enter Tryz.func101, Tryz.ntmps101
   go_wp2_with (go_at_call 125; refine (HN.out _ _).mono ?_; rintro e w' ⟨rfl, rfl⟩)
   go_ret
   exact ⟨rfl, rfl⟩
def orS (x y : Int) : Int := if x = 0 then y else x
set_option maxRecDepth 100000 in
set_option maxHeartbeats 1000000 in
theorem or_two (x y : Int) (g : Nat) (w : World) (hg : w.heap[g]? = some (.cells #[.int .i64 x, .int .i64 y] 3 (0, 0))) :
  Calls Tryz.prog 100 #[.slice (some ⟨g, 0, none⟩) 2 2] w fun e w' => e = .returned (.int .i64 (orS x y)) ∧ w' = w := by
 have hc := fun o => cell_of_row w g o _ _ _ hg
 unfold orS
 by_cases h1 : x = 0
 ·rw [if_pos h1]
  have e1 : (x != 0) = false := by simp [h1]
  by_cases h2 : y = 0
  ·have e2 : (y != 0) = false := by simp [h2]
   have HY := zh h2
   clear h1 h2
   go_enter Tryz.func100, Tryz.ntmps100
   go_wp2_with fail
   go_rounds 3
   go_ret
   exact ⟨by rw [HY.out]; rfl, rfl⟩
  ·have e2 : (y != 0) = true := by simp [h2]
   clear h1
   go_enter Tryz.func100, Tryz.ntmps100
   go_wp2_with fail
   go_rounds 3
   go_ret
   exact ⟨rfl, rfl⟩
 ·rw [if_neg h1]
  have e1 : (x != 0) = true := by simp [h1]
  go_enter Tryz.func100, Tryz.ntmps100
  go_wp2_with fail
  go_rounds 3
  go_ret
  exact ⟨rfl, rfl⟩
def cmpP (a b : zb) : Int := orS (Lib.compareInt a.bank b.bank) (Lib.compareInt a.addr b.addr)
set_option maxRecDepth 100000 in
set_option maxHeartbeats 1000000 in
theorem compare_any (a b : zb) (w : World) : Calls Tryz.prog 74 #[.agg #[.int .i64 a.bank, .int .u16 a.addr], .agg #[.int .i64 b.bank, .int .u16 b.addr]] w fun e w' => e = .returned (.int .i64 (cmpP a b)) ∧ Grw w w' := by
 have HC1 := zh (fun W => cmp_int a.bank b.bank W)
 have HC2 := zh (fun W => cmp_word a.addr b.addr W)
 unfold cmpP
 generalize Lib.compareInt a.bank b.bank = c1 at *
 generalize Lib.compareInt a.addr b.addr = c2 at *
 have HO := zh (fun W hg => or_two c1 c2 (w.heap.size + 2) W hg)
 have hA := Bx.two w (zo a) (zo b)
 have HA := zh (hA.stay (Below.refl _ _).drew)
 have HG := zh ((((Grw.refl w).alloc (zo a)).alloc (zo b)).drew)
 clear hA
 go_enter Tryz.func74, Tryz.ntmps74
 go_wp2_with fail
 refine zr (S := fun W => (∀ o, W.cell? ⟨w.heap.size, o, none⟩ = (#[.int .i64 a.bank, .int .u16 a.addr] : Array Value)[o]?) ∧ (∀ o, W.cell? ⟨w.heap.size + 1, o, none⟩ = (#[.int .i64 b.bank, .int .u16 b.addr] : Array Value)[o]?)) [11, 12] (by kernel_rfl) ⟨fun o => cell_of_row _ _ _ _ _ _ HA.out.b0, fun o => cell_of_row _ _ _ _ _ _ HA.out.b1⟩ (fun hHeld => ?_)
 (refine tz 0 ?_)
 (refine tz 1 ?_)
 (refine tz 2 ?_)
 (refine tz 3 ?_)
 (refine tz 5 ?_)
 (refine tz 6 ?_)
 (refine tz 7 ?_)
 (refine tz 8 ?_)
 refine yx 4 rfl (fun K hK => ?_)
 go_simp
 refine (HC1.out _).mono ?_
 rintro e w1 ⟨rfl, rfl⟩
 go_simp
 refine hK.out _ _ (.inr hHeld) ?_
 (refine pts ?_)
 clear hK K
 refine yx 9 rfl (fun K hK => ?_)
 go_simp
 refine (HC2.out _).mono ?_
 rintro e w2 ⟨rfl, rfl⟩
 go_simp
 refine hK.out _ _ (.inr hHeld) ?_
 (refine pts ?_)
 clear hK K
 refine yx 10 rfl (fun K hK => ?_)
 go_simp
 have HA2 := zh (HA.out.alloc (.cells #[.int .i64 c1, .int .i64 c2] 3))
 refine hK.out _ _ (.inr ⟨fun o => cell_of_row _ _ _ _ _ _ HA2.out.b0, fun o => cell_of_row _ _ _ _ _ _ HA2.out.b1⟩) ?_
 (refine pts ?_)
 clear hK K hHeld
 refine z8 11 ?_
 simp only [List.drop_succ_cons, List.drop_zero]
 have hn : ((((w.alloc (zo a)).alloc (zo b)).drew).alloc (.cells #[.int .i64 c1, .int .i64 c2] 3)).heap[w.heap.size + 2]? = some (.cells #[.int .i64 c1, .int .i64 c2] 3 (0, 0)) := by
  have := heap_alloc_new (((w.alloc (zo a)).alloc (zo b)).drew) (.cells #[.int .i64 c1, .int .i64 c2] 3)
  simpa using this
 have HO2 := zh (HO.out _ hn)
 have HG2 := zh (HG.out.alloc (.cells #[.int .i64 c1, .int .i64 c2] 3))
 clear hn
 go_wp2_with (go_at_call 100; refine HO2.out.mono ?_; rintro e w4 ⟨rfl, rfl⟩)
 go_ret
 exact ⟨rfl, HG2.out⟩
abbrev itmB (p : zb) (x : Ins) : Obj := .cells #[.int .i64 p.bank, .int .u16 p.addr, .int .i64 x.op, .int .i64 x.d, .int .i64 x.s, .int .u16 x.imm, .int .u16 x.aux, .int .i64 x.bank, .int .i64 x.size] 55
abbrev y8 (x : zM) : Obj := .cells #[.int .i64 x.kind, .int .i64 x.at_.bank, .int .u16 x.at_.addr] 58
set_option maxRecDepth 100000 in
set_option maxHeartbeats 1000000 in
theorem cmpItem_any (a b : zb) (x y : Ins) (w : World) : Calls Tryz.prog 97 #[.agg #[.int .i64 a.bank, .int .u16 a.addr, .int .i64 x.op, .int .i64 x.d, .int .i64 x.s, .int .u16 x.imm, .int .u16 x.aux, .int .i64 x.bank, .int .i64 x.size], .agg #[.int .i64 b.bank, .int .u16 b.addr, .int .i64 y.op, .int .i64 y.d, .int .i64 y.s, .int .u16 y.imm, .int .u16 y.aux, .int .i64 y.bank, .int .i64 y.size]] w fun e w' => e = .returned (.int .i64 (cmpP a b)) ∧ Grw w w' := by
 have HC := zh (fun W => compare_any a b W)
 have HA := zh (Bx.two w (itmB a x) (itmB b y))
 have HG := zh (((Grw.refl w).alloc (itmB a x)).alloc (itmB b y))
 have hc1 := fun o => cell_of_row _ (w.heap.size) o _ _ _ HA.out.b0
 have hc2 := fun o => cell_of_row _ (w.heap.size + 1) o _ _ _ HA.out.b1
 go_enter Tryz.func97, Tryz.ntmps97
 go_wp2_with (go_at_call 74; refine (HC.out _).mono ?_; rintro e w4 ⟨rfl, hg⟩)
 go_ret
 exact ⟨rfl, HG.out.trans hg⟩
def cmpI (a b : zM) : Int := orS (cmpP a.at_ b.at_) (Lib.compareInt a.kind b.kind)
set_option maxRecDepth 100000 in
set_option maxHeartbeats 1000000 in
theorem cmpIssue_any (a b : zM) (w : World) : Calls Tryz.prog 99 #[.agg #[.int .i64 a.kind, .int .i64 a.at_.bank, .int .u16 a.at_.addr], .agg #[.int .i64 b.kind, .int .i64 b.at_.bank, .int .u16 b.at_.addr]] w fun e w' => e = .returned (.int .i64 (cmpI a b)) ∧ Grw w w' := by
 have HC1 := zh (fun W => compare_any a.at_ b.at_ W)
 have HC2 := zh (fun W => cmp_err a.kind b.kind W)
 unfold cmpI
 generalize cmpP a.at_ b.at_ = c1 at *
 generalize Lib.compareInt a.kind b.kind = c2 at *
 have HO := zh (fun W g hg => or_two c1 c2 g W hg)
 have hA := Bx.two w (y8 a) (y8 b)
 have HA := zh (hA.stay (Below.refl _ _).drew)
 have HG := zh ((((Grw.refl w).alloc (y8 a)).alloc (y8 b)).drew)
 clear hA
 go_enter Tryz.func99, Tryz.ntmps99
 go_wp2_with fail
 refine zr (S := fun W => (∀ o, W.cell? ⟨w.heap.size, o, none⟩ = (#[.int .i64 a.kind, .int .i64 a.at_.bank, .int .u16 a.at_.addr] : Array Value)[o]?) ∧ (∀ o, W.cell? ⟨w.heap.size + 1, o, none⟩ = (#[.int .i64 b.kind, .int .i64 b.at_.bank, .int .u16 b.at_.addr] : Array Value)[o]?)) [11, 12] (by kernel_rfl) ⟨fun o => cell_of_row _ _ _ _ _ _ HA.out.b0, fun o => cell_of_row _ _ _ _ _ _ HA.out.b1⟩ (fun hHeld => ?_)
 (refine tz 0 ?_)
 (refine tz 1 ?_)
 (refine tz 2 ?_)
 (refine tz 3 ?_)
 (refine tz 5 ?_)
 (refine tz 6 ?_)
 (refine tz 7 ?_)
 (refine tz 8 ?_)
 refine yx 4 rfl (fun K hK => ?_)
 go_simp
 refine (HC1.out _).mono ?_
 rintro e w1 ⟨rfl, hg1⟩
 have HA1 := zh (HA.out.stay hg1.below)
 have HG1 := zh (HG.out.trans hg1)
 clear hg1 hHeld
 go_simp
 have hHeld : (∀ o, w1.cell? ⟨w.heap.size, o, none⟩ = (#[.int .i64 a.kind, .int .i64 a.at_.bank, .int .u16 a.at_.addr] : Array Value)[o]?) ∧ (∀ o, w1.cell? ⟨w.heap.size + 1, o, none⟩ = (#[.int .i64 b.kind, .int .i64 b.at_.bank, .int .u16 b.at_.addr] : Array Value)[o]?) := ⟨fun o => cell_of_row _ _ _ _ _ _ HA1.out.b0, fun o => cell_of_row _ _ _ _ _ _ HA1.out.b1⟩
 refine hK.out _ _ (.inr hHeld) ?_
 (refine pts ?_)
 clear hK K
 refine yx 9 rfl (fun K hK => ?_)
 go_simp
 refine (HC2.out _).mono ?_
 rintro e w2 ⟨rfl, rfl⟩
 go_simp
 refine hK.out _ _ (.inr hHeld) ?_
 (refine pts ?_)
 clear hK K
 refine yx 10 rfl (fun K hK => ?_)
 go_simp
 have HA2 := zh (HA1.out.alloc (.cells #[.int .i64 c1, .int .i64 c2] 3))
 refine hK.out _ _ (.inr ⟨fun o => cell_of_row _ _ _ _ _ _ HA2.out.b0, fun o => cell_of_row _ _ _ _ _ _ HA2.out.b1⟩) ?_
 (refine pts ?_)
 clear hK K hHeld
 refine z8 11 ?_
 simp only [List.drop_succ_cons, List.drop_zero]
 have HO2 := zh (HO.out _ _ (heap_alloc_new w2 (.cells #[.int .i64 c1, .int .i64 c2] 3)))
 have HG2 := zh (HG1.out.alloc (.cells #[.int .i64 c1, .int .i64 c2] 3))
 go_wp2_with (go_at_call 100; refine HO2.out.mono ?_; rintro e w4 ⟨rfl, rfl⟩)
 go_ret
 exact ⟨rfl, HG2.out⟩
end Go.Proofs.YteofmaiojepdkaaGreat
