/- The reference of chapter 05: what its Scan keeps while it runs; the marked instructions are those of the routines. Condition: the image's banks have 4096 bytes. -/
import Derived.Test.YteofmaiojepdkaaGreatTbRpF
set_option linter.all false
namespace Go.Proofs.YteofmaiojepdkaaGreat
open Go Go.RowKit Go.Maps Go.Sort
abbrev lstZ : Obj := .cells #[.slice none 0 0, .slice none 0 0, .slice none 0 0] 38
structure LsR (I : zk) (im : Obj) (w : World) (gl : Nat) (gs : List Nat) (vc vr : Value) (S : List RtR) (W : World) : Prop where
 bx : Bx [im, lstZ] w W
 hl : W.heap[gl]? = some (.cells #[vc, vr, .slice none 0 0] 38 (0, 0))
 lb : w.heap.size + 2 ≤ gl
 cl : xM w.heap.size gs (fun b o => yj I b o) vc W
 rn : RnsV I w.heap.size S vr W
theorem LsR.below {I : zk} {im : Obj} {w : World} {gl : Nat} {gs : List Nat} {vc vr : Value} {S : List RtR} {W W' : World} (h : LsR I im w gl gs vc vr S W) (hb : Below W.heap.size W W') : LsR I im w gl gs vc vr S W' :=
 ⟨h.bx.stay hb, za hb h.hl, h.lb, h.cl.below hb, h.rn.below hb⟩
theorem LsR.of {I : zk} {im : Obj} {w : World} {gl : Nat} {gs : List Nat} {vc vr : Value} {S : List RtR} {W : World} (hbx : Bx [im, lstZ] w W) (hgl : W.heap[gl]? = some lstZ) (hlb : w.heap.size + 2 ≤ gl) (hc : xM w.heap.size gs (fun b o => yj I b o) vc W) (hr : RnsV I w.heap.size S vr W) : LsR I im w gl gs vc vr S (W.setRow gl #[vc, vr, .slice none 0 0]) := by
 have t : zg (fun k => k = gl) W (W.setRow gl #[vc, vr, .slice none 0 0]) := (zg.refl _ _).setRow _ (fun _ => rfl)
 have hn : ∀ k cs T fr, W.heap[k]? = some (.cells cs T fr) → T ≠ 38 → ¬ k = gl := fun k cs T fr hk hT e => by
  rw [e, hgl] at hk
  injection hk with hk
  injection hk with _ hk
  exact hT hk.symm
 exact ⟨hbx.keep (below_setRow (Below.refl _ _) (by omega) _), setRow_heap _ _ _ _ _ _ hgl, hlb, hc.turn t (fun k cs T fr hk hT => hn k cs T fr hk (by rcases hT with rfl | rfl <;> decide)), hr.turn t (fun k cs T fr hk _ hT => hn k cs T fr hk hT)⟩
theorem RnsV.turnT {I : zk} {B : Nat} {R : List RtR} {v : Value} {W W' : World} {bs : Nat → Prop} (h : RnsV I B R v W) (t : zg bs W W') (hb : ∀ k cs T fr, W.heap[k]? = some (.cells cs T fr) → (T = 50 ∨ T = 55 ∨ T = 47 ∨ T = 58) → ¬ bs k) : RnsV I B R v W' :=
 ⟨zi h.own t (fun k hk => by obtain ⟨-, cs, hc⟩ := zz h.own k hk; exact hb k cs _ _ hc (.inl rfl)), fun x hx => (h.rv x hx).turn t (fun k cs fr hc => hb k cs _ _ hc (.inr (.inl rfl))) (fun k hk => by obtain ⟨-, cs, hc⟩ := zz (h.rv x hx).ol k hk; exact hb k cs _ _ hc (.inr (.inr (.inl rfl)))) (fun k cs fr hc => hb k cs _ _ hc (.inr (.inr (.inr rfl))))⟩
theorem LsR.mark {I : zk} {im : Obj} {w : World} {gl : Nat} {gs : List Nat} {vc vr : Value} {S : List RtR} {W : World} (h : LsR I im w gl gs vc vr S W) {g n : Nat} {cs : Array Value} {T : TypeId} {fr : Nat × Nat} {x : Value} (hg : W.heap[g]? = some (.cells cs T fr)) (hT : T = 4 ∨ T = 3) (hlb : w.heap.size + 2 ≤ g) : LsR I im w gl gs vc vr S (W.setCell ⟨g, n, none⟩ x) := by
 have t : zg (fun k => k = g) W (W.setCell ⟨g, n, none⟩ x) := (zg.refl _ W).setCell _ (fun _ => rfl)
 have hn : ∀ k cs' T' fr', W.heap[k]? = some (.cells cs' T' fr') → T' ≠ 4 → T' ≠ 3 → ¬ k = g := fun k cs' T' fr' hk h1 h2 e => by
  rw [e, hg] at hk
  injection hk with hk
  injection hk with _ hk
  rcases hT with hT | hT
  ·exact h1 (hk.symm.trans hT)
  ·exact h2 (hk.symm.trans hT)
 exact ⟨h.bx.keep ((Below.refl _ _).setCell (p := ⟨g, n, none⟩) hlb _), t.heap h.hl (hn _ _ _ _ h.hl (by decide) (by decide)), h.lb, h.cl.turn t (fun k cs T fr hk hT => hn k cs T fr hk (by rcases hT with rfl | rfl <;> decide) (by rcases hT with rfl | rfl <;> decide)), h.rn.turnT t (fun k cs T fr hk hT => hn k cs T fr hk (by rcases hT with rfl | rfl | rfl | rfl <;> decide) (by rcases hT with rfl | rfl | rfl | rfl <;> decide))⟩
def MaL (I : zk) (im : Obj) (w : World) (gl : Nat) (gs : List Nat) (vc vr : Value) (S : List RtR) (gi : Nat) (cs : List zb) (vm : Value) (W : World) : Prop := vm = .int .i64 (cntK (snL cs) 524288) ∧ LsR I im w gl gs vc vr S W ∧ W.heap[gi]? = some (.cells (rowT 524288 (snL cs)) 4 (0, 0)) ∧ w.heap.size + 2 ≤ gi
theorem scn_items {I : zk} (hI : I.Ok) {more : List zb} (hm : ∀ p ∈ more, yO p) {S : List RtR} (h : yz I more (some (S.map (·.1)))) : IsItems (S.map (·.1)) (zG (snL (yN S)) 524288) ∧ ∀ p ∈ zG (snL (yN S)) 524288, okI I p ∧ yO p := by
 have hok : ∀ p ∈ yN S, okI I p ∧ yO p := fun p hp => by
  obtain ⟨x, hx, hpx⟩ := List.mem_flatMap.1 hp
  exact codes_ok hI hm h (List.mem_map.2 ⟨x, hx, rfl⟩) hpx
 refine ⟨⟨marked_so _ _, fun p => ?_⟩, fun p hp => hok p ((snL_items hok).1 hp)⟩
 rw [snL_items hok]
 unfold yN
 rw [List.mem_flatMap]
 constructor
 ·rintro ⟨x, h1, h2⟩; exact ⟨x.1, List.mem_map.2 ⟨x, h1, rfl⟩, h2⟩
 ·rintro ⟨r, h1, h2⟩
  obtain ⟨x, h3, rfl⟩ := List.mem_map.1 h1
  exact ⟨x, h3, h2⟩
theorem scn_many {I : zk} (hI : I.Ok) {more : List zb} (hm : ∀ p ∈ more, yO p) {S : List RtR} (h : (yz I more none ∧ S = []) ∨ yz I more (some (S.map (·.1)))) (hl : 20000 < cntK (snL (yN S)) 524288 ∨ S.length = 0) : IsLst I more (manyL I) := by
 rcases h with ⟨h, -⟩ | h
 ·exact .inl ⟨h, rfl⟩
 ·rcases hl with hl | hl
  ·exact many_lst h (xf zP.irr (marked_so _ _)) (scn_items hI hm h).1.me (by rw [marked_cnt]; exact hl)
  ·exact absurd (by rw [List.eq_nil_of_length_eq_zero hl]; rfl) (few_ne h)
structure CvR (I : zk) (im : Obj) (w : World) (gl : Nat) (gs : List Nat) (vc vr : Value) (S : List RtR) (gi nn : Nat) (sn : Nat → Bool) (gcv mm : Nat) (f : Nat → Int) (W : World) : Prop where
 ls : LsR I im w gl gs vc vr S W
 it : W.heap[gi]? = some (.cells (rowT nn sn) 4 (0, 0))
 cv : W.heap[gcv]? = some (.cells (rowI mm f) 3 (0, 0))
 lb : w.heap.size + 2 ≤ gcv
section
variable {I : zk} {im : Obj} {w : World} {gl : Nat} {gs : List Nat} {vc vr : Value} {S : List RtR} {gi nn : Nat} {sn : Nat → Bool} {gcv mm : Nat} {f : Nat → Int} {W W' : World}
theorem CvR.below (h : CvR I im w gl gs vc vr S gi nn sn gcv mm f W) (hb : Below W.heap.size W W') : CvR I im w gl gs vc vr S gi nn sn gcv mm f W' := ⟨h.ls.below hb, za hb h.it, za hb h.cv, h.lb⟩
theorem CvR.put (h : CvR I im w gl gs vc vr S gi nn sn gcv mm f W) (ix : Nat) (x : Int) : CvR I im w gl gs vc vr S gi nn sn gcv mm (fun n => if n = ix then x else f n) (W.setCell ⟨gcv, ix, none⟩ (.int .i64 x)) := by
 have t : zg (fun k => k = gcv) W (W.setCell ⟨gcv, ix, none⟩ (.int .i64 x)) := (zg.refl _ W).setCell _ (fun _ => rfl)
 refine ⟨h.ls.mark h.cv (.inr rfl) h.lb, t.heap h.it (fun e => ?_), ?_, h.lb⟩
 ·have h1 := h.it
  rw [e, h.cv] at h1
  injection h1 with h1
  injection h1 with _ h1
  exact absurd h1 (by decide)
 ·rw [← rowI_set]
  exact heap_setCell_same h.cv _
end
theorem cv_hf {I : zk} {its : List zb} {p : zb} {mm : Nat} (hmm : 262144 = mm) (hc : 0 ≤ p.bank ∧ p.bank < 64) : ∀ b o : Nat, p.bank = b → o < 4096 → ∃ bm ix : Nat, b * 4096 = bm ∧ bm + o = ix ∧ ix < mm ∧ cnt0 I its ix = yX I its b o := fun b o hb ho => by
 refine ⟨_, _, rfl, rfl, by omega, ?_⟩
 unfold cnt0
 rw [show (b * 4096 + o) / 4096 = b by omega, show (b * 4096 + o) % 4096 = o by omega]
theorem iss_snoc {I : zk} {its : List zb} {m : Nat} {p : zb} (hp : its[m]? = some p) : ((its.take (m + 1)).filter (yb I its)).map (fun p => (⟨40, p⟩ : zM)) = ((its.take m).filter (yb I its)).map (fun p => (⟨40, p⟩ : zM)) ++ (if yb I its p then [⟨40, p⟩] else []) := by
 rw [List.take_succ, hp]
 show (((its.take m ++ [p]).filter (yb I its)).map _) = _
 rw [List.filter_append, List.map_append, List.filter_cons]
 cases yb I its p <;> simp
theorem tb_snoc {I : zk} {its : List zb} {m : Nat} {p : zb} (hp : its[m]? = some p) : ((its.take (m + 1)).flatMap fun p => (fl I p).tb) = ((its.take m).flatMap fun p => (fl I p).tb) ++ (fl I p).tb := by
 rw [List.take_succ, hp]
 show (its.take m ++ [p]).flatMap _ = _
 simp
theorem LsR.ne {I : zk} {im : Obj} {w : World} {gl : Nat} {gs : List Nat} {vc vr : Value} {S : List RtR} {W : World} (h : LsR I im w gl gs vc vr S W) {k : Nat} {cs : Array Value} {T : TypeId} {fr : Nat × Nat} (hk : W.heap[k]? = some (.cells cs T fr)) (h1 : T ≠ 38) (h2 : T ≠ 5) : ¬ (k = gl ∨ k ∈ gs) := fun e => by
 rcases e with rfl | e
 ·rw [h.hl] at hk
  injection hk with hk
  injection hk with _ hk
  exact h1 hk.symm
 ·obtain ⟨b, hb⟩ := List.getElem?_of_mem e
  rw [h.cl.row b k hb] at hk
  injection hk with hk
  injection hk with _ hk
  exact h2 hk.symm
theorem LsR.ne1 {I : zk} {im : Obj} {w : World} {gl : Nat} {gs : List Nat} {vc vr : Value} {S : List RtR} {W : World} (h : LsR I im w gl gs vc vr S W) : ¬ (w.heap.size + 1 = gl ∨ w.heap.size + 1 ∈ gs) := fun e => by
 rcases e with e | e
 ·have := h.lb
  omega
 ·obtain ⟨b, hb⟩ := List.getElem?_of_mem e
  have h1 := h.cl.row b _ hb
  rw [h.bx.b1] at h1
  injection h1 with h1
  injection h1 with _ h1
  exact absurd h1 (by decide)
theorem scp_many {I : zk} {more : List zb} {im : Obj} {w : World} {gl : Nat} {gs : List Nat} {vc vr : Value} {S : List RtR} {W : World} (h : LsR I im w gl gs vc vr S W) (hg : gs.length = I.banks.length) (hl : IsLst I more (manyL I)) :
  ScP I more w (.returned (.agg #[vc, .slice none 0 0, .slice (some ⟨W.heap.size, 0, none⟩) 1 1])) ((W.alloc (y8 ⟨2, ⟨0, I.entry⟩⟩)).setRow (w.heap.size + 1) #[vc, .slice none 0 0, .slice (some ⟨W.heap.size, 0, none⟩) 1 1]) := by
 have hb := h.bx.alloc (y8 ⟨2, ⟨0, I.entry⟩⟩)
 have hz : w.heap.size + 2 ≤ W.heap.size := h.bx.z
 have t : zg (fun k => k = w.heap.size + 1) (W.alloc (y8 ⟨2, ⟨0, I.entry⟩⟩)) ((W.alloc (y8 ⟨2, ⟨0, I.entry⟩⟩)).setRow (w.heap.size + 1) #[vc, .slice none 0 0, .slice (some ⟨W.heap.size, 0, none⟩) 1 1]) := (zg.refl _ _).setRow _ (fun _ => rfl)
 have hc := h.cl.below ((Below.refl W.heap.size W).alloc (zn _) (y8 ⟨2, ⟨0, I.entry⟩⟩))
 refine ⟨manyL I, _, _, _, rfl, hl, ⟨⟨gs, yj I, hg, hc.turn t (fun k cs T fr hk hT e => ?_), rfl⟩, ⟨[], ⟨World.ownsRow_nil _ _ _ _, by simp⟩, rfl⟩, ?_⟩, hb.bb.trans (t.toBelow hb.bb.size (fun k e => by have e2 : k = w.heap.size + 1 := e; omega))⟩
 ·rw [e, hb.b1] at hk
  injection hk with hk
  injection hk with _ hk
  rcases hT with hT | hT <;> rw [← hk] at hT <;> exact absurd hT (by decide)
 ·exact own_blkS (show w.heap.size ≤ W.heap.size by omega) (t.heap (heap_alloc_new W _) (fun e => by have e2 : W.heap.size = w.heap.size + 1 := e; omega))
theorem scp_full {I : zk} {more : List zb} {im : Obj} {w : World} {gl : Nat} {gs : List Nat} {vc vr vi : Value} {S : List RtR} {W0 W : World} {its : List zb} (h : LsR I im w gl gs vc vr S W0) (hg : gs.length = I.banks.length) (hr : yz I more (some (S.map (·.1)))) (hi : IsItems (S.map (·.1)) its) (hn : its.length ≤ 20000)
  (hR : RkW gl w.heap.size gs (fun b o => clOf I its b o) vc vr vi ((its.filter (yb I its)).map fun p => (⟨40, p⟩ : zM)) W0 W) :
  ScP I more w (.returned (.agg #[vc, vr, vi])) (W.setRow (w.heap.size + 1) #[vc, vr, vi]) := by
 have t : zg (fun k => k = w.heap.size + 1) W (W.setRow (w.heap.size + 1) #[vc, vr, vi]) := (zg.refl _ _).setRow _ (fun _ => rfl)
 have h1 : W.heap[w.heap.size + 1]? = some lstZ := hR.tr.heap h.bx.b1 h.ne1
 have hz : w.heap.size + 2 ≤ W0.heap.size := h.bx.z
 have hne : ∀ k cs T fr, W.heap[k]? = some (.cells cs T fr) → T ≠ 38 → ¬ k = w.heap.size + 1 := fun k cs T fr hk hT e => by
  rw [e, h1] at hk
  injection hk with hk
  injection hk with _ hk
  exact hT hk.symm
 have hb0 : Below w.heap.size w W := h.bx.bb.trans (hR.tr.toBelow h.bx.bb.size (fun k e => by
  rcases e with rfl | e
  ·have := h.lb; omega
  ·exact h.cl.lb k e))
 have hrn := (h.rn.turn hR.tr (fun k cs T fr hk h2 h3 => h.ne hk h3 h2)).turn t (fun k cs T fr hk _ h3 => hne k cs T fr hk h3)
 refine ⟨fullL I (S.map (·.1)) its, _, _, _, rfl, .inr ⟨_, its, hr, hi, .inr ⟨hn, rfl⟩⟩, ⟨⟨gs, clOf I its, hg, hR.cl.turn t (fun k cs T fr hk hT => hne k cs T fr hk (by rcases hT with hT | hT <;> rw [hT] <;> decide)), rfl⟩, ⟨S, hrn, rfl⟩, ?_⟩, hb0.trans (t.toBelow hb0.size (fun k e => by have e2 : k = w.heap.size + 1 := e; omega))⟩
 exact zi (hR.is_.mono (by omega)) t (fun k hk => by obtain ⟨-, cs, hc⟩ := zz hR.is_ k hk; exact hne k cs _ _ hc (by decide))
def MlR (I : zk) (its : List zb) (sn : Nat → Bool) (gl B : Nat) (gs : List Nat) (vc vr : Value) (w0 : World) (k : Nat) (W : World) : Prop := ∃ vi, RkW gl B gs (fun b o => clM I its (zG sn k) b o) vc vr vi (((zG sn k).filter (yb I its)).map fun p => (⟨40, p⟩ : zM)) w0 W
def TlR (I : zk) (its : List zb) (sn : Nat → Bool) (gl B : Nat) (gs : List Nat) (vc vr : Value) (w0 : World) (k : Nat) (W : World) : Prop := ∃ vi, RkW gl B gs (fun b o => clT (I := I) (its := its) ((zG sn k).flatMap fun p => (fl I p).tb) b o) vc vr vi ((its.filter (yb I its)).map fun p => (⟨40, p⟩ : zM)) w0 W
section
variable {I : zk} {its : List zb} {sn : Nat → Bool} {k n : Nat} {gl B : Nat} {gs : List Nat} {vc vr vi : Value} {w0 W : World} {e : Ending}
theorem mk_it (hi : zG sn n = its) (hk : k < n) (hs : sn k = true) : its[(zG sn k).length]? = some (ofK k) ∧ its.take (zG sn k).length = zG sn k ∧ its.take ((zG sn k).length + 1) = zG sn (k + 1) := by
 have h1 := marked_at hk hs
 have h2 := marked_take (sn := sn) (show k ≤ n by omega)
 rw [hi] at h1 h2
 refine ⟨h1, h2.symm, ?_⟩
 rw [List.take_succ, h1, ← h2, xH, if_pos hs]
 rfl
theorem ml_skip (h : MlR I its sn gl B gs vc vr w0 k W) (hs : sn k = false) : MlR I its sn gl B gs vc vr w0 (k + 1) W := by
 unfold MlR at h ⊢
 rw [xH, if_neg (by rw [hs]; decide)]
 exact h
theorem ml_step (hi : zG sn n = its) (hk : k < n) (hs : sn k = true) (h : RmkP gl B gs (fun b o => if covP I b o (ofK k) then clsK (yX I its b o) ((o : Int) - zI (ofK k)) else clM I its (zG sn k) b o) vc vr (((zG sn k).filter (yb I its)).map (fun p => (⟨40, p⟩ : zM)) ++ if shK (fun b o => yX I its b o) (ofK k).bank.toNat (zI (ofK k)) (szI I (ofK k)) then [⟨40, ofK k⟩] else []) w0 e W) : e = .returned (.tuple #[]) ∧ MlR I its sn gl B gs vc vr w0 (k + 1) W := by
 obtain ⟨h0, vi', h⟩ := h
 obtain ⟨h1, h2, h3⟩ := mk_it hi hk hs
 refine ⟨h0, vi', ?_⟩
 have e1 := iss_snoc (I := I) h1
 rw [h2, h3] at e1
 rw [e1]
 have e2 : (fun b o : Nat => clM I its (zG sn (k + 1)) b o) = fun b o => if covP I b o (ofK k) then clsK (yX I its b o) ((o : Int) - zI (ofK k)) else clM I its (zG sn k) b o := by
  funext b o
  rw [← h3, clM_snoc h1, h2]
  rfl
 rw [e2]
 exact h
theorem tl_skip (h : TlR I its sn gl B gs vc vr w0 k W) (hs : sn k = false) : TlR I its sn gl B gs vc vr w0 (k + 1) W := by
 unfold TlR at h ⊢
 rw [xH, if_neg (by rw [hs]; decide)]
 exact h
theorem tl_step (hi : zG sn n = its) (hk : k < n) (hs : sn k = true) (h : RmkP gl B gs (tbL (fun b o => clT (I := I) (its := its) ((zG sn k).flatMap fun p => (fl I p).tb) b o) (fl I (ofK k)).tb) vc vr ((its.filter (yb I its)).map fun p => (⟨40, p⟩ : zM)) w0 e W) : e = .returned (.tuple #[]) ∧ TlR I its sn gl B gs vc vr w0 (k + 1) W := by
 obtain ⟨h0, vi', h⟩ := h
 obtain ⟨h1, h2, h3⟩ := mk_it hi hk hs
 refine ⟨h0, vi', ?_⟩
 have e1 := tb_snoc (I := I) h1
 rw [h2, h3] at e1
 rw [e1]
 have e2 := tbL_clT (I := I) (its := its) (clBase_05 I) ((zG sn k).flatMap fun p => (fl I p).tb) (fl I (ofK k)).tb
 rw [← e2]
 exact h
theorem tl_start (hi : zG sn n = its) (h : MlR I its sn gl B gs vc vr w0 n W) : TlR I its sn gl B gs vc vr w0 0 W := by
 obtain ⟨vi', h⟩ := h
 rw [hi] at h
 refine ⟨vi', ?_⟩
 have e1 : (fun b o : Nat => clT (I := I) (its := its) ((zG sn 0).flatMap fun p => (fl I p).tb) b o) = fun b o => clM I its its b o := by
  funext b o
  exact clT_nil b o
 rw [e1]
 exact h
theorem tl_end (hi : zG sn n = its) (h : TlR I its sn gl B gs vc vr w0 n W) : ∃ vi', RkW gl B gs (fun b o => clOf I its b o) vc vr vi' ((its.filter (yb I its)).map fun p => (⟨40, p⟩ : zM)) w0 W := by
 obtain ⟨vi', h⟩ := h
 rw [hi] at h
 refine ⟨vi', ?_⟩
 have e1 : (fun b o : Nat => clT (I := I) (its := its) (its.flatMap fun p => (fl I p).tb) b o) = fun b o => clOf I its b o := by
  funext b o
  exact clT_all b o
 rw [← e1]
 exact h
end
theorem ml_start {I : zk} {im : Obj} {its : List zb} {sn : Nat → Bool} {w : World} {gl : Nat} {gs : List Nat} {vc vr : Value} {S : List RtR} {W : World} (h : LsR I im w gl gs vc vr S W) : MlR I its sn gl w.heap.size gs vc vr W 0 W := by
 refine ⟨.slice none 0 0, h.hl, ?_, World.ownsRow_nil _ _ _ _, zg.refl _ _⟩
 have e1 : (fun b o : Nat => clM I its (zG sn 0) b o) = fun b o => yj I b o := by
  funext b o
  exact clM_nil b o
 rw [e1]
 exact h.cl
theorem cnt_bdR {I : zk} {M : List zb} {p : zb} {j n : Nat} (h : M.length ≤ 20000) : 0 ≤ cntF I M p j n ∧ cntF I M p j n ≤ 20001 := by
 unfold cntF
 have : yX I M (n / 4096) (n % 4096) ≤ M.length := by unfold yX; exact List.countP_le_length
 split <;> omega
theorem cnt0_zero (I : zk) (sn : Nat → Bool) : cnt0 I (zG sn 0) = fun _ => 0 := by
 funext n
 simp [cnt0, zG, yX]
theorem mk_len {sn : Nat → Bool} {k n : Nat} (h : k ≤ n) : (zG sn k).length ≤ (zG sn n).length := by
 rw [marked_take h, List.length_take]
 omega
theorem LsR.bel {I : zk} {im : Obj} {w : World} {gl : Nat} {gs : List Nat} {vc vr : Value} {S : List RtR} {W0 W : World} (h : LsR I im w gl gs vc vr S W0) (t : zg (fun j => j = gl ∨ j ∈ gs) W0 W) : Below w.heap.size w W :=
 h.bx.bb.trans (t.toBelow h.bx.bb.size (fun k e => by
  rcases e with rfl | e
  ·have := h.lb; omega
  ·exact h.cl.lb k e))
theorem MlR.tr {I : zk} {its : List zb} {sn : Nat → Bool} {gl B : Nat} {gs : List Nat} {vc vr : Value} {w0 : World} {k : Nat} {W : World} (h : MlR I its sn gl B gs vc vr w0 k W) : zg (fun j => j = gl ∨ j ∈ gs) w0 W := by
 obtain ⟨vi, h⟩ := h
 exact h.tr
theorem TlR.tr {I : zk} {its : List zb} {sn : Nat → Bool} {gl B : Nat} {gs : List Nat} {vc vr : Value} {w0 : World} {k : Nat} {W : World} (h : TlR I its sn gl B gs vc vr w0 k W) : zg (fun j => j = gl ∨ j ∈ gs) w0 W := by
 obtain ⟨vi, h⟩ := h
 exact h.tr
theorem ofK_bd {k : Nat} (h : k < 524288) : 0 ≤ (ofK k).bank ∧ (ofK k).bank < 64 := ⟨show (0 : Int) ≤ ((k / 8192 : Nat) : Int) by omega, show ((k / 8192 : Nat) : Int) < 64 by omega⟩
section
variable {I : zk} (hI : I.Ok) (ba : Option Addr) (bc : Nat) (da : Option Addr) (dc : Nat) (ra : Option Addr) (rn rc : Nat) {im : Obj} {w wq W W2 : World} {gl : Nat} {gs : List Nat} {vc vr : Value} {S : List RtR} {its : List zb} {sn : Nat → Bool} {k nn : Nat} (hL : LsR I im w gl gs vc vr S wq) (hg : gs.length = I.banks.length) (hi : zG sn nn = its) (hk : k < nn) (hs : sn k = true) (hok : ∀ p ∈ its, okI I p ∧ yO p) (hV : yG w I ba bc da dc) (hb : Below W.heap.size W W2)
include hI hL hg hi hk hs hok hV hb
theorem ml_call {mm gcv : Nat} (hn : 524288 = nn) (hmm : 262144 = mm) (hlen : its.length ≤ 20000) (hcv : wq.heap[gcv]? = some (.cells (rowI mm (cnt0 I its)) 3 (0, 0))) (hM : MlR I its sn gl w.heap.size gs vc vr wq k W) :
  Calls Tryz.prog 47 #[.agg #[.slice ba I.banks.length bc, .int .u16 I.entry, .int .u16 I.vector, .slice da I.data.length dc, .slice ra rn rc], .pointer (some ⟨gl, 0, none⟩), .agg #[.int .i64 (ofK k).bank, .int .u16 (ofK k).addr], .slice (some ⟨gcv, 0, none⟩) mm mm] W2 (fun e W' => e = .returned (.tuple #[]) ∧ MlR I its sn gl w.heap.size gs vc vr wq (k + 1) W') := by
 have ht := hM.tr
 obtain ⟨vi, h⟩ := hM
 have hyo := hok (ofK k) (by rw [← hi]; exact marked_mem hk hs)
 have hml : (zG sn k).length ≤ 20000 := Nat.le_trans (mk_len (Nat.le_of_lt hk)) (by rw [hi]; exact hlen)
 have hfl := List.length_filter_le (yb I its) (zG sn k)
 exact (rmark_any I hI ba bc da dc ra rn rc (ofK k) hyo.1 hyo.2 gl w.heap.size gs hg (fun b o => clM I its (zG sn k) b o) vc vr vi (((zG sn k).filter (yb I its)).map fun p => (⟨40, p⟩ : zM)) (by rw [List.length_map]; omega) gcv mm (by omega) (cnt0 I its) (fun b o => yX I its b o) wq W2 ((hV.below (hL.bel ht)).below hb) (h.below hb) (za hb (ht.heap hcv (hL.ne hcv (by decide) (by decide)))) (cv_hf hmm (ofK_bd (by omega)))).mono (fun e W' h2 => ml_step hi hk hs h2)
theorem tl_call (hM : TlR I its sn gl w.heap.size gs vc vr wq k W) :
  Calls Tryz.prog 48 #[.agg #[.slice ba I.banks.length bc, .int .u16 I.entry, .int .u16 I.vector, .slice da I.data.length dc, .slice ra rn rc], .pointer (some ⟨gl, 0, none⟩), .agg #[.int .i64 (ofK k).bank, .int .u16 (ofK k).addr]] W2 (fun e W' => e = .returned (.tuple #[]) ∧ TlR I its sn gl w.heap.size gs vc vr wq (k + 1) W') := by
 have ht := hM.tr
 obtain ⟨vi, h⟩ := hM
 have hyo := hok (ofK k) (by rw [← hi]; exact marked_mem hk hs)
 exact (rtables_any I hI ba bc da dc ra rn rc (ofK k) hyo.1 hyo.2 gl w.heap.size gs hg (fun b o => clT (I := I) (its := its) ((zG sn k).flatMap fun p => (fl I p).tb) b o) vc vr vi ((its.filter (yb I its)).map fun p => (⟨40, p⟩ : zM)) wq W2 ((hV.below (hL.bel ht)).below hb) (h.below hb)).mono (fun e W' h2 => tl_step hi hk hs h2)
end
theorem ix_wrap {kb ko j bm bo ix : Nat} (h1 : kb < 64) (h2 : ko < 4096) (h3 : j ≤ 100) (hb : kb * 4096 = bm) (ho : bm + ko = bo) (hi : bo + j = ix) : wrap64 (wrap64 (wrap64 (wrap64 (kb : Int) * 4096) + (ko : Int)) + (j : Int)) = (ix : Int) := by
 have e0 : wrap64 (kb : Int) = (kb : Int) := by unfold wrap64; omega
 rw [e0]
 have e1 : wrap64 ((kb : Int) * 4096) = (bm : Int) := by unfold wrap64; omega
 rw [e1]
 have e2 : wrap64 ((bm : Int) + (ko : Int)) = (bo : Int) := by unfold wrap64; omega
 rw [e2]
 unfold wrap64
 omega
end Go.Proofs.YteofmaiojepdkaaGreat
