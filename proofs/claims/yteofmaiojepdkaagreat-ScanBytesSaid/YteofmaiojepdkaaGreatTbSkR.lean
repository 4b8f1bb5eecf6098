/- package scan: classes, walked. Condition: the image's banks have 4096 bytes. -/
import Derived.Test.YteofmaiojepdkaaGreatTbMpE
import Derived.OwnWalk
set_option linter.all false
namespace Go.Proofs.YteofmaiojepdkaaGreat
open Go Go.RowKit Go.Maps Go.Sort
abbrev RtR := xc × Value × Value × Value
def x6 (x : RtR) : List Value := [.int .i64 x.1.entry.bank, .int .u16 x.1.entry.addr, .bool x.1.thunk, .int .i64 x.1.dest.bank, .int .u16 x.1.dest.addr, x.2.1, x.2.2.1, x.2.2.2]
def rtvV (x : RtR) : Value := .agg #[.int .i64 x.1.entry.bank, .int .u16 x.1.entry.addr, .bool x.1.thunk, .int .i64 x.1.dest.bank, .int .u16 x.1.dest.addr, x.2.1, x.2.2.1, x.2.2.2]
def allL (R : List RtR) : List (zb × Value) := R.map fun x => (x.1.entry, rtvV x)
def yy (R : List RtR) : List zb := R.map fun x => x.1.entry
theorem entL_map (R : List RtR) : (R.map (·.1)).map (·.entry) = yy R := by unfold yy; rw [List.map_map]; rfl
theorem allL_keys (R : List RtR) : (allL R).map (·.1) = yy R := by unfold allL yy; rw [List.map_map]; rfl
theorem allL_put {R : List RtR} {x : RtR} (h : x.1.entry ∉ yy R) : xG x.1.entry (rtvV x) (allL R) = allL (R ++ [x]) := by
 rw [putL_new (by rw [allL_keys]; exact h)]
 simp [allL]
structure RnW (I : zk) (gk ga bw bq gw : Nat) (w0 : World) (R : List RtR) (V Q : List zb) (vq : Value) (W : World) : Prop where
 kn : KnW I gk W
 tr : zg (fun k => k = gk) w0 W
 wn : WnW w0.heap.size bw bq gw V Q vq W
 al : W.heap[ga]? = some (yc yL (allL R))
 rv : ∀ x ∈ R, RtV I w0.heap.size x.1 x.2.1 x.2.2.1 x.2.2.2 W
 ap : ∀ x ∈ R, ∀ k, x.2.2.1.ownBlock = some k → ¬ vq.ownBlock = some k
 lga : w0.heap.size ≤ ga
 lgw : w0.heap.size ≤ gw
 lbq : w0.heap.size ≤ bq
 lgk : gk < w0.heap.size
 naw : ga ≠ gw
section
variable {I : zk} {gk ga bw bq gw : Nat} {w0 W W' : World} {R : List RtR} {V Q : List zb} {vq : Value}
theorem RtV.turn {B : Nat} {r : xc} {c l s : Value} {bs : Nat → Prop} (h : RtV I B r c l s W) (t : zg bs W W') (h1 : ∀ k cs fr, W.heap[k]? = some (.cells cs 55 fr) → ¬ bs k) (h2 : ∀ k, l.ownBlock = some k → ¬ bs k) (h3 : ∀ k cs fr, W.heap[k]? = some (.cells cs 58 fr) → ¬ bs k) : RtV I B r c l s W' :=
 ⟨zi h.oc t (fun k hk => by obtain ⟨-, cs, hc⟩ := zz h.oc k hk; exact h1 k cs _ hc), zi h.ol t h2, zi h.oi t (fun k hk => by obtain ⟨-, cs, hc⟩ := zz h.oi k hk; exact h3 k cs _ hc)⟩
theorem RtV.below {B : Nat} {r : xc} {c l s : Value} (h : RtV I B r c l s W) (hb : Below W.heap.size W W') : RtV I B r c l s W' :=
 h.turn (zg.ofBelow (bs := fun _ => False) hb) (fun _ _ _ _ e => e) (fun _ _ e => e) (fun _ _ _ _ e => e)
theorem RtV.mono {B B' : Nat} {r : xc} {c l s : Value} (h : RtV I B r c l s W) (hB : B' ≤ B) : RtV I B' r c l s W := ⟨h.oc.mono hB, h.ol.mono hB, h.oi.mono hB⟩
theorem RnW.below (h : RnW I gk ga bw bq gw w0 R V Q vq W) (hb : Below W.heap.size W W') : RnW I gk ga bw bq gw w0 R V Q vq W' :=
 ⟨kn_below h.kn hb, h.tr.trans (zg.ofBelow (bs := fun _ => False) hb) (fun _ _ e => e.elim), h.wn.below hb, za hb h.al, fun x hx => (h.rv x hx).below hb, h.ap, h.lga, h.lgw, h.lbq, h.lgk, h.naw⟩
theorem WnW.keep {B : Nat} (h : WnW B bw bq gw V Q vq W) (t : zg (fun k => (k = gw ∨ k = bq) ∨ vq.ownBlock = some k) W W') {k : Nat} {cs : Array Value} {T : TypeId} {fr : Nat × Nat} (n1 : T ≠ 47) (n2 : T ≠ 40) (hc : W.heap[k]? = some (.cells cs T fr)) : W'.heap[k]? = some (.cells cs T fr) := t.heap hc (fun e => by
 rcases e with (rfl | rfl) | e
 ·rw [h.hw] at hc; cases hc
 ·rw [h.hbq] at hc
  injection hc with hc
  injection hc with _ hc
  exact n2 hc.symm
 ·obtain ⟨cs', hc'⟩ := h.oq.cells k e
  rw [hc'] at hc
  injection hc with hc
  injection hc with _ hc
  exact n1 hc.symm)
theorem RnW.want (h : RnW I gk ga bw bq gw w0 R V Q vq W) {l N : List zb} {vq' : Value} (hw : WnW w0.heap.size bw bq gw (V ++ N) (Q ++ N) vq' W') (t : zg (fun k => (k = gw ∨ k = bq) ∨ vq.ownBlock = some k) W W') (hv : vq'.ownBlock = vq.ownBlock ∨ ∃ k, vq'.ownBlock = some k ∧ W.heap.size ≤ k) : RnW I gk ga bw bq gw w0 R (V ++ N) (Q ++ N) vq' W' := by
 have hlt := h.wn.oq.lt
 have h1 := h.lgk
 have h2 := h.lgw
 have h3 := h.lbq
 have hcn : ∀ k cs T fr, T ≠ 47 → T ≠ 40 → W.heap[k]? = some (.cells cs T fr) → ¬ ((k = gw ∨ k = bq) ∨ vq.ownBlock = some k) := fun k cs T fr n1 n2 hc e => by
  rcases e with (rfl | rfl) | e
  ·rw [h.wn.hw] at hc; cases hc
  ·rw [h.wn.hbq] at hc
   injection hc with hc
   injection hc with _ hc
   exact n2 hc.symm
  ·obtain ⟨cs', hc'⟩ := h.wn.oq.cells k e
   rw [hc'] at hc
   injection hc with hc
   injection hc with _ hc
   exact n1 hc.symm
 obtain ⟨L, hL, hM⟩ := h.kn
 refine ⟨⟨L, t.heap hL (fun e => ?_), hM⟩, h.tr.trans t (fun k hk e => ?_), hw, t.heap h.al (fun e => ?_), fun x hx => (h.rv x hx).turn t (fun k cs fr hc => hcn k cs _ fr (by decide) (by decide) hc) (fun k hk e => ?_) (fun k cs fr hc => hcn k cs _ fr (by decide) (by decide) hc), fun x hx k hk e => ?_, h.lga, h.lgw, h.lbq, h.lgk, h.naw⟩
 ·rcases e with (e | e) | e
  ·omega
  ·omega
  ·have := (hlt gk e).1; omega
 ·rcases e with (e | e) | e
  ·omega
  ·omega
  ·have := (hlt k e).1; omega
 ·rcases e with (e | e) | e
  ·exact h.naw e
  ·have := h.al
   rw [e, h.wn.hbq] at this
   cases this
  ·obtain ⟨cs', hc'⟩ := h.wn.oq.cells ga e
   rw [h.al] at hc'
   cases hc'
 ·rcases e with (rfl | rfl) | e
  ·obtain ⟨-, cs, hc⟩ := zz (h.rv x hx).ol k hk
   rw [h.wn.hw] at hc; cases hc
  ·obtain ⟨-, cs, hc⟩ := zz (h.rv x hx).ol k hk
   rw [h.wn.hbq] at hc
   injection hc with hc
   exact zm (by decide) hc.symm
  ·exact h.ap x hx k hk e
 ·rcases hv with hv | ⟨k2, hv, hz⟩
  ·rw [hv] at e; exact h.ap x hx k hk e
  ·rw [hv] at e
   injection e with e
   have := ((h.rv x hx).ol.lt k hk).2
   omega
theorem RnW.rtn (h : RnW I gk ga bw bq gw w0 R V Q vq W) (t : zg (fun k => k = gk) W W') (hk : KnW I gk W') : RnW I gk ga bw bq gw w0 R V Q vq W' := by
 obtain ⟨L, hL, hM⟩ := h.kn
 have h1 := h.lgk
 have h2 := h.lgw
 have h3 := h.lbq
 have h4 := h.lga
 have hcn : ∀ k cs T fr, W.heap[k]? = some (.cells cs T fr) → ¬ k = gk := fun k cs T fr hc e => by rw [e, hL] at hc; cases hc
 exact ⟨hk, h.tr.trans t (fun _ _ e => e), ⟨t.heap h.wn.hbw (hcn _ _ _ _ h.wn.hbw), t.heap h.wn.hw (by omega), h.wn.nv, t.heap h.wn.hbq (by omega), h.wn.oq.turn t (fun k hk e => by have := (h.wn.oq.lt k hk).1; omega)⟩, t.heap h.al (by omega), fun x hx => (h.rv x hx).turn t (fun k cs fr hc => hcn _ _ _ _ hc) (fun k hk e => by have := ((h.rv x hx).ol.lt k hk).1; omega) (fun k cs fr hc => hcn _ _ _ _ hc), h.ap, h.lga, h.lgw, h.lbq, h.lgk, h.naw⟩
theorem RnW.other {bs : Nat → Prop} (h : RnW I gk ga bw bq gw w0 R V Q vq W) (t : zg bs W W') (hb : ∀ k, bs k → w0.heap.size ≤ k ∧ ∃ cs fr, W.heap[k]? = some (.cells cs 50 fr)) : RnW I gk ga bw bq gw w0 R V Q vq W' := by
 have hn : ∀ {b : Nat} {o : Obj}, W.heap[b]? = some o → (∀ cs fr, o ≠ .cells cs 50 fr) → ¬ bs b := fun hk hno e => by
  obtain ⟨-, cs, fr, hc⟩ := hb _ e
  rw [hk] at hc
  injection hc with hc
  exact hno _ _ hc
 obtain ⟨L, hL, hM⟩ := h.kn
 exact ⟨⟨L, t.heap hL (hn hL (fun _ _ => zY)), hM⟩, h.tr.trans t (fun k hk e => by have := (hb k e).1; omega), ⟨t.heap h.wn.hbw (hn h.wn.hbw (fun _ _ => zm (by decide))), t.heap h.wn.hw (hn h.wn.hw (fun _ _ => zY)), h.wn.nv, t.heap h.wn.hbq (hn h.wn.hbq (fun _ _ => zm (by decide))), h.wn.oq.turn t (fun k hk => by obtain ⟨cs, hc⟩ := h.wn.oq.cells k hk; exact hn hc (fun _ _ => zm (by decide)))⟩, t.heap h.al (hn h.al (fun _ _ => zY)), fun x hx => (h.rv x hx).turn t (fun k cs fr hc => hn hc (fun _ _ => zm (by decide))) (fun k hk => by obtain ⟨-, cs, hc⟩ := zz (h.rv x hx).ol k hk; exact hn hc (fun _ _ => zm (by decide))) (fun k cs fr hc => hn hc (fun _ _ => zm (by decide))), h.ap, h.lga, h.lgw, h.lbq, h.lgk, h.naw⟩
theorem RnW.put (h : RnW I gk ga bw bq gw w0 R V Q vq W) {x : RtR} (hn : x.1.entry ∉ yy R) (hm : W'.heap[ga]? = some (yc yL (xG x.1.entry (rtvV x) (allL R)))) (hg : W.grownBy W' (some ga)) (hv : RtV I w0.heap.size x.1 x.2.1 x.2.2.1 x.2.2.2 W) (ha : ∀ k, x.2.2.1.ownBlock = some k → ¬ vq.ownBlock = some k) : RnW I gk ga bw bq gw w0 (R ++ [x]) V Q vq W' := by
 have t : zg (fun k => k = ga) W W' := (zg.refl _ W).grown hg (fun k e _ => by injection e with e; exact e.symm)
 have h1 := h.lgk
 have h4 := h.lga
 have hcn : ∀ k cs T fr, W.heap[k]? = some (.cells cs T fr) → ¬ k = ga := fun k cs T fr hc e => by rw [e, h.al] at hc; cases hc
 have hrt : ∀ y : RtR, RtV I w0.heap.size y.1 y.2.1 y.2.2.1 y.2.2.2 W → RtV I w0.heap.size y.1 y.2.1 y.2.2.1 y.2.2.2 W' := fun y hy => hy.turn t (fun k cs fr hc => hcn _ _ _ _ hc) (fun k hk => by obtain ⟨-, cs, hc⟩ := zz hy.ol k hk; exact hcn _ _ _ _ hc) (fun k cs fr hc => hcn _ _ _ _ hc)
 rw [allL_put hn] at hm
 obtain ⟨L, hL, hM⟩ := h.kn
 refine ⟨⟨L, t.heap hL (by omega), hM⟩, h.tr.trans t (fun k hk e => by omega), ⟨t.heap h.wn.hbw (hcn _ _ _ _ h.wn.hbw), t.heap h.wn.hw (fun e => h.naw e.symm), h.wn.nv, t.heap h.wn.hbq (hcn _ _ _ _ h.wn.hbq), h.wn.oq.turn t (h.wn.oq.ne h.al (fun _ _ => zY))⟩, hm, fun y hy => ?_, fun y hy => ?_, h.lga, h.lgw, h.lbq, h.lgk, h.naw⟩
 ·rcases List.mem_append.1 hy with hy | hy
  ·exact hrt y (h.rv y hy)
  ·rw [List.mem_singleton.1 hy]; exact hrt x hv
 ·rcases List.mem_append.1 hy with hy | hy
  ·exact h.ap y hy
  ·rw [List.mem_singleton.1 hy]; exact ha
theorem RnW.pop (h : RnW I gk ga bw bq gw w0 R V Q vq W) {v' : Value} {Q' : List zb} (hv : v'.ownBlock = vq.ownBlock) (ho : jk W w0.heap.size 47 2 v' Q'.length (zp Q')) : RnW I gk ga bw bq gw w0 R V Q' v' (W.setCell ⟨bq, 0, none⟩ v') := by
 have t : zg (fun k => k = bq) W (W.setCell ⟨bq, 0, none⟩ v') := (zg.refl _ W).setCell _ (fun _ => rfl)
 have h3 := h.lbq
 have hn : ∀ {b : Nat} {o : Obj}, W.heap[b]? = some o → (∀ cs fr, o ≠ .cells cs 40 fr) → ¬ b = bq := fun hb hno e => by
  rw [e, h.wn.hbq] at hb
  injection hb with hb
  exact hno _ _ hb.symm
 obtain ⟨L, hL, hM⟩ := h.kn
 exact ⟨⟨L, t.heap hL (hn hL (fun _ _ => zY)), hM⟩, h.tr.trans t (fun k hk e => by omega), ⟨t.heap h.wn.hbw (hn h.wn.hbw (fun _ _ => zm (by decide))), t.heap h.wn.hw (hn h.wn.hw (fun _ _ => zY)), h.wn.nv, heap_setCell_same h.wn.hbq (i := 0) v', .inr (ho.turn t (ownQ_ne ho h.wn.hbq (fun _ _ => zm (by decide))))⟩, t.heap h.al (hn h.al (fun _ _ => zY)), fun x hx => (h.rv x hx).turn t (fun k cs fr hc => hn hc (fun _ _ => zm (by decide))) (fun k hk => by obtain ⟨-, cs, hc⟩ := zz (h.rv x hx).ol k hk; exact hn hc (fun _ _ => zm (by decide))) (fun k cs fr hc => hn hc (fun _ _ => zm (by decide))), fun x hx k hk => by rw [hv]; exact h.ap x hx k hk, h.lga, h.lgw, h.lbq, h.lgk, h.naw⟩
end
end Go.Proofs.YteofmaiojepdkaaGreat
namespace Go.Proofs.YteofmaiojepdkaaGreat
open Go Go.RowKit Go.Maps Go.Sort
theorem infoU8 : (Tryz.prog.info? 5).map (fun i => (i.zero, i.size, i.bytes)) = some (some (.int .u8 0), 1, 1) := by kernel_rfl
theorem infoBys : (Tryz.prog.info? 73).map (fun i => (i.zero, i.size, i.bytes)) = some (some (.slice none 0 0), 1, 24) := by kernel_rfl
def rowN (n : Nat) (f : Nat → Int) : Array Value := ((List.range n).map fun o => Value.int .u8 (f o)).toArray
def rowC (f : Nat → Int) : Array Value := rowN 4096 f
theorem rowN_get {n : Nat} (f : Nat → Int) {o : Nat} (h : o < n) : (rowN n f)[o]? = some (.int .u8 (f o)) := by
 unfold rowN
 simp [h]
theorem rowN_size (n : Nat) (f : Nat → Int) : (rowN n f).size = n := by unfold rowN; simp
theorem yM (f : Nat → Int) {o : Nat} (h : o < 4096) : (rowC f)[o]? = some (.int .u8 (f o)) := rowN_get f h
theorem rowC_size (f : Nat → Int) : (rowC f).size = 4096 := rowN_size 4096 f
theorem rowC_set (f : Nat → Int) (k : Nat) (v : Int) : (rowC f).setIfInBounds k (.int .u8 v) = rowC (fun o => if o = k then v else f o) := by
 apply Array.ext_getElem?
 intro i
 rw [Array.getElem?_setIfInBounds]
 by_cases hi : i < 4096
 ·by_cases hk : k = i
  ·subst hk
   rw [if_pos rfl, if_pos (by rw [rowC_size]; exact hi), yM _ hi, if_pos rfl]
  ·rw [if_neg hk, yM _ hi, yM _ hi, if_neg (fun e => hk e.symm)]
 ·have h1 : (rowC f)[i]? = none := Array.getElem?_eq_none (by rw [rowC_size]; omega)
  have h2 : (rowC (fun o => if o = k then v else f o))[i]? = none := Array.getElem?_eq_none (by rw [rowC_size]; omega)
  rw [h1, h2]
  by_cases hk : k = i
  ·rw [if_pos hk, if_neg (by rw [rowC_size]; omega)]
  ·rw [if_neg hk]
theorem rowN_congr {n : Nat} {f g : Nat → Int} (h : ∀ o, o < n → f o = g o) : rowN n f = rowN n g := by
 unfold rowN
 congr 1
 exact List.map_congr_left fun o ho => by rw [h o (List.mem_range.1 ho)]
theorem rowC_congr {f g : Nat → Int} (h : ∀ o, o < 4096 → f o = g o) : rowC f = rowC g := rowN_congr h
theorem made_zero (n : Nat) : rowN n (fun _ => 0) = ((madeCells (Value.int .u8 0).cells (n * 1)).toList).toArray := by
 apply Array.ext_getElem?
 intro i
 unfold rowN
 by_cases hi : i < n
 ·simp [madeCells, Value.cells, hi, Nat.mod_one]
 ·simp [madeCells, Value.cells, hi]
theorem rowC_zero : rowC (fun _ => 0) = ((madeCells (Value.int .u8 0).cells (4096 * 1)).toList).toArray := made_zero 4096
theorem own_fullS {w : World} {B : Nat} {e : TypeId} {g n : Nat} {xs : List Value} (h : w.ownsRow B e 1 (.slice (some ⟨g, 0, none⟩) n n) n xs) : w.heap[g]? = some (.cells xs.toArray e (0, 0)) := by
 obtain ⟨hl, h⟩ := h
 rcases h with ⟨h, -⟩ | ⟨g', c, cur, h, hB, hg, h1, h2, h3, h4⟩
 ·cases h
 ·simp only [Value.slice.injEq, Option.some.injEq, Addr.mk.injEq, and_true, true_and] at h
  obtain ⟨rfl, rfl⟩ := h
  have : cur = xs.toArray := by
   apply Array.ext'
   show cur.toList = xs
   have h5 : cur.toList.take (n * 1) = cur.toList := List.take_of_length_le (by simp; omega)
   rw [← h4, h5]
  rw [hg, this]
def upN (f : Nat → Int) (k o : Nat) : Int := if o < k then f o else 0
theorem upN_zero (f : Nat → Int) : upN f 0 = fun _ => 0 := by funext o; simp [upN]
theorem upN_put (f : Nat → Int) (k : Nat) (v : Int) (h : f k = v) : (fun o => if o = k then v else upN f k o) = upN f (k + 1) := by
 funext o
 unfold upN
 by_cases h1 : o = k
 ·subst h1; simp [h]
 ·rw [if_neg h1]
  by_cases h2 : o < k
  ·rw [if_pos h2, if_pos (by omega)]
  ·rw [if_neg h2, if_neg (by omega)]
theorem upN_same (f : Nat → Int) (k : Nat) (h : f k = 0) : upN f (k + 1) = upN f k := by
 rw [← upN_put f k 0 h]
 funext o
 by_cases h1 : o = k
 ·subst h1; simp [upN]
 ·rw [if_neg h1]
theorem upN_full (f : Nat → Int) : rowC (upN f 4096) = rowC f := rowC_congr fun o ho => by unfold upN; rw [if_pos ho]
def clV (g : Nat) : Value := .slice (some ⟨g, 0, none⟩) 4096 4096
structure xM (B : Nat) (gs : List Nat) (c : Nat → Nat → Int) (v : Value) (W : World) : Prop where
 own : W.ownsRow B 73 1 v gs.length (gs.map clV)
 nd : gs.Nodup
 lb : ∀ g ∈ gs, B ≤ g
 row : ∀ b g : Nat, gs[b]? = some g → W.heap[g]? = some (.cells (rowC (c b)) 5 (0, 0))
theorem xM.turn {B : Nat} {gs : List Nat} {c : Nat → Nat → Int} {v : Value} {W W' : World} {bs : Nat → Prop} (h : xM B gs c v W) (t : zg bs W W') (hb : ∀ k cs T fr, W.heap[k]? = some (.cells cs T fr) → T = 5 ∨ T = 73 → ¬ bs k) : xM B gs c v W' :=
 ⟨zi h.own t (fun k hk => by obtain ⟨-, cs, hc⟩ := zz h.own k hk; exact hb k cs _ _ hc (.inr rfl)), h.nd, h.lb, fun b g hg => t.heap (h.row b g hg) (hb g _ _ _ (h.row b g hg) (.inl rfl))⟩
theorem xM.below {B : Nat} {gs : List Nat} {c : Nat → Nat → Int} {v : Value} {W W' : World} (h : xM B gs c v W) (hb : Below W.heap.size W W') : xM B gs c v W' :=
 h.turn (zg.ofBelow (bs := fun _ => False) hb) (fun _ _ _ _ _ _ e => e)
theorem jb {w w' : World} (h : w.grownBy w' none) : Below w.heap.size w w' := ((zg.refl (fun _ => False) w).grown h (fun k e => by cases e)).toBelow (zn _) fun k hk => hk.elim
theorem xM.aside {B : Nat} {gs : List Nat} {c : Nat → Nat → Int} {v : Value} {W : World} (h : xM B gs c v W) {gc k : Nat} {x : Value} {cs : Array Value} {fr : Nat × Nat} (hc : W.heap[gc]? = some (.cells cs 5 fr)) (hn : ∀ g ∈ gs, g < gc) : xM B gs c v (W.setCell ⟨gc, k, none⟩ x) :=
 ⟨zi h.own ((zg.refl (fun j => j = gc) W).setCell _ (fun _ => rfl)) (ye h.own hc (fun _ _ => zm (by decide))), h.nd, h.lb, fun b g hg => by
  have h1 := hn g (List.mem_of_getElem? hg)
  rw [heap_setCell_other (by omega)]
  exact h.row b g hg⟩
theorem xM.snoc {B : Nat} {gs : List Nat} {c : Nat → Nat → Int} {v v' : Value} {W W' : World} (h : xM B gs c v W) {gc : Nat} (hc : W.heap[gc]? = some (.cells (rowC (c gs.length)) 5 (0, 0))) (hn : ∀ g ∈ gs, g < gc) (hB : B ≤ gc) (ho : W'.ownsRow B 73 1 v' (gs.length + 1) (gs.map clV ++ [clV gc])) (hg : W.grownBy W' v.ownBlock) : xM B (gs ++ [gc]) c v' W' := by
 have t : zg (fun k => v.ownBlock = some k) W W' := (zg.refl _ W).grown hg (fun k e _ => e)
 have hk : ∀ {b : Nat} {cs : Array Value} {fr : Nat × Nat}, W.heap[b]? = some (.cells cs 5 fr) → W'.heap[b]? = some (.cells cs 5 fr) := fun hb => t.heap hb (xY h.own hb (fun _ _ => zm (by decide)))
 refine ⟨by rw [List.length_append, List.map_append]; exact ho, List.nodup_append.2 ⟨h.nd, by simp, fun a ha b hb e => ?_⟩, fun g hg => ?_, fun b g hg => ?_⟩
 ·rw [List.mem_singleton.1 hb] at e
  have := hn a ha
  omega
 ·rcases List.mem_append.1 hg with hg | hg
  ·exact h.lb g hg
  ·rw [List.mem_singleton.1 hg]; exact hB
 ·by_cases hb : b < gs.length
  ·rw [List.getElem?_append_left hb] at hg
   exact hk (h.row b g hg)
  ·rw [List.getElem?_append_right (by omega)] at hg
   have hb2 : b - gs.length = 0 := by
    have := (List.getElem?_eq_some_iff.1 hg).1
    simp at this
    omega
   have hb3 : b = gs.length := by omega
   rw [hb2] at hg
   simp only [List.getElem?_cons_zero, Option.some.injEq] at hg
   subst hg
   subst hb3
   exact hk hc
theorem Bx.grown1 {a : Obj} {w W W' : World} (h : Bx [a] w W) {row : Option Nat} (hg : W.grownBy W' row) (hn : row ≠ some w.heap.size) (hl : ∀ k, row = some k → w.heap.size ≤ k) : Bx [a] w W' :=
 ⟨fun i o hi => by
  have h1 := h.at_ i o hi
  have hi0 : i = 0 := by
   have := (List.getElem?_eq_some_iff.1 hi).1
   simp at this
   exact this
  subst hi0
  exact (hg.block _ (Array.getElem?_eq_some_iff.1 h1).1 (fun e => hn e.symm)).trans h1, Nat.le_trans h.z hg.size, h.bb.grown hg h.bb.size hl⟩
set_option maxRecDepth 100000 in
set_option maxHeartbeats 4000000 in
theorem classes_any (I : zk) (hI : I.Ok) (ba : Option Addr) (bc : Nat) (da : Option Addr) (dc : Nat) (ra : Option Addr) (rn rc : Nat) (w : World) (hV : yG w I ba bc da dc) :
  Calls Tryz.prog 40 #[.agg #[.slice ba I.banks.length bc, .int .u16 I.entry, .int .u16 I.vector, .slice da I.data.length dc, .slice ra rn rc]] w fun e w' => ∃ gs v, e = .returned v ∧ gs.length = I.banks.length ∧ xM w.heap.size gs (fun b o => yj I b o) v w' ∧ Below w.heap.size w w' := by
 have HI := zh hI
 have HV := zh hV
 have HB0 := zh (Bx.one w (z6 I ba bc da dc ra rn rc))
 have hn1 := hI.n64
 have hle := hV.bk.le
 have hc0 := fun o => cell_of_row _ w.heap.size o _ _ _ HB0.out.b0
 clear hI hV
 go_enter Tryz.func40, Tryz.ntmps40
 go_wp2_with fail
 clear hc0
 go_loopw [3, 14] (fun vo i wr => ∃ gs : List Nat, gs.length ≤ I.banks.length ∧ i = .int .i64 gs.length ∧ Hid (xM w.heap.size gs (fun b o => yj I b o) vo wr) ∧ Hid (Bx [z6 I ba bc da dc ra rn rc] w wr)) (fun _ i _ => I.banks.length - (intOf i).toNat)
 case atStart => exact ⟨[], Nat.zero_le _, rfl, zh ⟨World.ownsRow_nil _ _ _ _, List.nodup_nil, by simp, by simp⟩, HB0⟩
 case round =>
  clear HB0
  obtain ⟨gs, hgl, rfl, HC, HB⟩ := hrel
  by_cases hlt : gs.length < I.banks.length
  ·obtain ⟨s, hs⟩ : ∃ s, I.banks[gs.length]? = some s := ⟨_, List.getElem?_eq_getElem hlt⟩
   have hsz : s.size = 4096 := HI.out.sz s (List.mem_of_getElem? hs)
   obtain ⟨g, off, hAe, hgs, hcell, -, -⟩ := (HV.out.below HB.out.bb).bank hs
   subst hAe
   have HLT := zh hlt
   have HGL := zh hgl
   clear hgl hs
   obtain ⟨iU, hiU, hzU, hzU1, hzU2⟩ := info_parts infoU8
   go_upto_region 6 with (refine wpList_make_full _ rfl _ _ 73 rfl wr.heap.size 5 iU (.int .u8 0) 1 Tryz.underlying73 hiU hzU hzU1 .i64 .i64 4096 4096 4096 rfl rfl rfl rfl (by rw [hzU2]; decide) (by decide) (zn _) ?_; intro w3 ho3 hg3)
   have h3 := own_fullS ho3
   rw [← rowC_zero] at h3
   have hb3 := jb hg3
   have H3 := zh h3
   have HC3 := zh (HC.out.below hb3)
   have HB3 := zh (HB.out.stay hb3)
   have HZ := zh HB.out.z
   obtain ⟨gc, hgc⟩ : ∃ gc, wr.heap.size = gc := ⟨_, rfl⟩
   have HNG := zh (show ∀ g ∈ gs, g < gc from fun g hg => by
    obtain ⟨b, hb, he⟩ := List.mem_iff_getElem.1 hg
    have h1 := HC.out.row b g (by rw [List.getElem?_eq_getElem hb, he])
    rw [← hgc]
    exact (Array.getElem?_eq_some_iff.1 h1).1)
   rw [hgc] at H3 HZ ⊢
   clear ho3 hg3 h3 hb3 hgc hiU hzU hzU1 hzU2 iU
   go_wp2_with fail
   obtain ⟨wo, rfl⟩ : ∃ wo : World, wo = wr := ⟨_, rfl⟩
   go_loopw [24] (fun i wr => ∃ k : Nat, k ≤ 4096 ∧ i = .int .i64 k ∧ Hid (wr.heap[gc]? = some (.cells (rowC (upN (fun o => yj I gs.length o) k)) 5 (0, 0))) ∧ Hid (xM w.heap.size gs (fun b o => yj I b o) u3 wr) ∧ Hid (Bx [z6 I (some ⟨g, off, none⟩) bc da dc ra rn rc] w wr)) (fun i _ => 4096 - (intOf i).toNat)
   case atStart => exact ⟨0, by omega, rfl, zh (by rw [upN_zero]; exact H3.out), HC3, HB3⟩
   case round =>
    clear H3 HC3 HB3 HC HB
    obtain ⟨k, hk, rfl, H3, HC, HB⟩ := hrel
    by_cases hkl : k < 4096
    ·have HOB := zh (fun W hv => iobj_any I HI.out (some ⟨g, off, none⟩) bc da dc gs.length (k : Int) (by omega) (by omega) W hv)
     have hwr : IntKind.u16.wrap (k : Int) = k := by unfold IntKind.wrap; simp [IntKind.bits, IntKind.signed]; omega
     have hc0 := fun o => cell_of_row wr w.heap.size o _ _ _ HB.out.b0
     have HVR := zh (HV.out.below HB.out.bb)
     have hkc : wr.cell? ⟨gc, k, none⟩ = some (.int .u8 0) := by
      rw [cell_of_row _ _ _ _ _ _ H3.out, yM _ hkl]
      unfold upN
      rw [if_neg (by omega)]
     have hgcl := (Array.getElem?_eq_some_iff.1 H3.out).1
     have HKL := zh hkl
     generalize hfo : inObj I gs.length k = fo at HOB
     have HFO := zh (show yj I gs.length k = if fo then 5 else 0 by unfold yj; rw [hfo])
     clear hfo
     go_upto_region 10 with (go_at_call 69; (with_reducible refine (HOB.out _ HVR.out).mono ?_); rintro e5 w5 ⟨x5, y5, rfl, hb5⟩; have H35 := zh (za hb5 H3.out); have HC5 := zh (HC.out.below hb5); have HB5 := zh (HB.out.stay hb5); have HS5 := zh hb5.size; clear hb5)
     have hk1 := HKL.out
     clear hkc hc0
     cases fo with
     | true =>
      have hk5 : w5.cell? ⟨gc, k, none⟩ = some (.int .u8 0) := by
       rw [cell_of_row _ _ _ _ _ _ H35.out, yM _ hk1]
       unfold upN
       rw [if_neg (by omega)]
      have hf5 : w5.frozen? ⟨gc, k, none⟩ = false := frozen_of_row _ _ _ _ _ H35.out
      have hk6 : (k : Int) < 65536 := by omega
      go_upto_if 41 with fail
      go_wp2_with fail
      go_roundw
      case rel => exact ⟨k + 1, HKL.out, by go_num, zh (by rw [← upN_put (fun o => yj I gs.length o) k 5 HFO.out, ← rowC_set]; exact heap_setCell_same H35.out (i := k) _), zh (HC5.out.aside H35.out HNG.out), zh (HB5.out.keep ((Below.refl _ _).setCell (p := ⟨gc, k, none⟩) HZ.out _))⟩
      case measure => have h1 := HKL.out; simp [intOf]; omega
     | false =>
      go_wp2_with fail
      go_roundw
      case rel => exact ⟨k + 1, HKL.out, by go_num, zh (by rw [upN_same (fun o => yj I gs.length o) k HFO.out]; exact H35.out), HC5, HB5⟩
      case measure => have h1 := HKL.out; simp [intOf]; omega
    ·obtain rfl : k = 4096 := by omega
     have h3 := H3.out
     rw [upN_full] at h3
     have H3F := zh h3
     clear h3 H3
     have hgcl := (Array.getElem?_eq_some_iff.1 H3F.out).1
     have HOa := zh (HC.out.own.alloc (.cells #[clV gc] 73))
     have hb2 : Below wr.heap.size wr (wr.alloc (.cells #[clV gc] 73)) := (Below.refl _ _).alloc (zn _) _
     have HCa := zh (HC.out.below hb2)
     have HBa := zh (HB.out.stay hb2)
     have H3a := zh (za hb2 H3F.out)
     have HBS := zh (show w.heap.size ≤ (wr.alloc (.cells #[clV gc] 73)).heap.size from Nat.le_trans HB.out.bb.size hb2.size)
     have hgl2 : gs.length ≤ 100000000000 := by have := HGL.out; omega
     have HG2 := zh hgl2
     have hk1 := HLT.out
     clear hb2 hgl2
     go_wp2_with (first
      | (refine zJ (.tmp 46) (.tmp 48) 34 73 rfl 1 24 _ infoBys Tryz.underlying34 rfl (by decide) (by decide) w.heap.size HBS.out u3 gs.length (gs.map clV) rfl HOa.out HG2.out wr.heap.size 1 _ _ _ rfl (heap_alloc_new wr _) rfl rfl (by decide) (by decide) rfl ?_
         intro ga cp w6 ho6 hg6 hv6
         have HO6 := zh ho6
         have HGR := zh hg6
         clear ho6 hg6 hv6))
     have hbx := HBa.out.grown1 HGR.out (fun e => ye HOa.out HBa.out.b0 (fun _ _ => zm (by decide)) _ e rfl) (fun k e => (HOa.out.lt k e).1)
     go_roundw
     case rel => exact ⟨gs ++ [gc], by have := HLT.out; simp; omega, by simp, zh (HCa.out.snoc H3a.out HNG.out (Nat.le_of_succ_le (by have := HZ.out; simpa using this)) HO6.out HGR.out), zh hbx⟩
     case measure => have h1 := HLT.out; simp [intOf]; omega
  ·have hge : gs.length = I.banks.length := by omega
   go_wp2_with fail
   go_ret
   exact ⟨gs, _, rfl, hge, HC.out, HB.out.bb⟩
end Go.Proofs.YteofmaiojepdkaaGreat
