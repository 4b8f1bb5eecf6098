/- The reference of chapter 04: Laid, walked: three banks, two of them nearly empty, the third filled. Condition: what it states. -/
import Derived.Test.YteofmaiojepdkaaGreatTeRmC
set_option linter.all false
namespace Go.Proofs.YteofmaiojepdkaaGreat
open Go Go.RowKit Go.Maps Go.Sort
abbrev boxQ (N : Nat → Int) : Obj := .cells #[.int .i64 (N 0), .int .i64 (N 1), .int .i64 (N 2), .int .i64 (N 3)] 23
theorem infoU16 : (Tryz.prog.info? 27).map (fun i => (i.zero, i.size, i.bytes)) = some (some (.int .u16 0), 1, 2) := by kernel_rfl
theorem and7_bd (n : Int) : 0 ≤ bits .and .i64 n 7 ∧ bits .and .i64 n 7 < 8 := by rw [i64_and7]; omega
theorem FivV.cut {w : World} {p : Option Addr} {n cap : Nat} {Q : Nat → Nat → Int} (h : FivV w (.slice p n cap) n Q) {m : Nat} (hm : m ≤ n) : FivV w (.slice p m cap) m Q := by
 obtain ⟨p', cap', e, hc, hx⟩ := h
 injection e with e1 _ e2
 subst e1 e2
 refine ⟨_, _, rfl, by omega, fun h0 => ?_⟩
 obtain ⟨g, off, c, t, fr, e, hg, hrow⟩ := hx (by omega)
 exact ⟨g, off, c, t, fr, e, hg, fun i hi => hrow i (by omega)⟩
theorem FivV.drop {w : World} {g off n cap : Nat} {Q : Nat → Nat → Int} (h : FivV w (.slice (some ⟨g, off, none⟩) n cap) n Q) {m : Nat} (hm : m ≤ n) : FivV w (.slice (some ⟨g, off + m * 5, none⟩) (n - m) (cap - m)) (n - m) (fun i j => Q (m + i) j) := by
 obtain ⟨p', cap', e, hc, hx⟩ := h
 injection e with e1 _ e2
 subst e1 e2
 refine ⟨_, _, rfl, by omega, fun h0 => ?_⟩
 obtain ⟨g', off', c, t, fr, e, hg, hrow⟩ := hx (by omega)
 injection e with e
 injection e with e1 e2
 subst e1 e2
 refine ⟨_, _, c, t, fr, rfl, hg, fun i hi => ?_⟩
 have := hrow (m + i) (by omega)
 rw [show off + m * 5 + i * 5 = off + (m + i) * 5 by omega]
 exact this
def pickP (c n : Nat) (p y : Option Addr) : Option Addr := if c = n then p else y
theorem results_row_row {P : Program} {fn : Func} {p q : Tmp} {ty ty2 : TypeId} (h : fn.results = #[.cell p ty, .cell q ty2]) (tmps : Array Value) (w : World) (g g2 : Nat) (t t2 : TypeId) (cs cs2 : Array Value) (fr fr2 : Nat × Nat) (d d2 : TypeDesc)
  (hp : tmps.getD p undef = .pointer (some ⟨g, 0, none⟩)) (hq : tmps.getD q undef = .pointer (some ⟨g2, 0, none⟩)) (hg : w.heap[g]? = some (.cells cs t fr)) (hg2 : w.heap[g2]? = some (.cells cs2 t2 fr2))
  (hu : P.underlying ty = some d) (hd : (match d with | .struct _ | .array _ _ => true | _ => false) = true) (hi : (P.info? ty).map (·.size) = some cs.size)
  (hu2 : P.underlying ty2 = some d2) (hd2 : (match d2 with | .struct _ | .array _ _ => true | _ => false) = true) (hi2 : (P.info? ty2).map (·.size) = some cs2.size) :
  (results fn tmps).run P w = .ok (.tuple #[.agg cs, .agg cs2]) w := by
 have hp' : tmps[p]?.getD undef = .pointer (some ⟨g, 0, none⟩) := by simpa using hp
 have hq' : tmps[q]?.getD undef = .pointer (some ⟨g2, 0, none⟩) := by simpa using hq
 simp [results, h, hp', hq', asAddr, Result.andThen, run_loadVar_row w g t ty cs fr d hg hu hd hi, run_loadVar_row w g2 t2 ty2 cs2 fr2 d2 hg2 hu2 hd2 hi2]
structure S4W (w : World) (N : Nat → Int) (gb gi gs : Nat) (b0 b1 b2 : ByteArray) (vv : Int) (c : Array Value) (st : Value) (W : World) : Prop where
 hx : Bx [boxQ N, imgC (.slice none 0 0) 0 (.slice none 0 0), snp0] w W
 bk : W.heap[gb]? = some (.cells #[.string b0, .string b1, .string b2] 9 (0, 0))
 im : W.heap[gi]? = some (imgC (.slice (some ⟨gb, 0, none⟩) 3 3) vv (.slice none 0 0))
 sn : W.heap[gs]? = some (.cells c 133 (0, 0))
 ow : ∃ A n cap xs, st = .slice A n cap ∧ n ≤ 100 ∧ W.ownsRow w.heap.size 27 1 st n xs
 lb : w.heap.size + 3 ≤ gs
 lg : w.heap.size ≤ gb
 li : w.heap.size + 3 ≤ gi
structure S3W (w : World) (N : Nat → Int) (gb gi : Nat) (b0 b1 b2 : ByteArray) (vv : Int) (W : World) : Prop where
 hx : Bx [boxQ N, imgC (.slice none 0 0) 0 (.slice none 0 0), snp0] w W
 bk : W.heap[gb]? = some (.cells #[.string b0, .string b1, .string b2] 9 (0, 0))
 im : W.heap[gi]? = some (imgC (.slice (some ⟨gb, 0, none⟩) 3 3) vv (.slice none 0 0))
 lg : w.heap.size ≤ gb
 li : w.heap.size + 3 ≤ gi
theorem S3W.below {w : World} {N : Nat → Int} {gb gi : Nat} {b0 b1 b2 : ByteArray} {vv : Int} {W W' : World} (h : S3W w N gb gi b0 b1 b2 vv W) (hb : Below W.heap.size W W') : S3W w N gb gi b0 b1 b2 vv W' := ⟨h.hx.stay hb, za hb h.bk, za hb h.im, h.lg, h.li⟩
theorem S3W.vec {w : World} {N : Nat → Int} {gb gi : Nat} {b0 b1 b2 : ByteArray} {vv x : Int} {W : World} (h : S3W w N gb gi b0 b1 b2 vv W) : S3W w N gb gi b0 b1 b2 x (W.setCell ⟨gi, 2, none⟩ (.int .u16 x)) := by
 have h1 : gb ≠ gi := fun e => by have h1 := h.bk; rw [e, h.im] at h1; injection h1 with h1; injection h1 with h1 h2; exact absurd h2 (by decide)
 refine ⟨h.hx.keep ((Below.refl _ _).setCell (p := ⟨gi, 2, none⟩) h.li _), by rw [heap_setCell_other h1]; exact h.bk, ?_, h.lg, h.li⟩
 have := heap_setCell_same h.im (i := 2) (.int .u16 x)
 rw [this]
 rfl
section
variable {w : World} {N : Nat → Int} {gb gi gs : Nat} {b0 b1 b2 : ByteArray} {vv : Int} {c : Array Value} {st : Value} {W W' : World}
theorem S4W.below (h : S4W w N gb gi gs b0 b1 b2 vv c st W) (hb : Below W.heap.size W W') : S4W w N gb gi gs b0 b1 b2 vv c st W' := by
 obtain ⟨A, n, cap, xs, e, hn, ho⟩ := h.ow
 exact ⟨h.hx.stay hb, za hb h.bk, za hb h.im, za hb h.sn, ⟨A, n, cap, xs, e, hn, zo ho (zm.ofBelow (bs := fun _ => False) hb) (fun _ _ e => e)⟩, h.lb, h.lg, h.li⟩
theorem S4W.cell (h : S4W w N gb gi gs b0 b1 b2 vv c st W) (k : Nat) (v : Value) {c' : Array Value} (hc : c.setIfInBounds k v = c') : S4W w N gb gi gs b0 b1 b2 vv c' st (W.setCell ⟨gs, k, none⟩ v) := by
 obtain ⟨A, n, cap, xs, e, hn, ho⟩ := h.ow
 have h1 : gb ≠ gs := fun e => by have h1 := h.bk; rw [e, h.sn] at h1; injection h1 with h1; injection h1 with h1 h2; exact absurd h2 (by decide)
 have h2 : gi ≠ gs := fun e => by have h1 := h.im; rw [e, h.sn] at h1; injection h1 with h1; injection h1 with h1 h2; exact absurd h2 (by decide)
 refine ⟨h.hx.keep ((Below.refl _ _).setCell (p := ⟨gs, k, none⟩) h.lb _), by rw [heap_setCell_other h1]; exact h.bk, by rw [heap_setCell_other h2]; exact h.im, ?_, ⟨A, n, cap, xs, e, hn, zo ho ((zm.refl (fun j => j = gs) W).setCell _ (fun _ => rfl)) (yv ho h.sn (fun _ _ => zl (by decide)))⟩, h.lb, h.lg, h.li⟩
 rw [← hc]
 exact heap_setCell_same h.sn (i := k) v
theorem S4W.app (h : S4W w N gb gi gs b0 b1 b2 vv c st W) {st' : Value} {A' : Option Addr} {n' cap' : Nat} {xs' : List Value} (hb : Below W.heap.size W W') {w1 : World} (hg : W'.grownBy w1 st.ownBlock) (e' : st' = .slice A' n' cap') (hn' : n' ≤ 100) (ho' : w1.ownsRow w.heap.size 27 1 st' n' xs') {c' : Array Value} (hc : c.setIfInBounds 17 st' = c') : w1.heap[gs]? = some (.cells c 133 (0, 0)) ∧ S4W w N gb gi gs b0 b1 b2 vv c' st' (w1.setCell ⟨gs, 17, none⟩ st') := by
 have h0 := h.below hb
 obtain ⟨A, n, cap, xs, e, hn, ho⟩ := h0.ow
 have t : zm (fun j => st.ownBlock = some j) W' w1 := (zm.refl _ W').grown hg (fun k e _ => e)
 have hsn := t.heap h0.sn (yY ho h0.sn (fun _ _ => zl (by decide)))
 have hbk := t.heap h0.bk (yY ho h0.bk (fun _ _ => zl (by decide)))
 have him := t.heap h0.im (yY ho h0.im (fun _ _ => zl (by decide)))
 have hx0 := t.heap h0.hx.b0 (yY ho h0.hx.b0 (fun _ _ => zl (by decide)))
 have hx1 := t.heap h0.hx.b1 (yY ho h0.hx.b1 (fun _ _ => zl (by decide)))
 have hx2 := t.heap h0.hx.b2 (yY ho h0.hx.b2 (fun _ _ => zl (by decide)))
 have hz := h0.hx.z
 have hw1 : S4W w N gb gi gs b0 b1 b2 vv c st' w1 := by
  refine ⟨⟨fun i o hi => ?_, Nat.le_trans hz t.size, h0.hx.bb.trans (t.toBelow h0.hx.bb.size (fun k hk => (ho.lt k hk).1))⟩, hbk, him, hsn, ⟨A', n', cap', xs', e', hn', ho'⟩, h.lb, h.lg, h.li⟩
  match i, hi with
  | 0, hi => simp at hi; subst hi; exact hx0
  | 1, hi => simp at hi; subst hi; exact hx1
  | 2, hi => simp at hi; subst hi; exact hx2
 exact ⟨hsn, hw1.cell 17 st' hc⟩
end
-- SETTERS
section
variable {w : World} {N : Nat → Int} {gb gi gs : Nat} {b0 b1 b2 : ByteArray} {vv : Int} {W : World} {r0 r1 r2 r3 r4 r5 r6 r7 sp f b : Int} {ram : ByteArray} {st : Value}
theorem S4W.set_r0 {x : Int} (h : S4W w N gb gi gs b0 b1 b2 vv (xc r0 r1 r2 r3 r4 r5 r6 r7 sp f b ram st) st W) : S4W w N gb gi gs b0 b1 b2 vv (xc x r1 r2 r3 r4 r5 r6 r7 sp f b ram st) st (W.setCell ⟨gs, 0, none⟩ (.int .u16 x)) := h.cell 0 _ rfl
theorem S4W.set_r1 {x : Int} (h : S4W w N gb gi gs b0 b1 b2 vv (xc r0 r1 r2 r3 r4 r5 r6 r7 sp f b ram st) st W) : S4W w N gb gi gs b0 b1 b2 vv (xc r0 x r2 r3 r4 r5 r6 r7 sp f b ram st) st (W.setCell ⟨gs, 1, none⟩ (.int .u16 x)) := h.cell 1 _ rfl
theorem S4W.set_r2 {x : Int} (h : S4W w N gb gi gs b0 b1 b2 vv (xc r0 r1 r2 r3 r4 r5 r6 r7 sp f b ram st) st W) : S4W w N gb gi gs b0 b1 b2 vv (xc r0 r1 x r3 r4 r5 r6 r7 sp f b ram st) st (W.setCell ⟨gs, 2, none⟩ (.int .u16 x)) := h.cell 2 _ rfl
theorem S4W.set_r3 {x : Int} (h : S4W w N gb gi gs b0 b1 b2 vv (xc r0 r1 r2 r3 r4 r5 r6 r7 sp f b ram st) st W) : S4W w N gb gi gs b0 b1 b2 vv (xc r0 r1 r2 x r4 r5 r6 r7 sp f b ram st) st (W.setCell ⟨gs, 3, none⟩ (.int .u16 x)) := h.cell 3 _ rfl
theorem S4W.set_r4 {x : Int} (h : S4W w N gb gi gs b0 b1 b2 vv (xc r0 r1 r2 r3 r4 r5 r6 r7 sp f b ram st) st W) : S4W w N gb gi gs b0 b1 b2 vv (xc r0 r1 r2 r3 x r5 r6 r7 sp f b ram st) st (W.setCell ⟨gs, 4, none⟩ (.int .u16 x)) := h.cell 4 _ rfl
theorem S4W.set_r5 {x : Int} (h : S4W w N gb gi gs b0 b1 b2 vv (xc r0 r1 r2 r3 r4 r5 r6 r7 sp f b ram st) st W) : S4W w N gb gi gs b0 b1 b2 vv (xc r0 r1 r2 r3 r4 x r6 r7 sp f b ram st) st (W.setCell ⟨gs, 5, none⟩ (.int .u16 x)) := h.cell 5 _ rfl
theorem S4W.set_r6 {x : Int} (h : S4W w N gb gi gs b0 b1 b2 vv (xc r0 r1 r2 r3 r4 r5 r6 r7 sp f b ram st) st W) : S4W w N gb gi gs b0 b1 b2 vv (xc r0 r1 r2 r3 r4 r5 x r7 sp f b ram st) st (W.setCell ⟨gs, 6, none⟩ (.int .u16 x)) := h.cell 6 _ rfl
theorem S4W.set_r7 {x : Int} (h : S4W w N gb gi gs b0 b1 b2 vv (xc r0 r1 r2 r3 r4 r5 r6 r7 sp f b ram st) st W) : S4W w N gb gi gs b0 b1 b2 vv (xc r0 r1 r2 r3 r4 r5 r6 x sp f b ram st) st (W.setCell ⟨gs, 7, none⟩ (.int .u16 x)) := h.cell 7 _ rfl
theorem S4W.set_sp {x : Int} (h : S4W w N gb gi gs b0 b1 b2 vv (xc r0 r1 r2 r3 r4 r5 r6 r7 sp f b ram st) st W) : S4W w N gb gi gs b0 b1 b2 vv (xc r0 r1 r2 r3 r4 r5 r6 r7 x f b ram st) st (W.setCell ⟨gs, 9, none⟩ (.int .u16 x)) := h.cell 9 _ rfl
theorem S4W.set_f {x : Int} (h : S4W w N gb gi gs b0 b1 b2 vv (xc r0 r1 r2 r3 r4 r5 r6 r7 sp f b ram st) st W) : S4W w N gb gi gs b0 b1 b2 vv (xc r0 r1 r2 r3 r4 r5 r6 r7 sp x b ram st) st (W.setCell ⟨gs, 11, none⟩ (.int .u16 x)) := h.cell 11 _ rfl
theorem S4W.set_b {x : Int} (h : S4W w N gb gi gs b0 b1 b2 vv (xc r0 r1 r2 r3 r4 r5 r6 r7 sp f b ram st) st W) : S4W w N gb gi gs b0 b1 b2 vv (xc r0 r1 r2 r3 r4 r5 r6 r7 sp f x ram st) st (W.setCell ⟨gs, 12, none⟩ (.int .i64 x)) := h.cell 12 _ rfl
theorem S4W.set_ram {x : ByteArray} (h : S4W w N gb gi gs b0 b1 b2 vv (xc r0 r1 r2 r3 r4 r5 r6 r7 sp f b ram st) st W) : S4W w N gb gi gs b0 b1 b2 vv (xc r0 r1 r2 r3 r4 r5 r6 r7 sp f b x st) st (W.setCell ⟨gs, 16, none⟩ (.string x)) := h.cell 16 _ rfl
end
-- END SETTERS
structure Img4 (s2 : Int) (vv : Int) (v : Value) (w0 : Nat) (w : World) : Prop where
 bk : ∃ g b0 b1, v = .slice (some ⟨g, 0, none⟩) 3 3 ∧ w0 ≤ g ∧ w.heap[g]? = some (.cells #[.string b0, .string b1, .string (yW (x9 s2))] 9 (0, 0)) ∧ (b0.size = 4096 ∧ nzB b0 ≤ 300) ∧ (b1.size = 4096 ∧ nzB b1 ≤ 296)
 ve : vv = 0 ∨ vv = 700
def L4P (N : Nat → Int) (w : World) (e : Ending) (w' : World) : Prop := (∃ v vv r0 r1 r2 r3 r4 r5 r6 r7 sp f ram sA sn sc, e = .returned (.tuple #[.agg #[v, .int .u16 0, .int .u16 vv, .slice none 0 0, .slice none 0 0], .agg (xc r0 r1 r2 r3 r4 r5 r6 r7 sp f 1 ram (.slice sA sn sc))]) ∧ Img4 (N 2 % 4294967296) vv v w.heap.size w') ∧ Below w.heap.size w w'
set_option maxRecDepth 100000 in
set_option maxHeartbeats 8000000 in
theorem laid4_any (p : Option Addr) (n cap : Nat) (Q : Nat → Nat → Int) (hn : n ≤ 9223372036854775807) (N : Nat → Int) (w : World) (hQ : FivV w (.slice p n cap) n Q) :
  Calls Tryz.prog 68 #[.slice p n cap, .agg #[.int .i64 (N 0), .int .i64 (N 1), .int .i64 (N 2), .int .i64 (N 3)]] w (L4P N w) := by
 have HQ := zh hQ
 have HN := zh hn
 have HPU := zh (fun x W => put2_any x W)
 have HPG := zh (fun (s : ByteArray) (hs : s.size ≤ 280) W => show Calls Tryz.prog 29 #[.int .i64 0, .string s] W fun e w' => (∃ B : ByteArray, B.size = 4096 ∧ nzB B ≤ 280 ∧ e = .returned (.string B)) ∧ Below W.heap.size W w' from (page_any 0 s (by omega) (by omega) W).mono fun e w' ⟨h1, h2⟩ => ⟨⟨_, filB_size _, Nat.le_trans (nz_fil _ s.size fun o ho => by unfold xj pageT; rw [if_neg (by omega)]) hs, h1⟩, h2⟩)
 have HX := zh (Bx.three w (boxQ N) (imgC (.slice none 0 0) 0 (.slice none 0 0)) snp0)
 have a7 := and7_bd (N 0)
 have HA7 := zh a7
 have hcap : n ≤ cap := by obtain ⟨_, _, e, h, -⟩ := hQ; injection e with _ _ e; omega
 clear hQ a7 hn
 go_enter Tryz.func68, Tryz.ntmps68
 go_upto_region 2 with fail
 obtain ⟨wi, hwi⟩ : ∃ wi, ((w.alloc (boxQ N)).alloc (imgC (.slice none 0 0) 0 (.slice none 0 0))).alloc snp0 = wi := ⟨_, rfl⟩
 rw [hwi] at HX ⊢
 clear hwi
 go_wp2_with fail
 go_loopw [6, 7] (fun v i wr => ∃ (m : Nat) (s : ByteArray), m ≤ 8 ∧ v = .string s ∧ s.size = 2 * m ∧ i = .int .i64 m ∧ Hid (Bx [boxQ N, imgC (.slice none 0 0) 0 (.slice none 0 0), snp0] w wr)) (fun v i _ => 8 - (intOf i).toNat)
 case atStart => exact ⟨0, ⟨#[]⟩, Nat.zero_le _, rfl, rfl, rfl, HX⟩
 case round =>
  clear HX
  obtain ⟨m, s, hm, rfl, hs, rfl, HX⟩ := hrel
  by_cases hlt : m < 8
  ·have hc := fun o => cell_of_row wr w.heap.size o _ _ _ HX.out.b0
   have HS := zh hs
   have HLT := zh hlt
   go_wp2_with (go_at_call 89; (with_reducible refine (HPU.out _ _).mono ?_); rintro e2 w2 ⟨⟨s2, hs2, rfl⟩, hb2⟩; have hsz : s.size + s2.size ≤ 9223372036854775807 := (by have := HS.out; omega); have HS2 := zh hs2; have HX2 := zh (HX.out.stay hb2); clear hb2 hs2 hs)
   go_roundw
   case rel => exact ⟨m + 1, s ++ s2, HLT.out, rfl, by have := HS.out; have := HS2.out; rw [ByteArray.size_append]; omega, by go_num, HX2⟩
   case measure => have h1 := HLT.out; simp [intOf]; omega
  ·obtain rfl : m = 8 := by omega
   try simp only [show ((8 : Nat) : Int) = 8 from rfl]
   have HT := zh (show s.size = 16 by omega)
   clear hs hlt hm
   have HCA := zh (code4_any p n cap Q HN.out wr (HQ.out.below HX.out.bb))
   go_upto_region 7 with (first
    | (go_at_call 90; (with_reducible refine (HCA.out).mono ?_); rintro e2 w2 ⟨⟨s1, hs1, rfl⟩, hb2⟩; have HX2 := zh (HX.out.stay hb2); have HS1 := zh hs1; clear hb2 hs1 HX)
    | (go_at_call 29; (with_reducible refine (HPG.out _ HS1.out _).mono ?_); rintro e3 w3 ⟨⟨B1, hB1, hn1, rfl⟩, hb3⟩; have HX3 := zh (HX2.out.stay hb3); have HB1 := zh (And.intro hB1 hn1); clear hb3 hB1 hn1 HX2))
   have hz1 := HB1.out.1
   have ht := HT.out
   refine zu (S := fun _ => True) [14] (by kernel_rfl) trivial (fun hHeld => ?_)
   (refine tz 0 ?_)
   (refine tkZ 1 (v := .string (B1.extract 0 700)) rfl trivial (fun W hSw => ?_) ?_; (focus (go_simp; first | done | rfl)); (refine pts ?_))
   (refine tkZ 2 (v := .string (B1.extract 0 700 ++ ⟨#[145, 4, 9, 3]⟩)) rfl trivial (fun W hSw => ?_) ?_; (focus (go_simp; first | done | rfl)); (refine pts ?_))
   (refine tz 3 ?_)
   (refine tkZ 4 (v := .string (B1.extract 704 1000)) rfl trivial (fun W hSw => ?_) ?_; (focus (go_simp; first | done | rfl)); (refine pts ?_))
   (refine tkZ 5 (v := .string ((B1.extract 0 700 ++ ⟨#[145, 4, 9, 3]⟩) ++ B1.extract 704 1000)) rfl trivial (fun W hSw => ?_) ?_; (focus (go_simp; first | done | rfl)); (refine pts ?_))
   (refine tz 6 ?_)
   (refine tkZ 7 (v := .string (((B1.extract 0 700 ++ ⟨#[145, 4, 9, 3]⟩) ++ B1.extract 704 1000) ++ s)) rfl trivial (fun W hSw => ?_) ?_; (focus (go_simp; first | done | rfl)); (refine pts ?_))
   (refine tz 8 ?_)
   (refine tz 9 ?_)
   (refine tkZ 10 (v := .int .i64 16) rfl trivial (fun W hSw => ?_) ?_; (focus (go_simp; first | done | rfl)); (refine pts ?_))
   (refine tkZ 11 (v := .int .i64 1016) rfl trivial (fun W hSw => ?_) ?_; (focus (go_simp; first | done | rfl)); (refine pts ?_))
   (refine tkZ 12 (v := .string (B1.extract 1016 B1.size)) rfl trivial (fun W hSw => ?_) ?_; (focus (go_simp; first | done | rfl)); (refine pts ?_))
   (refine tkZ 13 (v := .string ((((B1.extract 0 700 ++ ⟨#[145, 4, 9, 3]⟩) ++ B1.extract 704 1000) ++ s) ++ B1.extract 1016 B1.size)) rfl trivial (fun W hSw => ?_) ?_; (focus (go_simp; first | done | rfl)); (refine pts ?_))
   refine ys 14 ?_
   simp only [List.drop_succ_cons, List.drop_zero]
   have hpa := patch_two B1 ⟨#[145, 4, 9, 3]⟩ s 700 704 1000 1016 hz1 (by decide) (by decide) rfl (by rw [ht])
   have HPA := zh (show _ ∧ _ from ⟨hpa.1, Nat.le_trans hpa.2 (show nzB B1 + ((⟨#[145, 4, 9, 3]⟩ : ByteArray).size + s.size) ≤ 300 by have := HB1.out.2; rw [ht, show (⟨#[145, 4, 9, 3]⟩ : ByteArray).size = 4 from rfl]; omega)⟩)
   clear hpa hHeld hz1 ht
   generalize B1.extract 0 700 ++ ⟨#[145, 4, 9, 3]⟩ ++ B1.extract 704 1000 ++ s ++ B1.extract 1016 B1.size = F1 at *
   have HX4 := zh (HX3.out.stay (Below.refl _ _).drew)
   obtain ⟨w4, hw4⟩ : ∃ w4, w3.drew = w4 := ⟨_, rfl⟩
   rw [hw4] at HX4 ⊢
   clear hw4 HX3 HB1 HCA
   go_upto_region 8 with fail
   have HC0 := zh (fun p' c' W => code4_any p' 0 c' Q (by omega) W ⟨p', c', rfl, Nat.zero_le _, fun h => by omega⟩)
   go_cut [9] (fun v wx => ∃ B2 : ByteArray, v = .string B2 ∧ Hid (B2.size = 4096 ∧ nzB B2 ≤ 280) ∧ Hid (Bx [boxQ N, imgC (.slice none 0 0) 0 (.slice none 0 0), snp0] w wx))
   case first =>
    by_cases h20 : n ≤ 20
    ·have hmin : min (n : Int) 20 = n := by omega
     have hcc : ¬ cap < n := by omega
     have hif : ∀ y : Option Addr, (if cap = n then p else y) = pickP cap n p y := fun _ => rfl
     clear h20
     go_wp2_with (first
      | (go_at_call 90; (with_reducible refine (HC0.out _ _ _).mono ?_); rintro e5 w5 ⟨⟨s5, hs5, rfl⟩, hb5⟩; have HX5 := zh (HX4.out.stay hb5); have HS5 := zh hs5; clear hb5 hs5)
      | (go_at_call 29; (with_reducible refine (HPG.out _ HS5.out _).mono ?_); rintro e6 w6 ⟨⟨B2, hB2, hn2, rfl⟩, hb6⟩; have HX6 := zh (HX5.out.stay hb6); have HB2 := zh (And.intro hB2 hn2); clear hb6 hB2 hn2))
     go_meet
     exact ⟨_, rfl, HB2, HX6⟩
    ·obtain ⟨p', cap', he, hc', hx'⟩ := HQ.out
     injection he with e1 _ e2
     subst e1 e2
     obtain ⟨g, off, -, -, -, rfl, -⟩ := hx' (by omega)
     have hmin : min (n : Int) 20 = 20 := by omega
     have hcc : 20 ≤ n := by omega
     have hcd : ¬ cap = 20 := by omega
     have hce : ¬ cap - 20 = 0 := by omega
     have HCB := zh (fun W (hb : Below w.heap.size w W) => code4_any (some ⟨g, off + 20 * 5, none⟩) (n - 20) (cap - 20) (fun i j => Q (20 + i) j) (by have := HN.out; omega) W ((HQ.out.below hb).drop hcc))
     clear hx' hc'
     go_wp2_with (first
      | (go_at_call 90; (with_reducible refine (HCB.out _ HX4.out.bb).mono ?_); rintro e5 w5 ⟨⟨s5, hs5, rfl⟩, hb5⟩; have HX5 := zh (HX4.out.stay hb5); have HS5 := zh hs5; clear hb5 hs5)
      | (go_at_call 29; (with_reducible refine (HPG.out _ HS5.out _).mono ?_); rintro e6 w6 ⟨⟨B2, hB2, hn2, rfl⟩, hb6⟩; have HX6 := zh (HX5.out.stay hb6); have HB2 := zh (And.intro hB2 hn2); clear hb6 hB2 hn2))
     go_meet
     exact ⟨_, rfl, HB2, HX6⟩
   case rest =>
    clear HX4 HC0 HPG
    obtain ⟨B2, rfl, HB2, HX⟩ := hcut
    have hz2 := HB2.out.1
    have ht := HT.out
    go_upto_region 9 with fail
    refine zu (S := fun _ => True) [10] (by kernel_rfl) trivial (fun hHeld => ?_)
    (refine tz 0 ?_)
    (refine tkZ 1 (v := .string (B2.extract 0 1000)) rfl trivial (fun W hSw => ?_) ?_; (focus (go_simp; first | done | rfl)); (refine pts ?_))
    (refine tz 2 ?_)
    (refine tkZ 3 (v := .string (B2.extract 0 1000 ++ s)) rfl trivial (fun W hSw => ?_) ?_; (focus (go_simp; first | done | rfl)); (refine pts ?_))
    (refine tz 4 ?_)
    (refine tz 5 ?_)
    (refine tkZ 6 (v := .int .i64 16) rfl trivial (fun W hSw => ?_) ?_; (focus (go_simp; first | done | rfl)); (refine pts ?_))
    (refine tkZ 7 (v := .int .i64 1016) rfl trivial (fun W hSw => ?_) ?_; (focus (go_simp; first | done | rfl)); (refine pts ?_))
    (refine tkZ 8 (v := .string (B2.extract 1016 B2.size)) rfl trivial (fun W hSw => ?_) ?_; (focus (go_simp; first | done | rfl)); (refine pts ?_))
    (refine tkZ 9 (v := .string ((B2.extract 0 1000 ++ s) ++ B2.extract 1016 B2.size)) rfl trivial (fun W hSw => ?_) ?_; (focus (go_simp; first | done | rfl)); (refine pts ?_))
    refine ys 10 ?_
    simp only [List.drop_succ_cons, List.drop_zero]
    have hpa := patch_one B2 s 1000 1016 hz2 (by decide) (by rw [ht])
    have HPB := zh (show _ ∧ _ from ⟨hpa.1, Nat.le_trans hpa.2 (show nzB B2 + s.size ≤ 296 by have := HB2.out.2; omega)⟩)
    clear hpa hHeld hz2 ht
    generalize B2.extract 0 1000 ++ s ++ B2.extract 1016 B2.size = F2 at *
    have HX4 := zh (HX.out.stay (Below.refl _ _).drew)
    obtain ⟨w4, hw4⟩ : ∃ w4, wc.drew = w4 := ⟨_, rfl⟩
    rw [hw4] at HX4 ⊢
    clear hw4 HX HB2
    have HFI := zh (fun W => show Calls Tryz.prog 20 #[.int .u32 (N 2 % 4294967296), .int .i64 4096] W fun e w' => e = .returned (.string (yW (x9 (N 2 % 4294967296)))) ∧ Below W.heap.size W w' from fill_any (N 2 % 4294967296) 4096 (by decide) W)
    have hc := fun o => cell_of_row w4 w.heap.size o _ _ _ HX4.out.b0
    go_upto_region 11 with (first
     | (go_at_call 20; (with_reducible refine (HFI.out _).mono ?_); rintro e6 w6 ⟨rfl, hb6⟩; have HX6 := zh (HX4.out.stay hb6); clear hb6)
     | (refine stN ?_))
    have HY := zh (Bx.two w6 (.cells #[.string F1, .string F2, .string (yW (x9 (N 2 % 4294967296)))] 9) (imgC (.slice (some ⟨w6.heap.size, 0, none⟩) 3 3) 0 (.slice none 0 0)))
    obtain ⟨w8, hw8⟩ : ∃ w8, (w6.alloc (.cells #[.string F1, .string F2, .string (yW (x9 (N 2 % 4294967296)))] 9)).alloc (imgC (.slice (some ⟨w6.heap.size, 0, none⟩) 3 3) 0 (.slice none 0 0)) = w8 := ⟨_, rfl⟩
    have hz6 := HX6.out.z
    have HS := zh (show S3W w N w6.heap.size (w6.heap.size + 1) F1 F2 (yW (x9 (N 2 % 4294967296))) 0 w8 from by
     rw [hw8] at HY
     exact ⟨HX6.out.stay HY.out.bb, HY.out.b0, HY.out.b1, by simp at hz6; omega, by simp at hz6; omega⟩)
    rw [hw8]
    clear hw8 HY hc hz6 HX4 HX6 HFI
    obtain ⟨gb, hgb⟩ : ∃ gb, w6.heap.size = gb := ⟨_, rfl⟩
    obtain ⟨gi, hgi⟩ : ∃ gi, gb + 1 = gi := ⟨_, rfl⟩
    rw [hgb] at HS ⊢
    rw [hgi] at HS ⊢
    clear hgb hgi
    have hc := fun o => cell_of_row w8 w.heap.size o _ _ _ HS.out.hx.b0
    go_upto_if 73 with fail
    clear hc
    go_cut [] (fun wx => ∃ vv : Int, Hid (vv = 0 ∨ vv = 700) ∧ Hid (S3W w N gb gi F1 F2 (yW (x9 (N 2 % 4294967296))) vv wx))
    case first =>
     have hf := fun o => frozen_of_row w8 gi o _ _ HS.out.im
     have hc := fun o => cell_of_row w8 gi o _ _ _ HS.out.im
     by_cases hq : bits .and .i64 (N 0) 1 = 1
     ·have e1 : (bits .and .i64 (N 0) 1 == 1) = true := by simp [hq]
      clear hq
      go_wp2_with fail
      go_meet
      exact ⟨700, zh (.inr rfl), zh HS.out.vec⟩
     ·have e1 : (bits .and .i64 (N 0) 1 == 1) = false := by simp [hq]
      clear hq
      go_wp2_with fail
      go_meet
      exact ⟨0, zh (.inl rfl), HS⟩
    case rest =>
     clear HS
     obtain ⟨vv, HVV, HS⟩ := hcut
     have HST := zh (fun W => start_any (.slice (some ⟨gb, 0, none⟩) 3 3) (.slice none 0 0) vv W)
     go_upto_region 14 with (first
      | (refine ldT 31 (HS.out.im) ?_)
      | (go_at_call 91; (with_reducible refine (HST.out _).mono ?_); rintro e9 w9 ⟨⟨g9, rfl, hg9, hs9⟩, hb9⟩; have HB9 := zh hb9; have HS9 := zh (And.intro hg9 hs9); clear hg9 hs9 hb9)
      | (refine stN ?_))
     -- TAIL
     obtain ⟨gs, hgs⟩ : ∃ gs, w9.heap.size = gs := ⟨_, rfl⟩
     have hz9 := HB9.out.size
     have hz0 := HS.out.hx.z
     have hb10 : Below w9.heap.size w9 (w9.alloc (.cells (xc 0 0 0 0 0 0 0 0 2 0 0 (filN 8192 fun _ => 0) (.slice (some ⟨g9, 0, none⟩) 2 2)) 133)) := (Below.refl _ _).alloc (zn _) _
     have hs10 := HS.out.below (HB9.out.trans (hb10.mono hz9))
     have h10 := heap_alloc_new w9 (.cells (xc 0 0 0 0 0 0 0 0 2 0 0 (filN 8192 fun _ => 0) (.slice (some ⟨g9, 0, none⟩) 2 2)) 133)
     have ho10 : (w9.alloc (.cells (xc 0 0 0 0 0 0 0 0 2 0 0 (filN 8192 fun _ => 0) (.slice (some ⟨g9, 0, none⟩) 2 2)) 133)).ownsRow w.heap.size 27 1 (.slice (some ⟨g9, 0, none⟩) 2 2) 2 [.int .u16 0, .int .u16 65535] := ⟨rfl, .inr ⟨g9, 2, _, rfl, Nat.le_trans HS.out.hx.bb.size HS9.out.1, za hb10 HS9.out.2, zn _, by decide, rfl, rfl⟩⟩
     have hs4 : S4W w N gb gi gs F1 F2 (yW (x9 (N 2 % 4294967296))) vv (xc 0 0 0 0 0 0 0 0 2 0 0 (filN 8192 fun _ => 0) (.slice (some ⟨g9, 0, none⟩) 2 2)) (.slice (some ⟨g9, 0, none⟩) 2 2) (w9.alloc (.cells (xc 0 0 0 0 0 0 0 0 2 0 0 (filN 8192 fun _ => 0) (.slice (some ⟨g9, 0, none⟩) 2 2)) 133)) :=
      ⟨hs10.hx, hs10.bk, hs10.im, hgs ▸ h10, ⟨_, _, _, _, rfl, by decide, ho10⟩, by rw [← hgs]; exact Nat.le_trans hz0 hz9, hs10.lg, hs10.li⟩
     obtain ⟨w10, hw10⟩ : ∃ w10, w9.alloc (.cells (xc 0 0 0 0 0 0 0 0 2 0 0 (filN 8192 fun _ => 0) (.slice (some ⟨g9, 0, none⟩) 2 2)) 133) = w10 := ⟨_, rfl⟩
     rw [hgs, hw10]
     rw [hw10] at hs4
     have H4 := zh hs4
     clear hgs hz9 hz0 hb10 hs10 h10 ho10 hs4 hw10 HS HB9 HS9 HST
     have HFJ := zh (fun W => show Calls Tryz.prog 20 #[.int .u32 (N 3 % 4294967296), .int .i64 8192] W fun e w' => e = .returned (.string (filN 8192 (x9 (N 3 % 4294967296)))) ∧ Below W.heap.size W w' from fill_any (N 3 % 4294967296) 8192 (by decide) W)
     have hc := fun o => cell_of_row w10 w.heap.size o _ _ _ H4.out.hx.b0
     go_upto_region 15 with (first
      | (go_at_call 20; (with_reducible refine (HFJ.out _).mono ?_); rintro e11 w11 ⟨rfl, hb11⟩
         have H5 := zh (H4.out.below hb11)
         have hc5 := fun o => cell_of_row w11 gs o _ _ _ H5.out.sn
         have hf5 := fun o => frozen_of_row w11 gs o _ _ H5.out.sn
         clear hb11))
     clear hc hc5 hf5
     have H6 := zh (H5.out.set_ram (x := filN 8192 (x9 (N 3 % 4294967296))))
     obtain ⟨w12, hw12⟩ : ∃ w12, w11.setCell ⟨gs, 16, none⟩ (.string (filN 8192 (x9 (N 3 % 4294967296)))) = w12 := ⟨_, rfl⟩
     rw [hw12] at H6 ⊢
     clear hw12 H5 H4 HFJ
     generalize filN 8192 (x9 (N 3 % 4294967296)) = ram at *
     obtain ⟨st, hst⟩ : ∃ st, Value.slice (some ⟨g9, 0, none⟩) 2 2 = st := ⟨_, rfl⟩
     rw [hst] at H6
     have HSTN := zh (show ∃ A cap, st = .slice A 2 cap from ⟨_, _, hst.symm⟩)
     clear hst
     go_wp2_with fail
     go_loopw [12] (fun i wr => ∃ (m : Nat) (r0 r1 r2 r3 r4 r5 r6 r7 : Int), m ≤ 8 ∧ i = .int .i64 m ∧ Hid (S4W w N gb gi gs F1 F2 (yW (x9 (N 2 % 4294967296))) vv (xc r0 r1 r2 r3 r4 r5 r6 r7 2 0 0 ram st) st wr)) (fun i _ => 8 - (intOf i).toNat)
     case atStart => exact ⟨0, 0, 0, 0, 0, 0, 0, 0, 0, by decide, rfl, H6⟩
     case round =>
      clear H6
      obtain ⟨m, r0, r1, r2, r3, r4, r5, r6, r7, hm, rfl, H6⟩ := hrel
      have hc := fun o => cell_of_row wr w.heap.size o _ _ _ H6.out.hx.b0
      have hc5 := fun o => cell_of_row wr gs o _ _ _ H6.out.sn
      have hf5 := fun o => frozen_of_row wr gs o _ _ H6.out.sn
      by_cases hlt : m < 8
      ·have hms : m = 0 ∨ m = 1 ∨ m = 2 ∨ m = 3 ∨ m = 4 ∨ m = 5 ∨ m = 6 ∨ m = 7 := by omega
       clear hm hlt
       rcases hms with rfl | rfl | rfl | rfl | rfl | rfl | rfl | rfl
       ·go_wp2_with fail
        go_roundw
        case rel => exact ⟨1, _, _, _, _, _, _, _, _, by decide, by go_num, zh H6.out.set_r0⟩
        case measure => simp [intOf]
       ·go_wp2_with fail
        go_roundw
        case rel => exact ⟨2, _, _, _, _, _, _, _, _, by decide, by go_num, zh H6.out.set_r1⟩
        case measure => simp [intOf]
       ·go_wp2_with fail
        go_roundw
        case rel => exact ⟨3, _, _, _, _, _, _, _, _, by decide, by go_num, zh H6.out.set_r2⟩
        case measure => simp [intOf]
       ·go_wp2_with fail
        go_roundw
        case rel => exact ⟨4, _, _, _, _, _, _, _, _, by decide, by go_num, zh H6.out.set_r3⟩
        case measure => simp [intOf]
       ·go_wp2_with fail
        go_roundw
        case rel => exact ⟨5, _, _, _, _, _, _, _, _, by decide, by go_num, zh H6.out.set_r4⟩
        case measure => simp [intOf]
       ·go_wp2_with fail
        go_roundw
        case rel => exact ⟨6, _, _, _, _, _, _, _, _, by decide, by go_num, zh H6.out.set_r5⟩
        case measure => simp [intOf]
       ·go_wp2_with fail
        go_roundw
        case rel => exact ⟨7, _, _, _, _, _, _, _, _, by decide, by go_num, zh H6.out.set_r6⟩
        case measure => simp [intOf]
       ·go_wp2_with fail
        go_roundw
        case rel => exact ⟨8, _, _, _, _, _, _, _, _, by decide, by go_num, zh H6.out.set_r7⟩
        case measure => simp [intOf]
      ·obtain rfl : m = 8 := by omega
       try simp only [show ((8 : Nat) : Int) = 8 from rfl]
       clear hm hlt
       go_wp2_with fail
       obtain ⟨A2, cap2, rfl⟩ := HSTN.out
       go_loopw [13] (fun i wr => ∃ (m : Nat) (A : Option Addr) (n cap : Nat) (r5 r6 f : Int), (m : Int) ≤ bits .and .i64 (N 0) 7 ∧ n ≤ 2 + m ∧ i = .int .i64 m ∧ Hid (S4W w N gb gi gs F1 F2 (yW (x9 (N 2 % 4294967296))) vv (xc r0 r1 r2 r3 r4 r5 r6 r7 2 f 1 ram (.slice A n cap)) (.slice A n cap) wr)) (fun i _ => 8 - (intOf i).toNat)
       case atStart => exact ⟨0, _, _, _, _, _, _, HA7.out.1, zn _, rfl, zh H6.out.set_r5.set_r6.set_f.set_b⟩
       case round =>
        clear hc hc5 hf5 H6
        obtain ⟨m, A, n', cp, r5, r6, f, hm, hn', rfl, H6⟩ := hrel
        have hc := fun o => cell_of_row wr w.heap.size o _ _ _ H6.out.hx.b0
        have hc5 := fun o => cell_of_row wr gs o _ _ _ H6.out.sn
        have hf5 := fun o => frozen_of_row wr gs o _ _ H6.out.sn
        by_cases hlt : (m : Int) < bits .and .i64 (N 0) 7
        ·have HLT := zh hlt
         obtain ⟨A', n1, cap1, xs1, he1, hn1, ho1⟩ := H6.out.ow
         injection he1 with q1 q2 q3
         subst q1 q2 q3
         have HO1 := zh ho1
         have hm8 : m < 8 := by have := HA7.out.2; omega
         have HN1 := zh (And.intro hn' hm8)
         clear ho1 hn' hn1
         go_wp2_with (first
          | (at_builtin
             refine yq (.tmp 129) (.tmp 135) 130 27 rfl 1 2 _ infoU16 Tryz.underlying130 rfl (by decide) (by decide) w.heap.size ?_ (.slice A n' cp) n' xs1 rfl ?_ (by have := HN1.out; omega) wr.heap.size 1 _ _ _ rfl (heap_alloc_new wr _) rfl rfl (by decide) (by decide) rfl ?_
             ·exact Nat.le_trans H6.out.hx.bb.size (by simp)
             ·exact HO1.out.alloc _
             intro ga ca w13 ho13 hg13 hv13
             have hap := H6.out.app (st' := .slice (some ⟨ga, 0, none⟩) (n' + 1) ca) ((Below.refl _ _).alloc (zn _) _) hg13 rfl (by have := HN1.out; omega) ho13 rfl
             have HAP := zh hap
             have hc9 := fun o => cell_of_row w13 gs o _ _ _ HAP.out.1
             have hf9 := fun o => frozen_of_row w13 gs o _ _ HAP.out.1
             clear ho13 hg13 hv13 hap))
         go_roundw
         case rel => exact ⟨m + 1, _, _, _, _, _, _, by have := HLT.out; omega, by have := HN1.out; omega, by go_num, zh HAP.out.2⟩
         case measure => have h1 := HLT.out; simp [intOf]; omega
        ·go_upto_region 28 with fail
         have H7 := zh ((H6.out.set_sp (x := IntKind.u16.wrap (n' : Int))).below (Below.refl _ _).drew)
         refine zu (S := fun W => W.heap[gi]? = some (imgC (.slice (some ⟨gb, 0, none⟩) 3 3) vv (.slice none 0 0)) ∧ W.heap[gs]? = some (.cells (xc r0 r1 r2 r3 r4 r5 r6 r7 (IntKind.u16.wrap (n' : Int)) f 1 ram (.slice A n' cp)) 133 (0, 0))) [3] (by kernel_rfl) ⟨H7.out.im, H7.out.sn⟩ (fun hHeld => ?_)
         (refine tkZ 0 (v := .agg #[.slice (some ⟨gb, 0, none⟩) 3 3, .int .u16 0, .int .u16 vv, .slice none 0 0, .slice none 0 0]) rfl (by assumption) (fun W hS => yr _ _ rfl _ rfl _ _ _ hS.1 (by kernel_rfl)) ?_; (refine pts ?_))
         (refine tkZ 1 (v := .agg (xc r0 r1 r2 r3 r4 r5 r6 r7 (IntKind.u16.wrap (n' : Int)) f 1 ram (.slice A n' cp))) rfl (by assumption) (fun W hS => yr _ _ rfl _ rfl _ _ _ hS.2 (by kernel_rfl)) ?_; (refine pts ?_))
         obtain ⟨w14, hw14⟩ : ∃ w14, (wr.setCell ⟨gs, 9, none⟩ (.int .u16 (IntKind.u16.wrap (n' : Int)))).drew = w14 := ⟨_, rfl⟩
         rw [hw14] at H7 hHeld ⊢
         clear hw14 hc hc5 hf5
         refine yI 2 rfl (fun K hK => ?_)
         refine wp_store_row _ _ _ rfl (w.heap.size + 1) _ rfl rfl _ _ H7.out.hx.b1 ?_ ?_ ?_ ?_
         ·kernel_rfl
         ·rfl
         ·kernel_rfl
         have hlb := H7.out.lb
         have hli := H7.out.li
         refine hK.out _ _ (.inr ⟨(setRow_other _ _ _ _ (by omega)).trans H7.out.im, (setRow_other _ _ _ _ (by omega)).trans H7.out.sn⟩) ?_
         (refine pts ?_)
         clear hK K hHeld
         have H8 := zh (show (w14.setRow (w.heap.size + 1) #[.slice (some ⟨gb, 0, none⟩) 3 3, .int .u16 0, .int .u16 vv, .slice none 0 0, .slice none 0 0]).heap[w.heap.size + 1]? = some (.cells #[.slice (some ⟨gb, 0, none⟩) 3 3, .int .u16 0, .int .u16 vv, .slice none 0 0, .slice none 0 0] 31 (0, 0)) from setRow_heap _ _ _ _ _ _ H7.out.hx.b1)
         have H9 := zh (show (w14.setRow (w.heap.size + 1) #[.slice (some ⟨gb, 0, none⟩) 3 3, .int .u16 0, .int .u16 vv, .slice none 0 0, .slice none 0 0]).heap[w.heap.size + 2]? = some snp0 from (setRow_other _ _ _ _ (by omega)).trans H7.out.hx.b2)
         have hgb : gb ≠ w.heap.size + 1 := fun e => by have h1 := H7.out.bk; rw [e, H7.out.hx.b1] at h1; injection h1 with h1; injection h1 with h1 h2; exact absurd h2 (by decide)
         have H10 := zh (show (w14.setRow (w.heap.size + 1) #[.slice (some ⟨gb, 0, none⟩) 3 3, .int .u16 0, .int .u16 vv, .slice none 0 0, .slice none 0 0]).heap[gb]? = _ from (setRow_other _ _ _ _ hgb).trans H7.out.bk)
         have HBB := zh (show Below w.heap.size w (w14.setRow (w.heap.size + 1) #[.slice (some ⟨gb, 0, none⟩) 3 3, .int .u16 0, .int .u16 vv, .slice none 0 0, .slice none 0 0]) from below_setRow H7.out.hx.bb (by omega) _)
         have HLG := zh H7.out.lg
         obtain ⟨w15, hw15⟩ : ∃ w15, w14.setRow (w.heap.size + 1) #[.slice (some ⟨gb, 0, none⟩) 3 3, .int .u16 0, .int .u16 vv, .slice none 0 0, .slice none 0 0] = w15 := ⟨_, rfl⟩
         rw [hw15] at H8 H9 H10 HBB ⊢
         clear hw15 H7 H6 hlb hli hgb
         refine ys 3 ?_
         simp only [List.drop_succ_cons, List.drop_zero]
         go_wp2_with (first | (refine stR (H9.out) ?_))
         have hne : gb ≠ w.heap.size + 2 := fun e => by have h1 := H10.out; rw [e, H9.out] at h1; injection h1 with h1; injection h1 with h1 h2; exact absurd h2 (by decide)
         refine bodyPost_ret (results_row_row (cs := #[.slice (some ⟨gb, 0, none⟩) 3 3, .int .u16 0, .int .u16 vv, .slice none 0 0, .slice none 0 0]) (cs2 := xc r0 r1 r2 r3 r4 r5 r6 r7 (IntKind.u16.wrap (n' : Int)) f 1 ram (.slice A n' cp)) (fr := (0, 0)) (fr2 := (0, 0)) Tryz.results68 _ _ (w.heap.size + 1) (w.heap.size + 2) 31 133 _ _ ?_ ?_ ((setRow_other _ _ _ _ (by omega)).trans H8.out) (setRow_heap _ _ _ _ _ _ H9.out) Tryz.underlying31 rfl (by kernel_rfl) Tryz.underlying133 rfl (by kernel_rfl)) rfl ?_
         ·rfl
         ·rfl
         ·exact ⟨⟨_, _, _, _, _, _, _, _, _, _, _, _, _, _, _, _, rfl, ⟨⟨gb, F1, F2, rfl, HLG.out, (setRow_other _ _ _ _ hne).trans H10.out, HPA.out, HPB.out⟩, HVV.out⟩⟩, below_setRow HBB.out (by omega) _⟩
end Go.Proofs.YteofmaiojepdkaaGreat
