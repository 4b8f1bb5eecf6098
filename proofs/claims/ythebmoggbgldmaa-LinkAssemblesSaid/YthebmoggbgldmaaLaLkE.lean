/- Package link: the code of a chunk at a place. The conditions: a well-formed chunk, its places and objects. (Printed by gen_lke.py.) -/
import Derived.Test.YthebmoggbgldmaaLaLkZ
set_option linter.all false
namespace Go.Proofs.Ythebmoggbgldmaa
open Go Go.RowKit Go.Maps
structure x8 (w0 : World) (E : zL) (N b4 b5 b6 b7 b10 b11 m go b12 b13 b15 mb : Nat) (es : Array MapEntry) (ck : Nat) (nm : ByteArray) (lv fv dv : Value) (pos tabs code : List Int) (pv tv cv : Value) (W : World) : Prop where
 cd : CdR w0 E N b4 b5 b6 b7 b10 b11 m go nm lv fv dv W
 ps : PosW b12 pos pv W
 tb : jL b13 (bv tabs) tv W
 cb : jL b15 (bv code) cv W
 pr : ∀ q, pv.ownBlock = some q → N ≤ q
 tr : ∀ q, tv.ownBlock = some q → N ≤ q
 cr : ∀ q, cv.ownBlock = some q → N ≤ q
 ct : ∀ q, cv.ownBlock = some q → tv.ownBlock ≠ some q
 mp : W.heap[mb]? = some (.map es ck)
 lt : N ≤ b12 ∧ N ≤ b13 ∧ N ≤ b15 ∧ b13 ≠ b15
section
variable {w0 : World} {E : zL} {N b4 b5 b6 b7 b10 b11 m go b12 b13 b15 mb : Nat} {es : Array MapEntry} {ck : Nat} {nm : ByteArray} {lv fv dv : Value} {pos tabs code : List Int} {pv tv cv : Value} {W W' : World}
theorem x8.stay (h : x8 w0 E N b4 b5 b6 b7 b10 b11 m go b12 b13 b15 mb es ck nm lv fv dv pos tabs code pv tv cv W) (hb : Below W.heap.size W W') : x8 w0 E N b4 b5 b6 b7 b10 b11 m go b12 b13 b15 mb es ck nm lv fv dv pos tabs code pv tv cv W' :=
 ⟨h.cd.stay (hb.mono h.cd.lt.2.2.2.2.2.2.2.2), h.ps.stay hb, h.tb.stay hb, h.cb.stay hb, h.pr, h.tr, h.cr, h.ct, (hb.block _ (Array.getElem?_eq_some_iff.1 h.mp).1).trans h.mp, h.lt⟩
theorem x8.tsN (h : x8 w0 E N b4 b5 b6 b7 b10 b11 m go b12 b13 b15 mb es ck nm lv fv dv pos tabs code pv tv cv W) : ∀ x, ((x = b12 ∨ x = b13) ∨ pv.ownBlock = some x ∨ tv.ownBlock = some x) → N ≤ x ∧ x ≠ b15 ∧ cv.ownBlock ≠ some x ∧ x ≠ mb ∧ x < W.heap.size := by
 obtain ⟨n1, n2, n3, n4⟩ := pos_bld h.ps h.cb
 obtain ⟨p, -, hbb⟩ := h.cb.blk
 obtain ⟨p2, -, hbt⟩ := h.tb.blk
 have hm := h.mp
 intro x hx
 rcases hx with (rfl | rfl) | hx | hx
 ·refine ⟨h.lt.1, Ne.symm n1, n3, fun e => ?_, (Array.getElem?_eq_some_iff.1 h.ps.blk).1⟩
  rw [← e, h.ps.blk] at hm; simp at hm
 ·refine ⟨h.lt.2.1, h.lt.2.2.2, fun e => ?_, fun e => ?_, h.tb.lt⟩
  ·obtain ⟨-, cs, h8⟩ := z7 h.cb.own _ e
   rw [hbt] at h8; simp at h8
  ·rw [← e, hbt] at hm; simp at hm
 ·obtain ⟨-, cs, h8⟩ := z7 h.ps.own _ hx
  refine ⟨h.pr x hx, fun e => n2 (by rw [hx, e]), fun e => n4 x e hx, fun e => ?_, (Array.getElem?_eq_some_iff.1 h8).1⟩
  rw [← e, h8] at hm; simp at hm
 ·obtain ⟨-, cs, h8⟩ := z7 h.tb.own _ hx
  refine ⟨h.tr x hx, fun e => ?_, fun e => h.ct x e hx, fun e => ?_, (Array.getElem?_eq_some_iff.1 h8).1⟩
  ·rw [e, hbb] at h8; simp at h8
  ·rw [← e, h8] at hm; simp at hm
theorem x8.line (h : x8 w0 E N b4 b5 b6 b7 b10 b11 m go b12 b13 b15 mb es ck nm lv fv dv pos tabs code pv tv cv W) {k : Nat} {l : zu} {pv' tv' : Value} (h1 : PosW b12 (pos ++ E.posL k l) pv' W') (h2 : jL b13 (bv (tabs ++ E.tabB l)) tv' W')
  (ht : zN (fun x => (x = b12 ∨ x = b13) ∨ pv.ownBlock = some x ∨ tv.ownBlock = some x) W W') (h3 : ∀ q, pv'.ownBlock = some q → pv.ownBlock = some q ∨ W.heap.size ≤ q) (h4 : ∀ q, tv'.ownBlock = some q → tv.ownBlock = some q ∨ W.heap.size ≤ q) :
  x8 w0 E N b4 b5 b6 b7 b10 b11 m go b12 b13 b15 mb es ck nm lv fv dv (pos ++ E.posL k l) (tabs ++ E.tabB l) code pv' tv' cv W' := by
 have hN := h.cd.lt.2.2.2.2.2.2.2.2
 have hts := h.tsN
 refine ⟨h.cd.stay (ht.toBelow hN fun x hx => (hts x hx).1), h1, h2, h.cb.turn ht (fun hx => (hts b15 hx).2.1 rfl) (fun q hq hx => (hts q hx).2.2.1 hq), ?_, ?_, h.cr, ?_, ht.heap h.mp (fun hx => (hts mb hx).2.2.2.1 rfl), h.lt⟩
 ·intro q hq
  rcases h3 q hq with e | e
  ·exact h.pr q e
  ·omega
 ·intro q hq
  rcases h4 q hq with e | e
  ·exact h.tr q e
  ·omega
 ·intro q hq hq'
  rcases h4 q hq' with e | e
  ·exact h.ct q hq e
  ·have := h.cb.rowlt q hq; omega
theorem x8.write (h : x8 w0 E N b4 b5 b6 b7 b10 b11 m go b12 b13 b15 mb es ck nm lv fv dv pos tabs code pv tv cv W) {s : List Int} (hs : Bts s) {e : Ending} (hw : WrPost b15 (bv code) cv (zO s) W e W') :
  e = .returned (.tuple #[.int .i64 (zO s).size, .nilIface]) ∧ ∃ cv', x8 w0 E N b4 b5 b6 b7 b10 b11 m go b12 b13 b15 mb es ck nm lv fv dv pos tabs (code ++ s) pv tv cv' W' := by
 obtain ⟨he, cv', h1, ht, h2⟩ := hw
 have hN := h.cd.lt.2.2.2.2.2.2.2.2
 refine ⟨he, cv', ?_⟩
 obtain ⟨n1, n2, n3, n4⟩ := pos_bld h.ps h.cb
 obtain ⟨p, -, hbb⟩ := h.cb.blk
 obtain ⟨p2, -, hbt⟩ := h.tb.blk
 have hm := h.mp
 rw [strC_bv hs] at h1
 have h1' : jL b15 (bv (code ++ s)) cv' W' := by
  have : bv (code ++ s) = bv code ++ bv s := by simp [bv]
  rw [this]; exact h1
 refine ⟨h.cd.stay (ht.toBelow hN fun x hx => ?_), h.ps.turn ht ?_ ?_, h.tb.turn ht ?_ ?_, h1', h.pr, h.tr, ?_, ?_, ht.heap h.mp ?_, h.lt⟩
 ·rcases hx with rfl | hx
  ·exact h.lt.2.2.1
  ·exact h.cr x hx
 ·rintro (e | e)
  ·exact n1 e.symm
  ·exact n3 e
 ·rintro q hq (e | e)
  ·rw [e] at hq; exact n2 hq
  ·exact n4 q e hq
 ·rintro (e | e)
  ·exact h.lt.2.2.2 e
  ·obtain ⟨-, cs, h8⟩ := z7 h.cb.own _ e
   rw [hbt] at h8; simp at h8
 ·rintro q hq (e | e)
  ·obtain ⟨-, cs, h8⟩ := z7 h.tb.own _ hq
   rw [e, hbb] at h8; simp at h8
  ·exact h.ct q e hq
 ·intro q hq
  rcases h2 q hq with e | e
  ·exact h.cr q e
  ·omega
 ·intro q hq hq'
  rcases h2 q hq with e | e
  ·exact h.ct q e hq'
  ·have := h.tb.rowlt q hq'; omega
 ·rintro (e | e)
  ·rw [e, hbb] at hm; simp at hm
  ·obtain ⟨-, cs, h8⟩ := z7 h.cb.own _ e
   rw [hm] at h8; simp at h8
end
theorem own_up {w : World} {B : Nat} {e : TypeId} {s n : Nat} {v : Value} {xs : List Value} (h : w.ownsRow 0 e s v n xs) (hb : ∀ q, v.ownBlock = some q → B ≤ q) : w.ownsRow B e s v n xs := by
 refine ⟨h.1, ?_⟩
 rcases h.2 with h1 | ⟨g, cap, cur, rfl, -, r⟩
 ·exact .inl h1
 ·exact .inr ⟨g, cap, cur, rfl, hb g rfl, r⟩
theorem alloc4_at (w : World) (a b c d : Obj) : ((((w.alloc a).alloc b).alloc c).alloc d).heap.size = w.heap.size + 4 ∧ ((((w.alloc a).alloc b).alloc c).alloc d).heap[w.heap.size]? = some a ∧ ((((w.alloc a).alloc b).alloc c).alloc d).heap[w.heap.size + 1]? = some b ∧
  ((((w.alloc a).alloc b).alloc c).alloc d).heap[w.heap.size + 2]? = some c ∧ ((((w.alloc a).alloc b).alloc c).alloc d).heap[w.heap.size + 3]? = some d ∧ Below w.heap.size w ((((w.alloc a).alloc b).alloc c).alloc d) := by
 have z : ∀ (W : World) (o : Obj), (W.alloc o).heap.size = W.heap.size + 1 := fun W o => by simp
 have z1 := z w a
 have z2 := z (w.alloc a) b
 have z3 := z ((w.alloc a).alloc b) c
 have z4 := z (((w.alloc a).alloc b).alloc c) d
 refine ⟨by omega, ?_, ?_, ?_, ?_, ((((Below.refl _ _).alloc (zn _) _).alloc (by omega) _).alloc (by omega) _).alloc (by omega) _⟩
 ·exact (heap_alloc_old _ d (by omega)).trans ((heap_alloc_old _ c (by omega)).trans ((heap_alloc_old _ b (by omega)).trans (heap_alloc_new w a)))
 ·exact (heap_alloc_old _ d (by omega)).trans ((heap_alloc_old _ c (by omega)).trans (xb _ b z1))
 ·exact (heap_alloc_old _ d (by omega)).trans (xb _ c (by omega))
 ·exact xb _ d (by omega)
def CodePost (E : zL) (w : World) (e : Ending) (w' : World) : Prop :=
 ∃ pv, e = .returned (.tuple #[.string (zO E.code), pv]) ∧ w'.ownsRow w.heap.size 3 1 pv E.pos.length (E.pos.map (Value.int .i64)) ∧ Below w.heap.size w w'
def fnsM (b5 b6 b7 b10 b11 b12 b13 : Nat) : Array MapEntry := #[⟨.int .i64 1, .func (.func 53) #[] #[.pointer (some ⟨b7, 0, none⟩), .pointer (some ⟨b12, 0, none⟩), .pointer (some ⟨b10, 0, none⟩)], 0⟩, ⟨.int .i64 2, .func (.func 55) #[] #[.pointer (some ⟨b10, 0, none⟩), .pointer (some ⟨b11, 0, none⟩), .pointer (some ⟨b5, 0, none⟩)], 1⟩, ⟨.int .i64 4, .func (.func 57) #[] #[.pointer (some ⟨b6, 0, none⟩), .pointer (some ⟨b5, 0, none⟩), .pointer (some ⟨b10, 0, none⟩)], 2⟩, ⟨.int .i64 3, .func (.func 59) #[] #[.pointer (some ⟨b11, 0, none⟩), .pointer (some ⟨b5, 0, none⟩), .pointer (some ⟨b10, 0, none⟩), .pointer (some ⟨b13, 0, none⟩)], 3⟩]
set_option maxRecDepth 100000 in
set_option maxHeartbeats 8000000 in
theorem code_any (E : zL) (hE : E.Ok) (hF : ∀ l ∈ E.ls, zK l.ins.op ≠ 0) (nm : ByteArray) (ao fa da : Option Addr) (cap fcap dcap m : Nat) (w : World) (hL : yJ w (.slice ao E.ls.length cap) E.ls) (hm : MapT m (xH E.ls) w) (hf : jj w (.slice fa E.funcs.length fcap) E.funcs) (hd : jK w (.slice da E.data.length dcap) E.data) :
  Calls Try.prog 30 #[.agg #[.string nm, .slice ao E.ls.length cap, .map (some m)], .agg #[.int .i64 E.pl.bank, .int .u16 E.pl.addr], .slice fa E.funcs.length fcap, .slice da E.data.length dcap] w (CodePost E w) := by
 have HE := zh hE
 have HFF := zh hF
 have hlen := hE.len
 obtain ⟨w4, hw4⟩ : ∃ w4 : World, (((w.alloc (.cells #[.string nm, .slice ao E.ls.length cap, .map (some m)] 74)).alloc (.cells #[.int .i64 E.pl.bank, .int .u16 E.pl.addr] 37)).alloc (.cells #[.slice fa E.funcs.length fcap] 26)).alloc (.cells #[.slice da E.data.length dcap] 28) = w4 := ⟨_, rfl⟩
 obtain ⟨hz4, h4, h5, h6, h7, hb4⟩ := alloc4_at w (.cells #[.string nm, .slice ao E.ls.length cap, .map (some m)] 74) (.cells #[.int .i64 E.pl.bank, .int .u16 E.pl.addr] 37) (.cells #[.slice fa E.funcs.length fcap] 26) (.cells #[.slice da E.data.length dcap] 28)
 rw [hw4] at hz4 h4 h5 h6 h7 hb4
 have hL4 := hL.below hb4
 have hf4 := hf.below hb4
 have hm4 := hm.same (hb4.block _ hm.lt)
 have HOF := zh (offsets_any nm E.ls hE.ls ao cap m E.callSz (callSz_ok E) (.pointer (some ⟨w.heap.size + 1, 0, none⟩)) (.pointer (some ⟨w.heap.size + 2, 0, none⟩)) w4 hL4 hm4 (fun l hl hf => by
  obtain ⟨k, hk, rfl⟩ := List.mem_iff_getElem.1 hl
  exact (hE.br k _ (List.getElem?_eq_getElem hk) hf).1) (fun l hl hf W hW => by
  obtain ⟨kf, hkf, hkl⟩ := hE.cl l hl hf
  have hp : E.funcs[kf]? = some (E.fnOf l.fn) := by
   unfold zL.fnOf
   rw [hkf, Int.toNat_natCast, List.getD_eq_getElem?_getD, List.getElem?_eq_getElem hkl]
   rfl
  have h9 := csz_any E.pl (E.fnOf l.fn) E.funcs fa fcap (w.heap.size + 1) (w.heap.size + 2) kf (0, 0) (0, 0) hE.nf hp W (zf hW h5) (zf hW h6) (hf4.below hW)
  rw [← hkf] at h9
  exact h9))
 have HOL := zh (show (xi (finS E.ls (E.ls.map (sz0 E.callSz)))).length = E.ls.length + 1 by rw [jm]; exact congrArg (· + 1) hE.zl)
 have H4 := zh h4
 have H5 := zh h5
 have H6 := zh h6
 have H7 := zh h7
 have HB4 := zh hb4
 have HZ4 := zh hz4
 have HLV := zh hL
 have HMT := zh hm
 have HFV := zh hf
 have HDV := zh hd
 clear hE hF hL hm hf hd h4 h5 h6 h7 hb4 hL4 hf4 hm4 hz4
 go_enter Try.func30, Try.ntmps30
 go_upto_region 1 with fail
 try rw [hw4]
 clear hw4
 try rw [show w.heap.size + 1 + 1 = w.heap.size + 2 from rfl]
 try rw [show w.heap.size + 2 + 1 = w.heap.size + 3 from rfl]
 go_upto_region 2 with (first | (refine zs _ _ rfl _ rfl _ _ _ (H4.out) ?_ ?_ ?_; kernel_rfl; kernel_rfl) | (refine wpList_store_row rfl _ _ _ rfl _ _ rfl rfl _ _ (heap_alloc_new _ _) ?_ ?_ ?_ ?_; kernel_rfl; rfl; kernel_rfl; rw [World.setRow_alloc_new]) | (go_at_call 49; refine (HOF.out).mono ?_; rintro e w5 ⟨go, hgs, rfl, hgo, hb5⟩; rw [HOL.out]))
 have HGO := zh hgo
 have HGS := zh hgs
 have HB5 := zh hb5
 clear hgo hgs hb5 HOF
 obtain ⟨w7, hw7⟩ : ∃ w7 : World, ((((w5.alloc (.cells #[.slice (some ⟨go, 0, none⟩) (E.ls.length + 1) (E.ls.length + 1)] 40)).alloc (.cells #[.func (.func 52) #[] #[.pointer (some ⟨w.heap.size + 1, 0, none⟩), .pointer (some ⟨w5.heap.size, 0, none⟩), .pointer (some ⟨w.heap.size, 0, none⟩)]] 106)).alloc (.cells #[.slice none 0 0] 40)).alloc (.cells #[.pointer none, .slice none 0 0] 109)) = w7 := ⟨_, rfl⟩
 obtain ⟨hz7, h10, h11, h12, h13, hb7⟩ := alloc4_at w5 (.cells #[.slice (some ⟨go, 0, none⟩) (E.ls.length + 1) (E.ls.length + 1)] 40) (.cells #[.func (.func 52) #[] #[.pointer (some ⟨w.heap.size + 1, 0, none⟩), .pointer (some ⟨w5.heap.size, 0, none⟩), .pointer (some ⟨w.heap.size, 0, none⟩)]] 106) (.cells #[.slice none 0 0] 40) (.cells #[.pointer none, .slice none 0 0] 109)
 rw [hw7] at hz7 h10 h11 h12 h13 hb7
 go_upto_region 5 with (refine wpList_store_row rfl _ _ _ rfl _ _ rfl rfl _ _ (heap_alloc_new _ _) ?_ ?_ ?_ ?_; kernel_rfl; rfl; kernel_rfl; rw [World.setRow_alloc_new])
 try rw [hw7]
 clear hw7
 try rw [show w5.heap.size + 1 + 1 = w5.heap.size + 2 from rfl]
 try rw [show w5.heap.size + 2 + 1 = w5.heap.size + 3 from rfl]
 have hb57 := HB5.out.trans (hb7.mono HB5.out.size)
 have HB47 := zh (HB4.out.trans (hb57.mono HB4.out.size))
 have hz57 : w4.heap.size ≤ w5.heap.size := HB5.out.size
 have hgo7 := zf hb7 HGO.out
 have hgl : go < w5.heap.size := (Array.getElem?_eq_some_iff.1 HGO.out).1
 have H47 := zh (zf hb57 H4.out)
 have H57 := zh (zf hb57 H5.out)
 have H67 := zh (zf hb57 H6.out)
 have H77 := zh (zf hb57 H7.out)
 have HGO7 := zh hgo7
 clear hb57 hgo7 H4 H5 H6 H7 HB4 HB5 HGO HGS HOL hb7
 obtain ⟨b10, hb10⟩ : ∃ b : Nat, w5.heap.size = b := ⟨_, rfl⟩
 rw [hb10] at h10 h11 h12 h13 hz7 hz57 hgl ⊢
 clear hb10 w5
 have H10 := zh h10
 have H11 := zh h11
 have H12 := zh h12
 have H13 := zh h13
 have HZ7 := zh hz7
 clear h10 h11 h12 h13 hz7
 have hmm := @run_makeMap Try.prog
 go_upto_region 6 with (first
  | (refine ji rfl _ _ _ _ _ _ rfl Try.underlying118 Try.underlying3 _ _ _ (heap_alloc_new _ _) rfl 1 rfl _ rfl (by rfl) ?_; intro w71 hm71 hg71)
  | (refine ji rfl _ _ _ _ _ _ rfl Try.underlying118 Try.underlying3 _ _ _ hm71 rfl 2 rfl _ rfl (by rfl) ?_; intro w72 hm72 hg72)
  | (refine ji rfl _ _ _ _ _ _ rfl Try.underlying118 Try.underlying3 _ _ _ hm72 rfl 4 rfl _ rfl (by rfl) ?_; intro w73 hm73 hg73)
  | (refine ji rfl _ _ _ _ _ _ rfl Try.underlying118 Try.underlying3 _ _ _ hm73 rfl 3 rfl _ rfl (by rfl) ?_; intro w74 hm74 hg74))
 have ht74 : zN (fun _ => False) w7 w74 := by
  have no : ∀ k, some w7.heap.size = some k → k < w7.heap.size → False := fun k hk hl => by simp only [Option.some.injEq] at hk; omega
  exact (((((zN.refl _ w7).alloc _).grown hg71 no).grown hg72 no).grown hg73 no).grown hg74 no
 have hb74 : Below w7.heap.size w7 w74 := ht74.toBelow (zn _) fun _ h => h.elim
 obtain ⟨mb, hmb⟩ : ∃ mb : Nat, w7.heap.size = mb := ⟨_, rfl⟩
 try rw [hmb]
 have hmp : w74.heap[mb]? = some (.map (fnsM (w.heap.size + 1) (w.heap.size + 2) (w.heap.size + 3) b10 (b10 + 1) (b10 + 2) (b10 + 3)) 4) := by rw [← hmb]; exact hm74
 have hz74 : mb < w74.heap.size := (Array.getElem?_eq_some_iff.1 hmp).1
 have HW9 : x8 w E (b10 + 2) w.heap.size (w.heap.size + 1) (w.heap.size + 2) (w.heap.size + 3) b10 (b10 + 1) m go (b10 + 2) (b10 + 3) w74.heap.size mb (fnsM (w.heap.size + 1) (w.heap.size + 2) (w.heap.size + 3) b10 (b10 + 1) (b10 + 2) (b10 + 3)) 4 nm (.slice ao E.ls.length cap) (.slice fa E.funcs.length fcap) (.slice da E.data.length dcap) [] [] [] (.slice none 0 0) (.slice none 0 0) (.slice none 0 0) (w74.alloc (.cells #[.pointer none, .slice none 0 0] 109)) := by
  have hb9 : Below w7.heap.size w7 (w74.alloc (.cells #[.pointer none, .slice none 0 0] 109)) := hb74.alloc hb74.size _
  have hw5 := HZ4.out
  have hz7 := HZ7.out
  refine ⟨⟨HB47.out.trans (hb9.mono HB47.out.size), zf hb9 H47.out, zf hb9 H57.out, zf hb9 H67.out, zf hb9 H77.out, zf hb9 H10.out, zf hb9 H11.out, zf hb9 HGO7.out, HMT.out, HFV.out, HDV.out, HLV.out, ?_⟩, ⟨zf hb9 H12.out, ⟨rfl, .inl ⟨rfl, rfl⟩⟩⟩, ⟨⟨_, .inl rfl, zf hb9 H13.out⟩, ⟨rfl, .inl ⟨rfl, rfl⟩⟩, by simp [bv]⟩, jL.new w74, fun q hq => (by cases hq), fun q hq => (by cases hq), fun q hq => (by cases hq), fun q hq => (by cases hq), (heap_alloc_old w74 _ hz74).trans hmp, ?_⟩
  ·have := hb9.size
   refine ⟨by omega, by omega, by omega, by omega, by omega, by omega, by omega, by omega, by omega⟩
  ·refine ⟨zn _, by omega, by omega, by omega⟩
 go_upto_region 7 with fail
 obtain ⟨b15, hb15⟩ : ∃ b15 : Nat, w74.heap.size = b15 := ⟨_, rfl⟩
 obtain ⟨w9, hw9⟩ : ∃ w9 : World, w74.alloc (.cells #[.pointer none, .slice none 0 0] 109) = w9 := ⟨_, rfl⟩
 rw [hw9, hb15] at HW9
 rw [hw9]
 try rw [hb15]
 clear hw9 hb15 hmp hb74 ht74 hm71 hm72 hm73 hm74 hg71 hg72 hg73 hg74 hmb hz74 hmm H10 H11 H12 H13 H47 H57 H67 H77 HB47 HGO7 HZ7 hz57 hgl HZ4
 obtain ⟨b5, hb5⟩ : ∃ b : Nat, w.heap.size + 1 = b := ⟨_, rfl⟩
 obtain ⟨b6, hb6⟩ : ∃ b : Nat, w.heap.size + 2 = b := ⟨_, rfl⟩
 obtain ⟨b7, hb7⟩ : ∃ b : Nat, w.heap.size + 3 = b := ⟨_, rfl⟩
 obtain ⟨b11, hb11⟩ : ∃ b : Nat, b10 + 1 = b := ⟨_, rfl⟩
 obtain ⟨b12, hb12⟩ : ∃ b : Nat, b10 + 2 = b := ⟨_, rfl⟩
 obtain ⟨b13, hb13⟩ : ∃ b : Nat, b10 + 3 = b := ⟨_, rfl⟩
 rw [hb5, hb6, hb7, hb11, hb12, hb13] at HW9
 try rw [hb12]
 try rw [hb13]
 clear hb5 hb6 hb7 hb11 hb12 hb13
 have HW := zh HW9
 clear HW9
 have c1 := cell_of_row w9 w.heap.size 1 _ _ _ HW.out.cd.h4
 go_wp2_with fail
 clear c1
 go_loopw [34] (fun i wr => ∃ (k : Nat) (pv tv cv : Value), k ≤ E.ls.length ∧ i = .int .i64 k ∧ Hid (x8 w E b12 w.heap.size b5 b6 b7 b10 b11 m go b12 b13 b15 mb (fnsM b5 b6 b7 b10 b11 b12 b13) 4 nm (.slice ao E.ls.length cap) (.slice fa E.funcs.length fcap) (.slice da E.data.length dcap) (E.posTo k) (E.tabsTo k) (E.codeTo k) pv tv cv wr)) (fun i _ => E.ls.length - (intOf i).toNat)
 case atStart => exact ⟨0, _, _, _, Nat.zero_le _, rfl, HW⟩
 case round =>
  obtain ⟨k, pv, tv, cv, hk, rfl, HG⟩ := hrel
  clear HW
  by_cases hlt : k < E.ls.length
  ·obtain ⟨l, hl⟩ : ∃ l, E.ls[k]? = some l := ⟨_, List.getElem?_eq_getElem hlt⟩
   have HLk := zh hl
   have HLE := zh (show E.ls[k] = l from (List.getElem?_eq_some_iff.1 hl).2)
   have HNF := zh (HFF.out l (List.mem_of_getElem? hl))
   obtain ⟨q, off, c, T', fr', tq, rfl, hq, hx, hti⟩ := HLV.out.at hl
   obtain ⟨ta, tcp, rfl, -, -⟩ := id hti
   have HTI := zh hti
   have HQ := zh (zf HG.out.cd.bb hq)
   have HX := zh hx
   clear hq hx hl hti
   go_upto_region 10 with (first | (refine wpList_store_row rfl _ _ _ rfl _ _ rfl rfl _ _ (heap_alloc_new _ _) ?_ ?_ ?_ ?_; kernel_rfl; rfl; kernel_rfl; rw [World.setRow_alloc_new]) | (refine z9 _ _ rfl _ _ rfl _ _ _ (HQ.out) ([.int .i64 (l).label, .int .i64 (l).ins.op, .int .i64 (l).ins.d, .int .i64 (l).ins.s, .int .u16 (l).ins.imm, .int .u16 (l).ins.aux, .int .i64 (l).ins.bank, .int .i64 (l).ins.size, .int .i64 (l).dest, .int .i64 (l).fn, .int .i64 (l).obj, .slice ta (l).tab.length tcp]) (HX.out) ?_ ?_ ?_; kernel_rfl; kernel_rfl))
   have hg1 := HG.out.stay ((Below.refl wr.heap.size wr).alloc (zn _) (.cells #[.int .i64 (l).label, .int .i64 (l).ins.op, .int .i64 (l).ins.d, .int .i64 (l).ins.s, .int .u16 (l).ins.imm, .int .u16 (l).ins.aux, .int .i64 (l).ins.bank, .int .i64 (l).ins.size, .int .i64 (l).dest, .int .i64 (l).fn, .int .i64 (l).obj, .slice ta (l).tab.length tcp] 58))
   have hn := heap_alloc_new wr (.cells #[.int .i64 (l).label, .int .i64 (l).ins.op, .int .i64 (l).ins.d, .int .i64 (l).ins.s, .int .u16 (l).ins.imm, .int .u16 (l).ins.aux, .int .i64 (l).ins.bank, .int .i64 (l).ins.size, .int .i64 (l).dest, .int .i64 (l).fn, .int .i64 (l).obj, .slice ta (l).tab.length tcp] 58)
   have HNL := zh (show ¬ ((wr.heap.size = b12 ∨ wr.heap.size = b13) ∨ pv.ownBlock = some wr.heap.size ∨ tv.ownBlock = some wr.heap.size) from fun h => Nat.lt_irrefl _ (HG.out.tsN _ h).2.2.2.2)
   have HNM := zh (show ¬ ((mb = b12 ∨ mb = b13) ∨ pv.ownBlock = some mb ∨ tv.ownBlock = some mb) from fun h => (HG.out.tsN _ h).2.2.2.1 rfl)
   obtain ⟨wx, hwx⟩ : ∃ wx : World, wr.alloc (.cells #[.int .i64 (l).label, .int .i64 (l).ins.op, .int .i64 (l).ins.d, .int .i64 (l).ins.s, .int .u16 (l).ins.imm, .int .u16 (l).ins.aux, .int .i64 (l).ins.bank, .int .i64 (l).ins.size, .int .i64 (l).dest, .int .i64 (l).fn, .int .i64 (l).obj, .slice ta (l).tab.length tcp] 58) = wx := ⟨_, rfl⟩
   obtain ⟨g, hg⟩ : ∃ g : Nat, wr.heap.size = g := ⟨_, rfl⟩
   rw [hwx] at hg1 hn ⊢
   rw [hg] at hn HNL ⊢
   have HLN := zh hn
   have HGX := zh hg1
   have HMP := zh hg1.mp
   clear hwx hg hn hg1 HG HQ HX wr
   have HPL := zh (show (E.posTo k).length ≤ 100000 by have := posTo_len HE.out k (by omega); omega)
   have HTL := zh (show (E.tabsTo k).length ≤ 10000000 by have := (tabsTo_ok HE.out k (by omega)).2; omega)
   have hio := insL_ok HE.out HLk.out HNF.out (E.tabsTo k).length
   have HSD := zh (fun W => sized_any (E.insL k (E.tabsTo k).length l) W)
   have HEN := zh (fun W => encode_any (z6 (E.insL k (E.tabsTo k).length l)) hio W)
   have HBT := zh (show Bts (E.lineB k (E.tabsTo k).length l) from encB_rng _ hio)
   have HBL := zh (show (bv (E.codeTo k)).length + (zO (E.lineB k (E.tabsTo k).length l)).size ≤ 140737488355328 by
    have h1 := (codeTo_ok HE.out HFF.out k (by omega)).2
    have h2 := encB_len (z6 (E.insL k (E.tabsTo k).length l))
    have h3 : (bv (E.codeTo k)).length = (E.codeTo k).length := by simp [bv]
    have h4 : (E.lineB k (E.tabsTo k).length l).length = (xl (z6 (E.insL k (E.tabsTo k).length l))).length := rfl
    rw [yo, h3, h4]
    omega)
   clear hio
   simp only [Act.put]
   go_cut [18] (fun s wz => s = .string (zO (E.lineB k (E.tabsTo k).length l)) ∧ ∃ pv' tv', Hid (x8 w E b12 w.heap.size b5 b6 b7 b10 b11 m go b12 b13 b15 mb (fnsM b5 b6 b7 b10 b11 b12 b13) 4 nm (.slice (some ⟨q, off, none⟩) E.ls.length cap) (.slice fa E.funcs.length fcap) (.slice da E.data.length dcap) (E.posTo k ++ E.posL k l) (E.tabsTo k ++ E.tabB l) (E.codeTo k) pv' tv' cv wz))
   case first =>
    as_aux_lemma =>
    rcases xL l.ins.op with hf | hf | hf | hf | hf
    ·exact absurd hf HNF.out
    ·have HFO := zh (show ∀ V, Calls Try.prog 42 #[.int .i64 l.ins.op] V fun e w' => e = .returned (.int .i64 1) ∧ Below V.heap.size V w' from fun V => by have := xc l.ins.op V; rw [hf] at this; exact this)
     have HF := zh hf
     clear hf
     refine xK 0 _ (.map (some mb)) [] 16 (z5 [isVs [(.map (some mb))] ((fun W => x8 w E b12 w.heap.size b5 b6 b7 b10 b11 m go b12 b13 b15 mb (fnsM b5 b6 b7 b10 b11 b12 b13) 4 nm (.slice (some ⟨q, off, none⟩) E.ls.length cap) (.slice fa E.funcs.length fcap) (.slice da E.data.length dcap) (E.posTo k) (E.tabsTo k) (E.codeTo k) pv tv cv W)), isV (.pointer (some ⟨g, 1, none⟩)), isV (.pointer (some ⟨g, 1, none⟩)), isV (.int .i64 l.ins.op), isV (.int .i64 1), isV ((.func (.func 53) #[] #[.pointer (some ⟨b7, 0, none⟩), .pointer (some ⟨b12, 0, none⟩), .pointer (some ⟨b10, 0, none⟩)])), isV (.int .i64 k), isV (.agg #[.int .i64 (l).label, .int .i64 (l).ins.op, .int .i64 (l).ins.d, .int .i64 (l).ins.s, .int .u16 (l).ins.imm, .int .u16 (l).ins.aux, .int .i64 (l).ins.bank, .int .i64 (l).ins.size, .int .i64 (l).dest, .int .i64 (l).fn, .int .i64 (l).obj, .slice ta (l).tab.length tcp]), isVs [(.map (some mb)), (.agg (zt (E.insL k (E.tabsTo k).length l)))] ((fun W => ∃ pv' tv', x8 w E b12 w.heap.size b5 b6 b7 b10 b11 m go b12 b13 b15 mb (fnsM b5 b6 b7 b10 b11 b12 b13) 4 nm (.slice (some ⟨q, off, none⟩) E.ls.length cap) (.slice fa E.funcs.length fcap) (.slice da E.data.length dcap) (E.posTo k ++ E.posL k l) (E.tabsTo k ++ E.tabB l) (E.codeTo k) pv' tv' cv W)), isV ((.agg (zt (z6 (E.insL k (E.tabsTo k).length l))))), isV ((.tuple #[.string (zO (E.lineB k (E.tabsTo k).length l)), .int .i64 (jx (z6 (E.insL k (E.tabsTo k).length l)))])), isV ((.tuple #[.string (zO (E.lineB k (E.tabsTo k).length l)), .int .i64 (jx (z6 (E.insL k (E.tabsTo k).length l)))])), isV ((.string (zO (E.lineB k (E.tabsTo k).length l)))), isV ((.int .i64 (jx (z6 (E.insL k (E.tabsTo k).length l))))), isV ((.string (zO (E.lineB k (E.tabsTo k).length l)))), isV ((.int .i64 (jx (z6 (E.insL k (E.tabsTo k).length l)))))]) (nth [[0], [1], [2], [3], [4], [5], [6], [7], [0, 8], [9], [10], [11], [12], [13], [14], [15]]) (nth [[], [], [], [], [], [], [], [], [0], [], [], [], [], [], [], []]) (nth [[], [], [1], [2], [3], [0, 4], [], [], [5, 6, 7, 4, 0], [8], [9], [10], [11], [11], [12], [13]]) [8, 14] (fun w5 => zN (fun x => (x = b12 ∨ x = b13) ∨ pv.ownBlock = some x ∨ tv.ownBlock = some x) wx w5) (by kernel_rfl) (by kernel_rfl) rfl (by kernel_rfl) (by kernel_rfl) (by kernel_rfl) (fun _ _ _ h => h) ⟨by rfl, fun w => by rfl⟩ (⟨by rfl, HGX.out.stay (Below.refl _ _).drew⟩) ((zN.refl _ _).drew) (fun w w' h hb => h.trans (zN.ofBelow (bs := fun _ => False) hb) (fun _ _ h => h.elim)) (zG ((za (jt _ (fun _ _ h hb => h.stay hb))  (za (zc _)  (za (zc _)  (za (zc _)  (za (zc _)  (za (zc _)  (za (zc _)  (za (zc _)  (za (jt _ ((fun _ _ h hb => by obtain ⟨p1, t1, h1⟩ := h; exact ⟨p1, t1, h1.stay hb⟩)))  (za (zc _)  (za (zc _)  (za (zc _)  (za (zc _)  (za (zc _)  (za (zc _)  (za (zc _) zy)))))))))))))))))) (fun f F hF => ?_)
     simp only [List.take_succ_cons, List.take_zero, yb, Act.put, zD, zE, zF, Nat.reduceAdd] at hF
     subst hF
     refine ⟨zj.skip (by rfl) (ze ?_ (ze ?_ (ze ?_ (ze ?_ (ze ?_ (ze ?_ (ze ?_ (ze ?_ (ze ?_ (ze ?_ (ze ?_ (ze ?_ (ze ?_ (ze ?_ (ze ?_ (yf)))))))))))))))), ?_⟩
     ·intro w5 hS hF hD K hK
      exact stV hK rfl rfl rfl rfl (by first | rfl | kernel_rfl) rfl (by show _ = _; kernel_rfl)
     ·intro w5 hS hF hD K hK
      obtain ⟨(e1 : f 1 = _), -⟩ := hF
      try simp only [e1]
      exact stV hK rfl rfl rfl rfl (by first | rfl | kernel_rfl) rfl (by show _ = _; kernel_rfl)
     ·intro w5 hS hF hD K hK
      obtain ⟨(e2 : f 2 = _), -⟩ := hF
      try simp only [e2]
      exact stC hK rfl rfl rfl rfl (by first | rfl | kernel_rfl) rfl rfl rfl (hS.heap HLN.out HNL.out) (by kernel_rfl) (fun _ => by kernel_rfl)
     ·intro w5 hS hF hD K hK
      obtain ⟨(e3 : f 3 = _), -⟩ := hF
      try simp only [e3]
      rw [if_pos (by rfl)]
      go_simp
      go_at_call 42; refine (HFO.out _).mono ?_; rintro e w3 ⟨rfl, hbelow⟩; go_simp
      refine hK.out _ _ rfl (zP rfl rfl rfl hbelow ?_)
      first | rfl | kernel_rfl
     ·intro w5 hS hF hD K hK
      obtain ⟨e0, (e4 : f 4 = _), -⟩ := hF
      obtain ⟨e0, p0⟩ := e0
      replace e0 : [f 0] = _ := e0
      simp only [List.cons.injEq, and_true] at e0
      have q0_0 := e0
      try simp only [q0_0, e4]
      rw [if_pos (by rfl)]
      exact zx (jM _ _ 118 3 _ rfl Try.underlying118 Try.underlying3 mb _ _ (hS.heap HMP.out HNM.out) rfl 1 rfl 0 _ (by rfl)) (hK.out _ _ rfl (zq rfl rfl rfl (by first | rfl | kernel_rfl)))
     ·intro w5 hS hF hD K hK
      exact stV hK rfl rfl rfl rfl (by first | rfl | kernel_rfl) rfl (by show _ = _; kernel_rfl)
     ·intro w5 hS hF hD K hK
      exact stR hK rfl rfl rfl rfl (by first | rfl | kernel_rfl) rfl rfl rfl (hS.heap HLN.out HNL.out) (by kernel_rfl)
     ·intro w5 hS hF hD K hK
      obtain ⟨(e5 : f 5 = _), (e6 : f 6 = _), (e7 : f 7 = _), (e4 : f 4 = _), e0, -⟩ := hF
      obtain ⟨e0, p0⟩ := e0
      replace e0 : [f 0] = _ := e0
      simp only [List.cons.injEq, and_true] at e0
      have q0_0 := e0
      try simp only [e5, e6, e7, e4, q0_0]
      rw [if_pos (by rfl)]
      go_simp
      go_at_call 53; refine (ln_plain w E HE.out b12 w.heap.size b5 b6 b7 b10 b11 m go k b12 b13 nm (.slice (some ⟨q, off, none⟩) E.ls.length cap) (.slice fa E.funcs.length fcap) (.slice da E.data.length dcap) pv tv l ta tcp (E.posTo k) (E.tabsTo k) HPL.out HTL.out HLk.out _ p0.cd p0.ps p0.tb HTI.out p0.lt.1 p0.lt.2.1 p0.pr p0.tr HF.out).mono ?_; rintro e w3 ⟨rfl, pv', tv', hp3, hb3, ht3, hr3, hs3⟩; have hq3 := (⟨pv', tv', p0.line hp3 hb3 ht3 hr3 hs3⟩ : ∃ pv' tv', x8 w E b12 w.heap.size b5 b6 b7 b10 b11 m go b12 b13 b15 mb (fnsM b5 b6 b7 b10 b11 b12 b13) 4 nm (.slice (some ⟨q, off, none⟩) E.ls.length cap) (.slice fa E.funcs.length fcap) (.slice da E.data.length dcap) (E.posTo k ++ E.posL k l) (E.tabsTo k ++ E.tabB l) (E.codeTo k) pv' tv' cv w3); go_simp
      refine hK.out _ _ rfl (zr.gen rfl rfl rfl rfl (ht3.size) (hS.trans ht3 (fun _ _ h => h)) (yc (by rfl) (zk (zk (zk (zk (zk (zk (zk (yc (by rfl) (zk (zk (zk (zk (zk (zk (zk ym)))))))))))))))) (hq3) ?_)
      show [f 0, _] = _
      rw [q0_0]
      first | rfl | kernel_rfl
     ·intro w5 hS hF hD K hK
      obtain ⟨e8, -⟩ := hF
      obtain ⟨e8, p8⟩ := e8
      replace e8 : [f 0, f 8] = _ := e8
      simp only [List.cons.injEq, and_true] at e8
      obtain ⟨q8_0, q8_8⟩ := e8
      try simp only [q8_0, q8_8]
      rw [if_pos (by rfl)]
      go_simp
      go_at_call 46; refine (HSD.out _).mono ?_; rintro e w3 ⟨rfl, hbelow⟩; go_simp
      refine hK.out _ _ rfl (zP rfl rfl rfl hbelow ?_)
      first | rfl | kernel_rfl
     ·intro w5 hS hF hD K hK
      obtain ⟨(e9 : f 9 = _), -⟩ := hF
      try simp only [e9]
      rw [if_pos (by rfl)]
      go_simp
      go_at_call 62; refine (HEN.out _).mono ?_; rintro e w3 ⟨rfl, hbelow⟩; go_simp
      refine hK.out _ _ rfl (zP rfl rfl rfl hbelow ?_)
      first | rfl | kernel_rfl
     ·intro w5 hS hF hD K hK
      obtain ⟨(e10 : f 10 = _), -⟩ := hF
      try simp only [e10]
      exact stV hK rfl rfl rfl rfl (by first | rfl | kernel_rfl) rfl (by show _ = _; kernel_rfl)
     ·intro w5 hS hF hD K hK
      obtain ⟨(e11 : f 11 = _), -⟩ := hF
      try simp only [e11]
      exact stV hK rfl rfl rfl rfl (by first | rfl | kernel_rfl) rfl (by show _ = _; kernel_rfl)
     ·intro w5 hS hF hD K hK
      obtain ⟨(e11 : f 11 = _), -⟩ := hF
      try simp only [e11]
      exact stV hK rfl rfl rfl rfl (by first | rfl | kernel_rfl) rfl (by show _ = _; kernel_rfl)
     ·intro w5 hS hF hD K hK
      obtain ⟨(e12 : f 12 = _), -⟩ := hF
      try simp only [e12]
      exact stV hK rfl rfl rfl rfl (by first | rfl | kernel_rfl) rfl (by show _ = _; kernel_rfl)
     ·intro w5 hS hF hD K hK
      obtain ⟨(e13 : f 13 = _), -⟩ := hF
      try simp only [e13]
      exact stV hK rfl rfl rfl rfl (by first | rfl | kernel_rfl) rfl (by show _ = _; kernel_rfl)
     intro w5 hS hF
     obtain ⟨e8, (e14 : f 14 = _), -⟩ := hF
     obtain ⟨e8, p8⟩ := e8
     replace e8 : [f 0, f 8] = _ := e8
     simp only [List.cons.injEq, and_true] at e8
     obtain ⟨q8_0, q8_8⟩ := e8
     try simp only [q8_0, q8_8, e14]
     simp only [List.drop_succ_cons, List.drop_zero]
     obtain ⟨pv', tv', hg5⟩ := p8
     have HG5 := zh hg5
     clear hg5 hS
     go_wp2_with fail
     go_meet
     exact ⟨rfl, pv', tv', HG5⟩
    ·have HFO := zh (show ∀ V, Calls Try.prog 42 #[.int .i64 l.ins.op] V fun e w' => e = .returned (.int .i64 2) ∧ Below V.heap.size V w' from fun V => by have := xc l.ins.op V; rw [hf] at this; exact this)
     have HF := zh hf
     clear hf
     refine xK 0 _ (.map (some mb)) [] 16 (z5 [isVs [(.map (some mb))] ((fun W => x8 w E b12 w.heap.size b5 b6 b7 b10 b11 m go b12 b13 b15 mb (fnsM b5 b6 b7 b10 b11 b12 b13) 4 nm (.slice (some ⟨q, off, none⟩) E.ls.length cap) (.slice fa E.funcs.length fcap) (.slice da E.data.length dcap) (E.posTo k) (E.tabsTo k) (E.codeTo k) pv tv cv W)), isV (.pointer (some ⟨g, 1, none⟩)), isV (.pointer (some ⟨g, 1, none⟩)), isV (.int .i64 l.ins.op), isV (.int .i64 2), isV ((.func (.func 55) #[] #[.pointer (some ⟨b10, 0, none⟩), .pointer (some ⟨b11, 0, none⟩), .pointer (some ⟨b5, 0, none⟩)])), isV (.int .i64 k), isV (.agg #[.int .i64 (l).label, .int .i64 (l).ins.op, .int .i64 (l).ins.d, .int .i64 (l).ins.s, .int .u16 (l).ins.imm, .int .u16 (l).ins.aux, .int .i64 (l).ins.bank, .int .i64 (l).ins.size, .int .i64 (l).dest, .int .i64 (l).fn, .int .i64 (l).obj, .slice ta (l).tab.length tcp]), isVs [(.map (some mb)), (.agg (zt (E.insL k (E.tabsTo k).length l)))] ((fun W => ∃ pv' tv', x8 w E b12 w.heap.size b5 b6 b7 b10 b11 m go b12 b13 b15 mb (fnsM b5 b6 b7 b10 b11 b12 b13) 4 nm (.slice (some ⟨q, off, none⟩) E.ls.length cap) (.slice fa E.funcs.length fcap) (.slice da E.data.length dcap) (E.posTo k ++ E.posL k l) (E.tabsTo k ++ E.tabB l) (E.codeTo k) pv' tv' cv W)), isV ((.agg (zt (z6 (E.insL k (E.tabsTo k).length l))))), isV ((.tuple #[.string (zO (E.lineB k (E.tabsTo k).length l)), .int .i64 (jx (z6 (E.insL k (E.tabsTo k).length l)))])), isV ((.tuple #[.string (zO (E.lineB k (E.tabsTo k).length l)), .int .i64 (jx (z6 (E.insL k (E.tabsTo k).length l)))])), isV ((.string (zO (E.lineB k (E.tabsTo k).length l)))), isV ((.int .i64 (jx (z6 (E.insL k (E.tabsTo k).length l))))), isV ((.string (zO (E.lineB k (E.tabsTo k).length l)))), isV ((.int .i64 (jx (z6 (E.insL k (E.tabsTo k).length l)))))]) (nth [[0], [1], [2], [3], [4], [5], [6], [7], [0, 8], [9], [10], [11], [12], [13], [14], [15]]) (nth [[], [], [], [], [], [], [], [], [0], [], [], [], [], [], [], []]) (nth [[], [], [1], [2], [3], [0, 4], [], [], [5, 6, 7, 4, 0], [8], [9], [10], [11], [11], [12], [13]]) [8, 14] (fun w5 => zN (fun x => (x = b12 ∨ x = b13) ∨ pv.ownBlock = some x ∨ tv.ownBlock = some x) wx w5) (by kernel_rfl) (by kernel_rfl) rfl (by kernel_rfl) (by kernel_rfl) (by kernel_rfl) (fun _ _ _ h => h) ⟨by rfl, fun w => by rfl⟩ (⟨by rfl, HGX.out.stay (Below.refl _ _).drew⟩) ((zN.refl _ _).drew) (fun w w' h hb => h.trans (zN.ofBelow (bs := fun _ => False) hb) (fun _ _ h => h.elim)) (zG ((za (jt _ (fun _ _ h hb => h.stay hb))  (za (zc _)  (za (zc _)  (za (zc _)  (za (zc _)  (za (zc _)  (za (zc _)  (za (zc _)  (za (jt _ ((fun _ _ h hb => by obtain ⟨p1, t1, h1⟩ := h; exact ⟨p1, t1, h1.stay hb⟩)))  (za (zc _)  (za (zc _)  (za (zc _)  (za (zc _)  (za (zc _)  (za (zc _)  (za (zc _) zy)))))))))))))))))) (fun f F hF => ?_)
     simp only [List.take_succ_cons, List.take_zero, yb, Act.put, zD, zE, zF, Nat.reduceAdd] at hF
     subst hF
     refine ⟨zj.skip (by rfl) (ze ?_ (ze ?_ (ze ?_ (ze ?_ (ze ?_ (ze ?_ (ze ?_ (ze ?_ (ze ?_ (ze ?_ (ze ?_ (ze ?_ (ze ?_ (ze ?_ (ze ?_ (yf)))))))))))))))), ?_⟩
     ·intro w5 hS hF hD K hK
      exact stV hK rfl rfl rfl rfl (by first | rfl | kernel_rfl) rfl (by show _ = _; kernel_rfl)
     ·intro w5 hS hF hD K hK
      obtain ⟨(e1 : f 1 = _), -⟩ := hF
      try simp only [e1]
      exact stV hK rfl rfl rfl rfl (by first | rfl | kernel_rfl) rfl (by show _ = _; kernel_rfl)
     ·intro w5 hS hF hD K hK
      obtain ⟨(e2 : f 2 = _), -⟩ := hF
      try simp only [e2]
      exact stC hK rfl rfl rfl rfl (by first | rfl | kernel_rfl) rfl rfl rfl (hS.heap HLN.out HNL.out) (by kernel_rfl) (fun _ => by kernel_rfl)
     ·intro w5 hS hF hD K hK
      obtain ⟨(e3 : f 3 = _), -⟩ := hF
      try simp only [e3]
      rw [if_pos (by rfl)]
      go_simp
      go_at_call 42; refine (HFO.out _).mono ?_; rintro e w3 ⟨rfl, hbelow⟩; go_simp
      refine hK.out _ _ rfl (zP rfl rfl rfl hbelow ?_)
      first | rfl | kernel_rfl
     ·intro w5 hS hF hD K hK
      obtain ⟨e0, (e4 : f 4 = _), -⟩ := hF
      obtain ⟨e0, p0⟩ := e0
      replace e0 : [f 0] = _ := e0
      simp only [List.cons.injEq, and_true] at e0
      have q0_0 := e0
      try simp only [q0_0, e4]
      rw [if_pos (by rfl)]
      exact zx (jM _ _ 118 3 _ rfl Try.underlying118 Try.underlying3 mb _ _ (hS.heap HMP.out HNM.out) rfl 2 rfl 1 _ (by rfl)) (hK.out _ _ rfl (zq rfl rfl rfl (by first | rfl | kernel_rfl)))
     ·intro w5 hS hF hD K hK
      exact stV hK rfl rfl rfl rfl (by first | rfl | kernel_rfl) rfl (by show _ = _; kernel_rfl)
     ·intro w5 hS hF hD K hK
      exact stR hK rfl rfl rfl rfl (by first | rfl | kernel_rfl) rfl rfl rfl (hS.heap HLN.out HNL.out) (by kernel_rfl)
     ·intro w5 hS hF hD K hK
      obtain ⟨(e5 : f 5 = _), (e6 : f 6 = _), (e7 : f 7 = _), (e4 : f 4 = _), e0, -⟩ := hF
      obtain ⟨e0, p0⟩ := e0
      replace e0 : [f 0] = _ := e0
      simp only [List.cons.injEq, and_true] at e0
      have q0_0 := e0
      try simp only [e5, e6, e7, e4, q0_0]
      rw [if_pos (by rfl)]
      go_simp
      go_at_call 55; refine (ln_branch w E HE.out b12 w.heap.size b5 b6 b7 b10 b11 m go k b12 b13 nm (.slice (some ⟨q, off, none⟩) E.ls.length cap) (.slice fa E.funcs.length fcap) (.slice da E.data.length dcap) pv tv l ta tcp (E.posTo k) (E.tabsTo k) HLk.out _ p0.cd p0.ps p0.tb HF.out).mono ?_; rintro e w3 ⟨rfl, pv', tv', hp3, hb3, ht3, hr3, hs3⟩; have hq3 := (⟨pv', tv', p0.line hp3 hb3 ht3 hr3 hs3⟩ : ∃ pv' tv', x8 w E b12 w.heap.size b5 b6 b7 b10 b11 m go b12 b13 b15 mb (fnsM b5 b6 b7 b10 b11 b12 b13) 4 nm (.slice (some ⟨q, off, none⟩) E.ls.length cap) (.slice fa E.funcs.length fcap) (.slice da E.data.length dcap) (E.posTo k ++ E.posL k l) (E.tabsTo k ++ E.tabB l) (E.codeTo k) pv' tv' cv w3); go_simp
      refine hK.out _ _ rfl (zr.gen rfl rfl rfl rfl (ht3.size) (hS.trans ht3 (fun _ _ h => h)) (yc (by rfl) (zk (zk (zk (zk (zk (zk (zk (yc (by rfl) (zk (zk (zk (zk (zk (zk (zk ym)))))))))))))))) (hq3) ?_)
      show [f 0, _] = _
      rw [q0_0]
      first | rfl | kernel_rfl
     ·intro w5 hS hF hD K hK
      obtain ⟨e8, -⟩ := hF
      obtain ⟨e8, p8⟩ := e8
      replace e8 : [f 0, f 8] = _ := e8
      simp only [List.cons.injEq, and_true] at e8
      obtain ⟨q8_0, q8_8⟩ := e8
      try simp only [q8_0, q8_8]
      rw [if_pos (by rfl)]
      go_simp
      go_at_call 46; refine (HSD.out _).mono ?_; rintro e w3 ⟨rfl, hbelow⟩; go_simp
      refine hK.out _ _ rfl (zP rfl rfl rfl hbelow ?_)
      first | rfl | kernel_rfl
     ·intro w5 hS hF hD K hK
      obtain ⟨(e9 : f 9 = _), -⟩ := hF
      try simp only [e9]
      rw [if_pos (by rfl)]
      go_simp
      go_at_call 62; refine (HEN.out _).mono ?_; rintro e w3 ⟨rfl, hbelow⟩; go_simp
      refine hK.out _ _ rfl (zP rfl rfl rfl hbelow ?_)
      first | rfl | kernel_rfl
     ·intro w5 hS hF hD K hK
      obtain ⟨(e10 : f 10 = _), -⟩ := hF
      try simp only [e10]
      exact stV hK rfl rfl rfl rfl (by first | rfl | kernel_rfl) rfl (by show _ = _; kernel_rfl)
     ·intro w5 hS hF hD K hK
      obtain ⟨(e11 : f 11 = _), -⟩ := hF
      try simp only [e11]
      exact stV hK rfl rfl rfl rfl (by first | rfl | kernel_rfl) rfl (by show _ = _; kernel_rfl)
     ·intro w5 hS hF hD K hK
      obtain ⟨(e11 : f 11 = _), -⟩ := hF
      try simp only [e11]
      exact stV hK rfl rfl rfl rfl (by first | rfl | kernel_rfl) rfl (by show _ = _; kernel_rfl)
     ·intro w5 hS hF hD K hK
      obtain ⟨(e12 : f 12 = _), -⟩ := hF
      try simp only [e12]
      exact stV hK rfl rfl rfl rfl (by first | rfl | kernel_rfl) rfl (by show _ = _; kernel_rfl)
     ·intro w5 hS hF hD K hK
      obtain ⟨(e13 : f 13 = _), -⟩ := hF
      try simp only [e13]
      exact stV hK rfl rfl rfl rfl (by first | rfl | kernel_rfl) rfl (by show _ = _; kernel_rfl)
     intro w5 hS hF
     obtain ⟨e8, (e14 : f 14 = _), -⟩ := hF
     obtain ⟨e8, p8⟩ := e8
     replace e8 : [f 0, f 8] = _ := e8
     simp only [List.cons.injEq, and_true] at e8
     obtain ⟨q8_0, q8_8⟩ := e8
     try simp only [q8_0, q8_8, e14]
     simp only [List.drop_succ_cons, List.drop_zero]
     obtain ⟨pv', tv', hg5⟩ := p8
     have HG5 := zh hg5
     clear hg5 hS
     go_wp2_with fail
     go_meet
     exact ⟨rfl, pv', tv', HG5⟩
    ·have HFO := zh (show ∀ V, Calls Try.prog 42 #[.int .i64 l.ins.op] V fun e w' => e = .returned (.int .i64 3) ∧ Below V.heap.size V w' from fun V => by have := xc l.ins.op V; rw [hf] at this; exact this)
     have HF := zh hf
     clear hf
     refine xK 0 _ (.map (some mb)) [] 16 (z5 [isVs [(.map (some mb))] ((fun W => x8 w E b12 w.heap.size b5 b6 b7 b10 b11 m go b12 b13 b15 mb (fnsM b5 b6 b7 b10 b11 b12 b13) 4 nm (.slice (some ⟨q, off, none⟩) E.ls.length cap) (.slice fa E.funcs.length fcap) (.slice da E.data.length dcap) (E.posTo k) (E.tabsTo k) (E.codeTo k) pv tv cv W)), isV (.pointer (some ⟨g, 1, none⟩)), isV (.pointer (some ⟨g, 1, none⟩)), isV (.int .i64 l.ins.op), isV (.int .i64 3), isV ((.func (.func 59) #[] #[.pointer (some ⟨b11, 0, none⟩), .pointer (some ⟨b5, 0, none⟩), .pointer (some ⟨b10, 0, none⟩), .pointer (some ⟨b13, 0, none⟩)])), isV (.int .i64 k), isV (.agg #[.int .i64 (l).label, .int .i64 (l).ins.op, .int .i64 (l).ins.d, .int .i64 (l).ins.s, .int .u16 (l).ins.imm, .int .u16 (l).ins.aux, .int .i64 (l).ins.bank, .int .i64 (l).ins.size, .int .i64 (l).dest, .int .i64 (l).fn, .int .i64 (l).obj, .slice ta (l).tab.length tcp]), isVs [(.map (some mb)), (.agg (zt (E.insL k (E.tabsTo k).length l)))] ((fun W => ∃ pv' tv', x8 w E b12 w.heap.size b5 b6 b7 b10 b11 m go b12 b13 b15 mb (fnsM b5 b6 b7 b10 b11 b12 b13) 4 nm (.slice (some ⟨q, off, none⟩) E.ls.length cap) (.slice fa E.funcs.length fcap) (.slice da E.data.length dcap) (E.posTo k ++ E.posL k l) (E.tabsTo k ++ E.tabB l) (E.codeTo k) pv' tv' cv W)), isV ((.agg (zt (z6 (E.insL k (E.tabsTo k).length l))))), isV ((.tuple #[.string (zO (E.lineB k (E.tabsTo k).length l)), .int .i64 (jx (z6 (E.insL k (E.tabsTo k).length l)))])), isV ((.tuple #[.string (zO (E.lineB k (E.tabsTo k).length l)), .int .i64 (jx (z6 (E.insL k (E.tabsTo k).length l)))])), isV ((.string (zO (E.lineB k (E.tabsTo k).length l)))), isV ((.int .i64 (jx (z6 (E.insL k (E.tabsTo k).length l))))), isV ((.string (zO (E.lineB k (E.tabsTo k).length l)))), isV ((.int .i64 (jx (z6 (E.insL k (E.tabsTo k).length l)))))]) (nth [[0], [1], [2], [3], [4], [5], [6], [7], [0, 8], [9], [10], [11], [12], [13], [14], [15]]) (nth [[], [], [], [], [], [], [], [], [0], [], [], [], [], [], [], []]) (nth [[], [], [1], [2], [3], [0, 4], [], [], [5, 6, 7, 4, 0], [8], [9], [10], [11], [11], [12], [13]]) [8, 14] (fun w5 => zN (fun x => (x = b12 ∨ x = b13) ∨ pv.ownBlock = some x ∨ tv.ownBlock = some x) wx w5) (by kernel_rfl) (by kernel_rfl) rfl (by kernel_rfl) (by kernel_rfl) (by kernel_rfl) (fun _ _ _ h => h) ⟨by rfl, fun w => by rfl⟩ (⟨by rfl, HGX.out.stay (Below.refl _ _).drew⟩) ((zN.refl _ _).drew) (fun w w' h hb => h.trans (zN.ofBelow (bs := fun _ => False) hb) (fun _ _ h => h.elim)) (zG ((za (jt _ (fun _ _ h hb => h.stay hb))  (za (zc _)  (za (zc _)  (za (zc _)  (za (zc _)  (za (zc _)  (za (zc _)  (za (zc _)  (za (jt _ ((fun _ _ h hb => by obtain ⟨p1, t1, h1⟩ := h; exact ⟨p1, t1, h1.stay hb⟩)))  (za (zc _)  (za (zc _)  (za (zc _)  (za (zc _)  (za (zc _)  (za (zc _)  (za (zc _) zy)))))))))))))))))) (fun f F hF => ?_)
     simp only [List.take_succ_cons, List.take_zero, yb, Act.put, zD, zE, zF, Nat.reduceAdd] at hF
     subst hF
     refine ⟨zj.skip (by rfl) (ze ?_ (ze ?_ (ze ?_ (ze ?_ (ze ?_ (ze ?_ (ze ?_ (ze ?_ (ze ?_ (ze ?_ (ze ?_ (ze ?_ (ze ?_ (ze ?_ (ze ?_ (yf)))))))))))))))), ?_⟩
     ·intro w5 hS hF hD K hK
      exact stV hK rfl rfl rfl rfl (by first | rfl | kernel_rfl) rfl (by show _ = _; kernel_rfl)
     ·intro w5 hS hF hD K hK
      obtain ⟨(e1 : f 1 = _), -⟩ := hF
      try simp only [e1]
      exact stV hK rfl rfl rfl rfl (by first | rfl | kernel_rfl) rfl (by show _ = _; kernel_rfl)
     ·intro w5 hS hF hD K hK
      obtain ⟨(e2 : f 2 = _), -⟩ := hF
      try simp only [e2]
      exact stC hK rfl rfl rfl rfl (by first | rfl | kernel_rfl) rfl rfl rfl (hS.heap HLN.out HNL.out) (by kernel_rfl) (fun _ => by kernel_rfl)
     ·intro w5 hS hF hD K hK
      obtain ⟨(e3 : f 3 = _), -⟩ := hF
      try simp only [e3]
      rw [if_pos (by rfl)]
      go_simp
      go_at_call 42; refine (HFO.out _).mono ?_; rintro e w3 ⟨rfl, hbelow⟩; go_simp
      refine hK.out _ _ rfl (zP rfl rfl rfl hbelow ?_)
      first | rfl | kernel_rfl
     ·intro w5 hS hF hD K hK
      obtain ⟨e0, (e4 : f 4 = _), -⟩ := hF
      obtain ⟨e0, p0⟩ := e0
      replace e0 : [f 0] = _ := e0
      simp only [List.cons.injEq, and_true] at e0
      have q0_0 := e0
      try simp only [q0_0, e4]
      rw [if_pos (by rfl)]
      exact zx (jM _ _ 118 3 _ rfl Try.underlying118 Try.underlying3 mb _ _ (hS.heap HMP.out HNM.out) rfl 3 rfl 3 _ (by rfl)) (hK.out _ _ rfl (zq rfl rfl rfl (by first | rfl | kernel_rfl)))
     ·intro w5 hS hF hD K hK
      exact stV hK rfl rfl rfl rfl (by first | rfl | kernel_rfl) rfl (by show _ = _; kernel_rfl)
     ·intro w5 hS hF hD K hK
      exact stR hK rfl rfl rfl rfl (by first | rfl | kernel_rfl) rfl rfl rfl (hS.heap HLN.out HNL.out) (by kernel_rfl)
     ·intro w5 hS hF hD K hK
      obtain ⟨(e5 : f 5 = _), (e6 : f 6 = _), (e7 : f 7 = _), (e4 : f 4 = _), e0, -⟩ := hF
      obtain ⟨e0, p0⟩ := e0
      replace e0 : [f 0] = _ := e0
      simp only [List.cons.injEq, and_true] at e0
      have q0_0 := e0
      try simp only [e5, e6, e7, e4, q0_0]
      rw [if_pos (by rfl)]
      go_simp
      go_at_call 59; refine (ln_table w E HE.out b12 w.heap.size b5 b6 b7 b10 b11 m go k b12 b13 nm (.slice (some ⟨q, off, none⟩) E.ls.length cap) (.slice fa E.funcs.length fcap) (.slice da E.data.length dcap) pv tv l ta tcp (E.posTo k) (E.tabsTo k) HPL.out HTL.out HLk.out _ p0.cd p0.ps p0.tb HTI.out p0.lt.1 p0.lt.2.1 p0.pr p0.tr HF.out).mono ?_; rintro e w3 ⟨rfl, pv', tv', hp3, hb3, ht3, hr3, hs3⟩; have hq3 := (⟨pv', tv', p0.line hp3 hb3 ht3 hr3 hs3⟩ : ∃ pv' tv', x8 w E b12 w.heap.size b5 b6 b7 b10 b11 m go b12 b13 b15 mb (fnsM b5 b6 b7 b10 b11 b12 b13) 4 nm (.slice (some ⟨q, off, none⟩) E.ls.length cap) (.slice fa E.funcs.length fcap) (.slice da E.data.length dcap) (E.posTo k ++ E.posL k l) (E.tabsTo k ++ E.tabB l) (E.codeTo k) pv' tv' cv w3); go_simp
      refine hK.out _ _ rfl (zr.gen rfl rfl rfl rfl (ht3.size) (hS.trans ht3 (fun _ _ h => h)) (yc (by rfl) (zk (zk (zk (zk (zk (zk (zk (yc (by rfl) (zk (zk (zk (zk (zk (zk (zk ym)))))))))))))))) (hq3) ?_)
      show [f 0, _] = _
      rw [q0_0]
      first | rfl | kernel_rfl
     ·intro w5 hS hF hD K hK
      obtain ⟨e8, -⟩ := hF
      obtain ⟨e8, p8⟩ := e8
      replace e8 : [f 0, f 8] = _ := e8
      simp only [List.cons.injEq, and_true] at e8
      obtain ⟨q8_0, q8_8⟩ := e8
      try simp only [q8_0, q8_8]
      rw [if_pos (by rfl)]
      go_simp
      go_at_call 46; refine (HSD.out _).mono ?_; rintro e w3 ⟨rfl, hbelow⟩; go_simp
      refine hK.out _ _ rfl (zP rfl rfl rfl hbelow ?_)
      first | rfl | kernel_rfl
     ·intro w5 hS hF hD K hK
      obtain ⟨(e9 : f 9 = _), -⟩ := hF
      try simp only [e9]
      rw [if_pos (by rfl)]
      go_simp
      go_at_call 62; refine (HEN.out _).mono ?_; rintro e w3 ⟨rfl, hbelow⟩; go_simp
      refine hK.out _ _ rfl (zP rfl rfl rfl hbelow ?_)
      first | rfl | kernel_rfl
     ·intro w5 hS hF hD K hK
      obtain ⟨(e10 : f 10 = _), -⟩ := hF
      try simp only [e10]
      exact stV hK rfl rfl rfl rfl (by first | rfl | kernel_rfl) rfl (by show _ = _; kernel_rfl)
     ·intro w5 hS hF hD K hK
      obtain ⟨(e11 : f 11 = _), -⟩ := hF
      try simp only [e11]
      exact stV hK rfl rfl rfl rfl (by first | rfl | kernel_rfl) rfl (by show _ = _; kernel_rfl)
     ·intro w5 hS hF hD K hK
      obtain ⟨(e11 : f 11 = _), -⟩ := hF
      try simp only [e11]
      exact stV hK rfl rfl rfl rfl (by first | rfl | kernel_rfl) rfl (by show _ = _; kernel_rfl)
     ·intro w5 hS hF hD K hK
      obtain ⟨(e12 : f 12 = _), -⟩ := hF
      try simp only [e12]
      exact stV hK rfl rfl rfl rfl (by first | rfl | kernel_rfl) rfl (by show _ = _; kernel_rfl)
     ·intro w5 hS hF hD K hK
      obtain ⟨(e13 : f 13 = _), -⟩ := hF
      try simp only [e13]
      exact stV hK rfl rfl rfl rfl (by first | rfl | kernel_rfl) rfl (by show _ = _; kernel_rfl)
     intro w5 hS hF
     obtain ⟨e8, (e14 : f 14 = _), -⟩ := hF
     obtain ⟨e8, p8⟩ := e8
     replace e8 : [f 0, f 8] = _ := e8
     simp only [List.cons.injEq, and_true] at e8
     obtain ⟨q8_0, q8_8⟩ := e8
     try simp only [q8_0, q8_8, e14]
     simp only [List.drop_succ_cons, List.drop_zero]
     obtain ⟨pv', tv', hg5⟩ := p8
     have HG5 := zh hg5
     clear hg5 hS
     go_wp2_with fail
     go_meet
     exact ⟨rfl, pv', tv', HG5⟩
    ·have HFO := zh (show ∀ V, Calls Try.prog 42 #[.int .i64 l.ins.op] V fun e w' => e = .returned (.int .i64 4) ∧ Below V.heap.size V w' from fun V => by have := xc l.ins.op V; rw [hf] at this; exact this)
     have HF := zh hf
     clear hf
     refine xK 0 _ (.map (some mb)) [] 16 (z5 [isVs [(.map (some mb))] ((fun W => x8 w E b12 w.heap.size b5 b6 b7 b10 b11 m go b12 b13 b15 mb (fnsM b5 b6 b7 b10 b11 b12 b13) 4 nm (.slice (some ⟨q, off, none⟩) E.ls.length cap) (.slice fa E.funcs.length fcap) (.slice da E.data.length dcap) (E.posTo k) (E.tabsTo k) (E.codeTo k) pv tv cv W)), isV (.pointer (some ⟨g, 1, none⟩)), isV (.pointer (some ⟨g, 1, none⟩)), isV (.int .i64 l.ins.op), isV (.int .i64 4), isV ((.func (.func 57) #[] #[.pointer (some ⟨b6, 0, none⟩), .pointer (some ⟨b5, 0, none⟩), .pointer (some ⟨b10, 0, none⟩)])), isV (.int .i64 k), isV (.agg #[.int .i64 (l).label, .int .i64 (l).ins.op, .int .i64 (l).ins.d, .int .i64 (l).ins.s, .int .u16 (l).ins.imm, .int .u16 (l).ins.aux, .int .i64 (l).ins.bank, .int .i64 (l).ins.size, .int .i64 (l).dest, .int .i64 (l).fn, .int .i64 (l).obj, .slice ta (l).tab.length tcp]), isVs [(.map (some mb)), (.agg (zt (E.insL k (E.tabsTo k).length l)))] ((fun W => ∃ pv' tv', x8 w E b12 w.heap.size b5 b6 b7 b10 b11 m go b12 b13 b15 mb (fnsM b5 b6 b7 b10 b11 b12 b13) 4 nm (.slice (some ⟨q, off, none⟩) E.ls.length cap) (.slice fa E.funcs.length fcap) (.slice da E.data.length dcap) (E.posTo k ++ E.posL k l) (E.tabsTo k ++ E.tabB l) (E.codeTo k) pv' tv' cv W)), isV ((.agg (zt (z6 (E.insL k (E.tabsTo k).length l))))), isV ((.tuple #[.string (zO (E.lineB k (E.tabsTo k).length l)), .int .i64 (jx (z6 (E.insL k (E.tabsTo k).length l)))])), isV ((.tuple #[.string (zO (E.lineB k (E.tabsTo k).length l)), .int .i64 (jx (z6 (E.insL k (E.tabsTo k).length l)))])), isV ((.string (zO (E.lineB k (E.tabsTo k).length l)))), isV ((.int .i64 (jx (z6 (E.insL k (E.tabsTo k).length l))))), isV ((.string (zO (E.lineB k (E.tabsTo k).length l)))), isV ((.int .i64 (jx (z6 (E.insL k (E.tabsTo k).length l)))))]) (nth [[0], [1], [2], [3], [4], [5], [6], [7], [0, 8], [9], [10], [11], [12], [13], [14], [15]]) (nth [[], [], [], [], [], [], [], [], [0], [], [], [], [], [], [], []]) (nth [[], [], [1], [2], [3], [0, 4], [], [], [5, 6, 7, 4, 0], [8], [9], [10], [11], [11], [12], [13]]) [8, 14] (fun w5 => zN (fun x => (x = b12 ∨ x = b13) ∨ pv.ownBlock = some x ∨ tv.ownBlock = some x) wx w5) (by kernel_rfl) (by kernel_rfl) rfl (by kernel_rfl) (by kernel_rfl) (by kernel_rfl) (fun _ _ _ h => h) ⟨by rfl, fun w => by rfl⟩ (⟨by rfl, HGX.out.stay (Below.refl _ _).drew⟩) ((zN.refl _ _).drew) (fun w w' h hb => h.trans (zN.ofBelow (bs := fun _ => False) hb) (fun _ _ h => h.elim)) (zG ((za (jt _ (fun _ _ h hb => h.stay hb))  (za (zc _)  (za (zc _)  (za (zc _)  (za (zc _)  (za (zc _)  (za (zc _)  (za (zc _)  (za (jt _ ((fun _ _ h hb => by obtain ⟨p1, t1, h1⟩ := h; exact ⟨p1, t1, h1.stay hb⟩)))  (za (zc _)  (za (zc _)  (za (zc _)  (za (zc _)  (za (zc _)  (za (zc _)  (za (zc _) zy)))))))))))))))))) (fun f F hF => ?_)
     simp only [List.take_succ_cons, List.take_zero, yb, Act.put, zD, zE, zF, Nat.reduceAdd] at hF
     subst hF
     refine ⟨zj.skip (by rfl) (ze ?_ (ze ?_ (ze ?_ (ze ?_ (ze ?_ (ze ?_ (ze ?_ (ze ?_ (ze ?_ (ze ?_ (ze ?_ (ze ?_ (ze ?_ (ze ?_ (ze ?_ (yf)))))))))))))))), ?_⟩
     ·intro w5 hS hF hD K hK
      exact stV hK rfl rfl rfl rfl (by first | rfl | kernel_rfl) rfl (by show _ = _; kernel_rfl)
     ·intro w5 hS hF hD K hK
      obtain ⟨(e1 : f 1 = _), -⟩ := hF
      try simp only [e1]
      exact stV hK rfl rfl rfl rfl (by first | rfl | kernel_rfl) rfl (by show _ = _; kernel_rfl)
     ·intro w5 hS hF hD K hK
      obtain ⟨(e2 : f 2 = _), -⟩ := hF
      try simp only [e2]
      exact stC hK rfl rfl rfl rfl (by first | rfl | kernel_rfl) rfl rfl rfl (hS.heap HLN.out HNL.out) (by kernel_rfl) (fun _ => by kernel_rfl)
     ·intro w5 hS hF hD K hK
      obtain ⟨(e3 : f 3 = _), -⟩ := hF
      try simp only [e3]
      rw [if_pos (by rfl)]
      go_simp
      go_at_call 42; refine (HFO.out _).mono ?_; rintro e w3 ⟨rfl, hbelow⟩; go_simp
      refine hK.out _ _ rfl (zP rfl rfl rfl hbelow ?_)
      first | rfl | kernel_rfl
     ·intro w5 hS hF hD K hK
      obtain ⟨e0, (e4 : f 4 = _), -⟩ := hF
      obtain ⟨e0, p0⟩ := e0
      replace e0 : [f 0] = _ := e0
      simp only [List.cons.injEq, and_true] at e0
      have q0_0 := e0
      try simp only [q0_0, e4]
      rw [if_pos (by rfl)]
      exact zx (jM _ _ 118 3 _ rfl Try.underlying118 Try.underlying3 mb _ _ (hS.heap HMP.out HNM.out) rfl 4 rfl 2 _ (by rfl)) (hK.out _ _ rfl (zq rfl rfl rfl (by first | rfl | kernel_rfl)))
     ·intro w5 hS hF hD K hK
      exact stV hK rfl rfl rfl rfl (by first | rfl | kernel_rfl) rfl (by show _ = _; kernel_rfl)
     ·intro w5 hS hF hD K hK
      exact stR hK rfl rfl rfl rfl (by first | rfl | kernel_rfl) rfl rfl rfl (hS.heap HLN.out HNL.out) (by kernel_rfl)
     ·intro w5 hS hF hD K hK
      obtain ⟨(e5 : f 5 = _), (e6 : f 6 = _), (e7 : f 7 = _), (e4 : f 4 = _), e0, -⟩ := hF
      obtain ⟨e0, p0⟩ := e0
      replace e0 : [f 0] = _ := e0
      simp only [List.cons.injEq, and_true] at e0
      have q0_0 := e0
      try simp only [e5, e6, e7, e4, q0_0]
      rw [if_pos (by rfl)]
      go_simp
      go_at_call 57; refine (ln_call w E HE.out b12 w.heap.size b5 b6 b7 b10 b11 m go k b12 b13 nm (.slice (some ⟨q, off, none⟩) E.ls.length cap) (.slice fa E.funcs.length fcap) (.slice da E.data.length dcap) pv tv l ta tcp (E.posTo k) (E.tabsTo k) HLk.out _ p0.cd p0.ps p0.tb HF.out).mono ?_; rintro e w3 ⟨rfl, pv', tv', hp3, hb3, ht3, hr3, hs3⟩; have hq3 := (⟨pv', tv', p0.line hp3 hb3 ht3 hr3 hs3⟩ : ∃ pv' tv', x8 w E b12 w.heap.size b5 b6 b7 b10 b11 m go b12 b13 b15 mb (fnsM b5 b6 b7 b10 b11 b12 b13) 4 nm (.slice (some ⟨q, off, none⟩) E.ls.length cap) (.slice fa E.funcs.length fcap) (.slice da E.data.length dcap) (E.posTo k ++ E.posL k l) (E.tabsTo k ++ E.tabB l) (E.codeTo k) pv' tv' cv w3); go_simp
      refine hK.out _ _ rfl (zr.gen rfl rfl rfl rfl (ht3.size) (hS.trans ht3 (fun _ _ h => h)) (yc (by rfl) (zk (zk (zk (zk (zk (zk (zk (yc (by rfl) (zk (zk (zk (zk (zk (zk (zk ym)))))))))))))))) (hq3) ?_)
      show [f 0, _] = _
      rw [q0_0]
      first | rfl | kernel_rfl
     ·intro w5 hS hF hD K hK
      obtain ⟨e8, -⟩ := hF
      obtain ⟨e8, p8⟩ := e8
      replace e8 : [f 0, f 8] = _ := e8
      simp only [List.cons.injEq, and_true] at e8
      obtain ⟨q8_0, q8_8⟩ := e8
      try simp only [q8_0, q8_8]
      rw [if_pos (by rfl)]
      go_simp
      go_at_call 46; refine (HSD.out _).mono ?_; rintro e w3 ⟨rfl, hbelow⟩; go_simp
      refine hK.out _ _ rfl (zP rfl rfl rfl hbelow ?_)
      first | rfl | kernel_rfl
     ·intro w5 hS hF hD K hK
      obtain ⟨(e9 : f 9 = _), -⟩ := hF
      try simp only [e9]
      rw [if_pos (by rfl)]
      go_simp
      go_at_call 62; refine (HEN.out _).mono ?_; rintro e w3 ⟨rfl, hbelow⟩; go_simp
      refine hK.out _ _ rfl (zP rfl rfl rfl hbelow ?_)
      first | rfl | kernel_rfl
     ·intro w5 hS hF hD K hK
      obtain ⟨(e10 : f 10 = _), -⟩ := hF
      try simp only [e10]
      exact stV hK rfl rfl rfl rfl (by first | rfl | kernel_rfl) rfl (by show _ = _; kernel_rfl)
     ·intro w5 hS hF hD K hK
      obtain ⟨(e11 : f 11 = _), -⟩ := hF
      try simp only [e11]
      exact stV hK rfl rfl rfl rfl (by first | rfl | kernel_rfl) rfl (by show _ = _; kernel_rfl)
     ·intro w5 hS hF hD K hK
      obtain ⟨(e11 : f 11 = _), -⟩ := hF
      try simp only [e11]
      exact stV hK rfl rfl rfl rfl (by first | rfl | kernel_rfl) rfl (by show _ = _; kernel_rfl)
     ·intro w5 hS hF hD K hK
      obtain ⟨(e12 : f 12 = _), -⟩ := hF
      try simp only [e12]
      exact stV hK rfl rfl rfl rfl (by first | rfl | kernel_rfl) rfl (by show _ = _; kernel_rfl)
     ·intro w5 hS hF hD K hK
      obtain ⟨(e13 : f 13 = _), -⟩ := hF
      try simp only [e13]
      exact stV hK rfl rfl rfl rfl (by first | rfl | kernel_rfl) rfl (by show _ = _; kernel_rfl)
     intro w5 hS hF
     obtain ⟨e8, (e14 : f 14 = _), -⟩ := hF
     obtain ⟨e8, p8⟩ := e8
     replace e8 : [f 0, f 8] = _ := e8
     simp only [List.cons.injEq, and_true] at e8
     obtain ⟨q8_0, q8_8⟩ := e8
     try simp only [q8_0, q8_8, e14]
     simp only [List.drop_succ_cons, List.drop_zero]
     obtain ⟨pv', tv', hg5⟩ := p8
     have HG5 := zh hg5
     clear hg5 hS
     go_wp2_with fail
     go_meet
     exact ⟨rfl, pv', tv', HG5⟩
   case rest =>
    obtain ⟨rfl, pv', tv', HG5⟩ := hcut
    have HWR := zh (bwrite_any b15 (bv (E.codeTo k)) cv (zO (E.lineB k (E.tabsTo k).length l)) _ HG5.out.cb HBL.out)
    clear HSD HEN HLN HNL HNM HMP HGX HBL
    go_upto_region 12 with (go_at_call 61; refine (HWR.out).mono ?_; rintro e w6 hw6; obtain ⟨rfl, cv', hg6⟩ := HG5.out.write HBT.out hw6; have HG6 := zh hg6; clear hw6 hg6)
    go_wp2_with fail
    go_roundw
    case rel =>
     refine ⟨k + 1, pv', tv', cv', by omega, by go_num, zh ?_⟩
     rw [posTo_succ E hlt, x6 E hlt, jT E hlt, HLE.out]
     exact HG6.out
    case measure => simp [intOf]; omega
  ·have hke : k = E.ls.length := by omega
   subst hke
   clear hlt hk
   have HCB := zh (codeTo_ok HE.out HFF.out E.ls.length (zn _)).1
   have HTB := zh (tabsTo_ok HE.out E.ls.length (zn _)).1
   have HAP := zh (strOf_app (E.codeTo E.ls.length) (E.tabsTo E.ls.length))
   have HCZ := zh (show ¬ 9223372036854775807 < (zO (E.codeTo E.ls.length)).size + (zO (E.tabsTo E.ls.length)).size by
    have h1 := (codeTo_ok HE.out HFF.out E.ls.length (zn _)).2
    have h2 := (tabsTo_ok HE.out E.ls.length (zn _)).2
    rw [yo, yo]; omega)
   have HCD := zh (show E.codeTo E.ls.length ++ E.tabsTo E.ls.length = E.code from rfl)
   rw [HCD.out] at HAP
   obtain ⟨n1, n2, n3, n4⟩ := pos_bld HG.out.ps HG.out.cb
   obtain ⟨m1, m2, m3, m4⟩ := pos_bld HG.out.ps HG.out.tb
   have HN12 := zh (show ¬ (cv.ownBlock = some b12 ∨ tv.ownBlock = some b12) from fun h => h.elim n3 m3)
   have HNP := zh (show ∀ q, pv.ownBlock = some q → ¬ (cv.ownBlock = some q ∨ tv.ownBlock = some q) from fun q hq h => h.elim (fun h => n4 q h hq) fun h => m4 q h hq)
   clear n1 n2 n3 n4 m1 m2 m3 m4
   go_upto_region 13 with fail
   refine zV [] 6 (z5 [isV ((.string (zO (E.codeTo E.ls.length)))), isV ((.string (zO (E.tabsTo E.ls.length)))), isV ((.string (zO E.code))), isV (pv), isV ((.string (zO E.code))), isV (pv)]) (nth [[0], [1], [2], [3], [4], [5]]) (nth [[], [], [], [], [], []]) (nth [[], [0], [0, 1], [], [2], [3]]) [4, 5] (fun w6 => Fz wr w6 ∧ zN (fun x => cv.ownBlock = some x ∨ tv.ownBlock = some x) wr w6) (by kernel_rfl) (by kernel_rfl) (⟨(Fz.refl _).drew, (zN.refl _ _).drew⟩) (fun w w' h hb => ⟨h.1.trans (Fz.ofBelow hb), h.2.trans (zN.ofBelow (bs := fun _ => False) hb) (fun _ _ h => h.elim)⟩) (zG ((za (zc _)  (za (zc _)  (za (zc _)  (za (zc _)  (za (zc _)  (za (zc _) zy)))))))) (fun f F hF => ?_)
   simp only [List.take_succ_cons, List.take_zero, yb, Act.put, zD, zE, zF, Nat.reduceAdd] at hF
   subst hF
   refine ⟨zd ?_ (zd ?_ (zd ?_ (zd ?_ (zd ?_ (zd ?_ (yd)))))), ?_⟩
   ·intro w6 hS hF hD K hK
    rw [if_pos (by rfl)]
    go_simp
    go_at_call 63; refine (bstr_any b15 (E.codeTo E.ls.length) HCB.out cv _ ((StrF.of HG.out.cb).fz hS.1)).mono ?_; rintro e w3 ⟨rfl, hf3, ht3⟩; go_simp
    refine hK.out _ _ rfl (zr.litS rfl rfl rfl (hf3.size) (⟨hS.1.trans hf3, hS.2.trans ht3 (fun _ _ h => .inl h)⟩) (xp (xp (xp (xp (xp (xp xw.nil)))))) ?_)
    first | rfl | kernel_rfl
   ·intro w6 hS hF hD K hK
    obtain ⟨(e0 : f 0 = _), -⟩ := hF
    try simp only [e0]
    rw [if_pos (by rfl)]
    go_simp
    go_at_call 63; refine (bstr_any b13 (E.tabsTo E.ls.length) HTB.out tv _ ((StrF.of HG.out.tb).fz hS.1)).mono ?_; rintro e w3 ⟨rfl, hf3, ht3⟩; go_simp
    refine hK.out _ _ rfl (zr.litS rfl rfl rfl (hf3.size) (⟨hS.1.trans hf3, hS.2.trans ht3 (fun _ _ h => .inr h)⟩) (xp (xp (xp (xp (xp (xp xw.nil)))))) ?_)
    first | rfl | kernel_rfl
   ·intro w6 hS hF hD K hK
    obtain ⟨(e0 : f 0 = _), (e1 : f 1 = _), -⟩ := hF
    try simp only [e0, e1]
    rw [if_pos (by rfl)]
    go_simp; rw [if_neg HCZ.out]; go_simp; refine hK.out _ _ rfl (zq rfl rfl rfl ?_); exact congrArg Value.string HAP.out
   ·intro w6 hS hF hD K hK
    exact stC hK rfl rfl rfl rfl (by first | rfl | kernel_rfl) rfl rfl rfl (hS.2.heap HG.out.ps.blk HN12.out) (by kernel_rfl) (fun _ => by kernel_rfl)
   ·intro w6 hS hF hD K hK
    obtain ⟨(e2 : f 2 = _), -⟩ := hF
    try simp only [e2]
    exact stV hK rfl rfl rfl rfl (by first | rfl | kernel_rfl) rfl (by show _ = _; kernel_rfl)
   ·intro w6 hS hF hD K hK
    obtain ⟨(e3 : f 3 = _), -⟩ := hF
    try simp only [e3]
    exact stV hK rfl rfl rfl rfl (by first | rfl | kernel_rfl) rfl (by show _ = _; kernel_rfl)
   intro w6 hS hF
   obtain ⟨(e4 : f 4 = _), (e5 : f 5 = _), -⟩ := hF
   try simp only [e4, e5]
   refine yN (by kernel_rfl) ?_
   have HSS := zh hS
   clear hS
   go_wp2_with fail
   go_ret2
   refine ⟨pv, rfl, own_up (zZ HG.out.ps.own HSS.out.2 HNP.out) (fun q hq => ?_), ?_⟩
   ·have := HG.out.pr q hq; have := HG.out.cd.lt; omega
   ·refine HG.out.cd.bb.trans ((HSS.out.2.toBelow HG.out.cd.bb.size fun x hx => ?_))
    have := HG.out.cd.lt
    rcases hx with hx | hx
    ·have := HG.out.cr x hx; omega
    ·have := HG.out.tr x hx; omega
end Go.Proofs.Ythebmoggbgldmaa
