/- A strings.Builder that is only read: String, called any number of times. No condition. -/
import Derived.Test.YthebmoggbgldmaaLaLkX
set_option linter.all false
namespace Go.Proofs.Ythebmoggbgldmaa
open Go Go.RowKit Go.Maps
def LnPost (E : zL) (k : Nat) (l : zu) (b12 b13 : Nat) (pos tabs : List Int) (pv tv : Value) (w : World) (e : Ending) (w' : World) : Prop :=
 e = .returned (.agg (zt (E.insL k tabs.length l))) ∧ ∃ pv' tv', PosW b12 (pos ++ E.posL k l) pv' w' ∧ jL b13 (bv (tabs ++ E.tabB l)) tv' w' ∧ zN (fun x => (x = b12 ∨ x = b13) ∨ pv.ownBlock = some x ∨ tv.ownBlock = some x) w w' ∧
  (∀ q, pv'.ownBlock = some q → pv.ownBlock = some q ∨ w.heap.size ≤ q) ∧ ∀ q, tv'.ownBlock = some q → tv.ownBlock = some q ∨ w.heap.size ≤ q
theorem pos_bld {b12 b13 pos bs pv tv} {w : World} (hP : PosW b12 pos pv w) (hT : jL b13 bs tv w) : b13 ≠ b12 ∧ pv.ownBlock ≠ some b13 ∧ tv.ownBlock ≠ some b12 ∧ ∀ q, tv.ownBlock = some q → pv.ownBlock ≠ some q := by
 obtain ⟨p, -, hb⟩ := hT.blk
 refine ⟨fun e => ?_, fun e => ?_, fun e => ?_, fun q hq hp => ?_⟩
 ·rw [e, hP.blk] at hb; simp at hb
 ·obtain ⟨-, cs, h8⟩ := z7 hP.own _ e
  rw [hb] at h8
  simp at h8
 ·obtain ⟨-, cs, h8⟩ := z7 hT.own _ e
  rw [hP.blk] at h8
  simp at h8
 ·obtain ⟨-, cs, h8⟩ := z7 hT.own _ hq
  obtain ⟨-, cs', h9⟩ := z7 hP.own _ hp
  rw [h8] at h9
  simp at h9
theorem ln_of_below {E : zL} {k : Nat} {l : zu} {b12 b13 pos tabs pv tv} {w : World} (hP : PosW b12 pos pv w) (hT : jL b13 (bv tabs) tv w) (hp : E.posL k l = []) (ht : E.tabB l = []) (ic : Array Value) (hi : zt (E.insL k tabs.length l) = ic) {e : Ending} {w' : World}
  (h : e = .returned (.agg ic) ∧ Below w.heap.size w w') : LnPost E k l b12 b13 pos tabs pv tv w e w' := by
 obtain ⟨rfl, hb⟩ := h
 refine ⟨by rw [hi], pv, tv, ?_, ?_, zN.ofBelow hb, fun q h => .inl h, fun q h => .inl h⟩
 ·rw [hp, List.append_nil]; exact hP.stay hb
 ·rw [ht, List.append_nil]; exact hT.stay hb
theorem ln_of_pl {E : zL} {k : Nat} {l : zu} {b12 b13 pos pos2 tabs pv tv} {w : World} (hP : PosW b12 pos pv w) (hT : jL b13 (bv tabs) tv w) (hp : pos2 = pos ++ E.posL k l) (ht : E.tabB l = []) (ic : Array Value) (hi : zt (E.insL k tabs.length l) = ic) {e : Ending} {w' : World}
  (h : PlPost ic b12 pos2 pv w e w') : LnPost E k l b12 b13 pos tabs pv tv w e w' := by
 obtain ⟨rfl, pv', h1, h2, h3⟩ := h
 obtain ⟨n1, n2, n3, n4⟩ := pos_bld hP hT
 refine ⟨by rw [hi], pv', tv, by rw [← hp]; exact h1, ?_, h2.mono fun x _ h => by rcases h with h | h <;> simp [h], h3, fun q h => .inl h⟩
 rw [ht, List.append_nil]
 exact hT.turn h2 (fun h => by rcases h with h | h; exact n1 h; exact n2 h) fun q hq h => by
  rcases h with h | h
  ·rw [h] at hq; exact n3 hq
  ·exact n4 q hq h
theorem ln_of_tb {E : zL} {k : Nat} {l : zu} {b12 b13 pos tabs pv tv} {w : World} (hP : PosW b12 pos pv w) (hT : jL b13 (bv tabs) tv w) (hp : E.posL k l = []) {e : Ending} {w' : World}
  (h : TbPost E k l b13 tabs tv w e w') : LnPost E k l b12 b13 pos tabs pv tv w e w' := by
 obtain ⟨rfl, tv', h1, h2, h3⟩ := h
 obtain ⟨n1, n2, n3, n4⟩ := pos_bld hP hT
 refine ⟨rfl, pv, tv', ?_, h1, h2.mono fun x _ h => by rcases h with h | h <;> simp [h], fun q h => .inl h, h3⟩
 rw [hp, List.append_nil]
 exact hP.turn h2 (fun h => by rcases h with h | h; exact n1 h.symm; exact n3 h) fun q hq h => by
  rcases h with h | h
  ·rw [h] at hq; exact n2 hq
  ·exact n4 q h hq
theorem posL_ne {E : zL} {k : Nat} {l : zu} (h : zK l.ins.op ≠ 1) : E.posL k l = [] := by
 unfold zL.posL
 rw [if_neg fun h' => h h'.1]
theorem tabB_ne {E : zL} {l : zu} (h : zK l.ins.op ≠ 3) : E.tabB l = [] := by
 unfold zL.tabB
 rw [if_neg h]
section
variable (w0 : World) (E : zL) (hE : E.Ok) (N b4 b5 b6 b7 b10 b11 m go k b12 b13 : Nat) (nm : ByteArray) (lv fv dv pv tv : Value) (l : zu) (ta : Option Addr) (tcp : Nat) (pos tabs : List Int)
 (hpl : pos.length ≤ 100000) (htl : tabs.length ≤ 10000000) (hl : E.ls[k]? = some l) (w : World) (hR : CdR w0 E N b4 b5 b6 b7 b10 b11 m go nm lv fv dv w) (hP : PosW b12 pos pv w) (hT : jL b13 (bv tabs) tv w)
 (hI : xO w0 (.slice ta l.tab.length tcp) l.tab) (hb12 : N ≤ b12) (hb13 : N ≤ b13) (hpr : ∀ q, pv.ownBlock = some q → N ≤ q) (htr : ∀ q, tv.ownBlock = some q → N ≤ q)
include hE hl hR hP hT
theorem ln_branch (hf : zK l.ins.op = 2) :
  Calls Try.prog 55 #[.int .i64 k, .agg #[.int .i64 (l).label, .int .i64 (l).ins.op, .int .i64 (l).ins.d, .int .i64 (l).ins.s, .int .u16 (l).ins.imm, .int .u16 (l).ins.aux, .int .i64 (l).ins.bank, .int .i64 (l).ins.size, .int .i64 (l).dest, .int .i64 (l).fn, .int .i64 (l).obj, .slice ta (l).tab.length tcp], .pointer (some ⟨b10, 0, none⟩), .pointer (some ⟨b11, 0, none⟩), .pointer (some ⟨b5, 0, none⟩)] w (LnPost E k l b12 b13 pos tabs pv tv w) := by
 refine (branch_any w0 E hE N b4 b5 b6 b7 b10 b11 m go k nm lv fv dv l ta tcp tabs.length hl hf w hR).mono fun e w' h => ?_
 exact ln_of_below hP hT (posL_ne (by omega)) (tabB_ne (by omega)) _ rfl h
theorem ln_call (hf : zK l.ins.op = 4) :
  Calls Try.prog 57 #[.int .i64 k, .agg #[.int .i64 (l).label, .int .i64 (l).ins.op, .int .i64 (l).ins.d, .int .i64 (l).ins.s, .int .u16 (l).ins.imm, .int .u16 (l).ins.aux, .int .i64 (l).ins.bank, .int .i64 (l).ins.size, .int .i64 (l).dest, .int .i64 (l).fn, .int .i64 (l).obj, .slice ta (l).tab.length tcp], .pointer (some ⟨b6, 0, none⟩), .pointer (some ⟨b5, 0, none⟩), .pointer (some ⟨b10, 0, none⟩)] w (LnPost E k l b12 b13 pos tabs pv tv w) := by
 obtain ⟨kf, hkf, hkl⟩ := hE.cl l (List.mem_of_getElem? hl) hf
 have hp : E.funcs[kf]? = some (E.fnOf l.fn) := by
  unfold zL.fnOf
  rw [hkf, Int.toNat_natCast, List.getD_eq_getElem?_getD, List.getElem?_eq_getElem hkl]
  rfl
 obtain ⟨fa, fcap, hfv, -⟩ := hR.hf
 subst hfv
 have h := call_raw w0 E hE N b4 b5 b6 b7 b10 b11 m go k nm lv dv fa fcap l.label l.ins.op l.ins.d l.ins.s l.ins.imm l.ins.aux l.ins.bank l.ins.size l.dest l.obj kf ta l.tab.length tcp (E.fnOf l.fn) (List.getElem?_eq_some_iff.1 hl).1 hp w hR
 rw [← hkf] at h
 refine h.mono fun e w' h => ?_
 refine ln_of_below hP hT (posL_ne (by omega)) (tabB_ne (by omega)) _ ?_ h
 unfold zL.insL clV zt
 rw [if_neg (by omega), if_neg (by omega), if_pos hf]
 split
 ·rfl
 ·split <;> rfl
include hpl htl hI hb12 hb13 hpr htr
theorem ln_table (hf : zK l.ins.op = 3) :
  Calls Try.prog 59 #[.int .i64 k, .agg #[.int .i64 (l).label, .int .i64 (l).ins.op, .int .i64 (l).ins.d, .int .i64 (l).ins.s, .int .u16 (l).ins.imm, .int .u16 (l).ins.aux, .int .i64 (l).ins.bank, .int .i64 (l).ins.size, .int .i64 (l).dest, .int .i64 (l).fn, .int .i64 (l).obj, .slice ta (l).tab.length tcp], .pointer (some ⟨b11, 0, none⟩), .pointer (some ⟨b5, 0, none⟩), .pointer (some ⟨b10, 0, none⟩), .pointer (some ⟨b13, 0, none⟩)] w (LnPost E k l b12 b13 pos tabs pv tv w) := by
 refine (table_any w0 E hE N b4 b5 b6 b7 b10 b11 m go k b13 nm lv fv dv tv l ta tcp tabs htl hl hf w hR hT hI hb13 htr).mono fun e w' h => ?_
 exact ln_of_tb hP hT (posL_ne (by omega)) h
theorem ln_plain (hf : zK l.ins.op = 1) :
  Calls Try.prog 53 #[.int .i64 k, .agg #[.int .i64 (l).label, .int .i64 (l).ins.op, .int .i64 (l).ins.d, .int .i64 (l).ins.s, .int .u16 (l).ins.imm, .int .u16 (l).ins.aux, .int .i64 (l).ins.bank, .int .i64 (l).ins.size, .int .i64 (l).dest, .int .i64 (l).fn, .int .i64 (l).obj, .slice ta (l).tab.length tcp], .pointer (some ⟨b7, 0, none⟩), .pointer (some ⟨b12, 0, none⟩), .pointer (some ⟨b10, 0, none⟩)] w (LnPost E k l b12 b13 pos tabs pv tv w) := by
 rcases hE.ob l (List.mem_of_getElem? hl) hf with ho | ⟨ko, hko, hkl⟩
 ·refine (plain_raw1 b7 b12 b10 k pos pv l.label l.ins.op l.ins.d l.ins.s l.ins.imm l.ins.aux l.ins.bank l.ins.size l.dest l.fn l.obj ta l.tab.length tcp (by omega) w hP).mono fun e w' h => ?_
  refine ln_of_pl hP hT ?_ (tabB_ne (by omega)) _ ?_ h
  ·unfold zL.posL
   rw [if_neg fun h => by have := h.2.1; omega, List.append_nil]
  ·unfold zL.insL zL.immP
   rw [if_pos hf, if_neg (by omega)]
   rfl
 ·have hob : E.data[ko]? = some (E.objOf l.obj) := by
   unfold zL.objOf
   rw [hko, Int.toNat_natCast, List.getD_eq_getElem?_getD, List.getElem?_eq_getElem hkl]
   rfl
  obtain ⟨da, dcap, hdv, -⟩ := hR.hd
  subst hdv
  have h := plain_raw2 w0 E hE N b4 b5 b6 b7 b10 b11 m go k b12 nm lv fv da dcap pos pv l.label l.ins.op l.ins.d l.ins.s l.ins.imm l.ins.aux l.ins.bank l.ins.size l.dest l.fn ko ta l.tab.length tcp (E.objOf l.obj) (List.getElem?_eq_some_iff.1 hl).1 hob hpl w hR hP hb12 hpr (E.immP l) (by
   unfold zL.immP
   rw [if_pos (by omega)]) (pos ++ E.posL k l) (by
   have h1 : 0 ≤ l.obj := by omega
   simp only [zL.posL, xJ, zL.immP, hf, h1, true_and, if_true])
  rw [← hko] at h
  refine h.mono fun e w' h => ?_
  refine ln_of_pl hP hT rfl (tabB_ne (by omega)) _ ?_ h
  unfold zL.insL zt
  rw [if_pos hf]
  rfl
end
theorem callSz_ok (E : zL) (x : Int) : 0 ≤ E.callSz x ∧ E.callSz x ≤ 8 := by unfold zL.callSz; split <;> omega
theorem ja (E : zL) : E.szs.length = E.ls.length := by unfold zL.szs; rw [List.length_map]
theorem lineOk_jump {L nf no l} (h : zY L nf no l = true) (hf : zK l.ins.op = 2 ∨ zK l.ins.op = 3) : (L l.dest).isSome = true := by
 unfold zY at h
 cases hL : L l.dest with
 | some k => rfl
 | none => rcases hf with hf | hf <;> rw [hf, hL] at h <;> simp at h
theorem lineOk_call {L nf no l} (h : zY L nf no l = true) (hf : zK l.ins.op = 4) : 0 ≤ l.fn ∧ l.fn < nf := by
 unfold zY at h
 rw [hf] at h
 simp at h
 omega
theorem lineOk_tab {L nf no l} (h : zY L nf no l = true) (hf : zK l.ins.op = 3) : (0 ≤ l.ins.d ∧ l.ins.d < 8) ∧ (0 < l.tab.length ∧ l.tab.length < 256) ∧ ∀ t ∈ l.tab, (L t).isSome = true := by
 unfold zY at h
 rw [hf] at h
 simp at h
 exact ⟨⟨h.2.1.1.1.1, h.2.1.1.1.2⟩, ⟨h.2.1.1.2, h.2.1.2⟩, h.2.2⟩
theorem lineOk_plain {L nf no l} (h : zY L nf no l = true) (hf : zK l.ins.op = 1) : zQ { l.ins with size := zH l.ins.op } = true ∧ (l.obj = -1 ∨ xR l.ins.op = true ∧ 0 ≤ l.obj ∧ l.obj < no) := by
 unfold zY at h
 rw [hf] at h
 simp at h
 refine ⟨h.2.1, ?_⟩
 rcases h.2.2 with h | h
 ·exact .inl h
 ·exact .inr ⟨h.1.1, h.1.2, h.2⟩
theorem env_ok (E : zL) (hls : yV E.ls) (hc : xP E.ls E.funcs.length E.data.length) (hpl : 0 ≤ E.pl.addr ∧ E.pl.addr < 65536 ∧ zX E.pl.bank) (hfs : ∀ p ∈ E.funcs, 0 ≤ p.addr ∧ p.addr < 65536 ∧ zX p.bank)
  (hds : ∀ p ∈ E.data, 0 ≤ p.addr ∧ p.addr < 65536 ∧ zX p.bank ∧ 0 ≤ p.size ∧ p.size < 65536) (hnf : E.funcs.length ≤ 100000) (hnd : E.data.length ≤ 100000) : E.Ok where
 ls := hls
 zl := fin_len (ja E)
 zo := fin_ok (ja E) (sz0_ok (callSz_ok E) E.ls)
 br := fun k l hl hf => by
  refine ⟨lineOk_jump (hc.2 l (List.mem_of_getElem? hl)) (.inl hf), ?_⟩
  obtain ⟨hk, rfl⟩ := List.getElem?_eq_some_iff.1 hl
  obtain ⟨-, i, hi⟩ := fin_spec (ls := E.ls) (ja E)
  have h2 := (iter_get i (ja E) k hk).2 (by
   unfold zL.szs
   rw [List.getElem_map]
   unfold sz0
   rw [if_pos hf]
   exact .inl rfl)
  have h3 := offS_succ E.sz k (by unfold zL.sz; rw [fin_len (ja E)]; exact hk)
  have h4 : E.sz[k]'(by unfold zL.sz; rw [fin_len (ja E)]; exact hk) = (iterS E.ls i E.szs)[k]'(by rw [iter_len i (ja E)]; exact hk) := by
   unfold zL.sz
   simp only [hi]
  unfold zL.off
  rw [h3, h4]
  omega
 tb := fun l hl hf => ⟨lineOk_jump (hc.2 l hl) (.inr hf), (lineOk_tab (hc.2 l hl) hf).2.2⟩
 cl := fun l hl hf => by
  have := lineOk_call (hc.2 l hl) hf
  exact ⟨l.fn.toNat, by omega, by omega⟩
 ob := fun l hl hf => by
  rcases (lineOk_plain (hc.2 l hl) hf).2 with h | h
  ·exact .inl h
  ·exact .inr ⟨l.obj.toNat, by omega, by omega⟩
 pl := hpl
 fs := hfs
 ds := hds
 nf := hnf
 nd := hnd
end Go.Proofs.Ythebmoggbgldmaa
namespace Go.Proofs.Ythebmoggbgldmaa
open Go Go.RowKit Go.Maps
def Bts (l : List Int) : Prop := ∀ n ∈ l, 0 ≤ n ∧ n < 256
theorem Bts.app {a b : List Int} (h : Bts a) (k : Bts b) : Bts (a ++ b) := fun n hn => by
 rcases List.mem_append.1 hn with e | e
 ·exact h n e
 ·exact k n e
theorem Bts.nil : Bts [] := fun n hn => by cases hn
theorem strC_bv {l : List Int} (h : Bts l) : Lib.strCells (zO l) = bv l := by
 unfold Lib.strCells zO bv
 simp only [List.map_map]
 refine List.map_congr_left fun n hn => ?_
 have := h n hn
 show Value.int .u8 ((UInt8.ofNat n.toNat).toNat : Int) = Value.int .u8 n
 rw [UInt8.toNat_ofNat', Nat.mod_eq_of_lt (by omega)]
 congr 1
 omega
theorem strOf_app (a b : List Int) : zO a ++ zO b = zO (a ++ b) := by
 apply ByteArray.ext
 simp [zO]
theorem encB_rng (i : Ins) (hi : i.Ok) : Bts (xl i) := by
 cases hv : zQ i with
 | false =>
  have : xl i = [] := by unfold xl; rw [hv, Bool.and_false]; rfl
  rw [this]; exact Bts.nil
 | true =>
  obtain ⟨h0, h1, h2, h3, h4, -⟩ := xk i hi hv
  rw [(enc_valid i hi hv).1]
  have h5 := hi.imm
  have h6 := hi.aux
  rcases fmt18' _ h0 with e | e | e | e | e | e | e | e | e | e | e | e | e | e | e | e | e | e <;> (rw [e]; intro n hn; simp [yg] at hn; omega)
theorem encB_len (i : Ins) : (xl i).length ≤ 9 := by
 unfold xl
 split
 ·exact bytesTo_len i _ 4
 ·simp
theorem cond_rng {op : Int} (h : xN op = true) : 96 ≤ op ∧ op < 126 := by
 simp [xN] at h; omega
theorem sizeS_b09 : ∀ n : Nat, n < 164 → 0 ≤ zH n ∧ zH n ≤ 8 := by decide +kernel
theorem sizeS_rng (op : Int) : 0 ≤ zH op ∧ zH op ≤ 8 := by
 by_cases h : 0 ≤ op ∧ op ≤ 163
 ·obtain ⟨n, hn⟩ : ∃ n : Nat, op = n := ⟨op.toNat, by omega⟩
  subst hn
  exact sizeS_b09 n (by omega)
 ·have := fOf_out h
  unfold zH
  rw [this]
  decide
theorem jump_rng {op size : Int} (h : zX op) : zX (yW op size) := by
 obtain ⟨h1, h2⟩ := h
 have sm : ∀ n : Int, -65536 ≤ n → n < 65536 → zX n := fun n h h' => ⟨by omega, by omega⟩
 unfold yW
 split
 ·exact sm _ (by omega) (by omega)
 ·split
  ·exact sm _ (by omega) (by omega)
  ·have hc : xN op = true := by cases e : xN op <;> simp_all
   have := cond_rng hc
   split
   ·exact sm _ (by omega) (by omega)
   ·split <;> exact sm _ (by omega) (by omega)
theorem insL_ok {E : zL} (hE : E.Ok) {k : Nat} {l : zu} (hl : E.ls[k]? = some l) (hf : zK l.ins.op ≠ 0) (tabs : Int) : (z6 (E.insL k tabs l)).Ok := by
 have hlo := hE.ls.1 l (List.mem_of_getElem? hl)
 have z : zX 0 := ⟨by omega, by omega⟩
 have hz : ∀ op : Int, zX (zH op) := fun op => by have := sizeS_rng op; exact ⟨by omega, by omega⟩
 have hzs : ∀ i : Ins, zX (z6 i).size := fun i => hz (i.op % 256)
 have sm : ∀ n : Int, 0 ≤ n → n < 65536 → zX n := fun n h h' => ⟨by omega, by omega⟩
 rcases xL l.ins.op with e | e | e | e | e
 ·exact absurd e hf
 ·have : E.insL k tabs l = { l.ins with imm := E.immP l } := by unfold zL.insL; rw [if_pos e]
  rw [this]
  exact ⟨hlo.ins.op, hlo.ins.d, hlo.ins.s, by
   show 0 ≤ E.immP l ∧ E.immP l < 65536
   unfold zL.immP
   have := hlo.ins.imm
   split <;> omega, hlo.ins.aux, hlo.ins.bank, hzs _⟩
 ·have : E.insL k tabs l = ⟨yW l.ins.op (E.off (k + 1) - E.off k), 0, 0, (E.lab l.dest - E.off (k + 1)) % 65536, 0, 0, 0⟩ := by unfold zL.insL; rw [if_neg (by omega), if_pos e]
  rw [this]
  exact ⟨jump_rng hlo.ins.op, z, z, ⟨Int.emod_nonneg _ (by omega), Int.emod_lt_of_pos _ (by omega)⟩, ⟨by show (0 : Int) ≤ 0; omega, by show (0 : Int) < 65536; omega⟩, z, hzs _⟩
 ·have : E.insL k tabs l = ⟨133, l.ins.d, 0, (E.lab l.dest - E.off (k + 1)) % 65536, (E.pl.addr + E.off E.ls.length + tabs) % 65536, l.tab.length, 0⟩ := by unfold zL.insL; rw [if_neg (by omega), if_neg (by omega), if_neg (by omega)]
  rw [this]
  exact ⟨sm _ (by show (0 : Int) ≤ 133; omega) (by show (133 : Int) < _; omega), hlo.ins.d, z, ⟨Int.emod_nonneg _ (by omega), Int.emod_lt_of_pos _ (by omega)⟩, ⟨Int.emod_nonneg _ (by omega), Int.emod_lt_of_pos _ (by omega)⟩, sm _ (by show (0 : Int) ≤ (l.tab.length : Int); omega) (by show (l.tab.length : Int) < 65536; have := hlo.tlen; omega), hzs _⟩
 ·obtain ⟨kf, hkf, hkl⟩ := hE.cl l (List.mem_of_getElem? hl) e
  have hp : E.fnOf l.fn ∈ E.funcs := by
   unfold zL.fnOf
   rw [hkf, Int.toNat_natCast, List.getD_eq_getElem?_getD, List.getElem?_eq_getElem hkl]
   exact List.getElem_mem _
  obtain ⟨p1, p2, p3⟩ := hE.fs _ hp
  unfold zL.insL
  rw [if_neg (by omega), if_neg (by omega), if_pos e]
  split
  ·exact ⟨sm _ (by show (0 : Int) ≤ 130; omega) (by show (130 : Int) < _; omega), z, z, ⟨Int.emod_nonneg _ (by omega), Int.emod_lt_of_pos _ (by omega)⟩, ⟨by show (0 : Int) ≤ 0; omega, by show (0 : Int) < 65536; omega⟩, z, hzs _⟩
  ·split
   ·exact ⟨sm _ (by show (0 : Int) ≤ 131; omega) (by show (131 : Int) < _; omega), z, z, ⟨p1, p2⟩, ⟨by show (0 : Int) ≤ 0; omega, by show (0 : Int) < 65536; omega⟩, p3, hzs _⟩
   ·exact ⟨sm _ (by show (0 : Int) ≤ 132; omega) (by show (132 : Int) < _; omega), z, z, ⟨p1, p2⟩, ⟨by show (0 : Int) ≤ 0; omega, by show (0 : Int) < 65536; omega⟩, p3, hzs _⟩
theorem tabB_rng (E : zL) (l : zu) : Bts (E.tabB l) := by
 unfold zL.tabB
 split
 ·intro n hn
  obtain ⟨t, -, ht⟩ := List.mem_flatMap.1 hn
  unfold zL.cellT at ht
  simp at ht
  omega
 ·exact Bts.nil
theorem tabB_len (E : zL) (l : zu) : (E.tabB l).length ≤ 2 * l.tab.length := by
 unfold zL.tabB
 split
 ·rw [List.length_flatMap]
  have : ∀ t : List Int, (t.map fun x => (E.cellT x).length).sum = 2 * t.length := by
   intro t
   induction t with
   | nil => rfl
   | cons a t ih =>
    rw [List.map_cons, List.sum_cons, ih, List.length_cons]
    show 2 + 2 * t.length = _
    omega
  rw [this]
  exact zn _
 ·simp
theorem posL_len (E : zL) (k : Nat) (l : zu) : (E.posL k l).length ≤ 1 := by
 unfold zL.posL
 split <;> simp
section
variable {E : zL} (hE : E.Ok)
include hE
theorem tabsTo_ok : ∀ k, k ≤ E.ls.length → Bts (E.tabsTo k) ∧ (E.tabsTo k).length ≤ 2000 * k := by
 intro k
 induction k with
 | zero => intro _; exact ⟨Bts.nil, zn _⟩
 | succ k ih =>
  intro h
  obtain ⟨i1, i2⟩ := ih (by omega)
  rw [x6 E h]
  refine ⟨i1.app (tabB_rng E _), ?_⟩
  have h1 := tabB_len E E.ls[k]
  have h2 := (hE.ls.1 _ (List.getElem_mem h)).tlen
  rw [List.length_append]
  omega
theorem posTo_len : ∀ k, k ≤ E.ls.length → (E.posTo k).length ≤ k := by
 intro k
 induction k with
 | zero => intro _; exact zn _
 | succ k ih =>
  intro h
  have := ih (by omega)
  rw [posTo_succ E h, List.length_append]
  have := posL_len E k E.ls[k]
  omega
theorem codeTo_ok (hf : ∀ l ∈ E.ls, zK l.ins.op ≠ 0) : ∀ k, k ≤ E.ls.length → Bts (E.codeTo k) ∧ (E.codeTo k).length ≤ 9 * k := by
 intro k
 induction k with
 | zero => intro _; exact ⟨Bts.nil, zn _⟩
 | succ k ih =>
  intro h
  obtain ⟨i1, i2⟩ := ih (by omega)
  rw [jT E h]
  refine ⟨i1.app (encB_rng _ (insL_ok hE (List.getElem?_eq_getElem h) (hf _ (List.getElem_mem h)) _)), ?_⟩
  have h1 := encB_len (z6 (E.insL k (E.tabsTo k).length E.ls[k]))
  rw [List.length_append]
  unfold zL.lineB
  omega
end
theorem xx {L nf no l} (h : zY L nf no l = true) : zK l.ins.op ≠ 0 := by
 intro hf
 unfold zY at h
 rw [hf] at h
 simp at h
end Go.Proofs.Ythebmoggbgldmaa
namespace Go.Proofs.Ythebmoggbgldmaa
open Go Go.RowKit Go.Maps
structure Fz (w w' : World) : Prop where
 os : w'.os = w.os
 tape : w'.tape = w.tape
 output : w'.output = w.output
 size : w.heap.size ≤ w'.heap.size
 block : ∀ (k : Nat) (o : Obj), w.heap[k]? = some o → w'.heap[k]? = some o ∨ ∃ cs fr fr', o = .cells cs 5 fr ∧ w'.heap[k]? = some (.cells cs 5 fr')
theorem Fz.refl (w : World) : Fz w w := ⟨rfl, rfl, rfl, zn _, fun _ _ h => .inl h⟩
theorem Fz.drew {w w' : World} (h : Fz w w') : Fz w w'.drew := ⟨h.os, h.tape, h.output, h.size, h.block⟩
theorem Fz.trans {a b c : World} (h : Fz a b) (k : Fz b c) : Fz a c :=
 ⟨k.os.trans h.os, k.tape.trans h.tape, k.output.trans h.output, Nat.le_trans h.size k.size, fun x o hx => by
  rcases h.block x o hx with h1 | ⟨cs, fr, fr', rfl, h1⟩
  ·exact k.block x o h1
  ·rcases k.block x _ h1 with h2 | ⟨cs2, fr2, fr2', e, h2⟩
   ·exact .inr ⟨cs, fr, fr', rfl, h2⟩
   ·simp only [Obj.cells.injEq, true_and] at e
    obtain ⟨rfl, -⟩ := e
    exact .inr ⟨cs, fr, fr2', rfl, h2⟩⟩
theorem Fz.ofBelow {a b : World} (h : Below a.heap.size a b) : Fz a b := ⟨h.os, h.tape, h.output, h.size, fun k o hk => .inl ((h.block k (Array.getElem?_eq_some_iff.1 hk).1).trans hk)⟩
theorem Fz.heap {a b : World} (h : Fz a b) {k : Nat} {cs : Array Value} {T : TypeId} {fr : Nat × Nat} (hk : a.heap[k]? = some (.cells cs T fr)) (hT : T ≠ 5) : b.heap[k]? = some (.cells cs T fr) := by
 rcases h.block k _ hk with h1 | ⟨cs, fr, fr', e, -⟩
 ·exact h1
 ·simp only [Obj.cells.injEq] at e
  exact absurd e.2.1 hT
theorem fz_freeze (w : World) (g n : Nat) (cs : Array Value) (fr : Nat × Nat) (h : w.heap[g]? = some (.cells cs 5 fr)) : Fz w (w.freeze ⟨g, 0, none⟩ n) := by
 unfold World.freeze
 split
 ·exact Fz.refl _
 ·refine ⟨rfl, rfl, rfl, by simp, fun k o hk => ?_⟩
  simp only [Array.getElem?_modify]
  by_cases e : g = k
  ·subst e
   rw [h] at hk
   simp only [Option.some.injEq] at hk
   subst hk
   right
   obtain ⟨lo, hi⟩ := fr
   refine ⟨cs, (lo, hi), (if lo == hi then (0, 0 + n) else (min lo 0, max hi (0 + n))), rfl, ?_⟩
   rw [if_pos rfl, h]
   rfl
  ·rw [if_neg e]; exact .inl hk
structure StrF (b : Nat) (l : List Int) (v : Value) (w : World) : Prop where
 blk : ∃ p, w.heap[b]? = some (.cells #[p, v] 109 (0, 0))
 row : (v = .slice none 0 0 ∧ l = []) ∨ ∃ g cap cur fr, v = .slice (some ⟨g, 0, none⟩) l.length cap ∧ l ≠ [] ∧ w.heap[g]? = some (.cells cur 5 fr) ∧ l.length ≤ cap ∧ cap ≤ maxLen ∧ cur.size = cap ∧ cur.toList.take l.length = bv l
theorem StrF.fz {b l v} {w w' : World} (h : StrF b l v w) (hf : Fz w w') : StrF b l v w' := by
 obtain ⟨⟨p, hb⟩, hr⟩ := h
 refine ⟨⟨p, hf.heap hb (by decide)⟩, ?_⟩
 rcases hr with h | ⟨g, cap, cur, fr, h1, h2, h3, h4⟩
 ·exact .inl h
 ·rcases hf.block g _ h3 with h5 | ⟨cs, fr1, fr2, e, h5⟩
  ·exact .inr ⟨g, cap, cur, fr, h1, h2, h5, h4⟩
  ·simp only [Obj.cells.injEq, true_and] at e
   obtain ⟨rfl, -⟩ := e
   exact .inr ⟨g, cap, cur, fr2, h1, h2, h5, h4⟩
theorem StrF.of {b : Nat} {l : List Int} {v : Value} {w : World} (h : jL b (bv l) v w) : StrF b l v w := by
 obtain ⟨p, -, hbk⟩ := h.blk
 refine ⟨⟨p, hbk⟩, ?_⟩
 have hbl : (bv l).length = l.length := by simp [bv]
 by_cases hv : v = .slice none 0 0
 ·have hn := h.nil.1 hv
  exact .inl ⟨hv, by simpa [bv] using hn⟩
 ·have h0 : l ≠ [] := fun e => hv (h.nil.2 (by rw [e]; rfl))
  have hown := h.own
  rw [hbl] at hown
  rcases hown.2 with ⟨hv', _⟩ | ⟨g, cap, cur, hv', -, hg, hnc, hcm, hcs, htake⟩
  ·exact absurd hv' hv
  ·exact .inr ⟨g, cap, cur, (0, 0), hv', h0, hg, hnc, hcm, by omega, by simpa using htake⟩
def SfPost (l : List Int) (v : Value) (w : World) (e : Ending) (w' : World) : Prop := e = .returned (.string (zO l)) ∧ Fz w w' ∧ zN (fun x => v.ownBlock = some x) w w'
set_option maxRecDepth 100000 in
set_option maxHeartbeats 2000000 in
theorem bstr_any (b : Nat) (l : List Int) (hl : ∀ n ∈ l, 0 ≤ n ∧ n < 256) (v : Value) (w : World) (h : StrF b l v w) :
  Calls Try.prog 63 #[.pointer (some ⟨b, 0, none⟩)] w (SfPost l v w) := by
 obtain ⟨⟨p, hbk⟩, hr⟩ := h
 rcases hr with ⟨rfl, rfl⟩ | ⟨g, cap, cur, fr, rfl, h0, hg, hnc, hcm, hcs, htake⟩
 ·have hUS : ∀ W q, (Builtin.unsafeString_ #[145, 3] 9 #[.pointer q, .int .i64 0]).run Try.prog W = .ok (.string .empty) W := fun W q => Lib.run_unsafeString_none W _ _ _ q
  have hSD : (Builtin.unsafeSliceData_ #[99] 145 #[.slice none 0 0]).run Try.prog w.drew = .ok (.pointer none) w.drew := rfl
  have c1 : w.drew.cell? ⟨b, 1, none⟩ = some (.slice none 0 0) := by
   have : w.drew.heap[b]? = some (.cells #[p, .slice none 0 0] 109 (0, 0)) := hbk
   rw [Lib.cell_of_heap this]; rfl
  clear hl hbk
  go_enter Try.func63, Try.ntmps63
  go_wp2
  go_region
  all_goals (go_wp2; go_ret; exact ⟨rfl, (Fz.refl _).drew, (zN.refl _ _).drew⟩)
 ·have hl0 : l.length ≠ 0 := by simpa using h0
  have c1 : w.drew.cell? ⟨b, 1, none⟩ = some (.slice (some ⟨g, 0, none⟩) l.length cap) := by
   have : w.drew.heap[b]? = some (.cells #[p, .slice (some ⟨g, 0, none⟩) l.length cap] 109 (0, 0)) := hbk
   rw [Lib.cell_of_heap this]; rfl
  have hSD : (Builtin.unsafeSliceData_ #[99] 145 #[.slice (some ⟨g, 0, none⟩) l.length cap]).run Try.prog w.drew = .ok (.pointer (some ⟨g, 0, none⟩)) w.drew :=
   Lib.run_unsafeSliceData_row _ _ _ _ _ _ (by omega)
  have hml : (l.map fun n => UInt8.ofNat n.toNat).length = l.length := by simp
  have hg' : w.drew.heap[g]? = some (.cells cur 5 fr) := hg
  have hUS : (Builtin.unsafeString_ #[145, 3] 9 #[.pointer (some ⟨g, 0, none⟩), .int .i64 l.length]).run Try.prog w.drew = .ok (.string (zO l)) (w.drew.freeze ⟨g, 0, none⟩ l.length) := by
   have h9 := Lib.run_unsafeString_row (P := Try.prog) w.drew 145 3 9 5 Try.underlying145 bCells g cur.size (by simp [World.shape?, hg']) (l.map fun n => UInt8.ofNat n.toNat) (by simpa using h0) (by rw [hml]; omega) (by rw [hml]; unfold maxLen at hcm; omega) (by
    intro j x hx
    have h2 := bv_cells hx hl
    rw [← htake] at h2
    have hj : j < l.length := by
     have := (List.getElem?_eq_some_iff.1 hx).1
     simpa using this
    rw [List.getElem?_take, if_pos hj] at h2
    have ha : (⟨g, 0, none⟩ : Addr).add j = ⟨g, j, none⟩ := by
     unfold Addr.add
     split
     ·subst_vars; rfl
     ·simp
    rw [ha, Lib.cell_of_heap hg']
    simpa using h2)
   rw [hml] at h9
   exact h9
  have HT := zh (show zN (fun x => (Value.slice (some ⟨g, 0, none⟩) l.length cap).ownBlock = some x) w (w.drew.freeze ⟨g, 0, none⟩ l.length) from ((zN.refl (fun x => x = g) w).drew.trans (turn_freeze w.drew g l.length) (fun _ _ h => h)).mono fun x _ h => by rw [h]; rfl)
  have HF := zh (show Fz w (w.drew.freeze ⟨g, 0, none⟩ l.length) from (Fz.refl w).drew.trans (fz_freeze w.drew g l.length cur fr hg'))
  clear hl h0 hbk htake hcs hcm hnc hg hg'
  go_enter Try.func63, Try.ntmps63
  go_wp2
  go_region
  all_goals (go_wp2; go_ret; exact ⟨rfl, HF.out, HT.out⟩)
end Go.Proofs.Ythebmoggbgldmaa
