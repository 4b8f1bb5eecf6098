/- From a law's walk to its statement: what the statements of this seat share: arguments of plain data opened, and the post out of 'it returned true and what was there is as it was'. No condition beyond what each law states. (Printed by gen_lca.py.) -/
import Derived.Test.YthebmoggbgldmaaLaLmA
import Derived.ProofKit
import Derived.OpenShut
import Derived.ChangeOld
import Derived.Deep.Slices
set_option linter.all false
namespace Go.Proofs.Ythebmoggbgldmaa
open Go Go.RowKit Go.Maps
theorem own_int_all {w : World} {B : Nat} {v : Value} {n : Nat} {xs : List Int} (h : w.ownsRow B 3 1 v n (xs.map (Value.int .i64))) (hn : 0 < n) :
  ∃ g cp, v = .slice (some ⟨g, 0, none⟩) n cp ∧ B ≤ g ∧ ∃ cur, w.heap[g]? = some (.cells cur 3 (0, 0)) ∧ ∀ (k : Nat) (x : Int), xs[k]? = some x → cur[k]? = some (Value.int .i64 x) := by
 rcases h.2 with ⟨-, h0⟩ | ⟨g, cap, cur, rfl, hB, hg, hnc, hcm, hcs, ht⟩
 ·omega
 ·refine ⟨g, cap, rfl, hB, cur, hg, fun k x hk => ?_⟩
  have h2 : (xs.map (Value.int .i64))[k]? = some (.int .i64 x) := by rw [List.getElem?_map, hk]; rfl
  rw [← ht, List.getElem?_take] at h2
  split at h2
  ·simpa using h2
  ·cases h2
end Go.Proofs.Ythebmoggbgldmaa
namespace Go.Proofs.Ythebmoggbgldmaa
open Go Go.RowKit Go.Maps
def isVT (bs : Nat → Prop) (Q : Value → World → Prop) : Fct := fun vs w => match vs with | [v] => ∃ w0, Q v w0 ∧ zN bs w0 w | _ => False
theorem yu (bs : Nat → Prop) (Q : Value → World → Prop) : zi (isVT bs Q) := fun vs w w' h hb => by
 match vs, h with
 | [v], ⟨w0, h1, h2⟩ => exact ⟨w0, h1, h2.trans (zN.ofBelow (bs := fun _ => False) hb) (fun _ _ h => h.elim)⟩
theorem zU {ex : List Nat} {w w' : World} {k : Nat} {bs : Nat → Prop} {Q : Value → World → Prop} {l : List Fct} (t : zN bs w w') (h : zm ex w w' (k + 1) l) : zm ex w w' k (isVT bs Q :: l) := ⟨.inr fun vs h => by
 match vs, h with
 | [v], ⟨w0, h1, h2⟩ => exact ⟨w0, h1, h2.trans t (fun _ _ h => h)⟩, h⟩
theorem yv {al : List Nat} {n : Nat} {l : List Fct} {rd drops : List (List Nat)} {S : World → Prop} {i : Nat} {f : Nat → Value} {w w' : World} {v : Value} {bs : Nat → Prop} {Q : Value → World → Prop} {dr : List Nat} (hi : l[i]? = some (isVT bs Q)) (hr : rd[i]? = some [i]) (hd : drops[i]? = some dr) (hal : al.contains i = false) (hsz : w.heap.size ≤ w'.heap.size) (hS : S w') (hst : zm (i :: dr) w w' 0 l) (hp : Q v w') : zr al n (z5 l) (nth rd) (nth drops) S i f w v w' := by
 refine ⟨?_, .inr ⟨hsz, hS, fun j _ hne hjd h => hst.of j _ (fun hm => by
  rw [Nat.zero_add] at hm
  rcases List.mem_cons.1 hm with e | e
  ·exact hne e
  ·exact hjd (by simpa [nth, hd] using e)) h⟩, fun e => by rw [hal] at e; cases e⟩
 simp only [z5, hi, nth, hr, List.map_cons, List.map_nil, xq]
 exact ⟨w', hp, zN.refl _ _⟩
end Go.Proofs.Ythebmoggbgldmaa
namespace Go.Proofs.Ythebmoggbgldmaa
open Go Go.RowKit Go.Maps
theorem yq {ex : List Nat} {w w' : World} {k B n : Nat} {o : Obj} {l : List Fct} (hp : ∀ (g : Nat) (o : Obj), w.heap[g]? = some o → w'.heap[g]? = some o) (h : zm ex w w' (k + 1) l) : zm ex w w' k (Go.Proofs.Ythebmoggbgldmaa.newS B o n :: l) := ⟨.inr fun vs h => by
 match vs, h with
 | [v], ⟨g, h1, h2, h3⟩ => exact ⟨g, h1, h2, hp _ _ h3⟩, h⟩
end Go.Proofs.Ythebmoggbgldmaa
namespace Go.Proofs.Ythebmoggbgldmaa
open Go Go.RowKit Go.Maps
theorem wrap_ok (x : Int) : zX (IntKind.i64.wrap x) := by
 rw [IntKind.wrap_i64]
 constructor <;> omega
def SixV (w : World) (v : Value) (n : Nat) (Q : Nat → Nat → Int) : Prop :=
 ∃ ao cap, v = .slice ao n cap ∧ n ≤ cap ∧ (0 < n → ∃ g off c T fr, ao = some ⟨g, off, none⟩ ∧ w.heap[g]? = some (.cells c T fr) ∧ ∀ i, i < n → (c.extract (off + i * 6) (off + i * 6 + 6)).toList = [.int .i64 (Q i 0), .int .i64 (Q i 1), .int .i64 (Q i 2), .int .i64 (Q i 3), .int .i64 (Q i 4), .int .i64 (Q i 5)])
theorem SixV.below {w w' : World} {v : Value} {n : Nat} {Q : Nat → Nat → Int} (h : SixV w v n Q) (hb : Below w.heap.size w w') : SixV w' v n Q := by
 obtain ⟨ao, cap, e, hc, h⟩ := h
 refine ⟨ao, cap, e, hc, fun h0 => ?_⟩
 obtain ⟨g, off, c, T, fr, e1, hg, h1⟩ := h h0
 exact ⟨g, off, c, T, fr, e1, zf hb hg, h1⟩
def rowsV (ps : List (zu × Value)) : List Value := ps.flatMap fun p => xX p.1 p.2
theorem rowsV_len (ps : List (zu × Value)) : (rowsV ps).length = ps.length * 12 := by
 induction ps with
 | nil => rfl
 | cons p ps ih =>
  show (xX p.1 p.2 ++ rowsV ps).length = _
  rw [List.length_append, ih, List.length_cons]
  show 12 + _ = _
  omega
theorem rowsV_get : ∀ (ps : List (zu × Value)) (i : Nat) (p : zu × Value), ps[i]? = some p → ((rowsV ps).drop (i * 12)).take 12 = xX p.1 p.2
 | [], i, p, h => by simp at h
 | a :: ps, 0, p, h => by
  simp at h
  subst h
  show ((xX a.1 a.2 ++ rowsV ps).drop 0).take 12 = _
  rw [List.drop_zero, List.take_append_of_le_length (by show 12 ≤ 12; exact zn _)]
  exact List.take_of_length_le (by show 12 ≤ 12; exact zn _)
 | a :: ps, i + 1, p, h => by
  have := rowsV_get ps i p (by simpa using h)
  show ((xX a.1 a.2 ++ rowsV ps).drop ((i + 1) * 12)).take 12 = _
  rw [show (i + 1) * 12 = (xX a.1 a.2).length + i * 12 by show _ = 12 + i * 12; omega, List.drop_append, List.drop_eq_nil_of_le (by omega), List.nil_append, Nat.add_sub_cancel_left]
  exact this
structure MdR (w : World) (n nf no g8 : Nat) (nm : ByteArray) (ps : List (zu × Value)) (sv : Value) (W : World) : Prop where
 bb : Below w.heap.size w W
 lt : w.heap.size < g8
 h6 : W.heap[w.heap.size]? = some (.cells #[.string ⟨#[]⟩, .slice none 0 0] 32 (0, 0))
 h8 : W.heap[g8]? = some (.cells #[.string nm, sv] 32 (0, 0))
 ow : W.ownsRow w.heap.size 58 12 sv ps.length (rowsV ps)
 tb : ∀ p ∈ ps, W.ownsRow w.heap.size 3 1 p.2 p.1.tab.length (p.1.tab.map (Value.int .i64))
 ok : ∀ (i : Nat) (p : zu × Value), ps[i]? = some p → MadeOk n nf no i p.1
section
variable {w : World} {n nf no g8 : Nat} {nm : ByteArray} {ps : List (zu × Value)} {sv : Value} {W W' : World}
theorem MdR.stay (h : MdR w n nf no g8 nm ps sv W) (hb : Below W.heap.size W W') : MdR w n nf no g8 nm ps sv W' :=
 ⟨h.bb.trans (hb.mono h.bb.size), h.lt, zf hb h.h6, zf hb h.h8, zZ h.ow (zN.ofBelow (bs := fun _ => False) hb) fun _ _ h => h, fun p hp => zZ (h.tb p hp) (zN.ofBelow (bs := fun _ => False) hb) fun _ _ h => h, h.ok⟩
theorem MdR.push (h : MdR w n nf no g8 nm ps sv W) {l : zu} {tv : Value} (hl : MadeOk n nf no ps.length l) (ht : W.ownsRow w.heap.size 3 1 tv l.tab.length (l.tab.map (Value.int .i64))) {sv' : Value} (ho : W'.ownsRow w.heap.size 58 12 sv' (ps.length + 1) (rowsV ps ++ xX l tv)) (hg : W.grownBy W' sv.ownBlock) :
  MdR w n nf no g8 nm (ps ++ [(l, tv)]) sv' (W'.setCell ⟨g8, 1, none⟩ sv') := by
 have hlt := h.lt
 have hT : zN (fun k => sv.ownBlock = some k) W W' := (zN.refl _ W).grown hg fun k hk _ => hk
 have hT2 : zN (fun k => k = g8) W' (W'.setCell ⟨g8, 1, none⟩ sv') := zN.setCell (zN.refl _ W') _ fun _ => rfl
 have hk : ∀ {b : Nat} {cs : Array Value} {U : TypeId} {fr : Nat × Nat}, W.heap[b]? = some (.cells cs U fr) → U ≠ 58 → W'.heap[b]? = some (.cells cs U fr) := fun hb hU => hT.heap hb fun e => by
  obtain ⟨-, cs', h8⟩ := z7 h.ow _ e
  rw [hb] at h8
  simp at h8
  exact hU h8.2.1
 have h8' := hk h.h8 (by decide)
 have hb1 : Below w.heap.size W W' := hT.toBelow h.bb.size fun k hk => (z7 h.ow k hk).1
 have hb2 : Below w.heap.size W' (W'.setCell ⟨g8, 1, none⟩ sv') := hT2.toBelow (Nat.le_trans h.bb.size hb1.size) fun k hk => by omega
 have hti : ∀ {v : Value} {m : Nat} {xs : List Value}, W.ownsRow w.heap.size 3 1 v m xs → (W'.setCell ⟨g8, 1, none⟩ sv').ownsRow w.heap.size 3 1 v m xs := fun hv =>
  zZ (zZ hv hT fun q hq e => by
   obtain ⟨-, cs, h1⟩ := z7 hv _ hq
   obtain ⟨-, cs', h2⟩ := z7 h.ow _ e
   rw [h1] at h2
   simp at h2) hT2 fun q hq e => by
   obtain ⟨-, cs, h1⟩ := z7 hv _ hq
   rw [e, h.h8] at h1
   simp at h1
 refine ⟨h.bb.trans (hb1.trans hb2), hlt, (jU (by omega) _).trans (hk h.h6 (by decide)), zW h8' _, ?_, fun p hp => ?_, fun i p hp => ?_⟩
 ·have e : rowsV (ps ++ [(l, tv)]) = rowsV ps ++ xX l tv := by unfold rowsV; rw [List.flatMap_append, List.flatMap_singleton]
  rw [e, List.length_append]
  refine zZ ho hT2 fun q hq e => ?_
  obtain ⟨-, cs, h1⟩ := z7 ho _ hq
  rw [e, h8'] at h1
  simp at h1
 ·rcases List.mem_append.1 hp with hp | hp
  ·exact hti (h.tb p hp)
  ·simp at hp
   subst hp
   exact hti ht
 ·by_cases hi : i < ps.length
  ·rw [List.getElem?_append_left hi] at hp
   exact h.ok i p hp
  ·rw [List.getElem?_append_right (by omega)] at hp
   have h0 : i - ps.length = 0 := by
    cases hz : i - ps.length with
    | zero => rfl
    | succ j => rw [hz] at hp; simp at hp
   rw [h0] at hp
   simp at hp
   subst hp
   rw [show i = ps.length by omega]
   exact hl
theorem MdR.lines (h : MdR w n nf no g8 nm ps sv W) : yJ W sv (ps.map (·.1)) := by
 have hown := h.ow
 rcases hown.2 with ⟨he, h0⟩ | ⟨g, cap, cur, he, hB, hg, hnc, hcm, hcs, ht⟩
 ·have : ps = [] := List.eq_nil_of_length_eq_zero h0
  subst this
  exact ⟨none, 0, he, zn _, fun h => by cases h⟩
 ·refine ⟨_, cap, by rw [List.length_map]; exact he, by rw [List.length_map]; exact hnc, fun _ => ⟨g, 0, cur, _, _, rfl, hg, fun i l hl => ?_⟩⟩
  rw [List.getElem?_map] at hl
  obtain ⟨p, hp, rfl⟩ := Option.map_eq_some_iff.1 hl
  refine ⟨p.2, ?_, own_ints (h.tb p (List.mem_of_getElem? hp))⟩
  have h1 := rowsV_get ps i p hp
  have hi := (List.getElem?_eq_some_iff.1 hp).1
  rw [← ht, List.drop_take, List.take_take, Nat.min_eq_left (by omega)] at h1
  rw [← h1, Nat.zero_add, Array.toList_extract, List.extract_eq_drop_take]
  congr 1
  omega
end
theorem src_of {W : World} {g m s : Nat} {cs : Array Value} {T : TypeId} {fr : Nat × Nat} (hg : W.heap[g]? = some (.cells cs T fr)) (hs : cs.size = m * s) : SrcW W s (some ⟨g, 0, none⟩) m cs.toList :=
 ⟨by simpa using hs, fun _ => ⟨_, rfl, fun j u hu => by
  have ha : (⟨g, 0, none⟩ : Addr).add j = ⟨g, j, none⟩ := by
   unfold Addr.add
   split
   ·subst_vars; rfl
   ·simp
  rw [ha, Lib.cell_of_heap hg]
  simpa using hu⟩⟩
theorem MdR.keep8 {w : World} {n nf no g8 : Nat} {nm : ByteArray} {ps : List (zu × Value)} {sv : Value} {W W' : World} (h : MdR w n nf no g8 nm ps sv W) (hg : W.grownBy W' sv.ownBlock) : W'.heap[g8]? = some (.cells #[.string nm, sv] 32 (0, 0)) :=
 ((zN.refl (fun k => sv.ownBlock = some k) W).grown hg fun k hk _ => hk).heap h.h8 fun e => by
  obtain ⟨-, cs', h8⟩ := z7 h.ow _ e
  rw [h.h8] at h8
  simp at h8
theorem MdR.fin {w : World} {n nf no g8 : Nat} {nm : ByteArray} {ps : List (zu × Value)} {sv : Value} {W : World} (h : MdR w n nf no g8 nm ps sv W) (cs : Array Value) : yJ (W.setRow w.heap.size cs) sv (ps.map (·.1)) := by
 have hT : zN (fun k => k = w.heap.size) W (W.setRow w.heap.size cs) := zN.setRow (zN.refl _ W) cs fun _ => rfl
 have h8' : (W.setRow w.heap.size cs).heap[g8]? = some (.cells #[.string nm, sv] 32 (0, 0)) := hT.heap h.h8 (by have := h.lt; omega)
 have hno : ∀ {T : TypeId} {s : Nat} {v : Value} {m : Nat} {xs : List Value}, T ≠ 32 → W.ownsRow w.heap.size T s v m xs → (W.setRow w.heap.size cs).ownsRow w.heap.size T s v m xs := fun hT2 hv => zZ hv hT fun q hq e => by
  obtain ⟨-, cs', h1⟩ := z7 hv _ hq
  rw [e, h.h6] at h1
  simp at h1
  exact hT2 h1.2.symm
 have hown := hno (by decide) h.ow
 rcases hown.2 with ⟨he, h0⟩ | ⟨g, cap, cur, he, hB, hg, hnc, hcm, hcs, ht⟩
 ·have : ps = [] := List.eq_nil_of_length_eq_zero h0
  subst this
  exact ⟨none, 0, he, zn _, fun h => by cases h⟩
 ·refine ⟨_, cap, by rw [List.length_map]; exact he, by rw [List.length_map]; exact hnc, fun _ => ⟨g, 0, cur, _, _, rfl, hg, fun i l hl => ?_⟩⟩
  rw [List.getElem?_map] at hl
  obtain ⟨p, hp, rfl⟩ := Option.map_eq_some_iff.1 hl
  refine ⟨p.2, ?_, own_ints (hno (by decide) (h.tb p (List.mem_of_getElem? hp)))⟩
  have h1 := rowsV_get ps i p hp
  have hi := (List.getElem?_eq_some_iff.1 hp).1
  rw [← ht, List.drop_take, List.take_take, Nat.min_eq_left (by omega)] at h1
  rw [← h1, Nat.zero_add, Array.toList_extract, List.extract_eq_drop_take]
  congr 1
  omega
theorem xV {w : World} {B : Nat} {T : TypeId} {s : Nat} {v : Value} {m : Nat} {xs : List Value} (h : w.ownsRow B T s v m xs) : ∃ (a : Option Addr) (c : Nat), v = .slice a m c ∧ (a = none → c = 0) := by
 rcases h.2 with ⟨he, h0⟩ | ⟨g, cap, cur, he, -⟩
 ·exact ⟨none, 0, by rw [h0]; exact he, fun _ => rfl⟩
 ·exact ⟨_, cap, he, fun h => by cases h⟩
def MdPost (n nf no : Nat) (w : World) (e : Ending) (w' : World) : Prop :=
 ∃ (ls : List zu) (nm : ByteArray) (ao : Option Addr) (cap : Nat), e = .returned (.agg #[.string nm, .slice ao ls.length cap]) ∧ ls.length = n ∧ (∀ (i : Nat) (l : zu), ls[i]? = some l → MadeOk n nf no i l) ∧ (ao = none → cap = 0) ∧ yJ w' (.slice ao ls.length cap) ls ∧ Below w.heap.size w w'
theorem infoLine : (Try.prog.info? 58).map (fun i => (i.zero, i.size, i.bytes)) = some (some (.agg #[.int .i64 0, .int .i64 0, .int .i64 0, .int .i64 0, .int .u16 0, .int .u16 0, .int .i64 0, .int .i64 0, .int .i64 0, .int .i64 0, .int .i64 0, .slice none 0 0]), 12, 104) := by kernel_rfl
theorem okL {l : zu} (h : -65536 ≤ l.label ∧ l.label < 65536 ∧ -65536 ≤ l.ins.op ∧ l.ins.op < 65536 ∧ -65536 ≤ l.ins.d ∧ l.ins.d < 65536 ∧ -65536 ≤ l.ins.s ∧ l.ins.s < 65536 ∧ 0 ≤ l.ins.imm ∧ l.ins.imm < 65536 ∧ 0 ≤ l.ins.aux ∧ l.ins.aux < 65536 ∧ -65536 ≤ l.ins.bank ∧ l.ins.bank < 65536 ∧ -65536 ≤ l.ins.size ∧ l.ins.size < 65536 ∧ -65536 ≤ l.dest ∧ l.dest < 65536 ∧ -65536 ≤ l.fn ∧ l.fn < 65536 ∧ -65536 ≤ l.obj ∧ l.obj < 65536)
  (ht : ∀ t ∈ l.tab, -65536 ≤ t ∧ t < 65536) (hl : l.tab.length ≤ 9) : l.Ok := by
 have sm : ∀ n : Int, -65536 ≤ n → n < 65536 → zX n := fun n h h' => ⟨by omega, by omega⟩
 obtain ⟨a1, a2, a3, a4, a5, a6, a7, a8, a9, a10, a11, a12, a13, a14, a15, a16, a17, a18, a19, a20, a21, a22⟩ := h
 exact ⟨⟨a1, a2⟩, ⟨sm _ a3 a4, sm _ a5 a6, sm _ a7 a8, ⟨a9, a10⟩, ⟨a11, a12⟩, sm _ a13 a14, sm _ a15 a16⟩, sm _ a17 a18, sm _ a19 a20, sm _ a21 a22, fun t hm => sm t (ht t hm).1 (ht t hm).2, by omega⟩
def PtQ (k : Nat) (C : Array Value) (v : Value) (W : World) : Prop := ∃ g, v = .pointer (some ⟨g, k, none⟩) ∧ W.heap[g]? = some (.cells C 3 (0, 0))
end Go.Proofs.Ythebmoggbgldmaa
namespace Go.Proofs.Ythebmoggbgldmaa
open Go.ChangeShapes Go.WideShapes Go.ChangeAt Go.RowKit Go.Deep
set_option maxRecDepth 100000
theorem cOwn : ownKnob Try.prog.godebug = none := by kernel_rfl
theorem cLaidOut : laidOutB Try.prog = true := by kernel_rfl
section
variable {H : Type} {enc : TypeId × Value → H}
theorem trodAll_below {P : Program} (hl : laidOutB P = true) {W W' : World} (hb : Below W.heap.size W W') (sp : Nat → Bool) :
  ∀ (ts : List TypeId) (_ : (ts.all fun t => P.readableRec t && decide (t < P.types.size)) = true) (vs : List Value) (ds : List (DataW H)) (ps : List MemPlace),
   DataW.TrodAll enc P W 0 (fun _ => true) true ts vs ds ps → (∀ p ∈ ps, p.block < W.heap.size) → (∀ p ∈ ps, sp p.block = true) → DataW.TrodAll enc P W' 0 sp true ts vs ds ps
 | [], _, vs, ds, ps, h, _, _ => by
  obtain ⟨rfl, rfl, rfl⟩ := trodAll_nil h
  exact rfl
 | t :: ts, hts, vs, ds, ps, h, hlt, hsp => by
  obtain ⟨v, vs', d, ds', p, q, rfl, rfl, rfl, h0, hr⟩ := trodAll_cons h
  simp only [List.all_cons, Bool.and_eq_true, decide_eq_true_eq] at hts
  refine trodAll_cons_mk (WideElems.Trod_stays hl hts.1.1 hts.1.2 h0 (fun x hx => hb.same (hlt x (List.mem_append_left _ hx))) (fun x hx => hsp x (List.mem_append_left _ hx))) ?_
  exact trodAll_below hl hb sp ts hts.2 vs' ds' q hr (fun x hx => hlt x (List.mem_append_right _ hx)) (fun x hx => hsp x (List.mem_append_right _ hx))
theorem post_law {P : Program} {f : Func} {s : ChangeSpec} {W W' : World} {args : Array Value} {ds gs : List (DataW H)} {before : List MemPlace} (hl : laidOutB P = true)
  (hts : (f.params.toList.all fun t => P.readableRec t && decide (t < P.types.size)) = true) (hv : s.vars = []) (tb : TypeId) (hres : f.resultTypes = #[tb]) (htb : P.underlying tb = some .bool)
  (hfn : s.fn H (ds ++ []) = { results := [.lit (.bool true)], args := ds })
  (hW : DataW.Whole enc P f.params.toList s.vars false W args.toList ds gs before) (hb : Below W.heap.size W W') :
  s.post enc P f false true false false W args (.bool true) W' := by
 have hlt : ∀ p ∈ before, p.block < W.heap.size := fun p hp => hW.lt p hp
 have hW' := hW
 obtain ⟨p, q, hA, hV, hpq, hz, hn⟩ := hW
 have hq : gs = [] ∧ q = [] := by
  rw [hv] at hV
  exact trodVars_none hV
 obtain ⟨rfl, rfl⟩ := hq
 have hpq' : before = p := by rw [hpq, List.append_nil]
 have e := hfn
 have hrs : (Value.bool true).resultList f.resultTypes.size = [.bool true] := by rw [hres]; rfl
 have hres' : ∀ (b : Nat) (sp : Nat → Bool) (hd : Bool), DataW.TrodAll enc P W' b sp hd f.resultTypes.toList ((Value.bool true).resultList f.resultTypes.size) (s.fn H (ds ++ [])).results [] := fun b sp hd => by
  rw [hrs, hres, e]
  exact trodAll_mk1 (shut_bool htb true)
 have hargs : ∀ sp : Nat → Bool, (∀ x ∈ before, sp x.block = true) → DataW.TrodAll enc P W' 0 sp true f.params.toList args.toList (s.fn H (ds ++ [])).args before := fun sp hsp => by
  rw [e]
  subst hpq'
  exact trodAll_below hl hb sp _ hts _ _ _ hA hlt hsp
 have hvars : ∀ sp : Nat → Bool, (∀ x ∈ before, sp x.block = true) → DataW.TrodVars enc P W' sp s.vars (s.fn H (ds ++ [])).vars [] := fun sp _ => by
  rw [e, hv]; exact rfl
 have hold : ∀ x ∈ before, (fun b => decide (b < W.heap.size)) x.block = true := fun x hx => by simpa using hlt x hx
 refine ⟨ds, [], before, [], before, [], hW', hres' _ _ _, hargs _ hold, hvars _ hold, World.keptBut_mono (fun x hx => ⟨hx, Or.inr (Or.inl hx)⟩) (hb.frame (· ∈ before)), fun _ => ?_⟩
 refine ⟨?_, _, _, ([] ++ before) ++ [], ⟨[] ++ before, [], trodAll_append (hargs _ (fun _ _ => rfl)) (hres' _ _ _), hvars _ (fun _ _ => rfl), rfl, ?_, ?_⟩, ?_⟩
 ·intro j t r hj hr
  rw [hrs] at hr
  rw [hres] at hj
  rcases j with _ | j
  ·simp at hj hr
   subst hj; subst hr
   exact okWide_bool_mk htb true
  ·simp at hr
 ·intro b off hp
  have hin : MemPlace.cell b off ∈ before := by simpa using hp
  rw [hb.frozen (hlt _ hin)]
  exact hz b off hin
 ·intro ha; cases ha
 ·intro x hx _
  simpa using hx
end
section
variable {P : Program} {w : World} {r : Reach} {base : Nat} {t : TypeId} {v : Value}
theorem jJ {k : IntKind} (ht : P.underlying t = some (.int k)) (h : Cell.okWide P w r base t v) : ∃ n, v = .int k n ∧ k.has n := by
 unfold Cell.okWide at h
 rw [ht] at h
 cases v <;> simp [Cell.ok, ht] at h
 obtain ⟨rfl, h⟩ := h
 exact ⟨_, rfl, h⟩
theorem has_i64 {n : Int} (h : IntKind.i64.has n) : zX n := ⟨by have := h.1; simpa [IntKind.min, IntKind.signed, IntKind.bits] using this, by have := h.2; simpa [IntKind.max, IntKind.signed, IntKind.bits] using this⟩
theorem value_int {k : IntKind} (ht : P.underlying t = some (.int k)) (h : Value.okWide P w r base t v) : ∃ n, v = .int k n ∧ k.has n := by
 unfold Value.okWide at h
 rw [ht] at h
 exact jJ ht h
theorem value_flat {ts : List TypeId} (hu : (match P.underlying t with | some (.struct _) | some (.array _ _) => true | _ => false) = true) (hts : P.cellTypes P.depth t = some ts) (hc : P.cellsOf t = ts.length) (h : Value.okWide P w r base t v) :
  ∃ cs : Array Value, v = .agg cs ∧ cs.size = ts.length ∧ ∀ (i : Nat) x u, cs[i]? = some x → ts[i]? = some u → Cell.okWide P w r base u x := by
 have h' : ∃ cs, v = .agg cs ∧ cs.size = P.cellsOf t ∧ Row.okWide P w r base t cs := by
  unfold Value.okWide at h
  split at h
  ·exact h
  ·exact h
  ·rename_i h1 h2
   split at hu
   ·rename_i fs e; exact absurd e (h1 fs)
   ·rename_i n e' e; exact absurd e (h2 n e')
   ·cases hu
 obtain ⟨cs, rfl, hsz, ts', hts', _, hall⟩ := h'
 obtain rfl := Option.some.inj (hts.symm.trans hts')
 rw [hc] at hsz
 refine ⟨cs, rfl, hsz, fun i x u hx hu' => ?_⟩
 obtain ⟨u', hu1, hok⟩ := hall i x hx
 have hi : i < ts.length := (List.getElem?_eq_some_iff.1 hu').1
 rw [Nat.mod_eq_of_lt hi, hu'] at hu1
 obtain rfl := Option.some.inj hu1
 exact hok
end
section
variable {w : World} {r : Reach} {base : Nat} {v : Value}
theorem arg_int (h : Value.okWide Try.prog w r base 3 v) : ∃ n : Int, zX n ∧ v = .int .i64 n := by
 obtain ⟨n, rfl, hn⟩ := value_int Try.underlying3 h
 exact ⟨n, has_i64 hn, rfl⟩
end
theorem arr3 {cs : Array Value} (h : cs.size = 3) : ∃ a b c, cs = #[a, b, c] := by
 obtain ⟨l⟩ := cs
 match l, h with
 | [a, b, c], _ => exact ⟨a, b, c, rfl⟩
theorem arg_c3 {w : World} {r : Reach} {base : Nat} {v : Value} (h : Value.okWide Try.prog w r base 39 v) : ∃ q0 q1 q2 : Int, (zX q0 ∧ zX q1 ∧ zX q2) ∧ v = .agg #[.int .i64 q0, .int .i64 q1, .int .i64 q2] := by
 obtain ⟨cs, rfl, hsz, hall⟩ := value_flat (ts := [3, 3, 3]) (by kernel_rfl) (by kernel_rfl) (by kernel_rfl) h
 obtain ⟨a, b, c, rfl⟩ := arr3 hsz
 obtain ⟨a, rfl, ha⟩ := jJ Try.underlying3 (hall 0 _ _ rfl rfl)
 obtain ⟨b, rfl, hb⟩ := jJ Try.underlying3 (hall 1 _ _ rfl rfl)
 obtain ⟨c, rfl, hc⟩ := jJ Try.underlying3 (hall 2 _ _ rfl rfl)
 exact ⟨a, b, c, ⟨has_i64 ha, has_i64 hb, has_i64 hc⟩, rfl⟩
theorem cell_lt {w : World} {a : Addr} {v : Value} (h : w.cell? a = some v) : a.block < w.heap.size ∧ a.spot = none := by
 unfold World.cell? at h
 cases hb : w.heap[a.block]? with
 | none => simp [hb] at h
 | some o =>
  refine ⟨(Array.getElem?_eq_some_iff.1 hb).1, ?_⟩
  rw [hb] at h
  cases o with
  | cells c t fr =>
   simp only at h
   cases hs : a.spot with
   | none => rfl
   | some s => simp [hs] at h
  | _ => simp at h
section
variable {H : Type} {enc : TypeId × Value → H} {P : Program} {w : World} {base : Nat} {spare : Nat → Bool} {held : Bool}
theorem je {t e q : TypeId} {m : Nat} {r : Reach} {b0 : Nat} {v : Value} {d : DataW H} {ps : List MemPlace} (hm0 : 0 < m) (ht : P.underlying t = some (.slice e)) (he : P.underlying e = some (.array m q)) (hq : P.underlying q = some (.int .i64)) (hce : P.cellsOf e = m) (hcq : P.cellsOf q = 1)
  (hval : Value.okWide P w r b0 t v) (hd : DataW.Trod enc P w base spare held t v d ps) :
  ∃ (p : Option Addr) (len cap b off : Nat) (Q : Nat → Nat → Int), v = .slice p len cap ∧ len ≤ cap ∧ cap ≤ maxLen ∧ (0 < len → p = some ⟨b, off, none⟩ ∧ b < w.heap.size) ∧ (∀ i, i < len → ∀ j, j < m → w.cell? ⟨b, off + i * m + j, none⟩ = some (.int .i64 (Q i j)) ∧ zX (Q i j)) ∧
   (len = 0 ∨ ∃ es sp, d = .slice es sp ∧ es.length = len) := by
 obtain ⟨p, len, cap, rfl⟩ := okWide_slice ht hval
 obtain ⟨fuel, hf⟩ := hd
 have hf' : DataW.trod enc P w base spare held fuel t [.slice p len cap] = some (d, ps) := hf
 rcases open_slice ht hf' with ⟨hcs, hx⟩ | ⟨a, len', cap', mm, n, D, Pl, hcs, hb, hl, hmx, hmm, hx, hi⟩
 ·simp only [List.cons.injEq, Value.slice.injEq, and_true] at hcs
  obtain ⟨rfl, rfl, rfl⟩ := hcs
  exact ⟨none, 0, 0, 0, 0, fun _ _ => 0, rfl, zn _, Nat.zero_le _, fun h => absurd h (by omega), fun i h => absurd h (by omega), .inl rfl⟩
 ·simp only [List.cons.injEq, Value.slice.injEq, and_true] at hcs
  obtain ⟨rfl, rfl, rfl⟩ := hcs
  have hlm : len ≤ mm := by rw [hmm]; split <;> omega
  have hcell : ∀ i, i < len → ∀ j, j < m → ∃ z, w.cell? (a.add (i * m + j)) = some (.int .i64 z) ∧ zX z := fun i hil j hj => by
   obtain ⟨cs', hc, htr⟩ := hi i (by omega)
   rw [hce] at hc
   obtain ⟨-, hlen, hat⟩ := World.cells?_some hc
   obtain ⟨xs, n', -, -, -, hxl, hel⟩ := DataW.trod_array he htr
   have h1 := hel j hj
   rw [hcq, Nat.mul_one] at h1
   have hxj : xs[j]? = some (xs[j]'(by omega)) := List.getElem?_eq_getElem (by omega)
   rw [hxj] at h1
   obtain ⟨z, hz, -, hwf⟩ := DataW.trod_int hq h1
   have hcj : cs'[j]? = some (.int .i64 z) := by
    have := congrArg (fun l : List Value => l[0]?) hz
    simpa [List.getElem?_take, List.getElem?_drop] using this
   refine ⟨z, ?_, ?_⟩
   ·have := hat j hj
    rw [add_add] at this
    rw [this, hcj]
   ·simp only [Lit.wf, Bool.and_eq_true, decide_eq_true_eq] at hwf
    exact has_i64 ⟨hwf.1, hwf.2⟩
  refine ⟨some a, len, cap, a.block, a.off, fun i j => match w.cell? (a.add (i * m + j)) with | some (.int _ z) => z | _ => 0, rfl, hl, hmx, fun h0 => ?_, fun i hil j hj => ?_, .inr ⟨_, _, (congrArg Prod.fst hx), by simp⟩⟩
  ·obtain ⟨z, hz, -⟩ := hcell 0 h0 0 hm0
   have h0' : a.add (0 * m + 0) = a := by simp [Addr.add]
   rw [h0'] at hz
   obtain ⟨hlt, hsp⟩ := cell_lt hz
   exact ⟨by obtain ⟨b, o, s⟩ := a; simp only at hsp; rw [hsp], hlt⟩
  ·obtain ⟨z, hz, hzok⟩ := hcell i hil j hj
   obtain ⟨z0, hz0, -⟩ := hcell 0 (by omega) 0 hm0
   have h0' : a.add (0 * m + 0) = a := by simp [Addr.add]
   rw [h0'] at hz0
   obtain ⟨-, hsp⟩ := cell_lt hz0
   have haddr : a.add (i * m + j) = ⟨a.block, a.off + i * m + j, none⟩ := by
    obtain ⟨b, o, s⟩ := a
    simp only at hsp
    subst hsp
    unfold Addr.add
    split
    ·rename_i h; simp [h]; omega
    ·simp [Nat.add_assoc]
   rw [← haddr]
   refine ⟨?_, ?_⟩
   ·simp only [hz]
   ·simp only [hz]; exact hzok
end
theorem cell_block {w : World} {b o : Nat} {v : Value} (h : w.cell? ⟨b, o, none⟩ = some v) : ∃ c t fr, w.heap[b]? = some (.cells c t fr) ∧ c[o]? = some v := by
 unfold World.cell? at h
 cases hb : w.heap[b]? with
 | none => simp [hb] at h
 | some ob =>
  rw [hb] at h
  cases ob with
  | cells c t fr => exact ⟨c, t, fr, rfl, by simpa using h⟩
  | _ => simp at h
theorem six_of {w : World} {p : Option Addr} {len b off : Nat} {Q : Nat → Nat → Int} (hp : 0 < len → p = some ⟨b, off, none⟩ ∧ b < w.heap.size) (hQ : ∀ i, i < len → ∀ j, j < 6 → w.cell? ⟨b, off + i * 6 + j, none⟩ = some (.int .i64 (Q i j)) ∧ zX (Q i j)) :
  ∃ Q' : Nat → Nat → Int, (∀ i j, zX (Q' i j)) ∧ ∀ cap, len ≤ cap → SixV w (.slice p len cap) len Q' := by
 obtain ⟨Q', hQ'⟩ : ∃ Q' : Nat → Nat → Int, ∀ i j, Q' i j = if i < len ∧ j < 6 then Q i j else 0 := ⟨fun i j => if i < len ∧ j < 6 then Q i j else 0, fun _ _ => rfl⟩
 refine ⟨Q', fun i j => ?_, fun cap hc => ⟨p, cap, rfl, hc, fun h0 => ?_⟩⟩
 ·rw [hQ']
  split
  ·rename_i h; exact (hQ i h.1 j h.2).2
  ·exact ⟨by decide, by decide⟩
 ·obtain ⟨c, t, fr, hg, -⟩ := cell_block (hQ 0 h0 0 (by omega)).1
  refine ⟨b, off, c, t, fr, (hp h0).1, hg, fun i hi => ?_⟩
  have hc : ∀ j, j < 6 → c[off + i * 6 + j]? = some (.int .i64 (Q i j)) := fun j hj => by
   have := (hQ i hi j hj).1
   rwa [cell_of_row _ _ _ _ _ _ hg] at this
  have e : ∀ j, j < 6 → Q' i j = Q i j := fun j hj => by rw [hQ']; exact if_pos ⟨hi, hj⟩
  rw [e 0 (by omega), e 1 (by omega), e 2 (by omega), e 3 (by omega), e 4 (by omega), e 5 (by omega)]
  refine ext_at (L := [.int .i64 (Q i 0), .int .i64 (Q i 1), .int .i64 (Q i 2), .int .i64 (Q i 3), .int .i64 (Q i 4), .int .i64 (Q i 5)]) fun j hj => ?_
  have hj' : j < 6 := hj
  rw [hc j hj']
  rcases (show j = 0 ∨ j = 1 ∨ j = 2 ∨ j = 3 ∨ j = 4 ∨ j = 5 by omega) with rfl | rfl | rfl | rfl | rfl | rfl <;> rfl
end Go.Proofs.Ythebmoggbgldmaa
