/- The law ScanClosed, walked. Condition: the numbers lie in their types' ranges. -/
import Derived.Test.YteofmaiojepdkaaGreatSdScB
set_option linter.all false
namespace Go.Proofs.YteofmaiojepdkaaGreat
structure LstR (I : zp) (more : List zc) (rs : List yN) : Prop where
 so : (rs.map (·.entry)).Pairwise yl
 le : rs.length ≤ 2000
 rt : ∀ r ∈ rs, ye I r.entry r
 pl : ∀ r ∈ rs, yQ r.entry
 cd : ∀ r ∈ rs, ∀ p ∈ r.code, okI I p ∧ yQ p
 cl : ∀ r ∈ rs, ∀ q ∈ r.calls, q ∈ rs.map (·.entry)
 th : ∀ r ∈ rs, r.thunk = true → r.dest ∈ rs.map (·.entry)
theorem rts_lstR {I : zp} (hI : I.Ok) {more : List zc} (hm : ∀ p ∈ more, yQ p) {rs : List yN} (h : yT I more (some rs)) : LstR I more rs := by
 obtain ⟨h1, h2, h3, h4⟩ := h
 have hE : ∀ r ∈ rs, Ent I more r.entry := fun r hr => (h4 _).1 (List.mem_map.2 ⟨r, hr, rfl⟩)
 refine ⟨h1, h2, h3, fun r hr => (hE r hr).plOk hI hm, fun r hr p hp => ?_, fun r hr q hq => (h4 _).2 (.call (hE r hr) (h3 r hr) hq), fun r hr ht => ?_⟩
 ·have hpe := (hE r hr).plOk hI hm
  have hir := h3 r hr
  by_cases ht : yc I r.entry
  ·rw [(hir.thk ht).2.1, List.mem_singleton] at hp
   rw [hp]
   exact ⟨ht.1, hpe⟩
  ·obtain ⟨h5, h6⟩ := (hir.mc ht p).1 hp
   exact ⟨h6, h5.plOk hpe⟩
 ·have hir := h3 r hr
  rw [hir.th] at ht
  have ht := of_decide_eq_true ht
  rw [(hir.thk ht).1]
  exact (h4 _).2 (.thunk (hE r hr) ht)
theorem lst_lstR {I : zp} (hI : I.Ok) {more : List zc} (hm : ∀ p ∈ more, yQ p) {L : LstS} (h : x7 I more L) : LstR I more L.rts := by
 have h0 : LstR I more (manyL I).rts := ⟨List.Pairwise.nil, Nat.zero_le _, fun r hr => (by cases hr), fun r hr => (by cases hr), fun r hr => (by cases hr), fun r hr => (by cases hr), fun r hr => (by cases hr)⟩
 rcases h with ⟨-, rfl⟩ | ⟨rs, its, h1, -, ⟨-, rfl⟩ | ⟨-, rfl⟩⟩
 ·exact h0
 ·exact h0
 ·exact rts_lstR hI hm h1
section
variable {I : zp} {e : zc} {r : yN} (h : ye I e r) (ht : ¬ yc I e)
include h ht
theorem ye.known {p : zc} (hp : Rch I e p) : p ∈ r.code ∨ p ∈ r.iss.map (·.at_) := by
 by_cases ho : okI I p
 ·exact .inl ((h.mc ht p).2 ⟨hp, ho⟩)
 ·exact .inr (List.mem_map.2 ⟨⟨(atI I p).2, p⟩, (h.mi ht ⟨(atI I p).2, p⟩).2 ⟨hp, .inl ⟨ho, rfl⟩⟩, rfl⟩)
theorem ye.next {p q : zc} (hp : p ∈ r.code) (hq : q ∈ (fl I p).nx) : q ∈ r.code ∨ q ∈ r.iss.map (·.at_) := by
 obtain ⟨h1, h2⟩ := (h.mc ht p).1 hp
 exact h.known ht (.step h1 h2 hq)
theorem ye.call {p q : zc} (hp : p ∈ r.code) (hq : q ∈ (fl I p).cl) : q ∈ r.calls := by
 obtain ⟨h1, h2⟩ := (h.mc ht p).1 hp
 exact (h.ml ht q).2 ⟨p, h1, h2, hq⟩
end
end Go.Proofs.YteofmaiojepdkaaGreat
namespace Go.Proofs.YteofmaiojepdkaaGreat
open Go Go.RowKit Go.Maps Go.Sort
structure LwW (I : zp) (gb gd : Nat) (gi gl : Nat) (L : LstS) (c : Nat → Nat → Int) (vc vr vi : Value) (W : World) : Prop where
 im : W.heap[gi]? = some (.cells #[.slice (some ⟨gb, 0, none⟩) I.banks.length 3, .int .u16 I.entry, .int .u16 I.vector, .slice (some ⟨gd, 0, none⟩) I.data.length 3, .slice none 0 0] 31 (0, 0))
 vw : yw W I (some ⟨gb, 0, none⟩) 3 (some ⟨gd, 0, none⟩) 3
 ls : W.heap[gl]? = some (.cells #[vc, vr, vi] 38 (0, 0))
 rd : LstD I I.banks.length c L.rts L.iss vc vr vi W
theorem LwW.below {I : zp} {gb gd gi gl : Nat} {L : LstS} {c : Nat → Nat → Int} {vc vr vi : Value} {W W' : World} (h : LwW I gb gd gi gl L c vc vr vi W) (hb : Below W.heap.size W W') : LwW I gb gd gi gl L c vc vr vi W' := ⟨za hb h.im, h.vw.below hb, za hb h.ls, h.rd.below hb⟩
abbrev imgI (I : zp) (gb gd : Nat) : Obj := .cells #[.slice (some ⟨gb, 0, none⟩) I.banks.length 3, .int .u16 I.entry, .int .u16 I.vector, .slice (some ⟨gd, 0, none⟩) I.data.length 3, .slice none 0 0] 31
abbrev lst0 : Obj := .cells #[.slice none 0 0, .slice none 0 0, .slice none 0 0] 38
theorem rd_ptr {w : World} {B s n : Nat} {T : TypeId} {A : Option Addr} {c : Nat} {xs : List Value} (h : w.ownsRow B T s (.slice A n c) n xs) : ∀ g off, A = some ⟨g, off, none⟩ → g < w.heap.size := fun g off e => by
 subst e
 exact (h.lt g rfl).2
theorem LstV.turnL {I : zp} {B : Nat} {L : LstS} {vc vr vi : Value} {W W' : World} {gl : Nat} {cs : Array Value} {fr : Nat × Nat} (h : LstV I B L vc vr vi W) (hg : W.heap[gl]? = some (.cells cs 38 fr)) (t : zl (fun k => k = gl) W W') : LstV I B L vc vr vi W' := by
 have key : ∀ k cs' T fr', W.heap[k]? = some (.cells cs' T fr') → T ≠ 38 → ¬ k = gl := fun k cs' T fr' hk hT e => by
  rw [e, hg] at hk
  injection hk with hk
  injection hk with h1 h2
  exact hT h2.symm
 obtain ⟨gs, c, h1, h2, h3⟩ := h.cls
 obtain ⟨R, h4, h5⟩ := h.rts
 exact ⟨⟨gs, c, h1, h2.turn t (fun k cs' T fr' hk hT => key k cs' T fr' hk (by rcases hT with rfl | rfl <;> decide)), h3⟩, ⟨R, h4.turn t (fun k cs' T fr' hk _ hT => key k cs' T fr' hk hT), h5⟩, zk h.iss t (yp h.iss hg (fun _ _ => zo (by decide)))⟩
theorem LstV.below {I : zp} {B : Nat} {L : LstS} {vc vr vi : Value} {W W' : World} (h : LstV I B L vc vr vi W) (hb : Below W.heap.size W W') : LstV I B L vc vr vi W' := by
 obtain ⟨gs, c, h1, h2, h3⟩ := h.cls
 obtain ⟨R, h4, h5⟩ := h.rts
 exact ⟨⟨gs, c, h1, h2.below hb, h3⟩, ⟨R, h4.below hb, h5⟩, zk h.iss (zl.ofBelow (bs := fun _ => False) hb) (fun _ _ e => e)⟩
abbrev rtnO (r : yN) (A1 A2 A3 : Option Addr) (k1 k2 k3 : Nat) : Obj := .cells #[.int .i64 r.entry.bank, .int .u16 r.entry.addr, .bool r.thunk, .int .i64 r.dest.bank, .int .u16 r.dest.addr, .slice A1 r.code.length k1, .slice A2 r.calls.length k2, .slice A3 r.iss.length k3] 50
def ScQ (I : zp) (more : List zc) (w : World) (e : Ending) (w' : World) : Prop := ∃ L A1 n1 k1 A2 n2 k2 A3 n3 k3, e = .returned (.agg #[.slice A1 n1 k1, .slice A2 n2 k2, .slice A3 n3 k3]) ∧ x7 I more L ∧ LstV I w.heap.size L (.slice A1 n1 k1) (.slice A2 n2 k2) (.slice A3 n3 k3) w' ∧ Below w.heap.size w w'
theorem scan_q {I : zp} (hI : I.Ok) {gb gd : Nat} {more : List zc} (hm : (∀ p ∈ more, yQ p) ∧ more.length ≤ 4) {A : Option Addr} {c B : Nat} {W : World} (hV : yw W I (some ⟨gb, 0, none⟩) 3 (some ⟨gd, 0, none⟩) 3) (ho : W.ownsRow B 47 2 (.slice A more.length c) more.length (zt more)) :
  Calls Tryz.prog 17 #[.agg #[.slice (some ⟨gb, 0, none⟩) I.banks.length 3, .int .u16 I.entry, .int .u16 I.vector, .slice (some ⟨gd, 0, none⟩) I.data.length 3, .slice none 0 0], .slice A more.length c] W (ScQ I more W) :=
 (scan_any I hI _ 3 _ 3 none 0 0 more hm.1 (by have := hm.2; omega) A c W hV (xi ho) (rd_ptr ho)).mono fun e W' ⟨L, vc, vr, vi, he, hL, hv, hb⟩ => by
  obtain ⟨c, -, hr⟩ := hv.read hI
  obtain ⟨A1, k1, rfl, -⟩ := hr.cls
  obtain ⟨R, A2, k2, rfl, -⟩ := hr.rts
  obtain ⟨A3, k3, rfl, -⟩ := hr.iss
  exact ⟨L, _, _, _, _, _, _, _, _, _, he, hL, hv, hb⟩
theorem lw_mk {I : zp} (hI : I.Ok) {gb gd gi gl B : Nat} {L : LstS} {vc vr vi : Value} {w3 W : World} (him : w3.heap[gi]? = some (imgI I gb gd)) (hV : yw w3 I (some ⟨gb, 0, none⟩) 3 (some ⟨gd, 0, none⟩) 3) (h : LstV I B L vc vr vi W) (hg : W.heap[gl]? = some lst0) (hz : w3.heap.size ≤ gl) (hb : Below w3.heap.size w3 W) :
  ∃ c, LwW I gb gd gi gl L c vc vr vi (W.setRow gl #[vc, vr, vi]) ∧ Below w3.heap.size w3 (W.setRow gl #[vc, vr, vi]) := by
 have hb' : Below w3.heap.size w3 (W.setRow gl #[vc, vr, vi]) := below_setRow hb hz _
 obtain ⟨c, -, hr⟩ := (h.turnL hg ((zl.refl (fun k => k = gl) W).setRow #[vc, vr, vi] (fun _ => rfl))).read hI
 exact ⟨c, ⟨za hb' him, hV.below hb', setRow_heap _ _ _ _ _ _ hg, hr⟩, hb'⟩
end Go.Proofs.YteofmaiojepdkaaGreat
namespace Go.Proofs.YteofmaiojepdkaaGreat
open Go Go.RowKit Go.Maps Go.Sort
theorem scan_q0 {I : zp} (hI : I.Ok) {gb gd : Nat} {W : World} (hV : yw W I (some ⟨gb, 0, none⟩) 3 (some ⟨gd, 0, none⟩) 3) :
  Calls Tryz.prog 17 #[.agg #[.slice (some ⟨gb, 0, none⟩) I.banks.length 3, .int .u16 I.entry, .int .u16 I.vector, .slice (some ⟨gd, 0, none⟩) I.data.length 3, .slice none 0 0], .slice none 0 0] W (ScQ I [] W) :=
 scan_q (B := 0) (more := []) hI ⟨fun p hp => (by cases hp), (by simp)⟩ hV (World.ownsRow_nil _ _ _ _)
end Go.Proofs.YteofmaiojepdkaaGreat
