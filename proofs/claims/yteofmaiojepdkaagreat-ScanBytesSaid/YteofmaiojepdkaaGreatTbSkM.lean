/- Chapter 05 in plain Lean: what a routine's lists hold while its places are visited. No condition. -/
import Derived.Test.YteofmaiojepdkaaGreatTbSkL
set_option linter.all false
namespace Go.Proofs.YteofmaiojepdkaaGreat
open Go Go.RowKit Go.Maps Go.Sort
@[go_sem] theorem rtn_build (b a : Int) (W : World) : (Instr.build 50 #[(0, .agg #[.int .i64 b, .int .u16 a])]).run Tryz.prog W = .ok (.agg #[.int .i64 b, .int .u16 a, .bool false, .int .i64 0, .int .u16 0, .slice none 0 0, .slice none 0 0, .slice none 0 0]) W := run_build W _ _ _ (by kernel_rfl)
abbrev xu (e : zb) (t : Bool) (d : zb) (c l s : Value) : Obj := .cells #[.int .i64 e.bank, .int .u16 e.addr, .bool t, .int .i64 d.bank, .int .u16 d.addr, c, l, s] 50
abbrev rtnV (e : zb) (t : Bool) (d : zb) (c l s : Value) : Value := .agg #[.int .i64 e.bank, .int .u16 e.addr, .bool t, .int .i64 d.bank, .int .u16 d.addr, c, l, s]
structure RtV (I : zk) (B : Nat) (r : xc) (c l s : Value) (w : World) : Prop where
 oc : w.ownsRow B 55 9 c r.code.length (x9 I r.code)
 ol : w.ownsRow B 47 2 l r.calls.length (zp r.calls)
 oi : w.ownsRow B 58 3 s r.iss.length (yf r.iss)
def RtP (I : zk) (gk : Nat) (e : zb) (w : World) (en : Ending) (w' : World) : Prop := ∃ r c l s, en = .returned (rtnV e r.thunk r.dest c l s) ∧ yu I e r ∧ RtV I w.heap.size r c l s w' ∧ KnW I gk w' ∧ zg (fun k => k = gk) w w'
theorem kn_setCell {I : zk} {gk g i : Nat} {v : Value} {W : World} (h : KnW I gk W) (hne : gk ≠ g) : KnW I gk (W.setCell ⟨g, i, none⟩ v) := by
 obtain ⟨L, hL, hM⟩ := h
 exact ⟨L, by rw [heap_setCell_other hne]; exact hL, hM⟩
theorem kn_below {I : zk} {gk : Nat} {W W' : World} (h : KnW I gk W) (hb : Below W.heap.size W W') : KnW I gk W' := by
 obtain ⟨L, hL, hM⟩ := h
 exact ⟨L, za hb hL, hM⟩
theorem ym {W : World} {g b : Nat} {cs : Array Value} (hne : b ≠ g) : (W.setRow g cs).heap[b]? = W.heap[b]? := setRow_other W g b cs hne
theorem kn_setRow {I : zk} {gk g : Nat} {cs : Array Value} {W : World} (h : KnW I gk W) (hne : gk ≠ g) : KnW I gk (W.setRow g cs) := by
 obtain ⟨L, hL, hM⟩ := h
 exact ⟨L, by rw [ym hne]; exact hL, hM⟩
set_option maxRecDepth 100000 in
set_option maxHeartbeats 4000000 in
theorem routine_thunk (I : zk) (hI : I.Ok) (ba : Option Addr) (bc : Nat) (da : Option Addr) (dc : Nat) (ra : Option Addr) (rn rc gs gk : Nat) (e : zb) (p0 : 0 ≤ e.addr) (p1 : e.addr < 65536) (ht : yS I e) (w : World) (hS : ScnW I ba bc da dc ra rn rc gs gk w) (hgk : gk < w.heap.size) :
  Calls Tryz.prog 71 #[.pointer (some ⟨gs, 0, none⟩), .agg #[.int .i64 e.bank, .int .u16 e.addr]] w (RtP I gk e w) := by
 have HS := zh hS
 have HDC := zh (fun W hh => at_any I hI ba bc da dc ra rn rc gs gk e p0 p1 W hh)
 have HTH := zh ht
 have e1 : ((atI I e).2 == 0) = true := by have := ht.1; unfold okI at this; simpa using this
 have e2 : ((atI I e).1.op == 131) = true := by simpa using ht.2
 have hib := ins_bd ht.1
 have HTA := zh (fun W => target_any (atI I e).1 hib.1 e W)
 have HIT := zh (show itmL I e = itmL I e from rfl)
 have hbx := (Bx.four w (.cells #[.pointer (some ⟨gs, 0, none⟩)] 93) (zo e) (xu ⟨0, 0⟩ false ⟨0, 0⟩ (.slice none 0 0) (.slice none 0 0) (.slice none 0 0)) (xu e false ⟨0, 0⟩ (.slice none 0 0) (.slice none 0 0) (.slice none 0 0)))
 have HB := zh hbx
 have HB3 := zh (Bx.three w (.cells #[.pointer (some ⟨gs, 0, none⟩)] 93) (zo e) (xu ⟨0, 0⟩ false ⟨0, 0⟩ (.slice none 0 0) (.slice none 0 0) (.slice none 0 0)))
 unfold AtP at HDC
 generalize ha : atI I e = a at *
 have HAA := zh ha
 have hc1 := fun o => cell_of_row _ w.heap.size o _ _ _ hbx.b0
 clear hS ht ha hib hbx
 go_enter Tryz.func71, Tryz.ntmps71
 go_upto_region 3 with (first
  | (refine ldT 47 (HB3.out.b1) ?_)
  | (refine ldT 47 (HB.out.b1) ?_)
  | (refine stN ?_)
  | (go_at_call 93; (with_reducible refine (HDC.out _ (HS.out.below HB.out.bb)).mono ?_); rintro e2 w2 ⟨rfl, hk2, ht2⟩; have HK2 := zh hk2; have HT2 := zh ht2; clear hk2 ht2))
 (refine pts ?_)
 have hn : ∀ k, w.heap.size ≤ k → ¬ k = gk := fun k hk he => by omega
 have hw3 : Below w2.heap.size w2 (w2.alloc (fndB a)) := (Below.refl _ _).alloc (zn _) _
 have H1 := zh (za hw3 (HT2.out.heap HB.out.b1 (hn _ (by omega))))
 have H2 := zh (za hw3 (HT2.out.heap HB.out.b2 (hn _ (by omega))))
 have H3 := zh (za hw3 (HT2.out.heap HB.out.b3 (hn _ (by omega))))
 have hf3 : (w2.alloc (fndB a)).heap[w2.heap.size]? = some (fndB a) := heap_alloc_new _ _
 have HT3 : zg (fun k => k = gk) w (w2.alloc (fndB a)) := ((zg.ofBelow HB.out.bb).trans HT2.out (fun _ _ h => h)).trans (zg.ofBelow (bs := fun _ => False) hw3) (fun _ _ h => h.elim)
 have HK3 : KnW I gk (w2.alloc (fndB a)) := by
  obtain ⟨L, hL, hM⟩ := HK2.out
  exact ⟨L, za hw3 hL, hM⟩
 obtain ⟨w3, hw3e⟩ : ∃ w3, w2.alloc (fndB a) = w3 := ⟨_, rfl⟩
 rw [hw3e] at H1 H2 H3 hf3 HT3 HK3 ⊢
 have HF := zh hf3
 have HT3 := zh HT3
 have HK3 := zh HK3
 have HZ := zh (show w.heap.size + 4 ≤ w2.heap.size from Nat.le_trans HB.out.z HT2.out.size)
 clear hf3 hw3 hw3e HB HB3 HK2 HT2 HDC hc1
 have hc3 := fun o => cell_of_row w3 w2.heap.size o _ _ _ HF.out
 have hc4 := fun o => cell_of_row w3 (w.heap.size + 3) o _ _ _ H3.out
 have hf4 := fun o => frozen_of_row w3 (w.heap.size + 3) o _ _ H3.out
 go_upto_region 5 with fail
 clear hc3 hc4 hf4
 obtain ⟨w4, hw4⟩ : ∃ w4, w3.setCell ⟨w.heap.size + 3, 2, none⟩ (.bool true) = w4 := ⟨_, rfl⟩
 have hz := HZ.out
 have H1 : Hid (w4.heap[w.heap.size + 1]? = some (zo e)) := zh (by rw [← hw4, heap_setCell_other (by omega)]; exact H1.out)
 have H2 : Hid (w4.heap[w.heap.size + 2]? = some (xu ⟨0, 0⟩ false ⟨0, 0⟩ (.slice none 0 0) (.slice none 0 0) (.slice none 0 0))) := zh (by rw [← hw4, heap_setCell_other (by omega)]; exact H2.out)
 have HF : Hid (w4.heap[w2.heap.size]? = some (fndB a)) := zh (by rw [← hw4, heap_setCell_other (by omega)]; exact HF.out)
 have H3 : Hid (w4.heap[w.heap.size + 3]? = some (xu e true ⟨0, 0⟩ (.slice none 0 0) (.slice none 0 0) (.slice none 0 0))) := zh (by rw [← hw4]; exact heap_setCell_same H3.out (i := 2) (.bool true))
 have HT4 : Hid (zg (fun k => k = gk) w w4) := zh (by rw [← hw4]; exact HT3.out.setCell _ (fun h => by omega))
 have HK4 : Hid (KnW I gk w4) := zh (by rw [← hw4]; exact kn_setCell HK3.out (by omega))
 rw [hw4]
 clear hw4 hz HT3 HK3
 have hc3 := fun o => cell_of_row w4 w2.heap.size o _ _ _ HF.out
 generalize hT : zU a.1 e = T at *
 have HTE := zh hT
 clear hT
 go_upto_region 6 with (first
  | (refine ldT 47 (H1.out) ?_)
  | (refine wpList_store_at rfl _ _ _ rfl _ _ (by rfl) _ (by rfl) _ _ (H35.out) _ (by rfl) ?_ ?_ ?_ (#[.int .i64 e.bank, .int .u16 e.addr, .bool true, .int .i64 T.1.bank, .int .u16 T.1.addr, .slice none 0 0, .slice none 0 0, .slice none 0 0]) (by rfl) ?_; rfl; kernel_rfl; kernel_rfl)
  | (go_at_call 94; (with_reducible refine (HTA.out _).mono ?_); rintro e5 w5 ⟨rfl, hb5⟩; have HB5 := zh hb5; have H35 := zh (za hb5 H3.out); clear hb5))
 clear hc3
 have hz := HZ.out
 have hb5s := HB5.out.size
 obtain ⟨w6, hw6⟩ : ∃ w6, w5.setRow (w.heap.size + 3) #[.int .i64 e.bank, .int .u16 e.addr, .bool true, .int .i64 T.1.bank, .int .u16 T.1.addr, .slice none 0 0, .slice none 0 0, .slice none 0 0] = w6 := ⟨_, rfl⟩
 have h4 := HT4.out.size
 have hz4 : w2.heap.size < w4.heap.size := (Array.getElem?_eq_some_iff.1 HF.out).1
 have H1 : Hid (w6.heap[w.heap.size + 1]? = some (zo e)) := zh (by rw [← hw6, ym (by omega)]; exact za HB5.out H1.out)
 have H2 : Hid (w6.heap[w.heap.size + 2]? = some (xu ⟨0, 0⟩ false ⟨0, 0⟩ (.slice none 0 0) (.slice none 0 0) (.slice none 0 0))) := zh (by rw [← hw6, ym (by omega)]; exact za HB5.out H2.out)
 have HF : Hid (w6.heap[w2.heap.size]? = some (fndB a)) := zh (by rw [← hw6, ym (by omega)]; exact za HB5.out HF.out)
 have H3 : Hid (w6.heap[w.heap.size + 3]? = some (xu e true T.1 (.slice none 0 0) (.slice none 0 0) (.slice none 0 0))) := zh (by rw [← hw6]; exact setRow_heap _ _ _ _ _ _ H35.out)
 have HT6 : Hid (zg (fun k => k = gk) w w6) := zh (by rw [← hw6]; exact (HT4.out.trans (zg.ofBelow (bs := fun _ => False) HB5.out) (fun _ _ h => h.elim)).setRow _ (fun h => by omega))
 have HK6 : Hid (KnW I gk w6) := zh (by rw [← hw6]; exact kn_setRow (kn_below HK4.out HB5.out) (by omega))
 have HZ6 : Hid (w.heap.size + 4 ≤ w6.heap.size) := zh (by have := (Array.getElem?_eq_some_iff.1 HF.out).1; omega)
 rw [hw6]
 clear hw6 HT4 HK4 HB5 H35 h4 hz4 hb5s
 have hc6 := fun o => cell_of_row w6 w2.heap.size o _ _ _ HF.out
 have hb7 : Below w6.heap.size w6 (w6.alloc (itmB e a.1)) := (Below.refl _ _).alloc (zn _) _
 have H37 := zh (za hb7 H3.out)
 have hc7 := fun o => cell_of_row _ (w.heap.size + 3) o _ _ _ H37.out
 have hf7 := fun o => frozen_of_row _ (w.heap.size + 3) o _ _ H37.out
 go_upto_region 7 with (first
  | (refine ldT 47 (H1.out) ?_))
 have HB7 := zh hb7
 clear hc6 hb7 hc7 hf7
 have hz6 := HZ6.out
 obtain ⟨w8, hw8⟩ : ∃ w8, (w6.alloc (itmB e a.1)).setCell ⟨w.heap.size + 3, 5, none⟩ (.slice (some ⟨w6.heap.size, 0, none⟩) 1 1) = w8 := ⟨_, rfl⟩
 have H2 : Hid (w8.heap[w.heap.size + 2]? = some (xu ⟨0, 0⟩ false ⟨0, 0⟩ (.slice none 0 0) (.slice none 0 0) (.slice none 0 0))) := zh (by rw [← hw8, heap_setCell_other (by omega)]; exact za HB7.out H2.out)
 have H3 : Hid (w8.heap[w.heap.size + 3]? = some (xu e true T.1 (.slice (some ⟨w6.heap.size, 0, none⟩) 1 1) (.slice none 0 0) (.slice none 0 0))) := zh (by rw [← hw8]; exact heap_setCell_same H37.out (i := 5) _)
 have HN : Hid (w8.heap[w6.heap.size]? = some (itmB e a.1)) := zh (by rw [← hw8, heap_setCell_other (by omega)]; exact heap_alloc_new _ _)
 have HT8 : Hid (zg (fun k => k = gk) w w8) := zh (by rw [← hw8]; exact (HT6.out.trans (zg.ofBelow (bs := fun _ => False) HB7.out) (fun _ _ h => h.elim)).setCell _ (fun h => by omega))
 have HK8 : Hid (KnW I gk w8) := zh (by rw [← hw8]; exact kn_setCell (kn_below HK6.out HB7.out) (by omega))
 rw [hw8]
 clear hw8 HT6 HK6 HB7 H37 H1 HF
 go_wp2_with (first
  | (refine ldT 50 (H3.out) ?_)
  | (refine stR (H2.out) ?_))
 refine bodyPost_ret (results_cell_row (cs := #[.int .i64 e.bank, .int .u16 e.addr, .bool true, .int .i64 T.1.bank, .int .u16 T.1.addr, .slice (some ⟨w6.heap.size, 0, none⟩) 1 1, .slice none 0 0, .slice none 0 0]) (fr := (0, 0)) Tryz.results71 _ _ (w.heap.size + 2) 50 _ ?_ (setRow_heap _ _ _ _ _ _ H2.out) Tryz.underlying50 rfl (by kernel_rfl)) rfl ?_
 ·rfl
 ·refine ⟨⟨e, true, T.1, [e], [], []⟩, _, _, _, rfl, ?_, ⟨?_, World.ownsRow_nil _ _ _ _, World.ownsRow_nil _ _ _ _⟩, kn_setRow HK8.out (by omega), HT8.out.setRow _ (fun h => by omega)⟩
  ·have h := yu.ofThunk HTH.out
   rwa [HAA.out, HTE.out] at h
  ·refine ⟨rfl, .inr ⟨w6.heap.size, 1, #[.int .i64 e.bank, .int .u16 e.addr, .int .i64 a.1.op, .int .i64 a.1.d, .int .i64 a.1.s, .int .u16 a.1.imm, .int .u16 a.1.aux, .int .i64 a.1.bank, .int .i64 a.1.size], rfl, by omega, ?_, zn _, by decide, ?_, ?_⟩⟩
   ·rw [ym (by omega)]; exact HN.out
   ·rfl
   ·show _ = itmL I e ++ []
    unfold itmL
    rw [HAA.out]
    rfl
end Go.Proofs.YteofmaiojepdkaaGreat
namespace Go.Proofs.YteofmaiojepdkaaGreat
structure RtC (I : zk) (D cd C : List zb) (iss : List zM) : Prop where
 cd : cd = D.filter fun p => decide (okI I p)
 cl : ∀ q, q ∈ C ↔ ∃ p, p ∈ D ∧ okI I p ∧ q ∈ (fl I p).cl
 mi : ∀ x : zM, x ∈ iss ↔ x.at_ ∈ D ∧ ((¬ okI I x.at_ ∧ x.kind = (atI I x.at_).2) ∨ (okI I x.at_ ∧ x.kind ∈ (fl I x.at_).iss))
 ni : iss.Nodup
 ln : iss.length ≤ 3 * D.length
theorem RtC.start (I : zk) : RtC I [] [] [] [] := ⟨rfl, by simp, by simp, List.nodup_nil, by simp⟩
section
variable {I : zk} {D cd C : List zb} {iss : List zM} (h : RtC I D cd C iss) {p : zb} (hp : p ∉ D)
include h hp
theorem RtC.no (hn : ¬ okI I p) : RtC I (D ++ [p]) cd C (iss ++ [⟨(atI I p).2, p⟩]) := by
 refine ⟨?_, fun q => ?_, fun x => ?_, ?_, ?_⟩
 ·rw [List.filter_append, h.cd]; simp [hn]
 ·rw [h.cl]
  constructor
  ·rintro ⟨r, h1, h2⟩; exact ⟨r, by simp [h1], h2⟩
  ·rintro ⟨r, h1, h2, h3⟩
   rcases List.mem_append.1 h1 with h1 | h1
   ·exact ⟨r, h1, h2, h3⟩
   ·rw [List.mem_singleton.1 h1] at h2; exact absurd h2 hn
 ·rw [List.mem_append, h.mi, List.mem_singleton, List.mem_append, List.mem_singleton]
  constructor
  ·rintro (⟨h1, h2⟩ | rfl)
   ·exact ⟨.inl h1, h2⟩
   ·exact ⟨.inr rfl, .inl ⟨hn, rfl⟩⟩
  ·rintro ⟨h1 | h1, h2⟩
   ·exact .inl ⟨h1, h2⟩
   ·rw [h1] at h2
    rcases h2 with ⟨-, h2⟩ | ⟨h2, -⟩
    ·exact .inr (zM.ext' h2 h1)
    ·exact absurd h2 hn
 ·refine List.nodup_append.2 ⟨h.ni, by simp, fun a ha b hb e => ?_⟩
  rw [List.mem_singleton.1 hb] at e
  subst e
  exact hp ((h.mi _).1 ha).1
 ·have := h.ln; simp; omega
theorem RtC.yes (hy : okI I p) {m : List zM} {C' : List zb} (hC : ∀ q, q ∈ C' ↔ q ∈ C ∨ q ∈ (fl I p).cl) (hn : m.Nodup) (hm : ∀ x : zM, x ∈ m ↔ x.at_ = p ∧ x.kind ∈ (fl I p).iss) (h3 : m.length ≤ 3) : RtC I (D ++ [p]) (cd ++ [p]) C' (iss ++ m) := by
 refine ⟨?_, fun q => ?_, fun x => ?_, ?_, ?_⟩
 ·rw [List.filter_append, h.cd]; simp [hy]
 ·rw [hC, h.cl]
  constructor
  ·rintro (⟨r, h1, h2⟩ | h1)
   ·exact ⟨r, by simp [h1], h2⟩
   ·exact ⟨p, by simp, hy, h1⟩
  ·rintro ⟨r, h1, h2, h3⟩
   rcases List.mem_append.1 h1 with h1 | h1
   ·exact .inl ⟨r, h1, h2, h3⟩
   ·rw [List.mem_singleton.1 h1] at h3; exact .inr h3
 ·rw [List.mem_append, h.mi, hm, List.mem_append, List.mem_singleton]
  constructor
  ·rintro (⟨h1, h2⟩ | ⟨h1, h2⟩)
   ·exact ⟨.inl h1, h2⟩
   ·exact ⟨.inr h1, .inr ⟨by rw [h1]; exact hy, by rw [h1]; exact h2⟩⟩
  ·rintro ⟨h1 | h1, h2⟩
   ·exact .inl ⟨h1, h2⟩
   ·rw [h1] at h2
    rcases h2 with ⟨h2, -⟩ | ⟨-, h2⟩
    ·exact absurd hy h2
    ·exact .inr ⟨h1, h2⟩
 ·refine List.nodup_append.2 ⟨h.ni, hn, fun a ha b hb e => ?_⟩
  subst e
  have h1 := ((h.mi _).1 ha).1
  rw [((hm _).1 hb).1] at h1
  exact hp h1
 ·have := h.ln; simp; omega
end
end Go.Proofs.YteofmaiojepdkaaGreat
