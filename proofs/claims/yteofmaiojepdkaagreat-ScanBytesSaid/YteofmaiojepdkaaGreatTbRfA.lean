/- The reference of chapter 05: Flow.to, Flow.table, walked. Condition: addresses are words; the image's banks have 4096 bytes. -/
import Derived.Test.YteofmaiojepdkaaGreatTbRpR
set_option linter.all false
namespace Go.Proofs.YteofmaiojepdkaaGreat
open Go Go.RowKit Go.Maps Go.Sort
theorem infoErr : (Tryz.prog.info? 56).map (fun i => (i.zero, i.size, i.bytes)) = some (some (.int .i64 0), 1, 8) := by kernel_rfl
def errL (l : List Int) : List Value := l.map fun e => Value.int .i64 e
theorem xw {w : World} {B s n B' s' n' : Nat} {T U : TypeId} {v v' : Value} {xs xs' : List Value} (h : w.ownsRow B T s v n xs) (h' : w.ownsRow B' U s' v' n' xs') (hT : T ≠ U) : v.ownBlock = none ∨ v.ownBlock ≠ v'.ownBlock := by
 cases hv : v.ownBlock with
 | none => exact .inl rfl
 | some k =>
  refine .inr fun e => ?_
  obtain ⟨-, c, h1⟩ := zz h k hv
  obtain ⟨-, c', h2⟩ := zz h' k e.symm
  rw [h1] at h2
  injection h2 with h2
  injection h2 with h2 h3
  exact hT h3
structure yY (B : Nat) (f : zO) (gf : Nat) (vn vc vi vt : Value) (W : World) : Prop where
 blk : W.heap[gf]? = some (.cells #[vn, vc, vi, vt] 62 (0, 0))
 oi : W.ownsRow B 56 1 vi f.iss.length (errL f.iss)
 on : W.ownsRow B 47 2 vn f.nx.length (zp f.nx)
 oc : W.ownsRow B 47 2 vc f.cl.length (zp f.cl)
 ot : W.ownsRow B 47 2 vt f.tb.length (zp f.tb)
 d1 : ∀ k, vn.ownBlock = some k → vc.ownBlock ≠ some k ∧ vt.ownBlock ≠ some k
 d2 : ∀ k, vc.ownBlock = some k → vt.ownBlock ≠ some k
 bf : B ≤ gf
def flwB (gf : Nat) (vn vc vi vt : Value) (j : Nat) : Prop := j = gf ∨ vn.ownBlock = some j ∨ vc.ownBlock = some j ∨ vi.ownBlock = some j ∨ vt.ownBlock = some j
def FlwP (B : Nat) (f : zO) (gf : Nat) (vn vc vi vt : Value) (w : World) (e : Ending) (w' : World) : Prop := e = .returned (.tuple #[]) ∧ ∃ un uc ui ut, yY B f gf un uc ui ut w' ∧ (∀ j, flwB gf un uc ui ut j → flwB gf vn vc vi vt j ∨ w.heap.size ≤ j) ∧ zg (flwB gf vn vc vi vt) w w'
section
variable {B : Nat} {f : zO} {gf : Nat} {vn vc vi vt : Value} {w w' : World}
theorem yY.below (h : yY B f gf vn vc vi vt w) (hb : Below w.heap.size w w') : yY B f gf vn vc vi vt w' :=
 ⟨za hb h.blk, zi h.oi (zg.ofBelow (bs := fun _ => False) hb) (fun _ _ e => e), zi h.on (zg.ofBelow (bs := fun _ => False) hb) (fun _ _ e => e), zi h.oc (zg.ofBelow (bs := fun _ => False) hb) (fun _ _ e => e), zi h.ot (zg.ofBelow (bs := fun _ => False) hb) (fun _ _ e => e), h.d1, h.d2, h.bf⟩
theorem yY.rows (h : yY B f gf vn vc vi vt w) {j : Nat} (hj : flwB gf vn vc vi vt j) : B ≤ j ∧ j < w.heap.size := by
 rcases hj with rfl | hj | hj | hj | hj
 ·exact ⟨h.bf, (Array.getElem?_eq_some_iff.1 h.blk).1⟩
 ·exact h.on.lt j hj
 ·exact h.oc.lt j hj
 ·exact h.oi.lt j hj
 ·exact h.ot.lt j hj
theorem yY.turnB (h : yY B f gf vn vc vi vt w) (t : zg (flwB gf vn vc vi vt) w w') (hB : B ≤ w.heap.size) : Below B w w' := t.toBelow hB (fun _ hk => (h.rows hk).1)
theorem yY.same (h : yY B f gf vn vc vi vt w) {f' : zO} (h1 : f'.nx = f.nx) (h2 : f'.cl = f.cl) (h3 : f'.tb = f.tb) (h4 : f'.iss = f.iss) : yY B f' gf vn vc vi vt w :=
 ⟨h.blk, by rw [h4]; exact h.oi, by rw [h1]; exact h.on, by rw [h2]; exact h.oc, by rw [h3]; exact h.ot, h.d1, h.d2, h.bf⟩
theorem yY.issue (h : yY B f gf vn vc vi vt w) {v' : Value} {f' : zO} (hb : Below w.heap.size w w') (ho : w'.ownsRow w.heap.size 56 1 v' f'.iss.length (errL f'.iss)) (hB : B ≤ w.heap.size)
  (h1 : f'.nx = f.nx) (h2 : f'.cl = f.cl) (h3 : f'.tb = f.tb) : yY B f' gf vn vc v' vt (w'.setCell ⟨gf, 2, none⟩ v') := by
 have hw := h.below hb
 have hst : ∀ {T : TypeId} {s : Nat} {v : Value} {n : Nat} {xs : List Value}, w'.ownsRow B T s v n xs → (hT : 62 ≠ T := by decide) → (w'.setCell ⟨gf, 2, none⟩ v').ownsRow B T s v n xs := fun ho hT => zi ho ((zg.refl (fun k => k = gf) w').setCell _ (fun _ => rfl)) (ye ho hw.blk (fun _ _ => zm hT))
 refine ⟨?_, hst (ho.mono hB), by rw [h1]; exact hst hw.on, by rw [h2]; exact hst hw.oc, by rw [h3]; exact hst hw.ot, h.d1, h.d2, h.bf⟩
 have := heap_setCell_same hw.blk (i := 2) v'
 rw [this]
 rfl
theorem yY.next {wa w1 : World} {v' : Value} {ps : List zb} (h : yY B f gf vn vc vi vt w) (hb : Below w.heap.size w wa) (ho : w1.ownsRow B 47 2 v' (f.nx.length + ps.length) (zp f.nx ++ zp ps)) (hg : wa.grownBy w1 vn.ownBlock) (hv : v'.ownBlock = vn.ownBlock ∨ v'.ownBlock = some wa.heap.size) :
  yY B { f with nx := f.nx ++ ps } gf v' vc vi vt (w1.setCell ⟨gf, 0, none⟩ v') ∧ w1.heap[gf]? = some (.cells #[vn, vc, vi, vt] 62 (0, 0)) := by
 have h1 := h.below hb
 have hbl : w1.heap[gf]? = some (.cells #[vn, vc, vi, vt] 62 (0, 0)) := jd h1.on hg h1.blk (by decide)
 have k_oc : w1.ownsRow B 47 2 vc f.cl.length (zp f.cl) := h1.oc.kept hg (by
  cases hk : vc.ownBlock with
  | none => exact .inl rfl
  | some k => exact .inr fun e => (h.d1 k e.symm).1 hk)
 have k_ot : w1.ownsRow B 47 2 vt f.tb.length (zp f.tb) := h1.ot.kept hg (by
  cases hk : vt.ownBlock with
  | none => exact .inl rfl
  | some k => exact .inr fun e => (h.d1 k e.symm).2 hk)
 have k_oi : w1.ownsRow B 56 1 vi f.iss.length (errL f.iss) := h1.oi.kept hg (xw h1.oi h1.on (by decide))
 have hst : ∀ {T : TypeId} {s : Nat} {v : Value} {n : Nat} {xs : List Value}, w1.ownsRow B T s v n xs → (hT : 62 ≠ T := by decide) → (w1.setCell ⟨gf, 0, none⟩ v').ownsRow B T s v n xs := fun ho hT => zi ho ((zg.refl (fun k => k = gf) w1).setCell _ (fun _ => rfl)) (ye ho hbl (fun _ _ => zm hT))
 refine ⟨⟨?_, hst k_oi, by rw [xx, List.length_append]; exact hst ho, hst k_oc, hst k_ot, fun k hk => hv.elim (fun e => h.d1 k (e ▸ hk)) (fun e => by
  rw [e] at hk
  injection hk with hk
  subst hk
  exact ⟨fun e2 => by have := (h.oc.lt _ e2).2; have := hb.size; omega, fun e2 => by have := (h.ot.lt _ e2).2; have := hb.size; omega⟩), h.d2, h.bf⟩, hbl⟩
 ·have := heap_setCell_same hbl (i := 0) v'
  rw [this]
  rfl
theorem yY.call {wa w1 : World} {v' : Value} {ps : List zb} (h : yY B f gf vn vc vi vt w) (hb : Below w.heap.size w wa) (ho : w1.ownsRow B 47 2 v' (f.cl.length + ps.length) (zp f.cl ++ zp ps)) (hg : wa.grownBy w1 vc.ownBlock) (hv : v'.ownBlock = vc.ownBlock ∨ v'.ownBlock = some wa.heap.size) :
  yY B { f with cl := f.cl ++ ps } gf vn v' vi vt (w1.setCell ⟨gf, 1, none⟩ v') ∧ w1.heap[gf]? = some (.cells #[vn, vc, vi, vt] 62 (0, 0)) := by
 have h1 := h.below hb
 have hbl : w1.heap[gf]? = some (.cells #[vn, vc, vi, vt] 62 (0, 0)) := jd h1.oc hg h1.blk (by decide)
 have k_on : w1.ownsRow B 47 2 vn f.nx.length (zp f.nx) := h1.on.kept hg (by
  cases hk : vn.ownBlock with
  | none => exact .inl rfl
  | some k => exact .inr fun e => (h.d1 k hk).1 e.symm)
 have k_ot : w1.ownsRow B 47 2 vt f.tb.length (zp f.tb) := h1.ot.kept hg (by
  cases hk : vt.ownBlock with
  | none => exact .inl rfl
  | some k => exact .inr fun e => h.d2 k e.symm hk)
 have k_oi : w1.ownsRow B 56 1 vi f.iss.length (errL f.iss) := h1.oi.kept hg (xw h1.oi h1.oc (by decide))
 have hst : ∀ {T : TypeId} {s : Nat} {v : Value} {n : Nat} {xs : List Value}, w1.ownsRow B T s v n xs → (hT : 62 ≠ T := by decide) → (w1.setCell ⟨gf, 1, none⟩ v').ownsRow B T s v n xs := fun ho hT => zi ho ((zg.refl (fun k => k = gf) w1).setCell _ (fun _ => rfl)) (ye ho hbl (fun _ _ => zm hT))
 refine ⟨⟨?_, hst k_oi, hst k_on, by rw [xx, List.length_append]; exact hst ho, hst k_ot, fun k hk => ⟨fun e2 => hv.elim (fun e => (h.d1 k hk).1 (e ▸ e2)) (fun e => by
  rw [e] at e2
  injection e2 with e2
  subst e2
  have := (h.on.lt _ hk).2; have := hb.size; omega), (h.d1 k hk).2⟩, fun k hk => hv.elim (fun e => h.d2 k (e ▸ hk)) (fun e e2 => by
  rw [e] at hk
  injection hk with hk
  subst hk
  have := (h.ot.lt _ e2).2; have := hb.size; omega), h.bf⟩, hbl⟩
 ·have := heap_setCell_same hbl (i := 1) v'
  rw [this]
  rfl
theorem yY.table {wa w1 : World} {v' : Value} {ps : List zb} (h : yY B f gf vn vc vi vt w) (hb : Below w.heap.size w wa) (ho : w1.ownsRow B 47 2 v' (f.tb.length + ps.length) (zp f.tb ++ zp ps)) (hg : wa.grownBy w1 vt.ownBlock) (hv : v'.ownBlock = vt.ownBlock ∨ v'.ownBlock = some wa.heap.size) :
  yY B { f with tb := f.tb ++ ps } gf vn vc vi v' (w1.setCell ⟨gf, 3, none⟩ v') ∧ w1.heap[gf]? = some (.cells #[vn, vc, vi, vt] 62 (0, 0)) := by
 have h1 := h.below hb
 have hbl : w1.heap[gf]? = some (.cells #[vn, vc, vi, vt] 62 (0, 0)) := jd h1.ot hg h1.blk (by decide)
 have k_on : w1.ownsRow B 47 2 vn f.nx.length (zp f.nx) := h1.on.kept hg (by
  cases hk : vn.ownBlock with
  | none => exact .inl rfl
  | some k => exact .inr fun e => (h.d1 k hk).2 e.symm)
 have k_oc : w1.ownsRow B 47 2 vc f.cl.length (zp f.cl) := h1.oc.kept hg (by
  cases hk : vc.ownBlock with
  | none => exact .inl rfl
  | some k => exact .inr fun e => h.d2 k hk e.symm)
 have k_oi : w1.ownsRow B 56 1 vi f.iss.length (errL f.iss) := h1.oi.kept hg (xw h1.oi h1.ot (by decide))
 have hst : ∀ {T : TypeId} {s : Nat} {v : Value} {n : Nat} {xs : List Value}, w1.ownsRow B T s v n xs → (hT : 62 ≠ T := by decide) → (w1.setCell ⟨gf, 3, none⟩ v').ownsRow B T s v n xs := fun ho hT => zi ho ((zg.refl (fun k => k = gf) w1).setCell _ (fun _ => rfl)) (ye ho hbl (fun _ _ => zm hT))
 refine ⟨⟨?_, hst k_oi, hst k_on, hst k_oc, by rw [xx, List.length_append]; exact hst ho, fun k hk => ⟨(h.d1 k hk).1, fun e2 => hv.elim (fun e => (h.d1 k hk).2 (e ▸ e2)) (fun e => by
  rw [e] at e2
  injection e2 with e2
  subst e2
  have := (h.on.lt _ hk).2; have := hb.size; omega)⟩, fun k hk e2 => hv.elim (fun e => h.d2 k hk (e ▸ e2)) (fun e => by
  rw [e] at e2
  injection e2 with e2
  subst e2
  have := (h.oc.lt _ hk).2; have := hb.size; omega), h.bf⟩, hbl⟩
 ·have := heap_setCell_same hbl (i := 3) v'
  rw [this]
  rfl
end
def stI (e : Int) (l : List Int) : Nat → List Int × Bool
 | 0 => ([], false)
 | m + 1 => match l[m]? with
  | some x => if (stI e l m).2 = false ∧ e < x then ((stI e l m).1 ++ [e] ++ [x], true) else ((stI e l m).1 ++ [x], (stI e l m).2)
  | none => stI e l m
def insE (e : Int) (l : List Int) : List Int := if e ∈ l then l else if (stI e l l.length).2 = true then (stI e l l.length).1 else (stI e l l.length).1 ++ [e]
theorem stI_put {e x : Int} {l : List Int} {m : Nat} (hx : l[m]? = some x) (h : (stI e l m).2 = false) (h2 : e < x) : stI e l (m + 1) = ((stI e l m).1 ++ [e] ++ [x], true) := by
 rw [stI, hx]
 dsimp only
 rw [if_pos ⟨h, h2⟩]
theorem stI_skip {e x : Int} {l : List Int} {m : Nat} (hx : l[m]? = some x) (h : (stI e l m).2 = true ∨ ¬ e < x) : stI e l (m + 1) = ((stI e l m).1 ++ [x], (stI e l m).2) := by
 rw [stI, hx]
 dsimp only
 rw [if_neg]
 rintro ⟨h1, h2⟩
 rcases h with h | h
 ·rw [h1] at h; cases h
 ·exact h h2
theorem stI_len (e : Int) (l : List Int) : ∀ m, (stI e l m).1.length ≤ 2 * m
 | 0 => zn _
 | m + 1 => by
  have := stI_len e l m
  rw [stI]
  split
  ·split
   ·simp only [List.length_append, List.length_cons, List.length_nil]; omega
   ·simp only [List.length_append, List.length_cons, List.length_nil]; omega
  ·omega
theorem iss_len (f : zO) : f.iss.length ≤ 3 := by unfold zO.iss; cases f.xt <;> cases f.xb <;> cases f.xe <;> decide
theorem ins_bank (f : zO) : ({ f with xb := true } : zO).iss = insE 42 f.iss := by
 obtain ⟨nx, cl, tb, xe, xb, xt⟩ := f
 cases xt <;> cases xb <;> cases xe <;> rfl
theorem ins_table (f : zO) : ({ f with xt := true } : zO).iss = insE 41 f.iss := by
 obtain ⟨nx, cl, tb, xe, xb, xt⟩ := f
 cases xt <;> cases xb <;> cases xe <;> rfl
theorem ins_exit (f : zO) : ({ f with xe := true } : zO).iss = insE 45 f.iss := by
 obtain ⟨nx, cl, tb, xe, xb, xt⟩ := f
 cases xt <;> cases xb <;> cases xe <;> rfl
theorem row_iss {gf n : Nat} {vn vc vi vt v' : Value} (h : ∀ k, v'.ownBlock = some k → n ≤ k) : ∀ j, flwB gf vn vc v' vt j → flwB gf vn vc vi vt j ∨ n ≤ j := fun j hj => by
 rcases hj with hj | hj | hj | hj | hj
 ·exact .inl (.inl hj)
 ·exact .inl (.inr (.inl hj))
 ·exact .inl (.inr (.inr (.inl hj)))
 ·exact .inr (h j hj)
 ·exact .inl (.inr (.inr (.inr (.inr hj))))
abbrev errB (e : Int) : Obj := .cells #[.int .i64 e] 56
set_option maxRecDepth 100000 in
set_option maxHeartbeats 4000000 in
theorem jj (B : Nat) (f f' : zO) (e : Int) (gf : Nat) (w : World) (vn vc vi vt : Value) (h : yY B f gf vn vc vi vt w) (hB : B ≤ w.heap.size) (h1 : f'.nx = f.nx) (h2 : f'.cl = f.cl) (h3 : f'.tb = f.tb) (h4 : f'.iss = insE e f.iss) :
  Calls Tryz.prog 51 #[.pointer (some ⟨gf, 0, none⟩), .int .i64 e] w (FlwP B f' gf vn vc vi vt w) := by
 have H := zh h
 have HE := zh (And.intro h1 (And.intro h2 (And.intro h3 h4)))
 have HL := zh (iss_len f)
 have HVI := zh h.oi
 obtain ⟨A, c, rfl, -⟩ := zt h.oi
 have hcap := (yd h.oi).le
 clear h h1 h2 h3 h4
 have hc0 := fun o => cell_of_row w gf o _ _ _ H.out.blk
 go_enter Tryz.func51, Tryz.ntmps51
 go_wp2_with fail
 clear hc0
 go_loopw [4, 5, 6] (fun v d i wr => ∃ m : Nat, m ≤ f.iss.length ∧ d = .bool (stI e f.iss m).2 ∧ i = .int .i64 m ∧ Hid (e ∉ f.iss.take m) ∧ Hid (wr.ownsRow w.heap.size 56 1 v (stI e f.iss m).1.length (errL (stI e f.iss m).1)) ∧ Hid (Below w.heap.size w wr)) (fun v d i _ => f.iss.length - (intOf i).toNat)
 case atStart => exact ⟨0, Nat.zero_le _, rfl, rfl, zh (by simp), zh (World.ownsRow_nil _ _ _ _), zh (Below.refl _ _)⟩
 case round =>
  obtain ⟨m, hm, rfl, rfl, HN, HO, HB⟩ := hrel
  have hc := fun o => cell_of_row wr gf o _ _ _ (za HB.out H.out.blk)
  have hsl := stI_len e f.iss m
  have HSL := zh (show (stI e f.iss m).1.length ≤ 6 by have := HL.out; omega)
  by_cases hlt : m < f.iss.length
  ·obtain ⟨x, hx⟩ : ∃ x, f.iss[m]? = some x := ⟨_, List.getElem?_eq_getElem hlt⟩
   have hrd := (yd HVI.out).at_ (by omega)
   obtain ⟨g1, o1, cur1, T1, fr1, rfl, hg1, hex1⟩ := hrd
   have hxw : ∀ W, Below w.heap.size w W → W.cell? ⟨g1, o1 + m, none⟩ = some (.int .i64 x) := fun W hW => by
    rw [cell_of_row _ _ _ _ _ _ (za hW hg1), hex1 m (by simp [errL]; omega)]
    unfold errL
    rw [List.getElem?_map, hx]
    rfl
   have hx1 := hxw wr HB.out
   have HXW := zh hxw
   have HX := zh hx
   have HLT := zh hlt
   have hm3 : m ≤ 3 := by have := HL.out; omega
   clear hg1 hex1 hx hsl hxw
   by_cases he : x = e
   ·subst he
    have HM := zh (show x ∈ f.iss from List.mem_of_getElem? HX.out)
    go_wp2_with fail
    go_end0
    exact ⟨rfl, _, _, _, _, (H.out.below HB.out).same HE.out.1 HE.out.2.1 HE.out.2.2.1 (by rw [HE.out.2.2.2]; unfold insE; rw [if_pos HM.out]), fun j hj => .inl hj, zg.ofBelow HB.out⟩
   ·have hbe : (x == e) = false := by simpa using he
    have HNE := zh he
    clear he
    have HOa := zh (HO.out.alloc (errB x))
    have HBa := zh (HB.out.alloc HB.out.size (errB x))
    cases hD : (stI e f.iss m).2 with
    | true =>
     have HS := zh (stI_skip HX.out (.inl hD))
     have HDD := zh hD
     clear hD
     go_wp2_with (first
      | (refine zJ (.tmp 42) (.tmp 50) 60 56 rfl 1 8 _ infoErr Tryz.underlying60 rfl (by decide) (by decide) w.heap.size HBa.out.size u4 (stI e f.iss m).1.length (errL (stI e f.iss m).1) rfl HOa.out (by have := HSL.out; omega) wr.heap.size 1 _ _ _ rfl (heap_alloc_new wr _) rfl rfl (by decide) (by decide) rfl ?_
         intro ga6 cp6 w6 ho6 hg6 hv6
         have HB6 := zh (HBa.out.grown hg6 HBa.out.size (fun k hk => (HOa.out.lt k hk).1))
         have HO6 := zh ho6
         clear ho6 hg6 hv6))
     go_roundw
     case rel => exact ⟨m + 1, HLT.out, by rw [HS.out, HDD.out], by go_num, zh (by rw [y2 HX.out]; exact fun h => h.elim HN.out fun e => HNE.out e.symm), zh (by rw [HS.out]; simpa [errL] using HO6.out), HB6⟩
     case measure => have h1 := HLT.out; simp [intOf]; omega
    | false =>
     by_cases hex : e < x
     ·have HS := zh (stI_put HX.out hD hex)
      have HOe := zh (HO.out.alloc (errB e))
      have HBe := zh (HB.out.alloc HB.out.size (errB e))
      clear hD
      go_wp2_with (first
       | (refine zJ (.tmp 38) (.tmp 40) 60 56 rfl 1 8 _ infoErr Tryz.underlying60 rfl (by decide) (by decide) w.heap.size HBe.out.size u4 (stI e f.iss m).1.length (errL (stI e f.iss m).1) rfl HOe.out (by have := HSL.out; omega) wr.heap.size 1 _ _ _ rfl (heap_alloc_new wr _) rfl rfl (by decide) (by decide) rfl ?_
          intro ga7 cp7 w7 ho7 hg7 hv7
          have HB7 := zh (HBe.out.grown hg7 HBe.out.size (fun k hk => (HOe.out.lt k hk).1))
          have HO7 := zh ho7
          clear ho7 hg7 hv7
          have HO7x := zh (HO7.out.alloc (errB x))
          have HB7x := zh (HB7.out.alloc HB7.out.size (errB x))
          have hc7 := fun o => cell_of_row w7 gf o _ _ _ (za HB7.out H.out.blk)
          have hx7 := HXW.out w7 HB7.out)
       | (refine zJ (.tmp 42) (.tmp 50) 60 56 rfl 1 8 _ infoErr Tryz.underlying60 rfl (by decide) (by decide) w.heap.size HB7x.out.size (.slice (some ⟨ga7, 0, none⟩) ((stI e f.iss m).1.length + 1) cp7) ((stI e f.iss m).1.length + 1) (errL (stI e f.iss m).1 ++ [.int .i64 e]) rfl HO7x.out (by have := HSL.out; omega) w7.heap.size 1 _ _ _ rfl (heap_alloc_new w7 _) rfl rfl (by decide) (by decide) rfl ?_
          intro ga8 cp8 w8 ho8 hg8 hv8
          have HB8 := zh (HB7x.out.grown hg8 HB7x.out.size (fun k hk => (HO7x.out.lt k hk).1))
          have HO8 := zh ho8
          clear ho8 hg8 hv8))
      go_roundw
      case rel => exact ⟨m + 1, HLT.out, by rw [HS.out], by go_num, zh (by rw [y2 HX.out]; exact fun h => h.elim HN.out fun e => HNE.out e.symm), zh (by rw [HS.out]; simpa [errL] using HO8.out), HB8⟩
      case measure => have h1 := HLT.out; simp [intOf]; omega
     ·have HS := zh (stI_skip HX.out (.inr hex))
      have HDD := zh hD
      clear hD
      go_wp2_with (first
       | (refine zJ (.tmp 42) (.tmp 50) 60 56 rfl 1 8 _ infoErr Tryz.underlying60 rfl (by decide) (by decide) w.heap.size HBa.out.size u4 (stI e f.iss m).1.length (errL (stI e f.iss m).1) rfl HOa.out (by have := HSL.out; omega) wr.heap.size 1 _ _ _ rfl (heap_alloc_new wr _) rfl rfl (by decide) (by decide) rfl ?_
          intro ga6 cp6 w6 ho6 hg6 hv6
          have HB6 := zh (HBa.out.grown hg6 HBa.out.size (fun k hk => (HOa.out.lt k hk).1))
          have HO6 := zh ho6
          clear ho6 hg6 hv6))
      go_roundw
      case rel => exact ⟨m + 1, HLT.out, by rw [HS.out, HDD.out], by go_num, zh (by rw [y2 HX.out]; exact fun h => h.elim HN.out fun e => HNE.out e.symm), zh (by rw [HS.out]; simpa [errL] using HO6.out), HB6⟩
      case measure => have h1 := HLT.out; simp [intOf]; omega
  ·obtain rfl : m = f.iss.length := by omega
   have HNM := zh (show e ∉ f.iss by have := HN.out; rwa [List.take_of_length_le (zn _)] at this)
   cases hD : (stI e f.iss f.iss.length).2 with
   | true =>
    have HS := zh (show f'.iss = (stI e f.iss f.iss.length).1 by rw [HE.out.2.2.2]; unfold insE; rw [if_neg HNM.out, if_pos hD])
    have hf := fun o => frozen_of_row wr gf o _ _ (za HB.out H.out.blk)
    obtain ⟨A', c', rfl, -⟩ := zt HO.out
    clear hD
    go_wp2_with fail
    go_end0
    exact ⟨rfl, _, _, _, _, H.out.issue HB.out (by rw [HS.out]; exact HO.out) hB HE.out.1 HE.out.2.1 HE.out.2.2.1, row_iss (fun k hk => (HO.out.lt k hk).1), (zg.ofBelow HB.out).setCell _ (fun _ => .inl rfl)⟩
   | false =>
    have HS := zh (show f'.iss = (stI e f.iss f.iss.length).1 ++ [e] by rw [HE.out.2.2.2]; unfold insE; rw [if_neg HNM.out, if_neg (by rw [hD]; decide)])
    have HOe := zh (HO.out.alloc (errB e))
    have HBe := zh (HB.out.alloc HB.out.size (errB e))
    clear hD
    go_upto_region 12 with (first
     | (refine zJ (.tmp 54) (.tmp 56) 60 56 rfl 1 8 _ infoErr Tryz.underlying60 rfl (by decide) (by decide) w.heap.size HBe.out.size u4 (stI e f.iss f.iss.length).1.length (errL (stI e f.iss f.iss.length).1) rfl HOe.out (by have := HSL.out; omega) wr.heap.size 1 _ _ _ rfl (heap_alloc_new wr _) rfl rfl (by decide) (by decide) rfl ?_
        intro ga6 cp6 w6 ho6 hg6 hv6
        have HB6 := zh (HBe.out.grown hg6 HBe.out.size (fun k hk => (HOe.out.lt k hk).1))
        have HO6 := zh ho6
        clear ho6 hg6 hv6))
    clear hc
    have hc := fun o => cell_of_row w6 gf o _ _ _ (za HB6.out H.out.blk)
    have hf := fun o => frozen_of_row w6 gf o _ _ (za HB6.out H.out.blk)
    go_wp2_with fail
    go_end0
    exact ⟨rfl, _, _, _, _, H.out.issue HB6.out (by rw [HS.out]; simpa [errL] using HO6.out) hB HE.out.1 HE.out.2.1 HE.out.2.2.1, row_iss (fun k hk => (HO6.out.lt k hk).1), (zg.ofBelow HB6.out).setCell _ (fun _ => .inl rfl)⟩
end Go.Proofs.YteofmaiojepdkaaGreat
namespace Go.Proofs.YteofmaiojepdkaaGreat
open Go Go.RowKit Go.Maps
theorem seenS_opt (a : Int) (p : zb) : xi a p = optV (yt a p) := by
 unfold xi yt
 split
 ·split <;> rfl
 ·rfl
theorem rsee_any (a : Int) (a0 : 0 ≤ a) (a1 : a < 65536) (p : zb) (p0 : 0 ≤ p.addr) (p1 : p.addr < 65536) (w : World) :
  Calls Tryz.prog 83 #[.int .u16 a, .agg #[.int .i64 p.bank, .int .u16 p.addr]] w fun e w' => e = .returned (.tuple #[.agg #[.int .i64 (optV (yt a p)).1.bank, .int .u16 (optV (yt a p)).1.addr], .bool (optV (yt a p)).2]) ∧ Below w.heap.size w w' := by
 rw [← seenS_opt]
 exact seen_any a a0 a1 p p0 p1 w
section
variable {gf n k : Nat} {vn vc vi vt v' : Value}
theorem row_nx (h : v'.ownBlock = vn.ownBlock ∨ v'.ownBlock = some k) (hk : n ≤ k) : ∀ j, flwB gf v' vc vi vt j → flwB gf vn vc vi vt j ∨ n ≤ j := fun j hj => by
 rcases hj with hj | hj | hj
 ·exact .inl (.inl hj)
 ·rcases h with e | e
  ·exact .inl (.inr (.inl (e ▸ hj)))
  ·rw [e] at hj; injection hj with hj; exact .inr (hj ▸ hk)
 ·exact .inl (.inr (.inr hj))
theorem row_tb (h : v'.ownBlock = vt.ownBlock ∨ v'.ownBlock = some k) (hk : n ≤ k) : ∀ j, flwB gf vn vc vi v' j → flwB gf vn vc vi vt j ∨ n ≤ j := fun j hj => by
 rcases hj with hj | hj | hj | hj | hj
 ·exact .inl (.inl hj)
 ·exact .inl (.inr (.inl hj))
 ·exact .inl (.inr (.inr (.inl hj)))
 ·exact .inl (.inr (.inr (.inr (.inl hj))))
 ·rcases h with e | e
  ·exact .inl (.inr (.inr (.inr (.inr (e ▸ hj)))))
  ·rw [e] at hj; injection hj with hj; exact .inr (hj ▸ hk)
end
set_option maxRecDepth 100000 in
set_option maxHeartbeats 1000000 in
theorem rto_no (B : Nat) (f : zO) (gf : Nat) (p : zb) (w : World) (vn vc vi vt : Value) (h : yY B f gf vn vc vi vt w) (hB : B ≤ w.heap.size) :
  Calls Tryz.prog 53 #[.pointer (some ⟨gf, 0, none⟩), .agg #[.int .i64 p.bank, .int .u16 p.addr], .bool false] w (FlwP B (toF f none) gf vn vc vi vt w) := by
 have hb : Below w.heap.size w (w.alloc (zo p)) := (Below.refl _ _).alloc (zn _) _
 have HI := zh (jj B f { f with xb := true } 42 gf _ vn vc vi vt (h.below hb) (Nat.le_trans hB hb.size) rfl rfl rfl (ins_bank f))
 have HB := zh hb
 clear h hb
 go_enter Tryz.func53, Tryz.ntmps53
 go_wp2_with (go_at_call 51; (with_reducible refine HI.out.mono ?_); rintro e w2 ⟨rfl, un, uc, ui, ut, hx2, hr2, ht2⟩; have HX := zh (And.intro hx2 (And.intro hr2 ht2)); clear hx2 hr2 ht2)
 go_end0
 exact ⟨rfl, un, uc, ui, ut, HX.out.1, fun j hj => (HX.out.2.1 j hj).imp id (fun h => Nat.le_trans HB.out.size h), (zg.ofBelow HB.out).trans HX.out.2.2 (fun _ _ h => h)⟩
set_option maxRecDepth 100000 in
set_option maxHeartbeats 1000000 in
theorem rto_yes (B : Nat) (f : zO) (gf : Nat) (p : zb) (w : World) (vn vc vi vt : Value) (h : yY B f gf vn vc vi vt w) (hB : B ≤ w.heap.size) (hlen : f.nx.length ≤ 1000) :
  Calls Tryz.prog 53 #[.pointer (some ⟨gf, 0, none⟩), .agg #[.int .i64 p.bank, .int .u16 p.addr], .bool true] w (FlwP B (toF f (some p)) gf vn vc vi vt w) := by
 have H := zh h
 have hb0 : ∀ x, Below w.heap.size w (w.alloc x) := fun x => (Below.refl _ _).alloc (zn _) _
 have HB0 := zh hb0
 clear h hb0
 go_enter Tryz.func53, Tryz.ntmps53
 go_wp2_with fail
 refine zr (S := fun W => (∀ o, W.cell? ⟨gf, o, none⟩ = (#[vn, vc, vi, vt] : Array Value)[o]?) ∧ ∀ o, W.cell? ⟨w.heap.size, o, none⟩ = (#[.int .i64 p.bank, .int .u16 p.addr] : Array Value)[o]?) [8, 9, 10] (by kernel_rfl) ⟨fun o => cell_of_row _ _ _ _ _ _ (za (HB0.out _).drew H.out.blk), fun o => cell_of_row _ _ _ _ _ _ (show (w.alloc _).heap[w.heap.size]? = _ from heap_alloc_new _ _)⟩ (fun hHeld => ?_)
 (refine tz 0 ?_)
 (refine tz 1 ?_)
 (refine tz 2 ?_)
 (refine tz 3 ?_)
 (refine tz 4 ?_)
 (refine tz 5 ?_)
 refine yx 6 rfl (fun K hK => ?_)
 go_simp
 obtain ⟨wa, hwa⟩ : ∃ wa, ((w.alloc (Obj.cells #[Value.int IntKind.i64 p.bank, Value.int IntKind.u16 p.addr] 47)).alloc (Obj.cells #[Value.int IntKind.i64 p.bank, Value.int IntKind.u16 p.addr] 47)).drew = wa := ⟨_, rfl⟩
 have hba : Bx [zo p, zo p] w wa := by rw [← hwa]; exact (Bx.two w (zo p) (zo p)).stay (Below.refl _ _).drew
 have HBA := zh hba
 rw [hwa]
 clear hwa hba
 refine hK.out _ _ (.inr ⟨fun o => cell_of_row _ _ _ _ _ _ (za HBA.out.bb H.out.blk), fun o => cell_of_row _ _ _ _ _ _ HBA.out.b0⟩) ?_
 clear hK K hHeld
 refine yx 7 rfl (fun K hK => ?_)
 refine xq (.tmp 11) (.tmp 13) 40 47 rfl 2 16 _ y7 Tryz.underlying40 rfl (by decide) (by decide) B (Nat.le_trans hB HBA.out.bb.size) vn f.nx.length (zp f.nx) rfl (H.out.below HBA.out.bb).on (by omega) (w.heap.size + 1) 1 _ _ _ rfl HBA.out.b1 rfl rfl (by decide) (by decide) ?_
 intro ga cp w1 ho1 hg1 hv1
 have hnx := H.out.next HBA.out.bb (v' := .slice (some ⟨ga, 0, none⟩) (f.nx.length + 1) cp) (ps := [p]) (by simpa [zp, yQ] using ho1) hg1 hv1
 have HNX := zh hnx
 have HTW := zh ((zg.ofBelow (bs := flwB gf vn vc vi vt) HBA.out.bb).grown hg1 (fun k e _ => .inr (.inl e)))
 have HRW := zh (row_nx (gf := gf) (vn := vn) (vc := vc) (vi := vi) (vt := vt) (v' := .slice (some ⟨ga, 0, none⟩) (f.nx.length + 1) cp) hv1 HBA.out.bb.size)
 have HPB := zh ((hg1.block w.heap.size (by have := HBA.out.z; simp at this; omega) (fun e => by have := (H.out.on.lt _ e.symm).2; omega)).trans HBA.out.b0)
 clear hnx ho1 hg1 hv1
 refine hK.out _ _ (.inr ⟨fun o => cell_of_row _ _ _ _ _ _ HNX.out.2, fun o => cell_of_row _ _ _ _ _ _ HPB.out⟩) ?_
 (refine pts ?_)
 refine z8 8 ?_
 simp only [List.drop_succ_cons, List.drop_zero]
 have hc9 : ∀ o, w1.cell? ⟨gf, o, none⟩ = (#[vn, vc, vi, vt] : Array Value)[o]? := fun o => cell_of_row _ _ _ _ _ _ HNX.out.2
 have hf9 : ∀ o, w1.frozen? ⟨gf, o, none⟩ = false := fun o => frozen_of_row _ _ _ _ _ HNX.out.2
 go_wp2
 go_end0
 exact ⟨rfl, _, vc, vi, vt, HNX.out.1, HRW.out, HTW.out.setCell _ (fun _ => .inl rfl)⟩
theorem rto_any (B : Nat) (f : zO) (gf : Nat) (t : zb × Bool) (w : World) (vn vc vi vt : Value) (h : yY B f gf vn vc vi vt w) (hB : B ≤ w.heap.size) (hlen : f.nx.length ≤ 1000) :
  Calls Tryz.prog 53 #[.pointer (some ⟨gf, 0, none⟩), .agg #[.int .i64 t.1.bank, .int .u16 t.1.addr], .bool t.2] w (FlwP B (toF f (optT t)) gf vn vc vi vt w) := by
 obtain ⟨p, b⟩ := t
 cases b with
 | false => exact rto_no B f gf p w vn vc vi vt h hB
 | true => exact rto_yes B f gf p w vn vc vi vt h hB hlen
theorem optT_optV (o : Option zb) : optT (optV o) = o := by cases o <;> rfl
end Go.Proofs.YteofmaiojepdkaaGreat
