/- package scan: seen; flow.to. Condition: addresses are words. -/
import Derived.Test.YteofmaiojepdkaaGreatSaRelyZ
import Derived.Test.YteofmaiojepdkaaGreatSaMpL
import Derived.Test.YteofmaiojepdkaaGreatSaSkC
set_option linter.all false
namespace Go.Proofs.YteofmaiojepdkaaGreat
open Go Go.RowKit
set_option maxRecDepth 100000 in
theorem eqP_place (a b : zc) (w : World) : (Op.equal 47 (xa a) (xa b)).run Tryz.prog w = .ok (decide (a = b)) w := by
  have h : (Op.equal 47 (xa a) (xa b)).run Tryz.prog w = (if a.bank = b.bank then if a.addr = b.addr then Result.ok true w else Result.ok false w else Result.ok false w) := by
    unfold Op.equal xa
    rw [show Op.maxDepth = 9999 + 1 from rfl, run_equalIn_struct w 9999 _ _ _ (by kernel_rfl) (by kernel_rfl)]
    go_simp
  rw [h]
  by_cases h1 : a.bank = b.bank
  · by_cases h2 : a.addr = b.addr
    · rw [if_pos h1, if_pos h2, decide_eq_true (zc.ext' h1 h2)]
    · rw [if_pos h1, if_neg h2, decide_eq_false (fun e => h2 (by rw [e]))]
  · rw [if_neg h1, decide_eq_false (fun e => h1 (by rw [e]))]
theorem yg : KeyOk Tryz.prog 47 xa where
  und := ⟨_, Tryz.underlying47, fun a b => .inl rfl⟩
  eql := eqP_place
  chk := fun e a w => by
    unfold xa
    kernel_rfl
  bits := fun a => by
    unfold xa
    simp [Instr.sameBits]
/-- A cell of the classes. -/
def celV (c : Nat × Nat) : Value := .agg #[.int .i64 c.1, .int .i64 c.2]
set_option maxRecDepth 100000 in
theorem eqP_cell (a b : Nat × Nat) (w : World) : (Op.equal 153 (celV a) (celV b)).run Tryz.prog w = .ok (decide (a = b)) w := by
  have h : (Op.equal 153 (celV a) (celV b)).run Tryz.prog w = (if a.1 = b.1 then if a.2 = b.2 then Result.ok true w else Result.ok false w else Result.ok false w) := by
    unfold Op.equal celV
    rw [show Op.maxDepth = 9999 + 1 from rfl, run_equalIn_struct w 9999 _ _ _ (by kernel_rfl) (by kernel_rfl)]
    go_simp
    simp only [Int.natCast_inj]
  rw [h]
  obtain ⟨a1, a2⟩ := a
  obtain ⟨b1, b2⟩ := b
  by_cases h1 : a1 = b1
  · by_cases h2 : a2 = b2
    · rw [if_pos h1, if_pos h2, h1, h2]; simp
    · rw [if_pos h1, if_neg h2, decide_eq_false (fun e => h2 (by injection e))]
  · rw [if_neg h1, decide_eq_false (fun e => h1 (by injection e))]
theorem cellKey : KeyOk Tryz.prog 153 celV where
  und := ⟨_, Tryz.underlying153, fun a b => .inl rfl⟩
  eql := eqP_cell
  chk := fun e a w => by
    unfold celV
    kernel_rfl
  bits := fun a => by
    unfold celV
    simp [Instr.sameBits]
def errV (e : Int) : Value := .int .i64 e
theorem errKey : KeyOk Tryz.prog 56 errV where
  und := ⟨_, Tryz.underlying56, fun a b => .inr (by
    unfold errV Instr.sameNow
    simp [BEq.beq, decide])⟩
  eql := fun a b w => by
    unfold Op.equal errV
    rw [show Op.maxDepth = 9999 + 1 from rfl, run_equalIn_int w 9999 _ _ _ _ _ Tryz.underlying56]
    simp [BEq.beq]
  chk := fun e a w => by
    unfold errV
    kernel_rfl
  bits := fun a => by
    unfold errV
    simp [Instr.sameBits]
end Go.Proofs.YteofmaiojepdkaaGreat
namespace Go.Proofs.YteofmaiojepdkaaGreat
open Go Go.RowKit Go.Maps
abbrev plcB0 : Obj := .cells #[.int .i64 0, .int .u16 0] 47
section
variable (a : Int) (a0 : 0 ≤ a) (a1 : a < 65536) (p : zc) (p0 : 0 ≤ p.addr) (p1 : p.addr < 65536) (w : World)
include a0 a1 p0 p1
theorem sseen_some {q : zc} (h : yv a p = some q) : Calls Tryz.prog 131 #[.int .u16 a, .agg #[.int .i64 p.bank, .int .u16 p.addr]] w fun e w' =>
    e = .returned (.tuple #[.agg #[.int .i64 q.bank, .int .u16 q.addr], .bool true]) ∧ Below w.heap.size w w' := by
  have HH := zh (Bx.two w (zo p) plcB0)
  unfold yv at h
  split at h
  · rename_i hw
    split at h
    · rename_i hp
      injection h with h
      subst h
      unfold winS at hw hp
      simp only [Bool.and_eq_true, decide_eq_true_eq] at hw hp
      obtain ⟨b1, b2⟩ := hw
      obtain ⟨b3, b4⟩ := hp
      go_enter Tryz.func131, Tryz.ntmps131
      go_wp2_with (first | (refine wpList_store_row rfl _ _ _ rfl _ _ rfl rfl _ _ (HH.out.b1) ?_ ?_ ?_ ?_; kernel_rfl; rfl; kernel_rfl))
      (refine bodyPost_ret (zf (cs := #[.int .i64 p.bank, .int .u16 a]) (fr := (0, 0)) Tryz.results131 _ _ (w.heap.size + 1) 47 _ ?_ (setRow_heap _ _ _ _ _ _ HH.out.b1) Tryz.underlying47 rfl (by kernel_rfl)) rfl ⟨rfl, below_setRow HH.out.bb (by omega) _⟩; rfl)
    · cases h
  · rename_i hw
    injection h with h
    subst h
    have hw2 : a < 4096 ∨ (4096 ≤ a ∧ 8192 ≤ a) := by unfold winS at hw; simp at hw; omega
    clear hw
    rcases hw2 with b1 | ⟨b1, b2⟩
    · go_enter Tryz.func131, Tryz.ntmps131
      go_wp2_with (first | (refine wpList_store_row rfl _ _ _ rfl _ _ rfl rfl _ _ (HH.out.b1) ?_ ?_ ?_ ?_; kernel_rfl; rfl; kernel_rfl))
      (refine bodyPost_ret (zf (cs := #[.int .i64 0, .int .u16 a]) (fr := (0, 0)) Tryz.results131 _ _ (w.heap.size + 1) 47 _ ?_ (setRow_heap _ _ _ _ _ _ HH.out.b1) Tryz.underlying47 rfl (by kernel_rfl)) rfl ⟨rfl, below_setRow HH.out.bb (by omega) _⟩; rfl)
    · go_enter Tryz.func131, Tryz.ntmps131
      go_wp2_with (first | (refine wpList_store_row rfl _ _ _ rfl _ _ rfl rfl _ _ (HH.out.b1) ?_ ?_ ?_ ?_; kernel_rfl; rfl; kernel_rfl))
      (refine bodyPost_ret (zf (cs := #[.int .i64 0, .int .u16 a]) (fr := (0, 0)) Tryz.results131 _ _ (w.heap.size + 1) 47 _ ?_ (setRow_heap _ _ _ _ _ _ HH.out.b1) Tryz.underlying47 rfl (by kernel_rfl)) rfl ⟨rfl, below_setRow HH.out.bb (by omega) _⟩; rfl)
theorem sseen_none (h : yv a p = none) : Calls Tryz.prog 131 #[.int .u16 a, .agg #[.int .i64 p.bank, .int .u16 p.addr]] w fun e w' =>
    e = .returned (.tuple #[.agg #[.int .i64 0, .int .u16 0], .bool false]) ∧ Below w.heap.size w w' := by
  have HH := zh (Bx.two w (zo p) plcB0)
  unfold yv at h
  split at h
  · rename_i hw
    split at h
    · cases h
    · rename_i hp
      unfold winS at hw
      simp only [Bool.and_eq_true, decide_eq_true_eq] at hw
      obtain ⟨b1, b2⟩ := hw
      have hw2 : p.addr < 4096 ∨ (4096 ≤ p.addr ∧ 8192 ≤ p.addr) := by unfold winS at hp; simp at hp; omega
      clear hp
      rcases hw2 with b3 | ⟨b3, b4⟩
      · go_enter Tryz.func131, Tryz.ntmps131
        go_wp2_with (first | (refine wpList_store_row rfl _ _ _ rfl _ _ rfl rfl _ _ (HH.out.b1) ?_ ?_ ?_ ?_; kernel_rfl; rfl; kernel_rfl))
        (refine bodyPost_ret (zf (cs := #[.int .i64 0, .int .u16 0]) (fr := (0, 0)) Tryz.results131 _ _ (w.heap.size + 1) 47 _ ?_ (setRow_heap _ _ _ _ _ _ HH.out.b1) Tryz.underlying47 rfl (by kernel_rfl)) rfl ⟨rfl, below_setRow HH.out.bb (by omega) _⟩; rfl)
      · go_enter Tryz.func131, Tryz.ntmps131
        go_wp2_with (first | (refine wpList_store_row rfl _ _ _ rfl _ _ rfl rfl _ _ (HH.out.b1) ?_ ?_ ?_ ?_; kernel_rfl; rfl; kernel_rfl))
        (refine bodyPost_ret (zf (cs := #[.int .i64 0, .int .u16 0]) (fr := (0, 0)) Tryz.results131 _ _ (w.heap.size + 1) 47 _ ?_ (setRow_heap _ _ _ _ _ _ HH.out.b1) Tryz.underlying47 rfl (by kernel_rfl)) rfl ⟨rfl, below_setRow HH.out.bb (by omega) _⟩; rfl)
  · cases h
end
/-- A place that may be unknown, as two values. -/
def optV (o : Option zc) : zc × Bool := match o with | some q => (q, true) | none => (⟨0, 0⟩, false)
theorem sseen_any (a : Int) (a0 : 0 ≤ a) (a1 : a < 65536) (p : zc) (p0 : 0 ≤ p.addr) (p1 : p.addr < 65536) (w : World) : Calls Tryz.prog 131 #[.int .u16 a, .agg #[.int .i64 p.bank, .int .u16 p.addr]] w fun e w' =>
    e = .returned (.tuple #[.agg #[.int .i64 (optV (yv a p)).1.bank, .int .u16 (optV (yv a p)).1.addr], .bool (optV (yv a p)).2]) ∧ Below w.heap.size w w' := by
  cases h : yv a p with
  | none => exact sseen_none a a0 a1 p p0 p1 w h
  | some q => exact sseen_some a a0 a1 p p0 p1 w h
/-! ### flow -/
def zt (l : List zc) : List Value := l.flatMap plcL
theorem plcsL_app (l m : List zc) : zt (l ++ m) = zt l ++ zt m := by simp [zt]
theorem mem_iss {f : zN} {e : Int} : e ∈ f.iss ↔ (f.xt = true ∧ e = 41) ∨ (f.xb = true ∧ e = 42) ∨ (f.xe = true ∧ e = 45) := by
  unfold zN.iss
  cases f.xt <;> cases f.xb <;> cases f.xe <;> simp
/-- A flow in memory: in block gf; its issues in block gi. -/
structure y9 (B : Nat) (f : zN) (gf gi : Nat) (l : List (Int × Value)) (vn vc vt : Value) (W : World) : Prop where
  blk : W.heap[gf]? = some (.cells #[vn, vc, .map (some gi), vt] 157 (0, 0))
  mp : W.heap[gi]? = some (zL errV l)
  iss : ∀ e, z6 e l = if e ∈ f.iss then some (.bool true) else none
  nd : (l.map (·.1)).Nodup
  on : W.ownsRow B 47 2 vn f.nx.length (zt f.nx)
  oc : W.ownsRow B 47 2 vc f.cl.length (zt f.cl)
  ot : W.ownsRow B 47 2 vt f.tb.length (zt f.tb)
  d1 : ∀ k, vn.ownBlock = some k → vc.ownBlock ≠ some k ∧ vt.ownBlock ≠ some k
  d2 : ∀ k, vc.ownBlock = some k → vt.ownBlock ≠ some k
  bf : B ≤ gf
  bi : B ≤ gi
def FlowP (B : Nat) (f : zN) (gf gi : Nat) (w : World) (e : Ending) (w' : World) : Prop := e = .returned (.tuple #[]) ∧ (∃ l vn vc vt, y9 B f gf gi l vn vc vt w') ∧ Below B w w'
section
variable {B : Nat} {f : zN} {gf gi : Nat} {l : List (Int × Value)} {vn vc vt : Value} {w w' : World}
theorem y9.below (h : y9 B f gf gi l vn vc vt w) (hb : Below w.heap.size w w') : y9 B f gf gi l vn vc vt w' :=
  ⟨zb hb h.blk, zb hb h.mp, h.iss, h.nd, y7 h.on (y6.ofBelow (bs := fun _ => False) hb) (fun _ _ e => e), y7 h.oc (y6.ofBelow (bs := fun _ => False) hb) (fun _ _ e => e), y7 h.ot (y6.ofBelow (bs := fun _ => False) hb) (fun _ _ e => e), h.d1, h.d2, h.bf, h.bi⟩
/-- An issue more. -/
theorem y9.issue (h : y9 B f gf gi l vn vc vt w) {k : Int} {f' : zN} (hm : w'.heap[gi]? = some (zL errV (yu k (.bool true) l))) (hg : w.grownBy w' (some gi))
    (h1 : f'.nx = f.nx) (h2 : f'.cl = f.cl) (h3 : f'.tb = f.tb) (hi : ∀ e, e ∈ f'.iss ↔ e = k ∨ e ∈ f.iss) : y9 B f' gf gi (yu k (.bool true) l) vn vc vt w' := by
  have hne : ∀ {v : Value} {n : Nat} {xs : List Value}, w.ownsRow B 47 2 v n xs → w'.ownsRow B 47 2 v n xs := fun ho => ho.kept hg (by
    rcases hv : (_ : Value).ownBlock with _ | x
    · exact .inl rfl
    · refine .inr fun e => ?_
      injection e with e
      subst e
      obtain ⟨-, cs, hc⟩ := y8 ho _ hv
      rw [h.mp] at hc
      cases hc)
  have hfg : gf ≠ gi := fun e => by have h1 := h.blk; rw [e, h.mp] at h1; cases h1
  refine ⟨?_, hm, fun e => ?_, nodup_put h.nd, by rw [h1]; exact hne h.on, by rw [h2]; exact hne h.oc, by rw [h3]; exact hne h.ot, h.d1, h.d2, h.bf, h.bi⟩
  · rw [hg.block gf (Array.getElem?_eq_some_iff.1 h.blk).1 (fun e => hfg (by injection e))]; exact h.blk
  · by_cases he : e = k
    · subst he
      rw [getL_put_same, if_pos ((hi e).2 (.inl rfl))]
    · rw [getL_put_ne he, h.iss e]
      by_cases hf : e ∈ f.iss
      · rw [if_pos hf, if_pos ((hi e).2 (.inr hf))]
      · rw [if_neg hf, if_neg (fun hx => ((hi e).1 hx).elim he hf)]
end
/-- A row is turned; another block of cells of another type is not. -/
theorem rowS_keep {W W' : World} {B s : Nat} {v : Value} {n : Nat} {xs : List Value} {T U : TypeId} {b : Nat} {cs : Array Value} {fr : Nat × Nat} (ho : W.ownsRow B T s v n xs) (hg : W.grownBy W' v.ownBlock) (h : W.heap[b]? = some (.cells cs U fr)) (hT : U ≠ T) : W'.heap[b]? = some (.cells cs U fr) := by
  rw [hg.block b (Array.getElem?_eq_some_iff.1 h).1 (fun e => by
    obtain ⟨-, c, hc⟩ := y8 ho b e.symm
    rw [h] at hc
    injection hc with hc
    injection hc with h1 h2
    exact hT h2)]
  exact h
section
variable {B : Nat} {f : zN} {gf gi : Nat} {l : List (Int × Value)} {vn vc vt : Value} {w w' : World}
theorem y9.next {wa w1 : World} {v' : Value} {ps : List zc} (h : y9 B f gf gi l vn vc vt w) (hb : Below w.heap.size w wa) (ho : w1.ownsRow B 47 2 v' (f.nx.length + ps.length) (zt f.nx ++ zt ps)) (hg : wa.grownBy w1 vn.ownBlock) (hv : v'.ownBlock = vn.ownBlock ∨ v'.ownBlock = some wa.heap.size) :
    y9 B { f with nx := f.nx ++ ps } gf gi l v' vc vt (w1.setCell ⟨gf, 0, none⟩ v') ∧ w1.heap[gf]? = some (.cells #[vn, vc, .map (some gi), vt] 157 (0, 0)) := by
  have h1 := h.below hb
  have hbl : w1.heap[gf]? = some (.cells #[vn, vc, .map (some gi), vt] 157 (0, 0)) := rowS_keep h1.on hg h1.blk (by decide)
  have hmp : w1.heap[gi]? = some (zL errV l) := by
    rw [hg.block gi (Array.getElem?_eq_some_iff.1 h1.mp).1 (fun e => by
      obtain ⟨-, cs, hc⟩ := y8 h1.on gi e.symm
      rw [h1.mp] at hc
      cases hc)]
    exact h1.mp
  have hfg : gi ≠ gf := fun e => by rw [e, hbl] at hmp; cases hmp
  have k_oc : w1.ownsRow B 47 2 vc f.cl.length (zt f.cl) := h1.oc.kept hg (by
    cases hk : vc.ownBlock with
    | none => exact .inl rfl
    | some k => exact .inr fun e => (h.d1 k e.symm).1 hk)
  have k_ot : w1.ownsRow B 47 2 vt f.tb.length (zt f.tb) := h1.ot.kept hg (by
    cases hk : vt.ownBlock with
    | none => exact .inl rfl
    | some k => exact .inr fun e => (h.d1 k e.symm).2 hk)
  have hst : ∀ {v : Value} {n : Nat} {xs : List Value}, w1.ownsRow B 47 2 v n xs → (w1.setCell ⟨gf, 0, none⟩ v').ownsRow B 47 2 v n xs := fun ho => y7 ho ((y6.refl (fun k => k = gf) w1).setCell _ (fun _ => rfl)) fun k hk e => by
    subst e
    obtain ⟨-, cs, hc⟩ := y8 ho _ hk
    rw [hbl] at hc
    injection hc with hc
    injection hc with hc1 hc2
    exact absurd hc2 (by decide)
  refine ⟨⟨?_, ?_, h.iss, h.nd, by rw [plcsL_app, List.length_append]; exact hst ho, hst k_oc, hst k_ot, fun k hk => hv.elim (fun e => h.d1 k (e ▸ hk)) (fun e => by
    rw [e] at hk
    injection hk with hk
    subst hk
    exact ⟨fun e2 => by have := (h.oc.lt _ e2).2; have := hb.size; omega, fun e2 => by have := (h.ot.lt _ e2).2; have := hb.size; omega⟩), h.d2, h.bf, h.bi⟩, hbl⟩
  · have := heap_setCell_same hbl (i := 0) v'
    rw [this]
    rfl
  · rw [heap_setCell_other hfg]; exact hmp
theorem y9.call {wa w1 : World} {v' : Value} {ps : List zc} (h : y9 B f gf gi l vn vc vt w) (hb : Below w.heap.size w wa) (ho : w1.ownsRow B 47 2 v' (f.cl.length + ps.length) (zt f.cl ++ zt ps)) (hg : wa.grownBy w1 vc.ownBlock) (hv : v'.ownBlock = vc.ownBlock ∨ v'.ownBlock = some wa.heap.size) :
    y9 B { f with cl := f.cl ++ ps } gf gi l vn v' vt (w1.setCell ⟨gf, 1, none⟩ v') ∧ w1.heap[gf]? = some (.cells #[vn, vc, .map (some gi), vt] 157 (0, 0)) := by
  have h1 := h.below hb
  have hbl : w1.heap[gf]? = some (.cells #[vn, vc, .map (some gi), vt] 157 (0, 0)) := rowS_keep h1.oc hg h1.blk (by decide)
  have hmp : w1.heap[gi]? = some (zL errV l) := by
    rw [hg.block gi (Array.getElem?_eq_some_iff.1 h1.mp).1 (fun e => by
      obtain ⟨-, cs, hc⟩ := y8 h1.oc gi e.symm
      rw [h1.mp] at hc
      cases hc)]
    exact h1.mp
  have hfg : gi ≠ gf := fun e => by rw [e, hbl] at hmp; cases hmp
  have k_on : w1.ownsRow B 47 2 vn f.nx.length (zt f.nx) := h1.on.kept hg (by
    cases hk : vn.ownBlock with
    | none => exact .inl rfl
    | some k => exact .inr fun e => (h.d1 k hk).1 e.symm)
  have k_ot : w1.ownsRow B 47 2 vt f.tb.length (zt f.tb) := h1.ot.kept hg (by
    cases hk : vt.ownBlock with
    | none => exact .inl rfl
    | some k => exact .inr fun e => h.d2 k e.symm hk)
  have hst : ∀ {v : Value} {n : Nat} {xs : List Value}, w1.ownsRow B 47 2 v n xs → (w1.setCell ⟨gf, 1, none⟩ v').ownsRow B 47 2 v n xs := fun ho => y7 ho ((y6.refl (fun k => k = gf) w1).setCell _ (fun _ => rfl)) fun k hk e => by
    subst e
    obtain ⟨-, cs, hc⟩ := y8 ho _ hk
    rw [hbl] at hc
    injection hc with hc
    injection hc with hc1 hc2
    exact absurd hc2 (by decide)
  refine ⟨⟨?_, ?_, h.iss, h.nd, hst k_on, by rw [plcsL_app, List.length_append]; exact hst ho, hst k_ot, fun k hk => ⟨fun e2 => hv.elim (fun e => (h.d1 k hk).1 (e ▸ e2)) (fun e => by
    rw [e] at e2
    injection e2 with e2
    subst e2
    have := (h.on.lt _ hk).2; have := hb.size; omega), (h.d1 k hk).2⟩, fun k hk => hv.elim (fun e => h.d2 k (e ▸ hk)) (fun e e2 => by
    rw [e] at hk
    injection hk with hk
    subst hk
    have := (h.ot.lt _ e2).2; have := hb.size; omega), h.bf, h.bi⟩, hbl⟩
  · have := heap_setCell_same hbl (i := 1) v'
    rw [this]
    rfl
  · rw [heap_setCell_other hfg]; exact hmp
theorem y9.table {wa w1 : World} {v' : Value} {ps : List zc} (h : y9 B f gf gi l vn vc vt w) (hb : Below w.heap.size w wa) (ho : w1.ownsRow B 47 2 v' (f.tb.length + ps.length) (zt f.tb ++ zt ps)) (hg : wa.grownBy w1 vt.ownBlock) (hv : v'.ownBlock = vt.ownBlock ∨ v'.ownBlock = some wa.heap.size) :
    y9 B { f with tb := f.tb ++ ps } gf gi l vn vc v' (w1.setCell ⟨gf, 3, none⟩ v') ∧ w1.heap[gf]? = some (.cells #[vn, vc, .map (some gi), vt] 157 (0, 0)) := by
  have h1 := h.below hb
  have hbl : w1.heap[gf]? = some (.cells #[vn, vc, .map (some gi), vt] 157 (0, 0)) := rowS_keep h1.ot hg h1.blk (by decide)
  have hmp : w1.heap[gi]? = some (zL errV l) := by
    rw [hg.block gi (Array.getElem?_eq_some_iff.1 h1.mp).1 (fun e => by
      obtain ⟨-, cs, hc⟩ := y8 h1.ot gi e.symm
      rw [h1.mp] at hc
      cases hc)]
    exact h1.mp
  have hfg : gi ≠ gf := fun e => by rw [e, hbl] at hmp; cases hmp
  have k_on : w1.ownsRow B 47 2 vn f.nx.length (zt f.nx) := h1.on.kept hg (by
    cases hk : vn.ownBlock with
    | none => exact .inl rfl
    | some k => exact .inr fun e => (h.d1 k hk).2 e.symm)
  have k_oc : w1.ownsRow B 47 2 vc f.cl.length (zt f.cl) := h1.oc.kept hg (by
    cases hk : vc.ownBlock with
    | none => exact .inl rfl
    | some k => exact .inr fun e => h.d2 k hk e.symm)
  have hst : ∀ {v : Value} {n : Nat} {xs : List Value}, w1.ownsRow B 47 2 v n xs → (w1.setCell ⟨gf, 3, none⟩ v').ownsRow B 47 2 v n xs := fun ho => y7 ho ((y6.refl (fun k => k = gf) w1).setCell _ (fun _ => rfl)) fun k hk e => by
    subst e
    obtain ⟨-, cs, hc⟩ := y8 ho _ hk
    rw [hbl] at hc
    injection hc with hc
    injection hc with hc1 hc2
    exact absurd hc2 (by decide)
  refine ⟨⟨?_, ?_, h.iss, h.nd, hst k_on, hst k_oc, by rw [plcsL_app, List.length_append]; exact hst ho, fun k hk => ⟨(h.d1 k hk).1, fun e2 => hv.elim (fun e => (h.d1 k hk).2 (e ▸ e2)) (fun e => by
    rw [e] at e2
    injection e2 with e2
    subst e2
    have := (h.on.lt _ hk).2; have := hb.size; omega)⟩, fun k hk e2 => hv.elim (fun e => h.d2 k hk (e ▸ e2)) (fun e => by
    rw [e] at e2
    injection e2 with e2
    subst e2
    have := (h.oc.lt _ hk).2; have := hb.size; omega), h.bf, h.bi⟩, hbl⟩
  · have := heap_setCell_same hbl (i := 3) v'
    rw [this]
    rfl
  · rw [heap_setCell_other hfg]; exact hmp
end
end Go.Proofs.YteofmaiojepdkaaGreat
