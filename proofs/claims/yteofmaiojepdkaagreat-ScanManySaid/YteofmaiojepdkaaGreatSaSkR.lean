/- package scan: what routines works on, in memory. No condition. -/
import Derived.Test.YteofmaiojepdkaaGreatSaSkQ
set_option linter.all false
namespace Go.Proofs.YteofmaiojepdkaaGreat
open Go Go.RowKit Go.Maps Go.Sort
/-- A routine and its slices. -/
abbrev RtR := yT × Value × Value × Value
def rtvL (x : RtR) : List Value := [.int .i64 x.1.entry.bank, .int .u16 x.1.entry.addr, .bool x.1.thunk, .int .i64 x.1.dest.bank, .int .u16 x.1.dest.addr, x.2.1, x.2.2.1, x.2.2.2]
def rtvV (x : RtR) : Value := .agg #[.int .i64 x.1.entry.bank, .int .u16 x.1.entry.addr, .bool x.1.thunk, .int .i64 x.1.dest.bank, .int .u16 x.1.dest.addr, x.2.1, x.2.2.1, x.2.2.2]
def allL (R : List RtR) : List (zc × Value) := R.map fun x => (x.1.entry, rtvV x)
def entL (R : List RtR) : List zc := R.map fun x => x.1.entry
theorem entL_map (R : List RtR) : (R.map (·.1)).map (·.entry) = entL R := by unfold entL; rw [List.map_map]; rfl
theorem allL_keys (R : List RtR) : (allL R).map (·.1) = entL R := by unfold allL entL; rw [List.map_map]; rfl
theorem allL_put {R : List RtR} {x : RtR} (h : x.1.entry ∉ entL R) : yu x.1.entry (rtvV x) (allL R) = allL (R ++ [x]) := by
  rw [putL_new (by rw [allL_keys]; exact h)]
  simp [allL]
structure RnW (I : zj) (gk ga bw bq gw : Nat) (w0 : World) (R : List RtR) (V Q : List zc) (vq : Value) (W : World) : Prop where
  kn : KnW I gk W
  tr : y6 (fun k => k = gk) w0 W
  wn : WnW w0.heap.size bw bq gw V Q vq W
  al : W.heap[ga]? = some (zL xa (allL R))
  rv : ∀ x ∈ R, RtV I w0.heap.size x.1 x.2.1 x.2.2.1 x.2.2.2 W
  ap : ∀ x ∈ R, ∀ k, x.2.2.1.ownBlock = some k → ¬ vq.ownBlock = some k
  lga : w0.heap.size ≤ ga
  lgw : w0.heap.size ≤ gw
  lbq : w0.heap.size ≤ bq
  lgk : gk < w0.heap.size
  naw : ga ≠ gw
section
variable {I : zj} {gk ga bw bq gw : Nat} {w0 W W' : World} {R : List RtR} {V Q : List zc} {vq : Value}
theorem RtV.turn {B : Nat} {r : yT} {c l s : Value} {bs : Nat → Prop} (h : RtV I B r c l s W) (t : y6 bs W W') (h1 : ∀ k cs fr, W.heap[k]? = some (.cells cs 55 fr) → ¬ bs k) (h2 : ∀ k, l.ownBlock = some k → ¬ bs k) (h3 : ∀ k cs fr, W.heap[k]? = some (.cells cs 58 fr) → ¬ bs k) : RtV I B r c l s W' :=
  ⟨y7 h.oc t (fun k hk => by obtain ⟨-, cs, hc⟩ := y8 h.oc k hk; exact h1 k cs _ hc), y7 h.ol t h2, y7 h.oi t (fun k hk => by obtain ⟨-, cs, hc⟩ := y8 h.oi k hk; exact h3 k cs _ hc)⟩
theorem RtV.below {B : Nat} {r : yT} {c l s : Value} (h : RtV I B r c l s W) (hb : Below W.heap.size W W') : RtV I B r c l s W' :=
  h.turn (y6.ofBelow (bs := fun _ => False) hb) (fun _ _ _ _ e => e) (fun _ _ e => e) (fun _ _ _ _ e => e)
theorem RtV.mono {B B' : Nat} {r : yT} {c l s : Value} (h : RtV I B r c l s W) (hB : B' ≤ B) : RtV I B' r c l s W := ⟨h.oc.mono hB, h.ol.mono hB, h.oi.mono hB⟩
theorem RnW.below (h : RnW I gk ga bw bq gw w0 R V Q vq W) (hb : Below W.heap.size W W') : RnW I gk ga bw bq gw w0 R V Q vq W' :=
  ⟨kn_below h.kn hb, h.tr.trans (y6.ofBelow (bs := fun _ => False) hb) (fun _ _ e => e.elim), h.wn.below hb, zb hb h.al, fun x hx => (h.rv x hx).below hb, h.ap, h.lga, h.lgw, h.lbq, h.lgk, h.naw⟩
theorem WnW.keep {B : Nat} (h : WnW B bw bq gw V Q vq W) (t : y6 (fun k => (k = gw ∨ k = bq) ∨ vq.ownBlock = some k) W W') {k : Nat} {cs : Array Value} {T : TypeId} {fr : Nat × Nat} (n1 : T ≠ 47) (n2 : T ≠ 40) (hc : W.heap[k]? = some (.cells cs T fr)) : W'.heap[k]? = some (.cells cs T fr) := t.heap hc (fun e => by
  rcases e with (rfl | rfl) | e
  · rw [h.hw] at hc; cases hc
  · rw [h.hbq] at hc
    injection hc with hc
    injection hc with _ hc
    exact n2 hc.symm
  · obtain ⟨cs', hc'⟩ := h.oq.cells k e
    rw [hc'] at hc
    injection hc with hc
    injection hc with _ hc
    exact n1 hc.symm)
/-- The closure want has been called. -/
theorem RnW.want (h : RnW I gk ga bw bq gw w0 R V Q vq W) {l N : List zc} {vq' : Value} (hw : WnW w0.heap.size bw bq gw (V ++ N) (Q ++ N) vq' W') (t : y6 (fun k => (k = gw ∨ k = bq) ∨ vq.ownBlock = some k) W W') (hv : vq'.ownBlock = vq.ownBlock ∨ ∃ k, vq'.ownBlock = some k ∧ W.heap.size ≤ k) : RnW I gk ga bw bq gw w0 R (V ++ N) (Q ++ N) vq' W' := by
  have hlt := h.wn.oq.lt
  have h1 := h.lgk
  have h2 := h.lgw
  have h3 := h.lbq
  have hcn : ∀ k cs T fr, T ≠ 47 → T ≠ 40 → W.heap[k]? = some (.cells cs T fr) → ¬ ((k = gw ∨ k = bq) ∨ vq.ownBlock = some k) := fun k cs T fr n1 n2 hc e => by
    rcases e with (rfl | rfl) | e
    · rw [h.wn.hw] at hc; cases hc
    · rw [h.wn.hbq] at hc
      injection hc with hc
      injection hc with _ hc
      exact n2 hc.symm
    · obtain ⟨cs', hc'⟩ := h.wn.oq.cells k e
      rw [hc'] at hc
      injection hc with hc
      injection hc with _ hc
      exact n1 hc.symm
  obtain ⟨L, hL, hM⟩ := h.kn
  refine ⟨⟨L, t.heap hL (fun e => ?_), hM⟩, h.tr.trans t (fun k hk e => ?_), hw, t.heap h.al (fun e => ?_), fun x hx => (h.rv x hx).turn t (fun k cs fr hc => hcn k cs _ fr (by decide) (by decide) hc) (fun k hk e => ?_) (fun k cs fr hc => hcn k cs _ fr (by decide) (by decide) hc), fun x hx k hk e => ?_, h.lga, h.lgw, h.lbq, h.lgk, h.naw⟩
  · rcases e with (e | e) | e
    · omega
    · omega
    · have := (hlt gk e).1; omega
  · rcases e with (e | e) | e
    · omega
    · omega
    · have := (hlt k e).1; omega
  · rcases e with (e | e) | e
    · exact h.naw e
    · have := h.al
      rw [e, h.wn.hbq] at this
      cases this
    · obtain ⟨cs', hc'⟩ := h.wn.oq.cells ga e
      rw [h.al] at hc'
      cases hc'
  · rcases e with (rfl | rfl) | e
    · obtain ⟨-, cs, hc⟩ := y8 (h.rv x hx).ol k hk
      rw [h.wn.hw] at hc; cases hc
    · obtain ⟨-, cs, hc⟩ := y8 (h.rv x hx).ol k hk
      rw [h.wn.hbq] at hc
      injection hc with hc
      exact zg (by decide) hc.symm
    · exact h.ap x hx k hk e
  · rcases hv with hv | ⟨k2, hv, hz⟩
    · rw [hv] at e; exact h.ap x hx k hk e
    · rw [hv] at e
      injection e with e
      have := ((h.rv x hx).ol.lt k hk).2
      omega
/-- routine has been called. -/
theorem RnW.rtn (h : RnW I gk ga bw bq gw w0 R V Q vq W) (t : y6 (fun k => k = gk) W W') (hk : KnW I gk W') : RnW I gk ga bw bq gw w0 R V Q vq W' := by
  obtain ⟨L, hL, hM⟩ := h.kn
  have h1 := h.lgk
  have h2 := h.lgw
  have h3 := h.lbq
  have h4 := h.lga
  have hcn : ∀ k cs T fr, W.heap[k]? = some (.cells cs T fr) → ¬ k = gk := fun k cs T fr hc e => by rw [e, hL] at hc; cases hc
  exact ⟨hk, h.tr.trans t (fun _ _ e => e), ⟨t.heap h.wn.hbw (hcn _ _ _ _ h.wn.hbw), t.heap h.wn.hw (by omega), h.wn.nv, t.heap h.wn.hbq (by omega), h.wn.oq.turn t (fun k hk e => by have := (h.wn.oq.lt k hk).1; omega)⟩, t.heap h.al (by omega), fun x hx => (h.rv x hx).turn t (fun k cs fr hc => hcn _ _ _ _ hc) (fun k hk e => by have := ((h.rv x hx).ol.lt k hk).1; omega) (fun k cs fr hc => hcn _ _ _ _ hc), h.ap, h.lga, h.lgw, h.lbq, h.lgk, h.naw⟩
/-- The rows of routines are another matter. -/
theorem RnW.other {bs : Nat → Prop} (h : RnW I gk ga bw bq gw w0 R V Q vq W) (t : y6 bs W W') (hb : ∀ k, bs k → w0.heap.size ≤ k ∧ ∃ cs fr, W.heap[k]? = some (.cells cs 50 fr)) : RnW I gk ga bw bq gw w0 R V Q vq W' := by
  have hn : ∀ {b : Nat} {o : Obj}, W.heap[b]? = some o → (∀ cs fr, o ≠ .cells cs 50 fr) → ¬ bs b := fun hk hno e => by
    obtain ⟨-, cs, fr, hc⟩ := hb _ e
    rw [hk] at hc
    injection hc with hc
    exact hno _ _ hc
  obtain ⟨L, hL, hM⟩ := h.kn
  exact ⟨⟨L, t.heap hL (hn hL (fun _ _ => zz)), hM⟩, h.tr.trans t (fun k hk e => by have := (hb k e).1; omega), ⟨t.heap h.wn.hbw (hn h.wn.hbw (fun _ _ => zg (by decide))), t.heap h.wn.hw (hn h.wn.hw (fun _ _ => zz)), h.wn.nv, t.heap h.wn.hbq (hn h.wn.hbq (fun _ _ => zg (by decide))), h.wn.oq.turn t (fun k hk => by obtain ⟨cs, hc⟩ := h.wn.oq.cells k hk; exact hn hc (fun _ _ => zg (by decide)))⟩, t.heap h.al (hn h.al (fun _ _ => zz)), fun x hx => (h.rv x hx).turn t (fun k cs fr hc => hn hc (fun _ _ => zg (by decide))) (fun k hk => by obtain ⟨-, cs, hc⟩ := y8 (h.rv x hx).ol k hk; exact hn hc (fun _ _ => zg (by decide))) (fun k cs fr hc => hn hc (fun _ _ => zg (by decide))), h.ap, h.lga, h.lgw, h.lbq, h.lgk, h.naw⟩
/-- A routine more. -/
theorem RnW.put (h : RnW I gk ga bw bq gw w0 R V Q vq W) {x : RtR} (hn : x.1.entry ∉ entL R) (hm : W'.heap[ga]? = some (zL xa (yu x.1.entry (rtvV x) (allL R)))) (hg : W.grownBy W' (some ga)) (hv : RtV I w0.heap.size x.1 x.2.1 x.2.2.1 x.2.2.2 W) (ha : ∀ k, x.2.2.1.ownBlock = some k → ¬ vq.ownBlock = some k) : RnW I gk ga bw bq gw w0 (R ++ [x]) V Q vq W' := by
  have t : y6 (fun k => k = ga) W W' := (y6.refl _ W).grown hg (fun k e _ => by injection e with e; exact e.symm)
  have h1 := h.lgk
  have h4 := h.lga
  have hcn : ∀ k cs T fr, W.heap[k]? = some (.cells cs T fr) → ¬ k = ga := fun k cs T fr hc e => by rw [e, h.al] at hc; cases hc
  have hrt : ∀ y : RtR, RtV I w0.heap.size y.1 y.2.1 y.2.2.1 y.2.2.2 W → RtV I w0.heap.size y.1 y.2.1 y.2.2.1 y.2.2.2 W' := fun y hy => hy.turn t (fun k cs fr hc => hcn _ _ _ _ hc) (fun k hk => by obtain ⟨-, cs, hc⟩ := y8 hy.ol k hk; exact hcn _ _ _ _ hc) (fun k cs fr hc => hcn _ _ _ _ hc)
  rw [allL_put hn] at hm
  obtain ⟨L, hL, hM⟩ := h.kn
  refine ⟨⟨L, t.heap hL (by omega), hM⟩, h.tr.trans t (fun k hk e => by omega), ⟨t.heap h.wn.hbw (hcn _ _ _ _ h.wn.hbw), t.heap h.wn.hw (fun e => h.naw e.symm), h.wn.nv, t.heap h.wn.hbq (hcn _ _ _ _ h.wn.hbq), h.wn.oq.turn t (h.wn.oq.ne h.al (fun _ _ => zz))⟩, hm, fun y hy => ?_, fun y hy => ?_, h.lga, h.lgw, h.lbq, h.lgk, h.naw⟩
  · rcases List.mem_append.1 hy with hy | hy
    · exact hrt y (h.rv y hy)
    · rw [List.mem_singleton.1 hy]; exact hrt x hv
  · rcases List.mem_append.1 hy with hy | hy
    · exact h.ap y hy
    · rw [List.mem_singleton.1 hy]; exact ha
/-- The queue without its first. -/
theorem RnW.pop (h : RnW I gk ga bw bq gw w0 R V Q vq W) {v' : Value} {Q' : List zc} (hv : v'.ownBlock = vq.ownBlock) (ho : y4 W w0.heap.size 47 2 v' Q'.length (zt Q')) : RnW I gk ga bw bq gw w0 R V Q' v' (W.setCell ⟨bq, 0, none⟩ v') := by
  have t : y6 (fun k => k = bq) W (W.setCell ⟨bq, 0, none⟩ v') := (y6.refl _ W).setCell _ (fun _ => rfl)
  have h3 := h.lbq
  have hn : ∀ {b : Nat} {o : Obj}, W.heap[b]? = some o → (∀ cs fr, o ≠ .cells cs 40 fr) → ¬ b = bq := fun hb hno e => by
    rw [e, h.wn.hbq] at hb
    injection hb with hb
    exact hno _ _ hb.symm
  obtain ⟨L, hL, hM⟩ := h.kn
  exact ⟨⟨L, t.heap hL (hn hL (fun _ _ => zz)), hM⟩, h.tr.trans t (fun k hk e => by omega), ⟨t.heap h.wn.hbw (hn h.wn.hbw (fun _ _ => zg (by decide))), t.heap h.wn.hw (hn h.wn.hw (fun _ _ => zz)), h.wn.nv, heap_setCell_same h.wn.hbq (i := 0) v', .inr (ho.turn t (ownQ_ne ho h.wn.hbq (fun _ _ => zg (by decide))))⟩, t.heap h.al (hn h.al (fun _ _ => zz)), fun x hx => (h.rv x hx).turn t (fun k cs fr hc => hn hc (fun _ _ => zg (by decide))) (fun k hk => by obtain ⟨-, cs, hc⟩ := y8 (h.rv x hx).ol k hk; exact hn hc (fun _ _ => zg (by decide))) (fun k cs fr hc => hn hc (fun _ _ => zg (by decide))), fun x hx k hk => by rw [hv]; exact h.ap x hx k hk, h.lga, h.lgw, h.lbq, h.lgk, h.naw⟩
end
end Go.Proofs.YteofmaiojepdkaaGreat
