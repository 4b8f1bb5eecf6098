/- package scan: flow.to, walked. Condition: addresses are words. -/
import Derived.Test.YteofmaiojepdkaaGreatSaMpP
set_option linter.all false
namespace Go.Proofs.YteofmaiojepdkaaGreat
open Go Go.RowKit Go.Maps
theorem infoPlc : (Tryz.prog.info? 47).map (fun i => (i.zero, i.size, i.bytes)) = some (some (.agg #[.int .i64 0, .int .u16 0]), 2, 16) := by kernel_rfl
/-- What lies in a block as a whole. -/
theorem src_blk {w : World} {g m s : Nat} {cs : Array Value} {T : TypeId} {fr : Nat × Nat} (hg : w.heap[g]? = some (.cells cs T fr)) (hc : cs.size = m * s) : SrcW w s (some ⟨g, 0, none⟩) m cs.toList :=
  ⟨by rw [Array.length_toList, hc], fun _ => ⟨_, rfl, fun j u hu => by
    have e : (⟨g, 0, none⟩ : Addr).add j = ⟨g, j, none⟩ := by unfold Addr.add; split <;> simp_all
    rw [e, cell_of_row _ _ _ _ _ _ hg]
    rwa [Array.getElem?_toList] at hu⟩⟩
section
variable {P : Program} {w : World} {ops : Array Oper} {o : Oper} {a : Act} {Q : Exit → Act → World → Prop} (s x : Operand) (t e : TypeId) (ho : o.op = .call { callee := .builtin .append, args := #[s, x], argTypes := #[t, t] })
    (size bytes : Nat) (zv : Value) (hinfo : (P.info? e).map (fun i => (i.zero, i.size, i.bytes)) = some (some zv, size, bytes)) (ht : P.underlying t = some (.slice e)) (hzs : zv.cells.size = size) (hsz : 0 < size) (hb : bytes ≤ 1000)
    (B : Nat) (hB : B ≤ w.heap.size) (v : Value) (n : Nat) (xs : List Value) (hs : a.eval s = v) (hown : w.ownsRow B e size v n xs) (hn : n ≤ 100000000000)
    (g m : Nat) (cs : Array Value) (T : TypeId) (fr : Nat × Nat) (hx : a.eval x = .slice (some ⟨g, 0, none⟩) m m) (hg : w.heap[g]? = some (.cells cs T fr)) (hcs : cs.size = m * size) (h1 : cs.toList.all (·.oneCell') = true) (hm : 0 < m) (hm2 : m ≤ 1000)
include ho hinfo ht hzs hsz hb hB hs hown hn hx hg hcs h1 hm hm2
/-- m elements that were just made are appended. -/
theorem wp_app_new {K : Act → World → Prop} (h : ∀ ga cp w', w'.ownsRow B e size (.slice (some ⟨ga, 0, none⟩) (n + m) cp) (n + m) (xs ++ cs.toList) → w.grownBy w' v.ownBlock → (some ga = v.ownBlock ∨ some ga = some w.heap.size) → K (a.put o.dst (.slice (some ⟨ga, 0, none⟩) (n + m) cp)) w') : o.wp P a w K Q := by
  obtain ⟨i3, hi3, hz3, hz31, hz32⟩ := info_parts hinfo
  refine wp_append_src w s x t ho B e i3 zv size bytes ht hi3 hz3 hz31 hz32 hzs hsz v n xs hs hown (some ⟨g, 0, none⟩) m m (fun h => by cases h) cs.toList hx (src_blk hg hcs) (fun u hu => List.all_eq_true.1 h1 u hu) (by unfold maxLen; omega) (by
    have : (n + m) * bytes ≤ 100000001000 * 1000 := Nat.mul_le_mul (by omega) hb
    omega) hB fun v' w' h2 h3 h4 => ?_
  obtain ⟨ga, cp, rfl⟩ : ∃ ga cp, v' = .slice (some ⟨ga, 0, none⟩) (n + m) cp := by
    rcases h2.2 with ⟨-, h⟩ | ⟨g', cap, cur, h, -⟩
    · omega
    · exact ⟨g', cap, h⟩
  exact h ga cp w' h2 h3 h4
theorem yr {rest : List Oper} (hgd : o.guard = none) (h : ∀ ga cp w', w'.ownsRow B e size (.slice (some ⟨ga, 0, none⟩) (n + m) cp) (n + m) (xs ++ cs.toList) → w.grownBy w' v.ownBlock → (some ga = v.ownBlock ∨ some ga = some w.heap.size) → wpList P ops Q rest (a.put o.dst (.slice (some ⟨ga, 0, none⟩) (n + m) cp)) w') : wpList P ops Q (o :: rest) a w :=
  wpList_plain hgd fun _ hK => wp_app_new s x t e ho size bytes zv hinfo ht hzs hsz hb B hB v n xs hs hown hn g m cs T fr hx hg hcs h1 hm hm2 fun ga cp w' h2 h3 h4 => hK _ _ (h ga cp w' h2 h3 h4)
end
theorem flow_bank {f : zN} (e : Int) : e ∈ ({ f with xb := true } : zN).iss ↔ e = 42 ∨ e ∈ f.iss := by
  simp only [mem_iss]
  by_cases h : e = 42 <;> simp [h]
set_option maxRecDepth 100000 in
set_option maxHeartbeats 1000000 in
theorem to_no (B : Nat) (f : zN) (gf gi : Nat) (p : zc) (w : World) (l : List (Int × Value)) (vn vc vt : Value) (h : y9 B f gf gi l vn vc vt w) (hB : B ≤ w.heap.size) :
    Calls Tryz.prog 111 #[.pointer (some ⟨gf, 0, none⟩), .agg #[.int .i64 p.bank, .int .u16 p.addr], .bool false] w (FlowP B (toF f none) gf gi w) := by
  have H := zh h
  have hb0 : ∀ x, Below w.heap.size w (w.alloc x) := fun x => (Below.refl _ _).alloc (zn _) _
  have hcs : ∀ x o, (w.alloc x).cell? ⟨gf, o, none⟩ = (#[vn, vc, .map (some gi), vt] : Array Value)[o]? := fun x o => cell_of_row _ _ _ _ _ _ (zb (hb0 x) H.out.blk)
  have HM := zh (fun x => (zb (hb0 x) H.out.mp))
  clear h
  go_enter Tryz.func111, Tryz.ntmps111
  go_wp2_with (refine zI errKey Tryz.underlying155 (HM.out _) rfl _ _ _ rfl rfl 42 rfl (.bool true) rfl ?_; intro w1 hm1 hg1 hz1)
  go_end0
  refine ⟨rfl, ⟨_, vn, vc, vt, (H.out.below (hb0 _)).issue hm1 hg1 rfl rfl rfl flow_bank⟩, ?_⟩
  exact ((Below.refl B w).alloc hB _).grown hg1 (by simp; omega) (fun k e => by injection e with e; rw [← e]; exact H.out.bi)
set_option maxRecDepth 100000 in
set_option maxHeartbeats 1000000 in
theorem to_yes (B : Nat) (f : zN) (gf gi : Nat) (p : zc) (w : World) (l : List (Int × Value)) (vn vc vt : Value) (h : y9 B f gf gi l vn vc vt w) (hB : B ≤ w.heap.size) (hlen : f.nx.length ≤ 1000) :
    Calls Tryz.prog 111 #[.pointer (some ⟨gf, 0, none⟩), .agg #[.int .i64 p.bank, .int .u16 p.addr], .bool true] w (FlowP B (toF f (some p)) gf gi w) := by
  have H := zh h
  obtain ⟨i0, hi, hz0, hz1, hz2⟩ := info_parts infoPlc
  have hb0 : ∀ x, Below w.heap.size w (w.alloc x) := fun x => (Below.refl _ _).alloc (zn _) _
  have HB0 := zh hb0
  clear h hb0
  go_enter Tryz.func111, Tryz.ntmps111
  go_wp2_with fail
  refine zK (S := fun W => (∀ o, W.cell? ⟨gf, o, none⟩ = (#[vn, vc, .map (some gi), vt] : Array Value)[o]?) ∧ ∀ o, W.cell? ⟨w.heap.size, o, none⟩ = (#[.int .i64 p.bank, .int .u16 p.addr] : Array Value)[o]?) [8, 9, 10] (by kernel_rfl) ⟨fun o => cell_of_row _ _ _ _ _ _ (zb (HB0.out _).drew H.out.blk), fun o => cell_of_row _ _ _ _ _ _ (show (w.alloc _).heap[w.heap.size]? = _ from heap_alloc_new _ _)⟩ (fun hHeld => ?_)
  (refine tkZ 0 (v := ?_) rfl (by assumption) ?_ ?_; rotate_left; (focus (intro w hSw; (try dsimp only at hSw); go_simp; try with_reducible rfl)); (try simp only [zA, zB, zC, Act.put, zD, zE, zF]))
  (refine tkZ 1 (v := ?_) rfl (by assumption) ?_ ?_; rotate_left; (focus (intro w hSw; (try dsimp only at hSw); go_simp; try with_reducible rfl)); (try simp only [zA, zB, zC, Act.put, zD, zE, zF]))
  (refine tkZ 2 (v := ?_) rfl (by assumption) ?_ ?_; rotate_left; (focus (intro w hSw; (try dsimp only at hSw); go_simp; try with_reducible rfl)); (try simp only [zA, zB, zC, Act.put, zD, zE, zF]))
  (refine tkZ 3 (v := ?_) rfl (by assumption) ?_ ?_; rotate_left; (focus (intro w hSw; (try dsimp only at hSw); go_simp; try with_reducible rfl)); (try simp only [zA, zB, zC, Act.put, zD, zE, zF]))
  (refine tkZ 4 (v := ?_) rfl (by assumption) ?_ ?_; rotate_left; (focus (intro w hSw; (try dsimp only at hSw); go_simp; try with_reducible rfl)); (try simp only [zA, zB, zC, Act.put, zD, zE, zF]))
  (refine tkZ 5 (v := ?_) rfl (by assumption) ?_ ?_; rotate_left; (focus (intro w hSw; (try dsimp only at hSw); go_simp; try with_reducible rfl)); (try simp only [zA, zB, zC, Act.put, zD, zE, zF]))
  refine oneZ 6 rfl (fun K hK => ?_)
  go_simp
  obtain ⟨wa, hwa⟩ : ∃ wa, ((w.alloc (Obj.cells #[Value.int IntKind.i64 p.bank, Value.int IntKind.u16 p.addr] 47)).alloc (Obj.cells #[Value.int IntKind.i64 p.bank, Value.int IntKind.u16 p.addr] 47)).drew = wa := ⟨_, rfl⟩
  have hba : Bx [zo p, zo p] w wa := by rw [← hwa]; exact (Bx.two w (zo p) (zo p)).stay (Below.refl _ _).drew
  have HBA := zh hba
  rw [hwa]
  clear hwa hba
  refine hK.out _ _ (.inr ⟨fun o => cell_of_row _ _ _ _ _ _ (zb HBA.out.bb H.out.blk), fun o => cell_of_row _ _ _ _ _ _ HBA.out.b0⟩) ?_
  clear hK K hHeld
  refine oneZ 7 rfl (fun K hK => ?_)
  refine wp_app_new (.tmp 16) (.tmp 18) 40 47 rfl 2 16 _ infoPlc Tryz.underlying40 rfl (by decide) (by decide) B (Nat.le_trans hB HBA.out.bb.size) vn f.nx.length (zt f.nx) rfl (H.out.below HBA.out.bb).on (by omega) (w.heap.size + 1) 1 _ _ _ rfl HBA.out.b1 rfl rfl (by decide) (by decide) ?_
  intro ga cp w1 ho1 hg1 hv1
  have hnx := H.out.next HBA.out.bb (v' := .slice (some ⟨ga, 0, none⟩) (f.nx.length + 1) cp) (ps := [p]) (by simpa [zt, plcL] using ho1) hg1 hv1
  have HNX := zh hnx
  have hbw : Below B w w1 := (HBA.out.bb.mono hB).grown hg1 (Nat.le_trans hB HBA.out.bb.size) (fun k hk => (H.out.on.lt k hk).1)
  have HBW := zh hbw
  have HPB := zh ((hg1.block w.heap.size (by have := HBA.out.z; simp at this; omega) (fun e => by have := (H.out.on.lt _ e.symm).2; omega)).trans HBA.out.b0)
  clear hnx ho1 hg1 hv1 hbw
  refine hK.out _ _ (.inr ⟨fun o => cell_of_row _ _ _ _ _ _ HNX.out.2, fun o => cell_of_row _ _ _ _ _ _ HPB.out⟩) ?_
  (try simp only [zA, zB, zC, Act.put, zD, zE, zF])
  refine tailZ 8 ?_
  simp only [List.drop_succ_cons, List.drop_zero]
  have hc9 : ∀ o, w1.cell? ⟨gf, o, none⟩ = (#[vn, vc, .map (some gi), vt] : Array Value)[o]? := fun o => cell_of_row _ _ _ _ _ _ HNX.out.2
  have hf9 : ∀ o, w1.frozen? ⟨gf, o, none⟩ = false := fun o => frozen_of_row _ _ _ _ _ HNX.out.2
  go_wp2
  go_end0
  exact ⟨rfl, ⟨l, _, vc, vt, HNX.out.1⟩, HBW.out.setCell (p := ⟨gf, 0, none⟩) H.out.bf _⟩
theorem to_any (B : Nat) (f : zN) (gf gi : Nat) (o : Option zc) (w : World) (l : List (Int × Value)) (vn vc vt : Value) (h : y9 B f gf gi l vn vc vt w) (hB : B ≤ w.heap.size) (hlen : f.nx.length ≤ 1000) :
    Calls Tryz.prog 111 #[.pointer (some ⟨gf, 0, none⟩), .agg #[.int .i64 (optV o).1.bank, .int .u16 (optV o).1.addr], .bool (optV o).2] w (FlowP B (toF f o) gf gi w) := by
  cases o with
  | none => exact to_no B f gf gi ⟨0, 0⟩ w l vn vc vt h hB
  | some p => exact to_yes B f gf gi p w l vn vc vt h hB hlen
end Go.Proofs.YteofmaiojepdkaaGreat
