/- maps.Keys over places, slices.AppendSeq, slices.Collect, walked. Condition: the map lies in memory as its entries in order. -/
import Derived.Test.YteofmaiojepdkaaGreatTbSkJ
import Derived.RangeFuncFrom
import Derived.RangeFuncLeaves
import Derived.Shelf.Abstract
import Derived.Shelf.AbstractIn
import Derived.Sort.MapsRangeIn
import Derived.OwnWalkIn
import Derived.TacticsIn
import Derived.TacticsInMore
import Derived.RegionIn
import Derived.LoopNIn
import Derived.LoopIn
import Derived.BigFrameIn
import Derived.RangeFuncNested
import Derived.Shelf.SlIter.Collect
set_option linter.all false
namespace Go.Proofs.YteofmaiojepdkaaGreat
open Go Go.RowKit Go.Maps Go.Sort Go.Shelf
section
variable {κ : Type} [DecidableEq κ] {F : Fence} {n : Nat} {P : Program} {K : TypeId} {enc : κ → Value}
variable {w : World} {g r : Nat} {l : List (κ × Value)} {seen : List Nat} {t e : TypeId} {ops : Array Oper} {rest : List Oper} {o : Oper} {a : Act} {Q : Exit → Act → World → Prop}
theorem wpListIn_rangeL (hgd : o.guard = none) (m : Operand) (hop : o.op = Op.range t m) (ht : P.underlying t = some (.map K e)) (hm : a.eval m = .map (some g)) (hg : w.heap[g]? = some (yc enc l))
  (hK : wpListIn F n P ops Q rest (a.put o.dst (.pointer (some ⟨w.heap.size, 0, none⟩))) (w.alloc (je g l.length []))) : wpListIn F n P ops Q (o :: rest) a w := by
 refine wpListIn_plain hgd fun K' hK' => ?_
 unfold Oper.wpIn
 refine ⟨by simp [Oper.about, hop], ?_⟩
 rw [Oper.semAt_plain F _ _ (by rw [hop]; intro c hc'; cases hc')]
 simp [execOp, hop, hm, run_rangeL ht hg, Result.andThen]
 exact hK' _ _ hK
theorem wpListIn_nextL (hgd : o.guard = none) (it : Operand) (hop : o.op = Op.next it false) (hit : a.eval it = .pointer (some ⟨r, 0, none⟩)) (hr : w.heap[r]? = some (je g l.length seen)) (hg : w.heap[g]? = some (yc enc l))
  (hDone : (∀ j, j < l.length → j ∈ seen) → wpListIn F n P ops Q rest (a.put o.dst (.tuple #[.bool false])) w)
  (hMore : ∀ j p w', l[j]? = some p → j ∉ seen → w'.heap[r]? = some (je g l.length (seen ++ [j])) → w.grownBy w' (some r) → w'.heap.size = w.heap.size → wpListIn F n P ops Q rest (a.put o.dst (.tuple #[.bool true, enc p.1, p.2])) w') : wpListIn F n P ops Q (o :: rest) a w := by
 refine wpListIn_plain hgd fun K' hK' => ?_
 unfold Oper.wpIn
 refine ⟨by simp [Oper.about, hop], ?_⟩
 rw [Oper.semAt_plain F _ _ (by rw [hop]; intro c hc'; cases hc')]
 rcases run_nextL (P := P) o.type hr hg with ⟨h0, hrun⟩ | ⟨j, p, w', hl, hn, hrun, h1, h2, h3⟩
 ·simp [execOp, hop, hit, hrun, Result.andThen]
  exact hK' _ _ (hDone h0)
 ·simp [execOp, hop, hit, hrun, Result.andThen]
  exact hK' _ _ (hMore j p w' hl hn h1 h2 h3)
end
theorem x3 {F : Fence} {n : Nat} {P : Program} {ops : Array Oper} {rest : List Oper} {o : Oper} {a : Act} {w : World} {Q : Exit → Act → World → Prop} (hF : ∀ f, F.fn f) (hgd : o.guard = none) (ty : TypeId) (x : Operand) (ho : o.op = .load ty x)
  (g : Nat) (hx : a.eval x = .pointer (some ⟨g, 0, none⟩)) (t : TypeId) (cs : Array Value) (fr : Nat × Nat) (d : TypeDesc) (hg : w.heap[g]? = some (.cells cs t fr))
  (hu : P.underlying ty = some d) (hd : (match d with | .struct _ | .array _ _ => true | _ => false) = true) (hi : (P.info? ty).map (·.size) = some cs.size)
  (h : wpListIn F n P ops Q rest (a.put o.dst (.agg cs)) w) : wpListIn F n P ops Q (o :: rest) a w := by
 refine wpListIn_plain hgd fun K hK => ⟨fun f _ => hF f, ?_⟩
 rw [Oper.semAt_plain F _ _ (by rw [ho]; intro c hc; cases hc)]
 unfold execOp
 simp only [ho, hx, Instr.loadAt, Instr.sureAddr, Sem.run_bind, Sem.run_pure, Result.andThen_ok, run_loadVar_row w g t ty cs fr d hg hu hd hi]
 exact hK _ _ h
theorem xI {F : Fence} {n : Nat} {P : Program} {ops : Array Oper} {rest : List Oper} {o : Oper} {a : Act} {w : World} {Q : Exit → Act → World → Prop} (hF : ∀ f, F.fn f) (hgd : o.guard = none) (ty : TypeId) (x y : Operand) (ho : o.op = .store ty x y)
  (g : Nat) (cells : Array Value) (hx : a.eval x = .pointer (some ⟨g, 0, none⟩)) (hy : a.eval y = .agg cells)
  (t : TypeId) (old : Array Value) (hg : w.heap[g]? = some (.cells old t (0, 0))) (hi : (P.info? ty).map (·.size) = some cells.size)
  (hold : old.size = cells.size) (h1 : cells.all (·.oneCell') = true)
  (h : wpListIn F n P ops Q rest (a.put o.dst undef) (w.setRow g cells)) : wpListIn F n P ops Q (o :: rest) a w := by
 refine wpListIn_plain hgd fun K hK => ⟨fun f _ => hF f, ?_⟩
 rw [Oper.semAt_plain F _ _ (by rw [ho]; intro c hc; cases hc)]
 unfold execOp
 simp only [ho, hx, hy, Instr.storeAt, Instr.sureAddr, Sem.run_bind, Sem.run_pure, Result.andThen_ok, run_storeVar_row w g t ty old cells hg hi hold h1]
 exact hK _ _ h
def keyAt (l : List (zb × Value)) (j : Nat) : zb := ((l[j]?).map (·.1)).getD ⟨0, 0⟩
theorem keyAt_map (l : List (zb × Value)) : (List.range l.length).map (keyAt l) = l.map (·.1) := by
 refine List.ext_getElem (by simp) fun i h1 h2 => ?_
 simp [keyAt, List.getElem?_eq_getElem (show i < l.length by simpa using h1)]
def leftN (r n : Nat) (W : World) : Nat := match W.heap[r]? with
 | some (.mapIter _ _ seen _) => n - seen.size
 | _ => 0
theorem leftN_eq {r n g : Nat} {seen : List Nat} {W : World} (h : W.heap[r]? = some (je g n seen)) : leftN r n W = n - seen.length := by
 unfold leftN
 rw [h]
 simp [je]
set_option maxRecDepth 100000 in
set_option maxHeartbeats 1000000 in
theorem keysB_stops (n : Nat) (Bm g : Nat) (l : List (zb × Value)) (T : TypeId) (w : World) (hBm : w.heap[Bm]? = some (.cells #[.map (some g)] T (0, 0))) (hg : w.heap[g]? = some (yc yL l)) :
  SeqStopsK Fence.wide n Tryz.prog 126 #[.pointer (some ⟨Bm, 0, none⟩)] (fun p => #[yL p]) KeepsWalks (fun ss => ss.Perm (l.map (·.1))) (fun _ => True) l.length w := fun lp J Jx W hW hJ _ hY h0 => by
 have hBm' : W.heap[Bm]? = some (.cells #[.map (some g)] T (0, 0)) := za hW hBm
 have hg' : W.heap[g]? = some (yc yL l) := za hW hg
 have hc := fun o => cell_of_row W Bm o _ _ _ hBm'
 have hlt := (Array.getElem?_eq_some_iff.1 hg').1
 have HG := zh hg'
 have HLT := zh hlt
 have HJ := zh hJ
 have HY := zh hY
 have H0 := zh h0
 clear hg' hlt hJ hY h0 hBm' hW hBm hg
 show CallsIn Fence.wide n Tryz.prog 126 #[.func (.yield lp) #[] #[], .pointer (some ⟨Bm, 0, none⟩)] W _
 refine callsIn_of_wp Tryz.func126 rfl trivial ?_ rfl
 simp only [Tryz.ntmps126, List.size_toArray, List.length_cons, List.length_nil, Nat.reduceAdd, Nat.reduceSub, Array.replicate_succ, Array.replicate_zero, List.push_toArray, List.append_toArray, List.nil_append, List.cons_append]
 gi_wp2_with (first
  | (gi_at_range; refine wpListIn_rangeL rfl _ rfl Tryz.underlying141 rfl HG.out ?_)
  | gi_in)
 clear hc
 gi_loopw [3] (fun _ wr => ∃ seen : List Nat, Hid (wr.heap[W.heap.size]? = some (je g l.length seen)) ∧ Hid (wr.heap[g]? = some (yc yL l)) ∧ Hid (seen.Nodup) ∧ Hid (∀ j ∈ seen, j < l.length) ∧ Hid (J (seen.map (keyAt l)) wr))
  (fun _ wr => leftN W.heap.size l.length wr)
 case atStart =>
  exact ⟨[], zh (heap_alloc_new _ _), zh (by rw [heap_alloc_old _ _ HLT.out]; exact HG.out), zh List.nodup_nil, zh (by simp), zh (HJ.out [] W _ none H0.out (World.grownBy_alloc W _ none) (fun r e => by cases e))⟩
 case round =>
  obtain ⟨seen, HR, HM, HN, HL, HJs⟩ := hrel
  gi_wp2_with (first
   | (gi_at_next; refine wpListIn_nextL rfl _ rfl rfl HR.out HM.out ?_ ?_)
   | gi_in)
  ·intro hall
   have HA := zh hall
   clear hall
   gi_wp2
   go_end0
   refine ⟨⟨_, rfl⟩, .inl ⟨_, ?_, HJs.out⟩⟩
   rw [← keyAt_map]
   exact (seen_perm HN.out HL.out HA.out).map _
  ·intro j pk pv w2 hl hn hr2 hg2 hz2
   have HL2 := zh hl
   have HN2 := zh hn
   have HR2 := zh hr2
   have HG2 := zh hg2
   have hen := run_entryL (P := Tryz.prog) hr2 (show w2.heap[g]? = some (yc yL l) from (hg2.block g (Array.getElem?_eq_some_iff.1 HM.out).1 (fun e => by injection e with e; have h1 := HM.out; rw [e, HR.out] at h1; cases h1)).trans HM.out) hl
   have HM2 := zh (show w2.heap[g]? = some (yc yL l) from (hg2.block g (Array.getElem?_eq_some_iff.1 HM.out).1 (fun e => by injection e with e; have h1 := HM.out; rw [e, HR.out] at h1; cases h1)).trans HM.out)
   have hJ2 : J (seen.map (keyAt l)) w2 := HJ.out _ wr w2 (some W.heap.size) HJs.out hg2 (fun r e => by cases e; exact ⟨zn _, _, HR.out, rfl⟩)
   have hk : keyAt l j = pk := by unfold keyAt; rw [hl]; rfl
   have hjl := (Array.getElem?_eq_some_iff.1 HM.out).1
   have hnd2 : (seen ++ [j]).Nodup := List.nodup_append.2 ⟨HN.out, by simp, fun a ha b hb e => hn (by rw [List.mem_singleton.1 hb] at e; rw [← e]; exact ha)⟩
   have hlj : j < l.length := (List.getElem?_eq_some_iff.1 hl).1
   have hall2 : ∀ x ∈ seen ++ [j], x < l.length := fun x hx => (List.mem_append.1 hx).elim (HL.out x) (fun h => by rw [List.mem_singleton.1 h]; exact hlj)
   have hsz : seen.length + 1 ≤ l.length := by
    have := yw hnd2 (fun x hx => List.mem_range.2 (hall2 x hx))
    simpa using this
   obtain ⟨fn, tmps, assign, body, hy, hR⟩ := HY.out (seen.map (keyAt l)) pk (w2.alloc (zo pk)) (HJ.out _ w2 _ none hJ2 (World.grownBy_alloc w2 _ none) (fun r e => by cases e)) (by rw [List.length_map]; omega)
   simp only [yL] at hy
   have HND := zh hnd2
   have HAL := zh hall2
   have HSZ := zh hsz
   have HK := zh hk
   have HRR := zh hR
   clear hl hn hr2 hg2 hz2 hJ2 hk hjl hnd2 hlj hall2 hsz hR
   gi_wp2_with (first
    | (refine xI (fun _ => trivial) rfl _ _ _ rfl _ _ rfl rfl _ _ (heap_alloc_new _ _) ?_ ?_ ?_ ?_; kernel_rfl; rfl; kernel_rfl; rw [World.setRow_alloc_new])
    | (refine x3 (fun _ => trivial) rfl _ _ rfl _ rfl _ _ _ _ (heap_alloc_new _ _) Tryz.underlying47 rfl (by kernel_rfl) ?_)
    | gi_in)
   refine ⟨fun h => absurd h (by decide), HRR.out.mono ?_⟩
   rintro e W3 (⟨rfl, hJ3, hk3⟩ | ⟨rfl, hx3⟩)
   ·have hR3 := hk3.same W.heap.size _ (za ((Below.refl _ w2).alloc (zn _) (zo pk)) HR2.out) rfl
    have hM3 := hk3.same g _ (za ((Below.refl _ w2).alloc (zn _) (zo pk)) HM2.out) rfl
    have HR3 := zh hR3
    have HM3 := zh hM3
    have HJ3 := zh hJ3
    clear hR3 hM3 hJ3 hk3
    gi_wp2
    go_roundw
    case rel => exact ⟨seen ++ [j], HR3, HM3, HND, HAL, zh (by have h1 := HJ3.out; rw [List.map_append, List.map_cons, List.map_nil, HK.out]; exact h1)⟩
    case measure => rw [leftN_eq HR3.out, leftN_eq HR.out, List.length_append]; have := HSZ.out; simp; omega
   ·have HX3 := zh hx3
    clear hx3
    gi_wp2
    refine bodyPost_ret (results_none rfl _ _ _) rfl ?_
    exact ⟨⟨_, rfl⟩, .inr ⟨_, trivial, HX3.out⟩⟩
set_option maxRecDepth 100000 in
set_option maxHeartbeats 1000000 in
theorem keysR_stops (n : Nat) (Bm g : Nat) (l : List (zb × Value)) (T : TypeId) (w : World) (hBm : w.heap[Bm]? = some (.cells #[.map (some g)] T (0, 0))) (hg : w.heap[g]? = some (yc yL l)) :
  SeqStopsK Fence.wide n Tryz.prog 105 #[.pointer (some ⟨Bm, 0, none⟩)] (fun p => #[yL p]) KeepsWalks (fun ss => ss.Perm (l.map (·.1))) (fun _ => True) l.length w := fun lp J Jx W hW hJ _ hY h0 => by
 have hBm' : W.heap[Bm]? = some (.cells #[.map (some g)] T (0, 0)) := za hW hBm
 have hg' : W.heap[g]? = some (yc yL l) := za hW hg
 have hc := fun o => cell_of_row W Bm o _ _ _ hBm'
 have hlt := (Array.getElem?_eq_some_iff.1 hg').1
 have HG := zh hg'
 have HLT := zh hlt
 have HJ := zh hJ
 have HY := zh hY
 have H0 := zh h0
 clear hg' hlt hJ hY h0 hBm' hW hBm hg
 show CallsIn Fence.wide n Tryz.prog 105 #[.func (.yield lp) #[] #[], .pointer (some ⟨Bm, 0, none⟩)] W _
 refine callsIn_of_wp Tryz.func105 rfl trivial ?_ rfl
 simp only [Tryz.ntmps105, List.size_toArray, List.length_cons, List.length_nil, Nat.reduceAdd, Nat.reduceSub, Array.replicate_succ, Array.replicate_zero, List.push_toArray, List.append_toArray, List.nil_append, List.cons_append]
 gi_wp2_with (first
  | (gi_at_range; refine wpListIn_rangeL rfl _ rfl Tryz.underlying140 rfl HG.out ?_)
  | gi_in)
 clear hc
 gi_loopw [3] (fun _ wr => ∃ seen : List Nat, Hid (wr.heap[W.heap.size]? = some (je g l.length seen)) ∧ Hid (wr.heap[g]? = some (yc yL l)) ∧ Hid (seen.Nodup) ∧ Hid (∀ j ∈ seen, j < l.length) ∧ Hid (J (seen.map (keyAt l)) wr))
  (fun _ wr => leftN W.heap.size l.length wr)
 case atStart =>
  exact ⟨[], zh (heap_alloc_new _ _), zh (by rw [heap_alloc_old _ _ HLT.out]; exact HG.out), zh List.nodup_nil, zh (by simp), zh (HJ.out [] W _ none H0.out (World.grownBy_alloc W _ none) (fun r e => by cases e))⟩
 case round =>
  obtain ⟨seen, HR, HM, HN, HL, HJs⟩ := hrel
  gi_wp2_with (first
   | (gi_at_next; refine wpListIn_nextL rfl _ rfl rfl HR.out HM.out ?_ ?_)
   | gi_in)
  ·intro hall
   have HA := zh hall
   clear hall
   gi_wp2
   go_end0
   refine ⟨⟨_, rfl⟩, .inl ⟨_, ?_, HJs.out⟩⟩
   rw [← keyAt_map]
   exact (seen_perm HN.out HL.out HA.out).map _
  ·intro j pk pv w2 hl hn hr2 hg2 hz2
   have HL2 := zh hl
   have HN2 := zh hn
   have HR2 := zh hr2
   have HG2 := zh hg2
   have hen := run_entryL (P := Tryz.prog) hr2 (show w2.heap[g]? = some (yc yL l) from (hg2.block g (Array.getElem?_eq_some_iff.1 HM.out).1 (fun e => by injection e with e; have h1 := HM.out; rw [e, HR.out] at h1; cases h1)).trans HM.out) hl
   have HM2 := zh (show w2.heap[g]? = some (yc yL l) from (hg2.block g (Array.getElem?_eq_some_iff.1 HM.out).1 (fun e => by injection e with e; have h1 := HM.out; rw [e, HR.out] at h1; cases h1)).trans HM.out)
   have hJ2 : J (seen.map (keyAt l)) w2 := HJ.out _ wr w2 (some W.heap.size) HJs.out hg2 (fun r e => by cases e; exact ⟨zn _, _, HR.out, rfl⟩)
   have hk : keyAt l j = pk := by unfold keyAt; rw [hl]; rfl
   have hjl := (Array.getElem?_eq_some_iff.1 HM.out).1
   have hnd2 : (seen ++ [j]).Nodup := List.nodup_append.2 ⟨HN.out, by simp, fun a ha b hb e => hn (by rw [List.mem_singleton.1 hb] at e; rw [← e]; exact ha)⟩
   have hlj : j < l.length := (List.getElem?_eq_some_iff.1 hl).1
   have hall2 : ∀ x ∈ seen ++ [j], x < l.length := fun x hx => (List.mem_append.1 hx).elim (HL.out x) (fun h => by rw [List.mem_singleton.1 h]; exact hlj)
   have hsz : seen.length + 1 ≤ l.length := by
    have := yw hnd2 (fun x hx => List.mem_range.2 (hall2 x hx))
    simpa using this
   obtain ⟨fn, tmps, assign, body, hy, hR⟩ := HY.out (seen.map (keyAt l)) pk (w2.alloc (zo pk)) (HJ.out _ w2 _ none hJ2 (World.grownBy_alloc w2 _ none) (fun r e => by cases e)) (by rw [List.length_map]; omega)
   simp only [yL] at hy
   have HND := zh hnd2
   have HAL := zh hall2
   have HSZ := zh hsz
   have HK := zh hk
   have HRR := zh hR
   clear hl hn hr2 hg2 hz2 hJ2 hk hjl hnd2 hlj hall2 hsz hR
   gi_wp2_with (first
    | (refine xI (fun _ => trivial) rfl _ _ _ rfl _ _ rfl rfl _ _ (heap_alloc_new _ _) ?_ ?_ ?_ ?_; kernel_rfl; rfl; kernel_rfl; rw [World.setRow_alloc_new])
    | (refine x3 (fun _ => trivial) rfl _ _ rfl _ rfl _ _ _ _ (heap_alloc_new _ _) Tryz.underlying47 rfl (by kernel_rfl) ?_)
    | gi_in)
   refine ⟨fun h => absurd h (by decide), HRR.out.mono ?_⟩
   rintro e W3 (⟨rfl, hJ3, hk3⟩ | ⟨rfl, hx3⟩)
   ·have hR3 := hk3.same W.heap.size _ (za ((Below.refl _ w2).alloc (zn _) (zo pk)) HR2.out) rfl
    have hM3 := hk3.same g _ (za ((Below.refl _ w2).alloc (zn _) (zo pk)) HM2.out) rfl
    have HR3 := zh hR3
    have HM3 := zh hM3
    have HJ3 := zh hJ3
    clear hR3 hM3 hJ3 hk3
    gi_wp2
    go_roundw
    case rel => exact ⟨seen ++ [j], HR3, HM3, HND, HAL, zh (by have h1 := HJ3.out; rw [List.map_append, List.map_cons, List.map_nil, HK.out]; exact h1)⟩
    case measure => rw [leftN_eq HR3.out, leftN_eq HR.out, List.length_append]; have := HSZ.out; simp; omega
   ·have HX3 := zh hx3
    clear hx3
    gi_wp2
    refine bodyPost_ret (results_none rfl _ _ _) rfl ?_
    exact ⟨⟨_, rfl⟩, .inr ⟨_, trivial, HX3.out⟩⟩
set_option maxRecDepth 100000 in
set_option maxHeartbeats 1000000 in
theorem keysI_stops (n : Nat) (Bm g : Nat) (l : List (zb × Value)) (T : TypeId) (w : World) (hBm : w.heap[Bm]? = some (.cells #[.map (some g)] T (0, 0))) (hg : w.heap[g]? = some (yc yL l)) :
  SeqStopsK Fence.wide n Tryz.prog 108 #[.pointer (some ⟨Bm, 0, none⟩)] (fun p => #[yL p]) KeepsWalks (fun ss => ss.Perm (l.map (·.1))) (fun _ => True) l.length w := fun lp J Jx W hW hJ _ hY h0 => by
 have hBm' : W.heap[Bm]? = some (.cells #[.map (some g)] T (0, 0)) := za hW hBm
 have hg' : W.heap[g]? = some (yc yL l) := za hW hg
 have hc := fun o => cell_of_row W Bm o _ _ _ hBm'
 have hlt := (Array.getElem?_eq_some_iff.1 hg').1
 have HG := zh hg'
 have HLT := zh hlt
 have HJ := zh hJ
 have HY := zh hY
 have H0 := zh h0
 clear hg' hlt hJ hY h0 hBm' hW hBm hg
 show CallsIn Fence.wide n Tryz.prog 108 #[.func (.yield lp) #[] #[], .pointer (some ⟨Bm, 0, none⟩)] W _
 refine callsIn_of_wp Tryz.func108 rfl trivial ?_ rfl
 simp only [Tryz.ntmps108, List.size_toArray, List.length_cons, List.length_nil, Nat.reduceAdd, Nat.reduceSub, Array.replicate_succ, Array.replicate_zero, List.push_toArray, List.append_toArray, List.nil_append, List.cons_append]
 gi_wp2_with (first
  | (gi_at_range; refine wpListIn_rangeL rfl _ rfl Tryz.underlying100 rfl HG.out ?_)
  | gi_in)
 clear hc
 gi_loopw [3] (fun _ wr => ∃ seen : List Nat, Hid (wr.heap[W.heap.size]? = some (je g l.length seen)) ∧ Hid (wr.heap[g]? = some (yc yL l)) ∧ Hid (seen.Nodup) ∧ Hid (∀ j ∈ seen, j < l.length) ∧ Hid (J (seen.map (keyAt l)) wr))
  (fun _ wr => leftN W.heap.size l.length wr)
 case atStart =>
  exact ⟨[], zh (heap_alloc_new _ _), zh (by rw [heap_alloc_old _ _ HLT.out]; exact HG.out), zh List.nodup_nil, zh (by simp), zh (HJ.out [] W _ none H0.out (World.grownBy_alloc W _ none) (fun r e => by cases e))⟩
 case round =>
  obtain ⟨seen, HR, HM, HN, HL, HJs⟩ := hrel
  gi_wp2_with (first
   | (gi_at_next; refine wpListIn_nextL rfl _ rfl rfl HR.out HM.out ?_ ?_)
   | gi_in)
  ·intro hall
   have HA := zh hall
   clear hall
   gi_wp2
   go_end0
   refine ⟨⟨_, rfl⟩, .inl ⟨_, ?_, HJs.out⟩⟩
   rw [← keyAt_map]
   exact (seen_perm HN.out HL.out HA.out).map _
  ·intro j pk pv w2 hl hn hr2 hg2 hz2
   have HL2 := zh hl
   have HN2 := zh hn
   have HR2 := zh hr2
   have HG2 := zh hg2
   have hen := run_entryL (P := Tryz.prog) hr2 (show w2.heap[g]? = some (yc yL l) from (hg2.block g (Array.getElem?_eq_some_iff.1 HM.out).1 (fun e => by injection e with e; have h1 := HM.out; rw [e, HR.out] at h1; cases h1)).trans HM.out) hl
   have HM2 := zh (show w2.heap[g]? = some (yc yL l) from (hg2.block g (Array.getElem?_eq_some_iff.1 HM.out).1 (fun e => by injection e with e; have h1 := HM.out; rw [e, HR.out] at h1; cases h1)).trans HM.out)
   have hJ2 : J (seen.map (keyAt l)) w2 := HJ.out _ wr w2 (some W.heap.size) HJs.out hg2 (fun r e => by cases e; exact ⟨zn _, _, HR.out, rfl⟩)
   have hk : keyAt l j = pk := by unfold keyAt; rw [hl]; rfl
   have hjl := (Array.getElem?_eq_some_iff.1 HM.out).1
   have hnd2 : (seen ++ [j]).Nodup := List.nodup_append.2 ⟨HN.out, by simp, fun a ha b hb e => hn (by rw [List.mem_singleton.1 hb] at e; rw [← e]; exact ha)⟩
   have hlj : j < l.length := (List.getElem?_eq_some_iff.1 hl).1
   have hall2 : ∀ x ∈ seen ++ [j], x < l.length := fun x hx => (List.mem_append.1 hx).elim (HL.out x) (fun h => by rw [List.mem_singleton.1 h]; exact hlj)
   have hsz : seen.length + 1 ≤ l.length := by
    have := yw hnd2 (fun x hx => List.mem_range.2 (hall2 x hx))
    simpa using this
   obtain ⟨fn, tmps, assign, body, hy, hR⟩ := HY.out (seen.map (keyAt l)) pk (w2.alloc (zo pk)) (HJ.out _ w2 _ none hJ2 (World.grownBy_alloc w2 _ none) (fun r e => by cases e)) (by rw [List.length_map]; omega)
   simp only [yL] at hy
   have HND := zh hnd2
   have HAL := zh hall2
   have HSZ := zh hsz
   have HK := zh hk
   have HRR := zh hR
   clear hl hn hr2 hg2 hz2 hJ2 hk hjl hnd2 hlj hall2 hsz hR
   gi_wp2_with (first
    | (refine xI (fun _ => trivial) rfl _ _ _ rfl _ _ rfl rfl _ _ (heap_alloc_new _ _) ?_ ?_ ?_ ?_; kernel_rfl; rfl; kernel_rfl; rw [World.setRow_alloc_new])
    | (refine x3 (fun _ => trivial) rfl _ _ rfl _ rfl _ _ _ _ (heap_alloc_new _ _) Tryz.underlying47 rfl (by kernel_rfl) ?_)
    | gi_in)
   refine ⟨fun h => absurd h (by decide), HRR.out.mono ?_⟩
   rintro e W3 (⟨rfl, hJ3, hk3⟩ | ⟨rfl, hx3⟩)
   ·have hR3 := hk3.same W.heap.size _ (za ((Below.refl _ w2).alloc (zn _) (zo pk)) HR2.out) rfl
    have hM3 := hk3.same g _ (za ((Below.refl _ w2).alloc (zn _) (zo pk)) HM2.out) rfl
    have HR3 := zh hR3
    have HM3 := zh hM3
    have HJ3 := zh hJ3
    clear hR3 hM3 hJ3 hk3
    gi_wp2
    go_roundw
    case rel => exact ⟨seen ++ [j], HR3, HM3, HND, HAL, zh (by have h1 := HJ3.out; rw [List.map_append, List.map_cons, List.map_nil, HK.out]; exact h1)⟩
    case measure => rw [leftN_eq HR3.out, leftN_eq HR.out, List.length_append]; have := HSZ.out; simp; omega
   ·have HX3 := zh hx3
    clear hx3
    gi_wp2
    refine bodyPost_ret (results_none rfl _ _ _) rfl ?_
    exact ⟨⟨_, rfl⟩, .inr ⟨_, trivial, HX3.out⟩⟩
theorem plcs_snoc (l : List zb) (p : zb) : zp (l ++ [p]) = zp l ++ yQ p := by simp [zp]
theorem grown_keeps {W W' : World} {row : Option Nat} {k : Nat} {cs : Array Value} {T : TypeId} {fr : Nat × Nat} (hg : W.grownBy W' row) (hr : ∀ r, row = some r → ∃ o : Obj, W.heap[r]? = some o ∧ o.isCells = false) (hk : W.heap[k]? = some (.cells cs T fr)) : W'.heap[k]? = some (.cells cs T fr) :=
 (hg.block k (Array.getElem?_eq_some_iff.1 hk).1 (fun e => by
  obtain ⟨o, h1, h2⟩ := hr k e.symm
  rw [hk] at h1
  injection h1 with h1
  rw [← h1] at h2
  cases h2)).trans hk
theorem grown_own {W W' : World} {row : Option Nat} {B s n : Nat} {T : TypeId} {v : Value} {xs : List Value} (hg : W.grownBy W' row) (hr : ∀ r, row = some r → ∃ o : Obj, W.heap[r]? = some o ∧ o.isCells = false) (h : W.ownsRow B T s v n xs) : W'.ownsRow B T s v n xs :=
 zi h ((zg.refl (fun k => row = some k) W).grown hg (fun k e _ => e)) (fun k hk e => by
  obtain ⟨o, h1, h2⟩ := hr k e
  exact ye h h1 (fun cs fr e => by rw [e] at h2; cases h2) k hk rfl)
theorem app_cells (W : World) (x : zb) : ∀ j u, (yQ x)[j]? = some u → (W.alloc (zo x)).cell? ((⟨W.heap.size, 0, none⟩ : Addr).add j) = some u := fun j u hu => by
 rw [cell_add (heap_alloc_new _ _), Nat.zero_add]
 match j, hu with
 | 0, hu => simpa [yQ] using hu
 | 1, hu => simpa [yQ] using hu
 | j + 2, hu => simp [yQ] at hu
theorem plcL_one (x : zb) : ∀ u ∈ yQ x, u.oneCell' = true := fun u hu => by
 simp [yQ] at hu
 rcases hu with rfl | rfl <;> rfl
theorem own_one {w : World} {B s n : Nat} {T : TypeId} {v : Value} {xs : List Value} (h : w.ownsRow B T s v (n + 1) xs) : ∃ g cap, v = .slice (some ⟨g, 0, none⟩) (n + 1) cap := by
 rcases h.2 with ⟨-, h0⟩ | ⟨g, cap, cur, rfl, -⟩
 ·omega
 ·exact ⟨g, cap, rfl⟩
theorem app_len {n : Nat} (h : n ≤ 1000000000) : n + 1 ≤ maxLen := Nat.le_trans (Nat.succ_le_succ h) (by decide)
theorem app_bytes {n : Nat} (h : n ≤ 1000000000) : (n + 1) * 16 ≤ 140737488355328 := by omega
theorem app_base {w W : World} {o : Obj} (h : Below w.heap.size w W) : w.heap.size ≤ (W.alloc o).heap.size := by have := h.size; simp; omega
set_option maxRecDepth 100000 in
set_option maxHeartbeats 2000000 in
theorem appendSeq_any (g : Nat) (lb : Array Value) (eg : ∀ args w, (callFunc g args).run Tryz.prog w = .ok (.enter g args) w) (S : List zb → Prop) (N : Nat) (hN : N ≤ 1000000000) (w : World) (hseq : SeqStopsK Fence.wide 4 Tryz.prog g lb (fun p => #[yL p]) KeepsWalks S (fun _ => True) N w) :
  Calls Tryz.prog 127 #[.slice none 0 0, .func (.func g) #[] lb] w fun e w' => ∃ v ss, e = .returned v ∧ S ss ∧ w'.ownsRow w.heap.size 47 2 v ss.length (zp ss) ∧ Below w.heap.size w w' := by
 refine (callsIn_wide (n := 5)).1 ?_
 refine callsIn_of_wp_marks Tryz.func127 rfl trivial ?_ rfl
 simp only [Tryz.ntmps127, List.size_toArray, List.length_cons, List.length_nil, Nat.reduceAdd, Nat.reduceSub, Array.replicate_succ, Array.replicate_zero, List.push_toArray, List.append_toArray, List.nil_append, List.cons_append]
 gi_wp2
 have hv0 : (w.alloc (.cells #[.slice none 0 0] 40)).heap[w.heap.size]? = some (.cells #[.slice none 0 0] 40 (0, 0)) := heap_alloc_new _ _
 have hb0 : Below w.heap.size w (w.alloc (.cells #[.slice none 0 0] 40)) := (Below.refl _ w).alloc (zn _) _
 have hs0 : (w.alloc (.cells #[.slice none 0 0] 40)).heap.size = w.heap.size + 1 := by simp
 obtain ⟨W0, hW0⟩ : ∃ W0, w.alloc (.cells #[.slice none 0 0] 40) = W0 := ⟨_, rfl⟩
 rw [hW0] at hv0 hb0 hs0 ⊢
 refine wpIn_rangeFunc_ownH rfl (by decide) (gf := g) (lb := lb) rfl trivial eg hseq walksK_t walksK_b hb0 (fun _ => rfl)
  (fun pre W => ∃ v, W.heap[w.heap.size]? = some (.cells #[v] 40 (0, 0)) ∧ W.ownsRow w.heap.size 47 2 v pre.length (zp pre) ∧ Below w.heap.size w W)
  (fun _ _ _ => False)
  (fun s A B row hs hg hr => by
   obtain ⟨v, h1, h2, h3⟩ := hs
   exact ⟨v, grown_keeps hg (fun r e => (hr r e).2) h1, grown_own hg (fun r e => (hr r e).2) h2, h3.grown hg h3.size (fun k e => by have := (hr k e).1; omega)⟩)
  (fun _ _ _ _ _ hs _ _ => hs)
  ⟨_, hv0, ⟨rfl, .inl ⟨rfl, rfl⟩⟩, hb0⟩
  (fun x a' W => ∃ c, a' = { tmps := #[.slice none 0 0, .func (.func g) #[] lb, .pointer (some ⟨w.heap.size, 0, none⟩), undef, .slice none 0 0, .pointer (some ⟨c, 0, none⟩), .func (.func g) #[] lb, yL x, undef, undef, undef, undef, undef], defers := [] } ∧ W.heap[c]? = some (zo x))
  (fun x a' s A B row hs hg hr => by
   obtain ⟨c, h1, h2⟩ := hs
   exact ⟨c, h1, grown_keeps hg (fun r e => (hr r e).2) h2⟩) ?assign ?body ?done ?stop
 case assign =>
  intro l pre x W K hI hK
  have HI := zh hI
  have HK := zh hK
  clear hI hK
  gi_wp2_with (first
   | (refine xI (fun _ => trivial) rfl _ _ _ rfl _ _ rfl rfl _ _ (heap_alloc_new _ _) ?_ ?_ ?_ ?_; kernel_rfl; rfl; kernel_rfl; rw [World.setRow_alloc_new])
   | gi_round_op_a)
  go_frame
  have hb : Below W.heap.size W (W.alloc (zo x)) := (Below.refl _ W).alloc (zn _) _
  refine HK.out _ _ ((KeepsOthers.alloc _ _).from _) (KeepsWalks.alloc _ _) ?_ ⟨W.heap.size, rfl, heap_alloc_new _ _⟩
  obtain ⟨v, h1, h2, h3⟩ := HI.out
  exact ⟨v, za hb h1, h2.alloc _, h3.alloc h3.size _⟩
 case body =>
  rintro l pre x a' W hl hr ⟨v, hv, hrow, hb⟩ ⟨c, rfl, hcb⟩ hlen
  have hcc := fun o => cell_of_row W w.heap.size o _ _ _ hv
  have HC := zh hcb
  have HO := zh hrow
  have HB := zh hb
  have HV := zh hv
  have hlen' : pre.length ≤ 1000000000 := by omega
  have HLN := zh hlen'
  obtain ⟨i0, hi, hz0, hz1, hz2⟩ := info_parts y7
  clear hcb hrow hb hv hlen hl hr hlen'
  gi_wp2_with (first
   | (refine x3 (fun _ => trivial) rfl _ _ rfl _ rfl _ _ _ _ HC.out Tryz.underlying47 rfl (by kernel_rfl) ?_)
   | (gi_at_builtin; refine wpListIn_append_own _ rfl _ _ 40 rfl w.heap.size 47 i0 _ 2 16 Tryz.underlying40 hi hz0 hz1 hz2 rfl (by decide) v pre.length (zp pre) rfl (HO.out.alloc _) ⟨W.heap.size, 0, none⟩ 1 1 (yQ x) rfl rfl (app_cells W x) (plcL_one x) (app_len HLN.out) (app_bytes HLN.out) (app_base HB.out) ?_
      intro v' w3 hown' hg3 hnil3
      obtain ⟨g', cap', rfl⟩ := own_one hown'
      have HO3 := zh hown'
      have HG3 := zh hg3
      have HV3 := zh ((hg3.block w.heap.size (by have := HB.out.size; have := (Array.getElem?_eq_some_iff.1 HV.out).1; simp; omega) (fun e => xY (HO.out.alloc (zo x)) (za ((Below.refl _ W).alloc (zn _) (zo x)) HV.out) (fun cs fr e => by cases e) e.symm)).trans (za ((Below.refl _ W).alloc (zn _) (zo x)) HV.out))
      clear hown' hg3 hnil3
      have hc3 := fun o => cell_of_row w3 w.heap.size o _ _ _ HV3.out
      have hf3 := fun o => frozen_of_row w3 w.heap.size o _ _ HV3.out)
   | gi_round_op_a)
  have hko : KeepsOthers W (w3.setCell ⟨w.heap.size, 0, none⟩ (.slice (some ⟨g', 0, none⟩) (pre.length + 1) cap')) := ((KeepsOthers.alloc W (zo x)).trans (KeepsOthers.of_grownBy HG3.out (fun j o hj ho => by
   obtain ⟨-, cs, hc⟩ := zz (HO.out.alloc (zo x)) j hj
   rw [hc] at ho
   injection ho with ho
   rw [← ho]
   rfl))).trans (KeepsOthers.setCell _ _ _)
  refine ⟨hko.from _, hko.walks, _, (heap_setCell_same HV3.out (i := 0) _), ?_, ?_⟩
  ·rw [plcs_snoc, List.length_append]
   exact zi HO3.out ((zg.refl (fun k => k = w.heap.size) w3).setCell _ (fun _ => rfl)) (ye HO3.out HV3.out (fun cs fr e => by cases e))
  ·refine (((HB.out.alloc HB.out.size _).grown HG3.out (app_base HB.out) (fun k e => ((HO.out.alloc (zo x)).lt k e).1)).setCell (zn _) _)
 case done =>
  rintro D xs W hD hS ⟨v, hv, hrow, hb⟩ hK
  have hcc := fun o => cell_of_row W w.heap.size o _ _ _ hv
  gi_wp2
  refine ⟨by simp, .inl ⟨_, _, rfl, run_takeDeferred hK, ?_⟩⟩
  refine ⟨_, results_tmp rfl _ _ _, v, xs, rfl, hS, ?_, ?_⟩
  ·exact zi hrow ((zg.refl (fun k => k = D) W).grown (grownBy_putObj' W D _) (fun k e _ => by injection e with e; exact e.symm)) (ye hrow hK (fun cs fr e => by cases e))
  ·exact hb.grown (grownBy_putObj' W D _) hb.size (fun k e => by cases e; omega)
 case stop =>
  rintro D c pre W hD - h
  exact h.elim
set_option maxRecDepth 100000 in
theorem keysB_any (g : Nat) (w : World) : Calls Tryz.prog 102 #[.map (some g)] w fun e w' => e = .returned (.func (.func 126) #[] #[.pointer (some ⟨w.heap.size, 0, none⟩)]) ∧ w' = w.alloc (.cells #[.map (some g)] 141) := by
 go_enter Tryz.func102, Tryz.ntmps102
 go_wp2
 go_ret
 exact ⟨rfl, rfl⟩
set_option maxRecDepth 100000 in
theorem keysR_any (g : Nat) (w : World) : Calls Tryz.prog 73 #[.map (some g)] w fun e w' => e = .returned (.func (.func 105) #[] #[.pointer (some ⟨w.heap.size, 0, none⟩)]) ∧ w' = w.alloc (.cells #[.map (some g)] 140) := by
 go_enter Tryz.func73, Tryz.ntmps73
 go_wp2
 go_ret
 exact ⟨rfl, rfl⟩
set_option maxRecDepth 100000 in
theorem keysI_any (g : Nat) (w : World) : Calls Tryz.prog 75 #[.map (some g)] w fun e w' => e = .returned (.func (.func 108) #[] #[.pointer (some ⟨w.heap.size, 0, none⟩)]) ∧ w' = w.alloc (.cells #[.map (some g)] 100) := by
 go_enter Tryz.func75, Tryz.ntmps75
 go_wp2
 go_ret
 exact ⟨rfl, rfl⟩
set_option maxRecDepth 100000 in
theorem collect_any (g : Nat) (lb : Array Value) (eg : ∀ args w, (callFunc g args).run Tryz.prog w = .ok (.enter g args) w) (S : List zb → Prop) (N : Nat) (hN : N ≤ 1000000000) (w : World) (hseq : SeqStopsK Fence.wide 4 Tryz.prog g lb (fun p => #[yL p]) KeepsWalks S (fun _ => True) N w) :
  Calls Tryz.prog 103 #[.func (.func g) #[] lb] w fun e w' => ∃ v ss, e = .returned v ∧ S ss ∧ w'.ownsRow w.heap.size 47 2 v ss.length (zp ss) ∧ Below w.heap.size w w' := by
 have HA := zh (appendSeq_any g lb eg S N hN w hseq)
 clear hseq
 go_enter Tryz.func103, Tryz.ntmps103
 go_wp2_with (go_at_call 127; refine HA.out.mono ?_; rintro e w' ⟨v, ss, rfl, hS, ho, hb⟩; have H1 := zh hS; have H2 := zh ho; have H3 := zh hb; clear hS ho hb)
 go_ret
 exact ⟨v, ss, rfl, H1.out, H2.out, H3.out⟩
end Go.Proofs.YteofmaiojepdkaaGreat
