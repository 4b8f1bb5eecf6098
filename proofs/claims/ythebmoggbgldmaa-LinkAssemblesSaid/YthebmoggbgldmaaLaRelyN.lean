/- read of package isa. -/
import Derived.Test.YthebmoggbgldmaaLaRely
import Derived.Deep.QuietTactic
import Derived.BigQuiet
set_option linter.all false
namespace Go.Proofs.Ythebmoggbgldmaa
open Go Go.RowKit
theorem stV {al : List Nat} {n : Nat} {l : List Fct} {rd : List (List Nat)} {drops : Nat → List Nat} {S : World → Prop} {i : Nat} {f : Nat → Value} {w : World} {x : Value} {P : Program} {ops : Array Oper} {F : Act} {dd : List Deferred} {o : Oper} {K : Act → World → Prop} {Q : Exit → Act → World → Prop}
  (hK : Shut (∀ a' w', a'.defers = dd → zr al n (z5 l) (nth rd) drops S i f w (jG o a') w' → K a' w')) (hdd : F.defers = dd) (hi : l[i]? = some (isV x)) (hr : rd[i]? = some [i]) (hal : al.contains i = false) (hv : jG o (F.put o.dst x) = x) (hw : Region.wanted o (yielded ops F.tmps) = true) (h : (execOp F.eval o).run P w = .ok (.value x) w) :
  if Region.wanted o (yielded ops F.tmps) = true then o.wp P F w K Q else K (F.put o.dst undef) w := by
 rw [if_pos hw]
 exact zx h (hK.out _ _ (by rw [← hdd]; cases o.dst <;> rfl) (zq hi hr hal hv))
theorem stR {al : List Nat} {n : Nat} {l : List Fct} {rd : List (List Nat)} {drops : Nat → List Nat} {S : World → Prop} {i : Nat} {f : Nat → Value} {w : World} {cs : Array Value} {P : Program} {ops : Array Oper} {F : Act} {dd : List Deferred} {o : Oper} {K : Act → World → Prop} {Q : Exit → Act → World → Prop} {ty : TypeId} {y : Operand} {g : Nat} {t : TypeId} {fr : Nat × Nat}
  (hK : Shut (∀ a' w', a'.defers = dd → zr al n (z5 l) (nth rd) drops S i f w (jG o a') w' → K a' w')) (hdd : F.defers = dd) (hi : l[i]? = some (isV (.agg cs))) (hr : rd[i]? = some [i]) (hal : al.contains i = false) (hv : jG o (F.put o.dst (.agg cs)) = .agg cs) (hw : Region.wanted o (yielded ops F.tmps) = true)
  (ho : o.op = .load ty y) (hx : F.eval y = .pointer (some ⟨g, 0, none⟩)) (hg : w.heap[g]? = some (.cells cs t fr)) (hb : rowB P ty cs.size = true) :
  if Region.wanted o (yielded ops F.tmps) = true then o.wp P F w K Q else K (F.put o.dst undef) w := by
 rw [if_pos hw]
 exact wp_load_rowB ty y ho g hx t cs fr hg hb (hK.out _ _ (by rw [← hdd]; cases o.dst <;> rfl) (zq hi hr hal hv))
theorem stC {al : List Nat} {n : Nat} {l : List Fct} {rd : List (List Nat)} {drops : Nat → List Nat} {S : World → Prop} {i : Nat} {f : Nat → Value} {w : World} {x : Value} {P : Program} {ops : Array Oper} {F : Act} {dd : List Deferred} {o : Oper} {K : Act → World → Prop} {Q : Exit → Act → World → Prop} {ty : TypeId} {y : Operand} {g off : Nat} {cs : Array Value} {t : TypeId} {fr : Nat × Nat}
  (hK : Shut (∀ a' w', a'.defers = dd → zr al n (z5 l) (nth rd) drops S i f w (jG o a') w' → K a' w')) (hdd : F.defers = dd) (hi : l[i]? = some (isV x)) (hr : rd[i]? = some [i]) (hal : al.contains i = false) (hv : jG o (F.put o.dst x) = x) (hw : Region.wanted o (yielded ops F.tmps) = true)
  (ho : o.op = .load ty y) (hx : F.eval y = .pointer (some ⟨g, off, none⟩)) (hg : w.heap[g]? = some (.cells cs t fr)) (hc : cs[off]? = some x) (ha : ∀ w, (isAgg ty).run P w = .ok false w) :
  if Region.wanted o (yielded ops F.tmps) = true then o.wp P F w K Q else K (F.put o.dst undef) w :=
 stV hK hdd hi hr hal hv hw (exec_load_at ty y ho g off hx cs t fr hg x hc ha)
end Go.Proofs.Ythebmoggbgldmaa
namespace Go.Proofs.Ythebmoggbgldmaa
open Go.RowKit
def fmtRows : List (List Int) := [
 [0x00, 0x05, 0, 0, 0, 0], [0x10, 0x13, 2, 0, 0, 0], [0x14, 0x15, 4, 0, 0, 0],
 [0x20, 0x2e, 1, 0, 0, 0], [0x30, 0x3e, 2, 5, 0, 0], [0x40, 0x4e, 2, 6, 0, 0],
 [0x50, 0x53, 1, 5, 0, 0], [0x58, 0x5b, 1, 6, 0, 0], [0x54, 0x57, 2, 6, 0, 0],
 [0x60, 0x6d, 5, 0, 0, 0], [0x70, 0x7d, 6, 0, 0, 0], [0x80, 0x80, 5, 0, 0, 0], [0x81, 0x82, 6, 0, 0, 0],
 [0x83, 0x84, 8, 6, 0, 0], [0x85, 0x85, 2, 9, 6, 7], [0x86, 0x86, 2, 6, 0, 0],
 [0x90, 0x91, 2, 4, 0, 0], [0x92, 0x93, 1, 8, 6, 0], [0x96, 0x96, 3, 6, 7, 0],
 [0xa0, 0xa1, 2, 4, 0, 0], [0xa2, 0xa3, 2, 5, 0, 0]]
def fmtCells : Array Value := (fmtRows.flatMap fun r => r.map vi).toArray
set_option maxRecDepth 100000 in
set_option maxHeartbeats 1000000 in
theorem formats_any (w : World) :
  Calls Try.prog 95 #[] w fun e w' => e = .returned (.agg fmtCells) ∧ ∃ o, w' = w.alloc o := by
 go_enter Try.func95, Try.ntmps95
 go_wp2_with (refine wpList_store_row rfl 155 (.tmp 0) (.tmp 43) rfl w.heap.size fmtCells rfl ?h1 155 _ (heap_alloc_new _ _) ?h2 ?h3 ?h4 ?_; (case h1 => rfl); (case h2 => kernel_rfl); (case h3 => kernel_rfl); (case h4 => kernel_rfl))
 refine bodyPost_ret (results_cell_row (cs := fmtCells) (fr := (0, 0)) rfl _ _ w.heap.size 155 _ rfl (setRow_heap _ _ _ _ _ _ (heap_alloc_new _ _)) (Try.underlying155) rfl (by kernel_rfl)) rfl ⟨rfl, _, World.setRow_alloc_new _ _ _ _⟩
def fRow (k : Nat) : List Int := fmtRows.getD k []
def fAt (k j : Nat) : Int := (fRow k).getD j 0
def fCells (k : Nat) : Array Value := #[vi (fAt k 0), vi (fAt k 1), vi (fAt k 2), vi (fAt k 3), vi (fAt k 4), vi (fAt k 5)]
theorem index_fmt (k : Nat) (hk : k < 21) (w : World) : (Instr.index 155 (.agg fmtCells) (.int .i64 k)).run Try.prog w = .ok (.agg (fCells k)) w := by
 have h : k = 0 ∨ k = 1 ∨ k = 2 ∨ k = 3 ∨ k = 4 ∨ k = 5 ∨ k = 6 ∨ k = 7 ∨ k = 8 ∨ k = 9 ∨ k = 10 ∨ k = 11 ∨ k = 12 ∨ k = 13 ∨ k = 14 ∨ k = 15 ∨ k = 16 ∨ k = 17 ∨ k = 18 ∨ k = 19 ∨ k = 20 := by omega
 rcases h with rfl | rfl | rfl | rfl | rfl | rfl | rfl | rfl | rfl | rfl | rfl | rfl | rfl | rfl | rfl | rfl | rfl | rfl | rfl | rfl | rfl <;> (show _ = _; kernel_rfl)
end Go.Proofs.Ythebmoggbgldmaa
namespace Go.Proofs.Ythebmoggbgldmaa
open Go.RowKit
def fFrom (op : Int) : Nat → Nat → Option Nat
 | _, 0 => none
 | k, n + 1 => if fAt k 0 ≤ op ∧ op ≤ fAt k 1 then some k else fFrom op (k + 1) n
def fOf (op : Int) : Option Nat := fFrom op 0 21
def fld (op : Int) (j : Nat) : Int := match fOf op with
 | some k => fAt k (j + 2)
 | none => 0
theorem zz {op : Int} {k : Nat} (h : fOf op = some k) (j : Nat) : fld op j = fAt k (j + 2) := by unfold fld; rw [h]
theorem fld_none {op : Int} (h : fOf op = none) (j : Nat) : fld op j = 0 := by unfold fld; rw [h]
set_option maxRecDepth 100000 in
set_option maxHeartbeats 1000000 in
theorem jv (op : Int) (w : World) :
  Calls Try.prog 82 #[.int .i64 op] w fun e w' => e = .returned (.tuple #[.agg #[vi (fld op 0), vi (fld op 1), vi (fld op 2), vi (fld op 3)], .bool (fOf op).isSome]) ∧ Below w.heap.size w w' := by
 go_enter Try.func82, Try.ntmps82
 go_wp2_with (go_at_call 95; refine (formats_any _).mono ?_; rintro e w' ⟨rfl, o, rfl⟩)
 go_loopg [5, 7] 22 (fun g p i wr => ∃ k : Nat, k + g = 22 ∧ k ≤ 21 ∧ i = .int .i64 k ∧ fFrom op 0 21 = fFrom op k (21 - k) ∧ Below (w.heap.size + 1) (w.alloc (Obj.cells #[Value.int IntKind.i64 0, Value.int IntKind.i64 0, Value.int IntKind.i64 0, Value.int IntKind.i64 0] 139)) wr)
 case atStart => exact ⟨0, rfl, by omega, rfl, rfl, (Below.refl _ _).alloc (by simp) _⟩
 case round =>
  obtain ⟨k, hg, hk, rfl, hF, hb⟩ := hrel
  have HF := zh hF
  clear hF
  have hix := index_fmt k
  have hB := hb.block w.heap.size (by omega)
  rw [heap_alloc_new] at hB
  have hBs := lt_of_below_alloc hb
  by_cases hlt : k < 21
  ·have hix := hix hlt
   go_wp2_with (first | (refine wpList_store_row rfl 154 (.tmp 5) (.tmp 9) rfl wr.heap.size (fCells k) rfl rfl 154 _ (heap_alloc_new _ _) ?_ ?_ ?_ ?_; kernel_rfl; rfl; kernel_rfl; rw [World.setRow_alloc_new]; unfold fCells vi) | (refine wpList_store_row rfl 139 (.tmp 2) (.tmp 21) rfl w.heap.size #[vi (fAt k 2), vi (fAt k 3), vi (fAt k 4), vi (fAt k 5)] rfl rfl 139 _ ((heap_alloc_old _ _ hBs).trans hB) ?_ ?_ ?_ ?_; kernel_rfl; rfl; kernel_rfl))
   ·have e : fFrom op k (21 - k) = some k := by
     rw [show 21 - k = (20 - k) + 1 by omega, fFrom, if_pos ⟨by assumption, by assumption⟩]
    refine bodyPost_ret (v := .tuple #[.agg #[vi (fld op 0), vi (fld op 1), vi (fld op 2), vi (fld op 3)], .bool (fOf op).isSome]) ?_ rfl ⟨rfl, ?_⟩
    ·have hh : fOf op = some k := HF.out.trans e
     rw [zz hh, zz hh, zz hh, zz hh, hh]
     refine zI Try.results82 _ _ w.heap.size 139 _ (0, 0) _ ?_ (setRow_heap _ _ _ _ _ _ ((heap_alloc_old _ _ hBs).trans hB)) Try.underlying139 rfl (by kernel_rfl); rfl
    ·exact below_setRow ((((Below.refl _ _).alloc (zn _) _).trans (hb.mono (by omega))).alloc (by omega) _) (zn _) _
   all_goals
    have hns : fFrom op k (21 - k) = fFrom op (k + 1) (21 - (k + 1)) := by
     rw [show 21 - k = (20 - k) + 1 by omega, fFrom, if_neg (by omega), show 20 - k = 21 - (k + 1) by omega]
    go_roundg (gk - 1)
    case measure => omega
    case rel => exact ⟨k + 1, by omega, by omega, by go_num, HF.out.trans hns, hb.alloc (by omega) _⟩
  ·go_wp2_with (refine wpList_store_row rfl 139 (.tmp 2) (.tmp 23) rfl w.heap.size #[vi 0, vi 0, vi 0, vi 0] rfl rfl 139 _ hB ?_ ?_ ?_ ?_; kernel_rfl; rfl; kernel_rfl)
   have hk21 : k = 21 := by omega
   subst hk21
   have hh : fOf op = none := HF.out
   refine bodyPost_ret (v := .tuple #[.agg #[vi (fld op 0), vi (fld op 1), vi (fld op 2), vi (fld op 3)], .bool (fOf op).isSome]) ?_ rfl ⟨rfl, ?_⟩
   ·rw [fld_none hh, fld_none hh, fld_none hh, fld_none hh, hh]
    refine zI Try.results82 _ _ w.heap.size 139 _ (0, 0) _ ?_ (setRow_heap _ _ _ _ _ _ hB) Try.underlying139 rfl (by kernel_rfl); rfl
   ·exact below_setRow (((Below.refl _ _).alloc (zn _) _).trans (hb.mono (by omega))) (zn _) _
end Go.Proofs.Ythebmoggbgldmaa
namespace Go.Proofs.Ythebmoggbgldmaa
open Go.RowKit
theorem index4_0 (a b c d : Value) (w : World) : (Instr.index 139 (.agg #[a, b, c, d]) (.int .i64 0)).run Try.prog w = .ok a w := by kernel_rfl
theorem index4_1 (a b c d : Value) (w : World) : (Instr.index 139 (.agg #[a, b, c, d]) (.int .i64 1)).run Try.prog w = .ok b w := by kernel_rfl
theorem index4_2 (a b c d : Value) (w : World) : (Instr.index 139 (.agg #[a, b, c, d]) (.int .i64 2)).run Try.prog w = .ok c w := by kernel_rfl
theorem index4_3 (a b c d : Value) (w : World) : (Instr.index 139 (.agg #[a, b, c, d]) (.int .i64 3)).run Try.prog w = .ok d w := by kernel_rfl
def width (n : Int) : Int := if n = 0 then 0 else if n = 6 ∨ n = 7 then 2 else 1
theorem width_bd (n : Int) : 0 ≤ width n ∧ width n ≤ 2 := by unfold width; split; omega; split <;> omega
set_option maxHeartbeats 400000 in
theorem width_any (n : Int) (w : World) :
  Calls Try.prog 94 #[.int .i64 n] w fun e w' => e = .returned (.int .i64 (width n)) ∧ w = w' := by
 go_enter Try.func94, Try.ntmps94
 go_wp2
 all_goals (go_ret; exact ⟨by congr 2; unfold width; simp_all, rfl⟩)
def zM (n : Int) : Int := if n < 128 then n else n + 65280
set_option maxHeartbeats 400000 in
theorem extend_any (n : Int) (h0 : 0 ≤ n) (h1 : n < 256) (w : World) :
  Calls Try.prog 97 #[.int .u8 n] w fun e w' => e = .returned (.int .u16 (zM n)) ∧ w = w' := by
 go_enter Try.func97, Try.ntmps97
 go_wp2
 go_ret
 refine ⟨?_, rfl⟩
 show Ending.returned (.int .u16 _) = _
 congr 2
 unfold zM IntKind.wrap
 simp [IntKind.bits, IntKind.signed]
 split <;> split <;> omega
set_option maxHeartbeats 400000 in
theorem known_any (n : Int) (w : World) :
  Calls Try.prog 87 #[.int .i64 n] w fun e w' => e = .returned (.bool (fOf n).isSome) ∧ Below w.heap.size w w' := by
 go_enter Try.func87, Try.ntmps87
 go_wp2_with (first | (refine wpList_store_row rfl _ _ _ rfl _ _ rfl rfl _ _ (heap_alloc_new _ _) ?_ ?_ ?_ ?_; kernel_rfl; rfl; kernel_rfl; rw [World.setRow_alloc_new]) | (go_at_call 82; refine (jv _ _).mono ?_; rintro e w1 ⟨rfl, hb1⟩))
 go_ret
 exact ⟨rfl, hb1.alloc hb1.size _⟩
def zH (op : Int) : Int := match fOf op with
 | none => 0
 | some k => 1 + width (fAt k 2) + width (fAt k 3) + width (fAt k 4) + width (fAt k 5)
def accS (k : Nat) : Nat → Int
 | 0 => 1
 | 1 => 1 + width (fAt k 2)
 | 2 => 1 + width (fAt k 2) + width (fAt k 3)
 | 3 => 1 + width (fAt k 2) + width (fAt k 3) + width (fAt k 4)
 | _ => 1 + width (fAt k 2) + width (fAt k 3) + width (fAt k 4) + width (fAt k 5)
set_option maxHeartbeats 1000000 in
theorem size_any (n : Int) (h0 : 0 ≤ n) (h1 : n < 256) (w : World) :
  Calls Try.prog 80 #[.int .u8 n] w fun e w' => e = .returned (.int .i64 (zH n)) ∧ Below w.heap.size w w' := by
 cases hf : fOf n with
 | none =>
  have HF := zh hf
  clear hf
  go_enter Try.func80, Try.ntmps80
  go_wp2_with (first | (refine wpList_store_row rfl _ _ _ rfl _ _ rfl rfl _ _ (heap_alloc_new _ _) ?_ ?_ ?_ ?_; kernel_rfl; rfl; kernel_rfl; rw [World.setRow_alloc_new]) | (go_at_call 82; refine (jv _ _).mono ?_; rintro e w1 ⟨rfl, hb1⟩; rw [HF.out, Option.isSome_none]))
  go_ret
  exact ⟨by unfold zH; rw [HF.out]; rfl, hb1.alloc hb1.size _⟩
 | some k =>
  have HF := zh hf
  have HS := zh hf
  have b0 := width_bd (fAt k 2)
  have b1 := width_bd (fAt k 3)
  have b2 := width_bd (fAt k 4)
  have b3 := width_bd (fAt k 5)
  clear hf
  have i0 := index4_0
  have i1 := index4_1
  have i2 := index4_2
  have i3 := index4_3
  go_enter Try.func80, Try.ntmps80
  go_wp2_with (first | (refine wpList_store_row rfl _ _ _ rfl _ _ rfl rfl _ _ (heap_alloc_new _ _) ?_ ?_ ?_ ?_; kernel_rfl; rfl; kernel_rfl; rw [World.setRow_alloc_new]) | (go_at_call 82; refine (jv _ _).mono ?_; rintro e w1 ⟨rfl, hb1⟩; rw [HF.out, Option.isSome_some, zz HF.out, zz HF.out, zz HF.out, zz HF.out]))
  clear HF
  go_loop [5, 17] (fun acc i => ∃ j : Nat, j ≤ 4 ∧ i = .int .i64 j ∧ acc = .int .i64 (accS k j)) (fun _ i => 4 - (intOf i).toNat)
  case atStart => exact ⟨0, by omega, rfl, rfl⟩
  case round =>
   obtain ⟨j, hj, rfl, rfl⟩ := hrel
   have hj5 : j = 0 ∨ j = 1 ∨ j = 2 ∨ j = 3 ∨ j = 4 := by omega
   rcases hj5 with rfl | rfl | rfl | rfl | rfl
   all_goals
    simp only [accS]
    go_wp2_with (go_at_call 94; refine (width_any _ _).mono ?_; rintro e w2 ⟨rfl, rfl⟩)
   ·go_round
    case rel => exact ⟨1, by omega, by go_num, rfl⟩
    case measure => simp [intOf]
   ·go_round
    case rel => exact ⟨2, by omega, by go_num, rfl⟩
    case measure => simp [intOf]
   ·go_round
    case rel => exact ⟨3, by omega, by go_num, rfl⟩
    case measure => simp [intOf]
   ·go_round
    case rel => exact ⟨4, by omega, by go_num, rfl⟩
    case measure => simp [intOf]
   ·go_ret
    exact ⟨by unfold zH; rw [HS.out]; rfl, hb1.alloc hb1.size _⟩
end Go.Proofs.Ythebmoggbgldmaa
namespace Go.Proofs.Ythebmoggbgldmaa
open Go.RowKit
def yz (n : Int) : Bool := decide (0 ≤ n) && decide (n < 8)
def yQ (f : Int) (i : Ins) : Bool :=
 if f = 1 then yz i.d && yz i.s else if f = 2 then yz i.d else if f = 3 then yz i.s
 else if f = 4 then decide (i.imm < 256) else if f = 5 then decide (zM (i.imm % 256) = i.imm)
 else if f = 8 then decide (0 ≤ i.bank) && decide (i.bank < 64) else if f = 9 then decide (1 ≤ i.bank) && decide (i.bank < 256) else true
set_option maxHeartbeats 400000 in
theorem reg_any (n : Int) (w : World) :
  Calls Try.prog 96 #[.int .i64 n] w fun e w' => e = .returned (.bool (yz n)) ∧ w = w' := by
 go_enter Try.func96, Try.ntmps96
 go_wp2
 all_goals (go_ret; exact ⟨by congr 2; unfold yz; first | (simp_all; done) | (simp_all; omega), rfl⟩)
set_option maxHeartbeats 1000000 in
theorem fits_any (f : Int) (i : Ins) (hi : i.Ok) (w : World) :
  Calls Try.prog 83 #[.int .i64 f, .agg #[.int .i64 (i).op, .int .i64 (i).d, .int .i64 (i).s, .int .u16 (i).imm, .int .u16 (i).aux, .int .i64 (i).bank, .int .i64 (i).size]] w fun e w' => e = .returned (.bool (yQ f i)) ∧ Below w.heap.size w w' := by
 obtain ⟨m0, m1⟩ := hi.imm
 have ex := fun W => extend_any (i.imm % 256) (by omega) (by omega) W
 have EX := zh ex
 clear ex
 go_enter Try.func83, Try.ntmps83
 go_wp2_with (first | (go_at_call 96; refine (reg_any _ _).mono ?_; rintro e w1 ⟨rfl, rfl⟩))
 all_goals first
  | (go_ret; refine ⟨?_, (Below.refl _ _).alloc (zn _) _⟩; congr 2; unfold yQ; first | (simp_all; done) | (simp_all; omega))
  | skip
 go_quiet ((go_at_call 97; exact Calls.quiet_of_same ((EX.out _).mono fun _ _ h => ⟨h.1, h.2.symm⟩)))
 go_wp2
 go_ret
 refine ⟨?_, ?_⟩
 ·congr 2; unfold yQ; simp_all; rfl
 ·exact below_drewN ((Below.refl _ _).alloc (zn _) _) _
def xe (f : Int) (i : Ins) : List Int :=
 if f = 1 then [16 * i.d + i.s] else if f = 2 then [i.d] else if f = 3 then [i.s]
 else if f = 4 then [i.imm % 256] else if f = 5 then [i.imm % 256] else if f = 6 then [i.imm % 256, i.imm / 256]
 else if f = 7 then [i.aux % 256, i.aux / 256] else if f = 8 then [i.bank] else if f = 9 then [i.bank] else []
def PutPost (f : Int) (i : Ins) (w : World) (e : Ending) (w' : World) : Prop :=
 ∃ v, e = .returned v ∧ w'.ownsRow w.heap.size 5 1 v (xe f i).length (bv (xe f i)) ∧ Below w.heap.size w w'
theorem own_lit (w : World) (o : Obj) (l : List Int) (n : Nat) (hn : n = l.length) (hm : n ≤ 8) :
  ((w.alloc o).alloc (.cells (bv l).toArray 5)).ownsRow w.heap.size 5 1 (.slice (some ⟨w.heap.size + 1, 0, none⟩) n n) n (bv l) := by
 have h := World.ownsRow_lit (base := w.heap.size) (size := 1) (e := 5) (w.alloc o) (bv l).toArray n (by simp) (by unfold maxLen; omega) (by simp [bv, hn])
 simpa using h
set_option maxHeartbeats 1000000 in
theorem put_1 (i : Ins) (hi : i.Ok) (hf : yQ 1 i = true) (w : World) :
  Calls Try.prog 84 #[.int .i64 1, .agg #[.int .i64 (i).op, .int .i64 (i).d, .int .i64 (i).s, .int .u16 (i).imm, .int .u16 (i).aux, .int .i64 (i).bank, .int .i64 (i).size]] w (PutPost 1 i w) := by
 obtain ⟨m0, m1⟩ := hi.imm
 obtain ⟨a0, a1⟩ := hi.aux
 simp [yQ, yz] at hf
 have e : xe 1 i = [16 * i.d + i.s] := by simp [xe]
 have E := zh e
 clear e
 obtain ⟨⟨d0, d1⟩, s0, s1⟩ := hf
 go_enter Try.func84, Try.ntmps84
 go_wp2
 go_ret
 refine ⟨_, rfl, ?_, ((Below.refl _ _).alloc (zn _) _).alloc (by simp) _⟩
 rw [E.out]
 exact own_lit w _ [16 * i.d + i.s] 1 rfl (by decide)
set_option maxHeartbeats 1000000 in
theorem put_2 (i : Ins) (hi : i.Ok) (hf : yQ 2 i = true) (w : World) :
  Calls Try.prog 84 #[.int .i64 2, .agg #[.int .i64 (i).op, .int .i64 (i).d, .int .i64 (i).s, .int .u16 (i).imm, .int .u16 (i).aux, .int .i64 (i).bank, .int .i64 (i).size]] w (PutPost 2 i w) := by
 obtain ⟨m0, m1⟩ := hi.imm
 obtain ⟨a0, a1⟩ := hi.aux
 simp [yQ, yz] at hf
 have e : xe 2 i = [i.d] := by simp [xe]
 have E := zh e
 clear e
 obtain ⟨d0, d1⟩ := hf
 go_enter Try.func84, Try.ntmps84
 go_wp2
 go_ret
 refine ⟨_, rfl, ?_, ((Below.refl _ _).alloc (zn _) _).alloc (by simp) _⟩
 rw [E.out]
 exact own_lit w _ [i.d] 1 rfl (by decide)
set_option maxHeartbeats 1000000 in
theorem put_3 (i : Ins) (hi : i.Ok) (hf : yQ 3 i = true) (w : World) :
  Calls Try.prog 84 #[.int .i64 3, .agg #[.int .i64 (i).op, .int .i64 (i).d, .int .i64 (i).s, .int .u16 (i).imm, .int .u16 (i).aux, .int .i64 (i).bank, .int .i64 (i).size]] w (PutPost 3 i w) := by
 obtain ⟨m0, m1⟩ := hi.imm
 obtain ⟨a0, a1⟩ := hi.aux
 simp [yQ, yz] at hf
 have e : xe 3 i = [i.s] := by simp [xe]
 have E := zh e
 clear e
 obtain ⟨d0, d1⟩ := hf
 go_enter Try.func84, Try.ntmps84
 go_wp2
 go_ret
 refine ⟨_, rfl, ?_, ((Below.refl _ _).alloc (zn _) _).alloc (by simp) _⟩
 rw [E.out]
 exact own_lit w _ [i.s] 1 rfl (by decide)
set_option maxHeartbeats 1000000 in
theorem put_4 (i : Ins) (hi : i.Ok) (hf : yQ 4 i = true) (w : World) :
  Calls Try.prog 84 #[.int .i64 4, .agg #[.int .i64 (i).op, .int .i64 (i).d, .int .i64 (i).s, .int .u16 (i).imm, .int .u16 (i).aux, .int .i64 (i).bank, .int .i64 (i).size]] w (PutPost 4 i w) := by
 obtain ⟨m0, m1⟩ := hi.imm
 obtain ⟨a0, a1⟩ := hi.aux
 simp [yQ, yz] at hf
 have e : xe 4 i = [i.imm % 256] := by simp [xe]
 have E := zh e
 clear e
 clear hf
 go_enter Try.func84, Try.ntmps84
 go_wp2
 go_ret
 refine ⟨_, rfl, ?_, ((Below.refl _ _).alloc (zn _) _).alloc (by simp) _⟩
 rw [E.out]
 exact own_lit w _ [i.imm % 256] 1 rfl (by decide)
set_option maxHeartbeats 1000000 in
theorem put_5 (i : Ins) (hi : i.Ok) (hf : yQ 5 i = true) (w : World) :
  Calls Try.prog 84 #[.int .i64 5, .agg #[.int .i64 (i).op, .int .i64 (i).d, .int .i64 (i).s, .int .u16 (i).imm, .int .u16 (i).aux, .int .i64 (i).bank, .int .i64 (i).size]] w (PutPost 5 i w) := by
 obtain ⟨m0, m1⟩ := hi.imm
 obtain ⟨a0, a1⟩ := hi.aux
 simp [yQ, yz] at hf
 have e : xe 5 i = [i.imm % 256] := by simp [xe]
 have E := zh e
 clear e
 clear hf
 go_enter Try.func84, Try.ntmps84
 go_wp2
 go_ret
 refine ⟨_, rfl, ?_, ((Below.refl _ _).alloc (zn _) _).alloc (by simp) _⟩
 rw [E.out]
 exact own_lit w _ [i.imm % 256] 1 rfl (by decide)
set_option maxHeartbeats 1000000 in
theorem put_6 (i : Ins) (hi : i.Ok) (hf : yQ 6 i = true) (w : World) :
  Calls Try.prog 84 #[.int .i64 6, .agg #[.int .i64 (i).op, .int .i64 (i).d, .int .i64 (i).s, .int .u16 (i).imm, .int .u16 (i).aux, .int .i64 (i).bank, .int .i64 (i).size]] w (PutPost 6 i w) := by
 obtain ⟨m0, m1⟩ := hi.imm
 obtain ⟨a0, a1⟩ := hi.aux
 simp [yQ, yz] at hf
 have e : xe 6 i = [i.imm % 256, i.imm / 256] := by simp [xe]
 have E := zh e
 clear e
 go_enter Try.func84, Try.ntmps84
 go_wp2
 go_ret
 refine ⟨_, rfl, ?_, ((Below.refl _ _).alloc (zn _) _).alloc (by simp) _⟩
 rw [E.out]
 exact own_lit w _ [i.imm % 256, i.imm / 256] 2 rfl (by decide)
set_option maxHeartbeats 1000000 in
theorem put_7 (i : Ins) (hi : i.Ok) (hf : yQ 7 i = true) (w : World) :
  Calls Try.prog 84 #[.int .i64 7, .agg #[.int .i64 (i).op, .int .i64 (i).d, .int .i64 (i).s, .int .u16 (i).imm, .int .u16 (i).aux, .int .i64 (i).bank, .int .i64 (i).size]] w (PutPost 7 i w) := by
 obtain ⟨m0, m1⟩ := hi.imm
 obtain ⟨a0, a1⟩ := hi.aux
 simp [yQ, yz] at hf
 have e : xe 7 i = [i.aux % 256, i.aux / 256] := by simp [xe]
 have E := zh e
 clear e
 go_enter Try.func84, Try.ntmps84
 go_wp2
 go_ret
 refine ⟨_, rfl, ?_, ((Below.refl _ _).alloc (zn _) _).alloc (by simp) _⟩
 rw [E.out]
 exact own_lit w _ [i.aux % 256, i.aux / 256] 2 rfl (by decide)
set_option maxHeartbeats 1000000 in
theorem put_8 (i : Ins) (hi : i.Ok) (hf : yQ 8 i = true) (w : World) :
  Calls Try.prog 84 #[.int .i64 8, .agg #[.int .i64 (i).op, .int .i64 (i).d, .int .i64 (i).s, .int .u16 (i).imm, .int .u16 (i).aux, .int .i64 (i).bank, .int .i64 (i).size]] w (PutPost 8 i w) := by
 obtain ⟨m0, m1⟩ := hi.imm
 obtain ⟨a0, a1⟩ := hi.aux
 simp [yQ, yz] at hf
 have e : xe 8 i = [i.bank] := by simp [xe]
 have E := zh e
 clear e
 obtain ⟨d0, d1⟩ := hf
 go_enter Try.func84, Try.ntmps84
 go_wp2
 go_ret
 refine ⟨_, rfl, ?_, ((Below.refl _ _).alloc (zn _) _).alloc (by simp) _⟩
 rw [E.out]
 exact own_lit w _ [i.bank] 1 rfl (by decide)
set_option maxHeartbeats 1000000 in
theorem put_9 (i : Ins) (hi : i.Ok) (hf : yQ 9 i = true) (w : World) :
  Calls Try.prog 84 #[.int .i64 9, .agg #[.int .i64 (i).op, .int .i64 (i).d, .int .i64 (i).s, .int .u16 (i).imm, .int .u16 (i).aux, .int .i64 (i).bank, .int .i64 (i).size]] w (PutPost 9 i w) := by
 obtain ⟨m0, m1⟩ := hi.imm
 obtain ⟨a0, a1⟩ := hi.aux
 simp [yQ, yz] at hf
 have e : xe 9 i = [i.bank] := by simp [xe]
 have E := zh e
 clear e
 obtain ⟨d0, d1⟩ := hf
 go_enter Try.func84, Try.ntmps84
 go_wp2
 go_ret
 refine ⟨_, rfl, ?_, ((Below.refl _ _).alloc (zn _) _).alloc (by simp) _⟩
 rw [E.out]
 exact own_lit w _ [i.bank] 1 rfl (by decide)
set_option maxHeartbeats 1000000 in
theorem put_any (f : Int) (i : Ins) (hi : i.Ok) (hf : yQ f i = true) (w : World) :
  Calls Try.prog 84 #[.int .i64 f, .agg #[.int .i64 (i).op, .int .i64 (i).d, .int .i64 (i).s, .int .u16 (i).imm, .int .u16 (i).aux, .int .i64 (i).bank, .int .i64 (i).size]] w (PutPost f i w) := by
 by_cases f1 : f = 1
 ·subst f1; exact put_1 i hi hf w
 by_cases f2 : f = 2
 ·subst f2; exact put_2 i hi hf w
 by_cases f3 : f = 3
 ·subst f3; exact put_3 i hi hf w
 by_cases f4 : f = 4
 ·subst f4; exact put_4 i hi hf w
 by_cases f5 : f = 5
 ·subst f5; exact put_5 i hi hf w
 by_cases f6 : f = 6
 ·subst f6; exact put_6 i hi hf w
 by_cases f7 : f = 7
 ·subst f7; exact put_7 i hi hf w
 by_cases f8 : f = 8
 ·subst f8; exact put_8 i hi hf w
 by_cases f9 : f = 9
 ·subst f9; exact put_9 i hi hf w
 have e : xe f i = [] := by simp [xe, f1, f2, f3, f4, f5, f6, f7, f8, f9]
 have E := zh e
 clear e
 go_enter Try.func84, Try.ntmps84
 go_wp2
 go_ret
 refine ⟨_, rfl, ?_, (Below.refl _ _).alloc (zn _) _⟩
 rw [E.out]
 exact World.ownsRow_nil _ _ _ _
end Go.Proofs.Ythebmoggbgldmaa
namespace Go.Proofs.Ythebmoggbgldmaa
open Go.RowKit
theorem u16_word (a b : Int) (a0 : 0 ≤ a) (a1 : a < 256) (b0 : 0 ≤ b) (b1 : b < 256) : bits .or .u16 a (b * 256) = a + 256 * b := by
 obtain ⟨a, rfl⟩ := Int.eq_ofNat_of_zero_le a0
 obtain ⟨b, rfl⟩ := Int.eq_ofNat_of_zero_le b0
 rw [u16_or _ _ (by omega) (by omega) (by omega) (by omega)]
 have h : a ||| b * 256 = a + 256 * b := by
  have := Nat.shiftLeft_add_eq_or_of_lt (b := a) (i := 8) (by omega) b
  rw [Nat.shiftLeft_eq, show (2 : Nat) ^ 8 = 256 from rfl] at this
  rw [Nat.or_comm]
  omega
 have e : ((b : Int) * 256).toNat = b * 256 := by omega
 rw [Int.toNat_natCast, e, h]
 omega
theorem setCell_twice (w : World) (a : Addr) (u v : Value) : (w.setCell a u).setCell a v = w.setCell a v := by
 unfold World.setCell
 congr 1
 apply Array.ext
 ·simp
 ·intro i h1 h2
  simp only [Array.getElem_modify]
  split
  ·generalize w.heap[i]'(by simpa using h2) = o
   cases o <;> simp
   split <;> simp
  ·rfl
def byt (s : ByteArray) (k : Nat) : Int := ((s.data.toList.getD k 0).toNat : Int)
theorem yj (s : ByteArray) (k : Nat) : 0 ≤ byt s k ∧ byt s k < 256 := by
 unfold byt
 have := (s.data.toList.getD k 0).toNat_lt
 omega
theorem zS (s : ByteArray) (k : Nat) (h : k < s.size) (w : World) : (Instr.index 9 (.string s) (.int .i64 k)).run Try.prog w = .ok (.int .u8 (byt s k)) w := by
 rw [run_index_string _ _ _ _ _ Try.underlying9, dif_pos (by omega)]
 congr 2
 unfold byt
 have h2 : k < s.data.toList.length := by simpa using h
 rw [List.getD_eq_getElem?_getD, List.getElem?_eq_getElem h2]
 rfl
set_option maxHeartbeats 400000 in
theorem next_any (s : ByteArray) (k g6 g0 : Nat) (h : k < s.size) (hm : s.size ≤ 9223372036854775807) (w : World) (c6 : w.cell? ⟨g6, 0, none⟩ = some (.int .i64 k)) (f6 : w.frozen? ⟨g6, 0, none⟩ = false)
  (c0 : w.cell? ⟨g0, 0, none⟩ = some (.string s)) (hne : g0 ≠ g6) :
  Calls Try.prog 98 #[.pointer (some ⟨g6, 0, none⟩), .pointer (some ⟨g0, 0, none⟩)] w fun e w' => e = .returned (.int .u8 (byt s k)) ∧ w.setCell ⟨g6, 0, none⟩ (.int .i64 ((k : Int) + 1)) = w' := by
 have ix := zS s k h
 go_enter Try.func98, Try.ntmps98
 go_wp2
 go_ret
 exact ⟨rfl, rfl⟩
set_option maxHeartbeats 1000000 in
theorem word_any (s : ByteArray) (k g7 g6 g0 : Nat) (h : k + 1 < s.size) (hm : s.size ≤ 9223372036854775807) (w : World) (c7 : w.cell? ⟨g7, 0, none⟩ = some (.func (.func 98) #[] #[.pointer (some ⟨g6, 0, none⟩), .pointer (some ⟨g0, 0, none⟩)]))
  (c6 : w.cell? ⟨g6, 0, none⟩ = some (.int .i64 k)) (f6 : w.frozen? ⟨g6, 0, none⟩ = false)
  (c0 : w.cell? ⟨g0, 0, none⟩ = some (.string s)) (hne : g0 ≠ g6) (hne7 : g7 ≠ g6) :
  Calls Try.prog 99 #[.pointer (some ⟨g7, 0, none⟩)] w fun e w' => e = .returned (.int .u16 (byt s k + 256 * byt s (k + 1))) ∧ w.setCell ⟨g6, 0, none⟩ (.int .i64 ((k : Int) + 2)) = w' := by
 obtain ⟨b0, b1⟩ := yj s k
 obtain ⟨b2, b3⟩ := yj s (k + 1)
 have n1 := next_any s k g6 g0 (by omega) hm w c6 f6 c0 hne
 have n2 := next_any s (k + 1) g6 g0 (by omega) hm (w.setCell ⟨g6, 0, none⟩ (.int .i64 ((k : Int) + 1))) (World.cell?_setCell_same _ _ _ c6) ((World.frozen?_setCell _ _ _ _).trans f6) ((World.cell?_setCell_other _ _ _ _ (by simp [Ne.symm hne])).trans c0) hne
 have N1 := zh n1
 have N2 := zh n2
 clear n1 n2
 go_enter Try.func99, Try.ntmps99
 go_wp2_with (first | (go_at_call 98; (with_reducible refine N1.out.mono ?_); rintro e w1 ⟨rfl, rfl⟩) | (go_at_call 98; (with_reducible refine N2.out.mono ?_); rintro e w1 ⟨rfl, rfl⟩))
 go_ret
 refine ⟨?_, ?_⟩
 ·rw [← u16_word _ _ b0 b1 b2 b3]; rfl
 ·rw [setCell_twice]; congr 2
end Go.Proofs.Ythebmoggbgldmaa
