/- Encode of the reference, walked: formats 9, 14, 8, 11. -/
import Derived.Test.YteofmaiojepdkaaGreatTeRefC3
set_option linter.all false
namespace Go.Proofs.YteofmaiojepdkaaGreat
open Go.RowKit
set_option maxRecDepth 100000 in
set_option maxHeartbeats 40000000 in
theorem rencode_g2 (i : Ins) (hi : i.Ok) (hf : ze i.op = 9 ∨ ze i.op = 14 ∨ ze i.op = 8 ∨ ze i.op = 11) (hv : zw i = true) (w : World) :
  Calls Tryz.prog 28 #[.agg #[.int .i64 (i).op, .int .i64 (i).d, .int .i64 (i).s, .int .u16 (i).imm, .int .u16 (i).aux, .int .i64 (i).bank, .int .i64 (i).size]] w fun e w' => e = .returned (.tuple #[.string (xu (i.op :: zL (ze i.op) i)), .int .i64 0]) ∧ Below w.heap.size w w' := by
 rcases hf with hf | hf | hf | hf
 all_goals
  obtain ⟨-, ⟨o0, o1⟩, ⟨d0, d1⟩, ⟨s0, s1⟩, ⟨k0, k1⟩, -⟩ := yS i hi hv
  obtain ⟨m0, m1⟩ := hi.imm
  obtain ⟨x0, x1⟩ := hi.aux
  obtain ⟨i5, hi5, iz0, iz1, iz2⟩ := info_parts info5
  rw [valid_eq i hi] at hv
  have HF := zh hf
  have HV := zh hv
  clear hf hv
  have w1 : IntKind.u8.wrap i.op = i.op := IntWalk.u8_in _ (by omega)
  have w2 : IntKind.u8.wrap i.d = i.d := IntWalk.u8_in _ (by omega)
  have w3 : IntKind.u8.wrap (16 * i.d + i.s) = 16 * i.d + i.s := IntWalk.u8_in _ (by omega)
  have w4 : IntKind.u8.wrap i.bank = i.bank := IntWalk.u8_in _ (by omega)
  have w5 : IntKind.u8.wrap i.s = i.s := IntWalk.u8_in _ (by omega)
  go_enter Tryz.func28, Tryz.ntmps28
  go_upto_region 7 with (first
   | (go_at_call 59; refine (yi _ _).mono ?_; rintro e w1 ⟨rfl, hb1⟩; rw [HF.out]; have hz1 := hb1.size; simp at hz1; have HB1 := zh ((hb1.block w.heap.size (by simp)).trans (heap_alloc_new w _)))
   | (go_at_call 60; refine (jf i _).mono ?_; rintro e w2 ⟨rfl, hb2⟩; rw [HV.out]; have hz2 := hb2.size)
   | (refine wpList_load_row rfl _ (.tmp 1) rfl _ rfl _ _ _ _ HB1.out Tryz.underlying53 rfl ?_ ?_; kernel_rfl))
  have hc2 : ∀ o : Nat, w2.cell? ⟨w.heap.size, o, none⟩ = (#[Value.int .i64 i.op, .int .i64 i.d, .int .i64 i.s, .int .u16 i.imm, .int .u16 i.aux, .int .i64 i.bank, .int .i64 i.size] : Array Value)[o]? := fun o => cell_of_row w2 w.heap.size o _ _ _ ((hb2.block _ (by omega)).trans HB1.out)
  have hbb : Below w.heap.size w w2 := ((Below.refl _ _).alloc (zn _) _).trans ((hb1.mono (by simp)).trans (hb2.mono (by omega)))
  have HBB := zh hbb
  have hlt : w.heap.size < w2.heap.size := by omega
  clear hb1 hb2 hbb
  go_upto_region 12 with (first
   | (go_at_call 61; refine (two_any i.imm m0 m1 _).mono ?_; rintro e w3 ⟨rfl, rfl⟩)
   | (go_at_call 61; refine (two_any i.aux x0 x1 _).mono ?_; rintro e w3 ⟨rfl, rfl⟩))
  have hE : EHeld i w2.heap.size w (((w2.alloc (.cells #[.int .u8 i.op] 5)).alloc (.cells #[.int .u8 (i.imm % 256), .int .u8 (i.imm / 256)] 5)).alloc (.cells #[.int .u8 (i.aux % 256), .int .u8 (i.aux / 256)] 5)) := by
   have e1 : ((w2.alloc (.cells #[.int .u8 i.op] 5)).heap.size) = w2.heap.size + 1 := by simp
   have e2 : (((w2.alloc (.cells #[.int .u8 i.op] 5)).alloc (.cells #[.int .u8 (i.imm % 256), .int .u8 (i.imm / 256)] 5)).heap.size) = w2.heap.size + 2 := by simp
   refine ⟨fun o => ?_, fun o => ?_, fun o => ?_, ?_, (((HBB.out.alloc HBB.out.size _).alloc (by simp; omega) _).alloc (by simp; omega) _), hlt, by simp⟩
   ·rw [World.cell?_alloc_lt _ _ _ (by simp; omega), World.cell?_alloc_lt _ _ _ (by simp; omega), World.cell?_alloc_lt _ _ _ (by simp; omega)]; exact hc2 o
   ·rw [World.cell?_alloc_lt _ _ _ (by simp)]
    have := cell_of_row _ _ o _ _ _ (heap_alloc_new (w2.alloc (.cells #[.int .u8 i.op] 5)) (.cells #[.int .u8 (i.imm % 256), .int .u8 (i.imm / 256)] 5))
    rw [e1] at this; exact this
   ·have := cell_of_row _ _ o _ _ _ (heap_alloc_new ((w2.alloc (.cells #[.int .u8 i.op] 5)).alloc (.cells #[.int .u8 (i.imm % 256), .int .u8 (i.imm / 256)] 5)) (.cells #[.int .u8 (i.aux % 256), .int .u8 (i.aux / 256)] 5))
    rw [e2] at this; exact this
   ·exact ((World.ownsRow_lit (base := w2.heap.size) (size := 1) (e := 5) w2 #[.int .u8 i.op] 1 (zn _) (by decide) rfl).alloc _).alloc _
  have HE := zh hE
  clear hE
 ·have HTL := zh (show zL (ze i.op) i = [i.d, i.imm % 256, i.imm / 256] from by rw [HF.out]; simp [zL])
  go_upto_region 27 with fail
  refine wp_region_noPanic ?_
  refine wp_region_held_drew (S := fun w' => (∀ o : Nat, w'.cell? ⟨w.heap.size, o, none⟩ = (#[Value.int .i64 i.op, .int .i64 i.d, .int .i64 i.s, .int .u16 i.imm, .int .u16 i.aux, .int .i64 i.bank, .int .i64 i.size] : Array Value)[o]?) ∧ (∀ o : Nat, w'.cell? ⟨w2.heap.size + 1, o, none⟩ = (#[Value.int .u8 (i.imm % 256), .int .u8 (i.imm / 256)] : Array Value)[o]?) ∧ (∀ o : Nat, w'.cell? ⟨w2.heap.size + 2, o, none⟩ = (#[Value.int .u8 (i.aux % 256), .int .u8 (i.aux / 256)] : Array Value)[o]?)) (by kernel_rfl) ⟨HE.out.ci, HE.out.c9, HE.out.c10⟩ (fun hHeld => ?_)
  replace HE := zh HE.out.drew
  (refine tak 0 ?_)
  (refine tak 1 ?_)
  (refine tak 2 ?_)
  (refine tak 3 ?_)
  (refine tak 4 ?_)
  (refine tak 5 ?_)
  (refine tak 6 ?_)
  (refine tak 7 ?_)
  (refine wpAnyH_ready (rs := [8]) (by kernel_rfl) (by simp) (AllReadyH.cons (o := _) rfl (fun K hK => ?_) AllReadyH.nil))
  rw [if_pos (by rfl)]
  go_simp
  refine hK.out _ _ ⟨(HE.out.alloc _).ci, (HE.out.alloc _).c9, (HE.out.alloc _).c10⟩ (fun hHeld => ?_)
  (refine pts ?_)
  (refine wpAnyH_ready (rs := [9]) (by kernel_rfl) (by simp) (AllReadyH.cons (o := _) rfl (fun K hK => ?_) AllReadyH.nil))
  rw [if_pos (by rfl)]
  refine wp_append_lies _ _ _ _ (by rfl) w2.heap.size 5 i5 (.int .u8 0) 1 1 Tryz.underlying73 hi5 iz0 iz1 iz2 rfl (by decide) _ 1 [vb i.op] (by rfl) (HE.out.alloc _).own ⟨w2.heap.size + 3, 0, none⟩ 3 3 [.int .u8 i.d, .int .u8 (i.imm % 256), .int .u8 (i.imm / 256)] (by rfl) rfl ?_ (by simp [Value.oneCell']) (by decide) (by decide) (by decide) ?_ _ rfl ?_
  ·exact World.news_of_block (cs := #[.int .u8 i.d, .int .u8 (i.imm % 256), .int .u8 (i.imm / 256)]) (t := 5) (fr := (0, 0)) (xk (((w2.alloc (.cells #[.int .u8 i.op] 5)).alloc (.cells #[.int .u8 (i.imm % 256), .int .u8 (i.imm / 256)] 5)).alloc (.cells #[.int .u8 (i.aux % 256), .int .u8 (i.aux / 256)] 5)) _ (by simp))
  ·have := HE.out.gt; simp <;> omega
  intro g cap w6 hown6 hg6 hat6 hlt6
  have HEE := zh ((HE.out.alloc _).end hg6 _ HTL.out hown6)
  refine hK.out _ _ ?_ (fun hHeld => ?_)
  ·have hx := (HE.out.alloc (.cells #[.int .u8 i.d, .int .u8 (i.imm % 256), .int .u8 (i.imm / 256)] 5))
   have hgt := HE.out.gt
   have hll := HE.out.lt
   refine ⟨fun o => ?_, fun o => ?_, fun o => ?_⟩
   ·rw [hg6.cell_far _ (by simp <;> omega) (by simp [Value.ownBlock] <;> omega)]; exact hx.ci o
   ·rw [hg6.cell_far _ (by simp <;> omega) (by simp [Value.ownBlock])]; exact hx.c9 o
   ·rw [hg6.cell_far _ (by simp <;> omega) (by simp [Value.ownBlock])]; exact hx.c10 o
  (refine pts ?_)
  (refine tak 10 ?_)
  refine wpAnyH_done (by kernel_rfl) ?_ _
  refine NoPanic.normal ?_
  clear hHeld hown6 hg6 hat6
  have hEE := HEE.out
  go_upto_region 42 with fail
  have hcv := zQ (P := Tryz.prog) _ 73 9 5 Tryz.underlying73 Tryz.underlying5 Tryz.underlying9 _ _ _ _ hEE.own
  go_wp2
  go_ret2
  exact ⟨rfl, hEE.hb⟩
 ·have HTL := zh (show zL (ze i.op) i = [i.d, i.imm % 256, i.imm / 256] from by rw [HF.out]; simp [zL])
  go_upto_region 27 with fail
  refine wp_region_noPanic ?_
  refine wp_region_held_drew (S := fun w' => (∀ o : Nat, w'.cell? ⟨w.heap.size, o, none⟩ = (#[Value.int .i64 i.op, .int .i64 i.d, .int .i64 i.s, .int .u16 i.imm, .int .u16 i.aux, .int .i64 i.bank, .int .i64 i.size] : Array Value)[o]?) ∧ (∀ o : Nat, w'.cell? ⟨w2.heap.size + 1, o, none⟩ = (#[Value.int .u8 (i.imm % 256), .int .u8 (i.imm / 256)] : Array Value)[o]?) ∧ (∀ o : Nat, w'.cell? ⟨w2.heap.size + 2, o, none⟩ = (#[Value.int .u8 (i.aux % 256), .int .u8 (i.aux / 256)] : Array Value)[o]?)) (by kernel_rfl) ⟨HE.out.ci, HE.out.c9, HE.out.c10⟩ (fun hHeld => ?_)
  replace HE := zh HE.out.drew
  (refine tak 0 ?_)
  (refine tak 1 ?_)
  (refine tak 2 ?_)
  (refine tak 3 ?_)
  (refine tak 4 ?_)
  (refine tak 5 ?_)
  (refine tak 6 ?_)
  (refine tak 7 ?_)
  (refine wpAnyH_ready (rs := [8]) (by kernel_rfl) (by simp) (AllReadyH.cons (o := _) rfl (fun K hK => ?_) AllReadyH.nil))
  rw [if_pos (by rfl)]
  go_simp
  refine hK.out _ _ ⟨(HE.out.alloc _).ci, (HE.out.alloc _).c9, (HE.out.alloc _).c10⟩ (fun hHeld => ?_)
  (refine pts ?_)
  (refine wpAnyH_ready (rs := [9]) (by kernel_rfl) (by simp) (AllReadyH.cons (o := _) rfl (fun K hK => ?_) AllReadyH.nil))
  rw [if_pos (by rfl)]
  refine wp_append_lies _ _ _ _ (by rfl) w2.heap.size 5 i5 (.int .u8 0) 1 1 Tryz.underlying73 hi5 iz0 iz1 iz2 rfl (by decide) _ 1 [vb i.op] (by rfl) (HE.out.alloc _).own ⟨w2.heap.size + 3, 0, none⟩ 3 3 [.int .u8 i.d, .int .u8 (i.imm % 256), .int .u8 (i.imm / 256)] (by rfl) rfl ?_ (by simp [Value.oneCell']) (by decide) (by decide) (by decide) ?_ _ rfl ?_
  ·exact World.news_of_block (cs := #[.int .u8 i.d, .int .u8 (i.imm % 256), .int .u8 (i.imm / 256)]) (t := 5) (fr := (0, 0)) (xk (((w2.alloc (.cells #[.int .u8 i.op] 5)).alloc (.cells #[.int .u8 (i.imm % 256), .int .u8 (i.imm / 256)] 5)).alloc (.cells #[.int .u8 (i.aux % 256), .int .u8 (i.aux / 256)] 5)) _ (by simp))
  ·have := HE.out.gt; simp <;> omega
  intro g cap w6 hown6 hg6 hat6 hlt6
  have HEE := zh ((HE.out.alloc _).end hg6 _ HTL.out hown6)
  refine hK.out _ _ ?_ (fun hHeld => ?_)
  ·have hx := (HE.out.alloc (.cells #[.int .u8 i.d, .int .u8 (i.imm % 256), .int .u8 (i.imm / 256)] 5))
   have hgt := HE.out.gt
   have hll := HE.out.lt
   refine ⟨fun o => ?_, fun o => ?_, fun o => ?_⟩
   ·rw [hg6.cell_far _ (by simp <;> omega) (by simp [Value.ownBlock] <;> omega)]; exact hx.ci o
   ·rw [hg6.cell_far _ (by simp <;> omega) (by simp [Value.ownBlock])]; exact hx.c9 o
   ·rw [hg6.cell_far _ (by simp <;> omega) (by simp [Value.ownBlock])]; exact hx.c10 o
  (refine pts ?_)
  (refine tak 10 ?_)
  refine wpAnyH_done (by kernel_rfl) ?_ _
  refine NoPanic.normal ?_
  clear hHeld hown6 hg6 hat6
  have hEE := HEE.out
  go_upto_region 42 with fail
  have hcv := zQ (P := Tryz.prog) _ 73 9 5 Tryz.underlying73 Tryz.underlying5 Tryz.underlying9 _ _ _ _ hEE.own
  go_wp2
  go_ret2
  exact ⟨rfl, hEE.hb⟩
 ·have HTL := zh (show zL (ze i.op) i = [16 * i.d + i.s, i.imm % 256, i.imm / 256] from by rw [HF.out]; simp [zL])
  go_upto_region 31 with fail
  refine wp_region_noPanic ?_
  refine wp_region_held_drew (S := fun w' => (∀ o : Nat, w'.cell? ⟨w.heap.size, o, none⟩ = (#[Value.int .i64 i.op, .int .i64 i.d, .int .i64 i.s, .int .u16 i.imm, .int .u16 i.aux, .int .i64 i.bank, .int .i64 i.size] : Array Value)[o]?) ∧ (∀ o : Nat, w'.cell? ⟨w2.heap.size + 1, o, none⟩ = (#[Value.int .u8 (i.imm % 256), .int .u8 (i.imm / 256)] : Array Value)[o]?) ∧ (∀ o : Nat, w'.cell? ⟨w2.heap.size + 2, o, none⟩ = (#[Value.int .u8 (i.aux % 256), .int .u8 (i.aux / 256)] : Array Value)[o]?)) (by kernel_rfl) ⟨HE.out.ci, HE.out.c9, HE.out.c10⟩ (fun hHeld => ?_)
  replace HE := zh HE.out.drew
  (refine tak 0 ?_)
  (refine tak 1 ?_)
  (refine tak 2 ?_)
  (refine tak 3 ?_)
  (refine tak 4 ?_)
  (refine tak 5 ?_)
  (refine tak 6 ?_)
  (refine tak 7 ?_)
  (refine wpAnyH_ready (rs := [8]) (by kernel_rfl) (by simp) (AllReadyH.cons (o := _) rfl (fun K hK => ?_) AllReadyH.nil))
  rw [if_pos (by rfl)]
  go_simp
  refine hK.out _ _ ⟨(HE.out.alloc _).ci, (HE.out.alloc _).c9, (HE.out.alloc _).c10⟩ (fun hHeld => ?_)
  (refine pts ?_)
  (refine wpAnyH_ready (rs := [9]) (by kernel_rfl) (by simp) (AllReadyH.cons (o := _) rfl (fun K hK => ?_) AllReadyH.nil))
  rw [if_pos (by rfl)]
  refine wp_append_lies _ _ _ _ (by rfl) w2.heap.size 5 i5 (.int .u8 0) 1 1 Tryz.underlying73 hi5 iz0 iz1 iz2 rfl (by decide) _ 1 [vb i.op] (by rfl) (HE.out.alloc _).own ⟨w2.heap.size + 3, 0, none⟩ 3 3 [.int .u8 (16 * i.d + i.s), .int .u8 (i.imm % 256), .int .u8 (i.imm / 256)] (by rfl) rfl ?_ (by simp [Value.oneCell']) (by decide) (by decide) (by decide) ?_ _ rfl ?_
  ·exact World.news_of_block (cs := #[.int .u8 (16 * i.d + i.s), .int .u8 (i.imm % 256), .int .u8 (i.imm / 256)]) (t := 5) (fr := (0, 0)) (xk (((w2.alloc (.cells #[.int .u8 i.op] 5)).alloc (.cells #[.int .u8 (i.imm % 256), .int .u8 (i.imm / 256)] 5)).alloc (.cells #[.int .u8 (i.aux % 256), .int .u8 (i.aux / 256)] 5)) _ (by simp))
  ·have := HE.out.gt; simp <;> omega
  intro g cap w6 hown6 hg6 hat6 hlt6
  have HEE := zh ((HE.out.alloc _).end hg6 _ HTL.out hown6)
  refine hK.out _ _ ?_ (fun hHeld => ?_)
  ·have hx := (HE.out.alloc (.cells #[.int .u8 (16 * i.d + i.s), .int .u8 (i.imm % 256), .int .u8 (i.imm / 256)] 5))
   have hgt := HE.out.gt
   have hll := HE.out.lt
   refine ⟨fun o => ?_, fun o => ?_, fun o => ?_⟩
   ·rw [hg6.cell_far _ (by simp <;> omega) (by simp [Value.ownBlock] <;> omega)]; exact hx.ci o
   ·rw [hg6.cell_far _ (by simp <;> omega) (by simp [Value.ownBlock])]; exact hx.c9 o
   ·rw [hg6.cell_far _ (by simp <;> omega) (by simp [Value.ownBlock])]; exact hx.c10 o
  (refine pts ?_)
  (refine tak 10 ?_)
  refine wpAnyH_done (by kernel_rfl) ?_ _
  refine NoPanic.normal ?_
  clear hHeld hown6 hg6 hat6
  have hEE := HEE.out
  go_upto_region 42 with fail
  have hcv := zQ (P := Tryz.prog) _ 73 9 5 Tryz.underlying73 Tryz.underlying5 Tryz.underlying9 _ _ _ _ hEE.own
  go_wp2
  go_ret2
  exact ⟨rfl, hEE.hb⟩
 ·have HTL := zh (show zL (ze i.op) i = [i.imm % 256, i.imm / 256] from by rw [HF.out]; simp [zL])
  go_upto_region 33 with fail
  refine wp_region_noPanic ?_
  refine wp_region_held_drew (S := fun w' => (∀ o : Nat, w'.cell? ⟨w.heap.size, o, none⟩ = (#[Value.int .i64 i.op, .int .i64 i.d, .int .i64 i.s, .int .u16 i.imm, .int .u16 i.aux, .int .i64 i.bank, .int .i64 i.size] : Array Value)[o]?) ∧ (∀ o : Nat, w'.cell? ⟨w2.heap.size + 1, o, none⟩ = (#[Value.int .u8 (i.imm % 256), .int .u8 (i.imm / 256)] : Array Value)[o]?) ∧ (∀ o : Nat, w'.cell? ⟨w2.heap.size + 2, o, none⟩ = (#[Value.int .u8 (i.aux % 256), .int .u8 (i.aux / 256)] : Array Value)[o]?)) (by kernel_rfl) ⟨HE.out.ci, HE.out.c9, HE.out.c10⟩ (fun hHeld => ?_)
  replace HE := zh HE.out.drew
  (refine tak 0 ?_)
  (refine tak 1 ?_)
  (refine tak 2 ?_)
  (refine tak 3 ?_)
  (refine tak 4 ?_)
  (refine tak 5 ?_)
  (refine tak 6 ?_)
  (refine wpAnyH_ready (rs := [7]) (by kernel_rfl) (by simp) (AllReadyH.cons (o := _) rfl (fun K hK => ?_) AllReadyH.nil))
  rw [if_pos (by rfl)]
  go_simp
  refine hK.out _ _ ⟨(HE.out.alloc _).ci, (HE.out.alloc _).c9, (HE.out.alloc _).c10⟩ (fun hHeld => ?_)
  (refine pts ?_)
  (refine wpAnyH_ready (rs := [8]) (by kernel_rfl) (by simp) (AllReadyH.cons (o := _) rfl (fun K hK => ?_) AllReadyH.nil))
  rw [if_pos (by rfl)]
  refine wp_append_lies _ _ _ _ (by rfl) w2.heap.size 5 i5 (.int .u8 0) 1 1 Tryz.underlying73 hi5 iz0 iz1 iz2 rfl (by decide) _ 1 [vb i.op] (by rfl) (HE.out.alloc _).own ⟨w2.heap.size + 3, 0, none⟩ 2 2 [.int .u8 (i.imm % 256), .int .u8 (i.imm / 256)] (by rfl) rfl ?_ (by simp [Value.oneCell']) (by decide) (by decide) (by decide) ?_ _ rfl ?_
  ·exact World.news_of_block (cs := #[.int .u8 (i.imm % 256), .int .u8 (i.imm / 256)]) (t := 5) (fr := (0, 0)) (xk (((w2.alloc (.cells #[.int .u8 i.op] 5)).alloc (.cells #[.int .u8 (i.imm % 256), .int .u8 (i.imm / 256)] 5)).alloc (.cells #[.int .u8 (i.aux % 256), .int .u8 (i.aux / 256)] 5)) _ (by simp))
  ·have := HE.out.gt; simp <;> omega
  intro g cap w6 hown6 hg6 hat6 hlt6
  have HEE := zh ((HE.out.alloc _).end hg6 _ HTL.out hown6)
  refine hK.out _ _ ?_ (fun hHeld => ?_)
  ·have hx := (HE.out.alloc (.cells #[.int .u8 (i.imm % 256), .int .u8 (i.imm / 256)] 5))
   have hgt := HE.out.gt
   have hll := HE.out.lt
   refine ⟨fun o => ?_, fun o => ?_, fun o => ?_⟩
   ·rw [hg6.cell_far _ (by simp <;> omega) (by simp [Value.ownBlock] <;> omega)]; exact hx.ci o
   ·rw [hg6.cell_far _ (by simp <;> omega) (by simp [Value.ownBlock])]; exact hx.c9 o
   ·rw [hg6.cell_far _ (by simp <;> omega) (by simp [Value.ownBlock])]; exact hx.c10 o
  (refine pts ?_)
  (refine tak 9 ?_)
  refine wpAnyH_done (by kernel_rfl) ?_ _
  refine NoPanic.normal ?_
  clear hHeld hown6 hg6 hat6
  have hEE := HEE.out
  go_upto_region 42 with fail
  have hcv := zQ (P := Tryz.prog) _ 73 9 5 Tryz.underlying73 Tryz.underlying5 Tryz.underlying9 _ _ _ _ hEE.own
  go_wp2
  go_ret2
  exact ⟨rfl, hEE.hb⟩
end Go.Proofs.YteofmaiojepdkaaGreat
