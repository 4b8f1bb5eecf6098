/- Encode of the reference: every instruction whose fields lie in their types' ranges. -/
import Derived.Test.YteofmaiojepdkaaGreatTeShS
import Derived.Test.YteofmaiojepdkaaGreatTeREnc1
import Derived.Test.YteofmaiojepdkaaGreatTeREnc2
set_option linter.all false
namespace Go.Proofs.YteofmaiojepdkaaGreat
open Go.RowKit
set_option maxRecDepth 100000 in
set_option maxHeartbeats 40000000 in
theorem rencode_g3 (i : Ins) (hi : i.Ok) (hf : ze i.op = 12 ∨ ze i.op = 13 ∨ ze i.op = 16 ∨ ze i.op = 17) (hv : zw i = true) (w : World) :
  Calls Tryz.prog 28 #[.agg #[.int .i64 (i).op, .int .i64 (i).d, .int .i64 (i).s, .int .u16 (i).imm, .int .u16 (i).aux, .int .i64 (i).bank, .int .i64 (i).size]] w fun e w' => e = .returned (.tuple #[.string (xu (i.op :: zL (ze i.op) i)), .int .i64 0]) ∧ Below w.heap.size w w' := by
 rcases hf with hf | hf | hf | hf
 all_goals
  obtain ⟨-, ⟨o0, o1⟩, ⟨d0, d1⟩, ⟨s0, s1⟩, ⟨k0, k1⟩, -⟩ := yS i hi hv
  obtain ⟨m0, m1⟩ := hi.imm
  obtain ⟨x0, x1⟩ := hi.aux
  obtain ⟨i5, hi5, iz0, iz1, iz2⟩ := info_parts info5
  rw [valid_eq i hi] at hv
  have HF := zh hf
  have HV := zh hv
  clear hf hv
  have w1 : IntKind.u8.wrap i.op = i.op := IntWalk.u8_in _ (by omega)
  have w2 : IntKind.u8.wrap i.d = i.d := IntWalk.u8_in _ (by omega)
  have w3 : IntKind.u8.wrap (16 * i.d + i.s) = 16 * i.d + i.s := IntWalk.u8_in _ (by omega)
  have w4 : IntKind.u8.wrap i.bank = i.bank := IntWalk.u8_in _ (by omega)
  have w5 : IntKind.u8.wrap i.s = i.s := IntWalk.u8_in _ (by omega)
  go_enter Tryz.func28, Tryz.ntmps28
  go_upto_region 7 with (first
   | (go_at_call 59; refine (yi _ _).mono ?_; rintro e w1 ⟨rfl, hb1⟩; rw [HF.out]; have hz1 := hb1.size; simp at hz1; have HB1 := zh ((hb1.block w.heap.size (by simp)).trans (heap_alloc_new w _)))
   | (go_at_call 60; refine (jf i _).mono ?_; rintro e w2 ⟨rfl, hb2⟩; rw [HV.out]; have hz2 := hb2.size)
   | (refine wpList_load_row rfl _ (.tmp 1) rfl _ rfl _ _ _ _ HB1.out Tryz.underlying53 rfl ?_ ?_; kernel_rfl))
  have hc2 : ∀ o : Nat, w2.cell? ⟨w.heap.size, o, none⟩ = (#[Value.int .i64 i.op, .int .i64 i.d, .int .i64 i.s, .int .u16 i.imm, .int .u16 i.aux, .int .i64 i.bank, .int .i64 i.size] : Array Value)[o]? := fun o => cell_of_row w2 w.heap.size o _ _ _ ((hb2.block _ (by omega)).trans HB1.out)
  have hbb : Below w.heap.size w w2 := ((Below.refl _ _).alloc (zn _) _).trans ((hb1.mono (by simp)).trans (hb2.mono (by omega)))
  have HBB := zh hbb
  have hlt : w.heap.size < w2.heap.size := by omega
  clear hb1 hb2 hbb
  go_upto_region 12 with (first
   | (go_at_call 61; refine (two_any i.imm m0 m1 _).mono ?_; rintro e w3 ⟨rfl, rfl⟩)
   | (go_at_call 61; refine (two_any i.aux x0 x1 _).mono ?_; rintro e w3 ⟨rfl, rfl⟩))
  have hE : EHeld i w2.heap.size w (((w2.alloc (.cells #[.int .u8 i.op] 5)).alloc (.cells #[.int .u8 (i.imm % 256), .int .u8 (i.imm / 256)] 5)).alloc (.cells #[.int .u8 (i.aux % 256), .int .u8 (i.aux / 256)] 5)) := by
   have e1 : ((w2.alloc (.cells #[.int .u8 i.op] 5)).heap.size) = w2.heap.size + 1 := by simp
   have e2 : (((w2.alloc (.cells #[.int .u8 i.op] 5)).alloc (.cells #[.int .u8 (i.imm % 256), .int .u8 (i.imm / 256)] 5)).heap.size) = w2.heap.size + 2 := by simp
   refine ⟨fun o => ?_, fun o => ?_, fun o => ?_, ?_, (((HBB.out.alloc HBB.out.size _).alloc (by simp; omega) _).alloc (by simp; omega) _), hlt, by simp⟩
   ·rw [World.cell?_alloc_lt _ _ _ (by simp; omega), World.cell?_alloc_lt _ _ _ (by simp; omega), World.cell?_alloc_lt _ _ _ (by simp; omega)]; exact hc2 o
   ·rw [World.cell?_alloc_lt _ _ _ (by simp)]
    have := cell_of_row _ _ o _ _ _ (heap_alloc_new (w2.alloc (.cells #[.int .u8 i.op] 5)) (.cells #[.int .u8 (i.imm % 256), .int .u8 (i.imm / 256)] 5))
    rw [e1] at this; exact this
   ·have := cell_of_row _ _ o _ _ _ (heap_alloc_new ((w2.alloc (.cells #[.int .u8 i.op] 5)).alloc (.cells #[.int .u8 (i.imm % 256), .int .u8 (i.imm / 256)] 5)) (.cells #[.int .u8 (i.aux % 256), .int .u8 (i.aux / 256)] 5))
    rw [e2] at this; exact this
   ·exact ((World.ownsRow_lit (base := w2.heap.size) (size := 1) (e := 5) w2 #[.int .u8 i.op] 1 (zn _) (by decide) rfl).alloc _).alloc _
  have HE := zh hE
  clear hE
 ·have HTL := zh (show zL (ze i.op) i = [i.bank, i.imm % 256, i.imm / 256] from by rw [HF.out]; simp [zL])
  go_upto_region 35 with fail
  refine wp_region_noPanic ?_
  refine wp_region_held_drew (S := fun w' => (∀ o : Nat, w'.cell? ⟨w.heap.size, o, none⟩ = (#[Value.int .i64 i.op, .int .i64 i.d, .int .i64 i.s, .int .u16 i.imm, .int .u16 i.aux, .int .i64 i.bank, .int .i64 i.size] : Array Value)[o]?) ∧ (∀ o : Nat, w'.cell? ⟨w2.heap.size + 1, o, none⟩ = (#[Value.int .u8 (i.imm % 256), .int .u8 (i.imm / 256)] : Array Value)[o]?) ∧ (∀ o : Nat, w'.cell? ⟨w2.heap.size + 2, o, none⟩ = (#[Value.int .u8 (i.aux % 256), .int .u8 (i.aux / 256)] : Array Value)[o]?)) (by kernel_rfl) ⟨HE.out.ci, HE.out.c9, HE.out.c10⟩ (fun hHeld => ?_)
  replace HE := zh HE.out.drew
  (refine tak 0 ?_)
  (refine tak 1 ?_)
  (refine tak 2 ?_)
  (refine tak 3 ?_)
  (refine tak 4 ?_)
  (refine tak 5 ?_)
  (refine tak 6 ?_)
  (refine tak 7 ?_)
  (refine tak 8 ?_)
  (refine tak 9 ?_)
  (refine wpAnyH_ready (rs := [10]) (by kernel_rfl) (by simp) (AllReadyH.cons (o := _) rfl (fun K hK => ?_) AllReadyH.nil))
  rw [if_pos (by rfl)]
  go_simp
  refine hK.out _ _ ⟨(HE.out.alloc _).ci, (HE.out.alloc _).c9, (HE.out.alloc _).c10⟩ (fun hHeld => ?_)
  (refine pts ?_)
  (refine wpAnyH_ready (rs := [11]) (by kernel_rfl) (by simp) (AllReadyH.cons (o := _) rfl (fun K hK => ?_) AllReadyH.nil))
  rw [if_pos (by rfl)]
  refine wp_append_lies _ _ _ _ (by rfl) w2.heap.size 5 i5 (.int .u8 0) 1 1 Tryz.underlying73 hi5 iz0 iz1 iz2 rfl (by decide) _ 1 [vb i.op] (by rfl) (HE.out.alloc _).own ⟨w2.heap.size + 3, 0, none⟩ 3 3 [.int .u8 i.bank, .int .u8 (i.imm % 256), .int .u8 (i.imm / 256)] (by rfl) rfl ?_ (by simp [Value.oneCell']) (by decide) (by decide) (by decide) ?_ _ rfl ?_
  ·exact World.news_of_block (cs := #[.int .u8 i.bank, .int .u8 (i.imm % 256), .int .u8 (i.imm / 256)]) (t := 5) (fr := (0, 0)) (xk (((w2.alloc (.cells #[.int .u8 i.op] 5)).alloc (.cells #[.int .u8 (i.imm % 256), .int .u8 (i.imm / 256)] 5)).alloc (.cells #[.int .u8 (i.aux % 256), .int .u8 (i.aux / 256)] 5)) _ (by simp))
  ·have := HE.out.gt; simp <;> omega
  intro g cap w6 hown6 hg6 hat6 hlt6
  have HEE := zh ((HE.out.alloc _).end hg6 _ HTL.out hown6)
  refine hK.out _ _ ?_ (fun hHeld => ?_)
  ·have hx := (HE.out.alloc (.cells #[.int .u8 i.bank, .int .u8 (i.imm % 256), .int .u8 (i.imm / 256)] 5))
   have hgt := HE.out.gt
   have hll := HE.out.lt
   refine ⟨fun o => ?_, fun o => ?_, fun o => ?_⟩
   ·rw [hg6.cell_far _ (by simp <;> omega) (by simp [Value.ownBlock] <;> omega)]; exact hx.ci o
   ·rw [hg6.cell_far _ (by simp <;> omega) (by simp [Value.ownBlock])]; exact hx.c9 o
   ·rw [hg6.cell_far _ (by simp <;> omega) (by simp [Value.ownBlock])]; exact hx.c10 o
  (refine pts ?_)
  (refine tak 12 ?_)
  refine wpAnyH_done (by kernel_rfl) ?_ _
  refine NoPanic.normal ?_
  clear hHeld hown6 hg6 hat6
  have hEE := HEE.out
  go_upto_region 42 with fail
  have hcv := zQ (P := Tryz.prog) _ 73 9 5 Tryz.underlying73 Tryz.underlying5 Tryz.underlying9 _ _ _ _ hEE.own
  go_wp2
  go_ret2
  exact ⟨rfl, hEE.hb⟩
 ·have HTL := zh (show zL (ze i.op) i = [i.d, i.bank, i.imm % 256, i.imm / 256, i.aux % 256, i.aux / 256] from by rw [HF.out]; simp [zL])
  go_upto_region 37 with fail
  refine wp_region_noPanic ?_
  refine wp_region_held_drew (S := fun w' => (∀ o : Nat, w'.cell? ⟨w.heap.size, o, none⟩ = (#[Value.int .i64 i.op, .int .i64 i.d, .int .i64 i.s, .int .u16 i.imm, .int .u16 i.aux, .int .i64 i.bank, .int .i64 i.size] : Array Value)[o]?) ∧ (∀ o : Nat, w'.cell? ⟨w2.heap.size + 1, o, none⟩ = (#[Value.int .u8 (i.imm % 256), .int .u8 (i.imm / 256)] : Array Value)[o]?) ∧ (∀ o : Nat, w'.cell? ⟨w2.heap.size + 2, o, none⟩ = (#[Value.int .u8 (i.aux % 256), .int .u8 (i.aux / 256)] : Array Value)[o]?)) (by kernel_rfl) ⟨HE.out.ci, HE.out.c9, HE.out.c10⟩ (fun hHeld => ?_)
  replace HE := zh HE.out.drew
  (refine tak 0 ?_)
  (refine tak 1 ?_)
  (refine tak 2 ?_)
  (refine tak 3 ?_)
  (refine tak 4 ?_)
  (refine tak 5 ?_)
  (refine tak 6 ?_)
  (refine tak 7 ?_)
  (refine tak 8 ?_)
  (refine tak 9 ?_)
  (refine tak 10 ?_)
  (refine tak 11 ?_)
  (refine tak 12 ?_)
  (refine tak 13 ?_)
  (refine tak 14 ?_)
  (refine tak 15 ?_)
  (refine tak 16 ?_)
  (refine wpAnyH_ready (rs := [17]) (by kernel_rfl) (by simp) (AllReadyH.cons (o := _) rfl (fun K hK => ?_) AllReadyH.nil))
  rw [if_pos (by rfl)]
  go_simp
  refine hK.out _ _ ⟨(HE.out.alloc _).ci, (HE.out.alloc _).c9, (HE.out.alloc _).c10⟩ (fun hHeld => ?_)
  (refine pts ?_)
  (refine wpAnyH_ready (rs := [18]) (by kernel_rfl) (by simp) (AllReadyH.cons (o := _) rfl (fun K hK => ?_) AllReadyH.nil))
  rw [if_pos (by rfl)]
  refine wp_append_lies _ _ _ _ (by rfl) w2.heap.size 5 i5 (.int .u8 0) 1 1 Tryz.underlying73 hi5 iz0 iz1 iz2 rfl (by decide) _ 1 [vb i.op] (by rfl) (HE.out.alloc _).own ⟨w2.heap.size + 3, 0, none⟩ 6 6 [.int .u8 i.d, .int .u8 i.bank, .int .u8 (i.imm % 256), .int .u8 (i.imm / 256), .int .u8 (i.aux % 256), .int .u8 (i.aux / 256)] (by rfl) rfl ?_ (by simp [Value.oneCell']) (by decide) (by decide) (by decide) ?_ _ rfl ?_
  ·exact World.news_of_block (cs := #[.int .u8 i.d, .int .u8 i.bank, .int .u8 (i.imm % 256), .int .u8 (i.imm / 256), .int .u8 (i.aux % 256), .int .u8 (i.aux / 256)]) (t := 5) (fr := (0, 0)) (xk (((w2.alloc (.cells #[.int .u8 i.op] 5)).alloc (.cells #[.int .u8 (i.imm % 256), .int .u8 (i.imm / 256)] 5)).alloc (.cells #[.int .u8 (i.aux % 256), .int .u8 (i.aux / 256)] 5)) _ (by simp))
  ·have := HE.out.gt; simp <;> omega
  intro g cap w6 hown6 hg6 hat6 hlt6
  have HEE := zh ((HE.out.alloc _).end hg6 _ HTL.out hown6)
  refine hK.out _ _ ?_ (fun hHeld => ?_)
  ·have hx := (HE.out.alloc (.cells #[.int .u8 i.d, .int .u8 i.bank, .int .u8 (i.imm % 256), .int .u8 (i.imm / 256), .int .u8 (i.aux % 256), .int .u8 (i.aux / 256)] 5))
   have hgt := HE.out.gt
   have hll := HE.out.lt
   refine ⟨fun o => ?_, fun o => ?_, fun o => ?_⟩
   ·rw [hg6.cell_far _ (by simp <;> omega) (by simp [Value.ownBlock] <;> omega)]; exact hx.ci o
   ·rw [hg6.cell_far _ (by simp <;> omega) (by simp [Value.ownBlock])]; exact hx.c9 o
   ·rw [hg6.cell_far _ (by simp <;> omega) (by simp [Value.ownBlock])]; exact hx.c10 o
  (refine pts ?_)
  (refine tak 19 ?_)
  refine wpAnyH_done (by kernel_rfl) ?_ _
  refine NoPanic.normal ?_
  clear hHeld hown6 hg6 hat6
  have hEE := HEE.out
  go_upto_region 42 with fail
  have hcv := zQ (P := Tryz.prog) _ 73 9 5 Tryz.underlying73 Tryz.underlying5 Tryz.underlying9 _ _ _ _ hEE.own
  go_wp2
  go_ret2
  exact ⟨rfl, hEE.hb⟩
 ·have HTL := zh (show zL (ze i.op) i = [16 * i.d + i.s, i.bank, i.imm % 256, i.imm / 256] from by rw [HF.out]; simp [zL])
  go_upto_region 39 with fail
  refine wp_region_noPanic ?_
  refine wp_region_held_drew (S := fun w' => (∀ o : Nat, w'.cell? ⟨w.heap.size, o, none⟩ = (#[Value.int .i64 i.op, .int .i64 i.d, .int .i64 i.s, .int .u16 i.imm, .int .u16 i.aux, .int .i64 i.bank, .int .i64 i.size] : Array Value)[o]?) ∧ (∀ o : Nat, w'.cell? ⟨w2.heap.size + 1, o, none⟩ = (#[Value.int .u8 (i.imm % 256), .int .u8 (i.imm / 256)] : Array Value)[o]?) ∧ (∀ o : Nat, w'.cell? ⟨w2.heap.size + 2, o, none⟩ = (#[Value.int .u8 (i.aux % 256), .int .u8 (i.aux / 256)] : Array Value)[o]?)) (by kernel_rfl) ⟨HE.out.ci, HE.out.c9, HE.out.c10⟩ (fun hHeld => ?_)
  replace HE := zh HE.out.drew
  (refine tak 0 ?_)
  (refine tak 1 ?_)
  (refine tak 2 ?_)
  (refine tak 3 ?_)
  (refine tak 4 ?_)
  (refine tak 5 ?_)
  (refine tak 6 ?_)
  (refine tak 7 ?_)
  (refine tak 8 ?_)
  (refine tak 9 ?_)
  (refine tak 10 ?_)
  (refine wpAnyH_ready (rs := [11]) (by kernel_rfl) (by simp) (AllReadyH.cons (o := _) rfl (fun K hK => ?_) AllReadyH.nil))
  rw [if_pos (by rfl)]
  go_simp
  refine hK.out _ _ ⟨(HE.out.alloc _).ci, (HE.out.alloc _).c9, (HE.out.alloc _).c10⟩ (fun hHeld => ?_)
  (refine pts ?_)
  (refine wpAnyH_ready (rs := [12]) (by kernel_rfl) (by simp) (AllReadyH.cons (o := _) rfl (fun K hK => ?_) AllReadyH.nil))
  rw [if_pos (by rfl)]
  refine wp_append_lies _ _ _ _ (by rfl) w2.heap.size 5 i5 (.int .u8 0) 1 1 Tryz.underlying73 hi5 iz0 iz1 iz2 rfl (by decide) _ 1 [vb i.op] (by rfl) (HE.out.alloc _).own ⟨w2.heap.size + 3, 0, none⟩ 4 4 [.int .u8 (16 * i.d + i.s), .int .u8 i.bank, .int .u8 (i.imm % 256), .int .u8 (i.imm / 256)] (by rfl) rfl ?_ (by simp [Value.oneCell']) (by decide) (by decide) (by decide) ?_ _ rfl ?_
  ·exact World.news_of_block (cs := #[.int .u8 (16 * i.d + i.s), .int .u8 i.bank, .int .u8 (i.imm % 256), .int .u8 (i.imm / 256)]) (t := 5) (fr := (0, 0)) (xk (((w2.alloc (.cells #[.int .u8 i.op] 5)).alloc (.cells #[.int .u8 (i.imm % 256), .int .u8 (i.imm / 256)] 5)).alloc (.cells #[.int .u8 (i.aux % 256), .int .u8 (i.aux / 256)] 5)) _ (by simp))
  ·have := HE.out.gt; simp <;> omega
  intro g cap w6 hown6 hg6 hat6 hlt6
  have HEE := zh ((HE.out.alloc _).end hg6 _ HTL.out hown6)
  refine hK.out _ _ ?_ (fun hHeld => ?_)
  ·have hx := (HE.out.alloc (.cells #[.int .u8 (16 * i.d + i.s), .int .u8 i.bank, .int .u8 (i.imm % 256), .int .u8 (i.imm / 256)] 5))
   have hgt := HE.out.gt
   have hll := HE.out.lt
   refine ⟨fun o => ?_, fun o => ?_, fun o => ?_⟩
   ·rw [hg6.cell_far _ (by simp <;> omega) (by simp [Value.ownBlock] <;> omega)]; exact hx.ci o
   ·rw [hg6.cell_far _ (by simp <;> omega) (by simp [Value.ownBlock])]; exact hx.c9 o
   ·rw [hg6.cell_far _ (by simp <;> omega) (by simp [Value.ownBlock])]; exact hx.c10 o
  (refine pts ?_)
  (refine tak 13 ?_)
  refine wpAnyH_done (by kernel_rfl) ?_ _
  refine NoPanic.normal ?_
  clear hHeld hown6 hg6 hat6
  have hEE := HEE.out
  go_upto_region 42 with fail
  have hcv := zQ (P := Tryz.prog) _ 73 9 5 Tryz.underlying73 Tryz.underlying5 Tryz.underlying9 _ _ _ _ hEE.own
  go_wp2
  go_ret2
  exact ⟨rfl, hEE.hb⟩
 ·have HTL := zh (show zL (ze i.op) i = [i.s, i.imm % 256, i.imm / 256, i.aux % 256, i.aux / 256] from by rw [HF.out]; simp [zL])
  go_upto_region 41 with fail
  refine wp_region_noPanic ?_
  refine wp_region_held_drew (S := fun w' => (∀ o : Nat, w'.cell? ⟨w.heap.size, o, none⟩ = (#[Value.int .i64 i.op, .int .i64 i.d, .int .i64 i.s, .int .u16 i.imm, .int .u16 i.aux, .int .i64 i.bank, .int .i64 i.size] : Array Value)[o]?) ∧ (∀ o : Nat, w'.cell? ⟨w2.heap.size + 1, o, none⟩ = (#[Value.int .u8 (i.imm % 256), .int .u8 (i.imm / 256)] : Array Value)[o]?) ∧ (∀ o : Nat, w'.cell? ⟨w2.heap.size + 2, o, none⟩ = (#[Value.int .u8 (i.aux % 256), .int .u8 (i.aux / 256)] : Array Value)[o]?)) (by kernel_rfl) ⟨HE.out.ci, HE.out.c9, HE.out.c10⟩ (fun hHeld => ?_)
  replace HE := zh HE.out.drew
  (refine tak 0 ?_)
  (refine tak 1 ?_)
  (refine tak 2 ?_)
  (refine tak 3 ?_)
  (refine tak 4 ?_)
  (refine tak 5 ?_)
  (refine tak 6 ?_)
  (refine tak 7 ?_)
  (refine tak 8 ?_)
  (refine tak 9 ?_)
  (refine tak 10 ?_)
  (refine tak 11 ?_)
  (refine tak 12 ?_)
  (refine tak 13 ?_)
  (refine tak 14 ?_)
  (refine tak 15 ?_)
  (refine wpAnyH_ready (rs := [16]) (by kernel_rfl) (by simp) (AllReadyH.cons (o := _) rfl (fun K hK => ?_) AllReadyH.nil))
  rw [if_pos (by rfl)]
  go_simp
  refine hK.out _ _ ⟨(HE.out.alloc _).ci, (HE.out.alloc _).c9, (HE.out.alloc _).c10⟩ (fun hHeld => ?_)
  (refine pts ?_)
  (refine wpAnyH_ready (rs := [17]) (by kernel_rfl) (by simp) (AllReadyH.cons (o := _) rfl (fun K hK => ?_) AllReadyH.nil))
  rw [if_pos (by rfl)]
  refine wp_append_lies _ _ _ _ (by rfl) w2.heap.size 5 i5 (.int .u8 0) 1 1 Tryz.underlying73 hi5 iz0 iz1 iz2 rfl (by decide) _ 1 [vb i.op] (by rfl) (HE.out.alloc _).own ⟨w2.heap.size + 3, 0, none⟩ 5 5 [.int .u8 i.s, .int .u8 (i.imm % 256), .int .u8 (i.imm / 256), .int .u8 (i.aux % 256), .int .u8 (i.aux / 256)] (by rfl) rfl ?_ (by simp [Value.oneCell']) (by decide) (by decide) (by decide) ?_ _ rfl ?_
  ·exact World.news_of_block (cs := #[.int .u8 i.s, .int .u8 (i.imm % 256), .int .u8 (i.imm / 256), .int .u8 (i.aux % 256), .int .u8 (i.aux / 256)]) (t := 5) (fr := (0, 0)) (xk (((w2.alloc (.cells #[.int .u8 i.op] 5)).alloc (.cells #[.int .u8 (i.imm % 256), .int .u8 (i.imm / 256)] 5)).alloc (.cells #[.int .u8 (i.aux % 256), .int .u8 (i.aux / 256)] 5)) _ (by simp))
  ·have := HE.out.gt; simp <;> omega
  intro g cap w6 hown6 hg6 hat6 hlt6
  have HEE := zh ((HE.out.alloc _).end hg6 _ HTL.out hown6)
  refine hK.out _ _ ?_ (fun hHeld => ?_)
  ·have hx := (HE.out.alloc (.cells #[.int .u8 i.s, .int .u8 (i.imm % 256), .int .u8 (i.imm / 256), .int .u8 (i.aux % 256), .int .u8 (i.aux / 256)] 5))
   have hgt := HE.out.gt
   have hll := HE.out.lt
   refine ⟨fun o => ?_, fun o => ?_, fun o => ?_⟩
   ·rw [hg6.cell_far _ (by simp <;> omega) (by simp [Value.ownBlock] <;> omega)]; exact hx.ci o
   ·rw [hg6.cell_far _ (by simp <;> omega) (by simp [Value.ownBlock])]; exact hx.c9 o
   ·rw [hg6.cell_far _ (by simp <;> omega) (by simp [Value.ownBlock])]; exact hx.c10 o
  (refine pts ?_)
  (refine tak 18 ?_)
  refine wpAnyH_done (by kernel_rfl) ?_ _
  refine NoPanic.normal ?_
  clear hHeld hown6 hg6 hat6
  have hEE := HEE.out
  go_upto_region 42 with fail
  have hcv := zQ (P := Tryz.prog) _ 73 9 5 Tryz.underlying73 Tryz.underlying5 Tryz.underlying9 _ _ _ _ hEE.own
  go_wp2
  go_ret2
  exact ⟨rfl, hEE.hb⟩
end Go.Proofs.YteofmaiojepdkaaGreat
namespace Go.Proofs.YteofmaiojepdkaaGreat
open Go.RowKit
theorem rencode_good (i : Ins) (hi : i.Ok) (hv : zw i = true) (w : World) :
  Calls Tryz.prog 28 #[.agg #[.int .i64 (i).op, .int .i64 (i).d, .int .i64 (i).s, .int .u16 (i).imm, .int .u16 (i).aux, .int .i64 (i).bank, .int .i64 (i).size]] w fun e w' => e = .returned (.tuple #[.string (xu (i.op :: zL (ze i.op) i)), .int .i64 0]) ∧ Below w.heap.size w w' := by
 have hf := (yS i hi hv).1
 rcases fmt18' _ hf with e | e | e | e | e | e | e | e | e | e | e | e | e | e | e | e | e | e
 ·exact rencode_g0 i hi (by omega) hv w
 ·exact rencode_g0 i hi (by omega) hv w
 ·exact rencode_g0 i hi (by omega) hv w
 ·exact rencode_g0 i hi (by omega) hv w
 ·exact rencode_g0 i hi (by omega) hv w
 ·exact rencode_g1 i hi (by omega) hv w
 ·exact rencode_g1 i hi (by omega) hv w
 ·exact rencode_g2 i hi (by omega) hv w
 ·exact rencode_g2 i hi (by omega) hv w
 ·exact rencode_g1 i hi (by omega) hv w
 ·exact rencode_g2 i hi (by omega) hv w
 ·exact rencode_g3 i hi (by omega) hv w
 ·exact rencode_g3 i hi (by omega) hv w
 ·exact rencode_g2 i hi (by omega) hv w
 ·exact rencode_g1 i hi (by omega) hv w
 ·exact rencode_g3 i hi (by omega) hv w
 ·exact rencode_g3 i hi (by omega) hv w
 ·exact rencode_g1 i hi (by omega) hv w
theorem rencode_any (i : Ins) (hi : i.Ok) (w : World) :
  Calls Tryz.prog 28 #[.agg #[.int .i64 (i).op, .int .i64 (i).d, .int .i64 (i).s, .int .u16 (i).imm, .int .u16 (i).aux, .int .i64 (i).bank, .int .i64 (i).size]] w fun e w' => e = .returned (.tuple #[.string (xu (encB i)), .int .i64 (encE i)]) ∧ Below w.heap.size w w' := by
 by_cases hf : ze i.op = 0
 ·have e1 : encB i = [] := by unfold encB; rw [fOf_zero hf]; rfl
  have e2 : encE i = 11 := by unfold encE; rw [fOf_zero hf]; rfl
  rw [e1, e2]; exact rencode_none i hf w
 ·cases hv : zw i with
  | false =>
   have e1 : encB i = [] := by unfold encB; rw [hv]; simp
   have e2 : encE i = 3 := by unfold encE; rw [(fOf_some hf).1, hv]; rfl
   rw [e1, e2]; exact rencode_bad i hf (by rw [← valid_eq i hi]; exact hv) w
  | true =>
   have e1 : encB i = i.op :: zL (ze i.op) i := by unfold encB; rw [(fOf_some hf).1, hv]; exact bytes_tail i hf
   have e2 : encE i = 0 := by unfold encE; rw [(fOf_some hf).1, hv]; rfl
   rw [e1, e2]; exact rencode_good i hi hv w
end Go.Proofs.YteofmaiojepdkaaGreat
