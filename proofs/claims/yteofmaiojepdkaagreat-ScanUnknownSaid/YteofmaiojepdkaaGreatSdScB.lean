/- The reference of chapter 05: Before, Among, Routine, items, same, walked. Condition: what each states. -/
import Derived.Test.YteofmaiojepdkaaGreatSdRvA
set_option linter.all false
namespace Go.Proofs.YteofmaiojepdkaaGreat
open Go Go.RowKit Go.Maps Go.Sort
theorem own_at {w : World} {B s n : Nat} {T : TypeId} {v : Value} {xs : List Value} (h : w.ownsRow B T s v n xs) (hn : 0 < n) : ∃ g cap, v = .slice (some ⟨g, 0, none⟩) n cap ∧ n ≤ cap ∧ ∀ k, k < xs.length → w.cell? ⟨g, k, none⟩ = xs[k]? := by
 obtain ⟨A, cap, rfl, -, -⟩ := zL h
 have hr := xi h
 obtain ⟨hl, h⟩ := h
 rcases h with ⟨-, h0⟩ | ⟨g, cap, cur, he, hB, hg, -⟩
 ·omega
 ·simp only [Value.slice.injEq, true_and] at he
  obtain ⟨rfl, rfl⟩ := he
  refine ⟨g, cap, rfl, hr.le, fun k hk => ?_⟩
  obtain ⟨g2, off, cur2, T2, fr2, e2, hg2, hc2⟩ := hr.at_ hn
  simp only [Option.some.injEq, Addr.mk.injEq, and_true] at e2
  obtain ⟨rfl, rfl⟩ := e2
  rw [cell_of_row _ _ _ _ _ _ hg2, ← hc2 k hk, Nat.zero_add]
theorem one_snd {R : List RtR} {r : yN} (h : [r] = R.map (·.1)) : ∃ a b c, R = [(r, a, b, c)] := by
 match R, h with
 | [(r', a, b, c)], h =>
  simp only [List.map_cons, List.map_nil, List.cons.injEq, and_true] at h
  exact ⟨a, b, c, by rw [h]⟩
 | [], h => cases h
 | _ :: _ :: _, h => simp at h
theorem two_snd {R : List RtR} {r s : yN} (h : [r, s] = R.map (·.1)) : ∃ a b c d e f, R = [(r, a, b, c), (s, d, e, f)] := by
 match R, h with
 | [(r', a, b, c), (s', d, e, f)], h =>
  simp only [List.map_cons, List.map_nil, List.cons.injEq, and_true] at h
  obtain ⟨rfl, rfl⟩ := h
  exact ⟨a, b, c, d, e, f, rfl⟩
 | [], h => cases h
 | [_], h => simp at h
 | _ :: _ :: _ :: _, h => simp at h
theorem xS {w wx : World} {a : Addr} {v : Value} (hb : Below w.heap.size w wx) (h : w.cell? a = some v) : wx.cell? a = some v := (hb.cell (World.block_lt_of_cell? _ _ h)).trans h
def bytA : List Int := [1, 2, 1, 1, 2, 2, 1, 0]
structure ExA (gc g0 gr : Nat) (A : Option Addr) (c : Nat) (W : World) : Prop where
 cd : W.cell? ⟨gr, 5, none⟩ = some (.slice A 4 c)
 cl : W.cell? ⟨gc, 0, none⟩ = some (.slice (some ⟨g0, 0, none⟩) 4096 4096)
 by_ : ∀ i, i < 8 → W.cell? ⟨g0, i, none⟩ = some (.int .u8 (bytA.getD i 0))
theorem ExA.below {gc g0 gr : Nat} {A : Option Addr} {c : Nat} {W W' : World} (h : ExA gc g0 gr A c W) (hb : Below W.heap.size W W') : ExA gc g0 gr A c W' := ⟨xS hb h.cd, xS hb h.cl, fun i hi => xS hb (h.by_ i hi)⟩
theorem scanA (g : Nat) (w : World) (hV : yw w (yv exA) (some ⟨g, 0, none⟩) 1 none 0) :
  Calls Tryz.prog 17 #[.agg #[.slice (some ⟨g, 0, none⟩) 1 1, .int .u16 0, .int .u16 0, .slice none 0 0, .slice none 0 0], .slice none 0 0] w fun e w' => (∃ gc cc gr cr ia ni ic g0 A c, e = .returned (.agg #[.slice (some ⟨gc, 0, none⟩) 1 cc, .slice (some ⟨gr, 0, none⟩) 1 cr, .slice ia ni ic]) ∧ 1 ≤ cc ∧ 1 ≤ cr ∧ ExA gc g0 gr A c w') ∧ Below w.heap.size w w' := by
 refine (scan_any (yv exA) (oneI_ok _) (some ⟨g, 0, none⟩) 1 none 0 none 0 0 [] (by simp) (by simp) none 0 w hV ⟨zn _, rfl, fun h => absurd h (by decide)⟩ (fun _ _ h => by cases h)).mono ?_
 rintro e w' ⟨L, vc, vr, vi, rfl, hL, ⟨⟨gs, c, hgl, hc, hcl⟩, ⟨R, hR, hrt⟩, hi⟩, hb⟩
 have hE := lstA hL
 rw [hE] at hcl hrt
 obtain ⟨v1, v2, v3, rfl⟩ := one_snd hrt
 have hgl1 : gs.length = 1 := hgl
 obtain ⟨g0, rfl⟩ : ∃ g0, gs = [g0] := by
  match gs, hgl1 with
  | [g0], _ => exact ⟨g0, rfl⟩
 obtain ⟨gc, cc, rfl, hcc, hcx⟩ := own_at hc.own (Nat.zero_lt_one)
 obtain ⟨gr, cr, rfl, hcr, hrx⟩ := own_at hR.own (Nat.zero_lt_succ _)
 have hx := hR.rv (rtA, v1, v2, v3) (by simp)
 obtain ⟨A, ca, he, -, -⟩ := zL hx.oc
 dsimp only at he
 subst he
 obtain ⟨ia, ic, rfl, -, -⟩ := zL hi
 refine ⟨⟨gc, cc, gr, cr, ia, _, ic, g0, A, ca, rfl, hcc, hcr, ?_, ?_, fun i hi => ?_⟩, hb⟩
 ·rw [hrx 5 (by simp [rtvL])]; rfl
 ·rw [hcx 0 (by simp)]; rfl
 ·rw [cell_of_row _ _ _ _ _ _ (hc.row 0 g0 rfl), xY _ (by omega), ← clsL_eq hcl (by decide) (by omega), clA i hi]; rfl
structure ExB (gr gl : Nat) (cl : Nat) (W : World) : Prop where
 cl : W.cell? ⟨gr, 6, none⟩ = some (.slice (some ⟨gl, 0, none⟩) 1 cl)
 l0 : W.cell? ⟨gl, 0, none⟩ = some (.int .i64 0)
 l1 : W.cell? ⟨gl, 1, none⟩ = some (.int .u16 4)
 e0 : W.cell? ⟨gr, 8, none⟩ = some (.int .i64 0)
 e1 : W.cell? ⟨gr, 9, none⟩ = some (.int .u16 4)
theorem ExB.below {gr gl cl : Nat} {W W' : World} (h : ExB gr gl cl W) (hb : Below W.heap.size W W') : ExB gr gl cl W' := ⟨xS hb h.cl, xS hb h.l0, xS hb h.l1, xS hb h.e0, xS hb h.e1⟩
theorem scanB (g : Nat) (w : World) (hV : yw w (yv exB) (some ⟨g, 0, none⟩) 1 none 0) :
  Calls Tryz.prog 17 #[.agg #[.slice (some ⟨g, 0, none⟩) 1 1, .int .u16 0, .int .u16 0, .slice none 0 0, .slice none 0 0], .slice none 0 0] w fun e w' => (∃ va vn vk gr cr ia ni ic gl cl, e = .returned (.agg #[.slice va vn vk, .slice (some ⟨gr, 0, none⟩) 2 cr, .slice ia ni ic]) ∧ 2 ≤ cr ∧ 1 ≤ cl ∧ ExB gr gl cl w') ∧ Below w.heap.size w w' := by
 refine (scan_any (yv exB) (oneI_ok _) (some ⟨g, 0, none⟩) 1 none 0 none 0 0 [] (by simp) (by simp) none 0 w hV ⟨zn _, rfl, fun h => absurd h (by decide)⟩ (fun _ _ h => by cases h)).mono ?_
 rintro e w' ⟨L, vc, vr, vi, rfl, hL, ⟨⟨gs, c, -, hc, -⟩, ⟨R, hR, hrt⟩, hi⟩, hb⟩
 obtain ⟨va, vk, rfl, -, -⟩ := zL hc.own
 obtain ⟨ia, ic, rfl, -, -⟩ := zL hi
 rw [lstB hL] at hrt
 obtain ⟨v1, v2, v3, v4, v5, v6, rfl⟩ := two_snd hrt
 obtain ⟨gr, cr, rfl, hcr, hrx⟩ := own_at hR.own (Nat.zero_lt_succ _)
 have hx := hR.rv (rtB0, v1, v2, v3) (by simp)
 obtain ⟨gl, cl, he, hcl, hlx⟩ := own_at hx.ol (Nat.zero_lt_succ 0)
 dsimp only at he
 subst he
 refine ⟨⟨va, _, vk, gr, cr, ia, _, ic, gl, cl, rfl, hcr, hcl, ?_, ?_, ?_, ?_, ?_⟩, hb⟩
 ·rw [hrx 6 (by simp [rtvL])]; rfl
 ·rw [hlx 0 (show 0 < 2 by decide)]; rfl
 ·rw [hlx 1 (show 1 < 2 by decide)]; rfl
 ·rw [hrx 8 (by simp [rtvL])]; rfl
 ·rw [hrx 9 (by simp [rtvL])]; rfl
structure ExC (gr : Nat) (A : Option Addr) (c : Nat) (Ai : Option Addr) (ci : Nat) (W : World) : Prop where
 cd : W.cell? ⟨gr, 5, none⟩ = some (.slice A 0 c)
 is_ : W.cell? ⟨gr, 7, none⟩ = some (.slice Ai 1 ci)
 ri : RdS W 3 Ai 1 ci (xl [⟨11, ⟨0, 0⟩⟩])
theorem ExC.below {gr : Nat} {A : Option Addr} {c : Nat} {Ai : Option Addr} {ci : Nat} {W W' : World} (h : ExC gr A c Ai ci W) (hb : Below W.heap.size W W') : ExC gr A c Ai ci W' := ⟨xS hb h.cd, xS hb h.is_, h.ri.below hb⟩
theorem scanC (g : Nat) (w : World) (hV : yw w (yv exC) (some ⟨g, 0, none⟩) 1 none 0) :
  Calls Tryz.prog 17 #[.agg #[.slice (some ⟨g, 0, none⟩) 1 1, .int .u16 0, .int .u16 0, .slice none 0 0, .slice none 0 0], .slice none 0 0] w fun e w' => (∃ va vn vk gr cr ia ni ic A c Ai ci, e = .returned (.agg #[.slice va vn vk, .slice (some ⟨gr, 0, none⟩) 1 cr, .slice ia ni ic]) ∧ 1 ≤ cr ∧ ExC gr A c Ai ci w') ∧ Below w.heap.size w w' := by
 refine (scan_any (yv exC) (oneI_ok _) (some ⟨g, 0, none⟩) 1 none 0 none 0 0 [] (by simp) (by simp) none 0 w hV ⟨zn _, rfl, fun h => absurd h (by decide)⟩ (fun _ _ h => by cases h)).mono ?_
 rintro e w' ⟨L, vc, vr, vi, rfl, hL, ⟨⟨gs, c, -, hc, -⟩, ⟨R, hR, hrt⟩, hi⟩, hb⟩
 obtain ⟨va, vk, rfl, -, -⟩ := zL hc.own
 obtain ⟨ia, ic, rfl, -, -⟩ := zL hi
 rw [lstC hL] at hrt
 obtain ⟨v1, v2, v3, rfl⟩ := one_snd hrt
 obtain ⟨gr, cr, rfl, hcr, hrx⟩ := own_at hR.own (Nat.zero_lt_succ _)
 have hx := hR.rv (rtC, v1, v2, v3) (by simp)
 obtain ⟨A, c, he, -, -⟩ := zL hx.oc
 obtain ⟨Ai, ci, he2, -, -⟩ := zL hx.oi
 have hoi := hx.oi
 dsimp only at he he2 hoi
 subst he he2
 refine ⟨⟨va, _, vk, gr, cr, ia, _, ic, A, c, Ai, ci, rfl, hcr, ?_, ?_, xi hoi⟩, hb⟩
 ·rw [hrx 5 (by simp [rtvL])]; rfl
 ·rw [hrx 7 (by simp [rtvL])]; rfl
set_option maxRecDepth 100000 in
set_option maxHeartbeats 8000000 in
theorem sane_any (w : World) : Calls Tryz.prog 14 #[] w fun e w' => e = .returned (.bool true) ∧ Below w.heap.size w w' := by
 have HIA := zh (fun W => show Calls Tryz.prog 36 #[.string ⟨#[96, 1, 2, 48, 0, 7, 2]⟩] W fun e w' => (∃ g, e = .returned (.agg #[.slice (some ⟨g, 0, none⟩) 1 1, .int .u16 0, .int .u16 0, .slice none 0 0, .slice none 0 0]) ∧ yw w' (yv exA) (some ⟨g, 0, none⟩) 1 none 0) ∧ Below W.heap.size W w' from image_any exA (by decide) W)
 have HIB := zh (fun W => show Calls Tryz.prog 36 #[.string ⟨#[130, 1, 0, 2, 1]⟩] W fun e w' => (∃ g, e = .returned (.agg #[.slice (some ⟨g, 0, none⟩) 1 1, .int .u16 0, .int .u16 0, .slice none 0 0, .slice none 0 0]) ∧ yw w' (yv exB) (some ⟨g, 0, none⟩) 1 none 0) ∧ Below W.heap.size W w' from image_any exB (by decide) W)
 have HIC := zh (fun W => show Calls Tryz.prog 36 #[.string ⟨#[255]⟩] W fun e w' => (∃ g, e = .returned (.agg #[.slice (some ⟨g, 0, none⟩) 1 1, .int .u16 0, .int .u16 0, .slice none 0 0, .slice none 0 0]) ∧ yw w' (yv exC) (some ⟨g, 0, none⟩) 1 none 0) ∧ Below W.heap.size W w' from image_any exC (by decide) W)
 go_enter Tryz.func14, Tryz.ntmps14
 have HB0 := zh (Below.refl w.heap.size w)
 go_upto_region 2 with (first
  | (go_at_call 36; (with_reducible refine (HIA.out _).mono ?_); rintro e3 w3A ⟨⟨ga, rfl, hva⟩, hb3⟩; have HV3 := zh hva; have HB3 := zh hb3; clear hb3 hva)
  | (refine wpList_store_row rfl _ _ _ rfl _ _ rfl rfl _ _ (heap_alloc_new _ _) ?_ ?_ ?_ ?_; kernel_rfl; rfl; kernel_rfl; rw [World.setRow_alloc_new]))
 have hq : Below w3A.heap.size w3A (w3A.alloc (.cells #[.slice (some ⟨ga, 0, none⟩) 1 1, .int .u16 0, .int .u16 0, .slice none 0 0, .slice none 0 0] 31)) := (Below.refl _ _).alloc (zn _) _
 have hi4 := heap_alloc_new w3A (.cells #[.slice (some ⟨ga, 0, none⟩) 1 1, .int .u16 0, .int .u16 0, .slice none 0 0, .slice none 0 0] 31)
 have hbb := HB3.out.trans (hq.mono HB3.out.size)
 have HV4 := zh (HV3.out.below hq)
 have HB0 := zh (HB0.out.trans (hbb.mono HB0.out.size))
 obtain ⟨w4A, hw4⟩ : ∃ w4, w3A.alloc (.cells #[.slice (some ⟨ga, 0, none⟩) 1 1, .int .u16 0, .int .u16 0, .slice none 0 0, .slice none 0 0] 31) = w4 := ⟨_, rfl⟩
 rw [hw4] at hq hi4 hbb HV4 HB0 ⊢
 have HI4 := zh hi4
 have HS4 := zh (scanA ga w4A HV4.out)
 clear hw4 hq hi4 hbb HB3 HV3 HV4
 go_upto_region 3 with (first
  | (refine zb 31 _ rfl _ rfl _ _ _ (HI4.out) ?_ ?_ ?_; kernel_rfl; kernel_rfl)
  | (go_at_call 17; (with_reducible refine HS4.out.mono ?_); rintro e5 w5A ⟨⟨gc, cc, gr, cr, iaA, niA, icA, g0, A, c, rfl, hcc, hcr, hex⟩, hb⟩; have HE5 := zh hex; have HB5 := zh hb; clear hex hb)
  | (refine wpList_store_row rfl _ _ _ rfl _ _ rfl rfl _ _ (heap_alloc_new _ _) ?_ ?_ ?_ ?_; kernel_rfl; rfl; kernel_rfl; rw [World.setRow_alloc_new]))
 have hq : Below w5A.heap.size w5A (w5A.alloc (.cells #[.slice (some ⟨gc, 0, none⟩) 1 cc, .slice (some ⟨gr, 0, none⟩) 1 cr, .slice iaA niA icA] 38)) := (Below.refl _ _).alloc (zn _) _
 have hl6 := heap_alloc_new w5A (.cells #[.slice (some ⟨gc, 0, none⟩) 1 cc, .slice (some ⟨gr, 0, none⟩) 1 cr, .slice iaA niA icA] 38)
 have hbb := HB5.out.trans (hq.mono HB5.out.size)
 have XA := zh (HE5.out.below hq)
 have HB0 := zh (HB0.out.trans (hbb.mono HB0.out.size))
 obtain ⟨w6A, hw6⟩ : ∃ w6, w5A.alloc (.cells #[.slice (some ⟨gc, 0, none⟩) 1 cc, .slice (some ⟨gr, 0, none⟩) 1 cr, .slice iaA niA icA] 38) = w6 := ⟨_, rfl⟩
 rw [hw6] at hq hl6 hbb XA HB0 ⊢
 have LA := zh hl6
 clear hw6 hq hl6 hbb HB5 HE5 HI4 HS4
 go_upto_region 4 with (first
  | (go_at_call 36; (with_reducible refine (HIB.out _).mono ?_); rintro e3 w3B ⟨⟨gb, rfl, hva⟩, hb3⟩; have HV3 := zh hva; have HB3 := zh hb3; clear hb3 hva)
  | (refine wpList_store_row rfl _ _ _ rfl _ _ rfl rfl _ _ (heap_alloc_new _ _) ?_ ?_ ?_ ?_; kernel_rfl; rfl; kernel_rfl; rw [World.setRow_alloc_new]))
 have hq : Below w3B.heap.size w3B (w3B.alloc (.cells #[.slice (some ⟨gb, 0, none⟩) 1 1, .int .u16 0, .int .u16 0, .slice none 0 0, .slice none 0 0] 31)) := (Below.refl _ _).alloc (zn _) _
 have hi4 := heap_alloc_new w3B (.cells #[.slice (some ⟨gb, 0, none⟩) 1 1, .int .u16 0, .int .u16 0, .slice none 0 0, .slice none 0 0] 31)
 have hbb := HB3.out.trans (hq.mono HB3.out.size)
 have XA := zh (XA.out.below hbb)
 have LA := zh (za hbb LA.out)
 have HV4 := zh (HV3.out.below hq)
 have HB0 := zh (HB0.out.trans (hbb.mono HB0.out.size))
 obtain ⟨w4B, hw4⟩ : ∃ w4, w3B.alloc (.cells #[.slice (some ⟨gb, 0, none⟩) 1 1, .int .u16 0, .int .u16 0, .slice none 0 0, .slice none 0 0] 31) = w4 := ⟨_, rfl⟩
 rw [hw4] at hq hi4 hbb HV4 HB0 ⊢
 rw [hw4] at XA LA
 have HI4 := zh hi4
 have HS4 := zh (scanB gb w4B HV4.out)
 clear hw4 hq hi4 hbb HB3 HV3 HV4
 go_upto_region 5 with (first
  | (refine zb 31 _ rfl _ rfl _ _ _ (HI4.out) ?_ ?_ ?_; kernel_rfl; kernel_rfl)
  | (go_at_call 17; (with_reducible refine HS4.out.mono ?_); rintro e5 w5B ⟨⟨vaB, vnB, vkB, grB, crB, iaB, niB, icB, glB, clB, rfl, hcrB, hclB, hex⟩, hb⟩; have HE5 := zh hex; have HB5 := zh hb; clear hex hb)
  | (refine wpList_store_row rfl _ _ _ rfl _ _ rfl rfl _ _ (heap_alloc_new _ _) ?_ ?_ ?_ ?_; kernel_rfl; rfl; kernel_rfl; rw [World.setRow_alloc_new]))
 have hq : Below w5B.heap.size w5B (w5B.alloc (.cells #[.slice vaB vnB vkB, .slice (some ⟨grB, 0, none⟩) 2 crB, .slice iaB niB icB] 38)) := (Below.refl _ _).alloc (zn _) _
 have hl6 := heap_alloc_new w5B (.cells #[.slice vaB vnB vkB, .slice (some ⟨grB, 0, none⟩) 2 crB, .slice iaB niB icB] 38)
 have hbb := HB5.out.trans (hq.mono HB5.out.size)
 have XA := zh (XA.out.below hbb)
 have LA := zh (za hbb LA.out)
 have XB := zh (HE5.out.below hq)
 have HB0 := zh (HB0.out.trans (hbb.mono HB0.out.size))
 obtain ⟨w6B, hw6⟩ : ∃ w6, w5B.alloc (.cells #[.slice vaB vnB vkB, .slice (some ⟨grB, 0, none⟩) 2 crB, .slice iaB niB icB] 38) = w6 := ⟨_, rfl⟩
 rw [hw6] at hq hl6 hbb XB HB0 ⊢
 rw [hw6] at XA LA
 have LB := zh hl6
 clear hw6 hq hl6 hbb HB5 HE5 HI4 HS4
 go_upto_region 6 with (first
  | (go_at_call 36; (with_reducible refine (HIC.out _).mono ?_); rintro e3 w3C ⟨⟨gd, rfl, hva⟩, hb3⟩; have HV3 := zh hva; have HB3 := zh hb3; clear hb3 hva)
  | (refine wpList_store_row rfl _ _ _ rfl _ _ rfl rfl _ _ (heap_alloc_new _ _) ?_ ?_ ?_ ?_; kernel_rfl; rfl; kernel_rfl; rw [World.setRow_alloc_new]))
 have hq : Below w3C.heap.size w3C (w3C.alloc (.cells #[.slice (some ⟨gd, 0, none⟩) 1 1, .int .u16 0, .int .u16 0, .slice none 0 0, .slice none 0 0] 31)) := (Below.refl _ _).alloc (zn _) _
 have hi4 := heap_alloc_new w3C (.cells #[.slice (some ⟨gd, 0, none⟩) 1 1, .int .u16 0, .int .u16 0, .slice none 0 0, .slice none 0 0] 31)
 have hbb := HB3.out.trans (hq.mono HB3.out.size)
 have XA := zh (XA.out.below hbb)
 have LA := zh (za hbb LA.out)
 have XB := zh (XB.out.below hbb)
 have LB := zh (za hbb LB.out)
 have HV4 := zh (HV3.out.below hq)
 have HB0 := zh (HB0.out.trans (hbb.mono HB0.out.size))
 obtain ⟨w4C, hw4⟩ : ∃ w4, w3C.alloc (.cells #[.slice (some ⟨gd, 0, none⟩) 1 1, .int .u16 0, .int .u16 0, .slice none 0 0, .slice none 0 0] 31) = w4 := ⟨_, rfl⟩
 rw [hw4] at hq hi4 hbb HV4 HB0 ⊢
 rw [hw4] at XA LA XB LB
 have HI4 := zh hi4
 have HS4 := zh (scanC gd w4C HV4.out)
 clear hw4 hq hi4 hbb HB3 HV3 HV4
 go_upto_region 7 with (first
  | (refine zb 31 _ rfl _ rfl _ _ _ (HI4.out) ?_ ?_ ?_; kernel_rfl; kernel_rfl)
  | (go_at_call 17; (with_reducible refine HS4.out.mono ?_); rintro e5 w5C ⟨⟨vaC, vnC, vkC, grC, crC, iaC, niC, icC, AC, cC, AiC, ciC, rfl, hcrC, hex⟩, hb⟩; have HE5 := zh hex; have HB5 := zh hb; clear hex hb)
  | (refine wpList_store_row rfl _ _ _ rfl _ _ rfl rfl _ _ (heap_alloc_new _ _) ?_ ?_ ?_ ?_; kernel_rfl; rfl; kernel_rfl; rw [World.setRow_alloc_new]))
 have hq : Below w5C.heap.size w5C (w5C.alloc (.cells #[.slice vaC vnC vkC, .slice (some ⟨grC, 0, none⟩) 1 crC, .slice iaC niC icC] 38)) := (Below.refl _ _).alloc (zn _) _
 have hl6 := heap_alloc_new w5C (.cells #[.slice vaC vnC vkC, .slice (some ⟨grC, 0, none⟩) 1 crC, .slice iaC niC icC] 38)
 have hbb := HB5.out.trans (hq.mono HB5.out.size)
 have XA := zh (XA.out.below hbb)
 have LA := zh (za hbb LA.out)
 have XB := zh (XB.out.below hbb)
 have LB := zh (za hbb LB.out)
 have XC := zh (HE5.out.below hq)
 have HB0 := zh (HB0.out.trans (hbb.mono HB0.out.size))
 obtain ⟨w6C, hw6⟩ : ∃ w6, w5C.alloc (.cells #[.slice vaC vnC vkC, .slice (some ⟨grC, 0, none⟩) 1 crC, .slice iaC niC icC] 38) = w6 := ⟨_, rfl⟩
 rw [hw6] at hq hl6 hbb XC HB0 ⊢
 rw [hw6] at XA LA XB LB
 have LC := zh hl6
 clear hw6 hq hl6 hbb HB5 HE5 HI4 HS4
 clear HIA HIB HIC
 have hcA := fun o => cell_of_row w6C w5A.heap.size o _ _ _ LA.out
 have hg0 := XA.out.cl
 have hg5 := XA.out.cd
 have hcv : (convert 73 9 (.slice (some ⟨g0, 0, none⟩) 8 4096)).run Tryz.prog w6C = .ok (.string ⟨#[1, 2, 1, 1, 2, 2, 1, 0]⟩) w6C := by
  rw [run_convert_bytes_arg w6C _ _ Tryz.underlying73 Tryz.underlying5 g0 0 8 4096 bytA rfl (fun i hi => by rw [Nat.zero_add]; exact XA.out.by_ i hi) _ Tryz.underlying9]
  rfl
 go_upto_if 51 with fail
 clear hcA hg0 hg5 hcv
 have hcB := fun o => cell_of_row w6C w5B.heap.size o _ _ _ LB.out
 have h1 := XB.out.cl
 have h2 := XB.out.l0
 have h3 := XB.out.l1
 have h4 := XB.out.e0
 have h5 := XB.out.e1
 go_upto_if 84 with fail
 clear hcB h1 h2 h3 h4 h5
 have hcC := fun o => cell_of_row w6C w5C.heap.size o _ _ _ LC.out
 have h1 := XC.out.cd
 have h2 := XC.out.is_
 have HB4 := zh (show Below w6C.heap.size w6C (w6C.alloc (issB ⟨11, ⟨0, 0⟩⟩)) from (Below.refl _ _).alloc (zn _) _)
 have HIS := zh (show Calls Tryz.prog 32 #[.slice AiC 1 ciC, .slice (some ⟨w6C.heap.size, 0, none⟩) 1 1] (w6C.alloc (issB ⟨11, ⟨0, 0⟩⟩)) fun e w' => e = .returned (.bool true) ∧ Below (w6C.alloc (issB ⟨11, ⟨0, 0⟩⟩)).heap.size (w6C.alloc (issB ⟨11, ⟨0, 0⟩⟩)) w' from
  issues_any [⟨11, ⟨0, 0⟩⟩] [⟨11, ⟨0, 0⟩⟩] AiC (some ⟨w6C.heap.size, 0, none⟩) ciC 1 _ (XC.out.ri.below HB4.out) ⟨zn _, rfl, fun _ => ⟨w6C.heap.size, 0, _, _, _, rfl, heap_alloc_new w6C _, fun j hj => by
   match j, hj with
   | 0, _ => rfl
   | 1, _ => rfl
   | 2, _ => rfl⟩⟩ (by decide) (by decide))
 go_wp2_with (first
  | (go_at_call 32; (with_reducible refine HIS.out.mono ?_); rintro e9 w9 ⟨rfl, hb9⟩; have HB9 := zh hb9; clear hb9))
 go_ret
 exact ⟨rfl, HB0.out.trans ((HB4.out.trans (HB9.out.mono HB4.out.size)).mono HB0.out.size)⟩
end Go.Proofs.YteofmaiojepdkaaGreat
namespace Go.Proofs.YteofmaiojepdkaaGreat
open Go Go.RowKit Go.Maps Go.Sort
theorem RdS.part {w : World} {s : Nat} {A : Option Addr} {n cap : Nat} {xs : List Value} (h : RdS w s A n cap xs) {k : Nat} (hk : k < n) {a m : Nat} (ham : a + m ≤ s) {L : List Value} (hL : ((((xs.drop (k * s)).take s).drop a).take m) = L) :
  ∃ g off cur T fr, A = some ⟨g, off, none⟩ ∧ w.heap[g]? = some (.cells cur T fr) ∧ (cur.extract (off + k * s + a) (off + k * s + a + m)).toList = L ∧ L.length = m ∧ ∀ j, j < m → w.cell? ⟨g, off + k * s + a + j, none⟩ = L[j]? := by
 obtain ⟨g, off, cur, T, fr, e, h1, -, hlen, h2⟩ := h.row hk
 have hl : L.length = m := by rw [← hL, List.length_take, List.length_drop, hlen]; omega
 have hget : ∀ j, j < m → cur[off + k * s + a + j]? = L[j]? := fun j hj => by
  have := h2 (a + j) (by omega)
  rw [cell_of_row _ _ _ _ _ _ h1] at this
  rw [← hL, List.getElem?_take_of_lt hj, List.getElem?_drop, ← this, show off + k * s + a + j = off + k * s + (a + j) by omega]
 refine ⟨g, off, cur, T, fr, e, h1, ?_, hl, fun j hj => by rw [cell_of_row _ _ _ _ _ _ h1]; exact hget j hj⟩
 have := ext_at (c := cur) (o := off + k * s + a) (L := L) (fun j hj => hget j (by omega))
 rwa [hl] at this
theorem RdS.elt {α : Type} {f : α → List Value} {s : Nat} (hf : ∀ a, (f a).length = s) {w : World} {A : Option Addr} {l : List α} {cap : Nat} (h : RdS w s A l.length cap (l.flatMap f)) {k : Nat} {x : α} (hx : l[k]? = some x) :
  ∃ g off cur T fr, A = some ⟨g, off, none⟩ ∧ w.heap[g]? = some (.cells cur T fr) ∧ (cur.extract (off + k * s) (off + k * s + s)).toList = f x := by
 obtain ⟨g, off, cur, T, fr, e, hg, hex, -, -⟩ := h.row (List.getElem?_eq_some_iff.1 hx).1
 rw [xM f s hf l k x hx] at hex
 exact ⟨g, off, cur, T, fr, e, hg, hex⟩
theorem RdS.eltPart {α : Type} {f : α → List Value} {s : Nat} (hf : ∀ a, (f a).length = s) {w : World} {A : Option Addr} {l : List α} {cap : Nat} (h : RdS w s A l.length cap (l.flatMap f)) {k : Nat} {x : α} (hx : l[k]? = some x) {a m : Nat} (ham : a + m ≤ s) {L : List Value} (hL : ((f x).drop a).take m = L) :
  ∃ g off cur T fr, A = some ⟨g, off, none⟩ ∧ w.heap[g]? = some (.cells cur T fr) ∧ (cur.extract (off + k * s + a) (off + k * s + a + m)).toList = L ∧ L.length = m ∧ ∀ j, j < m → w.cell? ⟨g, off + k * s + a + j, none⟩ = L[j]? :=
 h.part (List.getElem?_eq_some_iff.1 hx).1 ham (by rw [xM f s hf l k x hx]; exact hL)
set_option maxRecDepth 100000 in
set_option maxHeartbeats 4000000 in
theorem items_any (I : zp) (l : List zc) (A1 A2 : Option Addr) (c1 c2 : Nat) (w : World) (h1 : RdS w 9 A1 l.length c1 (itmsL I l)) (h2 : RdS w 9 A2 l.length c2 (itmsL I l)) (hl : l.length ≤ 9223372036854775807) :
  Calls Tryz.prog 38 #[.slice A1 l.length c1, .slice A2 l.length c2] w fun e w' => e = .returned (.bool true) ∧ Below w.heap.size w w' := by
 have HA := zh h1
 have HB := zh h2
 have ha := h1.le
 have hb := h2.le
 clear h1 h2
 go_enter Tryz.func38, Tryz.ntmps38
 go_wp2_with fail
 go_loopw [5] (fun i wr => ∃ m : Nat, m ≤ l.length ∧ i = .int .i64 m ∧ Hid (Below w.heap.size w wr)) (fun i _ => l.length - (intOf i).toNat)
 case atStart => exact ⟨0, Nat.zero_le _, rfl, zh (Below.refl _ _)⟩
 case round =>
  obtain ⟨m, hm, rfl, HW⟩ := hrel
  by_cases hlt : m < l.length
  ·obtain ⟨x, hx⟩ : ∃ x, l[m]? = some x := ⟨_, List.getElem?_eq_getElem hlt⟩
   obtain ⟨g1, o1, cur1, T1, fr1, rfl, hg1, hex1⟩ := RdS.elt (f := itmL I) (fun _ => rfl) (HA.out.below HW.out) hx
   obtain ⟨g2, o2, cur2, T2, fr2, rfl, hg2, hex2⟩ := RdS.elt (f := itmL I) (fun _ => rfl) (HB.out.below HW.out) hx
   have HE1 := zh hex1
   have HE2 := zh hex2
   have HG := zh (And.intro hg1 hg2)
   have HLT := zh hlt
   clear hx hg1 hg2 hex1 hex2
   go_upto_region 6 with fail
   refine zm (S := fun W => W.heap[g1]? = some (.cells cur1 T1 fr1) ∧ W.heap[g2]? = some (.cells cur2 T2 fr2)) [8] (by kernel_rfl) ⟨HG.out.1, HG.out.2⟩ (fun hHeld => ?_)
   (refine tkZ 0 (v := ?_) rfl (by assumption) ?_ ?_; rotate_left; (focus (intro w hSw; (try dsimp only at hSw); go_simp; try with_reducible rfl)); (try simp only [zA, zB, zC, Act.put, zD, zE, zF]))
   (refine tkZ 1 (v := ?_) rfl (by assumption) ?_ ?_; rotate_left; (focus (intro w hSw; (try dsimp only at hSw); go_simp; try with_reducible rfl)); (try simp only [zA, zB, zC, Act.put, zD, zE, zF]))
   (refine tkZ 2 (v := ?_) rfl (by assumption) ?_ ?_; rotate_left; (focus (intro w hSw; (try dsimp only at hSw); go_simp; try with_reducible rfl)); (try simp only [zA, zB, zC, Act.put, zD, zE, zF]))
   (refine tkZ 3 (v := .agg #[.int .i64 x.bank, .int .u16 x.addr, .int .i64 (atI I x).1.op, .int .i64 (atI I x).1.d, .int .i64 (atI I x).1.s, .int .u16 (atI I x).1.imm, .int .u16 (atI I x).1.aux, .int .i64 (atI I x).1.bank, .int .i64 (atI I x).1.size]) rfl (by assumption) (fun W hS => zO _ _ rfl _ _ rfl _ _ _ hS.1 (itmL I x) HE1.out (by kernel_rfl)) ?_; (try simp only [zA, zB, zC, Act.put, zD, zE, zF]))
   (refine tkZ 4 (v := ?_) rfl (by assumption) ?_ ?_; rotate_left; (focus (intro w hSw; (try dsimp only at hSw); go_simp; try with_reducible rfl)); (try simp only [zA, zB, zC, Act.put, zD, zE, zF]))
   (refine tkZ 5 (v := ?_) rfl (by assumption) ?_ ?_; rotate_left; (focus (intro w hSw; (try dsimp only at hSw); go_simp; try with_reducible rfl)); (try simp only [zA, zB, zC, Act.put, zD, zE, zF]))
   (refine tkZ 6 (v := ?_) rfl (by assumption) ?_ ?_; rotate_left; (focus (intro w hSw; (try dsimp only at hSw); go_simp; try with_reducible rfl)); (try simp only [zA, zB, zC, Act.put, zD, zE, zF]))
   (refine tkZ 7 (v := .agg #[.int .i64 x.bank, .int .u16 x.addr, .int .i64 (atI I x).1.op, .int .i64 (atI I x).1.d, .int .i64 (atI I x).1.s, .int .u16 (atI I x).1.imm, .int .u16 (atI I x).1.aux, .int .i64 (atI I x).1.bank, .int .i64 (atI I x).1.size]) rfl (by assumption) (fun W hS => zO _ _ rfl _ _ rfl _ _ _ hS.2 (itmL I x) HE2.out (by kernel_rfl)) ?_; (try simp only [zA, zB, zC, Act.put, zD, zE, zF]))
   refine ya 8 ?_
   simp only [List.drop_succ_cons, List.drop_zero]
   clear hHeld
   go_wp2_with fail
   go_roundw
   case rel => exact ⟨m + 1, HLT.out, by go_num, zh HW.out.drew⟩
   case measure => have h1 := HLT.out; simp [intOf]; omega
  ·obtain rfl : m = l.length := by omega
   go_wp2_with fail
   go_ret
   exact ⟨rfl, HW.out⟩
set_option maxRecDepth 100000 in
set_option maxHeartbeats 4000000 in
theorem same5_any (l : List zc) (A1 A2 : Option Addr) (c1 c2 : Nat) (w : World) (h1 : RdS w 2 A1 l.length c1 (zt l)) (h2 : RdS w 2 A2 l.length c2 (zt l)) (hl : l.length ≤ 9223372036854775807) :
  Calls Tryz.prog 39 #[.slice A1 l.length c1, .slice A2 l.length c2] w fun e w' => e = .returned (.bool true) ∧ Below w.heap.size w w' := by
 have HA := zh h1
 have HB := zh h2
 have ha := h1.le
 have hb := h2.le
 clear h1 h2
 go_enter Tryz.func39, Tryz.ntmps39
 go_wp2_with fail
 go_loopw [5] (fun i wr => ∃ m : Nat, m ≤ l.length ∧ i = .int .i64 m ∧ Hid (Below w.heap.size w wr)) (fun i _ => l.length - (intOf i).toNat)
 case atStart => exact ⟨0, Nat.zero_le _, rfl, zh (Below.refl _ _)⟩
 case round =>
  obtain ⟨m, hm, rfl, HW⟩ := hrel
  by_cases hlt : m < l.length
  ·obtain ⟨x, hx⟩ : ∃ x, l[m]? = some x := ⟨_, List.getElem?_eq_getElem hlt⟩
   obtain ⟨g1, o1, cur1, T1, fr1, rfl, hg1, hex1⟩ := RdS.elt (f := yV) (fun _ => rfl) (HA.out.below HW.out) hx
   obtain ⟨g2, o2, cur2, T2, fr2, rfl, hg2, hex2⟩ := RdS.elt (f := yV) (fun _ => rfl) (HB.out.below HW.out) hx
   have HE1 := zh hex1
   have HE2 := zh hex2
   have HG := zh (And.intro hg1 hg2)
   have HLT := zh hlt
   clear hx hg1 hg2 hex1 hex2
   go_upto_region 6 with fail
   refine zm (S := fun W => W.heap[g1]? = some (.cells cur1 T1 fr1) ∧ W.heap[g2]? = some (.cells cur2 T2 fr2)) [8] (by kernel_rfl) ⟨HG.out.1, HG.out.2⟩ (fun hHeld => ?_)
   (refine tkZ 0 (v := ?_) rfl (by assumption) ?_ ?_; rotate_left; (focus (intro w hSw; (try dsimp only at hSw); go_simp; try with_reducible rfl)); (try simp only [zA, zB, zC, Act.put, zD, zE, zF]))
   (refine tkZ 1 (v := ?_) rfl (by assumption) ?_ ?_; rotate_left; (focus (intro w hSw; (try dsimp only at hSw); go_simp; try with_reducible rfl)); (try simp only [zA, zB, zC, Act.put, zD, zE, zF]))
   (refine tkZ 2 (v := ?_) rfl (by assumption) ?_ ?_; rotate_left; (focus (intro w hSw; (try dsimp only at hSw); go_simp; try with_reducible rfl)); (try simp only [zA, zB, zC, Act.put, zD, zE, zF]))
   (refine tkZ 3 (v := .agg #[.int .i64 x.bank, .int .u16 x.addr]) rfl (by assumption) (fun W hS => zO _ _ rfl _ _ rfl _ _ _ hS.1 (yV x) HE1.out (by kernel_rfl)) ?_; (try simp only [zA, zB, zC, Act.put, zD, zE, zF]))
   (refine tkZ 4 (v := ?_) rfl (by assumption) ?_ ?_; rotate_left; (focus (intro w hSw; (try dsimp only at hSw); go_simp; try with_reducible rfl)); (try simp only [zA, zB, zC, Act.put, zD, zE, zF]))
   (refine tkZ 5 (v := ?_) rfl (by assumption) ?_ ?_; rotate_left; (focus (intro w hSw; (try dsimp only at hSw); go_simp; try with_reducible rfl)); (try simp only [zA, zB, zC, Act.put, zD, zE, zF]))
   (refine tkZ 6 (v := ?_) rfl (by assumption) ?_ ?_; rotate_left; (focus (intro w hSw; (try dsimp only at hSw); go_simp; try with_reducible rfl)); (try simp only [zA, zB, zC, Act.put, zD, zE, zF]))
   (refine tkZ 7 (v := .agg #[.int .i64 x.bank, .int .u16 x.addr]) rfl (by assumption) (fun W hS => zO _ _ rfl _ _ rfl _ _ _ hS.2 (yV x) HE2.out (by kernel_rfl)) ?_; (try simp only [zA, zB, zC, Act.put, zD, zE, zF]))
   refine ya 8 ?_
   simp only [List.drop_succ_cons, List.drop_zero]
   clear hHeld
   go_wp2_with fail
   go_roundw
   case rel => exact ⟨m + 1, HLT.out, by go_num, zh HW.out.drew⟩
   case measure => have h1 := HLT.out; simp [intOf]; omega
  ·obtain rfl : m = l.length := by omega
   go_wp2_with fail
   go_ret
   exact ⟨rfl, HW.out⟩
theorem mem_take_succ {α : Type} {l : List α} {m : Nat} {x : α} (hx : l[m]? = some x) (p : α) : p ∈ l.take (m + 1) ↔ p ∈ l.take m ∨ p = x := by
 rw [List.take_succ, hx, List.mem_append]
 simp
set_option maxRecDepth 100000 in
set_option maxHeartbeats 4000000 in
theorem among_any (l : List zc) (p : zc) (A : Option Addr) (c : Nat) (w : World) (h : RdS w 2 A l.length c (zt l)) (hl : l.length ≤ 9223372036854775807) :
  Calls Tryz.prog 22 #[.slice A l.length c, .agg #[.int .i64 p.bank, .int .u16 p.addr]] w fun e w' => e = .returned (.bool (decide (p ∈ l))) ∧ Below w.heap.size w w' := by
 have HA := zh h
 have ha := h.le
 clear h
 have HX := zh (Bx.one w (zr p))
 go_enter Tryz.func22, Tryz.ntmps22
 go_upto_region 1 with fail
 obtain ⟨wi, hwi⟩ : ∃ wi, w.alloc (zr p) = wi := ⟨_, rfl⟩
 rw [hwi] at HX ⊢
 clear hwi
 go_wp2_with fail
 go_loopw [5] (fun i wr => ∃ m : Nat, m ≤ l.length ∧ i = .int .i64 m ∧ Hid (p ∉ l.take m) ∧ Hid (Bx [zr p] w wr)) (fun i _ => l.length - (intOf i).toNat)
 case atStart => exact ⟨0, Nat.zero_le _, rfl, zh (by simp), HX⟩
 case round =>
  clear HX
  obtain ⟨m, hm, rfl, HN, HX⟩ := hrel
  by_cases hlt : m < l.length
  ·obtain ⟨x, hx⟩ : ∃ x, l[m]? = some x := ⟨_, List.getElem?_eq_getElem hlt⟩
   obtain ⟨g1, o1, cur1, T1, fr1, rfl, hg1, hex1⟩ := RdS.elt (f := yV) (fun _ => rfl) (HA.out.below HX.out.bb) hx
   have HE1 := zh hex1
   have HG := zh (And.intro hg1 HX.out.b0)
   have HLT := zh hlt
   have HXX := zh hx
   clear hg1 hex1 hx
   go_upto_region 4 with fail
   refine zm (S := fun W => W.heap[g1]? = some (.cells cur1 T1 fr1) ∧ W.heap[w.heap.size]? = some (zr p)) [5] (by kernel_rfl) ⟨HG.out.1, HG.out.2⟩ (fun hHeld => ?_)
   (refine tkZ 0 (v := ?_) rfl (by assumption) ?_ ?_; rotate_left; (focus (intro w hSw; (try dsimp only at hSw); go_simp; try with_reducible rfl)); (try simp only [zA, zB, zC, Act.put, zD, zE, zF]))
   (refine tkZ 1 (v := ?_) rfl (by assumption) ?_ ?_; rotate_left; (focus (intro w hSw; (try dsimp only at hSw); go_simp; try with_reducible rfl)); (try simp only [zA, zB, zC, Act.put, zD, zE, zF]))
   (refine tkZ 2 (v := ?_) rfl (by assumption) ?_ ?_; rotate_left; (focus (intro w hSw; (try dsimp only at hSw); go_simp; try with_reducible rfl)); (try simp only [zA, zB, zC, Act.put, zD, zE, zF]))
   (refine tkZ 3 (v := .agg #[.int .i64 x.bank, .int .u16 x.addr]) rfl (by assumption) (fun W hS => zO _ _ rfl _ _ rfl _ _ _ hS.1 (yV x) HE1.out (by kernel_rfl)) ?_; (try simp only [zA, zB, zC, Act.put, zD, zE, zF]))
   (refine tkZ 4 (v := .agg #[.int .i64 p.bank, .int .u16 p.addr]) rfl (by assumption) (fun W hS => zW _ _ rfl _ rfl _ _ _ hS.2 (by kernel_rfl)) ?_; (try simp only [zA, zB, zC, Act.put, zD, zE, zF]))
   refine ya 5 ?_
   simp only [List.drop_succ_cons, List.drop_zero]
   clear hHeld
   by_cases he : x = p
   ·subst he
    have HM := zh (show x ∈ l from List.mem_of_getElem? HXX.out)
    go_wp2_with fail
    go_ret
    exact ⟨by rw [decide_eq_true HM.out]; rfl, HX.out.bb.drew⟩
   ·have HNE := zh he
    go_upto_if 17 with fail
    ·exact absurd (zc.ext' (by assumption) (by assumption)) he
    all_goals
     go_wp2_with fail
     go_roundw
     case rel => exact ⟨m + 1, HLT.out, by go_num, zh (by rw [mem_take_succ HXX.out]; exact fun h => h.elim HN.out fun e => HNE.out e.symm), zh (HX.out.stay (Below.refl _ _).drew)⟩
     case measure => have h1 := HLT.out; simp [intOf]; omega
  ·obtain rfl : m = l.length := by omega
   have HM := zh (show p ∉ l by have := HN.out; rwa [List.take_of_length_le (zn _)] at this)
   go_wp2_with fail
   go_ret
   exact ⟨by rw [decide_eq_false HM.out]; rfl, HX.out.bb⟩
def RxP (R : List RtR) (p : zc) (w : World) (e : Ending) (w' : World) : Prop := ((∃ (k : Nat) (x : RtR), R[k]? = some x ∧ x.1.entry = p ∧ e = .returned (.int .i64 k)) ∨ (p ∉ yI R ∧ e = .returned (.int .i64 (-1)))) ∧ Below w.heap.size w w'
theorem entL_take {R : List RtR} {m : Nat} {x : RtR} (hx : R[m]? = some x) (p : zc) : p ∈ yI (R.take (m + 1)) ↔ p ∈ yI (R.take m) ∨ p = x.1.entry := by
 unfold yI
 rw [List.take_succ, hx, List.map_append, List.mem_append]
 simp
set_option maxRecDepth 100000 in
set_option maxHeartbeats 4000000 in
theorem routine5_any (R : List RtR) (p : zc) (A : Option Addr) (c : Nat) (w : World) (h : RdS w 8 A R.length c (R.flatMap rtvL)) (hl : R.length ≤ 9223372036854775807) :
  Calls Tryz.prog 21 #[.slice A R.length c, .agg #[.int .i64 p.bank, .int .u16 p.addr]] w (RxP R p w) := by
 have HA := zh h
 have ha := h.le
 clear h
 have HX := zh (Bx.one w (zr p))
 go_enter Tryz.func21, Tryz.ntmps21
 go_upto_region 1 with fail
 obtain ⟨wi, hwi⟩ : ∃ wi, w.alloc (zr p) = wi := ⟨_, rfl⟩
 rw [hwi] at HX ⊢
 clear hwi
 go_wp2_with fail
 go_loopw [5] (fun i wr => ∃ m : Nat, m ≤ R.length ∧ i = .int .i64 m ∧ Hid (p ∉ yI (R.take m)) ∧ Hid (Bx [zr p] w wr)) (fun i _ => R.length - (intOf i).toNat)
 case atStart => exact ⟨0, Nat.zero_le _, rfl, zh (by simp [yI]), HX⟩
 case round =>
  clear HX
  obtain ⟨m, hm, rfl, HN, HX⟩ := hrel
  by_cases hlt : m < R.length
  ·obtain ⟨x, hx⟩ : ∃ x, R[m]? = some x := ⟨_, List.getElem?_eq_getElem hlt⟩
   obtain ⟨g1, o1, cur1, T1, fr1, rfl, hg1, hex1, -, -⟩ := RdS.eltPart (f := rtvL) (fun _ => rfl) (HA.out.below HX.out.bb) hx (a := 0) (m := 2) (by omega) (L := yV x.1.entry) rfl
   have HE1 := zh hex1
   have HG := zh (And.intro hg1 HX.out.b0)
   have HLT := zh hlt
   have HXX := zh hx
   clear hg1 hex1 hx
   go_upto_region 4 with fail
   refine zm (S := fun W => W.heap[g1]? = some (.cells cur1 T1 fr1) ∧ W.heap[w.heap.size]? = some (zr p)) [6] (by kernel_rfl) ⟨HG.out.1, HG.out.2⟩ (fun hHeld => ?_)
   (refine tkZ 0 (v := ?_) rfl (by assumption) ?_ ?_; rotate_left; (focus (intro w hSw; (try dsimp only at hSw); go_simp; try with_reducible rfl)); (try simp only [zA, zB, zC, Act.put, zD, zE, zF]))
   (refine tkZ 1 (v := ?_) rfl (by assumption) ?_ ?_; rotate_left; (focus (intro w hSw; (try dsimp only at hSw); go_simp; try with_reducible rfl)); (try simp only [zA, zB, zC, Act.put, zD, zE, zF]))
   (refine tkZ 2 (v := ?_) rfl (by assumption) ?_ ?_; rotate_left; (focus (intro w hSw; (try dsimp only at hSw); go_simp; try with_reducible rfl)); (try simp only [zA, zB, zC, Act.put, zD, zE, zF]))
   (refine tkZ 3 (v := ?_) rfl (by assumption) ?_ ?_; rotate_left; (focus (intro w hSw; (try dsimp only at hSw); go_simp; try with_reducible rfl)); (try simp only [zA, zB, zC, Act.put, zD, zE, zF]))
   (refine tkZ 4 (v := .agg #[.int .i64 x.1.entry.bank, .int .u16 x.1.entry.addr]) rfl (by assumption) (fun W hS => zO _ _ rfl _ _ rfl _ _ _ hS.1 (yV x.1.entry) HE1.out (by kernel_rfl)) ?_; (try simp only [zA, zB, zC, Act.put, zD, zE, zF]))
   (refine tkZ 5 (v := .agg #[.int .i64 p.bank, .int .u16 p.addr]) rfl (by assumption) (fun W hS => zW _ _ rfl _ rfl _ _ _ hS.2 (by kernel_rfl)) ?_; (try simp only [zA, zB, zC, Act.put, zD, zE, zF]))
   refine ya 6 ?_
   simp only [List.drop_succ_cons, List.drop_zero]
   clear hHeld
   by_cases he : x.1.entry = p
   ·subst he
    go_wp2_with fail
    go_ret
    exact ⟨.inl ⟨m, x, HXX.out, rfl, rfl⟩, HX.out.bb.drew⟩
   ·have HNE := zh he
    go_upto_if 18 with fail
    ·exact absurd (zc.ext' (by assumption) (by assumption)) he
    all_goals
     go_wp2_with fail
     go_roundw
     case rel => exact ⟨m + 1, HLT.out, by go_num, zh (by rw [entL_take HXX.out]; exact fun h => h.elim HN.out fun e => HNE.out e.symm), zh (HX.out.stay (Below.refl _ _).drew)⟩
     case measure => have h1 := HLT.out; simp [intOf]; omega
  ·obtain rfl : m = R.length := by omega
   have HM := zh (show p ∉ yI R by have := HN.out; rwa [List.take_of_length_le (zn _)] at this)
   go_wp2_with fail
   go_ret
   exact ⟨.inr ⟨HM.out, rfl⟩, HX.out.bb⟩
end Go.Proofs.YteofmaiojepdkaaGreat
