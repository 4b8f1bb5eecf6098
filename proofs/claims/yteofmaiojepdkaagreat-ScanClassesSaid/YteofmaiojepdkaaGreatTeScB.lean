/- The reference of chapter 05: Before, Among, Routine, items, same, walked. Condition: what each states. -/
import Derived.Test.YteofmaiojepdkaaGreatTeSpI
set_option linter.all false
namespace Go.Proofs.YteofmaiojepdkaaGreat
open Go Go.RowKit Go.Maps Go.Sort
theorem own_at {w : World} {B s n : Nat} {T : TypeId} {v : Value} {xs : List Value} (h : w.ownsRow B T s v n xs) (hn : 0 < n) : ∃ g cap, v = .slice (some ⟨g, 0, none⟩) n cap ∧ n ≤ cap ∧ ∀ k, k < xs.length → w.cell? ⟨g, k, none⟩ = xs[k]? := by
 obtain ⟨A, cap, rfl, -, -⟩ := zM h
 have hr := rd_own h
 obtain ⟨hl, h⟩ := h
 rcases h with ⟨-, h0⟩ | ⟨g, cap, cur, he, hB, hg, -⟩
 ·omega
 ·simp only [Value.slice.injEq, true_and] at he
  obtain ⟨rfl, rfl⟩ := he
  refine ⟨g, cap, rfl, hr.le, fun k hk => ?_⟩
  obtain ⟨g2, off, cur2, T2, fr2, e2, hg2, hc2⟩ := hr.at_ hn
  simp only [Option.some.injEq, Addr.mk.injEq, and_true] at e2
  obtain ⟨rfl, rfl⟩ := e2
  rw [cell_of_row _ _ _ _ _ _ hg2, ← hc2 k hk, Nat.zero_add]
theorem one_snd {R : List RtR} {r : xp} (h : [r] = R.map (·.1)) : ∃ a b c, R = [(r, a, b, c)] := by
 match R, h with
 | [(r', a, b, c)], h =>
  simp only [List.map_cons, List.map_nil, List.cons.injEq, and_true] at h
  exact ⟨a, b, c, by rw [h]⟩
 | [], h => cases h
 | _ :: _ :: _, h => simp at h
theorem two_snd {R : List RtR} {r s : xp} (h : [r, s] = R.map (·.1)) : ∃ a b c d e f, R = [(r, a, b, c), (s, d, e, f)] := by
 match R, h with
 | [(r', a, b, c), (s', d, e, f)], h =>
  simp only [List.map_cons, List.map_nil, List.cons.injEq, and_true] at h
  obtain ⟨rfl, rfl⟩ := h
  exact ⟨a, b, c, d, e, f, rfl⟩
 | [], h => cases h
 | [_], h => simp at h
 | _ :: _ :: _ :: _, h => simp at h
theorem xQ {w wx : World} {a : Addr} {v : Value} (hb : Below w.heap.size w wx) (h : w.cell? a = some v) : wx.cell? a = some v := (hb.cell (World.block_lt_of_cell? _ _ h)).trans h
def bytA : List Int := [1, 2, 1, 1, 2, 2, 1, 0]
structure ExA (gc g0 gr : Nat) (A : Option Addr) (c : Nat) (W : World) : Prop where
 cd : W.cell? ⟨gr, 5, none⟩ = some (.slice A 4 c)
 cl : W.cell? ⟨gc, 0, none⟩ = some (.slice (some ⟨g0, 0, none⟩) 4096 4096)
 by_ : ∀ i, i < 8 → W.cell? ⟨g0, i, none⟩ = some (.int .u8 (bytA.getD i 0))
theorem ExA.below {gc g0 gr : Nat} {A : Option Addr} {c : Nat} {W W' : World} (h : ExA gc g0 gr A c W) (hb : Below W.heap.size W W') : ExA gc g0 gr A c W' := ⟨xQ hb h.cd, xQ hb h.cl, fun i hi => xQ hb (h.by_ i hi)⟩
theorem scanA (g : Nat) (w : World) (hV : yN w (yw exA) (some ⟨g, 0, none⟩) 1 none 0) :
  Calls Tryz.prog 17 #[.agg #[.slice (some ⟨g, 0, none⟩) 1 1, .int .u16 0, .int .u16 0, .slice none 0 0, .slice none 0 0], .slice none 0 0] w fun e w' => (∃ gc cc gr cr ia ni ic g0 A c, e = .returned (.agg #[.slice (some ⟨gc, 0, none⟩) 1 cc, .slice (some ⟨gr, 0, none⟩) 1 cr, .slice ia ni ic]) ∧ 1 ≤ cc ∧ 1 ≤ cr ∧ ExA gc g0 gr A c w') ∧ Below w.heap.size w w' := by
 refine (scan_any (yw exA) (oneI_ok _) (some ⟨g, 0, none⟩) 1 none 0 none 0 0 [] (by simp) (by simp) none 0 w hV ⟨zn _, rfl, fun h => absurd h (by decide)⟩ (fun _ _ h => by cases h)).mono ?_
 rintro e w' ⟨L, vc, vr, vi, rfl, hL, ⟨⟨gs, c, hgl, hc, hcl⟩, ⟨R, hR, hrt⟩, hi⟩, hb⟩
 have hE := lstA hL
 rw [hE] at hcl hrt
 obtain ⟨v1, v2, v3, rfl⟩ := one_snd hrt
 have hgl1 : gs.length = 1 := hgl
 obtain ⟨g0, rfl⟩ : ∃ g0, gs = [g0] := by
  match gs, hgl1 with
  | [g0], _ => exact ⟨g0, rfl⟩
 obtain ⟨gc, cc, rfl, hcc, hcx⟩ := own_at hc.own (Nat.zero_lt_one)
 obtain ⟨gr, cr, rfl, hcr, hrx⟩ := own_at hR.own (Nat.zero_lt_succ _)
 have hx := hR.rv (rtA, v1, v2, v3) (by simp)
 obtain ⟨A, ca, he, -, -⟩ := zM hx.oc
 dsimp only at he
 subst he
 obtain ⟨ia, ic, rfl, -, -⟩ := zM hi
 refine ⟨⟨gc, cc, gr, cr, ia, _, ic, g0, A, ca, rfl, hcc, hcr, ?_, ?_, fun i hi => ?_⟩, hb⟩
 ·rw [hrx 5 (by simp [rtvL])]; rfl
 ·rw [hcx 0 (by simp)]; rfl
 ·rw [cell_of_row _ _ _ _ _ _ (hc.row 0 g0 rfl), xK _ (by omega), ← clsL_eq hcl (by decide) (by omega), clA i hi]; rfl
structure ExB (gr gl : Nat) (cl : Nat) (W : World) : Prop where
 cl : W.cell? ⟨gr, 6, none⟩ = some (.slice (some ⟨gl, 0, none⟩) 1 cl)
 l0 : W.cell? ⟨gl, 0, none⟩ = some (.int .i64 0)
 l1 : W.cell? ⟨gl, 1, none⟩ = some (.int .u16 4)
 e0 : W.cell? ⟨gr, 8, none⟩ = some (.int .i64 0)
 e1 : W.cell? ⟨gr, 9, none⟩ = some (.int .u16 4)
theorem ExB.below {gr gl cl : Nat} {W W' : World} (h : ExB gr gl cl W) (hb : Below W.heap.size W W') : ExB gr gl cl W' := ⟨xQ hb h.cl, xQ hb h.l0, xQ hb h.l1, xQ hb h.e0, xQ hb h.e1⟩
theorem scanB (g : Nat) (w : World) (hV : yN w (yw exB) (some ⟨g, 0, none⟩) 1 none 0) :
  Calls Tryz.prog 17 #[.agg #[.slice (some ⟨g, 0, none⟩) 1 1, .int .u16 0, .int .u16 0, .slice none 0 0, .slice none 0 0], .slice none 0 0] w fun e w' => (∃ va vn vk gr cr ia ni ic gl cl, e = .returned (.agg #[.slice va vn vk, .slice (some ⟨gr, 0, none⟩) 2 cr, .slice ia ni ic]) ∧ 2 ≤ cr ∧ 1 ≤ cl ∧ ExB gr gl cl w') ∧ Below w.heap.size w w' := by
 refine (scan_any (yw exB) (oneI_ok _) (some ⟨g, 0, none⟩) 1 none 0 none 0 0 [] (by simp) (by simp) none 0 w hV ⟨zn _, rfl, fun h => absurd h (by decide)⟩ (fun _ _ h => by cases h)).mono ?_
 rintro e w' ⟨L, vc, vr, vi, rfl, hL, ⟨⟨gs, c, -, hc, -⟩, ⟨R, hR, hrt⟩, hi⟩, hb⟩
 obtain ⟨va, vk, rfl, -, -⟩ := zM hc.own
 obtain ⟨ia, ic, rfl, -, -⟩ := zM hi
 rw [lstB hL] at hrt
 obtain ⟨v1, v2, v3, v4, v5, v6, rfl⟩ := two_snd hrt
 obtain ⟨gr, cr, rfl, hcr, hrx⟩ := own_at hR.own (Nat.zero_lt_succ _)
 have hx := hR.rv (rtB0, v1, v2, v3) (by simp)
 obtain ⟨gl, cl, he, hcl, hlx⟩ := own_at hx.ol (Nat.zero_lt_succ 0)
 dsimp only at he
 subst he
 refine ⟨⟨va, _, vk, gr, cr, ia, _, ic, gl, cl, rfl, hcr, hcl, ?_, ?_, ?_, ?_, ?_⟩, hb⟩
 ·rw [hrx 6 (by simp [rtvL])]; rfl
 ·rw [hlx 0 (show 0 < 2 by decide)]; rfl
 ·rw [hlx 1 (show 1 < 2 by decide)]; rfl
 ·rw [hrx 8 (by simp [rtvL])]; rfl
 ·rw [hrx 9 (by simp [rtvL])]; rfl
structure ExC (gr : Nat) (A : Option Addr) (c : Nat) (Ai : Option Addr) (ci : Nat) (W : World) : Prop where
 cd : W.cell? ⟨gr, 5, none⟩ = some (.slice A 0 c)
 is_ : W.cell? ⟨gr, 7, none⟩ = some (.slice Ai 1 ci)
 ri : RdS W 3 Ai 1 ci (xl [⟨11, ⟨0, 0⟩⟩])
theorem ExC.below {gr : Nat} {A : Option Addr} {c : Nat} {Ai : Option Addr} {ci : Nat} {W W' : World} (h : ExC gr A c Ai ci W) (hb : Below W.heap.size W W') : ExC gr A c Ai ci W' := ⟨xQ hb h.cd, xQ hb h.is_, h.ri.below hb⟩
theorem scanC (g : Nat) (w : World) (hV : yN w (yw exC) (some ⟨g, 0, none⟩) 1 none 0) :
  Calls Tryz.prog 17 #[.agg #[.slice (some ⟨g, 0, none⟩) 1 1, .int .u16 0, .int .u16 0, .slice none 0 0, .slice none 0 0], .slice none 0 0] w fun e w' => (∃ va vn vk gr cr ia ni ic A c Ai ci, e = .returned (.agg #[.slice va vn vk, .slice (some ⟨gr, 0, none⟩) 1 cr, .slice ia ni ic]) ∧ 1 ≤ cr ∧ ExC gr A c Ai ci w') ∧ Below w.heap.size w w' := by
 refine (scan_any (yw exC) (oneI_ok _) (some ⟨g, 0, none⟩) 1 none 0 none 0 0 [] (by simp) (by simp) none 0 w hV ⟨zn _, rfl, fun h => absurd h (by decide)⟩ (fun _ _ h => by cases h)).mono ?_
 rintro e w' ⟨L, vc, vr, vi, rfl, hL, ⟨⟨gs, c, -, hc, -⟩, ⟨R, hR, hrt⟩, hi⟩, hb⟩
 obtain ⟨va, vk, rfl, -, -⟩ := zM hc.own
 obtain ⟨ia, ic, rfl, -, -⟩ := zM hi
 rw [lstC hL] at hrt
 obtain ⟨v1, v2, v3, rfl⟩ := one_snd hrt
 obtain ⟨gr, cr, rfl, hcr, hrx⟩ := own_at hR.own (Nat.zero_lt_succ _)
 have hx := hR.rv (rtC, v1, v2, v3) (by simp)
 obtain ⟨A, c, he, -, -⟩ := zM hx.oc
 obtain ⟨Ai, ci, he2, -, -⟩ := zM hx.oi
 have hoi := hx.oi
 dsimp only at he he2 hoi
 subst he he2
 refine ⟨⟨va, _, vk, gr, cr, ia, _, ic, A, c, Ai, ci, rfl, hcr, ?_, ?_, rd_own hoi⟩, hb⟩
 ·rw [hrx 5 (by simp [rtvL])]; rfl
 ·rw [hrx 7 (by simp [rtvL])]; rfl
set_option maxRecDepth 100000 in
set_option maxHeartbeats 8000000 in
theorem sane_any (w : World) : Calls Tryz.prog 14 #[] w fun e w' => e = .returned (.bool true) ∧ Below w.heap.size w w' := by
 have HIA := zh (fun W => show Calls Tryz.prog 36 #[.string ⟨#[96, 1, 2, 48, 0, 7, 2]⟩] W fun e w' => (∃ g, e = .returned (.agg #[.slice (some ⟨g, 0, none⟩) 1 1, .int .u16 0, .int .u16 0, .slice none 0 0, .slice none 0 0]) ∧ yN w' (yw exA) (some ⟨g, 0, none⟩) 1 none 0) ∧ Below W.heap.size W w' from image_any exA (by decide) W)
 have HIB := zh (fun W => show Calls Tryz.prog 36 #[.string ⟨#[130, 1, 0, 2, 1]⟩] W fun e w' => (∃ g, e = .returned (.agg #[.slice (some ⟨g, 0, none⟩) 1 1, .int .u16 0, .int .u16 0, .slice none 0 0, .slice none 0 0]) ∧ yN w' (yw exB) (some ⟨g, 0, none⟩) 1 none 0) ∧ Below W.heap.size W w' from image_any exB (by decide) W)
 have HIC := zh (fun W => show Calls Tryz.prog 36 #[.string ⟨#[255]⟩] W fun e w' => (∃ g, e = .returned (.agg #[.slice (some ⟨g, 0, none⟩) 1 1, .int .u16 0, .int .u16 0, .slice none 0 0, .slice none 0 0]) ∧ yN w' (yw exC) (some ⟨g, 0, none⟩) 1 none 0) ∧ Below W.heap.size W w' from image_any exC (by decide) W)
 go_enter Tryz.func14, Tryz.ntmps14
 have HB0 := zh (Below.refl w.heap.size w)
 go_upto_region 2 with (first
  | (go_at_call 36; (with_reducible refine (HIA.out _).mono ?_); rintro e3 w3A ⟨⟨ga, rfl, hva⟩, hb3⟩; have HV3 := zh hva; have HB3 := zh hb3; clear hb3 hva)
  | (refine stN ?_))
 have hq : Below w3A.heap.size w3A (w3A.alloc (.cells #[.slice (some ⟨ga, 0, none⟩) 1 1, .int .u16 0, .int .u16 0, .slice none 0 0, .slice none 0 0] 31)) := (Below.refl _ _).alloc (zn _) _
 have hi4 := heap_alloc_new w3A (.cells #[.slice (some ⟨ga, 0, none⟩) 1 1, .int .u16 0, .int .u16 0, .slice none 0 0, .slice none 0 0] 31)
 have hbb := HB3.out.trans (hq.mono HB3.out.size)
 have HV4 := zh (HV3.out.below hq)
 have HB0 := zh (HB0.out.trans (hbb.mono HB0.out.size))
 obtain ⟨w4A, hw4⟩ : ∃ w4, w3A.alloc (.cells #[.slice (some ⟨ga, 0, none⟩) 1 1, .int .u16 0, .int .u16 0, .slice none 0 0, .slice none 0 0] 31) = w4 := ⟨_, rfl⟩
 rw [hw4] at hq hi4 hbb HV4 HB0 ⊢
 have HI4 := zh hi4
 have HS4 := zh (scanA ga w4A HV4.out)
 clear hw4 hq hi4 hbb HB3 HV3 HV4
 go_upto_region 3 with (first
  | (refine ldT 31 (HI4.out) ?_)
  | (go_at_call 17; (with_reducible refine HS4.out.mono ?_); rintro e5 w5A ⟨⟨gc, cc, gr, cr, iaA, niA, icA, g0, A, c, rfl, hcc, hcr, hex⟩, hb⟩; have HE5 := zh hex; have HB5 := zh hb; clear hex hb)
  | (refine stN ?_))
 have hq : Below w5A.heap.size w5A (w5A.alloc (.cells #[.slice (some ⟨gc, 0, none⟩) 1 cc, .slice (some ⟨gr, 0, none⟩) 1 cr, .slice iaA niA icA] 38)) := (Below.refl _ _).alloc (zn _) _
 have hl6 := heap_alloc_new w5A (.cells #[.slice (some ⟨gc, 0, none⟩) 1 cc, .slice (some ⟨gr, 0, none⟩) 1 cr, .slice iaA niA icA] 38)
 have hbb := HB5.out.trans (hq.mono HB5.out.size)
 have XA := zh (HE5.out.below hq)
 have HB0 := zh (HB0.out.trans (hbb.mono HB0.out.size))
 obtain ⟨w6A, hw6⟩ : ∃ w6, w5A.alloc (.cells #[.slice (some ⟨gc, 0, none⟩) 1 cc, .slice (some ⟨gr, 0, none⟩) 1 cr, .slice iaA niA icA] 38) = w6 := ⟨_, rfl⟩
 rw [hw6] at hq hl6 hbb XA HB0 ⊢
 have LA := zh hl6
 clear hw6 hq hl6 hbb HB5 HE5 HI4 HS4
 go_upto_region 4 with (first
  | (go_at_call 36; (with_reducible refine (HIB.out _).mono ?_); rintro e3 w3B ⟨⟨gb, rfl, hva⟩, hb3⟩; have HV3 := zh hva; have HB3 := zh hb3; clear hb3 hva)
  | (refine stN ?_))
 have hq : Below w3B.heap.size w3B (w3B.alloc (.cells #[.slice (some ⟨gb, 0, none⟩) 1 1, .int .u16 0, .int .u16 0, .slice none 0 0, .slice none 0 0] 31)) := (Below.refl _ _).alloc (zn _) _
 have hi4 := heap_alloc_new w3B (.cells #[.slice (some ⟨gb, 0, none⟩) 1 1, .int .u16 0, .int .u16 0, .slice none 0 0, .slice none 0 0] 31)
 have hbb := HB3.out.trans (hq.mono HB3.out.size)
 have XA := zh (XA.out.below hbb)
 have LA := zh (za hbb LA.out)
 have HV4 := zh (HV3.out.below hq)
 have HB0 := zh (HB0.out.trans (hbb.mono HB0.out.size))
 obtain ⟨w4B, hw4⟩ : ∃ w4, w3B.alloc (.cells #[.slice (some ⟨gb, 0, none⟩) 1 1, .int .u16 0, .int .u16 0, .slice none 0 0, .slice none 0 0] 31) = w4 := ⟨_, rfl⟩
 rw [hw4] at hq hi4 hbb HV4 HB0 ⊢
 rw [hw4] at XA LA
 have HI4 := zh hi4
 have HS4 := zh (scanB gb w4B HV4.out)
 clear hw4 hq hi4 hbb HB3 HV3 HV4
 go_upto_region 5 with (first
  | (refine ldT 31 (HI4.out) ?_)
  | (go_at_call 17; (with_reducible refine HS4.out.mono ?_); rintro e5 w5B ⟨⟨vaB, vnB, vkB, grB, crB, iaB, niB, icB, glB, clB, rfl, hcrB, hclB, hex⟩, hb⟩; have HE5 := zh hex; have HB5 := zh hb; clear hex hb)
  | (refine stN ?_))
 have hq : Below w5B.heap.size w5B (w5B.alloc (.cells #[.slice vaB vnB vkB, .slice (some ⟨grB, 0, none⟩) 2 crB, .slice iaB niB icB] 38)) := (Below.refl _ _).alloc (zn _) _
 have hl6 := heap_alloc_new w5B (.cells #[.slice vaB vnB vkB, .slice (some ⟨grB, 0, none⟩) 2 crB, .slice iaB niB icB] 38)
 have hbb := HB5.out.trans (hq.mono HB5.out.size)
 have XA := zh (XA.out.below hbb)
 have LA := zh (za hbb LA.out)
 have XB := zh (HE5.out.below hq)
 have HB0 := zh (HB0.out.trans (hbb.mono HB0.out.size))
 obtain ⟨w6B, hw6⟩ : ∃ w6, w5B.alloc (.cells #[.slice vaB vnB vkB, .slice (some ⟨grB, 0, none⟩) 2 crB, .slice iaB niB icB] 38) = w6 := ⟨_, rfl⟩
 rw [hw6] at hq hl6 hbb XB HB0 ⊢
 rw [hw6] at XA LA
 have LB := zh hl6
 clear hw6 hq hl6 hbb HB5 HE5 HI4 HS4
 go_upto_region 6 with (first
  | (go_at_call 36; (with_reducible refine (HIC.out _).mono ?_); rintro e3 w3C ⟨⟨gd, rfl, hva⟩, hb3⟩; have HV3 := zh hva; have HB3 := zh hb3; clear hb3 hva)
  | (refine stN ?_))
 have hq : Below w3C.heap.size w3C (w3C.alloc (.cells #[.slice (some ⟨gd, 0, none⟩) 1 1, .int .u16 0, .int .u16 0, .slice none 0 0, .slice none 0 0] 31)) := (Below.refl _ _).alloc (zn _) _
 have hi4 := heap_alloc_new w3C (.cells #[.slice (some ⟨gd, 0, none⟩) 1 1, .int .u16 0, .int .u16 0, .slice none 0 0, .slice none 0 0] 31)
 have hbb := HB3.out.trans (hq.mono HB3.out.size)
 have XA := zh (XA.out.below hbb)
 have LA := zh (za hbb LA.out)
 have XB := zh (XB.out.below hbb)
 have LB := zh (za hbb LB.out)
 have HV4 := zh (HV3.out.below hq)
 have HB0 := zh (HB0.out.trans (hbb.mono HB0.out.size))
 obtain ⟨w4C, hw4⟩ : ∃ w4, w3C.alloc (.cells #[.slice (some ⟨gd, 0, none⟩) 1 1, .int .u16 0, .int .u16 0, .slice none 0 0, .slice none 0 0] 31) = w4 := ⟨_, rfl⟩
 rw [hw4] at hq hi4 hbb HV4 HB0 ⊢
 rw [hw4] at XA LA XB LB
 have HI4 := zh hi4
 have HS4 := zh (scanC gd w4C HV4.out)
 clear hw4 hq hi4 hbb HB3 HV3 HV4
 go_upto_region 7 with (first
  | (refine ldT 31 (HI4.out) ?_)
  | (go_at_call 17; (with_reducible refine HS4.out.mono ?_); rintro e5 w5C ⟨⟨vaC, vnC, vkC, grC, crC, iaC, niC, icC, AC, cC, AiC, ciC, rfl, hcrC, hex⟩, hb⟩; have HE5 := zh hex; have HB5 := zh hb; clear hex hb)
  | (refine stN ?_))
 have hq : Below w5C.heap.size w5C (w5C.alloc (.cells #[.slice vaC vnC vkC, .slice (some ⟨grC, 0, none⟩) 1 crC, .slice iaC niC icC] 38)) := (Below.refl _ _).alloc (zn _) _
 have hl6 := heap_alloc_new w5C (.cells #[.slice vaC vnC vkC, .slice (some ⟨grC, 0, none⟩) 1 crC, .slice iaC niC icC] 38)
 have hbb := HB5.out.trans (hq.mono HB5.out.size)
 have XA := zh (XA.out.below hbb)
 have LA := zh (za hbb LA.out)
 have XB := zh (XB.out.below hbb)
 have LB := zh (za hbb LB.out)
 have XC := zh (HE5.out.below hq)
 have HB0 := zh (HB0.out.trans (hbb.mono HB0.out.size))
 obtain ⟨w6C, hw6⟩ : ∃ w6, w5C.alloc (.cells #[.slice vaC vnC vkC, .slice (some ⟨grC, 0, none⟩) 1 crC, .slice iaC niC icC] 38) = w6 := ⟨_, rfl⟩
 rw [hw6] at hq hl6 hbb XC HB0 ⊢
 rw [hw6] at XA LA XB LB
 have LC := zh hl6
 clear hw6 hq hl6 hbb HB5 HE5 HI4 HS4
 clear HIA HIB HIC
 have hcA := fun o => cell_of_row w6C w5A.heap.size o _ _ _ LA.out
 have hg0 := XA.out.cl
 have hg5 := XA.out.cd
 have hcv : (convert 73 9 (.slice (some ⟨g0, 0, none⟩) 8 4096)).run Tryz.prog w6C = .ok (.string ⟨#[1, 2, 1, 1, 2, 2, 1, 0]⟩) w6C := by
  rw [run_convert_bytes_arg w6C _ _ Tryz.underlying73 Tryz.underlying5 g0 0 8 4096 bytA rfl (fun i hi => by rw [Nat.zero_add]; exact XA.out.by_ i hi) _ Tryz.underlying9]
  rfl
 go_upto_if 51 with fail
 clear hcA hg0 hg5 hcv
 have hcB := fun o => cell_of_row w6C w5B.heap.size o _ _ _ LB.out
 have h1 := XB.out.cl
 have h2 := XB.out.l0
 have h3 := XB.out.l1
 have h4 := XB.out.e0
 have h5 := XB.out.e1
 go_upto_if 84 with fail
 clear hcB h1 h2 h3 h4 h5
 have hcC := fun o => cell_of_row w6C w5C.heap.size o _ _ _ LC.out
 have h1 := XC.out.cd
 have h2 := XC.out.is_
 have HB4 := zh (show Below w6C.heap.size w6C (w6C.alloc (issB ⟨11, ⟨0, 0⟩⟩)) from (Below.refl _ _).alloc (zn _) _)
 have HIS := zh (show Calls Tryz.prog 32 #[.slice AiC 1 ciC, .slice (some ⟨w6C.heap.size, 0, none⟩) 1 1] (w6C.alloc (issB ⟨11, ⟨0, 0⟩⟩)) fun e w' => e = .returned (.bool true) ∧ Below (w6C.alloc (issB ⟨11, ⟨0, 0⟩⟩)).heap.size (w6C.alloc (issB ⟨11, ⟨0, 0⟩⟩)) w' from
  issues_any [⟨11, ⟨0, 0⟩⟩] [⟨11, ⟨0, 0⟩⟩] AiC (some ⟨w6C.heap.size, 0, none⟩) ciC 1 _ (XC.out.ri.below HB4.out) ⟨zn _, rfl, fun _ => ⟨w6C.heap.size, 0, _, _, _, rfl, heap_alloc_new w6C _, fun j hj => by
   match j, hj with
   | 0, _ => rfl
   | 1, _ => rfl
   | 2, _ => rfl⟩⟩ (by decide) (by decide))
 go_wp2_with (first
  | (go_at_call 32; (with_reducible refine HIS.out.mono ?_); rintro e9 w9 ⟨rfl, hb9⟩; have HB9 := zh hb9; clear hb9))
 go_ret
 exact ⟨rfl, HB0.out.trans ((HB4.out.trans (HB9.out.mono HB4.out.size)).mono HB0.out.size)⟩
end Go.Proofs.YteofmaiojepdkaaGreat
namespace Go.Proofs.YteofmaiojepdkaaGreat
open Go Go.RowKit Go.Maps Go.Sort
structure RtD (I : zp) (r : xp) (c l s : Value) (w : World) : Prop where
 oc : ∃ A n, c = .slice A r.code.length n ∧ RdS w 9 A r.code.length n (itmsL I r.code) ∧ r.code.length ≤ 9223372036854775807
 ol : ∃ A n, l = .slice A r.calls.length n ∧ RdS w 2 A r.calls.length n (zK r.calls) ∧ r.calls.length ≤ 9223372036854775807
 oi : ∃ A n, s = .slice A r.iss.length n ∧ RdS w 3 A r.iss.length n (xl r.iss) ∧ r.iss.length ≤ 9223372036854775807
theorem RtD.below {I : zp} {r : xp} {c l s : Value} {w w' : World} (h : RtD I r c l s w) (hb : Below w.heap.size w w') : RtD I r c l s w' := by
 obtain ⟨⟨A1, n1, e1, r1, l1⟩, ⟨A2, n2, e2, r2, l2⟩, ⟨A3, n3, e3, r3, l3⟩⟩ := h
 exact ⟨⟨A1, n1, e1, r1.below hb, l1⟩, ⟨A2, n2, e2, r2.below hb, l2⟩, ⟨A3, n3, e3, r3.below hb, l3⟩⟩
theorem own_read {w : World} {B s n : Nat} {T : TypeId} {v : Value} {xs : List Value} (h : w.ownsRow B T s v n xs) : ∃ A c, v = .slice A n c ∧ RdS w s A n c xs ∧ n ≤ 9223372036854775807 := by
 obtain ⟨A, c, rfl, -⟩ := zM h
 exact ⟨A, c, rfl, rd_own h, own_max h⟩
theorem RtV.read {I : zp} {B : Nat} {r : xp} {c l s : Value} {w : World} (h : RtV I B r c l s w) : RtD I r c l s w := ⟨own_read h.oc, own_read h.ol, own_read h.oi⟩
structure RnsD (I : zp) (R : List RtR) (A : Option Addr) (cap : Nat) (w : World) : Prop where
 rd : RdS w 8 A R.length cap (R.flatMap rtvL)
 le : R.length ≤ 9223372036854775807
 rt : ∀ x ∈ R, RtD I x.1 x.2.1 x.2.2.1 x.2.2.2 w
theorem RnsD.below {I : zp} {R : List RtR} {A : Option Addr} {cap : Nat} {w w' : World} (h : RnsD I R A cap w) (hb : Below w.heap.size w w') : RnsD I R A cap w' := ⟨h.rd.below hb, h.le, fun x hx => (h.rt x hx).below hb⟩
structure ClsD (n : Nat) (c : Nat → Nat → Int) (A : Option Addr) (cap : Nat) (w : World) : Prop where
 le : n ≤ 9223372036854775807
 rd : ∃ gs : List Nat, gs.length = n ∧ RdS w 1 A n cap (gs.map clV) ∧ ∀ b g : Nat, gs[b]? = some g → ∃ fr : Nat × Nat, w.heap[g]? = some (.cells (rowC (c b)) 5 fr)
theorem ClsD.below {n : Nat} {c : Nat → Nat → Int} {A : Option Addr} {cap : Nat} {w w' : World} (h : ClsD n c A cap w) (hb : Below w.heap.size w w') : ClsD n c A cap w' := by
 obtain ⟨gs, h1, h2, h3⟩ := h.rd
 exact ⟨h.le, gs, h1, h2.below hb, fun b g hg => by obtain ⟨fr, h4⟩ := h3 b g hg; exact ⟨fr, za hb h4⟩⟩
structure LstD (I : zp) (nb : Nat) (c : Nat → Nat → Int) (rs : List xp) (iss : List yl) (vc vr vi : Value) (w : World) : Prop where
 cls : ∃ A cap, vc = .slice A nb cap ∧ ClsD nb c A cap w
 rts : ∃ R A cap, vr = .slice A R.length cap ∧ RnsD I R A cap w ∧ R.map (·.1) = rs
 iss : ∃ A cap, vi = .slice A iss.length cap ∧ RdS w 3 A iss.length cap (xl iss) ∧ iss.length ≤ 9223372036854775807
theorem LstD.below {I : zp} {nb : Nat} {c : Nat → Nat → Int} {rs : List xp} {iss : List yl} {vc vr vi : Value} {w w' : World} (h : LstD I nb c rs iss vc vr vi w) (hb : Below w.heap.size w w') : LstD I nb c rs iss vc vr vi w' := by
 obtain ⟨⟨A1, n1, e1, r1⟩, ⟨R, A2, n2, e2, r2, l2⟩, ⟨A3, n3, e3, r3, l3⟩⟩ := h
 exact ⟨⟨A1, n1, e1, r1.below hb⟩, ⟨R, A2, n2, e2, r2.below hb, l2⟩, ⟨A3, n3, e3, r3.below hb, l3⟩⟩
theorem LstV.read {I : zp} (hI : I.Ok) {B : Nat} {L : LstS} {vc vr vi : Value} {w : World} (h : LstV I B L vc vr vi w) : ∃ c, L.cls = clsL I c ∧ LstD I I.banks.length c L.rts L.iss vc vr vi w := by
 obtain ⟨gs, c, h1, h2, h3⟩ := h.cls
 obtain ⟨R, h4, h5⟩ := h.rts
 refine ⟨c, h3, ?_, ?_, own_read h.iss⟩
 ·obtain ⟨A, cap, e, hr, hl⟩ := own_read h2.own
  rw [h1] at e hr
  exact ⟨A, cap, e, by have := hI.n64; omega, gs, h1, hr, fun b g hg => ⟨_, h2.row b g hg⟩⟩
 ·obtain ⟨A, cap, e, hr, hl⟩ := own_read h4.own
  exact ⟨R, A, cap, e, ⟨hr, hl, fun x hx => (h4.rv x hx).read⟩, h5.symm⟩
end Go.Proofs.YteofmaiojepdkaaGreat
namespace Go.Proofs.YteofmaiojepdkaaGreat
open Go Go.RowKit Go.Maps Go.Sort
set_option maxRecDepth 100000 in
set_option maxHeartbeats 1000000 in
theorem before_any (p q : zb) (w : World) : Calls Tryz.prog 24 #[.agg #[.int .i64 p.bank, .int .u16 p.addr], .agg #[.int .i64 q.bank, .int .u16 q.addr]] w fun e w' => e = .returned (.bool (decide (zO p q))) ∧ Below w.heap.size w w' := by
 obtain ⟨b, a⟩ := p
 obtain ⟨c, d⟩ := q
 have hbb : ∀ v u : Value, Below w.heap.size w ((w.alloc (.cells #[v, u] 47)).alloc (.cells #[.int .i64 c, .int .u16 d] 47)) := fun v u => ((Below.refl _ _).alloc (zn _) _).alloc (by simp) _
 by_cases h1 : b < c
 ·have e : decide (zO ⟨b, a⟩ ⟨c, d⟩) = true := decide_eq_true (.inl h1)
  rw [e]; clear e
  go_enter Tryz.func24, Tryz.ntmps24
  go_wp2
  go_ret
  exact ⟨rfl, hbb _ _⟩
 ·have h2 : c ≤ b := by omega
  by_cases h3 : b = c
  ·subst h3
   by_cases h4 : a < d
   ·have e : decide (zO ⟨b, a⟩ ⟨b, d⟩) = true := decide_eq_true (.inr ⟨rfl, h4⟩)
    rw [e]; clear e
    go_enter Tryz.func24, Tryz.ntmps24
    go_wp2
    go_ret
    exact ⟨rfl, hbb _ _⟩
   ·have e : decide (zO ⟨b, a⟩ ⟨b, d⟩) = false := decide_eq_false fun h => by unfold zO at h; dsimp only at h; omega
    rw [e]; clear e
    go_enter Tryz.func24, Tryz.ntmps24
    go_wp2
    go_ret
    exact ⟨rfl, hbb _ _⟩
  ·have e : decide (zO ⟨b, a⟩ ⟨c, d⟩) = false := decide_eq_false fun h => by unfold zO at h; dsimp only at h; omega
   rw [e]; clear e
   have h5 : (b == c) = false := by simp [h3]
   go_enter Tryz.func24, Tryz.ntmps24
   go_wp2
   go_ret
   exact ⟨rfl, hbb _ _⟩
theorem RdS.part {w : World} {s : Nat} {A : Option Addr} {n cap : Nat} {xs : List Value} (h : RdS w s A n cap xs) {k : Nat} (hk : k < n) {a m : Nat} (ham : a + m ≤ s) {L : List Value} (hL : ((((xs.drop (k * s)).take s).drop a).take m) = L) :
  ∃ g off cur T fr, A = some ⟨g, off, none⟩ ∧ w.heap[g]? = some (.cells cur T fr) ∧ (cur.extract (off + k * s + a) (off + k * s + a + m)).toList = L ∧ L.length = m ∧ ∀ j, j < m → w.cell? ⟨g, off + k * s + a + j, none⟩ = L[j]? := by
 obtain ⟨g, off, cur, T, fr, e, h1, -, hlen, h2⟩ := h.row hk
 have hl : L.length = m := by rw [← hL, List.length_take, List.length_drop, hlen]; omega
 have hget : ∀ j, j < m → cur[off + k * s + a + j]? = L[j]? := fun j hj => by
  have := h2 (a + j) (by omega)
  rw [cell_of_row _ _ _ _ _ _ h1] at this
  rw [← hL, List.getElem?_take_of_lt hj, List.getElem?_drop, ← this, show off + k * s + a + j = off + k * s + (a + j) by omega]
 refine ⟨g, off, cur, T, fr, e, h1, ?_, hl, fun j hj => by rw [cell_of_row _ _ _ _ _ _ h1]; exact hget j hj⟩
 have := ext_at (c := cur) (o := off + k * s + a) (L := L) (fun j hj => hget j (by omega))
 rwa [hl] at this
theorem RdS.elt {α : Type} {f : α → List Value} {s : Nat} (hf : ∀ a, (f a).length = s) {w : World} {A : Option Addr} {l : List α} {cap : Nat} (h : RdS w s A l.length cap (l.flatMap f)) {k : Nat} {x : α} (hx : l[k]? = some x) :
  ∃ g off cur T fr, A = some ⟨g, off, none⟩ ∧ w.heap[g]? = some (.cells cur T fr) ∧ (cur.extract (off + k * s) (off + k * s + s)).toList = f x := by
 obtain ⟨g, off, cur, T, fr, e, hg, hex, -, -⟩ := h.row (List.getElem?_eq_some_iff.1 hx).1
 rw [xW f s hf l k x hx] at hex
 exact ⟨g, off, cur, T, fr, e, hg, hex⟩
theorem RdS.eltPart {α : Type} {f : α → List Value} {s : Nat} (hf : ∀ a, (f a).length = s) {w : World} {A : Option Addr} {l : List α} {cap : Nat} (h : RdS w s A l.length cap (l.flatMap f)) {k : Nat} {x : α} (hx : l[k]? = some x) {a m : Nat} (ham : a + m ≤ s) {L : List Value} (hL : ((f x).drop a).take m = L) :
  ∃ g off cur T fr, A = some ⟨g, off, none⟩ ∧ w.heap[g]? = some (.cells cur T fr) ∧ (cur.extract (off + k * s + a) (off + k * s + a + m)).toList = L ∧ L.length = m ∧ ∀ j, j < m → w.cell? ⟨g, off + k * s + a + j, none⟩ = L[j]? :=
 h.part (List.getElem?_eq_some_iff.1 hx).1 ham (by rw [xW f s hf l k x hx]; exact hL)
theorem mem_take_succ {α : Type} {l : List α} {m : Nat} {x : α} (hx : l[m]? = some x) (p : α) : p ∈ l.take (m + 1) ↔ p ∈ l.take m ∨ p = x := by
 rw [List.take_succ, hx, List.mem_append]
 simp
end Go.Proofs.YteofmaiojepdkaaGreat
