/- The law of chapter 19: numbers. No condition beyond the slices. -/
import Derived.Test.YthebmoggbgldmaaLaLpC
set_option linter.all false
namespace Go.Proofs.Ythebmoggbgldmaa
open Go Go.RowKit Go.Maps
def objV (p : ObjS) : List Value := [.int .i64 p.bank, .int .u16 p.addr, .int .u16 p.size]
def objsV (ps : List ObjS) : List Value := ps.flatMap objV
theorem objs_snoc (ps : List ObjS) (p : ObjS) : objsV (ps ++ [p]) = objsV ps ++ [.int .i64 p.bank, .int .u16 p.addr, .int .u16 p.size] := by unfold objsV; rw [List.flatMap_append, List.flatMap_singleton]; rfl
def ObjQ (p : ObjS) : Prop := 0 ≤ p.addr ∧ p.addr < 65536 ∧ zX p.bank ∧ 0 ≤ p.size ∧ p.size < 65536
theorem own_objs {w : World} {B : Nat} {v : Value} {ps : List ObjS} (h : w.ownsRow B 47 3 v ps.length (objsV ps)) : jK w v ps := by
 by_cases h0 : 0 < ps.length
 ·obtain ⟨g, cp, cur, rfl, hB, hc, hg, -, he⟩ := own_block h h0
  refine ⟨_, cp, rfl, hc, fun _ => ⟨g, 0, cur, _, _, rfl, hg, fun i p hp => ?_⟩⟩
  rw [Nat.zero_add, he i (List.getElem?_eq_some_iff.1 hp).1]
  exact flat_get objV 3 (fun _ => rfl) ps i p hp
 ·have hn : ps = [] := List.eq_nil_of_length_eq_zero (by omega)
  subst hn
  rcases h.2 with ⟨rfl, -⟩ | ⟨g, cp, cur, rfl, -⟩
  ·exact ⟨none, 0, rfl, zn _, fun h => by cases h⟩
  ·exact ⟨_, cp, rfl, Nat.zero_le _, fun h => by cases h⟩
def ObPost (w : World) (e : Ending) (w' : World) : Prop :=
 ∃ (ps : List ObjS) (v : Value) (b : Bool), e = .returned (.tuple #[v, .bool b]) ∧ ps.length ≤ 6 ∧ (∀ p ∈ ps, ObjQ p) ∧ jK w' v ps ∧ Below w.heap.size w w'
theorem infoObj : (Try.prog.info? 47).map (fun i => (i.zero, i.size, i.bytes)) = some (some (.agg #[.int .i64 0, .int .u16 0, .int .u16 0]), 3, 16) := by kernel_rfl
set_option maxRecDepth 100000 in
set_option maxHeartbeats 8000000 in
theorem objects_any (v : Value) (gs : List GlbS) (gk : Nat) (hn : gs.length ≤ 6) (hq : ∀ g ∈ gs, GlbQ g) (w : World) (B : Nat) (hk : w.heap[gk]? = some (.cells #[.int .i64 2, .string ⟨#[]⟩, .int .i64 0, .slice none 0 0] 90 (0, 0))) (hS : w.ownsRow B 92 8 v gs.length (glbsV gk gs)) :
  Calls Try.prog 21 #[v] w (ObPost w) := by
 obtain ⟨ao, cap, rfl, -⟩ := xV hS
 have HS := zh hS
 have HK := zh hk
 have HQ := zh hq
 have HN := zh hn
 obtain ⟨n, hnl⟩ : ∃ n, gs.length = n := ⟨_, rfl⟩
 have HNL := zh hnl
 have hn6 : n ≤ 6 := by omega
 rw [hnl]
 clear hS hk hq hn hnl
 go_enter Try.func21, Try.ntmps21
 go_wp2_with fail
 go_loopw [4, 5] (fun sv i wr => ∃ (k : Nat) (ps : List ObjS), k ≤ n ∧ ps.length = k ∧ i = .int .i64 k ∧ Hid (wr.ownsRow w.heap.size 47 3 sv k (objsV ps)) ∧ Hid (∀ p ∈ ps, ObjQ p) ∧ Hid (Below w.heap.size w wr)) (fun _ i _ => n - (intOf i).toNat)
 case atStart => exact ⟨0, [], Nat.zero_le _, rfl, rfl, zh ⟨rfl, .inl ⟨rfl, rfl⟩⟩, zh (fun p hp => by cases hp), zh (Below.refl _ _)⟩
 case round =>
  obtain ⟨k, ps, hk, hpk, rfl, HO, HP, HBR⟩ := hrel
  have HPK := zh hpk
  clear hpk
  by_cases hlt : k < n
  ·obtain ⟨q, cp, cur, hv, hBq, hnc, hq, -, he⟩ := own_block HS.out (by have := HNL.out; omega)
   have hgl : gs[k]? = some (gs[k]'(by have := HNL.out; omega)) := List.getElem?_eq_getElem _
   obtain ⟨gl, hgl2⟩ : ∃ gl, gs[k]? = some gl := ⟨_, hgl⟩
   have HGQ := zh (HQ.out gl (List.mem_of_getElem? hgl2))
   have hrow := (he k (by have := HNL.out; omega)).trans (flat_get (glbV gk) 8 (fun _ => rfl) gs k gl hgl2)
   simp only [Value.slice.injEq] at hv
   obtain ⟨rfl, -, rfl⟩ := hv
   have HQB := zh (zf HBR.out hq)
   have HRW := zh hrow
   have HKR := zh (zf HBR.out HK.out)
   have c5 : wr.cell? ⟨q, k * 8 + 5, none⟩ = some (.int .i64 gl.bank) := (cell_of_row _ _ _ _ _ _ HQB.out).trans (jq (n := 8) (r := 5) HRW.out (by decide))
   have c7 : wr.cell? ⟨q, k * 8 + 7, none⟩ = some (.string gl.by_) := (cell_of_row _ _ _ _ _ _ HQB.out).trans (jq (n := 8) (r := 7) HRW.out (by decide))
   have hkl : (k : Int) < (n : Int) := by omega
   have hB0 := HBR.out.size
   obtain ⟨hg1, hg2, hg3, hg4, hg5, hg6⟩ := HGQ.out
   clear hgl hgl2 hrow he hq
   go_upto_if 26 with fail
   try simp only [Act.put]
   go_cut [6] (fun s wx => ∃ z : Nat, s = .int .i64 z ∧ z ≤ 600 ∧ Hid (Below wr.heap.size wr wx))
   case first =>
    by_cases hb1 : gl.bank = -1
    ·have HSZ := zh (show ∀ W, Below wr.heap.size wr W → Calls Try.prog 40 #[.agg #[.slice none 0 0, .slice none 0 0, .slice none 0 0], .agg #[.int .i64 5, .string ⟨#[]⟩, .int .i64 gl.n, .slice (some ⟨gk, 0, none⟩) 1 1]] W fun e w' => e = .returned (.tuple #[.int .i64 gl.n, .bool true]) ∧ Below W.heap.size W w' from fun W hb => size_any14 gl.n hg1 hg2 gk W (zf hb HKR.out))
     have d1 : wr.cell? ⟨q, k * 8 + 1, none⟩ = some (.int .i64 5) := (cell_of_row _ _ _ _ _ _ HQB.out).trans (jq (n := 8) (r := 1) HRW.out (by decide))
     have d2 : wr.cell? ⟨q, k * 8 + 1 + 1, none⟩ = some (.string ⟨#[]⟩) := (cell_of_row _ _ _ _ _ _ HQB.out).trans (jq (n := 8) (r := 2) HRW.out (by decide))
     have d3 : wr.cell? ⟨q, k * 8 + 1 + 2, none⟩ = some (.int .i64 gl.n) := (cell_of_row _ _ _ _ _ _ HQB.out).trans (jq (n := 8) (r := 3) HRW.out (by decide))
     have d4 : wr.cell? ⟨q, k * 8 + 1 + 3, none⟩ = some (.slice (some ⟨gk, 0, none⟩) 1 1) := (cell_of_row _ _ _ _ _ _ HQB.out).trans (jq (n := 8) (r := 4) HRW.out (by decide))
     go_wp2_with (go_at_call 40; refine (HSZ.out _ (Below.refl _ _)).mono ?_; rintro e w1 ⟨rfl, hb1⟩)
     go_meet
     obtain ⟨N, hN⟩ := Int.eq_ofNat_of_zero_le hg1
     exact ⟨N, by rw [hN], by omega, zh hb1⟩
    ·go_wp2_with fail
     go_meet
     exact ⟨gl.by_.size, rfl, hg6, zh (Below.refl _ _)⟩
   case rest =>
   obtain ⟨z, rfl, hz, HBX⟩ := hcut
   clear c5 c7
   have HQC := zh (zf HBX.out HQB.out)
   have HBC := zh (HBR.out.trans (HBX.out.mono hB0))
   have hzz : ¬ (65535 : Int) < (z : Int) := by omega
   have hzz2 : (z : Int) ≤ 65535 := by omega
   go_upto_region 13 with fail
   clear hzz hzz2
   have HUZ := zh (show IntKind.u16.wrap (z : Int) = z from IntWalk.u16_in _ (by omega))
   obtain ⟨bk, hbk⟩ : ∃ b, gl.bank = b := ⟨_, rfl⟩
   obtain ⟨ad, had⟩ : ∃ b, gl.addr = b := ⟨_, rfl⟩
   have HC5 := zh (show cur[k * 8 + 5]? = some (.int .i64 bk) from by rw [jq (n := 8) (r := 5) HRW.out (by decide), ← hbk]; rfl)
   have HC6 := zh (show cur[k * 8 + 6]? = some (.int .u16 ad) from by rw [jq (n := 8) (r := 6) HRW.out (by decide), ← had]; rfl)
   have HOQ := zh (show ObjQ ⟨bk, ad, z⟩ from ⟨by rw [← had]; exact hg4, by rw [← had]; exact hg5, by rw [← hbk]; exact hg3, by show 0 ≤ (z : Int); omega, by show (z : Int) < 65536; omega⟩)
   clear hbk had hg1 hg2 hg3 hg4 hg5 hg6
   refine ye [] 15 (z5 [isV (u4), isV (.slice (some ⟨q, 0, none⟩) n cap), isV (.int .i64 k), isV ((.pointer (some ⟨q, k * 8, none⟩))), isV ((.pointer (some ⟨q, k * 8 + 5, none⟩))), isV ((.int .i64 bk)), isV (.slice (some ⟨q, 0, none⟩) n cap), isV (.int .i64 k), isV ((.pointer (some ⟨q, k * 8, none⟩))), isV ((.pointer (some ⟨q, k * 8 + 6, none⟩))), isV ((.int .u16 ad)), isV (.int .i64 z), isV (.int .u16 z), isV (.agg #[.int .i64 bk, .int .u16 ad, .int .u16 z]), newS (wc.heap.size) (.cells #[.int .i64 bk, .int .u16 ad, .int .u16 z] 47 (0, 0)) 1]) (nth [[0], [1], [2], [3], [4], [5], [6], [7], [8], [9], [10], [11], [12], [13], [14]]) (nth [[], [], [], [], [], [], [], [], [], [], [], [], [], [], []]) (nth [[], [], [], [1, 2], [3], [4], [], [], [6, 7], [8], [9], [], [11], [5, 10, 12], [13]]) [0, 14] (fun w5 => Below wc.heap.size wc w5 ∧ True ∧ wc.heap.size ≤ w5.heap.size ∧ True) (by kernel_rfl) (by kernel_rfl) (⟨(Below.refl _ _).drew, trivial, zn _, trivial⟩) (fun w w' h hb => ⟨h.1.trans (hb.mono h.1.size), trivial, Nat.le_trans h.2.2.1 hb.size, trivial⟩) (zG ((za (zc _)  (za (zc _)  (za (zc _)  (za (zc _)  (za (zc _)  (za (zc _)  (za (zc _)  (za (zc _)  (za (zc _)  (za (zc _)  (za (zc _)  (za (zc _)  (za (zc _)  (za (zc _)  (za (yZ _ _ _) zy))))))))))))))))) (fun f F hF => ?_)
   simp only [List.take_succ_cons, List.take_zero, yb, Act.put, zD, zE, zF, Nat.reduceAdd] at hF
   subst hF
   refine ⟨ze ?_ (ze ?_ (ze ?_ (ze ?_ (ze ?_ (ze ?_ (ze ?_ (ze ?_ (ze ?_ (ze ?_ (ze ?_ (ze ?_ (ze ?_ (ze ?_ (ze ?_ (yf))))))))))))))), ?_⟩
   ·intro w5 hS hF hD K hK
    rw [if_pos (by rfl)]
    exact svV hK rfl rfl rfl rfl (by first | rfl | kernel_rfl)  (by show _ = _; kernel_rfl)
   ·intro w5 hS hF hD K hK
    rw [if_pos (by rfl)]
    exact svV hK rfl rfl rfl rfl (by first | rfl | kernel_rfl)  (by show _ = _; kernel_rfl)
   ·intro w5 hS hF hD K hK
    rw [if_pos (by rfl)]
    exact svV hK rfl rfl rfl rfl (by first | rfl | kernel_rfl)  (by show _ = _; kernel_rfl)
   ·intro w5 hS hF hD K hK
    obtain ⟨(e1 : f 1 = _), (e2 : f 2 = _), -⟩ := hF
    try simp only [e1, e2]
    rw [if_pos (by rfl)]
    go_simp
    refine hK.out _ _ rfl (zq rfl rfl rfl ?_)
    first | rfl | kernel_rfl
   ·intro w5 hS hF hD K hK
    obtain ⟨(e3 : f 3 = _), -⟩ := hF
    try simp only [e3]
    rw [if_pos (by rfl)]
    go_simp
    refine hK.out _ _ rfl (zq rfl rfl rfl ?_)
    first | rfl | kernel_rfl
   ·intro w5 hS hF hD K hK
    obtain ⟨(e4 : f 4 = _), -⟩ := hF
    try simp only [e4]
    rw [if_pos (by rfl)]
    exact svC hK rfl rfl rfl rfl (by first | rfl | kernel_rfl)  rfl rfl (zf hS.1 HQC.out) (HC5.out) (fun _ => by kernel_rfl)
   ·intro w5 hS hF hD K hK
    rw [if_pos (by rfl)]
    exact svV hK rfl rfl rfl rfl (by first | rfl | kernel_rfl)  (by show _ = _; kernel_rfl)
   ·intro w5 hS hF hD K hK
    rw [if_pos (by rfl)]
    exact svV hK rfl rfl rfl rfl (by first | rfl | kernel_rfl)  (by show _ = _; kernel_rfl)
   ·intro w5 hS hF hD K hK
    obtain ⟨(e6 : f 6 = _), (e7 : f 7 = _), -⟩ := hF
    try simp only [e6, e7]
    rw [if_pos (by rfl)]
    go_simp
    refine hK.out _ _ rfl (zq rfl rfl rfl ?_)
    first | rfl | kernel_rfl
   ·intro w5 hS hF hD K hK
    obtain ⟨(e8 : f 8 = _), -⟩ := hF
    try simp only [e8]
    rw [if_pos (by rfl)]
    go_simp
    refine hK.out _ _ rfl (zq rfl rfl rfl ?_)
    first | rfl | kernel_rfl
   ·intro w5 hS hF hD K hK
    obtain ⟨(e9 : f 9 = _), -⟩ := hF
    try simp only [e9]
    rw [if_pos (by rfl)]
    exact svC hK rfl rfl rfl rfl (by first | rfl | kernel_rfl)  rfl rfl (zf hS.1 HQC.out) (HC6.out) (fun _ => by kernel_rfl)
   ·intro w5 hS hF hD K hK
    rw [if_pos (by rfl)]
    exact svV hK rfl rfl rfl rfl (by first | rfl | kernel_rfl)  (by show _ = _; kernel_rfl)
   ·intro w5 hS hF hD K hK
    obtain ⟨(e11 : f 11 = _), -⟩ := hF
    try simp only [e11]
    rw [if_pos (by rfl)]
    exact zx (v := .int .u16 (IntKind.u16.wrap (z : Int))) (by (show _ = _); kernel_rfl) (hK.out _ _ rfl (zq rfl rfl rfl (congrArg (Value.int .u16) HUZ.out)))
   ·intro w5 hS hF hD K hK
    obtain ⟨(e5 : f 5 = _), (e10 : f 10 = _), (e12 : f 12 = _), -⟩ := hF
    try simp only [e5, e10, e12]
    rw [if_pos (by rfl)]
    exact svV hK rfl rfl rfl rfl (by first | rfl | kernel_rfl)  (by show _ = _; kernel_rfl)
   ·intro w5 hS hF hD K hK
    obtain ⟨(e13 : f 13 = _), -⟩ := hF
    try simp only [e13]
    rw [if_pos (by rfl)]
    go_simp
    refine hK.out _ _ rfl (y0 rfl rfl rfl hS.2.2.1 ?_)
    first | rfl | kernel_rfl
   intro w5 hS hF
   obtain ⟨(e0 : f 0 = _), e14, -⟩ := hF
   obtain ⟨g14, e14, hB14, hg14⟩ := e14
   replace e14 : f 14 = _ := e14
   try simp only [e0, e14]
   simp only [List.drop_succ_cons, List.drop_zero]
   have HB9 := zh (HBC.out.trans (hS.1.mono HBC.out.size))
   have HO9 := zh (zZ HO.out (zN.ofBelow (bs := fun _ => False) (HBX.out.trans (hS.1.mono HBX.out.size))) fun _ _ h => h)
   have HN9 := zh hg14
   have HK1 := zh (show k ≤ 100000 by omega)
   clear hS hg14 hB14 e0 e14
   go_upto_region 4 with (at_builtin; refine wpList_app_row rfl _ _ 28 47 rfl 3 16 _ infoObj Try.underlying28 rfl (by decide) w.heap.size HB9.out.size _ k _ rfl HO9.out HK1.out (by decide) g14 #[.int .i64 bk, .int .u16 ad, .int .u16 z] _ _ rfl HN9.out rfl rfl ?_; intro v8 w8 ho8 hg8)
   have HO8 := zh ho8
   have HB8 := zh (rowS_below HB9.out HB9.out.size HO9.out hg8)
   clear ho8 hg8
   go_wp2_with fail
   go_roundw
   case rel => exact ⟨k + 1, ps ++ [⟨bk, ad, z⟩], by omega, by rw [List.length_append, HPK.out]; rfl, by go_num, zh (by rw [objs_snoc]; exact HO8.out), zh (fun x hx => by rcases List.mem_append.1 hx with hx | hx; exact HP.out x hx; simp at hx; subst hx; exact HOQ.out), HB8⟩
   case measure => simp [intOf]; omega
  ·have hpost : ObPost w (.returned (.tuple #[u4, .bool true])) wr := ⟨ps, u4, true, rfl, by have := HPK.out; omega, HP.out, own_objs (by rw [HPK.out]; exact HO.out), HBR.out⟩
   have HPO := zh hpost
   clear hpost HO HP HBR
   have h2 : ¬ (k : Int) < (n : Int) := by omega
   have h2b : (n : Int) ≤ (k : Int) := by omega
   go_wp2_with fail
   go_ret2
   exact HPO.out
set_option maxRecDepth 100000 in
set_option maxHeartbeats 4000000 in
theorem law_objects_any (lo : Option Addr) (ll lcap : Nat) (Q : Nat → Nat → Int) (hQ : ∀ i j, zX (Q i j)) (hll : ll < 9223372036854775808) (w : World) (hS : PairV w (.slice lo ll lcap) ll Q) :
  Calls Try.prog 9 #[.slice lo ll lcap] w fun e w' => ∃ (ps : List ObjS) (v : Value), e = .returned v ∧ ps.length ≤ 6 ∧ (∀ p ∈ ps, ObjQ p) ∧ jK w' v ps ∧ Below w.heap.size w w' := by
 have HGL := zh (globals_any lo ll lcap Q hQ hll w hS)
 clear hQ hS
 go_enter Try.func9, Try.ntmps9
 go_wp2_with (first | (go_at_call 22; refine (HGL.out).mono ?_; rintro e w1 ⟨gs, v, gk, rfl, hn, hq, hk, ho, hb⟩; have HOB := zh (objects_any v gs gk hn hq w1 w.heap.size hk ho); have HB1 := zh hb; clear hn hq hk ho hb) | (go_at_call 21; refine (HOB.out).mono ?_; rintro e w2 ⟨ps, v2, b, rfl, hn, hq, ho, hb⟩; have HB2 := zh (HB1.out.trans (hb.mono HB1.out.size)); have HPS := zh (And.intro hn (And.intro hq ho)); clear hn hq ho hb))
 go_ret
 exact ⟨ps, _, rfl, HPS.out.1, HPS.out.2.1, HPS.out.2.2, HB2.out⟩
end Go.Proofs.Ythebmoggbgldmaa
namespace Go.Proofs.Ythebmoggbgldmaa
open Go Go.RowKit Go.Maps
set_option maxRecDepth 100000 in
set_option maxHeartbeats 2000000 in
theorem numbers_any (a b : Value) (xs ys : List Int) (hx : xs.length < 1000000) (w : World) (ha : xO w a xs) (hb : xO w b ys) :
  Calls Try.prog 15 #[a, b] w fun e w' => e = .returned (.bool (decide (xs = ys))) ∧ Below w.heap.size w w' := by
 obtain ⟨aa, ac, rfl, -, -⟩ := id ha
 obtain ⟨ba, bc, rfl, -, -⟩ := id hb
 have HA := zh ha
 have HB := zh hb
 clear ha hb
 by_cases hl : xs.length = ys.length
 ·have hlc : ((xs.length : Int) != (ys.length : Int)) = false := by simp [hl]
  have HLE := zh hl
  go_enter Try.func15, Try.ntmps15
  go_upto_region 3 with fail
  clear hlc
  go_wp2_with fail
  go_loopw [5] (fun i wr => ∃ k : Nat, k ≤ xs.length ∧ i = .int .i64 k ∧ Hid (Below w.heap.size w wr) ∧ Hid (xs.take k = ys.take k)) (fun i _ => xs.length - (intOf i).toNat)
  case atStart => exact ⟨0, Nat.zero_le _, rfl, zh (Below.refl _ _), zh rfl⟩
  case round =>
   obtain ⟨k, hk, rfl, HW, HE⟩ := hrel
   by_cases hlt : k < xs.length
   ·obtain ⟨x, hxx⟩ : ∃ x, xs[k]? = some x := ⟨_, List.getElem?_eq_getElem hlt⟩
    obtain ⟨y, hyy⟩ : ∃ y, ys[k]? = some y := ⟨_, List.getElem?_eq_getElem (by have := HLE.out; omega)⟩
    have hky : (k : Int) < (ys.length : Int) := by have := HLE.out; omega
    have hkx : (k : Int) < (xs.length : Int) := by omega
    obtain ⟨g1, o1, c1, T1, f1, rfl, hg1, hc1⟩ := (HA.out.below HW.out).at hxx
    obtain ⟨g2, o2, c2, T2, f2, rfl, hg2, hc2⟩ := (HB.out.below HW.out).at hyy
    have HG1 := zh hg1
    have HG2 := zh hg2
    have HC1 := zh hc1
    have HC2 := zh hc2
    have HX := zh (And.intro hxx hyy)
    have zz1 : g1 < wr.heap.size := (Array.getElem?_eq_some_iff.1 hg1).1
    have zz2 : g2 < wr.heap.size := (Array.getElem?_eq_some_iff.1 hg2).1
    obtain ⟨nb, hnb⟩ : ∃ nb : Bool, (x != y) = nb := ⟨_, rfl⟩
    clear hg1 hg2 hc1 hc2 hxx hyy
    go_upto_region 6 with fail
    refine zV [] 9 (z5 [isV (.slice (some ⟨g1, o1, none⟩) xs.length ac), isV (.int .i64 k), isV ((.pointer (some ⟨g1, o1 + k, none⟩))), isV ((.int .i64 x)), isV (.slice (some ⟨g2, o2, none⟩) ys.length bc), isV (.int .i64 k), isV ((.pointer (some ⟨g2, o2 + k, none⟩))), isV ((.int .i64 y)), isV ((.bool nb))]) (nth [[0], [1], [2], [3], [4], [5], [6], [7], [8]]) (nth [[], [], [], [], [], [], [], [], []]) (nth [[], [], [0, 1], [2], [], [], [4, 5], [6], [3, 7]]) [8] (yU wr.heap.size wr wr.heap.size [(g1, .cells c1 T1 f1), (g2, .cells c2 T2 f2)]) (by kernel_rfl) (by kernel_rfl) (⟨(Below.refl _ _).drew, zn _, zn _, by intro x hx; simp at hx; rcases hx with rfl | rfl <;> assumption, HG1.out, HG2.out, trivial⟩) (yU.grow) (zG ((za (zc _)  (za (zc _)  (za (zc _)  (za (zc _)  (za (zc _)  (za (zc _)  (za (zc _)  (za (zc _)  (za (zc _) zy))))))))))) (fun f F hF => ?_)
    simp only [List.take_succ_cons, List.take_zero, yb, Act.put, zD, zE, zF, Nat.reduceAdd] at hF
    subst hF
    refine ⟨zd ?_ (zd ?_ (zd ?_ (zd ?_ (zd ?_ (zd ?_ (zd ?_ (zd ?_ (zd ?_ (yd))))))))), ?_⟩
    ·intro w5 hS hF hD K hK
     rw [if_pos (by rfl)]
     exact svV hK rfl rfl rfl rfl (by first | rfl | kernel_rfl)  (by show _ = _; kernel_rfl)
    ·intro w5 hS hF hD K hK
     rw [if_pos (by rfl)]
     exact svV hK rfl rfl rfl rfl (by first | rfl | kernel_rfl)  (by show _ = _; kernel_rfl)
    ·intro w5 hS hF hD K hK
     obtain ⟨(e0 : f 0 = _), (e1 : f 1 = _), -⟩ := hF
     try simp only [e0, e1]
     rw [if_pos (by rfl)]
     go_simp
     refine hK.out _ _ rfl (zq rfl rfl rfl ?_)
     first | rfl | kernel_rfl
    ·intro w5 hS hF hD K hK
     obtain ⟨(e2 : f 2 = _), -⟩ := hF
     try simp only [e2]
     rw [if_pos (by rfl)]
     exact svC hK rfl rfl rfl rfl (by first | rfl | kernel_rfl)  rfl rfl (hS.2.2.2.2.1) (HC1.out) (fun _ => by kernel_rfl)
    ·intro w5 hS hF hD K hK
     rw [if_pos (by rfl)]
     exact svV hK rfl rfl rfl rfl (by first | rfl | kernel_rfl)  (by show _ = _; kernel_rfl)
    ·intro w5 hS hF hD K hK
     rw [if_pos (by rfl)]
     exact svV hK rfl rfl rfl rfl (by first | rfl | kernel_rfl)  (by show _ = _; kernel_rfl)
    ·intro w5 hS hF hD K hK
     obtain ⟨(e4 : f 4 = _), (e5 : f 5 = _), -⟩ := hF
     try simp only [e4, e5]
     rw [if_pos (by rfl)]
     go_simp
     refine hK.out _ _ rfl (zq rfl rfl rfl ?_)
     first | rfl | kernel_rfl
    ·intro w5 hS hF hD K hK
     obtain ⟨(e6 : f 6 = _), -⟩ := hF
     try simp only [e6]
     rw [if_pos (by rfl)]
     exact svC hK rfl rfl rfl rfl (by first | rfl | kernel_rfl)  rfl rfl (hS.2.2.2.2.2.1) (HC2.out) (fun _ => by kernel_rfl)
    ·intro w5 hS hF hD K hK
     obtain ⟨(e3 : f 3 = _), (e7 : f 7 = _), -⟩ := hF
     try simp only [e3, e7]
     rw [if_pos (by rfl)]
     go_simp
     refine hK.out _ _ rfl (zq rfl rfl rfl ?_)
     first | rfl | kernel_rfl
    intro w5 hS hF
    obtain ⟨(e8 : f 8 = _), -⟩ := hF
    try simp only [e8]
    refine yN (by kernel_rfl) ?_
    have HW5 := zh (HW.out.trans (hS.1.mono HW.out.size))
    clear hS e8 zz1 zz2
    cases nb with
    | true =>
     have HN := zh (show xs ≠ ys by
      intro e
      rw [e] at HX
      have h1 := HX.out.1
      rw [HX.out.2] at h1
      simp at h1
      simp [h1] at hnb)
     clear hnb
     go_wp2_with fail
     go_ret
     exact ⟨by rw [decide_eq_false HN.out]; rfl, HW5.out⟩
    | false =>
     have HT := zh (show xs.take (k + 1) = ys.take (k + 1) by
      rw [xS HX.out.1, xS HX.out.2, HE.out]
      have : x = y := by simpa using hnb
      rw [this])
     clear hnb
     go_wp2_with fail
     go_roundw
     case rel => exact ⟨k + 1, by omega, by go_num, HW5, HT⟩
     case measure => simp [intOf]; omega
   ·have hke : k = xs.length := by omega
    subst hke
    have HN := zh (show xs = ys by
     have h1 := HE.out
     rw [List.take_length] at h1
     rw [HLE.out, List.take_length] at h1
     exact h1)
    clear hlt hk
    go_wp2_with fail
    go_ret
    exact ⟨by rw [decide_eq_true HN.out]; rfl, HW.out⟩
 ·have hlc : ((xs.length : Int) != (ys.length : Int)) = true := by simp; omega
  have hld : ((xs.length : Int) == (ys.length : Int)) = false := by simp; omega
  have HN := zh (show xs ≠ ys from fun e => hl (by rw [e]))
  clear hl
  go_enter Try.func15, Try.ntmps15
  go_wp2_with fail
  go_ret
  exact ⟨by rw [decide_eq_false HN.out]; rfl, Below.refl _ _⟩
end Go.Proofs.Ythebmoggbgldmaa
