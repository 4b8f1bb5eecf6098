/- The reference of chapter 19: Globals. The conditions: the numbers lie in their types' ranges. -/
import Derived.Test.YthebmoggbgldmaaLaLpA
set_option linter.all false
namespace Go.Proofs.Ythebmoggbgldmaa
open Go Go.RowKit Go.Maps
structure GlbS where
 nm : ByteArray
 n : Int
 bank : Int
 addr : Int
 by_ : ByteArray
def GlbQ (g : GlbS) : Prop := 0 ≤ g.n ∧ g.n ≤ 600 ∧ zX g.bank ∧ 0 ≤ g.addr ∧ g.addr < 65536 ∧ g.by_.size ≤ 600
def glbV (gk : Nat) (g : GlbS) : List Value := [.string g.nm, .int .i64 5, .string ⟨#[]⟩, .int .i64 g.n, .slice (some ⟨gk, 0, none⟩) 1 1, .int .i64 g.bank, .int .u16 g.addr, .string g.by_]
def glbsV (gk : Nat) (gs : List GlbS) : List Value := gs.flatMap (glbV gk)
theorem glbs_snoc (gk : Nat) (gs : List GlbS) (g : GlbS) : glbsV gk (gs ++ [g]) = glbsV gk gs ++ glbV gk g := by unfold glbsV; rw [List.flatMap_append, List.flatMap_singleton]
def GlPost (w : World) (e : Ending) (w' : World) : Prop :=
 ∃ (gs : List GlbS) (v : Value) (gk : Nat), e = .returned v ∧ gs.length ≤ 6 ∧ (∀ g ∈ gs, GlbQ g) ∧ w'.heap[gk]? = some (.cells #[.int .i64 2, .string ⟨#[]⟩, .int .i64 0, .slice none 0 0] 90 (0, 0)) ∧ w'.ownsRow w.heap.size 92 8 v gs.length (glbsV gk gs) ∧ Below w.heap.size w w'
theorem infoGlb : (Try.prog.info? 92).map (fun i => (i.zero, i.size, i.bytes)) = some (some (.agg #[.string ⟨#[]⟩, .int .i64 0, .string ⟨#[]⟩, .int .i64 0, .slice none 0 0, .int .i64 0, .int .u16 0, .string ⟨#[]⟩]), 8, 104) := by kernel_rfl
theorem infoU8 : (Try.prog.info? 5).map (fun i => (i.zero, i.size, i.bytes)) = some (some (.int .u8 0), 1, 1) := by kernel_rfl
theorem made_u8 (n : Nat) : (madeCells (Value.int .u8 0).cells (n * 1)).toList = (List.replicate n (0 : Int)).map (Value.int .u8) := by
 rw [Nat.mul_one, List.map_replicate]
 apply List.ext_getElem
 ·simp [madeCells]
 ·intro i h1 h2
  simp only [madeCells, Value.cells, Nat.mul_one]
  simp [Nat.mod_one]
theorem glq0 {k : Nat} (hk : k < 6) {b : Int} (nm : ByteArray) {ad : Int} (ha : 0 ≤ ad ∧ ad < 65536) : GlbQ ⟨nm, 1 + b % 30, -1, ad, ⟨#[]⟩⟩ := ⟨by dsimp only; omega, by dsimp only; omega, by constructor <;> (dsimp only; omega), ha.1, ha.2, by show (0 : Nat) ≤ 600; omega⟩
theorem glq1 {bk ad : Int} (nm : ByteArray) (ha : 0 ≤ ad ∧ ad < 65536) (hk : 0 ≤ bk ∧ bk < 3) {m : Nat} (hm : m ≤ 600) {bs : List Int} (hb : bs.length = m) : GlbQ ⟨nm, m, bk, ad, zO bs⟩ := ⟨by dsimp only; omega, by dsimp only; omega, by constructor <;> (dsimp only; omega), ha.1, ha.2, by show (zO bs).size ≤ 600; rw [yo]; omega⟩
theorem size_c (a b : Int) : ∃ m : Nat, (1 + b % 30) * (1 + a % 20) = (m : Int) ∧ m ≤ 600 ∧ 0 < m := by
 have h1 : 0 ≤ b % 30 := by omega
 have h2 : b % 30 < 30 := by omega
 have h3 : 0 ≤ a % 20 := by omega
 have h4 : a % 20 < 20 := by omega
 obtain ⟨x, hx⟩ := Int.eq_ofNat_of_zero_le (show 0 ≤ 1 + b % 30 by omega)
 obtain ⟨y, hy⟩ := Int.eq_ofNat_of_zero_le (show 0 ≤ 1 + a % 20 by omega)
 have hx1 : x ≤ 30 := by omega
 have hy1 : y ≤ 20 := by omega
 have hx0 : 0 < x := by omega
 have hy0 : 0 < y := by omega
 refine ⟨x * y, by rw [hx, hy]; exact (Int.natCast_mul x y).symm, ?_, Nat.mul_pos hx0 hy0⟩
 have := Nat.mul_le_mul hx1 hy1
 omega
theorem grown_none {w w' : World} (h : w.grownBy w' none) : Below w.heap.size w w' := ((zN.refl (fun _ => False) w).grown h (fun k e => by cases e)).toBelow (zn _) fun k hk => hk.elim
def BysQ (w : World) (g m : Nat) : Prop := ∃ bl : List Int, bl.length = m ∧ w.heap[g]? = some (.cells (bl.map (Value.int .u8)).toArray 5 (0, 0))
theorem BysQ.set {w : World} {g m : Nat} (h : BysQ w g m) (j : Nat) (x : Int) : BysQ (w.setCell ⟨g, j, none⟩ (.int .u8 x)) g m := by
 obtain ⟨bl, hl, hg⟩ := h
 refine ⟨bl.set j x, by rw [List.length_set]; exact hl, ?_⟩
 rw [zW hg]
 congr 2
 apply Array.ext'
 simp [List.map_set]
theorem BysQ.at {w : World} {g m : Nat} (h : BysQ w g m) {j : Nat} (hj : j < m) : (∃ x, w.cell? ⟨g, j, none⟩ = some (.int .u8 x)) ∧ w.frozen? ⟨g, j, none⟩ = false := by
 obtain ⟨bl, hl, hg⟩ := h
 refine ⟨⟨bl[j]'(by omega), ?_⟩, frozen_of_row w g j _ _ hg⟩
 rw [cell_of_row w g j _ _ _ hg]
 simp [hl, hj]
theorem own_bytes {w : World} {g m : Nat} {bl : List Int} (hl : bl.length = m) (hm : m ≤ 600) (hg : w.heap[g]? = some (.cells (bl.map (Value.int .u8)).toArray 5 (0, 0))) : w.ownsRow g 5 1 (.slice (some ⟨g, 0, none⟩) m m) m (bv bl) :=
 ⟨by simp [bv, hl], .inr ⟨g, m, _, rfl, zn _, hg, zn _, by unfold maxLen; omega, by simp [hl], by simp [bv]; exact List.take_of_length_le (by simp [hl])⟩⟩
theorem cell_store {w : World} {g i : Nat} {cs cs' : Array Value} {T : TypeId} {fr : Nat × Nat} (h : w.heap[g]? = some (.cells cs T fr)) (v : Value) (e : cs.setIfInBounds i v = cs') : (w.setCell ⟨g, i, none⟩ v).heap[g]? = some (.cells cs' T fr) := e ▸ zW h v
theorem jr {W w : World} {B g i : Nat} (h : Below B w W) (hB : B ≤ g) (x : Value) : Below B w (W.setCell ⟨g, i, none⟩ x) :=
 h.trans ⟨rfl, rfl, rfl, by simp [World.setCell], fun k hk => jU (by omega) x⟩
theorem rmodE (m q : Int) (hq : zX q) (h0 : 0 < m) (h1 : m ≤ 65536) (W : World) : Calls Try.prog 11 #[.int .i64 q, .int .i64 m] W fun e w' => (∃ r : Int, (0 ≤ r ∧ r < m) ∧ e = .returned (.int .i64 r)) ∧ W = w' :=
 (jk q m hq h0 (by omega) W).mono fun e w' h => ⟨⟨q % m, ⟨Int.emod_nonneg _ (by omega), Int.emod_lt_of_pos _ h0⟩, h.1⟩, h.2⟩
theorem wrap64_ok (x : Int) : zX (wrap64 x) := by
 unfold wrap64
 constructor <;> omega
theorem tdiv3_ok {a : Int} (h : zX a) : zX (a.tdiv 3) := by
 obtain ⟨h1, h2⟩ := h
 rcases Int.lt_or_le a 0 with h | h
 ·have : a.tdiv 3 = -((-a) / 3) := by
   have := Int.neg_tdiv (a := -a) (b := 3)
   rw [Int.neg_neg] at this
   rw [this, Int.tdiv_eq_ediv_of_nonneg (by omega)]
  rw [this]
  constructor <;> omega
 ·rw [Int.tdiv_eq_ediv_of_nonneg h]
  constructor <;> omega
theorem w_size (b : Int) : IntKind.i64.wrap (1 + b % 30) = 1 + b % 30 := IntWalk.i64_in _ (by omega)
theorem w_fac (a : Int) : IntKind.i64.wrap (1 + a % 20) = 1 + a % 20 := IntWalk.i64_in _ (by omega)
set_option maxRecDepth 100000 in
set_option maxHeartbeats 8000000 in
theorem globals_any (lo : Option Addr) (ll lcap : Nat) (Q : Nat → Nat → Int) (hQ : ∀ i j, zX (Q i j)) (hll : ll < 9223372036854775808) (w : World) (hS : PairV w (.slice lo ll lcap) ll Q) :
  Calls Try.prog 22 #[.slice lo ll lcap] w (GlPost w) := by
 have HQ := zh hQ
 have HSX := zh hS
 have HDG := zh (fun (k : Nat) (hk : k < 6) W => digits_any 5 (by omega) k (by omega) (by omega) W)
 clear hQ hS
 go_enter Try.func22, Try.ntmps22
 go_upto_region 3 with fail
 have hk0 := heap_alloc_new w (.cells #[.int .i64 2, .string ⟨#[]⟩, .int .i64 0, .slice none 0 0] 90)
 have hb0 := (Below.refl w.heap.size w).alloc (zn _) (.cells #[.int .i64 2, .string ⟨#[]⟩, .int .i64 0, .slice none 0 0] 90)
 obtain ⟨wa, hwa⟩ : ∃ W : World, w.alloc (.cells #[.int .i64 2, .string ⟨#[]⟩, .int .i64 0, .slice none 0 0] 90) = W := ⟨_, rfl⟩
 obtain ⟨gk, hgk⟩ : ∃ g : Nat, w.heap.size = g := ⟨_, rfl⟩
 rw [hwa] at hk0 hb0 ⊢
 rw [hgk] at hk0
 try rw [hgk]
 have HK := zh hk0
 have HB := zh hb0
 clear hwa hk0 hb0 hgk
 try simp only [Act.put]
 go_wp2_with fail
 go_loopw [3, 5] (fun sv i wr => ∃ (k : Nat) (gs : List GlbS), k ≤ ll ∧ k ≤ 6 ∧ gs.length = k ∧ i = .int .i64 k ∧ Hid (wr.ownsRow w.heap.size 92 8 sv k (glbsV gk gs)) ∧ Hid (∀ g ∈ gs, GlbQ g) ∧ Hid (wr.heap[gk]? = some (.cells #[.int .i64 2, .string ⟨#[]⟩, .int .i64 0, .slice none 0 0] 90 (0, 0))) ∧ Hid (Below w.heap.size w wr)) (fun _ i _ => 6 - (intOf i).toNat)
 case atStart => exact ⟨0, [], Nat.zero_le _, Nat.zero_le _, rfl, rfl, zh ⟨rfl, .inl ⟨rfl, rfl⟩⟩, zh (fun p hp => by cases hp), HK, HB⟩
 case round =>
  obtain ⟨k, gs, hk, hk6, hpk, rfl, HO, HP, HKR, HBR⟩ := hrel
  have HPK := zh hpk
  clear hpk HK HB
  by_cases hlt : k < ll ∧ k < 6
  ·obtain ⟨hl1, hl2⟩ := hlt
   obtain ⟨ao0, cp0, he0, -, hrow⟩ := HSX.out
   obtain ⟨q, off, c, T', fr', hao, hq, hx⟩ := hrow (by omega)
   simp only [Value.slice.injEq] at he0
   obtain ⟨rfl, -, rfl⟩ := he0
   subst hao
   obtain ⟨hxa, hxb⟩ := hx k hl1
   obtain ⟨qa, hqa⟩ : ∃ z, Q k 0 = z := ⟨_, rfl⟩
   obtain ⟨qb, hqb⟩ : ∃ z, Q k 1 = z := ⟨_, rfl⟩
   rw [hqa] at hxa
   rw [hqb] at hxb
   have HI0 := zh (hqa ▸ HQ.out k 0)
   have HI1 := zh (hqb ▸ HQ.out k 1)
   have HQB := zh (zf HBR.out hq)
   have HXA := zh hxa
   have HXB := zh hxb
   have hkl : (k : Int) < (ll : Int) := by omega
   have hk66 : (k : Int) < 6 := by omega
   have hB0 := HBR.out.size
   have HDK := zh (HDG.out k hl2)
   have ca : wr.cell? ⟨q, off + k * 2, none⟩ = some (.int .i64 qa) := (cell_of_row _ _ _ _ _ _ HQB.out).trans HXA.out
   have cb : wr.cell? ⟨q, off + k * 2 + 1, none⟩ = some (.int .i64 qb) := (cell_of_row _ _ _ _ _ _ HQB.out).trans HXB.out
   have hws := w_size qb
   clear hqa hqb hxa hxb hx hq hrow
   go_upto_region 7 with (go_at_call 11; refine (rmodP _ _ HI1.out (by decide) (by decide) _).mono ?_; rintro e wz ⟨rfl, rfl⟩)
   clear ca cb
   obtain ⟨ad, had, had0⟩ : ∃ im : Int, IntKind.u16.wrap (20480 - 40 * (k : Int)) = im ∧ 0 ≤ im ∧ im < 65536 := ⟨_, rfl, u16_rngP _⟩
   have had1 : 20480 - 40 * (k : Int) = ad := by rw [← had]; exact (IntWalk.u16_in _ (by omega)).symm
   go_upto_region 8 with (first | (go_at_call 23; refine (HDK.out _).mono ?_; rintro e w1 ⟨s, hs, rfl, hb1⟩; have hcd : ¬ 9223372036854775807 < 1 + s.size := (by omega)) | (refine wpList_store_row rfl _ _ _ rfl _ _ rfl rfl _ _ (heap_alloc_new _ _) ?_ ?_ ?_ ?_; kernel_rfl; rfl; kernel_rfl; rw [World.setRow_alloc_new]))
   obtain ⟨nm, hnm⟩ : ∃ nm : ByteArray, (ByteArray.mk #[103]) ++ s = nm := ⟨_, rfl⟩
   try rw [hnm]
   try rw [had]
   try rw [had1]
   have hn7 := heap_alloc_new w1 (.cells #[.string nm, .int .i64 5, .string ⟨#[]⟩, .int .i64 (1 + qb % 30), .slice (some ⟨gk, 0, none⟩) 1 1, .int .i64 (-1), .int .u16 ad, .string ⟨#[]⟩] 92)
   have hb7 : Below wr.heap.size wr (w1.alloc (.cells #[.string nm, .int .i64 5, .string ⟨#[]⟩, .int .i64 (1 + qb % 30), .slice (some ⟨gk, 0, none⟩) 1 1, .int .i64 (-1), .int .u16 ad, .string ⟨#[]⟩] 92)) := hb1.alloc hb1.size _
   obtain ⟨w2, hw2⟩ : ∃ W : World, w1.alloc (.cells #[.string nm, .int .i64 5, .string ⟨#[]⟩, .int .i64 (1 + qb % 30), .slice (some ⟨gk, 0, none⟩) 1 1, .int .i64 (-1), .int .u16 ad, .string ⟨#[]⟩] 92) = W := ⟨_, rfl⟩
   obtain ⟨g7, hg7⟩ : ∃ g : Nat, w1.heap.size = g := ⟨_, rfl⟩
   have hge : wr.heap.size ≤ g7 := by have := hb1.size; omega
   rw [hw2] at hn7 hb7 ⊢
   rw [hg7] at hn7
   try rw [hg7]
   have HG0 := zh hn7
   have HBW0 := zh hb7
   have HQ2 := zh (zf hb7 HQB.out)
   clear hw2 hg7 hn7 hb7 hb1 hs hcd hnm had had1 HDK hws
   try simp only [Act.put]
   have ca : w2.cell? ⟨q, off + k * 2, none⟩ = some (.int .i64 qa) := (cell_of_row _ _ _ _ _ _ HQ2.out).trans HXA.out
   go_upto_if 46 with (go_at_call 11; refine (rmodP _ _ HI0.out (by decide) (by decide) _).mono ?_; rintro e wz ⟨rfl, rfl⟩)
   try simp only [Act.put]
   go_cut [] (fun wx => ∃ gl : GlbS, Hid (GlbQ gl) ∧ Hid (Below wr.heap.size wr wx) ∧ Hid (wx.heap[g7]? = some (.cells #[.string gl.nm, .int .i64 5, .string ⟨#[]⟩, .int .i64 gl.n, .slice (some ⟨gk, 0, none⟩) 1 1, .int .i64 gl.bank, .int .u16 gl.addr, .string gl.by_] 92 (0, 0))))
   case first =>
    by_cases h3 : qa % 3 = 0
    ·have h3a : (qa % 3 == 0) = true := by simp [h3]
     obtain ⟨m, hm, hm6, hm0⟩ := size_c qa qb
     have hwf := w_fac qa
     have hwm : IntKind.i64.wrap (m : Int) = m := IntWalk.i64_in _ (by omega)
     go_upto_region 10 with (go_at_call 11; refine (rmodP _ _ HI0.out (by decide) (by decide) _).mono ?_; rintro e wz ⟨rfl, rfl⟩)
     try rw [hm]
     try rw [hwm]
     have HM := zh hm
     clear hm hwf hwm ca h3a
     obtain ⟨iU, hiU, hzU, hzU1, hzU2⟩ := info_parts infoU8
     go_upto_region 11 with (refine wpList_make_full _ rfl _ _ 99 rfl w2.heap.size 5 iU (.int .u8 0) 1 Try.underlying99 hiU hzU hzU1 .i64 .i64 (m : Int) (m : Int) m rfl rfl rfl rfl (by rw [hzU2]; omega) (by unfold maxLen; omega) (zn _) ?_; intro w3 ho3 hg3)
     have h8 := own_full ho3
     have hb3 := grown_none hg3
     obtain ⟨g8, hg8⟩ : ∃ g : Nat, w2.heap.size = g := ⟨_, rfl⟩
     have hby : BysQ w3 g8 m := ⟨List.replicate m 0, by simp, by rw [← hg8, h8, ← made_u8 m]⟩
     have HBY := zh hby
     have HB3 := zh (show Below g8 w2 w3 by rw [← hg8]; exact hb3)
     have HBG := zh (show g7 < g8 by rw [← hg8]; exact (Array.getElem?_eq_some_iff.1 HG0.out).1)
     have HBS := zh (show wr.heap.size ≤ g8 by have := HBG.out; omega)
     rw [hg8]
     clear ho3 hg3 h8 hby hb3 hiU hzU hzU1 hzU2
     have HW2 := zh hg8
     clear hg8
     obtain ⟨wo, rfl⟩ : ∃ wo : World, wo = wr := ⟨_, rfl⟩
     go_wp2_with fail
     go_loopw [9] (fun i wr => ∃ j : Nat, j ≤ m ∧ i = .int .i64 j ∧ Hid (BysQ wr g8 m) ∧ Hid (Below g8 w2 wr)) (fun i _ => m - (intOf i).toNat)
     case atStart => exact ⟨0, Nat.zero_le _, rfl, HBY, HB3⟩
     case round =>
      clear HBY HB3
      obtain ⟨j, hj, rfl, HBY, HB3⟩ := hrel
      have HQ3 := zh ((HB3.out.block q (by have := (Array.getElem?_eq_some_iff.1 HQ2.out).1; have := HW2.out; omega)).trans HQ2.out)
      by_cases hjm : j < m
      ·obtain ⟨⟨x0, cx⟩, fx⟩ := HBY.out.at hjm
       have cb : wr.cell? ⟨q, off + k * 2 + 1, none⟩ = some (.int .i64 qb) := (cell_of_row _ _ _ _ _ _ HQ3.out).trans HXB.out
       have hjm1 : (j : Int) < (m : Int) := by omega
       go_wp2_with fail
       go_roundw
       case rel => exact ⟨j + 1, by omega, by go_num, zh (HBY.out.set _ _), zh (jr HB3.out (zn _) _)⟩
       case measure => simp [intOf]; omega
      ·have hjm1 : ¬ (j : Int) < (m : Int) := by omega
       have hjm2 : (m : Int) ≤ (j : Int) := by omega
       obtain ⟨bl, hbl, h8⟩ := HBY.out
       have H83 := zh h8
       have HBL := zh hbl
       have HG3 := zh ((HB3.out.block g7 HBG.out).trans HG0.out)
       have HBW3 := zh (HBW0.out.trans (HB3.out.mono HBS.out))
       have HQG := zh (show q < g7 by have := (Array.getElem?_eq_some_iff.1 HQB.out).1; omega)
       have HT3 := zh (tdiv3_ok HI0.out)
       clear h8 hbl HBY HB3 HQ2 HG0 HBW0
       have ca : wr.cell? ⟨q, off + k * 2, none⟩ = some (.int .i64 qa) := (cell_of_row _ _ _ _ _ _ HQ3.out).trans HXA.out
       have c9 := cell_of_row wr g7 5 _ _ _ HG3.out
       have f9 : wr.frozen? ⟨g7, 5, none⟩ = false := frozen_of_row wr g7 5 _ _ HG3.out
       go_upto_region 16 with (go_at_call 11; refine (rmodE _ _ (wrap64_ok _) (by decide) (by decide) _).mono ?_; rintro e wz ⟨⟨bk, hbk, rfl⟩, rfl⟩; have HBK := zh hbk; clear hbk)
       clear ca
       have HG4 := zh (cell_store (i := 5) HG3.out (.int .i64 bk) (show _ = #[.string nm, .int .i64 5, .string ⟨#[]⟩, .int .i64 (1 + qb % 30), .slice (some ⟨gk, 0, none⟩) 1 1, .int .i64 bk, .int .u16 ad, .string ⟨#[]⟩] from rfl))
       have HBW4 := zh (jr (i := 5) HBW3.out hge (.int .i64 bk))
       have H84 := zh ((jU (w := wr) (g := g7) (i := 5) (by have := HBG.out; omega) (.int .i64 bk)).trans H83.out)
       have HQ4 := zh ((jU (w := wr) (g := g7) (i := 5) (by have := HQG.out; omega) (.int .i64 bk)).trans HQ3.out)
       obtain ⟨w4, hwe⟩ : ∃ W : World, wr.setCell ⟨g7, 5, none⟩ (.int .i64 bk) = W := ⟨_, rfl⟩
       rw [hwe] at HG4 HBW4 H84 HQ4 ⊢
       clear hwe HG3 HBW3 H83 HQ3 c9 f9
       try simp only [Act.put]
       have cb : w4.cell? ⟨q, off + k * 2 + 1, none⟩ = some (.int .i64 qb) := (cell_of_row _ _ _ _ _ _ HQ4.out).trans HXB.out
       have c9 := cell_of_row w4 g7 6 _ _ _ HG4.out
       have f9 : w4.frozen? ⟨g7, 6, none⟩ = false := frozen_of_row w4 g7 6 _ _ HG4.out
       go_upto_region 17 with (go_at_call 11; refine (rmodE _ _ HI1.out (by decide) (by decide) _).mono ?_; rintro e wz ⟨⟨r2, hr2, rfl⟩, rfl⟩; have HR2 := zh hr2)
       clear cb
       obtain ⟨ad2, had2, had20⟩ : ∃ im : Int, IntKind.u16.wrap (100 + 650 * (k : Int) + r2) = im ∧ 0 ≤ im ∧ im < 65536 := ⟨_, rfl, u16_rngP _⟩
       have had3 : 100 + 650 * (k : Int) + r2 = ad2 := by rw [← had2]; exact (IntWalk.u16_in _ (by have := HR2.out; omega)).symm
       try rw [had2]
       try rw [had3]
       have HAD := zh had20
       clear had2 had3 had20
       have HG5 := zh (cell_store (i := 6) HG4.out (.int .u16 ad2) (show _ = #[.string nm, .int .i64 5, .string ⟨#[]⟩, .int .i64 (1 + qb % 30), .slice (some ⟨gk, 0, none⟩) 1 1, .int .i64 bk, .int .u16 ad2, .string ⟨#[]⟩] from rfl))
       have HBW5 := zh (jr (i := 6) HBW4.out hge (.int .u16 ad2))
       have H85 := zh ((jU (w := w4) (g := g7) (i := 6) (by have := HBG.out; omega) (.int .u16 ad2)).trans H84.out)
       have HQ5 := zh ((jU (w := w4) (g := g7) (i := 6) (by have := HQG.out; omega) (.int .u16 ad2)).trans HQ4.out)
       obtain ⟨w5, hwe⟩ : ∃ W : World, w4.setCell ⟨g7, 6, none⟩ (.int .u16 ad2) = W := ⟨_, rfl⟩
       rw [hwe] at HG5 HBW5 H85 HQ5 ⊢
       clear hwe HG4 HBW4 H84 HQ4 c9 f9
       try simp only [Act.put]
       have hcv := yk (P := Try.prog) w5 99 9 5 Try.underlying99 Try.underlying5 Try.underlying9 _ m g8 bl (own_bytes HBL.out hm6 H85.out)
       have c9 := cell_of_row w5 g7 7 _ _ _ HG5.out
       have f9 : w5.frozen? ⟨g7, 7, none⟩ = false := frozen_of_row w5 g7 7 _ _ HG5.out
       go_upto_region 18 with fail
       clear hcv
       have HG6 := zh (cell_store (i := 7) HG5.out (.string (zO bl)) (show _ = #[.string nm, .int .i64 5, .string ⟨#[]⟩, .int .i64 (1 + qb % 30), .slice (some ⟨gk, 0, none⟩) 1 1, .int .i64 bk, .int .u16 ad2, .string (zO bl)] from rfl))
       have HBW6 := zh (jr (i := 7) HBW5.out hge (.string (zO bl)))
       have H86 := zh ((jU (w := w5) (g := g7) (i := 7) (by have := HBG.out; omega) (.string (zO bl))).trans H85.out)
       have HQ6 := zh ((jU (w := w5) (g := g7) (i := 7) (by have := HQG.out; omega) (.string (zO bl))).trans HQ5.out)
       obtain ⟨w6, hwe⟩ : ∃ W : World, w5.setCell ⟨g7, 7, none⟩ (.string (zO bl)) = W := ⟨_, rfl⟩
       rw [hwe] at HG6 HBW6 H86 HQ6 ⊢
       clear hwe HG5 HBW5 H85 HQ5 c9 f9
       try simp only [Act.put]
       have c9 := cell_of_row w6 g7 3 _ _ _ HG6.out
       have f9 : w6.frozen? ⟨g7, 3, none⟩ = false := frozen_of_row w6 g7 3 _ _ HG6.out
       go_wp2_with fail
       go_meet
       exact ⟨⟨nm, m, bk, ad2, zO bl⟩, zh (glq1 nm HAD.out HBK.out hm6 HBL.out), zh (jr (i := 3) HBW6.out hge (.int .i64 m)), zh (cell_store (i := 3) HG6.out (.int .i64 m) rfl)⟩
    ·have h3a : (qa % 3 == 0) = false := by simp [h3]
     go_wp2_with fail
     go_meet
     exact ⟨⟨nm, 1 + qb % 30, -1, ad, ⟨#[]⟩⟩, zh (glq0 hl2 nm had0), HBW0, HG0⟩
   case rest =>
   clear ca HG0 HBW0 HQ2 HQB HXA HXB HI0 HI1
   obtain ⟨gl, HGQ, HBX, HGX⟩ := hcut
   have hb9 := (Below.refl wc.heap.size wc).alloc (zn _) (.cells #[.string gl.nm, .int .i64 5, .string ⟨#[]⟩, .int .i64 gl.n, .slice (some ⟨gk, 0, none⟩) 1 1, .int .i64 gl.bank, .int .u16 gl.addr, .string gl.by_] 92)
   have hB9 : Below wr.heap.size wr (wc.alloc (.cells #[.string gl.nm, .int .i64 5, .string ⟨#[]⟩, .int .i64 gl.n, .slice (some ⟨gk, 0, none⟩) 1 1, .int .i64 gl.bank, .int .u16 gl.addr, .string gl.by_] 92)) := HBX.out.trans (hb9.mono HBX.out.size)
   have HB9 := zh (HBR.out.trans (hB9.mono hB0))
   have HK9 := zh (zf hB9 HKR.out)
   have HO9 := zh (zZ HO.out (zN.ofBelow (bs := fun _ => False) hB9) fun _ _ h => h)
   have HN9 := zh (heap_alloc_new wc (.cells #[.string gl.nm, .int .i64 5, .string ⟨#[]⟩, .int .i64 gl.n, .slice (some ⟨gk, 0, none⟩) 1 1, .int .i64 gl.bank, .int .u16 gl.addr, .string gl.by_] 92))
   have HK1 := zh (show k ≤ 100000 by omega)
   clear hb9 hB9
   go_upto_region 5 with (first | (refine zs _ _ rfl _ rfl _ _ _ (HGX.out) ?_ ?_ ?_; kernel_rfl; kernel_rfl) | (at_builtin; refine wpList_app_row rfl _ _ 66 92 rfl 8 104 _ infoGlb Try.underlying66 rfl (by decide) w.heap.size HB9.out.size _ k _ rfl HO9.out HK1.out (by decide) wc.heap.size #[.string gl.nm, .int .i64 5, .string ⟨#[]⟩, .int .i64 gl.n, .slice (some ⟨gk, 0, none⟩) 1 1, .int .i64 gl.bank, .int .u16 gl.addr, .string gl.by_] _ _ rfl HN9.out rfl rfl ?_; intro v8 w8 ho8 hg8))
   have HO8 := zh ho8
   have HB8 := zh (rowS_below HB9.out HB9.out.size HO9.out hg8)
   have HK8 := zh (rowS_kept HO9.out hg8 HK9.out (by decide))
   clear ho8 hg8
   go_wp2_with fail
   go_roundw
   case rel => exact ⟨k + 1, gs ++ [gl], by omega, by omega, by rw [List.length_append, HPK.out]; rfl, by go_num, zh (by rw [glbs_snoc]; exact HO8.out), zh (fun x hx => by rcases List.mem_append.1 hx with hx | hx; exact HP.out x hx; simp at hx; subst hx; exact HGQ.out), HK8, HB8⟩
   case measure => simp [intOf]; omega
  ·have hpost : GlPost w (.returned u3) wr := ⟨gs, u3, gk, rfl, by have := HPK.out; omega, HP.out, HKR.out, by rw [HPK.out]; exact HO.out, HBR.out⟩
   have HPO := zh hpost
   clear hpost HO HP HBR HKR
   by_cases h1 : k < ll
   ·have h2 : ¬ (k : Int) < 6 := by omega
    have h2b : (6 : Int) ≤ (k : Int) := by omega
    have h1b : (k : Int) < (ll : Int) := by omega
    go_wp2_with fail
    go_ret
    exact HPO.out
   ·have h2 : ¬ (k : Int) < (ll : Int) := by omega
    have h2b : (ll : Int) ≤ (k : Int) := by omega
    go_wp2_with fail
    go_ret
    exact HPO.out
end Go.Proofs.Ythebmoggbgldmaa
