/- The reference of chapter 05: Laid, walked: an image of three banks with few calls. Condition: what it states. -/
import Derived.Test.YteofmaiojepdkaaGreatTeRmF
import Derived.Test.YteofmaiojepdkaaGreatTeSpGd
set_option linter.all false
namespace Go.Proofs.YteofmaiojepdkaaGreat
open Go Go.RowKit Go.Maps Go.Sort
theorem i64_and127 (n : Int) : bits .and .i64 n 127 = n % 128 := by
 have h15 : (BitVec.ofInt 64 127).toNat = 2 ^ 7 - 1 := by decide
 have key : (BitVec.ofInt 64 n &&& BitVec.ofInt 64 127).toNat = (n % ((2 ^ 64 : Nat) : Int)).toNat % 2 ^ 7 := by
  rw [BitVec.toNat_and, BitVec.toNat_ofInt, h15, Nat.and_two_pow_sub_one_eq_mod]
 show IntKind.i64.wrap ((BitVec.ofInt 64 n &&& BitVec.ofInt 64 127).toNat : Nat) = n % 128
 rw [key, IntKind.wrap_i64]
 omega
theorem i64_and3 (n : Int) : bits .and .i64 n 3 = n % 4 := by
 have h15 : (BitVec.ofInt 64 3).toNat = 2 ^ 2 - 1 := by decide
 have key : (BitVec.ofInt 64 n &&& BitVec.ofInt 64 3).toNat = (n % ((2 ^ 64 : Nat) : Int)).toNat % 2 ^ 2 := by
  rw [BitVec.toNat_and, BitVec.toNat_ofInt, h15, Nat.and_two_pow_sub_one_eq_mod]
 show IntKind.i64.wrap ((BitVec.ofInt 64 n &&& BitVec.ofInt 64 3).toNat : Nat) = n % 4
 rw [key, IntKind.wrap_i64]
 omega
theorem and3_bd (n : Int) : 0 ≤ bits .and .i64 n 3 ∧ bits .and .i64 n 3 < 4 := by rw [i64_and3]; omega
structure L5W (w : World) (N : Nat → Int) (gb gi gd : Nat) (b0 b1 b2 : ByteArray) (vv x : Int) (W : World) : Prop where
 hx : Bx [boxQ N, imgC (.slice none 0 0) 0 (.slice none 0 0)] w W
 bk : W.heap[gb]? = some (.cells #[.string b0, .string b1, .string b2] 9 (0, 0))
 im : W.heap[gi]? = some (imgC (.slice (some ⟨gb, 0, none⟩) 3 3) vv (.slice (some ⟨gd, 0, none⟩) 3 3))
 dt : W.heap[gd]? = some (.cells #[.int .i64 (-1), .int .u16 16384, .int .u16 16, .int .i64 0, .int .u16 900, .int .u16 120, .int .i64 2, .int .u16 0, .int .u16 x] 137 (0, 0))
 lg : w.heap.size + 2 ≤ gb
 li : w.heap.size + 2 ≤ gi
section
variable {w : World} {N : Nat → Int} {gb gi gd : Nat} {b0 b1 b2 : ByteArray} {vv x : Int} {W W' : World}
theorem L5W.below (h : L5W w N gb gi gd b0 b1 b2 vv x W) (hb : Below W.heap.size W W') : L5W w N gb gi gd b0 b1 b2 vv x W' := ⟨h.hx.stay hb, za hb h.bk, za hb h.im, za hb h.dt, h.lg, h.li⟩
theorem L5W.put (h : L5W w N gb gi gd b0 b1 b2 vv x W) {k : Nat} {s c0 c1 c2 : ByteArray} (hc : (#[.string b0, .string b1, .string b2] : Array Value).setIfInBounds k (.string s) = #[.string c0, .string c1, .string c2]) : L5W w N gb gi gd c0 c1 c2 vv x (W.setCell ⟨gb, k, none⟩ (.string s)) := by
 have h1 : gi ≠ gb := fun e => by have h1 := h.im; rw [e, h.bk] at h1; injection h1 with h1; injection h1 with h1 h2; exact absurd h2 (by decide)
 have h2 : gd ≠ gb := fun e => by have h1 := h.dt; rw [e, h.bk] at h1; injection h1 with h1; injection h1 with h1 h2; exact absurd h2 (by decide)
 refine ⟨h.hx.keep ((Below.refl _ _).setCell (p := ⟨gb, k, none⟩) h.lg _), ?_, by rw [heap_setCell_other h1]; exact h.im, by rw [heap_setCell_other h2]; exact h.dt, h.lg, h.li⟩
 rw [← hc]
 exact heap_setCell_same h.bk (i := k) (.string s)
theorem L5W.put0 (h : L5W w N gb gi gd b0 b1 b2 vv x W) {s : ByteArray} : L5W w N gb gi gd s b1 b2 vv x (W.setCell ⟨gb, 0, none⟩ (.string s)) := h.put rfl
theorem L5W.put1 (h : L5W w N gb gi gd b0 b1 b2 vv x W) {s : ByteArray} : L5W w N gb gi gd b0 s b2 vv x (W.setCell ⟨gb, 1, none⟩ (.string s)) := h.put rfl
end
def imgL (b0 b1 b2 : ByteArray) (vv x : Int) : zp := ⟨[b0, b1, b2], 0, vv, [⟨-1, 16384, 16⟩, ⟨0, 900, 120⟩, ⟨2, 0, x⟩]⟩
@[go_sem] theorem obj_build (a b c : Int) (W : World) : (Instr.build 137 #[(0, .int .i64 a), (1, .int .u16 b), (2, .int .u16 c)]).run Tryz.prog W = .ok (.agg #[.int .i64 a, .int .u16 b, .int .u16 c]) W := run_build W _ _ _ (by kernel_rfl)
theorem laidI_mk {c0 c1 B3 : ByteArray} {vv x : Int} (h0 : c0.size = 4096 ∧ nzB c0 ≤ 320) (h1 : c1.size = 4096 ∧ nzB c1 ≤ 310) (h3 : ∃ s, B3 = yW (x9 s) ∧ 0 ≤ s) (hv : vv = 0 ∨ vv = 700) (hx : 0 ≤ x ∧ x < 65536) : LaidI (imgL c0 c1 B3 vv x) := by
 obtain ⟨s, rfl, hs⟩ := h3
 refine ⟨⟨show 1 ≤ 3 by decide, show 3 ≤ 64 by decide, fun t ht => ?_, show (0 : Int) ≤ 0 ∧ (0 : Int) < 65536 by decide, show 0 ≤ vv ∧ vv < 65536 by omega, fun o ho => ?_, show 3 ≤ 1000 by decide⟩, ⟨c0, c1, s, rfl, hs, h0.2, h1.2⟩, rfl, hv⟩
 ·simp only [imgL, List.mem_cons, List.not_mem_nil, or_false] at ht
  rcases ht with rfl | rfl | rfl
  ·exact h0.1
  ·exact h1.1
  ·exact filB_size _
 ·simp only [imgL, List.mem_cons, List.not_mem_nil, or_false] at ho
  rcases ho with rfl | rfl | rfl
  ·exact ⟨by unfold yX; dsimp only; omega, by dsimp only; omega, by dsimp only; omega⟩
  ·exact ⟨by unfold yX; dsimp only; omega, by dsimp only; omega, by dsimp only; omega⟩
  ·exact ⟨by unfold yX; dsimp only; omega, by dsimp only; omega, hx⟩
def A127 (x : Int) : Nat := (x % 128).toNat
theorem and127_A (x : Int) : bits .and .i64 x 127 = (A127 x : Int) := by rw [i64_and127]; unfold A127; omega
theorem A127_lt (x : Int) : A127 x < 128 := by unfold A127; omega
theorem conv_one {W : World} {a : Int} {g : Nat} (h : W.heap[g]? = some (.cells #[.int .u8 a] 5 (0, 0))) : (convert 73 9 (.slice (some ⟨g, 0, none⟩) 1 1)).run Tryz.prog W = .ok (.string (strOfNums [a])) W := by
 refine run_convert_bytes_arg W _ _ Tryz.underlying73 Tryz.underlying5 g 0 1 1 [a] rfl (fun i hi => ?_) _ Tryz.underlying9
 rw [Nat.zero_add, cell_of_row _ _ _ _ _ _ h]
 match i, hi with
 | 0, _ => rfl
def L5P (w : World) (e : Ending) (w' : World) : Prop := (∃ I gb gd, (LaidI I ∧ w.heap.size ≤ gb ∧ w.heap.size ≤ gd) ∧ I.data.length = 3 ∧ e = .returned (.agg #[.slice (some ⟨gb, 0, none⟩) I.banks.length 3, .int .u16 I.entry, .int .u16 I.vector, .slice (some ⟨gd, 0, none⟩) I.data.length 3, .slice none 0 0]) ∧ yN w' I (some ⟨gb, 0, none⟩) 3 (some ⟨gd, 0, none⟩) 3) ∧ Below w.heap.size w w'
set_option maxRecDepth 100000 in
set_option maxHeartbeats 8000000 in
theorem laid5_any (p : Option Addr) (n cap : Nat) (Q : Nat → Nat → Int) (hn : n ≤ 9223372036854775807) (N : Nat → Int) (w : World) (hQ : FivV w (.slice p n cap) n Q) :
  Calls Tryz.prog 37 #[.slice p n cap, .agg #[.int .i64 (N 0), .int .i64 (N 1), .int .i64 (N 2), .int .i64 (N 3)]] w (L5P w) := by
 have HX := zh (Bx.two w (boxQ N) (imgC (.slice none 0 0) 0 (.slice none 0 0)))
 have HL4 := zh (fun W (hb : Below w.heap.size w W) => laid4_any p n cap Q hn N W (hQ.below hb))
 have a3 := and3_bd (N 1)
 have HA3 := zh a3
 have hcap : n ≤ cap := by obtain ⟨_, _, e, h, -⟩ := hQ; injection e with _ _ e; omega
 clear hQ a3 hn
 go_enter Tryz.func37, Tryz.ntmps37
 go_upto_region 1 with fail
 obtain ⟨wi, hwi⟩ : ∃ wi, (w.alloc (boxQ N)).alloc (imgC (.slice none 0 0) 0 (.slice none 0 0)) = wi := ⟨_, rfl⟩
 rw [hwi] at HX ⊢
 clear hwi
 go_upto_region 2 with (first
  | (refine ldT 23 (HX.out.b0) ?_)
  | (go_at_call 68; (with_reducible refine (HL4.out _ HX.out.bb).mono ?_); rintro e2 w2 ⟨⟨v, vv, r0, r1, r2, r3, r4, r5, r6, r7, sp, f, ram, sA, sn, sc, rfl, hi4⟩, hb2⟩
     obtain ⟨⟨gb, b0, b1, rfl, hgl, hg4, hs0, hs1⟩, hv4⟩ := hi4
     have HX2 := zh (HX.out.stay hb2)
     have H4 := zh (And.intro hgl (And.intro hg4 (And.intro hs0 (And.intro hs1 hv4))))
     have HY := zh (Bx.two w2 (imgC (.slice none 0 0) 0 (.slice none 0 0)) snp0)
     clear hb2 hgl hg4 hs0 hs1 hv4)
  | (refine stR (HY.out.b0) ?_)
  | (refine wpList_store_row rfl _ _ _ rfl _ _ rfl rfl _ _ ((setRow_other _ _ _ _ (by omega)).trans HY.out.b1) ?_ ?_ ?_ ?_; kernel_rfl; rfl; kernel_rfl))
 have hz2 := HX2.out.z
 simp only [List.length_cons, List.length_nil] at hz2
 have hgl := (Array.getElem?_eq_some_iff.1 H4.out.2.1).1
 obtain ⟨w3, hw3⟩ : ∃ w3, (((w2.alloc (imgC (.slice none 0 0) 0 (.slice none 0 0))).alloc snp0).setRow w2.heap.size #[.slice (some ⟨gb, 0, none⟩) 3 3, .int .u16 0, .int .u16 vv, .slice none 0 0, .slice none 0 0]).setRow (w2.heap.size + 1) (xc r0 r1 r2 r3 r4 r5 r6 r7 sp f 1 ram (.slice sA sn sc)) = w3 := ⟨_, rfl⟩
 have hb3 : Below w2.heap.size w2 w3 := hw3 ▸ below_setRow (below_setRow HY.out.bb (zn _) _) (by omega) _
 have H3 := zh (And.intro (HX2.out.stay hb3) (And.intro (za hb3 H4.out.2.1) (show w3.heap[w2.heap.size]? = some (imgC (.slice (some ⟨gb, 0, none⟩) 3 3) vv (.slice none 0 0)) from hw3 ▸ (setRow_other _ _ _ _ (by omega)).trans (setRow_heap _ _ _ _ _ _ HY.out.b0))))
 rw [hw3]
 have HGI := zh (show w.heap.size + 2 ≤ w2.heap.size from hz2)
 have HGB := zh (show w.heap.size + 2 ≤ gb from Nat.le_trans HX.out.z H4.out.1)
 clear hw3 hb3 HY HX2 hz2 hgl HX HL4
 obtain ⟨gi, hgi⟩ : ∃ gi, w2.heap.size = gi := ⟨_, rfl⟩
 rw [hgi] at H3 HGI ⊢
 clear hgi
 have hc := fun o => cell_of_row w3 w.heap.size o _ _ _ H3.out.1.b0
 have hf : ∀ o x, (w3.alloc x).frozen? ⟨gi, o, none⟩ = false := fun o x => frozen_of_row _ gi o _ _ (za ((Below.refl _ _).alloc (zn _) x) H3.out.2.2)
 have hci : ∀ o x, (w3.alloc x).cell? ⟨gi, o, none⟩ = (#[.slice (some ⟨gb, 0, none⟩) 3 3, .int .u16 0, .int .u16 vv, .slice none 0 0, .slice none 0 0] : Array Value)[o]? := fun o x => cell_of_row _ gi o _ _ _ (za ((Below.refl _ _).alloc (zn _) x) H3.out.2.2)
 go_upto_region 3 with fail
 have H5 : L5W w N gb gi w3.heap.size b0 b1 (yW (x9 (N 2 % 4294967296))) vv (IntKind.u16.wrap (wrap64 (1 + bits .and .i64 (N 2) 255))) ((w3.alloc (.cells #[.int .i64 (-1), .int .u16 16384, .int .u16 16, .int .i64 0, .int .u16 900, .int .u16 120, .int .i64 2, .int .u16 0, .int .u16 (IntKind.u16.wrap (wrap64 (1 + bits .and .i64 (N 2) 255)))] 137)).setCell ⟨gi, 3, none⟩ (.slice (some ⟨w3.heap.size, 0, none⟩) 3 3)) := by
  have hb := (Below.refl w3.heap.size w3).alloc (zn _) (.cells #[.int .i64 (-1), .int .u16 16384, .int .u16 16, .int .i64 0, .int .u16 900, .int .u16 120, .int .i64 2, .int .u16 0, .int .u16 (IntKind.u16.wrap (wrap64 (1 + bits .and .i64 (N 2) 255)))] 137)
  have hlt := (Array.getElem?_eq_some_iff.1 H3.out.2.2).1
  have hbi : gb ≠ gi := fun e => by have h1 := H3.out.2.1; rw [e, H3.out.2.2] at h1; injection h1 with h1; injection h1 with h1 h2; exact absurd h2 (by decide)
  refine ⟨(H3.out.1.stay hb).keep ((Below.refl _ _).setCell (p := ⟨gi, 3, none⟩) HGI.out _), by rw [heap_setCell_other hbi]; exact za hb H3.out.2.1, ?_, by rw [heap_setCell_other (by omega)]; exact heap_alloc_new _ _, HGB.out, HGI.out⟩
  have := heap_setCell_same (za hb H3.out.2.2) (i := 3) (.slice (some ⟨w3.heap.size, 0, none⟩) 3 3)
  rw [this]
  rfl
 have H5 := zh H5
 obtain ⟨w4, hw4⟩ : ∃ w4, ((w3.alloc (.cells #[.int .i64 (-1), .int .u16 16384, .int .u16 16, .int .i64 0, .int .u16 900, .int .u16 120, .int .i64 2, .int .u16 0, .int .u16 (IntKind.u16.wrap (wrap64 (1 + bits .and .i64 (N 2) 255)))] 137)).setCell ⟨gi, 3, none⟩ (.slice (some ⟨w3.heap.size, 0, none⟩) 3 3)) = w4 := ⟨_, rfl⟩
 rw [hw4] at H5 ⊢
 obtain ⟨X, hX⟩ : ∃ X, IntKind.u16.wrap (wrap64 (1 + bits .and .i64 (N 2) 255)) = X := ⟨_, rfl⟩
 have HXX := zh (hX ▸ yz _ : 0 ≤ X ∧ X < 65536)
 rw [hX] at H5
 have HGD := zh (show w.heap.size ≤ w3.heap.size from H3.out.1.bb.size)
 obtain ⟨gd, hgd⟩ : ∃ gd, w3.heap.size = gd := ⟨_, rfl⟩
 rw [hgd] at H5 HGD
 have HS0 := zh H4.out.2.2.1
 have HS1 := zh H4.out.2.2.2.1
 have HVV := zh H4.out.2.2.2.2
 clear hw4 hX hgd hc hf hci H3 H4 HGI HGB
 have HB3 := zh (show ∃ s, yW (x9 (N 2 % 4294967296)) = yW (x9 s) ∧ 0 ≤ s from ⟨_, rfl, by omega⟩)
 generalize yW (x9 (N 2 % 4294967296)) = B3 at *
 go_wp2_with fail
 go_loopw [7] (fun i wr => ∃ (m : Nat) (b0 b1 : ByteArray), (m : Int) ≤ bits .and .i64 (N 1) 3 ∧ i = .int .i64 m ∧ Hid (L5W w N gb gi gd b0 b1 B3 vv X wr) ∧ Hid (b0.size = 4096 ∧ nzB b0 ≤ 300 + m) ∧ Hid (b1.size = 4096 ∧ nzB b1 ≤ 296 + m)) (fun i _ => 3 - (intOf i).toNat)
 case atStart => exact ⟨0, b0, b1, HA3.out.1, rfl, H5, HS0, HS1⟩
 case round =>
  clear H5 HS0 HS1
  obtain ⟨m, b0, b1, hm, rfl, H5, HS0, HS1⟩ := hrel
  have hc := fun o => cell_of_row wr w.heap.size o _ _ _ H5.out.hx.b0
  by_cases hlt : (m : Int) < bits .and .i64 (N 1) 3
  ·have HLT := zh hlt
   have hm3 : m = 0 ∨ m = 1 ∨ m = 2 := by have := HA3.out.2; omega
   have hci := fun o => cell_of_row wr gi o _ _ _ H5.out.im
   have hcb := fun o => cell_of_row wr gb o _ _ _ H5.out.bk
   have hand := and127_A
   rcases hm3 with rfl | rfl | rfl
   ·have hbs : b0.size = 4096 := HS0.out.1
    obtain ⟨a, hae⟩ : ∃ a, A127 (N 2) = a := ⟨_, rfl⟩
    have ha : a < 128 := hae ▸ A127_lt _
    go_upto_region 8 with fail
    clear hae hand
    refine zu (S := fun W => W.heap[w.heap.size]? = some (boxQ N) ∧ W.heap[gi]? = some (imgC (.slice (some ⟨gb, 0, none⟩) 3 3) vv (.slice (some ⟨gd, 0, none⟩) 3 3)) ∧ W.heap[gb]? = some (.cells #[.string b0, .string b1, .string B3] 9 (0, 0))) [20, 21] (by kernel_rfl) ⟨H5.out.hx.b0, H5.out.im, H5.out.bk⟩ (fun hHeld => ?_)
    (refine tz 0 ?_)
    (refine tkZ 1 (v := .slice (some ⟨gb, 0, none⟩) 3 3) rfl (by assumption) (fun W hS => zW _ _ rfl _ _ rfl _ _ _ hS.2.1 _ rfl (fun _ => by kernel_rfl)) ?_; (refine pts ?_))
    (refine tz 2 ?_)
    (refine tkZ 3 (v := .int .i64 0) rfl (by assumption) (fun W hS => by clear hS; go_simp; first | done | rfl | (intro h; omega) | (intro h; exact absurd (h (by omega)) (by omega))) ?_; (refine pts ?_))
    (refine tz 4 ?_)
    (refine tz 5 ?_)
    (refine tkZ 6 (v := .string (b0.extract 0 a)) rfl (by assumption) (fun W hS => by clear hS; go_simp; first | done | rfl | (intro h; omega) | (intro h; exact absurd (h (by omega)) (by omega))) ?_; (refine pts ?_))
    (refine tz 7 ?_)
    (refine tkZ 8 (v := .int .i64 (N 3)) rfl (by assumption) (fun W hS => zW _ _ rfl _ _ rfl _ _ _ hS.1 _ rfl (fun _ => by kernel_rfl)) ?_; (refine pts ?_))
    (refine tz 9 ?_)
    (refine tkZ 10 (v := .int .i64 (N 3)) rfl (by assumption) (fun W hS => by clear hS; go_simp; first | done | rfl | (intro h; omega) | (intro h; exact absurd (h (by omega)) (by omega))) ?_; (refine pts ?_))
    (refine tkZ 11 (v := .int .u8 ((N 3) % 256)) rfl (by assumption) (fun W hS => by clear hS; go_simp; first | done | rfl | (intro h; omega) | (intro h; exact absurd (h (by omega)) (by omega))) ?_; (refine pts ?_))
    (refine tz 15 ?_)
    (refine tz 16 ?_)
    (refine tkZ 17 (v := .int .i64 ((a + 1 : Nat) : Int)) rfl (by assumption) (fun W hS => by clear hS; go_simp; first | done | rfl | exact IntWalk.i64_in _ (by omega)) ?_; (refine pts ?_))
    (refine tkZ 18 (v := .string (b0.extract (a + 1) b0.size)) rfl (by assumption) (fun W hS => by clear hS; go_simp; first | done | rfl | (intro h; omega) | (intro h; exact absurd (h (by omega)) (by omega))) ?_; (refine pts ?_))
    have HD := zh (H5.out.below (Below.refl _ _).drew)
    obtain ⟨wd, hwd⟩ : ∃ wd, wr.drew = wd := ⟨_, rfl⟩
    rw [hwd] at HD ⊢
    clear hwd
    refine yI 12 rfl (fun K hK => ?_)
    go_simp
    have H6 := zh (HD.out.below ((Below.refl _ _).alloc (zn _) (.cells #[.int .u8 ((N 3) % 256)] 5)))
    have HG := zh (heap_alloc_new wd (.cells #[.int .u8 ((N 3) % 256)] 5))
    refine hK.out _ _ (.inr ⟨H6.out.hx.b0, H6.out.im, H6.out.bk⟩) ?_
    (refine pts ?_)
    clear hK K hHeld HD
    refine yI 13 rfl (fun K hK => ?_)
    have hcv := conv_one HG.out
    go_simp
    refine hK.out _ _ (.inr ⟨H6.out.hx.b0, H6.out.im, H6.out.bk⟩) ?_
    (refine pts ?_)
    clear hK K hcv
    have hHeld := And.intro H6.out.hx.b0 (And.intro H6.out.im H6.out.bk)
    have hts : (strOfNums [(N 3) % 256]).size = 1 := by rw [strOfNums_size]; rfl
    generalize strOfNums [(N 3) % 256] = t at *
    (refine tkZ 14 (v := .string (b0.extract 0 a ++ t)) rfl (by assumption) (fun W hS => by clear hS; go_simp; first | done | rfl | omega) ?_; (refine pts ?_))
    (refine tkZ 19 (v := .string (b0.extract 0 a ++ t ++ b0.extract (a + 1) b0.size)) rfl (by assumption) (fun W hS => by clear hS; go_simp; first | done | rfl | omega) ?_; (refine pts ?_))
    refine ys 20 ?_
    simp only [List.drop_succ_cons, List.drop_zero]
    have hpa := patch_one b0 t a (a + 1) hbs (by omega) (by rw [hts])
    rw [hts] at hpa
    have HPA := zh hpa
    clear hpa hts
    generalize b0.extract 0 a ++ t ++ b0.extract (a + 1) b0.size = F at *
    have hfb := fun o => frozen_of_row _ gb o _ _ H6.out.bk
    have hcb := fun o => cell_of_row _ gb o _ _ _ H6.out.bk
    go_wp2_with fail
    go_roundw
    case rel => exact ⟨1, _, _, by have := HLT.out; omega, by go_num, zh H6.out.put0, zh ⟨HPA.out.1, by have := HPA.out.2; have := HS0.out.2; omega⟩, zh ⟨HS1.out.1, by have := HS1.out.2; omega⟩⟩
    case measure => simp [intOf]
   ·have hbs : b1.size = 4096 := HS1.out.1
    obtain ⟨a, hae⟩ : ∃ a, A127 (N 2 / 2) = a := ⟨_, rfl⟩
    have ha : a < 128 := hae ▸ A127_lt _
    go_upto_region 8 with fail
    clear hae hand
    refine zu (S := fun W => W.heap[w.heap.size]? = some (boxQ N) ∧ W.heap[gi]? = some (imgC (.slice (some ⟨gb, 0, none⟩) 3 3) vv (.slice (some ⟨gd, 0, none⟩) 3 3)) ∧ W.heap[gb]? = some (.cells #[.string b0, .string b1, .string B3] 9 (0, 0))) [20, 21] (by kernel_rfl) ⟨H5.out.hx.b0, H5.out.im, H5.out.bk⟩ (fun hHeld => ?_)
    (refine tz 0 ?_)
    (refine tkZ 1 (v := .slice (some ⟨gb, 0, none⟩) 3 3) rfl (by assumption) (fun W hS => zW _ _ rfl _ _ rfl _ _ _ hS.2.1 _ rfl (fun _ => by kernel_rfl)) ?_; (refine pts ?_))
    (refine tz 2 ?_)
    (refine tkZ 3 (v := .int .i64 1) rfl (by assumption) (fun W hS => by clear hS; go_simp; first | done | rfl | (intro h; omega) | (intro h; exact absurd (h (by omega)) (by omega))) ?_; (refine pts ?_))
    (refine tz 4 ?_)
    (refine tz 5 ?_)
    (refine tkZ 6 (v := .string (b1.extract 0 a)) rfl (by assumption) (fun W hS => by clear hS; go_simp; first | done | rfl | (intro h; omega) | (intro h; exact absurd (h (by omega)) (by omega))) ?_; (refine pts ?_))
    (refine tz 7 ?_)
    (refine tkZ 8 (v := .int .i64 (N 3)) rfl (by assumption) (fun W hS => zW _ _ rfl _ _ rfl _ _ _ hS.1 _ rfl (fun _ => by kernel_rfl)) ?_; (refine pts ?_))
    (refine tz 9 ?_)
    (refine tkZ 10 (v := .int .i64 (N 3 / 2)) rfl (by assumption) (fun W hS => by clear hS; go_simp; first | done | rfl | (intro h; omega) | (intro h; exact absurd (h (by omega)) (by omega))) ?_; (refine pts ?_))
    (refine tkZ 11 (v := .int .u8 ((N 3 / 2) % 256)) rfl (by assumption) (fun W hS => by clear hS; go_simp; first | done | rfl | (intro h; omega) | (intro h; exact absurd (h (by omega)) (by omega))) ?_; (refine pts ?_))
    (refine tz 15 ?_)
    (refine tz 16 ?_)
    (refine tkZ 17 (v := .int .i64 ((a + 1 : Nat) : Int)) rfl (by assumption) (fun W hS => by clear hS; go_simp; first | done | rfl | exact IntWalk.i64_in _ (by omega)) ?_; (refine pts ?_))
    (refine tkZ 18 (v := .string (b1.extract (a + 1) b1.size)) rfl (by assumption) (fun W hS => by clear hS; go_simp; first | done | rfl | (intro h; omega) | (intro h; exact absurd (h (by omega)) (by omega))) ?_; (refine pts ?_))
    have HD := zh (H5.out.below (Below.refl _ _).drew)
    obtain ⟨wd, hwd⟩ : ∃ wd, wr.drew = wd := ⟨_, rfl⟩
    rw [hwd] at HD ⊢
    clear hwd
    refine yI 12 rfl (fun K hK => ?_)
    go_simp
    have H6 := zh (HD.out.below ((Below.refl _ _).alloc (zn _) (.cells #[.int .u8 ((N 3 / 2) % 256)] 5)))
    have HG := zh (heap_alloc_new wd (.cells #[.int .u8 ((N 3 / 2) % 256)] 5))
    refine hK.out _ _ (.inr ⟨H6.out.hx.b0, H6.out.im, H6.out.bk⟩) ?_
    (refine pts ?_)
    clear hK K hHeld HD
    refine yI 13 rfl (fun K hK => ?_)
    have hcv := conv_one HG.out
    go_simp
    refine hK.out _ _ (.inr ⟨H6.out.hx.b0, H6.out.im, H6.out.bk⟩) ?_
    (refine pts ?_)
    clear hK K hcv
    have hHeld := And.intro H6.out.hx.b0 (And.intro H6.out.im H6.out.bk)
    have hts : (strOfNums [(N 3 / 2) % 256]).size = 1 := by rw [strOfNums_size]; rfl
    generalize strOfNums [(N 3 / 2) % 256] = t at *
    (refine tkZ 14 (v := .string (b1.extract 0 a ++ t)) rfl (by assumption) (fun W hS => by clear hS; go_simp; first | done | rfl | omega) ?_; (refine pts ?_))
    (refine tkZ 19 (v := .string (b1.extract 0 a ++ t ++ b1.extract (a + 1) b1.size)) rfl (by assumption) (fun W hS => by clear hS; go_simp; first | done | rfl | omega) ?_; (refine pts ?_))
    refine ys 20 ?_
    simp only [List.drop_succ_cons, List.drop_zero]
    have hpa := patch_one b1 t a (a + 1) hbs (by omega) (by rw [hts])
    rw [hts] at hpa
    have HPA := zh hpa
    clear hpa hts
    generalize b1.extract 0 a ++ t ++ b1.extract (a + 1) b1.size = F at *
    have hfb := fun o => frozen_of_row _ gb o _ _ H6.out.bk
    have hcb := fun o => cell_of_row _ gb o _ _ _ H6.out.bk
    go_wp2_with fail
    go_roundw
    case rel => exact ⟨2, _, _, by have := HLT.out; omega, by go_num, zh H6.out.put1, zh ⟨HS0.out.1, by have := HS0.out.2; omega⟩, zh ⟨HPA.out.1, by have := HPA.out.2; have := HS1.out.2; omega⟩⟩
    case measure => simp [intOf]
   ·have hbs : b0.size = 4096 := HS0.out.1
    obtain ⟨a, hae⟩ : ∃ a, A127 (N 2 / 4) = a := ⟨_, rfl⟩
    have ha : a < 128 := hae ▸ A127_lt _
    go_upto_region 8 with fail
    clear hae hand
    refine zu (S := fun W => W.heap[w.heap.size]? = some (boxQ N) ∧ W.heap[gi]? = some (imgC (.slice (some ⟨gb, 0, none⟩) 3 3) vv (.slice (some ⟨gd, 0, none⟩) 3 3)) ∧ W.heap[gb]? = some (.cells #[.string b0, .string b1, .string B3] 9 (0, 0))) [20, 21] (by kernel_rfl) ⟨H5.out.hx.b0, H5.out.im, H5.out.bk⟩ (fun hHeld => ?_)
    (refine tz 0 ?_)
    (refine tkZ 1 (v := .slice (some ⟨gb, 0, none⟩) 3 3) rfl (by assumption) (fun W hS => zW _ _ rfl _ _ rfl _ _ _ hS.2.1 _ rfl (fun _ => by kernel_rfl)) ?_; (refine pts ?_))
    (refine tz 2 ?_)
    (refine tkZ 3 (v := .int .i64 0) rfl (by assumption) (fun W hS => by clear hS; go_simp; first | done | rfl | (intro h; omega) | (intro h; exact absurd (h (by omega)) (by omega))) ?_; (refine pts ?_))
    (refine tz 4 ?_)
    (refine tz 5 ?_)
    (refine tkZ 6 (v := .string (b0.extract 0 a)) rfl (by assumption) (fun W hS => by clear hS; go_simp; first | done | rfl | (intro h; omega) | (intro h; exact absurd (h (by omega)) (by omega))) ?_; (refine pts ?_))
    (refine tz 7 ?_)
    (refine tkZ 8 (v := .int .i64 (N 3)) rfl (by assumption) (fun W hS => zW _ _ rfl _ _ rfl _ _ _ hS.1 _ rfl (fun _ => by kernel_rfl)) ?_; (refine pts ?_))
    (refine tz 9 ?_)
    (refine tkZ 10 (v := .int .i64 (N 3 / 4)) rfl (by assumption) (fun W hS => by clear hS; go_simp; first | done | rfl | (intro h; omega) | (intro h; exact absurd (h (by omega)) (by omega))) ?_; (refine pts ?_))
    (refine tkZ 11 (v := .int .u8 ((N 3 / 4) % 256)) rfl (by assumption) (fun W hS => by clear hS; go_simp; first | done | rfl | (intro h; omega) | (intro h; exact absurd (h (by omega)) (by omega))) ?_; (refine pts ?_))
    (refine tz 15 ?_)
    (refine tz 16 ?_)
    (refine tkZ 17 (v := .int .i64 ((a + 1 : Nat) : Int)) rfl (by assumption) (fun W hS => by clear hS; go_simp; first | done | rfl | exact IntWalk.i64_in _ (by omega)) ?_; (refine pts ?_))
    (refine tkZ 18 (v := .string (b0.extract (a + 1) b0.size)) rfl (by assumption) (fun W hS => by clear hS; go_simp; first | done | rfl | (intro h; omega) | (intro h; exact absurd (h (by omega)) (by omega))) ?_; (refine pts ?_))
    have HD := zh (H5.out.below (Below.refl _ _).drew)
    obtain ⟨wd, hwd⟩ : ∃ wd, wr.drew = wd := ⟨_, rfl⟩
    rw [hwd] at HD ⊢
    clear hwd
    refine yI 12 rfl (fun K hK => ?_)
    go_simp
    have H6 := zh (HD.out.below ((Below.refl _ _).alloc (zn _) (.cells #[.int .u8 ((N 3 / 4) % 256)] 5)))
    have HG := zh (heap_alloc_new wd (.cells #[.int .u8 ((N 3 / 4) % 256)] 5))
    refine hK.out _ _ (.inr ⟨H6.out.hx.b0, H6.out.im, H6.out.bk⟩) ?_
    (refine pts ?_)
    clear hK K hHeld HD
    refine yI 13 rfl (fun K hK => ?_)
    have hcv := conv_one HG.out
    go_simp
    refine hK.out _ _ (.inr ⟨H6.out.hx.b0, H6.out.im, H6.out.bk⟩) ?_
    (refine pts ?_)
    clear hK K hcv
    have hHeld := And.intro H6.out.hx.b0 (And.intro H6.out.im H6.out.bk)
    have hts : (strOfNums [(N 3 / 4) % 256]).size = 1 := by rw [strOfNums_size]; rfl
    generalize strOfNums [(N 3 / 4) % 256] = t at *
    (refine tkZ 14 (v := .string (b0.extract 0 a ++ t)) rfl (by assumption) (fun W hS => by clear hS; go_simp; first | done | rfl | omega) ?_; (refine pts ?_))
    (refine tkZ 19 (v := .string (b0.extract 0 a ++ t ++ b0.extract (a + 1) b0.size)) rfl (by assumption) (fun W hS => by clear hS; go_simp; first | done | rfl | omega) ?_; (refine pts ?_))
    refine ys 20 ?_
    simp only [List.drop_succ_cons, List.drop_zero]
    have hpa := patch_one b0 t a (a + 1) hbs (by omega) (by rw [hts])
    rw [hts] at hpa
    have HPA := zh hpa
    clear hpa hts
    generalize b0.extract 0 a ++ t ++ b0.extract (a + 1) b0.size = F at *
    have hfb := fun o => frozen_of_row _ gb o _ _ H6.out.bk
    have hcb := fun o => cell_of_row _ gb o _ _ _ H6.out.bk
    go_wp2_with fail
    go_roundw
    case rel => exact ⟨3, _, _, by have := HLT.out; omega, by go_num, zh H6.out.put0, zh ⟨HPA.out.1, by have := HPA.out.2; have := HS0.out.2; omega⟩, zh ⟨HS1.out.1, by have := HS1.out.2; omega⟩⟩
    case measure => simp [intOf]
  ·have hci := fun o => cell_of_row wr gi o _ _ _ H5.out.im
   have hmX : (m : Int) ≤ 3 := by have := HA3.out.2; omega
   have HM := zh (show m ≤ 3 by omega)
   clear hm hmX
   go_upto_if 68 with fail
   clear hc hci
   go_cut [] (fun wx => ∃ c0 c1 : ByteArray, Hid (L5W w N gb gi gd c0 c1 B3 vv X wx) ∧ Hid (c0.size = 4096 ∧ nzB c0 ≤ 320) ∧ Hid (c1.size = 4096 ∧ nzB c1 ≤ 310))
   case first =>
    by_cases hq : bits .and .i64 (N 0) 6 = 6
    ·have e1 : (bits .and .i64 (N 0) 6 == 6) = true := by simp [hq]
     clear hq
     go_upto_region 10 with fail
     refine zu (S := fun W => W.heap[gi]? = some (imgC (.slice (some ⟨gb, 0, none⟩) 3 3) vv (.slice (some ⟨gd, 0, none⟩) 3 3)) ∧ W.heap[gb]? = some (.cells #[.string b0, .string b1, .string B3] 9 (0, 0))) [8, 9] (by kernel_rfl) ⟨H5.out.im, H5.out.bk⟩ (fun hHeld => ?_)
     have HD := zh (H5.out.below (Below.refl _ _).drew)
     obtain ⟨wd, hwd⟩ : ∃ wd, wr.drew = wd := ⟨_, rfl⟩
     rw [hwd] at HD hHeld ⊢
     clear hwd
     have hz1 := HS1.out.1
     (refine tz 0 ?_)
     (refine tkZ 1 (v := .slice (some ⟨gb, 0, none⟩) 3 3) rfl (by assumption) (fun W hS => zW _ _ rfl _ _ rfl _ _ _ hS.1 _ rfl (fun _ => by kernel_rfl)) ?_; (refine pts ?_))
     (refine tz 2 ?_)
     (refine tkZ 3 (v := .slice (some ⟨gb, 0, none⟩) 3 3) rfl (by assumption) (fun W hS => zW _ _ rfl _ _ rfl _ _ _ hS.1 _ rfl (fun _ => by kernel_rfl)) ?_; (refine pts ?_))
     (refine tz 4 ?_)
     (refine tkZ 5 (v := .string b1) rfl (by assumption) (fun W hS => zW _ _ rfl _ _ rfl _ _ _ hS.2 _ rfl (fun _ => by kernel_rfl)) ?_; (refine pts ?_))
     (refine tkZ 6 (v := .string (b1.extract 0 4090)) rfl (by assumption) (fun W hS => by clear hS; go_simp; first | done | rfl) ?_; (refine pts ?_))
     (refine tkZ 7 (v := .string (b1.extract 0 4090 ++ ⟨#[128, 2, 48, 1, 2, 48]⟩)) rfl (by assumption) (fun W hS => by clear hS; go_simp; first | done | rfl | omega) ?_; (refine pts ?_))
     refine ys 8 ?_
     simp only [List.drop_succ_cons, List.drop_zero]
     have HPA := zh (patch_end b1 ⟨#[128, 2, 48, 1, 2, 48]⟩ 4090 hz1 rfl)
     clear hz1 hHeld
     generalize b1.extract 0 4090 ++ ⟨#[128, 2, 48, 1, 2, 48]⟩ = F at *
     have hfb := fun o => frozen_of_row _ gb o _ _ HD.out.bk
     have hcb := fun o => cell_of_row _ gb o _ _ _ HD.out.bk
     go_upto_region 11 with fail
     clear hfb hcb
     have H6 := zh (HD.out.put1 (s := F))
     obtain ⟨we, hwe⟩ : ∃ we, wd.setCell ⟨gb, 1, none⟩ (.string F) = we := ⟨_, rfl⟩
     rw [hwe] at H6 ⊢
     clear hwe HD H5
     refine zu (S := fun W => W.heap[gi]? = some (imgC (.slice (some ⟨gb, 0, none⟩) 3 3) vv (.slice (some ⟨gd, 0, none⟩) 3 3)) ∧ W.heap[gb]? = some (.cells #[.string b0, .string F, .string B3] 9 (0, 0))) [8, 9] (by kernel_rfl) ⟨H6.out.im, H6.out.bk⟩ (fun hHeld => ?_)
     have HD := zh (H6.out.below (Below.refl _ _).drew)
     obtain ⟨wd, hwd⟩ : ∃ wd, we.drew = wd := ⟨_, rfl⟩
     rw [hwd] at HD hHeld ⊢
     clear hwd
     have hz0 := HS0.out.1
     (refine tz 0 ?_)
     (refine tkZ 1 (v := .slice (some ⟨gb, 0, none⟩) 3 3) rfl (by assumption) (fun W hS => zW _ _ rfl _ _ rfl _ _ _ hS.1 _ rfl (fun _ => by kernel_rfl)) ?_; (refine pts ?_))
     (refine tz 2 ?_)
     (refine tkZ 3 (v := .slice (some ⟨gb, 0, none⟩) 3 3) rfl (by assumption) (fun W hS => zW _ _ rfl _ _ rfl _ _ _ hS.1 _ rfl (fun _ => by kernel_rfl)) ?_; (refine pts ?_))
     (refine tz 4 ?_)
     (refine tkZ 5 (v := .string b0) rfl (by assumption) (fun W hS => zW _ _ rfl _ _ rfl _ _ _ hS.2 _ rfl (fun _ => by kernel_rfl)) ?_; (refine pts ?_))
     (refine tkZ 6 (v := .string (b0.extract 4 b0.size)) rfl (by assumption) (fun W hS => by clear hS; go_simp; first | done | rfl) ?_; (refine pts ?_))
     (refine tkZ 7 (v := .string (⟨#[131, 1, 250, 31]⟩ ++ b0.extract 4 b0.size)) rfl (by assumption) (fun W hS => by clear hS; go_simp; first | done | rfl | omega) ?_; (refine pts ?_))
     refine ys 8 ?_
     simp only [List.drop_succ_cons, List.drop_zero]
     have hp2 : (⟨#[131, 1, 250, 31]⟩ ++ b0.extract 4 b0.size : ByteArray).size = 4096 ∧ nzB (⟨#[131, 1, 250, 31]⟩ ++ b0.extract 4 b0.size) ≤ nzB b0 + 4 := patch_start b0 ⟨#[131, 1, 250, 31]⟩ hz0 (by decide)
     have HP2 := zh hp2
     clear hz0 hHeld hp2
     generalize ⟨#[131, 1, 250, 31]⟩ ++ b0.extract 4 b0.size = G at *
     have hfb := fun o => frozen_of_row _ gb o _ _ HD.out.bk
     have hcb := fun o => cell_of_row _ gb o _ _ _ HD.out.bk
     go_wp2_with fail
     go_meet
     exact ⟨G, F, zh HD.out.put0, zh ⟨HP2.out.1, by have := HP2.out.2; have := HS0.out.2; have := HM.out; omega⟩, zh ⟨HPA.out.1, by have h1 := HPA.out.2; have := HS1.out.2; have := HM.out; have h2 : (⟨#[128, 2, 48, 1, 2, 48]⟩ : ByteArray).size = 6 := rfl; rw [h2] at h1; omega⟩⟩
    ·have e1 : (bits .and .i64 (N 0) 6 == 6) = false := by simp [hq]
     clear hq
     go_wp2_with fail
     go_meet
     exact ⟨b0, b1, H5, zh ⟨HS0.out.1, by have := HS0.out.2; have := HM.out; omega⟩, zh ⟨HS1.out.1, by have := HS1.out.2; have := HM.out; omega⟩⟩
   case rest =>
    clear H5 HS0 HS1
    obtain ⟨c0, c1, H5, HS0, HS1⟩ := hcut
    go_wp2_with (first
     | (refine ldT 31 (H5.out.im) ?_)
     | (refine stR (H5.out.hx.b1) ?_))
    have hgd : gd ≠ w.heap.size + 1 := fun e => by have h1 := H5.out.dt; rw [e, H5.out.hx.b1] at h1; injection h1 with h1; injection h1 with h1 h2; exact absurd h2 (by decide)
    refine bodyPost_ret (results_cell_row (cs := #[.slice (some ⟨gb, 0, none⟩) 3 3, .int .u16 0, .int .u16 vv, .slice (some ⟨gd, 0, none⟩) 3 3, .slice none 0 0]) (fr := (0, 0)) Tryz.results37 _ _ (w.heap.size + 1) 31 _ ?_ (setRow_heap _ _ _ _ _ _ H5.out.hx.b1) Tryz.underlying31 rfl (by kernel_rfl)) rfl ?_
    ·rfl
    ·refine ⟨⟨imgL c0 c1 B3 vv X, gb, gd, ⟨laidI_mk HS0.out HS1.out HB3.out HVV.out HXX.out, by have := H5.out.lg; omega, HGD.out⟩, rfl, rfl, ⟨zn _, rfl, fun _ => ⟨gb, 0, _, _, _, rfl, (setRow_other _ _ _ _ (by have := H5.out.lg; omega)).trans H5.out.bk, fun j hj => ?_⟩⟩, ⟨zn _, rfl, fun _ => ⟨gd, 0, _, _, _, rfl, (setRow_other _ _ _ _ hgd).trans H5.out.dt, fun j hj => ?_⟩⟩⟩, below_setRow H5.out.hx.bb (by omega) _⟩
     ·rw [Nat.zero_add]; exact (Array.getElem?_toList ..).symm
     ·rw [Nat.zero_add]; exact (Array.getElem?_toList ..).symm
end Go.Proofs.YteofmaiojepdkaaGreat
