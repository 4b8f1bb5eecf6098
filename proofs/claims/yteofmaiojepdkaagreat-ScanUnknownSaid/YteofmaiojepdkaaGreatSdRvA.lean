/- Chapter 05 in plain Lean: routines and listings that are given, and the law's examples. No condition. -/
import Derived.Test.YteofmaiojepdkaaGreatSdRmG
set_option linter.all false
namespace Go.Proofs.YteofmaiojepdkaaGreat
open Go Go.RowKit Go.Maps Go.Sort
structure RtD (I : zp) (r : yN) (c l s : Value) (w : World) : Prop where
 oc : ∃ A n, c = .slice A r.code.length n ∧ RdS w 9 A r.code.length n (itmsL I r.code) ∧ r.code.length ≤ 9223372036854775807
 ol : ∃ A n, l = .slice A r.calls.length n ∧ RdS w 2 A r.calls.length n (zt r.calls) ∧ r.calls.length ≤ 9223372036854775807
 oi : ∃ A n, s = .slice A r.iss.length n ∧ RdS w 3 A r.iss.length n (xl r.iss) ∧ r.iss.length ≤ 9223372036854775807
theorem RtD.below {I : zp} {r : yN} {c l s : Value} {w w' : World} (h : RtD I r c l s w) (hb : Below w.heap.size w w') : RtD I r c l s w' := by
 obtain ⟨⟨A1, n1, e1, r1, l1⟩, ⟨A2, n2, e2, r2, l2⟩, ⟨A3, n3, e3, r3, l3⟩⟩ := h
 exact ⟨⟨A1, n1, e1, r1.below hb, l1⟩, ⟨A2, n2, e2, r2.below hb, l2⟩, ⟨A3, n3, e3, r3.below hb, l3⟩⟩
theorem own_read {w : World} {B s n : Nat} {T : TypeId} {v : Value} {xs : List Value} (h : w.ownsRow B T s v n xs) : ∃ A c, v = .slice A n c ∧ RdS w s A n c xs ∧ n ≤ 9223372036854775807 := by
 obtain ⟨A, c, rfl, -⟩ := zL h
 exact ⟨A, c, rfl, xi h, own_max h⟩
theorem RtV.read {I : zp} {B : Nat} {r : yN} {c l s : Value} {w : World} (h : RtV I B r c l s w) : RtD I r c l s w := ⟨own_read h.oc, own_read h.ol, own_read h.oi⟩
structure RnsD (I : zp) (R : List RtR) (A : Option Addr) (cap : Nat) (w : World) : Prop where
 rd : RdS w 8 A R.length cap (R.flatMap rtvL)
 le : R.length ≤ 9223372036854775807
 rt : ∀ x ∈ R, RtD I x.1 x.2.1 x.2.2.1 x.2.2.2 w
theorem RnsD.below {I : zp} {R : List RtR} {A : Option Addr} {cap : Nat} {w w' : World} (h : RnsD I R A cap w) (hb : Below w.heap.size w w') : RnsD I R A cap w' := ⟨h.rd.below hb, h.le, fun x hx => (h.rt x hx).below hb⟩
structure ClsD (n : Nat) (c : Nat → Nat → Int) (A : Option Addr) (cap : Nat) (w : World) : Prop where
 le : n ≤ 9223372036854775807
 rd : ∃ gs : List Nat, gs.length = n ∧ RdS w 1 A n cap (gs.map clV) ∧ ∀ b g : Nat, gs[b]? = some g → ∃ fr : Nat × Nat, w.heap[g]? = some (.cells (rowC (c b)) 5 fr)
theorem ClsD.below {n : Nat} {c : Nat → Nat → Int} {A : Option Addr} {cap : Nat} {w w' : World} (h : ClsD n c A cap w) (hb : Below w.heap.size w w') : ClsD n c A cap w' := by
 obtain ⟨gs, h1, h2, h3⟩ := h.rd
 exact ⟨h.le, gs, h1, h2.below hb, fun b g hg => by obtain ⟨fr, h4⟩ := h3 b g hg; exact ⟨fr, za hb h4⟩⟩
structure LstD (I : zp) (nb : Nat) (c : Nat → Nat → Int) (rs : List yN) (iss : List yi) (vc vr vi : Value) (w : World) : Prop where
 cls : ∃ A cap, vc = .slice A nb cap ∧ ClsD nb c A cap w
 rts : ∃ R A cap, vr = .slice A R.length cap ∧ RnsD I R A cap w ∧ R.map (·.1) = rs
 iss : ∃ A cap, vi = .slice A iss.length cap ∧ RdS w 3 A iss.length cap (xl iss) ∧ iss.length ≤ 9223372036854775807
theorem LstD.below {I : zp} {nb : Nat} {c : Nat → Nat → Int} {rs : List yN} {iss : List yi} {vc vr vi : Value} {w w' : World} (h : LstD I nb c rs iss vc vr vi w) (hb : Below w.heap.size w w') : LstD I nb c rs iss vc vr vi w' := by
 obtain ⟨⟨A1, n1, e1, r1⟩, ⟨R, A2, n2, e2, r2, l2⟩, ⟨A3, n3, e3, r3, l3⟩⟩ := h
 exact ⟨⟨A1, n1, e1, r1.below hb⟩, ⟨R, A2, n2, e2, r2.below hb, l2⟩, ⟨A3, n3, e3, r3.below hb, l3⟩⟩
theorem LstV.read {I : zp} (hI : I.Ok) {B : Nat} {L : LstS} {vc vr vi : Value} {w : World} (h : LstV I B L vc vr vi w) : ∃ c, L.cls = clsL I c ∧ LstD I I.banks.length c L.rts L.iss vc vr vi w := by
 obtain ⟨gs, c, h1, h2, h3⟩ := h.cls
 obtain ⟨R, h4, h5⟩ := h.rts
 refine ⟨c, h3, ?_, ?_, own_read h.iss⟩
 ·obtain ⟨A, cap, e, hr, hl⟩ := own_read h2.own
  rw [h1] at e hr
  exact ⟨A, cap, e, by have := hI.n64; omega, gs, h1, hr, fun b g hg => ⟨_, h2.row b g hg⟩⟩
 ·obtain ⟨A, cap, e, hr, hl⟩ := own_read h4.own
  exact ⟨R, A, cap, e, ⟨hr, hl, fun x hx => (h4.rv x hx).read⟩, h5.symm⟩
end Go.Proofs.YteofmaiojepdkaaGreat
namespace Go.Proofs.YteofmaiojepdkaaGreat
open Go Go.RowKit Go.Maps Go.Sort
theorem img_other {w : World} {I : zp} {gb gd bc dc k : Nat} {cs : Array Value} (h : yw w I (some ⟨gb, 0, none⟩) bc (some ⟨gd, 0, none⟩) dc) (h1 : gb ≠ k) (h2 : gd ≠ k) : yw (w.setRow k cs) I (some ⟨gb, 0, none⟩) bc (some ⟨gd, 0, none⟩) dc := by
 have key : ∀ {s g n c : Nat} {xs : List Value}, g ≠ k → RdS w s (some ⟨g, 0, none⟩) n c xs → RdS (w.setRow k cs) s (some ⟨g, 0, none⟩) n c xs := fun hg hr => ⟨hr.le, hr.len, fun h0 => by
  obtain ⟨g', o, cur, T, fr, e, h3, h4⟩ := hr.at_ h0
  injection e with e
  injection e with e1 e2
  subst e1 e2
  exact ⟨_, _, cur, T, fr, rfl, (setRow_other _ _ _ _ hg).trans h3, h4⟩⟩
 exact ⟨key h1 h.bk, key h2 h.dt⟩
set_option maxRecDepth 100000 in
set_option maxHeartbeats 4000000 in
theorem laid_any (p : Option Addr) (n cap : Nat) (Q : Nat → Nat → Int) (hn : n ≤ 9223372036854775807) (N : Nat → Int) (w : World) (hQ : FivV w (.slice p n cap) n Q) :
  Calls Tryz.prog 15 #[.slice p n cap, .agg #[.int .i64 (N 0), .int .i64 (N 1), .int .i64 (N 2), .int .i64 (N 3)]] w (L5P w) := by
 have HX := zh (Bx.two w (boxQ N) (imgC (.slice none 0 0) 0 (.slice none 0 0)))
 have hcap : n ≤ cap := by obtain ⟨_, _, e, h, -⟩ := hQ; injection e with _ _ e; omega
 obtain ⟨m, hm⟩ : ∃ m, min n 60 = m := ⟨_, rfl⟩
 have hmn : m ≤ n := by omega
 have HFV := zh hQ
 have HL5 := zh (fun p' (hp : 0 < n → p' = p) W (hb : Below w.heap.size w W) => laid5_any p' m cap Q (by omega) N W (by
  by_cases h0 : 0 < n
  ·rw [hp h0]; exact (hQ.below hb).cut hmn
  ·exact ⟨p', cap, rfl, by omega, fun h => by omega⟩))
 have hmin : min (n : Int) 60 = (m : Int) := by omega
 have hmc : m ≤ cap := by omega
 have hpp : 0 < n → ∃ g off, p = some ⟨g, off, none⟩ := fun h0 => by
  obtain ⟨p', c', e, -, h⟩ := hQ
  injection e with e1 _ _
  subst e1
  obtain ⟨g, off, -, -, -, e, -⟩ := h h0
  exact ⟨g, off, e⟩
 clear hQ hm
 go_enter Tryz.func15, Tryz.ntmps15
 go_upto_region 1 with fail
 obtain ⟨wi, hwi⟩ : ∃ wi, (w.alloc (boxQ N)).alloc (imgC (.slice none 0 0) 0 (.slice none 0 0)) = wi := ⟨_, rfl⟩
 rw [hwi] at HX ⊢
 clear hwi
 by_cases h0 : 0 < n
 ·obtain ⟨g, off, rfl⟩ := hpp h0
  refine zm (S := fun W => W.heap[w.heap.size]? = some (boxQ N)) [7] (by kernel_rfl) HX.out.b0 (fun hHeld => ?_)
  (refine tkZ 0 (v := ?_) rfl (by assumption) ?_ ?_; rotate_left; (focus (intro w hSw; (try dsimp only at hSw); go_simp; try with_reducible rfl)); (try simp only [zA, zB, zC, Act.put, zD, zE, zF]))
  (refine tkZ 1 (v := ?_) rfl (by assumption) ?_ ?_; rotate_left; (focus (intro w hSw; (try dsimp only at hSw); go_simp; try with_reducible rfl)); (try simp only [zA, zB, zC, Act.put, zD, zE, zF]))
  (refine tkZ 2 (v := ?_) rfl (by assumption) ?_ ?_; rotate_left; (focus (intro w hSw; (try dsimp only at hSw); go_simp; try with_reducible rfl)); (try simp only [zA, zB, zC, Act.put, zD, zE, zF]))
  (refine tkZ 3 (v := .int .i64 m) rfl (by assumption) (fun W hS => by clear hS; go_simp; first | done | rfl) ?_; (try simp only [zA, zB, zC, Act.put, zD, zE, zF]))
  (refine tkZ 4 (v := .slice (some ⟨g, off, none⟩) m cap) rfl (by assumption) (fun W hS => by clear hS; go_simp; first | done | rfl) ?_; (try simp only [zA, zB, zC, Act.put, zD, zE, zF]))
  (refine tkZ 5 (v := .agg #[.int .i64 (N 0), .int .i64 (N 1), .int .i64 (N 2), .int .i64 (N 3)]) rfl (by assumption) (fun W hS => zW _ _ rfl _ rfl _ _ _ hS (by kernel_rfl)) ?_; (try simp only [zA, zB, zC, Act.put, zD, zE, zF]))
  have HD := zh (HX.out.stay (Below.refl _ _).drew)
  refine yk 6 rfl (fun K hK => ?_)
  go_simp
  go_at_call 37
  (with_reducible refine (HL5.out _ (fun _ => rfl) _ HD.out.bb).mono ?_)
  rintro e1 w1 ⟨⟨I, gb, gd, ⟨hI, hlb, hld⟩, hI3, rfl, hV⟩, hb1⟩
  have HI := zh (And.intro hI (And.intro hI3 hV))
  clear hI3 hI hV
  go_simp
  have HD1 := zh (HD.out.stay hb1)
  have hz := HD.out.z
  simp only [List.length_cons, List.length_nil] at hz
  have HGB := zh (show w.heap.size + 2 ≤ gb ∧ w.heap.size + 2 ≤ gd from ⟨Nat.le_trans hz hlb, Nat.le_trans hz hld⟩)
  refine hK.out _ _ (.inr HD1.out.b0) ?_
  (try simp only [zA, zB, zC, Act.put, zD, zE, zF])
  clear hK K hHeld hb1 hz hlb hld
  refine ya 7 ?_
  simp only [List.drop_succ_cons, List.drop_zero]
  go_wp2_with (first | (refine wpList_store_row rfl _ _ _ rfl _ _ rfl rfl _ _ (HD1.out.b1) ?_ ?_ ?_ ?_; kernel_rfl; rfl; kernel_rfl))
  refine bodyPost_ret (results_cell_row (cs := #[.slice (some ⟨gb, 0, none⟩) I.banks.length 3, .int .u16 I.entry, .int .u16 I.vector, .slice (some ⟨gd, 0, none⟩) I.data.length 3, .slice none 0 0]) (fr := (0, 0)) Tryz.results15 _ _ (w.heap.size + 1) 31 _ ?_ (setRow_heap _ _ _ _ _ _ HD1.out.b1) Tryz.underlying31 rfl (by kernel_rfl)) rfl ?_
  ·rfl
  ·exact ⟨⟨I, gb, gd, ⟨HI.out.1, by have := HGB.out.1; omega, by have := HGB.out.2; omega⟩, HI.out.2.1, rfl, img_other HI.out.2.2 (by have := HGB.out.1; omega) (by have := HGB.out.2; omega)⟩, below_setRow HD1.out.bb (by omega) _⟩
 ·obtain rfl : n = 0 := by omega
  obtain rfl : m = 0 := by omega
  refine zm (S := fun W => W.heap[w.heap.size]? = some (boxQ N)) [7] (by kernel_rfl) HX.out.b0 (fun hHeld => ?_)
  (refine tkZ 0 (v := ?_) rfl (by assumption) ?_ ?_; rotate_left; (focus (intro w hSw; (try dsimp only at hSw); go_simp; try with_reducible rfl)); (try simp only [zA, zB, zC, Act.put, zD, zE, zF]))
  (refine tkZ 1 (v := ?_) rfl (by assumption) ?_ ?_; rotate_left; (focus (intro w hSw; (try dsimp only at hSw); go_simp; try with_reducible rfl)); (try simp only [zA, zB, zC, Act.put, zD, zE, zF]))
  (refine tkZ 2 (v := ?_) rfl (by assumption) ?_ ?_; rotate_left; (focus (intro w hSw; (try dsimp only at hSw); go_simp; try with_reducible rfl)); (try simp only [zA, zB, zC, Act.put, zD, zE, zF]))
  (refine tkZ 3 (v := .int .i64 0) rfl (by assumption) (fun W hS => by clear hS; go_simp; first | done | rfl) ?_; (try simp only [zA, zB, zC, Act.put, zD, zE, zF]))
  obtain ⟨p', hp'⟩ : ∃ p', (if cap = 0 then p else p.map fun a => a.add 0) = p' := ⟨_, rfl⟩
  (refine tkZ 4 (v := .slice p' 0 cap) rfl (by assumption) (fun W hS => by clear hS; rw [← hp']; go_simp; first | done | rfl) ?_; (try simp only [zA, zB, zC, Act.put, zD, zE, zF]))
  clear hp'
  (refine tkZ 5 (v := .agg #[.int .i64 (N 0), .int .i64 (N 1), .int .i64 (N 2), .int .i64 (N 3)]) rfl (by assumption) (fun W hS => zW _ _ rfl _ rfl _ _ _ hS (by kernel_rfl)) ?_; (try simp only [zA, zB, zC, Act.put, zD, zE, zF]))
  have HD := zh (HX.out.stay (Below.refl _ _).drew)
  refine yk 6 rfl (fun K hK => ?_)
  go_simp
  go_at_call 37
  (with_reducible refine (HL5.out _ (fun h => absurd h (by omega)) _ HD.out.bb).mono ?_)
  rintro e1 w1 ⟨⟨I, gb, gd, ⟨hI, hlb, hld⟩, hI3, rfl, hV⟩, hb1⟩
  have HI := zh (And.intro hI (And.intro hI3 hV))
  clear hI3 hI hV
  go_simp
  have HD1 := zh (HD.out.stay hb1)
  have hz := HD.out.z
  simp only [List.length_cons, List.length_nil] at hz
  have HGB := zh (show w.heap.size + 2 ≤ gb ∧ w.heap.size + 2 ≤ gd from ⟨Nat.le_trans hz hlb, Nat.le_trans hz hld⟩)
  refine hK.out _ _ (.inr HD1.out.b0) ?_
  (try simp only [zA, zB, zC, Act.put, zD, zE, zF])
  clear hK K hHeld hb1 hz hlb hld
  refine ya 7 ?_
  simp only [List.drop_succ_cons, List.drop_zero]
  go_wp2_with (first | (refine wpList_store_row rfl _ _ _ rfl _ _ rfl rfl _ _ (HD1.out.b1) ?_ ?_ ?_ ?_; kernel_rfl; rfl; kernel_rfl))
  refine bodyPost_ret (results_cell_row (cs := #[.slice (some ⟨gb, 0, none⟩) I.banks.length 3, .int .u16 I.entry, .int .u16 I.vector, .slice (some ⟨gd, 0, none⟩) I.data.length 3, .slice none 0 0]) (fr := (0, 0)) Tryz.results15 _ _ (w.heap.size + 1) 31 _ ?_ (setRow_heap _ _ _ _ _ _ HD1.out.b1) Tryz.underlying31 rfl (by kernel_rfl)) rfl ?_
  ·rfl
  ·exact ⟨⟨I, gb, gd, ⟨HI.out.1, by have := HGB.out.1; omega, by have := HGB.out.2; omega⟩, HI.out.2.1, rfl, img_other HI.out.2.2 (by have := HGB.out.1; omega) (by have := HGB.out.2; omega)⟩, below_setRow HD1.out.bb (by omega) _⟩
end Go.Proofs.YteofmaiojepdkaaGreat
namespace Go.Proofs.YteofmaiojepdkaaGreat
open Go.ChangeShapes Go.WideShapes Go.ChangeAt Go.RowKit Go.Deep
set_option maxRecDepth 100000
theorem arr4 {cs : Array Value} (h : cs.size = 4) : ∃ a b c d, cs = #[a, b, c, d] := by
 obtain ⟨l⟩ := cs
 match l, h with
 | [a, b, c, d], _ => exact ⟨a, b, c, d, rfl⟩
theorem five_of {w : World} {p : Option Addr} {len b off : Nat} {Q : Nat → Nat → Int} (hp : 0 < len → p = some ⟨b, off, none⟩ ∧ b < w.heap.size) (hQ : ∀ i, i < len → ∀ j, j < 5 → w.cell? ⟨b, off + i * 5 + j, none⟩ = some (.int .i64 (Q i j)) ∧ yX (Q i j)) :
  ∃ Q' : Nat → Nat → Int, (∀ i j, yX (Q' i j)) ∧ ∀ cap, len ≤ cap → FivV w (.slice p len cap) len Q' := by
 obtain ⟨Q', hQ'⟩ : ∃ Q' : Nat → Nat → Int, ∀ i j, Q' i j = if i < len ∧ j < 5 then Q i j else 0 := ⟨fun i j => if i < len ∧ j < 5 then Q i j else 0, fun _ _ => rfl⟩
 refine ⟨Q', fun i j => ?_, fun cap hc => ⟨p, cap, rfl, hc, fun h0 => ?_⟩⟩
 ·rw [hQ']
  split
  ·rename_i h; exact (hQ i h.1 j h.2).2
  ·exact ⟨by decide, by decide⟩
 ·obtain ⟨c, t, fr, hg, -⟩ := cell_block (hQ 0 h0 0 (by omega)).1
  refine ⟨b, off, c, t, fr, (hp h0).1, hg, fun i hi => ?_⟩
  have hc : ∀ j, j < 5 → c[off + i * 5 + j]? = some (.int .i64 (Q i j)) := fun j hj => by
   have := (hQ i hi j hj).1
   rwa [cell_of_row _ _ _ _ _ _ hg] at this
  have e : ∀ j, j < 5 → Q' i j = Q i j := fun j hj => by rw [hQ']; exact if_pos ⟨hi, hj⟩
  rw [e 0 (by omega), e 1 (by omega), e 2 (by omega), e 3 (by omega), e 4 (by omega)]
  refine ext_at (L := [.int .i64 (Q i 0), .int .i64 (Q i 1), .int .i64 (Q i 2), .int .i64 (Q i 3), .int .i64 (Q i 4)]) fun j hj => ?_
  have hj' : j < 5 := hj
  rw [hc j hj']
  rcases (show j = 0 ∨ j = 1 ∨ j = 2 ∨ j = 3 ∨ j = 4 by omega) with rfl | rfl | rfl | rfl | rfl <;> rfl
section
variable {w : World} {r : Reach} {base : Nat} {v : Value}
theorem arg_c4N (h : Value.okWide Tryz.prog w r base 23 v) : ∃ N : Nat → Int, (∀ k, yX (N k)) ∧ v = .agg #[.int .i64 (N 0), .int .i64 (N 1), .int .i64 (N 2), .int .i64 (N 3)] := by
 obtain ⟨cs, rfl, hsz, hall⟩ := value_flat (ts := [3, 3, 3, 3]) (by kernel_rfl) (by kernel_rfl) (by kernel_rfl) h
 obtain ⟨a, b, c, d, rfl⟩ := arr4 hsz
 obtain ⟨a, rfl, ha⟩ := cell_int Tryz.underlying3 (hall 0 _ _ rfl rfl)
 obtain ⟨b, rfl, hb⟩ := cell_int Tryz.underlying3 (hall 1 _ _ rfl rfl)
 obtain ⟨c, rfl, hc⟩ := cell_int Tryz.underlying3 (hall 2 _ _ rfl rfl)
 obtain ⟨d, rfl, hd⟩ := cell_int Tryz.underlying3 (hall 3 _ _ rfl rfl)
 refine ⟨fun k => match k with | 0 => a | 1 => b | 2 => c | 3 => d | _ => 0, fun k => ?_, rfl⟩
 match k with
 | 0 => exact has_i64 ha
 | 1 => exact has_i64 hb
 | 2 => exact has_i64 hc
 | 3 => exact has_i64 hd
 | _ + 4 => exact ⟨show (-9223372036854775808 : Int) ≤ 0 by decide, show (0 : Int) ≤ 9223372036854775807 by decide⟩
end
end Go.Proofs.YteofmaiojepdkaaGreat
namespace Go.Proofs.YteofmaiojepdkaaGreat
open Go
theorem ye.allOk {I : zp} {e : zc} {D C L : List zc} (h : RtI I e D []) (ht : ¬ yc I e) (hok : ∀ p ∈ D, okI I p) (hi : ∀ p ∈ D, (fl I p).iss = []) (sc : C.Pairwise yl) (hC : ∀ p, p ∈ C ↔ p ∈ D) (sl : L.Pairwise yl) (hL : ∀ q, q ∈ L ↔ ∃ p, p ∈ D ∧ q ∈ (fl I p).cl) : ye I e ⟨e, false, ⟨0, 0⟩, C, L, []⟩ :=
 ye.ofDone ht h.done sc sl .nil (fun p => by rw [hC]; exact ⟨fun hp => ⟨hp, hok p hp⟩, fun hp => hp.1⟩)
  (fun q => by rw [hL]; exact ⟨fun ⟨p, h1, h2⟩ => ⟨p, h1, hok p h1, h2⟩, fun ⟨p, h1, _, h2⟩ => ⟨p, h1, h2⟩⟩)
  (fun x => ⟨fun hx => by simp at hx, fun ⟨h1, h2⟩ => by
   rcases h2 with ⟨h2, -⟩ | ⟨-, h2⟩
   ·exact absurd (hok _ h1) h2
   ·rw [hi _ h1] at h2; cases h2⟩)
theorem yT.given {I : zp} {more : List zc} {R : List yN} (hs : (R.map (·.entry)).Pairwise yl) (hn : R.length ≤ 2000) (hr : ∀ r ∈ R, ye I r.entry r)
  (h0 : (⟨0, I.entry⟩ : zc) ∈ R.map (·.entry)) (hv : I.vector ≠ 0 → (⟨0, I.vector⟩ : zc) ∈ R.map (·.entry)) (hm : ∀ p ∈ more, p ∈ R.map (·.entry)) (hc : ∀ r ∈ R, ∀ q ∈ r.calls, q ∈ R.map (·.entry))
  (ht : ∀ r ∈ R, r.thunk = true → r.dest ∈ R.map (·.entry)) (he : ∀ p ∈ R.map (·.entry), Ent I more p) : yT I more (some R) :=
 (⟨h0, hv, hm, he, hr, sorted_nodup yl.irr hs, fun r hr => List.mem_map.2 ⟨r, hr, rfl⟩, hc, ht⟩ : EntI I more (R.map (·.entry)) R).rtns (fun p hp => hp) hn hs (fun r => Iff.rfl)
theorem clsL_eq {I : zp} {c c' : Nat → Nat → Int} (h : clsL I c = clsL I c') {b o : Nat} (hb : b < I.banks.length) (ho : o < 4096) : c b o = c' b o := by
 have h1 := congrArg (fun l => (l[b]?).map fun r : List Int => r[o]?) h
 unfold clsL at h1
 simp only [List.getElem?_map, List.getElem?_range hb, Option.map_some, List.getElem?_range ho, Option.some.injEq] at h1
 exact h1
theorem oneI_ok (s : ByteArray) : (yv s).Ok := by
 refine ⟨zn 1, show 1 ≤ 64 by decide, fun t ht => ?_, show (0 : Int) ≤ 0 ∧ (0 : Int) < 65536 by decide, show (0 : Int) ≤ 0 ∧ (0 : Int) < 65536 by decide, fun o ho => ?_, Nat.zero_le _⟩
 ·rw [List.mem_singleton.1 ht]; exact filB_size _
 ·cases ho
theorem oneI_at (s : ByteArray) (o : Nat) (ho : o < 4096) : atI (yv s) ⟨0, o⟩ = atF (pageF 0 s) o := by
 have h : zJ ⟨0, o⟩ = o := by unfold zJ; dsimp only; omega
 rw [at_fil (f := pageF 0 s) rfl (by unfold inI yd yv; simp; omega) (pageF_bd 0 s), h]
def exA : ByteArray := ⟨#[96, 1, 2, 48, 0, 7, 2]⟩
theorem aA0 : atI (yv exA) ⟨0, 0⟩ = (⟨96, 0, 0, 1, 0, 0, 2⟩, 0) := (oneI_at exA 0 (by decide)).trans (by decide +kernel)
theorem aA2 : atI (yv exA) ⟨0, 2⟩ = (⟨2, 0, 0, 0, 0, 0, 1⟩, 0) := (oneI_at exA 2 (by decide)).trans (by decide +kernel)
theorem aA3 : atI (yv exA) ⟨0, 3⟩ = (⟨48, 0, 0, 7, 0, 0, 3⟩, 0) := (oneI_at exA 3 (by decide)).trans (by decide +kernel)
theorem aA6 : atI (yv exA) ⟨0, 6⟩ = (⟨2, 0, 0, 0, 0, 0, 1⟩, 0) := (oneI_at exA 6 (by decide)).trans (by decide +kernel)
theorem fA0 : fl (yv exA) ⟨0, 0⟩ = ⟨[⟨0, 2⟩, ⟨0, 3⟩], [], [], false, false, false⟩ := by unfold fl; rw [aA0]; kernel_rfl
theorem fA2 : fl (yv exA) ⟨0, 2⟩ = ⟨[], [], [], false, false, false⟩ := by unfold fl; rw [aA2]; kernel_rfl
theorem fA3 : fl (yv exA) ⟨0, 3⟩ = ⟨[⟨0, 6⟩], [], [], false, false, false⟩ := by unfold fl; rw [aA3]; kernel_rfl
theorem fA6 : fl (yv exA) ⟨0, 6⟩ = ⟨[], [], [], false, false, false⟩ := by unfold fl; rw [aA6]; kernel_rfl
theorem okOf {I : zp} {p : zc} {x : Ins} (h : atI I p = (x, 0)) : okI I p := by unfold okI; rw [h]
theorem RtI.next {I : zp} {e p : zc} {D Q : List zc} {x : Ins} {f : zN} (h : RtI I e D (p :: Q)) (hp : p ∉ D) (ha : atI I p = (x, 0)) (hf : fl I p = f) : RtI I e (D ++ [p]) (Q ++ f.nx) := h.visit hp (fun _ => by rw [hf]) (fun n => absurd (okOf ha) n)
theorem notThunk {I : zp} {p : zc} {x : Ins} {k : Int} (h : atI I p = (x, k)) (hx : x.op ≠ 131) : ¬ yc I p := fun ht => hx (by have := ht.2; rw [h] at this; exact this)
def rtA : yN := ⟨⟨0, 0⟩, false, ⟨0, 0⟩, [⟨0, 0⟩, ⟨0, 2⟩, ⟨0, 3⟩, ⟨0, 6⟩], [], []⟩
theorem isA : ye (yv exA) ⟨0, 0⟩ rtA := by
 have h0 := RtI.start (yv exA) ⟨0, 0⟩
 have h1 := h0.next (by simp) aA0 fA0
 have h2 : RtI (yv exA) ⟨0, 0⟩ [⟨0, 0⟩, ⟨0, 2⟩] [⟨0, 3⟩] := h1.next (by decide) aA2 fA2
 have h3 : RtI (yv exA) ⟨0, 0⟩ [⟨0, 0⟩, ⟨0, 2⟩, ⟨0, 3⟩] [⟨0, 6⟩] := h2.next (by decide) aA3 fA3
 have h4 : RtI (yv exA) ⟨0, 0⟩ [⟨0, 0⟩, ⟨0, 2⟩, ⟨0, 3⟩, ⟨0, 6⟩] [] := h3.next (by decide) aA6 fA6
 refine ye.allOk h4 (notThunk aA0 (by decide)) (fun p hp => ?_) (fun p hp => ?_) (by decide) (fun p => Iff.rfl) .nil (fun q => ⟨fun h => by (cases h), fun ⟨p, hp, hq⟩ => ?_⟩)
 ·simp only [List.mem_cons, List.not_mem_nil, or_false] at hp
  rcases hp with rfl | rfl | rfl | rfl
  ·exact okOf aA0
  ·exact okOf aA2
  ·exact okOf aA3
  ·exact okOf aA6
 ·simp only [List.mem_cons, List.not_mem_nil, or_false] at hp
  rcases hp with rfl | rfl | rfl | rfl
  ·rw [fA0]; rfl
  ·rw [fA2]; rfl
  ·rw [fA3]; rfl
  ·rw [fA6]; rfl
 ·simp only [List.mem_cons, List.not_mem_nil, or_false] at hp
  rcases hp with rfl | rfl | rfl | rfl
  ·rw [fA0] at hq; exact hq
  ·rw [fA2] at hq; exact hq
  ·rw [fA3] at hq; exact hq
  ·rw [fA6] at hq; exact hq
theorem rtsA : yT (yv exA) [] (some [rtA]) := yT.given (by simp [rtA]) (by simp) (fun r hr => by rw [List.mem_singleton.1 hr]; exact isA) (by simp [rtA, yv]) (fun h => absurd rfl h) (by simp) (fun r hr => by rw [List.mem_singleton.1 hr]; simp [rtA]) (fun r hr => by rw [List.mem_singleton.1 hr]; simp [rtA]) (fun p hp => by
 simp only [List.map_cons, List.map_nil, List.mem_singleton] at hp
 rw [hp]
 exact .first)
theorem lstA {L : LstS} (h : x7 (yv exA) [] L) : L = fullL (yv exA) [rtA] rtA.code :=
 h.uniq (.inr ⟨_, rtA.code, rtsA, ⟨by decide, fun p => by simp⟩, .inr ⟨by decide, rfl⟩⟩)
theorem clA (o : Nat) (ho : o < 8) : clOf (yv exA) rtA.code 0 o = [1, 2, 1, 1, 2, 2, 1, 0].getD o 0 := by
 have hz : xk (yv exA) 0 o = 0 := rfl
 have ht : inTab (yv exA) rtA.code 0 o = false := by
  unfold inTab rtA
  simp [fA0, fA2, fA3, fA6]
 unfold clOf yZ
 rw [ht, hz]
 have s0 : szI (yv exA) ⟨0, 0⟩ = 2 := by unfold szI; rw [aA0]; rfl
 have s2 : szI (yv exA) ⟨0, 2⟩ = 1 := by unfold szI; rw [aA2]; rfl
 have s3 : szI (yv exA) ⟨0, 3⟩ = 3 := by unfold szI; rw [aA3]; rfl
 have s6 : szI (yv exA) ⟨0, 6⟩ = 1 := by unfold szI; rw [aA6]; rfl
 unfold covP rtA
 simp only [List.countP_cons, List.countP_nil, List.any_cons, List.any_nil, s0, s2, s3, s6]
 rcases o with _ | _ | _ | _ | _ | _ | _ | _ | o
 all_goals first | decide +kernel | omega
def exB : ByteArray := ⟨#[130, 1, 0, 2, 1]⟩
theorem aB0 : atI (yv exB) ⟨0, 0⟩ = (⟨130, 0, 0, 1, 0, 0, 3⟩, 0) := (oneI_at exB 0 (by decide)).trans (by decide +kernel)
theorem aB3 : atI (yv exB) ⟨0, 3⟩ = (⟨2, 0, 0, 0, 0, 0, 1⟩, 0) := (oneI_at exB 3 (by decide)).trans (by decide +kernel)
theorem aB4 : atI (yv exB) ⟨0, 4⟩ = (⟨1, 0, 0, 0, 0, 0, 1⟩, 0) := (oneI_at exB 4 (by decide)).trans (by decide +kernel)
theorem fB0 : fl (yv exB) ⟨0, 0⟩ = ⟨[⟨0, 3⟩], [⟨0, 4⟩], [], false, false, false⟩ := by unfold fl; rw [aB0]; kernel_rfl
theorem fB3 : fl (yv exB) ⟨0, 3⟩ = ⟨[], [], [], false, false, false⟩ := by unfold fl; rw [aB3]; kernel_rfl
theorem fB4 : fl (yv exB) ⟨0, 4⟩ = ⟨[], [], [], false, false, false⟩ := by unfold fl; rw [aB4]; kernel_rfl
def rtB0 : yN := ⟨⟨0, 0⟩, false, ⟨0, 0⟩, [⟨0, 0⟩, ⟨0, 3⟩], [⟨0, 4⟩], []⟩
def rtB4 : yN := ⟨⟨0, 4⟩, false, ⟨0, 0⟩, [⟨0, 4⟩], [], []⟩
theorem isB0 : ye (yv exB) ⟨0, 0⟩ rtB0 := by
 have h0 := RtI.start (yv exB) ⟨0, 0⟩
 have h1 := h0.next (by simp) aB0 fB0
 have h2 : RtI (yv exB) ⟨0, 0⟩ [⟨0, 0⟩, ⟨0, 3⟩] [] := h1.next (by decide) aB3 fB3
 refine ye.allOk h2 (notThunk aB0 (by decide)) (fun p hp => ?_) (fun p hp => ?_) (by decide) (fun p => Iff.rfl) (by decide) (fun q => ⟨fun h => ⟨⟨0, 0⟩, by simp, by rw [fB0]; exact h⟩, fun ⟨p, hp, hq⟩ => ?_⟩)
 ·simp only [List.mem_cons, List.not_mem_nil, or_false] at hp
  rcases hp with rfl | rfl
  ·exact okOf aB0
  ·exact okOf aB3
 ·simp only [List.mem_cons, List.not_mem_nil, or_false] at hp
  rcases hp with rfl | rfl
  ·rw [fB0]; rfl
  ·rw [fB3]; rfl
 ·simp only [List.mem_cons, List.not_mem_nil, or_false] at hp
  rcases hp with rfl | rfl
  ·rw [fB0] at hq; exact hq
  ·rw [fB3] at hq; cases hq
theorem isB4 : ye (yv exB) ⟨0, 4⟩ rtB4 := by
 have h0 := RtI.start (yv exB) ⟨0, 4⟩
 have h1 : RtI (yv exB) ⟨0, 4⟩ [⟨0, 4⟩] [] := h0.next (by simp) aB4 fB4
 refine ye.allOk h1 (notThunk aB4 (by decide)) (fun p hp => ?_) (fun p hp => ?_) (by decide) (fun p => Iff.rfl) .nil (fun q => ⟨fun h => by (cases h), fun ⟨p, hp, hq⟩ => ?_⟩)
 ·rw [List.mem_singleton.1 hp]; exact okOf aB4
 ·rw [List.mem_singleton.1 hp, fB4]; rfl
 ·rw [List.mem_singleton.1 hp, fB4] at hq; exact hq
theorem rtsB : yT (yv exB) [] (some [rtB0, rtB4]) := by
 have h0 : ye (yv exB) rtB0.entry rtB0 := isB0
 have h4 : ye (yv exB) rtB4.entry rtB4 := isB4
 refine yT.given (by decide) (by decide) (fun r hr => ?_) (by decide) (fun h => absurd rfl h) (by simp) (fun r hr => ?_) (fun r hr => ?_) (fun p hp => ?_)
 ·simp only [List.mem_cons, List.not_mem_nil, or_false] at hr
  rcases hr with rfl | rfl
  ·exact h0
  ·exact h4
 ·simp only [List.mem_cons, List.not_mem_nil, or_false] at hr
  rcases hr with rfl | rfl
  ·decide
  ·decide
 ·simp only [List.mem_cons, List.not_mem_nil, or_false] at hr
  rcases hr with rfl | rfl <;> simp [rtB0, rtB4]
 ·simp only [List.map_cons, List.map_nil, List.mem_cons, List.not_mem_nil, or_false] at hp
  rcases hp with rfl | rfl
  ·exact .first
  ·exact .call (e := ⟨0, 0⟩) .first isB0 (by decide)
theorem lstB {L : LstS} (h : x7 (yv exB) [] L) : L.rts = [rtB0, rtB4] := by
 rw [h.uniq (.inr ⟨_, [⟨0, 0⟩, ⟨0, 3⟩, ⟨0, 4⟩], rtsB, ⟨by decide, fun p => by simp [rtB0, rtB4, or_assoc]⟩, .inr ⟨by decide, rfl⟩⟩)]
 rfl
def exC : ByteArray := ⟨#[255]⟩
theorem aC0 : atI (yv exC) ⟨0, 0⟩ = (yG, 11) := (oneI_at exC 0 (by decide)).trans (by decide +kernel)
def rtC : yN := ⟨⟨0, 0⟩, false, ⟨0, 0⟩, [], [], [⟨11, ⟨0, 0⟩⟩]⟩
theorem noC : ¬ okI (yv exC) ⟨0, 0⟩ := by unfold okI; rw [aC0]; decide
theorem isC : ye (yv exC) ⟨0, 0⟩ rtC := by
 have h0 := RtI.start (yv exC) ⟨0, 0⟩
 have h1 : RtI (yv exC) ⟨0, 0⟩ [⟨0, 0⟩] [] := h0.visit (N := []) (by simp) (fun n => absurd n noC) (fun _ => rfl)
 refine ye.ofDone (notThunk aC0 (by decide)) h1.done .nil .nil (by simp) (fun p => ⟨fun h => by (cases h), fun ⟨hp, hk⟩ => ?_⟩) (fun q => ⟨fun h => by (cases h), fun ⟨p, hp, hk, _⟩ => ?_⟩) (fun x => ⟨fun h => ?_, fun ⟨hp, hk⟩ => ?_⟩)
 ·rw [List.mem_singleton.1 hp] at hk; exact absurd hk noC
 ·rw [List.mem_singleton.1 hp] at hk; exact absurd hk noC
 ·rw [List.mem_singleton.1 h]
  exact ⟨by simp, .inl ⟨noC, by rw [aC0]⟩⟩
 ·have h2 := List.mem_singleton.1 hp
  rw [h2] at hk
  rcases hk with ⟨-, hk⟩ | ⟨hk, -⟩
  ·rw [aC0] at hk
   exact List.mem_singleton.2 (yi.ext' hk h2)
  ·exact absurd hk noC
theorem rtsC : yT (yv exC) [] (some [rtC]) := yT.given (by simp [rtC]) (by simp) (fun r hr => by rw [List.mem_singleton.1 hr]; exact isC) (by simp [rtC, yv]) (fun h => absurd rfl h) (by simp) (fun r hr => by rw [List.mem_singleton.1 hr]; simp [rtC]) (fun r hr => by rw [List.mem_singleton.1 hr]; simp [rtC]) (fun p hp => by
 simp only [List.map_cons, List.map_nil, List.mem_singleton] at hp
 rw [hp]
 exact .first)
theorem lstC {L : LstS} (h : x7 (yv exC) [] L) : L.rts = [rtC] := by
 rw [h.uniq (.inr ⟨_, [], rtsC, ⟨.nil, fun p => by simp [rtC]⟩, .inr ⟨by decide, rfl⟩⟩)]
 rfl
end Go.Proofs.YteofmaiojepdkaaGreat
