/- From a law's walk to its statement: rows of five and of two numbers, arrays of four and of two. No condition. -/
import Derived.Test.YteofmaiojepdkaaGreatSbRmG
set_option linter.all false
namespace Go.Proofs.YteofmaiojepdkaaGreat
open Go Go.RowKit Go.Maps Go.Sort
structure RtD (I : zr) (r : xd) (c l s : Value) (w : World) : Prop where
 oc : ∃ A n, c = .slice A r.code.length n ∧ RdS w 9 A r.code.length n (itmsL I r.code) ∧ r.code.length ≤ 9223372036854775807
 ol : ∃ A n, l = .slice A r.calls.length n ∧ RdS w 2 A r.calls.length n (zM r.calls) ∧ r.calls.length ≤ 9223372036854775807
 oi : ∃ A n, s = .slice A r.iss.length n ∧ RdS w 3 A r.iss.length n (y6 r.iss) ∧ r.iss.length ≤ 9223372036854775807
theorem RtD.below {I : zr} {r : xd} {c l s : Value} {w w' : World} (h : RtD I r c l s w) (hb : Below w.heap.size w w') : RtD I r c l s w' := by
 obtain ⟨⟨A1, n1, e1, r1, l1⟩, ⟨A2, n2, e2, r2, l2⟩, ⟨A3, n3, e3, r3, l3⟩⟩ := h
 exact ⟨⟨A1, n1, e1, r1.below hb, l1⟩, ⟨A2, n2, e2, r2.below hb, l2⟩, ⟨A3, n3, e3, r3.below hb, l3⟩⟩
theorem own_read {w : World} {B s n : Nat} {T : TypeId} {v : Value} {xs : List Value} (h : w.ownsRow B T s v n xs) : ∃ A c, v = .slice A n c ∧ RdS w s A n c xs ∧ n ≤ 9223372036854775807 := by
 obtain ⟨A, c, rfl, -⟩ := zO h
 exact ⟨A, c, rfl, rd_own h, own_max h⟩
theorem RtV.read {I : zr} {B : Nat} {r : xd} {c l s : Value} {w : World} (h : RtV I B r c l s w) : RtD I r c l s w := ⟨own_read h.oc, own_read h.ol, own_read h.oi⟩
structure RnsD (I : zr) (R : List RtR) (A : Option Addr) (cap : Nat) (w : World) : Prop where
 rd : RdS w 8 A R.length cap (R.flatMap rtvL)
 le : R.length ≤ 9223372036854775807
 rt : ∀ x ∈ R, RtD I x.1 x.2.1 x.2.2.1 x.2.2.2 w
theorem RnsD.below {I : zr} {R : List RtR} {A : Option Addr} {cap : Nat} {w w' : World} (h : RnsD I R A cap w) (hb : Below w.heap.size w w') : RnsD I R A cap w' := ⟨h.rd.below hb, h.le, fun x hx => (h.rt x hx).below hb⟩
structure ClsD (n : Nat) (c : Nat → Nat → Int) (A : Option Addr) (cap : Nat) (w : World) : Prop where
 le : n ≤ 9223372036854775807
 rd : ∃ gs : List Nat, gs.length = n ∧ RdS w 1 A n cap (gs.map clV) ∧ ∀ b g : Nat, gs[b]? = some g → ∃ fr : Nat × Nat, w.heap[g]? = some (.cells (rowC (c b)) 5 fr)
theorem ClsD.below {n : Nat} {c : Nat → Nat → Int} {A : Option Addr} {cap : Nat} {w w' : World} (h : ClsD n c A cap w) (hb : Below w.heap.size w w') : ClsD n c A cap w' := by
 obtain ⟨gs, h1, h2, h3⟩ := h.rd
 exact ⟨h.le, gs, h1, h2.below hb, fun b g hg => by obtain ⟨fr, h4⟩ := h3 b g hg; exact ⟨fr, za hb h4⟩⟩
structure LstD (I : zr) (nb : Nat) (c : Nat → Nat → Int) (rs : List xd) (iss : List yj) (vc vr vi : Value) (w : World) : Prop where
 cls : ∃ A cap, vc = .slice A nb cap ∧ ClsD nb c A cap w
 rts : ∃ R A cap, vr = .slice A R.length cap ∧ RnsD I R A cap w ∧ R.map (·.1) = rs
 iss : ∃ A cap, vi = .slice A iss.length cap ∧ RdS w 3 A iss.length cap (y6 iss) ∧ iss.length ≤ 9223372036854775807
theorem LstD.below {I : zr} {nb : Nat} {c : Nat → Nat → Int} {rs : List xd} {iss : List yj} {vc vr vi : Value} {w w' : World} (h : LstD I nb c rs iss vc vr vi w) (hb : Below w.heap.size w w') : LstD I nb c rs iss vc vr vi w' := by
 obtain ⟨⟨A1, n1, e1, r1⟩, ⟨R, A2, n2, e2, r2, l2⟩, ⟨A3, n3, e3, r3, l3⟩⟩ := h
 exact ⟨⟨A1, n1, e1, r1.below hb⟩, ⟨R, A2, n2, e2, r2.below hb, l2⟩, ⟨A3, n3, e3, r3.below hb, l3⟩⟩
theorem LstV.read {I : zr} (hI : I.Ok) {B : Nat} {L : LstS} {vc vr vi : Value} {w : World} (h : LstV I B L vc vr vi w) : ∃ c, L.cls = clsL I c ∧ LstD I I.banks.length c L.rts L.iss vc vr vi w := by
 obtain ⟨gs, c, h1, h2, h3⟩ := h.cls
 obtain ⟨R, h4, h5⟩ := h.rts
 refine ⟨c, h3, ?_, ?_, own_read h.iss⟩
 ·obtain ⟨A, cap, e, hr, hl⟩ := own_read h2.own
  rw [h1] at e hr
  exact ⟨A, cap, e, by have := hI.n64; omega, gs, h1, hr, fun b g hg => ⟨_, h2.row b g hg⟩⟩
 ·obtain ⟨A, cap, e, hr, hl⟩ := own_read h4.own
  exact ⟨R, A, cap, e, ⟨hr, hl, fun x hx => (h4.rv x hx).read⟩, h5.symm⟩
end Go.Proofs.YteofmaiojepdkaaGreat
namespace Go.Proofs.YteofmaiojepdkaaGreat
open Go Go.RowKit Go.Maps Go.Sort
theorem img_other {w : World} {I : zr} {gb gd bc dc k : Nat} {cs : Array Value} (h : yG w I (some ⟨gb, 0, none⟩) bc (some ⟨gd, 0, none⟩) dc) (h1 : gb ≠ k) (h2 : gd ≠ k) : yG (w.setRow k cs) I (some ⟨gb, 0, none⟩) bc (some ⟨gd, 0, none⟩) dc := by
 have key : ∀ {s g n c : Nat} {xs : List Value}, g ≠ k → RdS w s (some ⟨g, 0, none⟩) n c xs → RdS (w.setRow k cs) s (some ⟨g, 0, none⟩) n c xs := fun hg hr => ⟨hr.le, hr.len, fun h0 => by
  obtain ⟨g', o, cur, T, fr, e, h3, h4⟩ := hr.at_ h0
  injection e with e
  injection e with e1 e2
  subst e1 e2
  exact ⟨_, _, cur, T, fr, rfl, (setRow_other _ _ _ _ hg).trans h3, h4⟩⟩
 exact ⟨key h1 h.bk, key h2 h.dt⟩
set_option maxRecDepth 100000 in
set_option maxHeartbeats 4000000 in
theorem laid_any (p : Option Addr) (n cap : Nat) (Q : Nat → Nat → Int) (hn : n ≤ 9223372036854775807) (N : Nat → Int) (w : World) (hQ : FivV w (.slice p n cap) n Q) :
  Calls Tryz.prog 15 #[.slice p n cap, .agg #[.int .i64 (N 0), .int .i64 (N 1), .int .i64 (N 2), .int .i64 (N 3)]] w (L5P w) := by
 have HX := zh (Bx.two w (boxQ N) (imgC (.slice none 0 0) 0 (.slice none 0 0)))
 have hcap : n ≤ cap := by obtain ⟨_, _, e, h, -⟩ := hQ; injection e with _ _ e; omega
 obtain ⟨m, hm⟩ : ∃ m, min n 60 = m := ⟨_, rfl⟩
 have hmn : m ≤ n := by omega
 have HFV := zh hQ
 have HL5 := zh (fun p' (hp : 0 < n → p' = p) W (hb : Below w.heap.size w W) => laid5_any p' m cap Q (by omega) N W (by
  by_cases h0 : 0 < n
  ·rw [hp h0]; exact (hQ.below hb).cut hmn
  ·exact ⟨p', cap, rfl, by omega, fun h => by omega⟩))
 have hmin : min (n : Int) 60 = (m : Int) := by omega
 have hmc : m ≤ cap := by omega
 have hpp : 0 < n → ∃ g off, p = some ⟨g, off, none⟩ := fun h0 => by
  obtain ⟨p', c', e, -, h⟩ := hQ
  injection e with e1 _ _
  subst e1
  obtain ⟨g, off, -, -, -, e, -⟩ := h h0
  exact ⟨g, off, e⟩
 clear hQ hm
 go_enter Tryz.func15, Tryz.ntmps15
 go_upto_region 1 with fail
 obtain ⟨wi, hwi⟩ : ∃ wi, (w.alloc (boxQ N)).alloc (imgC (.slice none 0 0) 0 (.slice none 0 0)) = wi := ⟨_, rfl⟩
 rw [hwi] at HX ⊢
 clear hwi
 by_cases h0 : 0 < n
 ·obtain ⟨g, off, rfl⟩ := hpp h0
  refine zw (S := fun W => W.heap[w.heap.size]? = some (boxQ N)) [7] (by kernel_rfl) HX.out.b0 (fun hHeld => ?_)
  (refine tkZ 0 (v := ?_) rfl (by assumption) ?_ ?_; rotate_left; (focus (intro w hSw; (try dsimp only at hSw); go_simp; try with_reducible rfl)); (try simp only [zA, zB, zC, Act.put, zD, zE, zF]))
  (refine tkZ 1 (v := ?_) rfl (by assumption) ?_ ?_; rotate_left; (focus (intro w hSw; (try dsimp only at hSw); go_simp; try with_reducible rfl)); (try simp only [zA, zB, zC, Act.put, zD, zE, zF]))
  (refine tkZ 2 (v := ?_) rfl (by assumption) ?_ ?_; rotate_left; (focus (intro w hSw; (try dsimp only at hSw); go_simp; try with_reducible rfl)); (try simp only [zA, zB, zC, Act.put, zD, zE, zF]))
  (refine tkZ 3 (v := .int .i64 m) rfl (by assumption) (fun W hS => by clear hS; go_simp; first | done | rfl) ?_; (try simp only [zA, zB, zC, Act.put, zD, zE, zF]))
  (refine tkZ 4 (v := .slice (some ⟨g, off, none⟩) m cap) rfl (by assumption) (fun W hS => by clear hS; go_simp; first | done | rfl) ?_; (try simp only [zA, zB, zC, Act.put, zD, zE, zF]))
  (refine tkZ 5 (v := .agg #[.int .i64 (N 0), .int .i64 (N 1), .int .i64 (N 2), .int .i64 (N 3)]) rfl (by assumption) (fun W hS => yL _ _ rfl _ rfl _ _ _ hS (by kernel_rfl)) ?_; (try simp only [zA, zB, zC, Act.put, zD, zE, zF]))
  have HD := zh (HX.out.stay (Below.refl _ _).drew)
  refine yx 6 rfl (fun K hK => ?_)
  go_simp
  go_at_call 37
  (with_reducible refine (HL5.out _ (fun _ => rfl) _ HD.out.bb).mono ?_)
  rintro e1 w1 ⟨⟨I, gb, gd, ⟨hI, hlb, hld⟩, hI3, rfl, hV⟩, hb1⟩
  have HI := zh (And.intro hI (And.intro hI3 hV))
  clear hI3 hI hV
  go_simp
  have HD1 := zh (HD.out.stay hb1)
  have hz := HD.out.z
  simp only [List.length_cons, List.length_nil] at hz
  have HGB := zh (show w.heap.size + 2 ≤ gb ∧ w.heap.size + 2 ≤ gd from ⟨Nat.le_trans hz hlb, Nat.le_trans hz hld⟩)
  refine hK.out _ _ (.inr HD1.out.b0) ?_
  (try simp only [zA, zB, zC, Act.put, zD, zE, zF])
  clear hK K hHeld hb1 hz hlb hld
  refine yl 7 ?_
  simp only [List.drop_succ_cons, List.drop_zero]
  go_wp2_with (first | (refine wpList_store_row rfl _ _ _ rfl _ _ rfl rfl _ _ (HD1.out.b1) ?_ ?_ ?_ ?_; kernel_rfl; rfl; kernel_rfl))
  refine bodyPost_ret (results_cell_row (cs := #[.slice (some ⟨gb, 0, none⟩) I.banks.length 3, .int .u16 I.entry, .int .u16 I.vector, .slice (some ⟨gd, 0, none⟩) I.data.length 3, .slice none 0 0]) (fr := (0, 0)) Tryz.results15 _ _ (w.heap.size + 1) 31 _ ?_ (setRow_heap _ _ _ _ _ _ HD1.out.b1) Tryz.underlying31 rfl (by kernel_rfl)) rfl ?_
  ·rfl
  ·exact ⟨⟨I, gb, gd, ⟨HI.out.1, by have := HGB.out.1; omega, by have := HGB.out.2; omega⟩, HI.out.2.1, rfl, img_other HI.out.2.2 (by have := HGB.out.1; omega) (by have := HGB.out.2; omega)⟩, below_setRow HD1.out.bb (by omega) _⟩
 ·obtain rfl : n = 0 := by omega
  obtain rfl : m = 0 := by omega
  refine zw (S := fun W => W.heap[w.heap.size]? = some (boxQ N)) [7] (by kernel_rfl) HX.out.b0 (fun hHeld => ?_)
  (refine tkZ 0 (v := ?_) rfl (by assumption) ?_ ?_; rotate_left; (focus (intro w hSw; (try dsimp only at hSw); go_simp; try with_reducible rfl)); (try simp only [zA, zB, zC, Act.put, zD, zE, zF]))
  (refine tkZ 1 (v := ?_) rfl (by assumption) ?_ ?_; rotate_left; (focus (intro w hSw; (try dsimp only at hSw); go_simp; try with_reducible rfl)); (try simp only [zA, zB, zC, Act.put, zD, zE, zF]))
  (refine tkZ 2 (v := ?_) rfl (by assumption) ?_ ?_; rotate_left; (focus (intro w hSw; (try dsimp only at hSw); go_simp; try with_reducible rfl)); (try simp only [zA, zB, zC, Act.put, zD, zE, zF]))
  (refine tkZ 3 (v := .int .i64 0) rfl (by assumption) (fun W hS => by clear hS; go_simp; first | done | rfl) ?_; (try simp only [zA, zB, zC, Act.put, zD, zE, zF]))
  obtain ⟨p', hp'⟩ : ∃ p', (if cap = 0 then p else p.map fun a => a.add 0) = p' := ⟨_, rfl⟩
  (refine tkZ 4 (v := .slice p' 0 cap) rfl (by assumption) (fun W hS => by clear hS; rw [← hp']; go_simp; first | done | rfl) ?_; (try simp only [zA, zB, zC, Act.put, zD, zE, zF]))
  clear hp'
  (refine tkZ 5 (v := .agg #[.int .i64 (N 0), .int .i64 (N 1), .int .i64 (N 2), .int .i64 (N 3)]) rfl (by assumption) (fun W hS => yL _ _ rfl _ rfl _ _ _ hS (by kernel_rfl)) ?_; (try simp only [zA, zB, zC, Act.put, zD, zE, zF]))
  have HD := zh (HX.out.stay (Below.refl _ _).drew)
  refine yx 6 rfl (fun K hK => ?_)
  go_simp
  go_at_call 37
  (with_reducible refine (HL5.out _ (fun h => absurd h (by omega)) _ HD.out.bb).mono ?_)
  rintro e1 w1 ⟨⟨I, gb, gd, ⟨hI, hlb, hld⟩, hI3, rfl, hV⟩, hb1⟩
  have HI := zh (And.intro hI (And.intro hI3 hV))
  clear hI3 hI hV
  go_simp
  have HD1 := zh (HD.out.stay hb1)
  have hz := HD.out.z
  simp only [List.length_cons, List.length_nil] at hz
  have HGB := zh (show w.heap.size + 2 ≤ gb ∧ w.heap.size + 2 ≤ gd from ⟨Nat.le_trans hz hlb, Nat.le_trans hz hld⟩)
  refine hK.out _ _ (.inr HD1.out.b0) ?_
  (try simp only [zA, zB, zC, Act.put, zD, zE, zF])
  clear hK K hHeld hb1 hz hlb hld
  refine yl 7 ?_
  simp only [List.drop_succ_cons, List.drop_zero]
  go_wp2_with (first | (refine wpList_store_row rfl _ _ _ rfl _ _ rfl rfl _ _ (HD1.out.b1) ?_ ?_ ?_ ?_; kernel_rfl; rfl; kernel_rfl))
  refine bodyPost_ret (results_cell_row (cs := #[.slice (some ⟨gb, 0, none⟩) I.banks.length 3, .int .u16 I.entry, .int .u16 I.vector, .slice (some ⟨gd, 0, none⟩) I.data.length 3, .slice none 0 0]) (fr := (0, 0)) Tryz.results15 _ _ (w.heap.size + 1) 31 _ ?_ (setRow_heap _ _ _ _ _ _ HD1.out.b1) Tryz.underlying31 rfl (by kernel_rfl)) rfl ?_
  ·rfl
  ·exact ⟨⟨I, gb, gd, ⟨HI.out.1, by have := HGB.out.1; omega, by have := HGB.out.2; omega⟩, HI.out.2.1, rfl, img_other HI.out.2.2 (by have := HGB.out.1; omega) (by have := HGB.out.2; omega)⟩, below_setRow HD1.out.bb (by omega) _⟩
end Go.Proofs.YteofmaiojepdkaaGreat
namespace Go.Proofs.YteofmaiojepdkaaGreat
open Go Go.RowKit Go.Maps Go.Sort
def TwoV (w : World) (v : Value) (n : Nat) (Q : Nat → Nat → Int) : Prop := ∃ p cap, v = .slice p n cap ∧ n ≤ cap ∧ (0 < n → ∃ g off c t fr, p = some ⟨g, off, none⟩ ∧ w.heap[g]? = some (.cells c t fr) ∧ ∀ i, i < n → (c.extract (off + i * 2) (off + i * 2 + 2)).toList = [.int .i64 (Q i 0), .int .i64 (Q i 1)])
theorem TwoV.below {w w' : World} {v : Value} {n : Nat} {Q : Nat → Nat → Int} (h : TwoV w v n Q) (hb : Below w.heap.size w w') : TwoV w' v n Q := by
 obtain ⟨p, cap, e, hc, h⟩ := h
 refine ⟨p, cap, e, hc, fun h0 => ?_⟩
 obtain ⟨g, off, c, t, fr, e, hg, hx⟩ := h h0
 exact ⟨g, off, c, t, fr, e, za hb hg, hx⟩
def plsQ (n : Nat) (Q : Nat → Nat → Int) : List zd := (List.range (min n 4)).map fun k => ⟨Q k 0, Q k 1 % 65536⟩
theorem plsQ_len (n : Nat) (Q : Nat → Nat → Int) : (plsQ n Q).length ≤ 4 := by unfold plsQ; rw [List.length_map, List.length_range]; omega
theorem plsQ_ok {n : Nat} {Q : Nat → Nat → Int} (h : ∀ i j, yV (Q i j)) : ∀ p ∈ plsQ n Q, xI p := fun p hp => by
 unfold plsQ at hp
 obtain ⟨k, -, rfl⟩ := List.mem_map.1 hp
 exact ⟨h k 0, by dsimp only; omega, by dsimp only; omega⟩
def plsT (m : Nat) (Q : Nat → Nat → Int) : List zd := (List.range m).map fun k => ⟨Q k 0, Q k 1 % 65536⟩
theorem plsT_snoc (m : Nat) (Q : Nat → Nat → Int) : zM (plsT m Q) ++ [.int .i64 (Q m 0), .int .u16 (Q m 1 % 65536)] = zM (plsT (m + 1) Q) := by
 unfold plsT
 rw [List.range_succ, List.map_append]
 show _ = zM (_ ++ [_])
 unfold zM
 rw [List.flatMap_append]
 rfl
theorem plsT_len (m : Nat) (Q : Nat → Nat → Int) : (plsT m Q).length = m := by unfold plsT; simp
theorem two_cells {c : Array Value} {o : Nat} {a b : Value} (h : (c.extract o (o + 2)).toList = [a, b]) : c[o]? = some a ∧ c[o + 1]? = some b := by
 have h0 := congrArg (fun l : List Value => l[0]?) h
 have h1 := congrArg (fun l : List Value => l[1]?) h
 simp only [Array.getElem?_toList] at h0 h1
 rw [Array.getElem?_extract] at h0 h1
 have h6 : min 2 (c.size - o) = 2 := by simpa using congrArg List.length h
 rw [if_pos (by omega)] at h0 h1
 exact ⟨h0, h1⟩
def PlP (l : List zd) (w : World) (e : Ending) (w' : World) : Prop := (∃ A c, e = .returned (.slice A l.length c) ∧ w'.ownsRow w.heap.size 47 2 (.slice A l.length c) l.length (zM l)) ∧ Below w.heap.size w w'
set_option maxRecDepth 100000 in
set_option maxHeartbeats 4000000 in
theorem places_any (p : Option Addr) (n cap : Nat) (Q : Nat → Nat → Int) (hn : n ≤ 9223372036854775807) (w : World) (hQ : TwoV w (.slice p n cap) n Q) :
  Calls Tryz.prog 18 #[.slice p n cap] w (PlP (plsQ n Q) w) := by
 have HQ := zh hQ
 have hcap : n ≤ cap := by obtain ⟨_, _, e, h, -⟩ := hQ; injection e with _ _ e; omega
 clear hQ
 go_enter Tryz.func18, Tryz.ntmps18
 go_wp2_with fail
 go_loopw [3, 4] (fun v i wr => ∃ m : Nat, m ≤ n ∧ m ≤ 4 ∧ i = .int .i64 m ∧ Hid (wr.ownsRow w.heap.size 47 2 v m (zM (plsT m Q))) ∧ Hid (Below w.heap.size w wr)) (fun v i _ => 4 - (intOf i).toNat)
 case atStart => exact ⟨0, Nat.zero_le _, Nat.zero_le _, rfl, zh (World.ownsRow_nil _ _ _ _), zh (Below.refl _ _)⟩
 case round =>
  obtain ⟨m, hm, hm4, rfl, HO, HB⟩ := hrel
  obtain ⟨A, c, rfl, -⟩ := zO HO.out
  by_cases hlt : m < n
  ·by_cases h4 : m < 4
   ·obtain ⟨p', cap', he, hc, hx⟩ := HQ.out.below HB.out
    injection he with e1 _ e2
    subst e1 e2
    obtain ⟨g, off, cs, t, fr, rfl, hg, hrow⟩ := hx (by omega)
    obtain ⟨hq0, hq1⟩ := two_cells (hrow m hlt)
    have HG := zh hg
    have HQ0 := zh hq0
    have HQ1 := zh hq1
    have HLT := zh (And.intro hlt h4)
    have HQS := zh HQ.out
    clear hx hg hrow hq0 hq1 HQ
    go_upto_region 5 with fail
    refine zw (S := fun W => W.heap[g]? = some (.cells cs t fr)) [15] (by kernel_rfl) HG.out (fun hHeld => ?_)
    (refine tkZ 0 (v := ?_) rfl (by assumption) ?_ ?_; rotate_left; (focus (intro w hSw; (try dsimp only at hSw); go_simp; try with_reducible rfl)); (try simp only [zA, zB, zC, Act.put, zD, zE, zF]))
    (refine tkZ 1 (v := ?_) rfl (by assumption) ?_ ?_; rotate_left; (focus (intro w hSw; (try dsimp only at hSw); go_simp; try with_reducible rfl)); (try simp only [zA, zB, zC, Act.put, zD, zE, zF]))
    (refine tkZ 2 (v := ?_) rfl (by assumption) ?_ ?_; rotate_left; (focus (intro w hSw; (try dsimp only at hSw); go_simp; try with_reducible rfl)); (try simp only [zA, zB, zC, Act.put, zD, zE, zF]))
    (refine tkZ 3 (v := ?_) rfl (by assumption) ?_ ?_; rotate_left; (focus (intro w hSw; (try dsimp only at hSw); go_simp; try with_reducible rfl)); (try simp only [zA, zB, zC, Act.put, zD, zE, zF]))
    (refine tkZ 4 (v := ?_) rfl (by assumption) ?_ ?_; rotate_left; (focus (intro w hSw; (try dsimp only at hSw); go_simp; try with_reducible rfl)); (try simp only [zA, zB, zC, Act.put, zD, zE, zF]))
    (refine tkZ 5 (v := .int .i64 (Q m 0)) rfl (by assumption) (fun W hS => zK _ _ rfl _ _ rfl _ _ _ hS _ HQ0.out (fun _ => by kernel_rfl)) ?_; (try simp only [zA, zB, zC, Act.put, zD, zE, zF]))
    (refine tkZ 6 (v := ?_) rfl (by assumption) ?_ ?_; rotate_left; (focus (intro w hSw; (try dsimp only at hSw); go_simp; try with_reducible rfl)); (try simp only [zA, zB, zC, Act.put, zD, zE, zF]))
    (refine tkZ 7 (v := ?_) rfl (by assumption) ?_ ?_; rotate_left; (focus (intro w hSw; (try dsimp only at hSw); go_simp; try with_reducible rfl)); (try simp only [zA, zB, zC, Act.put, zD, zE, zF]))
    (refine tkZ 8 (v := ?_) rfl (by assumption) ?_ ?_; rotate_left; (focus (intro w hSw; (try dsimp only at hSw); go_simp; try with_reducible rfl)); (try simp only [zA, zB, zC, Act.put, zD, zE, zF]))
    (refine tkZ 9 (v := ?_) rfl (by assumption) ?_ ?_; rotate_left; (focus (intro w hSw; (try dsimp only at hSw); go_simp; try with_reducible rfl)); (try simp only [zA, zB, zC, Act.put, zD, zE, zF]))
    (refine tkZ 10 (v := .int .i64 (Q m 1)) rfl (by assumption) (fun W hS => zK _ _ rfl _ _ rfl _ _ _ hS _ HQ1.out (fun _ => by kernel_rfl)) ?_; (try simp only [zA, zB, zC, Act.put, zD, zE, zF]))
    (refine tkZ 11 (v := .int .u16 (Q m 1 % 65536)) rfl (by assumption) (fun W hS => by clear hS; go_simp; first | done | rfl) ?_; (try simp only [zA, zB, zC, Act.put, zD, zE, zF]))
    (refine tkZ 12 (v := ?_) rfl (by assumption) ?_ ?_; rotate_left; (focus (intro w hSw; (try dsimp only at hSw); go_simp; try with_reducible rfl)); (try simp only [zA, zB, zC, Act.put, zD, zE, zF]))
    have HD := zh (HB.out.drew)
    have HOD := zh (zp HO.out (zo.refl (fun _ => False) wr).drew (fun _ _ e => e))
    obtain ⟨wd, hwd⟩ : ∃ wd, wr.drew = wd := ⟨_, rfl⟩
    have hgd : wd.heap[g]? = some (.cells cs t fr) := hwd ▸ HG.out
    have HGD := zh hgd
    rw [hwd] at HD HOD ⊢
    clear hwd hgd hHeld
    refine yx 13 rfl (fun K hK => ?_)
    go_simp
    have HDA := zh (HD.out.alloc HD.out.size (zI ⟨Q m 0, Q m 1 % 65536⟩))
    have HOA := zh (HOD.out.alloc (zI ⟨Q m 0, Q m 1 % 65536⟩))
    have HGA := zh (za ((Below.refl _ _).alloc (zn _) (zI ⟨Q m 0, Q m 1 % 65536⟩)) HGD.out)
    refine hK.out _ _ (.inr HGA.out) ?_
    (try simp only [zA, zB, zC, Act.put, zD, zE, zF])
    clear hK K
    refine yx 14 rfl (fun K hK => ?_)
    refine xQ (.tmp 15) (.tmp 28) 40 47 rfl 2 16 _ infoPlc Tryz.underlying40 rfl (by decide) (by decide) w.heap.size HDA.out.size (.slice A m c) m (zM (plsT m Q)) rfl HOA.out (by omega) wd.heap.size 1 _ _ _ rfl (heap_alloc_new wd (zI ⟨Q m 0, Q m 1 % 65536⟩)) rfl rfl (by decide) (by decide) ?_
    intro ga cp w6 ho6 hg6 hv6
    have HO6 := zh ho6
    have HB6 := zh (HDA.out.grown hg6 HDA.out.size (fun k hk => (HOA.out.lt k hk).1))
    have hlg : g < w.heap.size := by
     obtain ⟨p2, c2, e2, -, h2⟩ := HQS.out
     injection e2 with e2 _ _
     obtain ⟨g2, o2, c3, t3, fr3, e3, hg2, -⟩ := h2 (by have := HLT.out; omega)
     rw [← e2] at e3
     injection e3 with e3
     injection e3 with e3 _
     rw [e3]
     exact (Array.getElem?_eq_some_iff.1 hg2).1
    have HG6 := zh ((hg6.block g (Array.getElem?_eq_some_iff.1 HGA.out).1 (fun e => by have := (HOA.out.lt _ e.symm).1; omega)).trans HGA.out)
    clear ho6 hg6 hv6 hlg
    refine hK.out _ _ (.inr HG6.out) ?_
    (try simp only [zA, zB, zC, Act.put, zD, zE, zF])
    clear hK K
    refine yl 15 ?_
    simp only [List.drop_succ_cons, List.drop_zero]
    go_wp2_with fail
    go_roundw
    case rel => exact ⟨m + 1, HLT.out.1, HLT.out.2, by go_num, zh (by rw [← plsT_snoc]; exact HO6.out), HB6⟩
    case measure => have h1 := HLT.out; simp [intOf]; omega
   ·obtain rfl : m = 4 := by omega
    have HE := zh (show plsQ n Q = plsT 4 Q by unfold plsQ plsT; rw [show min n 4 = 4 by omega])
    go_wp2_with fail
    go_ret
    rw [HE.out]
    exact ⟨⟨A, c, by rw [plsT_len]; rfl, by rw [plsT_len]; exact HO.out⟩, HB.out⟩
  ·obtain rfl : m = n := by omega
   have HE := zh (show plsQ m Q = plsT m Q by unfold plsQ plsT; rw [show min m 4 = m by omega])
   go_wp2_with fail
   go_ret
   rw [HE.out]
   exact ⟨⟨A, c, by rw [plsT_len]; rfl, by rw [plsT_len]; exact HO.out⟩, HB.out⟩
end Go.Proofs.YteofmaiojepdkaaGreat
namespace Go.Proofs.YteofmaiojepdkaaGreat
open Go.ChangeShapes Go.WideShapes Go.ChangeAt Go.RowKit Go.Deep
set_option maxRecDepth 100000
theorem arr4 {cs : Array Value} (h : cs.size = 4) : ∃ a b c d, cs = #[a, b, c, d] := by
 obtain ⟨l⟩ := cs
 match l, h with
 | [a, b, c, d], _ => exact ⟨a, b, c, d, rfl⟩
theorem five_of {w : World} {p : Option Addr} {len b off : Nat} {Q : Nat → Nat → Int} (hp : 0 < len → p = some ⟨b, off, none⟩ ∧ b < w.heap.size) (hQ : ∀ i, i < len → ∀ j, j < 5 → w.cell? ⟨b, off + i * 5 + j, none⟩ = some (.int .i64 (Q i j)) ∧ yV (Q i j)) :
  ∃ Q' : Nat → Nat → Int, (∀ i j, yV (Q' i j)) ∧ ∀ cap, len ≤ cap → FivV w (.slice p len cap) len Q' := by
 obtain ⟨Q', hQ'⟩ : ∃ Q' : Nat → Nat → Int, ∀ i j, Q' i j = if i < len ∧ j < 5 then Q i j else 0 := ⟨fun i j => if i < len ∧ j < 5 then Q i j else 0, fun _ _ => rfl⟩
 refine ⟨Q', fun i j => ?_, fun cap hc => ⟨p, cap, rfl, hc, fun h0 => ?_⟩⟩
 ·rw [hQ']
  split
  ·rename_i h; exact (hQ i h.1 j h.2).2
  ·exact ⟨by decide, by decide⟩
 ·obtain ⟨c, t, fr, hg, -⟩ := cell_block (hQ 0 h0 0 (by omega)).1
  refine ⟨b, off, c, t, fr, (hp h0).1, hg, fun i hi => ?_⟩
  have hc : ∀ j, j < 5 → c[off + i * 5 + j]? = some (.int .i64 (Q i j)) := fun j hj => by
   have := (hQ i hi j hj).1
   rwa [cell_of_row _ _ _ _ _ _ hg] at this
  have e : ∀ j, j < 5 → Q' i j = Q i j := fun j hj => by rw [hQ']; exact if_pos ⟨hi, hj⟩
  rw [e 0 (by omega), e 1 (by omega), e 2 (by omega), e 3 (by omega), e 4 (by omega)]
  refine ext_at (L := [.int .i64 (Q i 0), .int .i64 (Q i 1), .int .i64 (Q i 2), .int .i64 (Q i 3), .int .i64 (Q i 4)]) fun j hj => ?_
  have hj' : j < 5 := hj
  rw [hc j hj']
  rcases (show j = 0 ∨ j = 1 ∨ j = 2 ∨ j = 3 ∨ j = 4 by omega) with rfl | rfl | rfl | rfl | rfl <;> rfl
theorem two_of {w : World} {p : Option Addr} {len b off : Nat} {Q : Nat → Nat → Int} (hp : 0 < len → p = some ⟨b, off, none⟩ ∧ b < w.heap.size) (hQ : ∀ i, i < len → ∀ j, j < 2 → w.cell? ⟨b, off + i * 2 + j, none⟩ = some (.int .i64 (Q i j)) ∧ yV (Q i j)) :
  ∃ Q' : Nat → Nat → Int, (∀ i j, yV (Q' i j)) ∧ ∀ cap, len ≤ cap → TwoV w (.slice p len cap) len Q' := by
 obtain ⟨Q', hQ'⟩ : ∃ Q' : Nat → Nat → Int, ∀ i j, Q' i j = if i < len ∧ j < 2 then Q i j else 0 := ⟨fun i j => if i < len ∧ j < 2 then Q i j else 0, fun _ _ => rfl⟩
 refine ⟨Q', fun i j => ?_, fun cap hc => ⟨p, cap, rfl, hc, fun h0 => ?_⟩⟩
 ·rw [hQ']
  split
  ·rename_i h; exact (hQ i h.1 j h.2).2
  ·exact ⟨by decide, by decide⟩
 ·obtain ⟨c, t, fr, hg, -⟩ := cell_block (hQ 0 h0 0 (by omega)).1
  refine ⟨b, off, c, t, fr, (hp h0).1, hg, fun i hi => ?_⟩
  have hc : ∀ j, j < 2 → c[off + i * 2 + j]? = some (.int .i64 (Q i j)) := fun j hj => by
   have := (hQ i hi j hj).1
   rwa [cell_of_row _ _ _ _ _ _ hg] at this
  have e : ∀ j, j < 2 → Q' i j = Q i j := fun j hj => by rw [hQ']; exact if_pos ⟨hi, hj⟩
  rw [e 0 (by omega), e 1 (by omega)]
  refine ext_at (L := [.int .i64 (Q i 0), .int .i64 (Q i 1)]) fun j hj => ?_
  have hj' : j < 2 := hj
  rw [hc j hj']
  rcases (show j = 0 ∨ j = 1 by omega) with rfl | rfl <;> rfl
section
variable {w : World} {r : Reach} {base : Nat} {v : Value}
theorem arg_c4N (h : Value.okWide Tryz.prog w r base 23 v) : ∃ N : Nat → Int, (∀ k, yV (N k)) ∧ v = .agg #[.int .i64 (N 0), .int .i64 (N 1), .int .i64 (N 2), .int .i64 (N 3)] := by
 obtain ⟨cs, rfl, hsz, hall⟩ := value_flat (ts := [3, 3, 3, 3]) (by kernel_rfl) (by kernel_rfl) (by kernel_rfl) h
 obtain ⟨a, b, c, d, rfl⟩ := arr4 hsz
 obtain ⟨a, rfl, ha⟩ := cell_int Tryz.underlying3 (hall 0 _ _ rfl rfl)
 obtain ⟨b, rfl, hb⟩ := cell_int Tryz.underlying3 (hall 1 _ _ rfl rfl)
 obtain ⟨c, rfl, hc⟩ := cell_int Tryz.underlying3 (hall 2 _ _ rfl rfl)
 obtain ⟨d, rfl, hd⟩ := cell_int Tryz.underlying3 (hall 3 _ _ rfl rfl)
 refine ⟨fun k => match k with | 0 => a | 1 => b | 2 => c | 3 => d | _ => 0, fun k => ?_, rfl⟩
 match k with
 | 0 => exact has_i64 ha
 | 1 => exact has_i64 hb
 | 2 => exact has_i64 hc
 | 3 => exact has_i64 hd
 | _ + 4 => exact ⟨show (-9223372036854775808 : Int) ≤ 0 by decide, show (0 : Int) ≤ 9223372036854775807 by decide⟩
end
end Go.Proofs.YteofmaiojepdkaaGreat
