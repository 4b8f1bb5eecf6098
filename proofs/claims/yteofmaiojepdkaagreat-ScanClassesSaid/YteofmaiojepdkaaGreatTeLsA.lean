/- Rows of numbers and of marks, told by functions. No condition. -/
import Derived.Test.YteofmaiojepdkaaGreatTeScB
import Derived.Test.YteofmaiojepdkaaGreatTeRmG
set_option linter.all false
namespace Go.Proofs.YteofmaiojepdkaaGreat
open Go Go.RowKit Go.Maps Go.Sort
theorem img_other {w : World} {I : zp} {gb gd bc dc k : Nat} {cs : Array Value} (h : yN w I (some ⟨gb, 0, none⟩) bc (some ⟨gd, 0, none⟩) dc) (h1 : gb ≠ k) (h2 : gd ≠ k) : yN (w.setRow k cs) I (some ⟨gb, 0, none⟩) bc (some ⟨gd, 0, none⟩) dc := by
 have key : ∀ {s g n c : Nat} {xs : List Value}, g ≠ k → RdS w s (some ⟨g, 0, none⟩) n c xs → RdS (w.setRow k cs) s (some ⟨g, 0, none⟩) n c xs := fun hg hr => ⟨hr.le, hr.len, fun h0 => by
  obtain ⟨g', o, cur, T, fr, e, h3, h4⟩ := hr.at_ h0
  injection e with e
  injection e with e1 e2
  subst e1 e2
  exact ⟨_, _, cur, T, fr, rfl, (setRow_other _ _ _ _ hg).trans h3, h4⟩⟩
 exact ⟨key h1 h.bk, key h2 h.dt⟩
set_option maxRecDepth 100000 in
set_option maxHeartbeats 4000000 in
theorem laid_any (p : Option Addr) (n cap : Nat) (Q : Nat → Nat → Int) (hn : n ≤ 9223372036854775807) (N : Nat → Int) (w : World) (hQ : FivV w (.slice p n cap) n Q) :
  Calls Tryz.prog 15 #[.slice p n cap, .agg #[.int .i64 (N 0), .int .i64 (N 1), .int .i64 (N 2), .int .i64 (N 3)]] w (L5P w) := by
 have HX := zh (Bx.two w (boxQ N) (imgC (.slice none 0 0) 0 (.slice none 0 0)))
 have hcap : n ≤ cap := by obtain ⟨_, _, e, h, -⟩ := hQ; injection e with _ _ e; omega
 obtain ⟨m, hm⟩ : ∃ m, min n 60 = m := ⟨_, rfl⟩
 have hmn : m ≤ n := by omega
 have HFV := zh hQ
 have HL5 := zh (fun p' (hp : 0 < n → p' = p) W (hb : Below w.heap.size w W) => laid5_any p' m cap Q (by omega) N W (by
  by_cases h0 : 0 < n
  ·rw [hp h0]; exact (hQ.below hb).cut hmn
  ·exact ⟨p', cap, rfl, by omega, fun h => by omega⟩))
 have hmin : min (n : Int) 60 = (m : Int) := by omega
 have hmc : m ≤ cap := by omega
 have hpp : 0 < n → ∃ g off, p = some ⟨g, off, none⟩ := fun h0 => by
  obtain ⟨p', c', e, -, h⟩ := hQ
  injection e with e1 _ _
  subst e1
  obtain ⟨g, off, -, -, -, e, -⟩ := h h0
  exact ⟨g, off, e⟩
 clear hQ hm
 go_enter Tryz.func15, Tryz.ntmps15
 go_upto_region 1 with fail
 obtain ⟨wi, hwi⟩ : ∃ wi, (w.alloc (boxQ N)).alloc (imgC (.slice none 0 0) 0 (.slice none 0 0)) = wi := ⟨_, rfl⟩
 rw [hwi] at HX ⊢
 clear hwi
 by_cases h0 : 0 < n
 ·obtain ⟨g, off, rfl⟩ := hpp h0
  refine zu (S := fun W => W.heap[w.heap.size]? = some (boxQ N)) [7] (by kernel_rfl) HX.out.b0 (fun hHeld => ?_)
  (refine tz 0 ?_)
  (refine tz 1 ?_)
  (refine tz 2 ?_)
  (refine tkZ 3 (v := .int .i64 m) rfl (by assumption) (fun W hS => by clear hS; go_simp; first | done | rfl) ?_; (refine pts ?_))
  (refine tkZ 4 (v := .slice (some ⟨g, off, none⟩) m cap) rfl (by assumption) (fun W hS => by clear hS; go_simp; first | done | rfl) ?_; (refine pts ?_))
  (refine tkZ 5 (v := .agg #[.int .i64 (N 0), .int .i64 (N 1), .int .i64 (N 2), .int .i64 (N 3)]) rfl (by assumption) (fun W hS => yr _ _ rfl _ rfl _ _ _ hS (by kernel_rfl)) ?_; (refine pts ?_))
  have HD := zh (HX.out.stay (Below.refl _ _).drew)
  refine yI 6 rfl (fun K hK => ?_)
  go_simp
  go_at_call 37
  (with_reducible refine (HL5.out _ (fun _ => rfl) _ HD.out.bb).mono ?_)
  rintro e1 w1 ⟨⟨I, gb, gd, ⟨hI, hlb, hld⟩, hI3, rfl, hV⟩, hb1⟩
  have HI := zh (And.intro hI (And.intro hI3 hV))
  clear hI3 hI hV
  go_simp
  have HD1 := zh (HD.out.stay hb1)
  have hz := HD.out.z
  simp only [List.length_cons, List.length_nil] at hz
  have HGB := zh (show w.heap.size + 2 ≤ gb ∧ w.heap.size + 2 ≤ gd from ⟨Nat.le_trans hz hlb, Nat.le_trans hz hld⟩)
  refine hK.out _ _ (.inr HD1.out.b0) ?_
  (refine pts ?_)
  clear hK K hHeld hb1 hz hlb hld
  refine ys 7 ?_
  simp only [List.drop_succ_cons, List.drop_zero]
  go_wp2_with (first | (refine stR (HD1.out.b1) ?_))
  refine bodyPost_ret (results_cell_row (cs := #[.slice (some ⟨gb, 0, none⟩) I.banks.length 3, .int .u16 I.entry, .int .u16 I.vector, .slice (some ⟨gd, 0, none⟩) I.data.length 3, .slice none 0 0]) (fr := (0, 0)) Tryz.results15 _ _ (w.heap.size + 1) 31 _ ?_ (setRow_heap _ _ _ _ _ _ HD1.out.b1) Tryz.underlying31 rfl (by kernel_rfl)) rfl ?_
  ·rfl
  ·exact ⟨⟨I, gb, gd, ⟨HI.out.1, by have := HGB.out.1; omega, by have := HGB.out.2; omega⟩, HI.out.2.1, rfl, img_other HI.out.2.2 (by have := HGB.out.1; omega) (by have := HGB.out.2; omega)⟩, below_setRow HD1.out.bb (by omega) _⟩
 ·obtain rfl : n = 0 := by omega
  obtain rfl : m = 0 := by omega
  refine zu (S := fun W => W.heap[w.heap.size]? = some (boxQ N)) [7] (by kernel_rfl) HX.out.b0 (fun hHeld => ?_)
  (refine tz 0 ?_)
  (refine tz 1 ?_)
  (refine tz 2 ?_)
  (refine tkZ 3 (v := .int .i64 0) rfl (by assumption) (fun W hS => by clear hS; go_simp; first | done | rfl) ?_; (refine pts ?_))
  obtain ⟨p', hp'⟩ : ∃ p', (if cap = 0 then p else p.map fun a => a.add 0) = p' := ⟨_, rfl⟩
  (refine tkZ 4 (v := .slice p' 0 cap) rfl (by assumption) (fun W hS => by clear hS; rw [← hp']; go_simp; first | done | rfl) ?_; (refine pts ?_))
  clear hp'
  (refine tkZ 5 (v := .agg #[.int .i64 (N 0), .int .i64 (N 1), .int .i64 (N 2), .int .i64 (N 3)]) rfl (by assumption) (fun W hS => yr _ _ rfl _ rfl _ _ _ hS (by kernel_rfl)) ?_; (refine pts ?_))
  have HD := zh (HX.out.stay (Below.refl _ _).drew)
  refine yI 6 rfl (fun K hK => ?_)
  go_simp
  go_at_call 37
  (with_reducible refine (HL5.out _ (fun h => absurd h (by omega)) _ HD.out.bb).mono ?_)
  rintro e1 w1 ⟨⟨I, gb, gd, ⟨hI, hlb, hld⟩, hI3, rfl, hV⟩, hb1⟩
  have HI := zh (And.intro hI (And.intro hI3 hV))
  clear hI3 hI hV
  go_simp
  have HD1 := zh (HD.out.stay hb1)
  have hz := HD.out.z
  simp only [List.length_cons, List.length_nil] at hz
  have HGB := zh (show w.heap.size + 2 ≤ gb ∧ w.heap.size + 2 ≤ gd from ⟨Nat.le_trans hz hlb, Nat.le_trans hz hld⟩)
  refine hK.out _ _ (.inr HD1.out.b0) ?_
  (refine pts ?_)
  clear hK K hHeld hb1 hz hlb hld
  refine ys 7 ?_
  simp only [List.drop_succ_cons, List.drop_zero]
  go_wp2_with (first | (refine stR (HD1.out.b1) ?_))
  refine bodyPost_ret (results_cell_row (cs := #[.slice (some ⟨gb, 0, none⟩) I.banks.length 3, .int .u16 I.entry, .int .u16 I.vector, .slice (some ⟨gd, 0, none⟩) I.data.length 3, .slice none 0 0]) (fr := (0, 0)) Tryz.results15 _ _ (w.heap.size + 1) 31 _ ?_ (setRow_heap _ _ _ _ _ _ HD1.out.b1) Tryz.underlying31 rfl (by kernel_rfl)) rfl ?_
  ·rfl
  ·exact ⟨⟨I, gb, gd, ⟨HI.out.1, by have := HGB.out.1; omega, by have := HGB.out.2; omega⟩, HI.out.2.1, rfl, img_other HI.out.2.2 (by have := HGB.out.1; omega) (by have := HGB.out.2; omega)⟩, below_setRow HD1.out.bb (by omega) _⟩
end Go.Proofs.YteofmaiojepdkaaGreat
namespace Go.Proofs.YteofmaiojepdkaaGreat
open Go Go.RowKit Go.Maps Go.Sort
def TwoV (w : World) (v : Value) (n : Nat) (Q : Nat → Nat → Int) : Prop := ∃ p cap, v = .slice p n cap ∧ n ≤ cap ∧ (0 < n → ∃ g off c t fr, p = some ⟨g, off, none⟩ ∧ w.heap[g]? = some (.cells c t fr) ∧ ∀ i, i < n → (c.extract (off + i * 2) (off + i * 2 + 2)).toList = [.int .i64 (Q i 0), .int .i64 (Q i 1)])
theorem TwoV.below {w w' : World} {v : Value} {n : Nat} {Q : Nat → Nat → Int} (h : TwoV w v n Q) (hb : Below w.heap.size w w') : TwoV w' v n Q := by
 obtain ⟨p, cap, e, hc, h⟩ := h
 refine ⟨p, cap, e, hc, fun h0 => ?_⟩
 obtain ⟨g, off, c, t, fr, e, hg, hx⟩ := h h0
 exact ⟨g, off, c, t, fr, e, za hb hg, hx⟩
def plsQ (n : Nat) (Q : Nat → Nat → Int) : List zb := (List.range (min n 4)).map fun k => ⟨Q k 0, Q k 1 % 65536⟩
theorem plsQ_len (n : Nat) (Q : Nat → Nat → Int) : (plsQ n Q).length ≤ 4 := by unfold plsQ; rw [List.length_map, List.length_range]; omega
theorem plsQ_ok {n : Nat} {Q : Nat → Nat → Int} (h : ∀ i j, yX (Q i j)) : ∀ p ∈ plsQ n Q, xf p := fun p hp => by
 unfold plsQ at hp
 obtain ⟨k, -, rfl⟩ := List.mem_map.1 hp
 exact ⟨h k 0, by dsimp only; omega, by dsimp only; omega⟩
def plsT (m : Nat) (Q : Nat → Nat → Int) : List zb := (List.range m).map fun k => ⟨Q k 0, Q k 1 % 65536⟩
theorem plsT_snoc (m : Nat) (Q : Nat → Nat → Int) : zK (plsT m Q) ++ [.int .i64 (Q m 0), .int .u16 (Q m 1 % 65536)] = zK (plsT (m + 1) Q) := by
 unfold plsT
 rw [List.range_succ, List.map_append]
 show _ = zK (_ ++ [_])
 unfold zK
 rw [List.flatMap_append]
 rfl
theorem plsT_len (m : Nat) (Q : Nat → Nat → Int) : (plsT m Q).length = m := by unfold plsT; simp
theorem two_cells {c : Array Value} {o : Nat} {a b : Value} (h : (c.extract o (o + 2)).toList = [a, b]) : c[o]? = some a ∧ c[o + 1]? = some b := by
 have h0 := congrArg (fun l : List Value => l[0]?) h
 have h1 := congrArg (fun l : List Value => l[1]?) h
 simp only [Array.getElem?_toList] at h0 h1
 rw [Array.getElem?_extract] at h0 h1
 have h6 : min 2 (c.size - o) = 2 := by simpa using congrArg List.length h
 rw [if_pos (by omega)] at h0 h1
 exact ⟨h0, h1⟩
def PlP (l : List zb) (w : World) (e : Ending) (w' : World) : Prop := (∃ A c, e = .returned (.slice A l.length c) ∧ w'.ownsRow w.heap.size 47 2 (.slice A l.length c) l.length (zK l)) ∧ Below w.heap.size w w'
set_option maxRecDepth 100000 in
set_option maxHeartbeats 4000000 in
theorem places_any (p : Option Addr) (n cap : Nat) (Q : Nat → Nat → Int) (hn : n ≤ 9223372036854775807) (w : World) (hQ : TwoV w (.slice p n cap) n Q) :
  Calls Tryz.prog 18 #[.slice p n cap] w (PlP (plsQ n Q) w) := by
 have HQ := zh hQ
 have hcap : n ≤ cap := by obtain ⟨_, _, e, h, -⟩ := hQ; injection e with _ _ e; omega
 clear hQ
 go_enter Tryz.func18, Tryz.ntmps18
 go_wp2_with fail
 go_loopw [3, 4] (fun v i wr => ∃ m : Nat, m ≤ n ∧ m ≤ 4 ∧ i = .int .i64 m ∧ Hid (wr.ownsRow w.heap.size 47 2 v m (zK (plsT m Q))) ∧ Hid (Below w.heap.size w wr)) (fun v i _ => 4 - (intOf i).toNat)
 case atStart => exact ⟨0, Nat.zero_le _, Nat.zero_le _, rfl, zh (World.ownsRow_nil _ _ _ _), zh (Below.refl _ _)⟩
 case round =>
  obtain ⟨m, hm, hm4, rfl, HO, HB⟩ := hrel
  obtain ⟨A, c, rfl, -⟩ := zM HO.out
  by_cases hlt : m < n
  ·by_cases h4 : m < 4
   ·obtain ⟨p', cap', he, hc, hx⟩ := HQ.out.below HB.out
    injection he with e1 _ e2
    subst e1 e2
    obtain ⟨g, off, cs, t, fr, rfl, hg, hrow⟩ := hx (by omega)
    obtain ⟨hq0, hq1⟩ := two_cells (hrow m hlt)
    have HG := zh hg
    have HQ0 := zh hq0
    have HQ1 := zh hq1
    have HLT := zh (And.intro hlt h4)
    have HQS := zh HQ.out
    clear hx hg hrow hq0 hq1 HQ
    go_upto_region 5 with fail
    refine zu (S := fun W => W.heap[g]? = some (.cells cs t fr)) [15] (by kernel_rfl) HG.out (fun hHeld => ?_)
    (refine tz 0 ?_)
    (refine tz 1 ?_)
    (refine tz 2 ?_)
    (refine tz 3 ?_)
    (refine tz 4 ?_)
    (refine tkZ 5 (v := .int .i64 (Q m 0)) rfl (by assumption) (fun W hS => zW _ _ rfl _ _ rfl _ _ _ hS _ HQ0.out (fun _ => by kernel_rfl)) ?_; (refine pts ?_))
    (refine tz 6 ?_)
    (refine tz 7 ?_)
    (refine tz 8 ?_)
    (refine tz 9 ?_)
    (refine tkZ 10 (v := .int .i64 (Q m 1)) rfl (by assumption) (fun W hS => zW _ _ rfl _ _ rfl _ _ _ hS _ HQ1.out (fun _ => by kernel_rfl)) ?_; (refine pts ?_))
    (refine tkZ 11 (v := .int .u16 (Q m 1 % 65536)) rfl (by assumption) (fun W hS => by clear hS; go_simp; first | done | rfl) ?_; (refine pts ?_))
    (refine tz 12 ?_)
    have HD := zh (HB.out.drew)
    have HOD := zh (zo HO.out (zm.refl (fun _ => False) wr).drew (fun _ _ e => e))
    obtain ⟨wd, hwd⟩ : ∃ wd, wr.drew = wd := ⟨_, rfl⟩
    have hgd : wd.heap[g]? = some (.cells cs t fr) := hwd ▸ HG.out
    have HGD := zh hgd
    rw [hwd] at HD HOD ⊢
    clear hwd hgd hHeld
    refine yI 13 rfl (fun K hK => ?_)
    go_simp
    have HDA := zh (HD.out.alloc HD.out.size (zI ⟨Q m 0, Q m 1 % 65536⟩))
    have HOA := zh (HOD.out.alloc (zI ⟨Q m 0, Q m 1 % 65536⟩))
    have HGA := zh (za ((Below.refl _ _).alloc (zn _) (zI ⟨Q m 0, Q m 1 % 65536⟩)) HGD.out)
    refine hK.out _ _ (.inr HGA.out) ?_
    (refine pts ?_)
    clear hK K
    refine yI 14 rfl (fun K hK => ?_)
    refine jd (.tmp 15) (.tmp 28) 40 47 rfl 2 16 _ jc Tryz.underlying40 rfl (by decide) (by decide) w.heap.size HDA.out.size (.slice A m c) m (zK (plsT m Q)) rfl HOA.out (by omega) wd.heap.size 1 _ _ _ rfl (heap_alloc_new wd (zI ⟨Q m 0, Q m 1 % 65536⟩)) rfl rfl (by decide) (by decide) ?_
    intro ga cp w6 ho6 hg6 hv6
    have HO6 := zh ho6
    have HB6 := zh (HDA.out.grown hg6 HDA.out.size (fun k hk => (HOA.out.lt k hk).1))
    have hlg : g < w.heap.size := by
     obtain ⟨p2, c2, e2, -, h2⟩ := HQS.out
     injection e2 with e2 _ _
     obtain ⟨g2, o2, c3, t3, fr3, e3, hg2, -⟩ := h2 (by have := HLT.out; omega)
     rw [← e2] at e3
     injection e3 with e3
     injection e3 with e3 _
     rw [e3]
     exact (Array.getElem?_eq_some_iff.1 hg2).1
    have HG6 := zh ((hg6.block g (Array.getElem?_eq_some_iff.1 HGA.out).1 (fun e => by have := (HOA.out.lt _ e.symm).1; omega)).trans HGA.out)
    clear ho6 hg6 hv6 hlg
    refine hK.out _ _ (.inr HG6.out) ?_
    (refine pts ?_)
    clear hK K
    refine ys 15 ?_
    simp only [List.drop_succ_cons, List.drop_zero]
    go_wp2_with fail
    go_roundw
    case rel => exact ⟨m + 1, HLT.out.1, HLT.out.2, by go_num, zh (by rw [← plsT_snoc]; exact HO6.out), HB6⟩
    case measure => have h1 := HLT.out; simp [intOf]; omega
   ·obtain rfl : m = 4 := by omega
    have HE := zh (show plsQ n Q = plsT 4 Q by unfold plsQ plsT; rw [show min n 4 = 4 by omega])
    go_wp2_with fail
    go_ret
    rw [HE.out]
    exact ⟨⟨A, c, by rw [plsT_len]; rfl, by rw [plsT_len]; exact HO.out⟩, HB.out⟩
  ·obtain rfl : m = n := by omega
   have HE := zh (show plsQ m Q = plsT m Q by unfold plsQ plsT; rw [show min m 4 = m by omega])
   go_wp2_with fail
   go_ret
   rw [HE.out]
   exact ⟨⟨A, c, by rw [plsT_len]; rfl, by rw [plsT_len]; exact HO.out⟩, HB.out⟩
end Go.Proofs.YteofmaiojepdkaaGreat
namespace Go.Proofs.YteofmaiojepdkaaGreat
open Go.ChangeShapes Go.WideShapes Go.ChangeAt Go.RowKit Go.Deep
set_option maxRecDepth 100000
theorem arr4 {cs : Array Value} (h : cs.size = 4) : ∃ a b c d, cs = #[a, b, c, d] := by
 obtain ⟨l⟩ := cs
 match l, h with
 | [a, b, c, d], _ => exact ⟨a, b, c, d, rfl⟩
theorem five_of {w : World} {p : Option Addr} {len b off : Nat} {Q : Nat → Nat → Int} (hp : 0 < len → p = some ⟨b, off, none⟩ ∧ b < w.heap.size) (hQ : ∀ i, i < len → ∀ j, j < 5 → w.cell? ⟨b, off + i * 5 + j, none⟩ = some (.int .i64 (Q i j)) ∧ yX (Q i j)) :
  ∃ Q' : Nat → Nat → Int, (∀ i j, yX (Q' i j)) ∧ ∀ cap, len ≤ cap → FivV w (.slice p len cap) len Q' := by
 obtain ⟨Q', hQ'⟩ : ∃ Q' : Nat → Nat → Int, ∀ i j, Q' i j = if i < len ∧ j < 5 then Q i j else 0 := ⟨fun i j => if i < len ∧ j < 5 then Q i j else 0, fun _ _ => rfl⟩
 refine ⟨Q', fun i j => ?_, fun cap hc => ⟨p, cap, rfl, hc, fun h0 => ?_⟩⟩
 ·rw [hQ']
  split
  ·rename_i h; exact (hQ i h.1 j h.2).2
  ·exact ⟨by decide, by decide⟩
 ·obtain ⟨c, t, fr, hg, -⟩ := cell_block (hQ 0 h0 0 (by omega)).1
  refine ⟨b, off, c, t, fr, (hp h0).1, hg, fun i hi => ?_⟩
  have hc : ∀ j, j < 5 → c[off + i * 5 + j]? = some (.int .i64 (Q i j)) := fun j hj => by
   have := (hQ i hi j hj).1
   rwa [cell_of_row _ _ _ _ _ _ hg] at this
  have e : ∀ j, j < 5 → Q' i j = Q i j := fun j hj => by rw [hQ']; exact if_pos ⟨hi, hj⟩
  rw [e 0 (by omega), e 1 (by omega), e 2 (by omega), e 3 (by omega), e 4 (by omega)]
  refine ext_at (L := [.int .i64 (Q i 0), .int .i64 (Q i 1), .int .i64 (Q i 2), .int .i64 (Q i 3), .int .i64 (Q i 4)]) fun j hj => ?_
  have hj' : j < 5 := hj
  rw [hc j hj']
  rcases (show j = 0 ∨ j = 1 ∨ j = 2 ∨ j = 3 ∨ j = 4 by omega) with rfl | rfl | rfl | rfl | rfl <;> rfl
theorem two_of {w : World} {p : Option Addr} {len b off : Nat} {Q : Nat → Nat → Int} (hp : 0 < len → p = some ⟨b, off, none⟩ ∧ b < w.heap.size) (hQ : ∀ i, i < len → ∀ j, j < 2 → w.cell? ⟨b, off + i * 2 + j, none⟩ = some (.int .i64 (Q i j)) ∧ yX (Q i j)) :
  ∃ Q' : Nat → Nat → Int, (∀ i j, yX (Q' i j)) ∧ ∀ cap, len ≤ cap → TwoV w (.slice p len cap) len Q' := by
 obtain ⟨Q', hQ'⟩ : ∃ Q' : Nat → Nat → Int, ∀ i j, Q' i j = if i < len ∧ j < 2 then Q i j else 0 := ⟨fun i j => if i < len ∧ j < 2 then Q i j else 0, fun _ _ => rfl⟩
 refine ⟨Q', fun i j => ?_, fun cap hc => ⟨p, cap, rfl, hc, fun h0 => ?_⟩⟩
 ·rw [hQ']
  split
  ·rename_i h; exact (hQ i h.1 j h.2).2
  ·exact ⟨by decide, by decide⟩
 ·obtain ⟨c, t, fr, hg, -⟩ := cell_block (hQ 0 h0 0 (by omega)).1
  refine ⟨b, off, c, t, fr, (hp h0).1, hg, fun i hi => ?_⟩
  have hc : ∀ j, j < 2 → c[off + i * 2 + j]? = some (.int .i64 (Q i j)) := fun j hj => by
   have := (hQ i hi j hj).1
   rwa [cell_of_row _ _ _ _ _ _ hg] at this
  have e : ∀ j, j < 2 → Q' i j = Q i j := fun j hj => by rw [hQ']; exact if_pos ⟨hi, hj⟩
  rw [e 0 (by omega), e 1 (by omega)]
  refine ext_at (L := [.int .i64 (Q i 0), .int .i64 (Q i 1)]) fun j hj => ?_
  have hj' : j < 2 := hj
  rw [hc j hj']
  rcases (show j = 0 ∨ j = 1 by omega) with rfl | rfl <;> rfl
section
variable {w : World} {r : Reach} {base : Nat} {v : Value}
theorem arg_c4N (h : Value.okWide Tryz.prog w r base 23 v) : ∃ N : Nat → Int, (∀ k, yX (N k)) ∧ v = .agg #[.int .i64 (N 0), .int .i64 (N 1), .int .i64 (N 2), .int .i64 (N 3)] := by
 obtain ⟨cs, rfl, hsz, hall⟩ := value_flat (ts := [3, 3, 3, 3]) (by kernel_rfl) (by kernel_rfl) (by kernel_rfl) h
 obtain ⟨a, b, c, d, rfl⟩ := arr4 hsz
 obtain ⟨a, rfl, ha⟩ := cell_int Tryz.underlying3 (hall 0 _ _ rfl rfl)
 obtain ⟨b, rfl, hb⟩ := cell_int Tryz.underlying3 (hall 1 _ _ rfl rfl)
 obtain ⟨c, rfl, hc⟩ := cell_int Tryz.underlying3 (hall 2 _ _ rfl rfl)
 obtain ⟨d, rfl, hd⟩ := cell_int Tryz.underlying3 (hall 3 _ _ rfl rfl)
 refine ⟨fun k => match k with | 0 => a | 1 => b | 2 => c | 3 => d | _ => 0, fun k => ?_, rfl⟩
 match k with
 | 0 => exact has_i64 ha
 | 1 => exact has_i64 hb
 | 2 => exact has_i64 hc
 | 3 => exact has_i64 hd
 | _ + 4 => exact ⟨show (-9223372036854775808 : Int) ≤ 0 by decide, show (0 : Int) ≤ 9223372036854775807 by decide⟩
end
end Go.Proofs.YteofmaiojepdkaaGreat
namespace Go.Proofs.YteofmaiojepdkaaGreat
structure LstR (I : zp) (more : List zb) (rs : List xp) : Prop where
 so : (rs.map (·.entry)).Pairwise zO
 le : rs.length ≤ 2000
 rt : ∀ r ∈ rs, yt I r.entry r
 pl : ∀ r ∈ rs, xf r.entry
 cd : ∀ r ∈ rs, ∀ p ∈ r.code, okI I p ∧ xf p
 cl : ∀ r ∈ rs, ∀ q ∈ r.calls, q ∈ rs.map (·.entry)
 th : ∀ r ∈ rs, r.thunk = true → r.dest ∈ rs.map (·.entry)
theorem rts_lstR {I : zp} (hI : I.Ok) {more : List zb} (hm : ∀ p ∈ more, xf p) {rs : List xp} (h : yR I more (some rs)) : LstR I more rs := by
 obtain ⟨h1, h2, h3, h4⟩ := h
 have hE : ∀ r ∈ rs, Ent I more r.entry := fun r hr => (h4 _).1 (List.mem_map.2 ⟨r, hr, rfl⟩)
 refine ⟨h1, h2, h3, fun r hr => (hE r hr).plOk hI hm, fun r hr p hp => ?_, fun r hr q hq => (h4 _).2 (.call (hE r hr) (h3 r hr) hq), fun r hr ht => ?_⟩
 ·have hpe := (hE r hr).plOk hI hm
  have hir := h3 r hr
  by_cases ht : yK I r.entry
  ·rw [(hir.thk ht).2.1, List.mem_singleton] at hp
   rw [hp]
   exact ⟨ht.1, hpe⟩
  ·obtain ⟨h5, h6⟩ := (hir.mc ht p).1 hp
   exact ⟨h6, h5.plOk hpe⟩
 ·have hir := h3 r hr
  rw [hir.th] at ht
  have ht := of_decide_eq_true ht
  rw [(hir.thk ht).1]
  exact (h4 _).2 (.thunk (hE r hr) ht)
theorem lst_lstR {I : zp} (hI : I.Ok) {more : List zb} (hm : ∀ p ∈ more, xf p) {L : LstS} (h : IsLst I more L) : LstR I more L.rts := by
 have h0 : LstR I more (manyL I).rts := ⟨List.Pairwise.nil, Nat.zero_le _, fun r hr => (by cases hr), fun r hr => (by cases hr), fun r hr => (by cases hr), fun r hr => (by cases hr), fun r hr => (by cases hr)⟩
 rcases h with ⟨-, rfl⟩ | ⟨rs, its, h1, -, ⟨-, rfl⟩ | ⟨-, rfl⟩⟩
 ·exact h0
 ·exact h0
 ·exact rts_lstR hI hm h1
end Go.Proofs.YteofmaiojepdkaaGreat
namespace Go.Proofs.YteofmaiojepdkaaGreat
open Go Go.RowKit Go.Maps Go.Sort
structure LwW (I : zp) (gb gd : Nat) (gi gl : Nat) (L : LstS) (c : Nat → Nat → Int) (vc vr vi : Value) (W : World) : Prop where
 im : W.heap[gi]? = some (.cells #[.slice (some ⟨gb, 0, none⟩) I.banks.length 3, .int .u16 I.entry, .int .u16 I.vector, .slice (some ⟨gd, 0, none⟩) I.data.length 3, .slice none 0 0] 31 (0, 0))
 vw : yN W I (some ⟨gb, 0, none⟩) 3 (some ⟨gd, 0, none⟩) 3
 ls : W.heap[gl]? = some (.cells #[vc, vr, vi] 38 (0, 0))
 rd : LstD I I.banks.length c L.rts L.iss vc vr vi W
theorem LwW.below {I : zp} {gb gd gi gl : Nat} {L : LstS} {c : Nat → Nat → Int} {vc vr vi : Value} {W W' : World} (h : LwW I gb gd gi gl L c vc vr vi W) (hb : Below W.heap.size W W') : LwW I gb gd gi gl L c vc vr vi W' := ⟨za hb h.im, h.vw.below hb, za hb h.ls, h.rd.below hb⟩
abbrev imgI (I : zp) (gb gd : Nat) : Obj := .cells #[.slice (some ⟨gb, 0, none⟩) I.banks.length 3, .int .u16 I.entry, .int .u16 I.vector, .slice (some ⟨gd, 0, none⟩) I.data.length 3, .slice none 0 0] 31
abbrev lst0 : Obj := .cells #[.slice none 0 0, .slice none 0 0, .slice none 0 0] 38
theorem rd_ptr {w : World} {B s n : Nat} {T : TypeId} {A : Option Addr} {c : Nat} {xs : List Value} (h : w.ownsRow B T s (.slice A n c) n xs) : ∀ g off, A = some ⟨g, off, none⟩ → g < w.heap.size := fun g off e => by
 subst e
 exact (h.lt g rfl).2
theorem LstV.turnL {I : zp} {B : Nat} {L : LstS} {vc vr vi : Value} {W W' : World} {gl : Nat} {cs : Array Value} {fr : Nat × Nat} (h : LstV I B L vc vr vi W) (hg : W.heap[gl]? = some (.cells cs 38 fr)) (t : zm (fun k => k = gl) W W') : LstV I B L vc vr vi W' := by
 have key : ∀ k cs' T fr', W.heap[k]? = some (.cells cs' T fr') → T ≠ 38 → ¬ k = gl := fun k cs' T fr' hk hT e => by
  rw [e, hg] at hk
  injection hk with hk
  injection hk with h1 h2
  exact hT h2.symm
 obtain ⟨gs, c, h1, h2, h3⟩ := h.cls
 obtain ⟨R, h4, h5⟩ := h.rts
 exact ⟨⟨gs, c, h1, h2.turn t (fun k cs' T fr' hk hT => key k cs' T fr' hk (by rcases hT with rfl | rfl <;> decide)), h3⟩, ⟨R, h4.turn t (fun k cs' T fr' hk _ hT => key k cs' T fr' hk hT), h5⟩, zo h.iss t (yv h.iss hg (fun _ _ => zl (by decide)))⟩
theorem LstV.below {I : zp} {B : Nat} {L : LstS} {vc vr vi : Value} {W W' : World} (h : LstV I B L vc vr vi W) (hb : Below W.heap.size W W') : LstV I B L vc vr vi W' := by
 obtain ⟨gs, c, h1, h2, h3⟩ := h.cls
 obtain ⟨R, h4, h5⟩ := h.rts
 exact ⟨⟨gs, c, h1, h2.below hb, h3⟩, ⟨R, h4.below hb, h5⟩, zo h.iss (zm.ofBelow (bs := fun _ => False) hb) (fun _ _ e => e)⟩
def ScQ (I : zp) (more : List zb) (w : World) (e : Ending) (w' : World) : Prop := ∃ L A1 n1 k1 A2 n2 k2 A3 n3 k3, e = .returned (.agg #[.slice A1 n1 k1, .slice A2 n2 k2, .slice A3 n3 k3]) ∧ IsLst I more L ∧ LstV I w.heap.size L (.slice A1 n1 k1) (.slice A2 n2 k2) (.slice A3 n3 k3) w' ∧ Below w.heap.size w w'
theorem scan_q {I : zp} (hI : I.Ok) {gb gd : Nat} {more : List zb} (hm : (∀ p ∈ more, xf p) ∧ more.length ≤ 4) {A : Option Addr} {c B : Nat} {W : World} (hV : yN W I (some ⟨gb, 0, none⟩) 3 (some ⟨gd, 0, none⟩) 3) (ho : W.ownsRow B 47 2 (.slice A more.length c) more.length (zK more)) :
  Calls Tryz.prog 17 #[.agg #[.slice (some ⟨gb, 0, none⟩) I.banks.length 3, .int .u16 I.entry, .int .u16 I.vector, .slice (some ⟨gd, 0, none⟩) I.data.length 3, .slice none 0 0], .slice A more.length c] W (ScQ I more W) :=
 (scan_any I hI _ 3 _ 3 none 0 0 more hm.1 (by have := hm.2; omega) A c W hV (rd_own ho) (rd_ptr ho)).mono fun e W' ⟨L, vc, vr, vi, he, hL, hv, hb⟩ => by
  obtain ⟨c, -, hr⟩ := hv.read hI
  obtain ⟨A1, k1, rfl, -⟩ := hr.cls
  obtain ⟨R, A2, k2, rfl, -⟩ := hr.rts
  obtain ⟨A3, k3, rfl, -⟩ := hr.iss
  exact ⟨L, _, _, _, _, _, _, _, _, _, he, hL, hv, hb⟩
end Go.Proofs.YteofmaiojepdkaaGreat
namespace Go.Proofs.YteofmaiojepdkaaGreat
open Go Go.RowKit Go.Maps Go.Sort
theorem lw_mkc {I : zp} (hI : I.Ok) {gb gd gi gl B : Nat} {L : LstS} {vc vr vi : Value} {w3 W : World} (him : w3.heap[gi]? = some (imgI I gb gd)) (hV : yN w3 I (some ⟨gb, 0, none⟩) 3 (some ⟨gd, 0, none⟩) 3) (h : LstV I B L vc vr vi W) (hg : W.heap[gl]? = some lst0) (hz : w3.heap.size ≤ gl) (hb : Below w3.heap.size w3 W) :
  ∃ c, L.cls = clsL I c ∧ LwW I gb gd gi gl L c vc vr vi (W.setRow gl #[vc, vr, vi]) ∧ Below w3.heap.size w3 (W.setRow gl #[vc, vr, vi]) := by
 have hb' : Below w3.heap.size w3 (W.setRow gl #[vc, vr, vi]) := below_setRow hb hz _
 obtain ⟨c, hc, hr⟩ := (h.turnL hg ((zm.refl (fun k => k = gl) W).setRow #[vc, vr, vi] (fun _ => rfl))).read hI
 exact ⟨c, hc, ⟨za hb' him, hV.below hb', setRow_heap _ _ _ _ _ _ hg, hr⟩, hb'⟩
end Go.Proofs.YteofmaiojepdkaaGreat
namespace Go.Proofs.YteofmaiojepdkaaGreat
theorem few_len {I : zp} (hI : I.Ok) (hf : FewI I) {rs : List xp} {its : List zb} (h : IsItems rs its) (hok : ∀ p ∈ its, okI I p ∧ xf p) : its.length ≤ 20000 := by
 have h1 : its.length ≤ 16384 := by
  rw [← plA_len]
  exact ym (xy zO.irr h.so) fun p hp => mem_plA hf.n3 (ok_at (hok p hp).1).ii (hok p hp).2
 omega
end Go.Proofs.YteofmaiojepdkaaGreat
namespace Go.Proofs.YteofmaiojepdkaaGreat
def inJ (p : zb) (n b o : Nat) : Bool := decide (p.bank = b) && decide (zx p ≤ o) && decide (o < zx p + n)
def stA (b o : Nat) (p : zb) : Bool := decide (p.bank = b) && decide (zx p = o)
theorem inJ_cov (I : zp) (p : zb) (b o : Nat) : inJ p (szI I p) b o = covP I b o p := rfl
def cntF (I : zp) (M : List zb) (p : zb) (j n : Nat) : Int := (yM I M (n / 4096) (n % 4096) : Int) + if inJ p j (n / 4096) (n % 4096) then 1 else 0
def cnt0 (I : zp) (M : List zb) (n : Nat) : Int := (yM I M (n / 4096) (n % 4096) : Int)
def fstF (M : List zb) (n : Nat) : Int := if M.any (stA (n / 4096) (n % 4096)) then 1 else 0
section
variable {I : zp} {M : List zb} {p : zb} {b : Nat} (hb : p.bank = b)
theorem cnt_start : cntF I M p 0 = cnt0 I M := by
 funext n
 unfold cntF cnt0 inJ
 have : (decide (p.bank = ((n / 4096 : Nat) : Int)) && decide (zx p ≤ n % 4096) && decide (n % 4096 < zx p + 0)) = false := by
  by_cases h : zx p ≤ n % 4096
  ·rw [decide_eq_false (show ¬ n % 4096 < zx p + 0 by omega), Bool.and_false]
  ·rw [decide_eq_false h, Bool.and_false, Bool.false_and]
 rw [this]
 simp
theorem cnt_end : cntF I M p (szI I p) = cnt0 I (M ++ [p]) := by
 funext n
 unfold cntF cnt0
 rw [covN_snoc, inJ_cov]
 split <;> simp
include hb
theorem cnt_put {j : Nat} (hj : zx p + j < 4096) : (fun n => if n = b * 4096 + zx p + j then cntF I M p j (b * 4096 + zx p + j) + 1 else cntF I M p j n) = cntF I M p (j + 1) := by
 funext n
 unfold cntF inJ
 rw [hb]
 by_cases hn : n = b * 4096 + zx p + j
 ·have e1 : (b * 4096 + zx p + j) / 4096 = b := by omega
  have e2 : (b * 4096 + zx p + j) % 4096 = zx p + j := by omega
  rw [if_pos hn, hn, e1, e2, decide_eq_true (rfl : (b : Int) = b), decide_eq_true (show zx p ≤ zx p + j by omega), decide_eq_false (show ¬ zx p + j < zx p + j by omega), decide_eq_true (show zx p + j < zx p + (j + 1) by omega)]
  simp
 ·rw [if_neg hn]
  congr 1
  by_cases h1 : (b : Int) = ((n / 4096 : Nat) : Int)
  ·by_cases h2 : zx p ≤ n % 4096
   ·have h3 : n % 4096 ≠ zx p + j := fun e => hn (by omega)
    rw [show decide (n % 4096 < zx p + j) = decide (n % 4096 < zx p + (j + 1)) from decide_eq_decide.2 (by omega)]
   ·rw [decide_eq_false h2]; simp
  ·rw [decide_eq_false h1]; simp
theorem fst_put (ho : zx p < 4096) : (fun n => if n = b * 4096 + zx p then 1 else fstF M n) = fstF (M ++ [p]) := by
 funext n
 unfold fstF
 rw [List.any_append]
 by_cases hn : n = b * 4096 + zx p
 ·rw [if_pos hn]
  have : stA (n / 4096) (n % 4096) p = true := by
   unfold stA
   rw [hb, decide_eq_true (show (b : Int) = ((n / 4096 : Nat) : Int) by omega), decide_eq_true (show zx p = n % 4096 by omega)]
   rfl
  simp [this]
 ·rw [if_neg hn]
  have : stA (n / 4096) (n % 4096) p = false := by
   unfold stA
   rw [hb]
   by_cases h1 : (b : Int) = ((n / 4096 : Nat) : Int)
   ·rw [decide_eq_false (show ¬ zx p = n % 4096 by omega), Bool.and_false]
   ·rw [decide_eq_false h1, Bool.false_and]
  simp [this]
end
theorem cnt_putX {I : zp} {M : List zb} {p : zb} {b : Nat} (hb : p.bank = b) {j ix : Nat} (hj : zx p + j < 4096) (hx : b * 4096 + zx p + j = ix) : (fun n => if n = ix then cntF I M p j ix + 1 else cntF I M p j n) = cntF I M p (j + 1) := by
 subst hx
 exact cnt_put hb hj
theorem fst_putX {M : List zb} {p : zb} {b ix : Nat} (hb : p.bank = b) (ho : zx p < 4096) (hx : b * 4096 + zx p = ix) : (fun n => if n = ix then 1 else fstF M n) = fstF (M ++ [p]) := by
 subst hx
 exact fst_put hb ho
theorem cls_cases {I : zp} {its : List zb} (hp : ∀ p ∈ its, 0 < szI I p) (b o : Nat) :
  (yM I its b o = 0 ∧ (clOf I its b o = 0 ∨ clOf I its b o = 4 ∨ clOf I its b o = 5)) ∨ (yM I its b o = 1 ∧ ((its.any (stA b o) = true ∧ clOf I its b o = 1) ∨ (its.any (stA b o) = false ∧ clOf I its b o = 2))) ∨ (2 ≤ yM I its b o ∧ clOf I its b o = 3) := by
 have he : (its.any fun p => decide (p.bank = b) && decide (zx p = o) && decide (0 < szI I p)) = its.any (stA b o) := by
  rw [Bool.eq_iff_iff, List.any_eq_true, List.any_eq_true]
  constructor
  ·rintro ⟨p, h1, h2⟩
   refine ⟨p, h1, ?_⟩
   unfold stA
   simp only [Bool.and_eq_true] at h2 ⊢
   exact h2.1
  ·rintro ⟨p, h1, h2⟩
   refine ⟨p, h1, ?_⟩
   unfold stA at h2
   rw [h2, decide_eq_true (hp p h1)]
   rfl
 unfold clOf
 rw [he]
 by_cases h0 : yM I its b o = 0
 ·refine .inl ⟨h0, ?_⟩
  rw [if_pos h0]
  unfold xG
  split
  ·exact .inr (.inl rfl)
  ·split
   ·exact .inr (.inr rfl)
   ·exact .inl rfl
 ·rw [if_neg h0]
  by_cases h1 : yM I its b o = 1
  ·refine .inr (.inl ⟨h1, ?_⟩)
   rw [if_pos h1]
   cases ha : its.any (stA b o) with
   | true => exact .inl ⟨rfl, rfl⟩
   | false => exact .inr ⟨rfl, rfl⟩
  ·exact .inr (.inr ⟨by omega, by rw [if_neg h1]⟩)
theorem sz_pos {I : zp} {p : zb} (h : okI I p) : 0 < szI I p := by
 have ho := ok_at h
 have hb := ins_bd h
 have hv := yS _ hb.1 hb.2.1
 have h1 : byt (zz I p 1) 0 = byt (bankI I p) (zx p) := by
  unfold zz
  rw [if_pos ⟨ho.ii, by omega⟩]
  exact byt_extr _ _ _ 0 (by decide)
 have h2 := ho.sz1
 rw [h1, ← ok_op h, size_eq] at h2
 unfold szI
 omega
end Go.Proofs.YteofmaiojepdkaaGreat
namespace Go.Proofs.YteofmaiojepdkaaGreat
open Go Go.RowKit Go.Maps Go.Sort
theorem infoInt : (Tryz.prog.info? 3).map (fun i => (i.zero, i.size, i.bytes)) = some (some (.int .i64 0), 1, 8) := by kernel_rfl
def rowV (n : Nat) (f : Nat → Value) : Array Value := ((List.range n).map f).toArray
theorem rowV_get {n : Nat} (f : Nat → Value) {o : Nat} (h : o < n) : (rowV n f)[o]? = some (f o) := by
 unfold rowV
 simp [h]
theorem rowV_size (n : Nat) (f : Nat → Value) : (rowV n f).size = n := by unfold rowV; simp
theorem rowV_congr {n : Nat} {f g : Nat → Value} (h : ∀ o, o < n → f o = g o) : rowV n f = rowV n g := by
 unfold rowV
 congr 1
 exact List.map_congr_left fun o ho => h o (List.mem_range.1 ho)
theorem rowV_set (n : Nat) (f : Nat → Value) (k : Nat) (v : Value) : (rowV n f).setIfInBounds k v = rowV n (fun o => if o = k then v else f o) := by
 apply Array.ext_getElem?
 intro i
 rw [Array.getElem?_setIfInBounds]
 by_cases hi : i < n
 ·by_cases hk : k = i
  ·subst hk
   rw [if_pos rfl, if_pos (by rw [rowV_size]; exact hi), rowV_get _ hi, if_pos rfl]
  ·rw [if_neg hk, rowV_get _ hi, rowV_get _ hi, if_neg (fun e => hk e.symm)]
 ·have h1 : (rowV n f)[i]? = none := Array.getElem?_eq_none (by rw [rowV_size]; omega)
  have h2 : (rowV n (fun o => if o = k then v else f o))[i]? = none := Array.getElem?_eq_none (by rw [rowV_size]; omega)
  rw [h1, h2]
  by_cases hk : k = i
  ·rw [if_pos hk, if_neg (by rw [rowV_size]; omega)]
  ·rw [if_neg hk]
theorem rowV_zero (n : Nat) (z : Value) (hz : z.cells = #[z]) : rowV n (fun _ => z) = ((madeCells z.cells (n * 1)).toList).toArray := by
 apply Array.ext_getElem?
 intro i
 unfold rowV
 rw [hz]
 by_cases hi : i < n
 ·simp [madeCells, hi, Nat.mod_one]
 ·simp [madeCells, hi]
abbrev rowI (n : Nat) (f : Nat → Int) : Array Value := rowV n fun o => .int .i64 (f o)
theorem rowI_set (n : Nat) (f : Nat → Int) (k : Nat) (v : Int) : (rowI n f).setIfInBounds k (.int .i64 v) = rowI n (fun o => if o = k then v else f o) := by
 rw [rowV_set]
 exact rowV_congr fun o _ => by by_cases h : o = k <;> simp [h]
theorem made_row {w : World} {B : Nat} {e : TypeId} {g n : Nat} {z : Value} (hz : z.cells = #[z]) (h : w.ownsRow B e 1 (.slice (some ⟨g, 0, none⟩) n n) n (madeCells z.cells (n * 1)).toList) : w.heap[g]? = some (.cells (rowV n fun _ => z) e (0, 0)) := by
 rw [own_fullS h, rowV_zero n z hz]
end Go.Proofs.YteofmaiojepdkaaGreat
