/- Chapter 05 in plain Lean: entries that are there already add nothing, further ones change no routine. No condition beyond what each states. -/
import Derived.Test.YteofmaiojepdkaaGreatSdLsClox
import Derived.Test.YteofmaiojepdkaaGreatSdSpGd
set_option linter.all false
namespace Go.Proofs.YteofmaiojepdkaaGreat
open Go Go.RowKit Go.Maps Go.Sort
def TwoV (w : World) (v : Value) (n : Nat) (Q : Nat → Nat → Int) : Prop := ∃ p cap, v = .slice p n cap ∧ n ≤ cap ∧ (0 < n → ∃ g off c t fr, p = some ⟨g, off, none⟩ ∧ w.heap[g]? = some (.cells c t fr) ∧ ∀ i, i < n → (c.extract (off + i * 2) (off + i * 2 + 2)).toList = [.int .i64 (Q i 0), .int .i64 (Q i 1)])
theorem TwoV.below {w w' : World} {v : Value} {n : Nat} {Q : Nat → Nat → Int} (h : TwoV w v n Q) (hb : Below w.heap.size w w') : TwoV w' v n Q := by
 obtain ⟨p, cap, e, hc, h⟩ := h
 refine ⟨p, cap, e, hc, fun h0 => ?_⟩
 obtain ⟨g, off, c, t, fr, e, hg, hx⟩ := h h0
 exact ⟨g, off, c, t, fr, e, za hb hg, hx⟩
def plsQ (n : Nat) (Q : Nat → Nat → Int) : List zc := (List.range (min n 4)).map fun k => ⟨Q k 0, Q k 1 % 65536⟩
theorem plsQ_len (n : Nat) (Q : Nat → Nat → Int) : (plsQ n Q).length ≤ 4 := by unfold plsQ; rw [List.length_map, List.length_range]; omega
theorem plsQ_ok {n : Nat} {Q : Nat → Nat → Int} (h : ∀ i j, yX (Q i j)) : ∀ p ∈ plsQ n Q, yQ p := fun p hp => by
 unfold plsQ at hp
 obtain ⟨k, -, rfl⟩ := List.mem_map.1 hp
 exact ⟨h k 0, by dsimp only; omega, by dsimp only; omega⟩
def plsT (m : Nat) (Q : Nat → Nat → Int) : List zc := (List.range m).map fun k => ⟨Q k 0, Q k 1 % 65536⟩
theorem plsT_snoc (m : Nat) (Q : Nat → Nat → Int) : zt (plsT m Q) ++ [.int .i64 (Q m 0), .int .u16 (Q m 1 % 65536)] = zt (plsT (m + 1) Q) := by
 unfold plsT
 rw [List.range_succ, List.map_append]
 show _ = zt (_ ++ [_])
 unfold zt
 rw [List.flatMap_append]
 rfl
theorem plsT_len (m : Nat) (Q : Nat → Nat → Int) : (plsT m Q).length = m := by unfold plsT; simp
theorem two_cells {c : Array Value} {o : Nat} {a b : Value} (h : (c.extract o (o + 2)).toList = [a, b]) : c[o]? = some a ∧ c[o + 1]? = some b := by
 have h0 := congrArg (fun l : List Value => l[0]?) h
 have h1 := congrArg (fun l : List Value => l[1]?) h
 simp only [Array.getElem?_toList] at h0 h1
 rw [Array.getElem?_extract] at h0 h1
 have h6 : min 2 (c.size - o) = 2 := by simpa using congrArg List.length h
 rw [if_pos (by omega)] at h0 h1
 exact ⟨h0, h1⟩
def PlP (l : List zc) (w : World) (e : Ending) (w' : World) : Prop := (∃ A c, e = .returned (.slice A l.length c) ∧ w'.ownsRow w.heap.size 47 2 (.slice A l.length c) l.length (zt l)) ∧ Below w.heap.size w w'
set_option maxRecDepth 100000 in
set_option maxHeartbeats 4000000 in
theorem places_any (p : Option Addr) (n cap : Nat) (Q : Nat → Nat → Int) (hn : n ≤ 9223372036854775807) (w : World) (hQ : TwoV w (.slice p n cap) n Q) :
  Calls Tryz.prog 18 #[.slice p n cap] w (PlP (plsQ n Q) w) := by
 have HQ := zh hQ
 have hcap : n ≤ cap := by obtain ⟨_, _, e, h, -⟩ := hQ; injection e with _ _ e; omega
 clear hQ
 go_enter Tryz.func18, Tryz.ntmps18
 go_wp2_with fail
 go_loopw [3, 4] (fun v i wr => ∃ m : Nat, m ≤ n ∧ m ≤ 4 ∧ i = .int .i64 m ∧ Hid (wr.ownsRow w.heap.size 47 2 v m (zt (plsT m Q))) ∧ Hid (Below w.heap.size w wr)) (fun v i _ => 4 - (intOf i).toNat)
 case atStart => exact ⟨0, Nat.zero_le _, Nat.zero_le _, rfl, zh (World.ownsRow_nil _ _ _ _), zh (Below.refl _ _)⟩
 case round =>
  obtain ⟨m, hm, hm4, rfl, HO, HB⟩ := hrel
  obtain ⟨A, c, rfl, -⟩ := zL HO.out
  by_cases hlt : m < n
  ·by_cases h4 : m < 4
   ·obtain ⟨p', cap', he, hc, hx⟩ := HQ.out.below HB.out
    injection he with e1 _ e2
    subst e1 e2
    obtain ⟨g, off, cs, t, fr, rfl, hg, hrow⟩ := hx (by omega)
    obtain ⟨hq0, hq1⟩ := two_cells (hrow m hlt)
    have HG := zh hg
    have HQ0 := zh hq0
    have HQ1 := zh hq1
    have HLT := zh (And.intro hlt h4)
    have HQS := zh HQ.out
    clear hx hg hrow hq0 hq1 HQ
    go_upto_region 5 with fail
    refine zm (S := fun W => W.heap[g]? = some (.cells cs t fr)) [15] (by kernel_rfl) HG.out (fun hHeld => ?_)
    (refine tkZ 0 (v := ?_) rfl (by assumption) ?_ ?_; rotate_left; (focus (intro w hSw; (try dsimp only at hSw); go_simp; try with_reducible rfl)); (try simp only [zA, zB, zC, Act.put, zD, zE, zF]))
    (refine tkZ 1 (v := ?_) rfl (by assumption) ?_ ?_; rotate_left; (focus (intro w hSw; (try dsimp only at hSw); go_simp; try with_reducible rfl)); (try simp only [zA, zB, zC, Act.put, zD, zE, zF]))
    (refine tkZ 2 (v := ?_) rfl (by assumption) ?_ ?_; rotate_left; (focus (intro w hSw; (try dsimp only at hSw); go_simp; try with_reducible rfl)); (try simp only [zA, zB, zC, Act.put, zD, zE, zF]))
    (refine tkZ 3 (v := ?_) rfl (by assumption) ?_ ?_; rotate_left; (focus (intro w hSw; (try dsimp only at hSw); go_simp; try with_reducible rfl)); (try simp only [zA, zB, zC, Act.put, zD, zE, zF]))
    (refine tkZ 4 (v := ?_) rfl (by assumption) ?_ ?_; rotate_left; (focus (intro w hSw; (try dsimp only at hSw); go_simp; try with_reducible rfl)); (try simp only [zA, zB, zC, Act.put, zD, zE, zF]))
    (refine tkZ 5 (v := .int .i64 (Q m 0)) rfl (by assumption) (fun W hS => zq _ _ rfl _ _ rfl _ _ _ hS _ HQ0.out (fun _ => by kernel_rfl)) ?_; (try simp only [zA, zB, zC, Act.put, zD, zE, zF]))
    (refine tkZ 6 (v := ?_) rfl (by assumption) ?_ ?_; rotate_left; (focus (intro w hSw; (try dsimp only at hSw); go_simp; try with_reducible rfl)); (try simp only [zA, zB, zC, Act.put, zD, zE, zF]))
    (refine tkZ 7 (v := ?_) rfl (by assumption) ?_ ?_; rotate_left; (focus (intro w hSw; (try dsimp only at hSw); go_simp; try with_reducible rfl)); (try simp only [zA, zB, zC, Act.put, zD, zE, zF]))
    (refine tkZ 8 (v := ?_) rfl (by assumption) ?_ ?_; rotate_left; (focus (intro w hSw; (try dsimp only at hSw); go_simp; try with_reducible rfl)); (try simp only [zA, zB, zC, Act.put, zD, zE, zF]))
    (refine tkZ 9 (v := ?_) rfl (by assumption) ?_ ?_; rotate_left; (focus (intro w hSw; (try dsimp only at hSw); go_simp; try with_reducible rfl)); (try simp only [zA, zB, zC, Act.put, zD, zE, zF]))
    (refine tkZ 10 (v := .int .i64 (Q m 1)) rfl (by assumption) (fun W hS => zq _ _ rfl _ _ rfl _ _ _ hS _ HQ1.out (fun _ => by kernel_rfl)) ?_; (try simp only [zA, zB, zC, Act.put, zD, zE, zF]))
    (refine tkZ 11 (v := .int .u16 (Q m 1 % 65536)) rfl (by assumption) (fun W hS => by clear hS; go_simp; first | done | rfl) ?_; (try simp only [zA, zB, zC, Act.put, zD, zE, zF]))
    (refine tkZ 12 (v := ?_) rfl (by assumption) ?_ ?_; rotate_left; (focus (intro w hSw; (try dsimp only at hSw); go_simp; try with_reducible rfl)); (try simp only [zA, zB, zC, Act.put, zD, zE, zF]))
    have HD := zh (HB.out.drew)
    have HOD := zh (zk HO.out (zl.refl (fun _ => False) wr).drew (fun _ _ e => e))
    obtain ⟨wd, hwd⟩ : ∃ wd, wr.drew = wd := ⟨_, rfl⟩
    have hgd : wd.heap[g]? = some (.cells cs t fr) := hwd ▸ HG.out
    have HGD := zh hgd
    rw [hwd] at HD HOD ⊢
    clear hwd hgd hHeld
    refine yk 13 rfl (fun K hK => ?_)
    go_simp
    have HDA := zh (HD.out.alloc HD.out.size (zr ⟨Q m 0, Q m 1 % 65536⟩))
    have HOA := zh (HOD.out.alloc (zr ⟨Q m 0, Q m 1 % 65536⟩))
    have HGA := zh (za ((Below.refl _ _).alloc (zn _) (zr ⟨Q m 0, Q m 1 % 65536⟩)) HGD.out)
    refine hK.out _ _ (.inr HGA.out) ?_
    (try simp only [zA, zB, zC, Act.put, zD, zE, zF])
    clear hK K
    refine yk 14 rfl (fun K hK => ?_)
    refine xw (.tmp 15) (.tmp 28) 40 47 rfl 2 16 _ xz Tryz.underlying40 rfl (by decide) (by decide) w.heap.size HDA.out.size (.slice A m c) m (zt (plsT m Q)) rfl HOA.out (by omega) wd.heap.size 1 _ _ _ rfl (heap_alloc_new wd (zr ⟨Q m 0, Q m 1 % 65536⟩)) rfl rfl (by decide) (by decide) ?_
    intro ga cp w6 ho6 hg6 hv6
    have HO6 := zh ho6
    have HB6 := zh (HDA.out.grown hg6 HDA.out.size (fun k hk => (HOA.out.lt k hk).1))
    have hlg : g < w.heap.size := by
     obtain ⟨p2, c2, e2, -, h2⟩ := HQS.out
     injection e2 with e2 _ _
     obtain ⟨g2, o2, c3, t3, fr3, e3, hg2, -⟩ := h2 (by have := HLT.out; omega)
     rw [← e2] at e3
     injection e3 with e3
     injection e3 with e3 _
     rw [e3]
     exact (Array.getElem?_eq_some_iff.1 hg2).1
    have HG6 := zh ((hg6.block g (Array.getElem?_eq_some_iff.1 HGA.out).1 (fun e => by have := (HOA.out.lt _ e.symm).1; omega)).trans HGA.out)
    clear ho6 hg6 hv6 hlg
    refine hK.out _ _ (.inr HG6.out) ?_
    (try simp only [zA, zB, zC, Act.put, zD, zE, zF])
    clear hK K
    refine ya 15 ?_
    simp only [List.drop_succ_cons, List.drop_zero]
    go_wp2_with fail
    go_roundw
    case rel => exact ⟨m + 1, HLT.out.1, HLT.out.2, by go_num, zh (by rw [← plsT_snoc]; exact HO6.out), HB6⟩
    case measure => have h1 := HLT.out; simp [intOf]; omega
   ·obtain rfl : m = 4 := by omega
    have HE := zh (show plsQ n Q = plsT 4 Q by unfold plsQ plsT; rw [show min n 4 = 4 by omega])
    go_wp2_with fail
    go_ret
    rw [HE.out]
    exact ⟨⟨A, c, by rw [plsT_len]; rfl, by rw [plsT_len]; exact HO.out⟩, HB.out⟩
  ·obtain rfl : m = n := by omega
   have HE := zh (show plsQ m Q = plsT m Q by unfold plsQ plsT; rw [show min m 4 = m by omega])
   go_wp2_with fail
   go_ret
   rw [HE.out]
   exact ⟨⟨A, c, by rw [plsT_len]; rfl, by rw [plsT_len]; exact HO.out⟩, HB.out⟩
end Go.Proofs.YteofmaiojepdkaaGreat
namespace Go.Proofs.YteofmaiojepdkaaGreat
open Go.ChangeShapes Go.WideShapes Go.ChangeAt Go.RowKit Go.Deep
set_option maxRecDepth 100000
theorem two_of {w : World} {p : Option Addr} {len b off : Nat} {Q : Nat → Nat → Int} (hp : 0 < len → p = some ⟨b, off, none⟩ ∧ b < w.heap.size) (hQ : ∀ i, i < len → ∀ j, j < 2 → w.cell? ⟨b, off + i * 2 + j, none⟩ = some (.int .i64 (Q i j)) ∧ yX (Q i j)) :
  ∃ Q' : Nat → Nat → Int, (∀ i j, yX (Q' i j)) ∧ ∀ cap, len ≤ cap → TwoV w (.slice p len cap) len Q' := by
 obtain ⟨Q', hQ'⟩ : ∃ Q' : Nat → Nat → Int, ∀ i j, Q' i j = if i < len ∧ j < 2 then Q i j else 0 := ⟨fun i j => if i < len ∧ j < 2 then Q i j else 0, fun _ _ => rfl⟩
 refine ⟨Q', fun i j => ?_, fun cap hc => ⟨p, cap, rfl, hc, fun h0 => ?_⟩⟩
 ·rw [hQ']
  split
  ·rename_i h; exact (hQ i h.1 j h.2).2
  ·exact ⟨by decide, by decide⟩
 ·obtain ⟨c, t, fr, hg, -⟩ := cell_block (hQ 0 h0 0 (by omega)).1
  refine ⟨b, off, c, t, fr, (hp h0).1, hg, fun i hi => ?_⟩
  have hc : ∀ j, j < 2 → c[off + i * 2 + j]? = some (.int .i64 (Q i j)) := fun j hj => by
   have := (hQ i hi j hj).1
   rwa [cell_of_row _ _ _ _ _ _ hg] at this
  have e : ∀ j, j < 2 → Q' i j = Q i j := fun j hj => by rw [hQ']; exact if_pos ⟨hi, hj⟩
  rw [e 0 (by omega), e 1 (by omega)]
  refine ext_at (L := [.int .i64 (Q i 0), .int .i64 (Q i 1)]) fun j hj => ?_
  have hj' : j < 2 := hj
  rw [hc j hj']
  rcases (show j = 0 ∨ j = 1 by omega) with rfl | rfl <;> rfl
end Go.Proofs.YteofmaiojepdkaaGreat
namespace Go.Proofs.YteofmaiojepdkaaGreat
open Go Go.RowKit Go.Maps Go.Sort
theorem routine5_at {R : List RtR} {p : zc} {A : Option Addr} {c : Nat} {w : World} (h : RdS w 8 A R.length c (R.flatMap rtvL)) (hl : R.length ≤ 9223372036854775807) (hp : p ∈ yI R) :
  Calls Tryz.prog 21 #[.slice A R.length c, .agg #[.int .i64 p.bank, .int .u16 p.addr]] w fun e w' => (∃ (k : Nat) (x : RtR), R[k]? = some x ∧ x.1.entry = p ∧ e = .returned (.int .i64 k)) ∧ Below w.heap.size w w' :=
 (routine5_any R p A c w h hl).mono fun e w' ⟨h, hb⟩ => by
  rcases h with h | ⟨h, -⟩
  ·exact ⟨h, hb⟩
  ·exact absurd hp h
end Go.Proofs.YteofmaiojepdkaaGreat
namespace Go.Proofs.YteofmaiojepdkaaGreat
theorem Ent.mono {I : zp} {m m' : List zc} (h : ∀ p ∈ m, Ent I m' p) {p : zc} (hp : Ent I m p) : Ent I m' p := by
 induction hp with
 | first => exact .first
 | vec h0 => exact .vec h0
 | more hm => exact h _ hm
 | call _ hr hq ih => exact .call ih hr hq
 | thunk _ ht ih => exact .thunk ih ht
theorem x7.more {I : zp} {m m' : List zc} (h : ∀ p ∈ m, Ent I m' p) (h' : ∀ p ∈ m', Ent I m p) {L : LstS} (hL : x7 I m L) : x7 I m' L := by
 have he : ∀ p, Ent I m p ↔ Ent I m' p := fun p => ⟨Ent.mono h, Ent.mono h'⟩
 have hr : ∀ o, yT I m o → yT I m' o := by
  intro o ho
  cases o with
  | none =>
   obtain ⟨l, h1, h2, h3⟩ := ho
   exact ⟨l, h1, fun p hp => (he p).1 (h2 p hp), h3⟩
  | some rs => exact ⟨ho.1, ho.2.1, ho.2.2.1, fun p => (ho.2.2.2 p).trans (he p)⟩
 rcases hL with ⟨h1, h2⟩ | ⟨rs, its, h1, h2, h3⟩
 ·exact .inl ⟨hr _ h1, h2⟩
 ·exact .inr ⟨rs, its, hr _ h1, h2, h3⟩
structure MoreP (I : zp) (more : List zc) (A B : LstS) : Prop where
 rt : ∀ r ∈ A.rts, r ∈ B.rts
 en : ∀ p ∈ more, p ∈ B.rts.map (·.entry)
 same : ∀ L, x7 I (A.rts.map (·.entry)) L → L = A
theorem more_p {I : zp} (hI : LaidI I) {more : List zc} (hm : ∀ p ∈ more, yQ p) (hl : more.length ≤ 4) {A B : LstS} (ha : x7 I [] A) (hb : x7 I more B) : MoreP I more A B := by
 obtain ⟨rs, its, h1, h2, h3, rfl⟩ := few_lst hI.ok hI.few (fun p hp => by cases hp) (by simp) ha
 obtain ⟨rs', its', k1, k2, k3, rfl⟩ := few_lst hI.ok hI.few hm (by omega) hb
 refine ⟨fun r hr => ?_, fun p hp => (k1.2.2.2 p).2 (.more hp), fun L hL => ?_⟩
 ·have he : Ent I more r.entry := Ent.mono (fun p hp => by cases hp) ((h1.2.2.2 r.entry).1 (List.mem_map.2 ⟨r, hr, rfl⟩))
  obtain ⟨r', hr', e⟩ := List.mem_map.1 ((k1.2.2.2 r.entry).2 he)
  have h4 := h1.2.2.1 r hr
  have h5 := k1.2.2.1 r' hr'
  rw [e] at h5
  rw [h4.uniq h5]
  exact hr'
 ·exact hL.uniq (x7.more (fun p hp => by cases hp) (fun p hp => (h1.2.2.2 p).1 hp) ha)
end Go.Proofs.YteofmaiojepdkaaGreat
