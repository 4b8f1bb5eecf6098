/- Chapter 05 in plain Lean: one routine as the reference finds it: a stack of places, marks by the numbers of places, ordered lists. No condition beyond what each states. -/
import Derived.Test.YteofmaiojepdkaaGreatTbScA
import Derived.Test.YteofmaiojepdkaaGreatTbRkA
import Derived.KernelRfl
set_option linter.all false
namespace Go.Proofs.YteofmaiojepdkaaGreat
open Go Go.RowKit Go.Maps Go.Sort
section
variable {P : Program} {Q : Exit → Act → World → Prop} {ops : Array Oper} {S : World → Prop} {zs : List Nat}
theorem twoZ (i j : Nat) {oi oj : Oper} {fuel : Nat} {L : Array Bool} {a : Act} {w : World} (hi : ops[i]? = some oi) (hj : ops[j]? = some oj)
  (h1 : ∀ K : Act → World → Prop, Shut (∀ a' w', (zs.contains i = true ∨ S w') → xX P ops Q S zs fuel (L.setIfInBounds i true) a' w' → K a' w') → oi.wp P a w K Q)
  (h2 : ∀ K : Act → World → Prop, Shut (∀ a' w', (zs.contains j = true ∨ S w') → xX P ops Q S zs fuel (L.setIfInBounds j true) a' w' → K a' w') → oj.wp P a w K Q)
  (hr : Region.ready .any ops L = [i, j] := by kernel_rfl) (hwi : Region.wanted oi (yielded ops a.tmps) = true := by rfl) (hwj : Region.wanted oj (yielded ops a.tmps) = true := by rfl) : xX P ops Q S zs (fuel + 1) L a w := by
 refine ⟨fun h0 => (by rw [hr] at h0; cases h0), fun k hk => ?_⟩
 rw [hr] at hk
 rcases List.mem_cons.1 hk with e | hk
 ·subst e
  exact wpOp_step hi fun K hK => by rw [if_pos hwi]; exact h1 K fun a' w' h1 h2 => hK a' w' ⟨h1, h2⟩
 ·obtain rfl := List.mem_singleton.1 hk
  exact wpOp_step hj fun K hK => by rw [if_pos hwj]; exact h2 K fun a' w' h1 h2 => hK a' w' ⟨h1, h2⟩
end
end Go.Proofs.YteofmaiojepdkaaGreat
namespace Go.Proofs.YteofmaiojepdkaaGreat
open Go
theorem few_ne {I : zk} {more : List zb} {rs : List xc} (h : yz I more (some rs)) : rs ≠ [] := fun e => by
 have := (h.2.2.2 _).2 Ent.first
 rw [e] at this
 cases this
end Go.Proofs.YteofmaiojepdkaaGreat
namespace Go.Proofs.YteofmaiojepdkaaGreat
open Go Go.RowKit Go.Maps Go.Sort
structure RtD (I : zk) (r : xc) (c l s : Value) (w : World) : Prop where
 oc : ∃ A n, c = .slice A r.code.length n ∧ RdS w 9 A r.code.length n (x9 I r.code) ∧ r.code.length ≤ 9223372036854775807
 ol : ∃ A n, l = .slice A r.calls.length n ∧ RdS w 2 A r.calls.length n (zp r.calls) ∧ r.calls.length ≤ 9223372036854775807
 oi : ∃ A n, s = .slice A r.iss.length n ∧ RdS w 3 A r.iss.length n (yf r.iss) ∧ r.iss.length ≤ 9223372036854775807
theorem RtD.below {I : zk} {r : xc} {c l s : Value} {w w' : World} (h : RtD I r c l s w) (hb : Below w.heap.size w w') : RtD I r c l s w' := by
 obtain ⟨⟨A1, n1, e1, r1, l1⟩, ⟨A2, n2, e2, r2, l2⟩, ⟨A3, n3, e3, r3, l3⟩⟩ := h
 exact ⟨⟨A1, n1, e1, r1.below hb, l1⟩, ⟨A2, n2, e2, r2.below hb, l2⟩, ⟨A3, n3, e3, r3.below hb, l3⟩⟩
theorem own_read {w : World} {B s n : Nat} {T : TypeId} {v : Value} {xs : List Value} (h : w.ownsRow B T s v n xs) : ∃ A c, v = .slice A n c ∧ RdS w s A n c xs ∧ n ≤ 9223372036854775807 := by
 obtain ⟨A, c, rfl, -⟩ := zt h
 exact ⟨A, c, rfl, yd h, own_max h⟩
theorem RtV.read {I : zk} {B : Nat} {r : xc} {c l s : Value} {w : World} (h : RtV I B r c l s w) : RtD I r c l s w := ⟨own_read h.oc, own_read h.ol, own_read h.oi⟩
structure RnsD (I : zk) (R : List RtR) (A : Option Addr) (cap : Nat) (w : World) : Prop where
 rd : RdS w 8 A R.length cap (R.flatMap x6)
 le : R.length ≤ 9223372036854775807
 rt : ∀ x ∈ R, RtD I x.1 x.2.1 x.2.2.1 x.2.2.2 w
theorem RnsD.below {I : zk} {R : List RtR} {A : Option Addr} {cap : Nat} {w w' : World} (h : RnsD I R A cap w) (hb : Below w.heap.size w w') : RnsD I R A cap w' := ⟨h.rd.below hb, h.le, fun x hx => (h.rt x hx).below hb⟩
structure ClsD (n : Nat) (c : Nat → Nat → Int) (A : Option Addr) (cap : Nat) (w : World) : Prop where
 le : n ≤ 9223372036854775807
 rd : ∃ gs : List Nat, gs.length = n ∧ RdS w 1 A n cap (gs.map clV) ∧ ∀ b g : Nat, gs[b]? = some g → ∃ fr : Nat × Nat, w.heap[g]? = some (.cells (rowC (c b)) 5 fr)
theorem ClsD.below {n : Nat} {c : Nat → Nat → Int} {A : Option Addr} {cap : Nat} {w w' : World} (h : ClsD n c A cap w) (hb : Below w.heap.size w w') : ClsD n c A cap w' := by
 obtain ⟨gs, h1, h2, h3⟩ := h.rd
 exact ⟨h.le, gs, h1, h2.below hb, fun b g hg => by obtain ⟨fr, h4⟩ := h3 b g hg; exact ⟨fr, za hb h4⟩⟩
structure LstD (I : zk) (nb : Nat) (c : Nat → Nat → Int) (rs : List xc) (iss : List zM) (vc vr vi : Value) (w : World) : Prop where
 cls : ∃ A cap, vc = .slice A nb cap ∧ ClsD nb c A cap w
 rts : ∃ R A cap, vr = .slice A R.length cap ∧ RnsD I R A cap w ∧ R.map (·.1) = rs
 iss : ∃ A cap, vi = .slice A iss.length cap ∧ RdS w 3 A iss.length cap (yf iss) ∧ iss.length ≤ 9223372036854775807
theorem LstD.below {I : zk} {nb : Nat} {c : Nat → Nat → Int} {rs : List xc} {iss : List zM} {vc vr vi : Value} {w w' : World} (h : LstD I nb c rs iss vc vr vi w) (hb : Below w.heap.size w w') : LstD I nb c rs iss vc vr vi w' := by
 obtain ⟨⟨A1, n1, e1, r1⟩, ⟨R, A2, n2, e2, r2, l2⟩, ⟨A3, n3, e3, r3, l3⟩⟩ := h
 exact ⟨⟨A1, n1, e1, r1.below hb⟩, ⟨R, A2, n2, e2, r2.below hb, l2⟩, ⟨A3, n3, e3, r3.below hb, l3⟩⟩
theorem LstV.read {I : zk} (hI : I.Ok) {B : Nat} {L : LstS} {vc vr vi : Value} {w : World} (h : LstV I B L vc vr vi w) : ∃ c, L.cls = clsL I c ∧ LstD I I.banks.length c L.rts L.iss vc vr vi w := by
 obtain ⟨gs, c, h1, h2, h3⟩ := h.cls
 obtain ⟨R, h4, h5⟩ := h.rts
 refine ⟨c, h3, ?_, ?_, own_read h.iss⟩
 ·obtain ⟨A, cap, e, hr, hl⟩ := own_read h2.own
  rw [h1] at e hr
  exact ⟨A, cap, e, by have := hI.n64; omega, gs, h1, hr, fun b g hg => ⟨_, h2.row b g hg⟩⟩
 ·obtain ⟨A, cap, e, hr, hl⟩ := own_read h4.own
  exact ⟨R, A, cap, e, ⟨hr, hl, fun x hx => (h4.rv x hx).read⟩, h5.symm⟩
end Go.Proofs.YteofmaiojepdkaaGreat
namespace Go.Proofs.YteofmaiojepdkaaGreat
open Go Go.RowKit Go.Maps Go.Sort
def TwoV (w : World) (v : Value) (n : Nat) (Q : Nat → Nat → Int) : Prop := ∃ p cap, v = .slice p n cap ∧ n ≤ cap ∧ (0 < n → ∃ g off c t fr, p = some ⟨g, off, none⟩ ∧ w.heap[g]? = some (.cells c t fr) ∧ ∀ i, i < n → (c.extract (off + i * 2) (off + i * 2 + 2)).toList = [.int .i64 (Q i 0), .int .i64 (Q i 1)])
theorem TwoV.below {w w' : World} {v : Value} {n : Nat} {Q : Nat → Nat → Int} (h : TwoV w v n Q) (hb : Below w.heap.size w w') : TwoV w' v n Q := by
 obtain ⟨p, cap, e, hc, h⟩ := h
 refine ⟨p, cap, e, hc, fun h0 => ?_⟩
 obtain ⟨g, off, c, t, fr, e, hg, hx⟩ := h h0
 exact ⟨g, off, c, t, fr, e, za hb hg, hx⟩
def plsQ (n : Nat) (Q : Nat → Nat → Int) : List zb := (List.range (min n 4)).map fun k => ⟨Q k 0, Q k 1 % 65536⟩
theorem plsQ_len (n : Nat) (Q : Nat → Nat → Int) : (plsQ n Q).length ≤ 4 := by unfold plsQ; rw [List.length_map, List.length_range]; omega
theorem plsQ_ok {n : Nat} {Q : Nat → Nat → Int} (h : ∀ i j, ja (Q i j)) : ∀ p ∈ plsQ n Q, yO p := fun p hp => by
 unfold plsQ at hp
 obtain ⟨k, -, rfl⟩ := List.mem_map.1 hp
 exact ⟨h k 0, by dsimp only; omega, by dsimp only; omega⟩
def plsT (m : Nat) (Q : Nat → Nat → Int) : List zb := (List.range m).map fun k => ⟨Q k 0, Q k 1 % 65536⟩
theorem plsT_snoc (m : Nat) (Q : Nat → Nat → Int) : zp (plsT m Q) ++ [.int .i64 (Q m 0), .int .u16 (Q m 1 % 65536)] = zp (plsT (m + 1) Q) := by
 unfold plsT
 rw [List.range_succ, List.map_append]
 show _ = zp (_ ++ [_])
 unfold zp
 rw [List.flatMap_append]
 rfl
theorem plsT_len (m : Nat) (Q : Nat → Nat → Int) : (plsT m Q).length = m := by unfold plsT; simp
theorem two_cells {c : Array Value} {o : Nat} {a b : Value} (h : (c.extract o (o + 2)).toList = [a, b]) : c[o]? = some a ∧ c[o + 1]? = some b := by
 have h0 := congrArg (fun l : List Value => l[0]?) h
 have h1 := congrArg (fun l : List Value => l[1]?) h
 simp only [Array.getElem?_toList] at h0 h1
 rw [Array.getElem?_extract] at h0 h1
 have h6 : min 2 (c.size - o) = 2 := by simpa using congrArg List.length h
 rw [if_pos (by omega)] at h0 h1
 exact ⟨h0, h1⟩
def PlP (l : List zb) (w : World) (e : Ending) (w' : World) : Prop := (∃ A c, e = .returned (.slice A l.length c) ∧ w'.ownsRow w.heap.size 47 2 (.slice A l.length c) l.length (zp l)) ∧ Below w.heap.size w w'
set_option maxRecDepth 100000 in
set_option maxHeartbeats 4000000 in
theorem places_any (p : Option Addr) (n cap : Nat) (Q : Nat → Nat → Int) (hn : n ≤ 9223372036854775807) (w : World) (hQ : TwoV w (.slice p n cap) n Q) :
  Calls Tryz.prog 18 #[.slice p n cap] w (PlP (plsQ n Q) w) := by
 have HQ := zh hQ
 have hcap : n ≤ cap := by obtain ⟨_, _, e, h, -⟩ := hQ; injection e with _ _ e; omega
 clear hQ
 go_enter Tryz.func18, Tryz.ntmps18
 go_wp2_with fail
 go_loopw [3, 4] (fun v i wr => ∃ m : Nat, m ≤ n ∧ m ≤ 4 ∧ i = .int .i64 m ∧ Hid (wr.ownsRow w.heap.size 47 2 v m (zp (plsT m Q))) ∧ Hid (Below w.heap.size w wr)) (fun v i _ => 4 - (intOf i).toNat)
 case atStart => exact ⟨0, Nat.zero_le _, Nat.zero_le _, rfl, zh (World.ownsRow_nil _ _ _ _), zh (Below.refl _ _)⟩
 case round =>
  obtain ⟨m, hm, hm4, rfl, HO, HB⟩ := hrel
  obtain ⟨A, c, rfl, -⟩ := zt HO.out
  by_cases hlt : m < n
  ·by_cases h4 : m < 4
   ·obtain ⟨p', cap', he, hc, hx⟩ := HQ.out.below HB.out
    injection he with e1 _ e2
    subst e1 e2
    obtain ⟨g, off, cs, t, fr, rfl, hg, hrow⟩ := hx (by omega)
    obtain ⟨hq0, hq1⟩ := two_cells (hrow m hlt)
    have HG := zh hg
    have HQ0 := zh hq0
    have HQ1 := zh hq1
    have HLT := zh (And.intro hlt h4)
    have HQS := zh HQ.out
    clear hx hg hrow hq0 hq1 HQ
    go_upto_region 5 with fail
    refine zr (S := fun W => W.heap[g]? = some (.cells cs t fr)) [15] (by kernel_rfl) HG.out (fun hHeld => ?_)
    (refine tz 0 ?_)
    (refine tz 1 ?_)
    (refine tz 2 ?_)
    (refine tz 3 ?_)
    (refine tz 4 ?_)
    (refine tkZ 5 (v := .int .i64 (Q m 0)) rfl (by assumption) (fun W hS => yo _ _ rfl _ _ rfl _ _ _ hS _ HQ0.out (fun _ => by kernel_rfl)) ?_; (refine pts ?_))
    (refine tz 6 ?_)
    (refine tz 7 ?_)
    (refine tz 8 ?_)
    (refine tz 9 ?_)
    (refine tkZ 10 (v := .int .i64 (Q m 1)) rfl (by assumption) (fun W hS => yo _ _ rfl _ _ rfl _ _ _ hS _ HQ1.out (fun _ => by kernel_rfl)) ?_; (refine pts ?_))
    (refine tkZ 11 (v := .int .u16 (Q m 1 % 65536)) rfl (by assumption) (fun W hS => by clear hS; go_simp; first | done | rfl) ?_; (refine pts ?_))
    (refine tz 12 ?_)
    have HD := zh (HB.out.drew)
    have HOD := zh (zi HO.out (zg.refl (fun _ => False) wr).drew (fun _ _ e => e))
    obtain ⟨wd, hwd⟩ : ∃ wd, wr.drew = wd := ⟨_, rfl⟩
    have hgd : wd.heap[g]? = some (.cells cs t fr) := hwd ▸ HG.out
    have HGD := zh hgd
    rw [hwd] at HD HOD ⊢
    clear hwd hgd hHeld
    refine yx 13 rfl (fun K hK => ?_)
    go_simp
    have HDA := zh (HD.out.alloc HD.out.size (zo ⟨Q m 0, Q m 1 % 65536⟩))
    have HOA := zh (HOD.out.alloc (zo ⟨Q m 0, Q m 1 % 65536⟩))
    have HGA := zh (za ((Below.refl _ _).alloc (zn _) (zo ⟨Q m 0, Q m 1 % 65536⟩)) HGD.out)
    refine hK.out _ _ (.inr HGA.out) ?_
    (refine pts ?_)
    clear hK K
    refine yx 14 rfl (fun K hK => ?_)
    refine xq (.tmp 15) (.tmp 28) 40 47 rfl 2 16 _ y7 Tryz.underlying40 rfl (by decide) (by decide) w.heap.size HDA.out.size (.slice A m c) m (zp (plsT m Q)) rfl HOA.out (by omega) wd.heap.size 1 _ _ _ rfl (heap_alloc_new wd (zo ⟨Q m 0, Q m 1 % 65536⟩)) rfl rfl (by decide) (by decide) ?_
    intro ga cp w6 ho6 hg6 hv6
    have HO6 := zh ho6
    have HB6 := zh (HDA.out.grown hg6 HDA.out.size (fun k hk => (HOA.out.lt k hk).1))
    have hlg : g < w.heap.size := by
     obtain ⟨p2, c2, e2, -, h2⟩ := HQS.out
     injection e2 with e2 _ _
     obtain ⟨g2, o2, c3, t3, fr3, e3, hg2, -⟩ := h2 (by have := HLT.out; omega)
     rw [← e2] at e3
     injection e3 with e3
     injection e3 with e3 _
     rw [e3]
     exact (Array.getElem?_eq_some_iff.1 hg2).1
    have HG6 := zh ((hg6.block g (Array.getElem?_eq_some_iff.1 HGA.out).1 (fun e => by have := (HOA.out.lt _ e.symm).1; omega)).trans HGA.out)
    clear ho6 hg6 hv6 hlg
    refine hK.out _ _ (.inr HG6.out) ?_
    (refine pts ?_)
    clear hK K
    refine z8 15 ?_
    simp only [List.drop_succ_cons, List.drop_zero]
    go_wp2_with fail
    go_roundw
    case rel => exact ⟨m + 1, HLT.out.1, HLT.out.2, by go_num, zh (by rw [← plsT_snoc]; exact HO6.out), HB6⟩
    case measure => have h1 := HLT.out; simp [intOf]; omega
   ·obtain rfl : m = 4 := by omega
    have HE := zh (show plsQ n Q = plsT 4 Q by unfold plsQ plsT; rw [show min n 4 = 4 by omega])
    go_wp2_with fail
    go_ret
    rw [HE.out]
    exact ⟨⟨A, c, by rw [plsT_len]; rfl, by rw [plsT_len]; exact HO.out⟩, HB.out⟩
  ·obtain rfl : m = n := by omega
   have HE := zh (show plsQ m Q = plsT m Q by unfold plsQ plsT; rw [show min m 4 = m by omega])
   go_wp2_with fail
   go_ret
   rw [HE.out]
   exact ⟨⟨A, c, by rw [plsT_len]; rfl, by rw [plsT_len]; exact HO.out⟩, HB.out⟩
end Go.Proofs.YteofmaiojepdkaaGreat
namespace Go.Proofs.YteofmaiojepdkaaGreat
open Go.ChangeShapes Go.WideShapes Go.ChangeAt Go.RowKit Go.Deep
set_option maxRecDepth 100000
theorem two_of {w : World} {p : Option Addr} {len b off : Nat} {Q : Nat → Nat → Int} (hp : 0 < len → p = some ⟨b, off, none⟩ ∧ b < w.heap.size) (hQ : ∀ i, i < len → ∀ j, j < 2 → w.cell? ⟨b, off + i * 2 + j, none⟩ = some (.int .i64 (Q i j)) ∧ ja (Q i j)) :
  ∃ Q' : Nat → Nat → Int, (∀ i j, ja (Q' i j)) ∧ ∀ cap, len ≤ cap → TwoV w (.slice p len cap) len Q' := by
 obtain ⟨Q', hQ'⟩ : ∃ Q' : Nat → Nat → Int, ∀ i j, Q' i j = if i < len ∧ j < 2 then Q i j else 0 := ⟨fun i j => if i < len ∧ j < 2 then Q i j else 0, fun _ _ => rfl⟩
 refine ⟨Q', fun i j => ?_, fun cap hc => ⟨p, cap, rfl, hc, fun h0 => ?_⟩⟩
 ·rw [hQ']
  split
  ·rename_i h; exact (hQ i h.1 j h.2).2
  ·exact ⟨by decide, by decide⟩
 ·obtain ⟨c, t, fr, hg, -⟩ := cell_block (hQ 0 h0 0 (by omega)).1
  refine ⟨b, off, c, t, fr, (hp h0).1, hg, fun i hi => ?_⟩
  have hc : ∀ j, j < 2 → c[off + i * 2 + j]? = some (.int .i64 (Q i j)) := fun j hj => by
   have := (hQ i hi j hj).1
   rwa [cell_of_row _ _ _ _ _ _ hg] at this
  have e : ∀ j, j < 2 → Q' i j = Q i j := fun j hj => by rw [hQ']; exact if_pos ⟨hi, hj⟩
  rw [e 0 (by omega), e 1 (by omega)]
  refine ext_at (L := [.int .i64 (Q i 0), .int .i64 (Q i 1)]) fun j hj => ?_
  have hj' : j < 2 := hj
  rw [hc j hj']
  rcases (show j = 0 ∨ j = 1 by omega) with rfl | rfl <;> rfl
end Go.Proofs.YteofmaiojepdkaaGreat
namespace Go.Proofs.YteofmaiojepdkaaGreat
def inJ (p : zb) (n b o : Nat) : Bool := decide (p.bank = b) && decide (zI p ≤ o) && decide (o < zI p + n)
theorem inJ_cov (I : zk) (p : zb) (b o : Nat) : inJ p (szI I p) b o = covP I b o p := rfl
def cntF (I : zk) (M : List zb) (p : zb) (j n : Nat) : Int := (yX I M (n / 4096) (n % 4096) : Int) + if inJ p j (n / 4096) (n % 4096) then 1 else 0
def cnt0 (I : zk) (M : List zb) (n : Nat) : Int := (yX I M (n / 4096) (n % 4096) : Int)
section
variable {I : zk} {M : List zb} {p : zb} {b : Nat} (hb : p.bank = b)
theorem cnt_start : cntF I M p 0 = cnt0 I M := by
 funext n
 unfold cntF cnt0 inJ
 have : (decide (p.bank = ((n / 4096 : Nat) : Int)) && decide (zI p ≤ n % 4096) && decide (n % 4096 < zI p + 0)) = false := by
  by_cases h : zI p ≤ n % 4096
  ·rw [decide_eq_false (show ¬ n % 4096 < zI p + 0 by omega), Bool.and_false]
  ·rw [decide_eq_false h, Bool.and_false, Bool.false_and]
 rw [this]
 simp
theorem cnt_end : cntF I M p (szI I p) = cnt0 I (M ++ [p]) := by
 funext n
 unfold cntF cnt0
 rw [covN_snoc, inJ_cov]
 split <;> simp
include hb
theorem cnt_put {j : Nat} (hj : zI p + j < 4096) : (fun n => if n = b * 4096 + zI p + j then cntF I M p j (b * 4096 + zI p + j) + 1 else cntF I M p j n) = cntF I M p (j + 1) := by
 funext n
 unfold cntF inJ
 rw [hb]
 by_cases hn : n = b * 4096 + zI p + j
 ·have e1 : (b * 4096 + zI p + j) / 4096 = b := by omega
  have e2 : (b * 4096 + zI p + j) % 4096 = zI p + j := by omega
  rw [if_pos hn, hn, e1, e2, decide_eq_true (rfl : (b : Int) = b), decide_eq_true (show zI p ≤ zI p + j by omega), decide_eq_false (show ¬ zI p + j < zI p + j by omega), decide_eq_true (show zI p + j < zI p + (j + 1) by omega)]
  simp
 ·rw [if_neg hn]
  congr 1
  by_cases h1 : (b : Int) = ((n / 4096 : Nat) : Int)
  ·by_cases h2 : zI p ≤ n % 4096
   ·have h3 : n % 4096 ≠ zI p + j := fun e => hn (by omega)
    rw [show decide (n % 4096 < zI p + j) = decide (n % 4096 < zI p + (j + 1)) from decide_eq_decide.2 (by omega)]
   ·rw [decide_eq_false h2]; simp
  ·rw [decide_eq_false h1]; simp
end
theorem cnt_putX {I : zk} {M : List zb} {p : zb} {b : Nat} (hb : p.bank = b) {j ix : Nat} (hj : zI p + j < 4096) (hx : b * 4096 + zI p + j = ix) : (fun n => if n = ix then cntF I M p j ix + 1 else cntF I M p j n) = cntF I M p (j + 1) := by
 subst hx
 exact cnt_put hb hj
end Go.Proofs.YteofmaiojepdkaaGreat
namespace Go.Proofs.YteofmaiojepdkaaGreat
section
variable {α : Type} [DecidableEq α] (lt : α → α → Prop) [∀ a b, Decidable (lt a b)] (p : α)
def ji (s : List α × Bool) (q : α) : List α × Bool := if s.2 = false ∧ lt p q then (s.1 ++ [p] ++ [q], true) else (s.1 ++ [q], s.2)
def jg (l : List α) : List α × Bool := l.foldl (ji lt p) ([], false)
def insL_ (l : List α) : List α := if p ∈ l then l else if (jg lt p l).2 then (jg lt p l).1 else (jg lt p l).1 ++ [p]
theorem insF_snoc (l : List α) (q : α) : jg lt p (l ++ [q]) = ji lt p (jg lt p l) q := by unfold jg; rw [List.foldl_append]; rfl
structure InsI (l : List α) (s : List α × Bool) : Prop where
 no : s.2 = false → s.1 = l ∧ ∀ q ∈ l, lt q p
 so : s.1.Pairwise lt
 me : s.2 = true → ∀ q, q ∈ s.1 ↔ q = p ∨ q ∈ l
 af : s.2 = true → ∃ q ∈ l, lt p q
 ln : s.1.length = l.length + s.2.toNat
theorem insF_ok (tr : ∀ a b c, lt a b → lt b c → lt a c) (tri : ∀ a b, lt a b ∨ a = b ∨ lt b a) : ∀ (n : Nat) (l : List α), l.length = n → l.Pairwise lt → p ∉ l → InsI lt p l (jg lt p l)
 | 0, l, hn, _, _ => by
  obtain rfl := List.length_eq_zero_iff.1 hn
  exact ⟨fun _ => ⟨rfl, by simp⟩, .nil, (by simp [jg]), (by simp [jg]), rfl⟩
 | n + 1, l, hn, hs, hp => by
  have hne : l ≠ [] := fun e => by rw [e] at hn; simp at hn
  obtain ⟨m, x, rfl⟩ : ∃ m x, l = m ++ [x] := ⟨l.dropLast, l.getLast hne, (List.dropLast_concat_getLast hne).symm⟩
  rw [List.pairwise_append] at hs
  obtain ⟨h1, -, h2⟩ := hs
  have h2 : ∀ a ∈ m, lt a x := fun a ha => h2 a ha x (by simp)
  have hpm : p ∉ m := fun h => hp (List.mem_append_left _ h)
  have hpx : p ≠ x := fun h => hp (by rw [h]; simp)
  have ih := insF_ok tr tri n m (by simpa using hn) h1 hpm
  rw [insF_snoc]
  unfold ji
  cases hd : (jg lt p m).2 with
  | false =>
   have hno := ih.no hd
   by_cases hc : lt p x
   ·rw [if_pos ⟨rfl, hc⟩]
    have e : (jg lt p m).1 = m := hno.1
    refine ⟨fun h => by simp at h, ?_, fun _ q => ?_, fun _ => ⟨x, by simp, hc⟩, by simp [e]⟩
    ·dsimp only
     rw [e, List.append_assoc, List.pairwise_append]
     refine ⟨h1, by simpa using hc, fun a ha b hb => ?_⟩
     simp only [List.cons_append, List.nil_append, List.mem_cons, List.not_mem_nil, or_false] at hb
     rcases hb with rfl | rfl
     ·exact hno.2 a ha
     ·exact h2 a ha
    ·dsimp only
     rw [e]
     simp only [List.mem_append, List.mem_cons, List.not_mem_nil, or_false]
     constructor
     ·rintro ((h | h) | h)
      ·exact .inr (.inl h)
      ·exact .inl h
      ·exact .inr (.inr h)
     ·rintro (h | h | h)
      ·exact .inl (.inr h)
      ·exact .inl (.inl h)
      ·exact .inr h
   ·rw [if_neg (fun h => hc h.2)]
    refine ⟨fun _ => ⟨by rw [hno.1], fun q hq => ?_⟩, ?_, fun h => by simp at h, fun h => by simp at h, by simp [hno.1]⟩
    ·rcases List.mem_append.1 hq with h | h
     ·exact hno.2 q h
     ·rw [List.mem_singleton.1 h]
      rcases tri p x with h | h | h
      ·exact absurd h hc
      ·exact absurd h hpx
      ·exact h
    ·dsimp only
     rw [hno.1, List.pairwise_append]
     exact ⟨h1, by simp, fun a ha b hb => by rw [List.mem_singleton.1 hb]; exact h2 a ha⟩
  | true =>
   rw [if_neg (fun h => by cases h.1)]
   have hme := ih.me hd
   obtain ⟨q0, hq0, hl0⟩ := ih.af hd
   refine ⟨fun h => by simp at h, ?_, fun _ q => ?_, fun _ => ⟨q0, List.mem_append_left _ hq0, hl0⟩, by have := ih.ln; rw [hd] at this; simp at this ⊢; omega⟩
   ·dsimp only
    rw [List.pairwise_append]
    refine ⟨ih.so, by simp, fun a ha b hb => ?_⟩
    rw [List.mem_singleton.1 hb]
    rcases (hme a).1 ha with rfl | h
    ·exact tr _ _ _ hl0 (h2 q0 hq0)
    ·exact h2 a h
   ·dsimp only
    rw [List.mem_append, List.mem_append, hme q, List.mem_singleton, or_assoc]
theorem insL_so (tr : ∀ a b c, lt a b → lt b c → lt a c) (tri : ∀ a b, lt a b ∨ a = b ∨ lt b a) {l : List α} (hs : l.Pairwise lt) : (insL_ lt p l).Pairwise lt := by
 unfold insL_
 by_cases hp : p ∈ l
 ·rw [if_pos hp]; exact hs
 ·rw [if_neg hp]
  have h := insF_ok lt p tr tri l.length l rfl hs hp
  cases hd : (jg lt p l).2 with
  | true => exact h.so
  | false =>
   have hn := h.no hd
   show ((jg lt p l).1 ++ [p]).Pairwise lt
   rw [List.pairwise_append]
   refine ⟨h.so, by simp, fun a ha b hb => ?_⟩
   rw [List.mem_singleton.1 hb]
   rw [hn.1] at ha
   exact hn.2 a ha
theorem insL_me (tr : ∀ a b c, lt a b → lt b c → lt a c) (tri : ∀ a b, lt a b ∨ a = b ∨ lt b a) {l : List α} (hs : l.Pairwise lt) (q : α) : q ∈ insL_ lt p l ↔ q = p ∨ q ∈ l := by
 unfold insL_
 by_cases hp : p ∈ l
 ·rw [if_pos hp]
  exact ⟨.inr, fun h => h.elim (fun e => e ▸ hp) id⟩
 ·rw [if_neg hp]
  have h := insF_ok lt p tr tri l.length l rfl hs hp
  cases hd : (jg lt p l).2 with
  | true => exact h.me hd q
  | false =>
   show q ∈ (jg lt p l).1 ++ [p] ↔ _
   rw [(h.no hd).1, List.mem_append, List.mem_singleton, or_comm]
theorem insL_len_ (tr : ∀ a b c, lt a b → lt b c → lt a c) (tri : ∀ a b, lt a b ∨ a = b ∨ lt b a) {l : List α} (hs : l.Pairwise lt) : (insL_ lt p l).length ≤ l.length + 1 := by
 unfold insL_
 by_cases hp : p ∈ l
 ·rw [if_pos hp]; omega
 ·rw [if_neg hp]
  have h := insF_ok lt p tr tri l.length l rfl hs hp
  have h1 := h.ln
  cases hd : (jg lt p l).2 with
  | true => rw [hd] at h1; simp at h1 ⊢; omega
  | false => rw [hd] at h1; simp at h1 ⊢; omega
theorem insF_le (l : List α) : (jg lt p l).1.length ≤ l.length + (jg lt p l).2.toNat ∧ (jg lt p l).1.length ≥ l.length := by
 have key : ∀ (m : List α) (s : List α × Bool), ((m.foldl (ji lt p) s).1.length ≤ s.1.length + m.length + ((m.foldl (ji lt p) s).2.toNat - s.2.toNat) ∧ s.2.toNat ≤ (m.foldl (ji lt p) s).2.toNat) ∧ (m.foldl (ji lt p) s).1.length ≥ s.1.length + m.length := by
  intro m
  induction m with
  | nil => intro s; simp
  | cons q m ih =>
   intro s
   have h := ih (ji lt p s q)
   rw [List.foldl_cons]
   have hs : (ji lt p s q).1.length = s.1.length + 1 + ((ji lt p s q).2.toNat - s.2.toNat) ∧ s.2.toNat ≤ (ji lt p s q).2.toNat := by
    unfold ji
    split
    ·rename_i hc; rw [hc.1]; simp
    ·simp
   simp only [List.length_cons]
   omega
 have := key l ([], false)
 simp only [List.length_nil, Nat.zero_add] at this
 unfold jg
 simp only [Bool.toNat_false, Nat.sub_zero] at this
 omega
end
def insP (l : List zb) (p : zb) : List zb := insL_ zP p l
theorem insP_so {l : List zb} (h : l.Pairwise zP) (p : zb) : (insP l p).Pairwise zP := insL_so zP p zP.tr zP.tri h
theorem insP_me {l : List zb} (h : l.Pairwise zP) (p q : zb) : q ∈ insP l p ↔ q = p ∨ q ∈ l := insL_me zP p zP.tr zP.tri h q
theorem insP_len {l : List zb} (h : l.Pairwise zP) (p : zb) : (insP l p).length ≤ l.length + 1 := insL_len_ zP p zP.tr zP.tri h
end Go.Proofs.YteofmaiojepdkaaGreat
namespace Go.Proofs.YteofmaiojepdkaaGreat
theorem flat_le {α β : Type} (f : α → List β) (k : Nat) : ∀ l : List α, (∀ x ∈ l, (f x).length ≤ k) → (l.flatMap f).length ≤ l.length * k
 | [], _ => by simp
 | x :: l, h => by
  have h1 := h x (by simp)
  have h2 := flat_le f k l fun y hy => h y (by simp [hy])
  rw [List.flatMap_cons, List.length_append, List.length_cons, Nat.add_mul]
  omega
theorem iss_le3 (f : zO) : f.iss.length ≤ 3 := by
 unfold zO.iss
 cases f.xe <;> cases f.xt <;> cases f.xb <;> simp
end Go.Proofs.YteofmaiojepdkaaGreat
namespace Go.Proofs.YteofmaiojepdkaaGreat
def keyI (p : zb) : Int := p.bank * 8192 + p.addr
def keyN (p : zb) : Nat := (keyI p).toNat
def ofK (k : Nat) : zb := ⟨((k / 8192 : Nat) : Int), ((k % 8192 : Nat) : Int)⟩
theorem key_bd {I : zk} {p : zb} (h : inI I p = true) (hp : yO p) : keyI p = (keyN p : Int) ∧ keyN p < 524288 ∧ ofK (keyN p) = p := by
 have h1 := xp (y6 h).1
 have h2 := hp.2.1
 have h3 : 0 ≤ keyI p := by unfold keyI; omega
 refine ⟨by unfold keyN; omega, by unfold keyN; unfold keyI at *; omega, ?_⟩
 obtain ⟨b, a⟩ := p
 dsimp only at h1 h2
 obtain ⟨b, rfl⟩ := Int.eq_ofNat_of_zero_le h1.1
 obtain ⟨a, rfl⟩ := Int.eq_ofNat_of_zero_le h2
 have h4 : keyN ⟨(b : Int), (a : Int)⟩ = b * 8192 + a := by unfold keyN keyI; dsimp only; omega
 rw [h4]
 unfold ofK
 exact zb.ext' (by show (((b * 8192 + a) / 8192 : Nat) : Int) = b; omega) (by show (((b * 8192 + a) % 8192 : Nat) : Int) = a; omega)
theorem ofK_so {k k' : Nat} (h : k < k') : zP (ofK k) (ofK k') := by
 unfold zP ofK
 dsimp only
 omega
def zG (sn : Nat → Bool) (n : Nat) : List zb := ((List.range n).filter sn).map ofK
theorem marked_so (sn : Nat → Bool) (n : Nat) : (zG sn n).Pairwise zP := by
 unfold zG
 refine List.Pairwise.map _ (fun a b h => ofK_so h) ?_
 exact List.Pairwise.filter _ List.pairwise_lt_range
theorem xH (sn : Nat → Bool) (n : Nat) : zG sn (n + 1) = if sn n = true then zG sn n ++ [ofK n] else zG sn n := by
 unfold zG
 rw [List.range_succ, List.filter_append, List.map_append]
 cases h : sn n <;> simp [h]
theorem mem_marked {sn : Nat → Bool} {n : Nat} {p : zb} : p ∈ zG sn n ↔ ∃ k, k < n ∧ sn k = true ∧ ofK k = p := by
 unfold zG
 simp only [List.mem_map, List.mem_filter, List.mem_range]
 constructor
 ·rintro ⟨k, ⟨h1, h2⟩, h3⟩; exact ⟨k, h1, h2, h3⟩
 ·rintro ⟨k, h1, h2, h3⟩; exact ⟨k, ⟨h1, h2⟩, h3⟩
theorem marked_len (sn : Nat → Bool) (n : Nat) : (zG sn n).length ≤ n := by
 unfold zG
 rw [List.length_map]
 refine Nat.le_trans (List.length_filter_le _ _) ?_
 rw [List.length_range]; exact zn _
structure OneI (I : zk) (e : zb) (D Q C : List zb) (S : List zM) (sn : Nat → Bool) : Prop where
 rt : RtI I e D Q
 sc : C.Pairwise zP
 cl : ∀ q, q ∈ C ↔ ∃ p, p ∈ D ∧ okI I p ∧ q ∈ (fl I p).cl
 si : S.Pairwise yR
 mi : ∀ x : zM, x ∈ S ↔ x.at_ ∈ D ∧ ((¬ okI I x.at_ ∧ x.kind = (atI I x.at_).2) ∨ (okI I x.at_ ∧ x.kind ∈ (fl I x.at_).iss))
 sn : ∀ k, sn k = true ↔ ∃ p, p ∈ D ∧ okI I p ∧ keyN p = k
section
variable {I : zk} {e : zb} {D Q C : List zb} {S : List zM} {sn : Nat → Bool} {p : zb}
theorem OneI.start (I : zk) (e : zb) : OneI I e [] [e] [] [] (fun _ => false) := ⟨RtI.start I e, .nil, by simp, .nil, by simp, by simp⟩
theorem OneI.top (h : OneI I e D (Q ++ [p]) C S sn) : RtI I e D (p :: Q) := h.rt.same fun x => by simp [or_comm]
theorem OneI.plOk (h : OneI I e D (Q ++ [p]) C S sn) (he : yO e) : yO p := (h.rt.rq p (by simp)).plOk he
theorem OneI.no (h : OneI I e D (Q ++ [p]) C S sn) (he : yO e) (hn : ¬ okI I p) {S' : List zM} (hs : S'.Pairwise yR) (hS : ∀ x, x ∈ S' ↔ x = ⟨(atI I p).2, p⟩ ∨ x ∈ S) : ∃ D', OneI I e D' Q C S' sn ∧ lack (univ e) D' ≤ lack (univ e) D := by
 by_cases hp : p ∈ D
 ·refine ⟨D, ⟨h.top.skip hp, h.sc, h.cl, hs, fun x => ?_, h.sn⟩, zn _⟩
  rw [hS x, h.mi x]
  constructor
  ·rintro (rfl | h1)
   ·exact ⟨hp, .inl ⟨hn, rfl⟩⟩
   ·exact h1
  ·exact .inr
 ·have hv := h.top.visit hp (N := []) (fun h => absurd h hn) (fun _ => rfl)
  rw [List.append_nil] at hv
  refine ⟨D ++ [p], ⟨hv, h.sc, fun q => ?_, hs, fun x => ?_, fun k => ?_⟩, by have := h.top.lower he hp; omega⟩
  ·rw [h.cl q]
   constructor
   ·rintro ⟨y, h1, h2⟩; exact ⟨y, by simp [h1], h2⟩
   ·rintro ⟨y, h1, h2⟩
    rcases List.mem_append.1 h1 with h1 | h1
    ·exact ⟨y, h1, h2⟩
    ·rw [List.mem_singleton.1 h1] at h2; exact absurd h2.1 hn
  ·rw [hS x, h.mi x]
   constructor
   ·rintro (rfl | ⟨h1, h2⟩)
    ·exact ⟨by simp, .inl ⟨hn, rfl⟩⟩
    ·exact ⟨by simp [h1], h2⟩
   ·rintro ⟨h1, h2⟩
    rcases List.mem_append.1 h1 with h1 | h1
    ·exact .inr ⟨h1, h2⟩
    ·rw [List.mem_singleton.1 h1] at h2
     rcases h2 with ⟨-, h2⟩ | ⟨h2, -⟩
     ·exact .inl (zM.ext' h2 (List.mem_singleton.1 h1))
     ·exact absurd h2 hn
  ·rw [h.sn k]
   constructor
   ·rintro ⟨y, h1, h2⟩; exact ⟨y, by simp [h1], h2⟩
   ·rintro ⟨y, h1, h2⟩
    rcases List.mem_append.1 h1 with h1 | h1
    ·exact ⟨y, h1, h2⟩
    ·rw [List.mem_singleton.1 h1] at h2; exact absurd h2.1 hn
theorem OneI.inD (h : OneI I e D (Q ++ [p]) C S sn) (he : yO e) (hy : okI I p) : sn (keyN p) = true ↔ p ∈ D := by
 rw [h.sn]
 constructor
 ·rintro ⟨y, h1, h2, h3⟩
  have k1 := key_bd (ok_at h2).ii ((h.rt.rd y h1).plOk he)
  have k2 := key_bd (ok_at hy).ii (h.plOk he)
  have : y = p := by rw [← k1.2.2, ← k2.2.2, h3]
  rwa [← this]
 ·intro h1; exact ⟨p, h1, hy, rfl⟩
theorem OneI.skip (h : OneI I e D (Q ++ [p]) C S sn) (he : yO e) (hy : okI I p) (hk : sn (keyN p) = true) : OneI I e D Q C S sn := ⟨h.top.skip ((h.inD he hy).1 hk), h.sc, h.cl, h.si, h.mi, h.sn⟩
theorem OneI.yes (h : OneI I e D (Q ++ [p]) C S sn) (he : yO e) (hy : okI I p) (hk : sn (keyN p) = false) {C' : List zb} {S' : List zM} (hc : C'.Pairwise zP) (hC : ∀ q, q ∈ C' ↔ q ∈ C ∨ q ∈ (fl I p).cl) (hs : S'.Pairwise yR) (hS : ∀ x : zM, x ∈ S' ↔ x ∈ S ∨ (x.at_ = p ∧ x.kind ∈ (fl I p).iss)) :
  OneI I e (D ++ [p]) (Q ++ (fl I p).nx) C' S' (fun k => if k = keyN p then true else sn k) ∧ lack (univ e) (D ++ [p]) + 1 ≤ lack (univ e) D := by
 have hp : p ∉ D := fun h1 => by rw [(h.inD he hy).2 h1] at hk; cases hk
 refine ⟨⟨h.top.visit hp (fun _ => rfl) (fun h => absurd hy h), hc, fun q => ?_, hs, fun x => ?_, fun k => ?_⟩, h.top.lower he hp⟩
 ·rw [hC q, h.cl q]
  constructor
  ·rintro (⟨y, h1, h2⟩ | h1)
   ·exact ⟨y, by simp [h1], h2⟩
   ·exact ⟨p, by simp, hy, h1⟩
  ·rintro ⟨y, h1, h2, h3⟩
   rcases List.mem_append.1 h1 with h1 | h1
   ·exact .inl ⟨y, h1, h2, h3⟩
   ·rw [List.mem_singleton.1 h1] at h3; exact .inr h3
 ·rw [hS x, h.mi x]
  constructor
  ·rintro (⟨h1, h2⟩ | ⟨h1, h2⟩)
   ·exact ⟨by simp [h1], h2⟩
   ·exact ⟨by simp [h1], .inr (by rw [h1]; exact ⟨hy, h2⟩)⟩
  ·rintro ⟨h1, h2⟩
   rcases List.mem_append.1 h1 with h1 | h1
   ·exact .inl ⟨h1, h2⟩
   ·have h3 := List.mem_singleton.1 h1
    rw [h3] at h2
    rcases h2 with ⟨h2, -⟩ | ⟨-, h2⟩
    ·exact absurd hy h2
    ·exact .inr ⟨h3, h2⟩
 ·by_cases hkk : k = keyN p
  ·rw [if_pos hkk]
   exact ⟨fun _ => ⟨p, by simp, hy, hkk.symm⟩, fun _ => rfl⟩
  ·rw [if_neg hkk, h.sn k]
   constructor
   ·rintro ⟨y, h1, h2⟩; exact ⟨y, by simp [h1], h2⟩
   ·rintro ⟨y, h1, h2, h3⟩
    rcases List.mem_append.1 h1 with h1 | h1
    ·exact ⟨y, h1, h2, h3⟩
    ·rw [List.mem_singleton.1 h1] at h3; exact absurd h3.symm hkk
theorem OneI.done (h : OneI I e D [] C S sn) (he : yO e) (ht : ¬ yS I e) : yu I e ⟨e, false, ⟨0, 0⟩, zG sn 524288, C, S⟩ := by
 refine yu.ofDone ht h.rt.done (marked_so _ _) h.sc h.si (fun p => ?_) h.cl h.mi
 rw [mem_marked]
 constructor
 ·rintro ⟨k, h1, h2, rfl⟩
  obtain ⟨y, h3, h4, rfl⟩ := (h.sn k).1 h2
  rw [(key_bd (ok_at h4).ii ((h.rt.rd y h3).plOk he)).2.2]
  exact ⟨h3, h4⟩
 ·rintro ⟨h1, h2⟩
  have k1 := key_bd (ok_at h2).ii ((h.rt.rd p h1).plOk he)
  exact ⟨keyN p, k1.2.1, (h.sn _).2 ⟨p, h1, h2, rfl⟩, k1.2.2⟩
theorem OneI.lens (h : OneI I e D Q C S sn) (he : yO e) : C.length ≤ 16777217 ∧ S.length ≤ 50331651 := by
 have hpl : ∀ p ∈ D, yO p := fun p hp => (h.rt.rd p hp).plOk he
 constructor
 ·rw [← univ_len e]
  have hnd : C.Nodup := List.Pairwise.imp (fun {a b} (hab : zP a b) => (show a ≠ b from fun e' => zP.irr a (by rw [← e'] at hab; exact hab))) h.sc
  exact yw hnd fun q hq => by
   obtain ⟨p, h1, h2, h3⟩ := (h.cl q).1 hq
   exact mem_univ (.inr ((fl_bd (hpl p h1) h2).cl q h3))
 ·have h1 := flat_le (fun p => if okI I p then (fl I p).iss.map fun k => (⟨k, p⟩ : zM) else [⟨(atI I p).2, p⟩]) 3 (univ e) (fun p _ => by
   split
   ·rw [List.length_map]; exact iss_le3 _
   ·simp)
  rw [univ_len] at h1
  have hnd : S.Nodup := List.Pairwise.imp (fun {a b} (hab : yR a b) => (show a ≠ b from fun e' => yR.irr a (by rw [← e'] at hab; exact hab))) h.si
  classical
  refine Nat.le_trans (yw hnd fun x hx => ?_) (Nat.le_trans h1 (by decide))
  obtain ⟨h2, h3⟩ := (h.mi x).1 hx
  refine List.mem_flatMap.2 ⟨x.at_, mem_univ ((h.rt.rd _ h2).ok he), ?_⟩
  rcases h3 with ⟨h4, h5⟩ | ⟨h4, h5⟩
  ·rw [if_neg h4, List.mem_singleton]
   exact zM.ext' h5 rfl
  ·rw [if_pos h4]
   exact List.mem_map.2 ⟨x.kind, h5, rfl⟩
end
end Go.Proofs.YteofmaiojepdkaaGreat
