/- package scan: routines, walked. Condition: the image's banks have 4096 bytes; the further places are places, not too many. -/
import Derived.Test.YteofmaiojepdkaaGreatTbSkR
set_option linter.all false
namespace Go.Proofs.YteofmaiojepdkaaGreat
open Go Go.RowKit Go.Maps Go.Sort
@[go_sem] theorem plc_build (a : Int) (W : World) : (Instr.build 47 #[(1, .int .u16 a)]).run Tryz.prog W = .ok (.agg #[.int .i64 0, .int .u16 a]) W := run_build W _ _ _ (by kernel_rfl)
structure RnsV (I : zk) (B : Nat) (R : List RtR) (v : Value) (w : World) : Prop where
 own : w.ownsRow B 50 8 v R.length (R.flatMap x6)
 rv : ∀ x ∈ R, RtV I B x.1 x.2.1 x.2.2.1 x.2.2.2 w
def RnP (I : zk) (more : List zb) (gk : Nat) (w : World) (en : Ending) (w' : World) : Prop := ∃ R v ok, en = .returned (.tuple #[v, .bool ok]) ∧ RnsV I w.heap.size R v w' ∧ KnW I gk w' ∧ zg (fun k => k = gk) w w' ∧ (∀ x ∈ R, yu I x.1.entry x.1) ∧ yz I more (if ok then some (R.map (·.1)) else none)
theorem rd_one {w : World} {g : Nat} {p : zb} (hg : w.heap[g]? = some (zo p)) : RdS w 2 (some ⟨g, 0, none⟩) [p].length 1 (zp [p]) :=
 ⟨zn _, rfl, fun _ => ⟨g, 0, _, _, _, rfl, hg, fun j hj => by
  match j, hj with
  | 0, _ => rfl
  | 1, _ => rfl⟩⟩
theorem trueL_len (l : List zb) : (xP l).length = l.length := by unfold xP; exact List.length_map _
theorem want_one (B bw bq gw : Nat) (V Q : List zb) (vq : Value) (b a : Int) (w : World) (h : WnW B bw bq gw V Q vq w) (hB : B ≤ w.heap.size) (hlen : V.length ≤ 100000000) (hQ : Q.length ≤ V.length) :
  Calls Tryz.prog 70 #[.slice (some ⟨w.heap.size, 0, none⟩) 1 1, .pointer (some ⟨bw, 0, none⟩), .pointer (some ⟨bq, 0, none⟩)] (w.alloc (.cells #[.int .i64 b, .int .u16 a] 47)) (WnP B bw bq gw V Q vq [⟨b, a⟩] (w.alloc (zo ⟨b, a⟩))) := by
 have hb5 : Below w.heap.size w (w.alloc (zo ⟨b, a⟩)) := (Below.refl _ _).alloc (zn _) _
 have h1 := (Array.getElem?_eq_some_iff.1 h.hw).1
 have h2 := (Array.getElem?_eq_some_iff.1 h.hbq).1
 exact want_any B bw bq gw V Q vq [⟨b, a⟩] (some ⟨w.heap.size, 0, none⟩) 1 _ (h.below hb5) (Nat.le_trans hB hb5.size) (rd_one (heap_alloc_new _ _)) (fun g off e => by
  injection e with e
  injection e with e
  exact ⟨⟨by omega, by omega⟩, fun hk => by have := (h.oq.lt g hk).2; omega⟩) (by simp; omega) hQ
abbrev rtn0 : Value := .agg #[.int .i64 0, .int .u16 0, .bool false, .int .i64 0, .int .u16 0, .slice none 0 0, .slice none 0 0, .slice none 0 0]
theorem zero_rtn (w : World) : (zeroValue 50).run Tryz.prog w = .ok rtn0 w := by kernel_rfl
theorem infoRtn : (Tryz.prog.info? 50).map (fun i => (i.zero, i.size, i.bytes)) = some (some rtn0, 8, 112) := by kernel_rfl
theorem allL_get {R : List RtR} (hn : (yy R).Nodup) {x : RtR} (hx : x ∈ R) : yT x.1.entry (allL R) = some (rtvV x) := getL_of_mem (by rw [allL_keys]; exact hn) (List.mem_map.2 ⟨x, hx, rfl⟩)
theorem rtns_end {I : zk} {more V : List zb} {R O : List RtR} {ss : List zb} (h : EntI I more V (R.map (·.1))) (hV : V = yy R) (hp : ss.Perm (yy R)) (hs : ss.Pairwise zP) (ho : yy O = ss) (hO : ∀ x ∈ O, x ∈ R) (h2 : V.length ≤ 2000) : yz I more (some (O.map (·.1))) := by
 refine h.rtns (fun p hpv => ?_) ?_ ?_ (fun r => ?_)
 ·rw [entL_map, ← hV]; exact hpv
 ·have := congrArg List.length hV
  unfold yy at this
  rw [List.length_map] at this
  rw [List.length_map]
  omega
 ·rw [entL_map, ho]; exact hs
 ·constructor
  ·intro hr
   obtain ⟨x, hx, rfl⟩ := List.mem_map.1 hr
   exact List.mem_map.2 ⟨x, hO x hx, rfl⟩
  ·intro hr
   obtain ⟨x, hx, rfl⟩ := List.mem_map.1 hr
   have h3 : x.1.entry ∈ yy O := by rw [ho, hp.mem_iff]; exact List.mem_map.2 ⟨x, hx, rfl⟩
   obtain ⟨y, hy, he⟩ := List.mem_map.1 h3
   have h4 := (h.rt y.1 (List.mem_map.2 ⟨y, hO y hy, rfl⟩))
   have h5 := (h.rt x.1 (List.mem_map.2 ⟨x, hx, rfl⟩))
   rw [he] at h4
   exact List.mem_map.2 ⟨y, hy, h4.uniq h5⟩
theorem yd {w : World} {B s n cap : Nat} {A : Option Addr} {T : TypeId} {xs : List Value} (h : w.ownsRow B T s (.slice A n cap) n xs) : RdS w s A n cap xs := by
 obtain ⟨A', cap', he, hrd⟩ := RdS.own h
 injection he with he1 _ he2
 subst he1 he2
 exact hrd
theorem ent_step {I : zk} {more V Q : List zb} {R : List RtR} {p : zb} {r : xc} {x : RtR} (hx : x.1 = r) (h : EntI I more V (R.map (·.1))) (hVQ : V = yy R ++ p :: Q) (hr : yu I p r) (hn : V.Nodup) {V' : List zb} (hV : ∀ q, q ∈ V' ↔ q ∈ V ∨ q ∈ r.calls ∨ (r.thunk = true ∧ q = r.dest)) : EntI I more V' ((R ++ [x]).map (·.1)) := by
 have hre := hr.en
 rw [List.map_append, List.map_cons, List.map_nil, hx]
 refine h.step (rtn_some hr) ?_ ?_ hV
 ·rw [hre, hVQ]; simp
 ·rw [hre, entL_map]
  rw [hVQ, List.nodup_append] at hn
  exact fun hm => hn.2.2 _ hm p (by simp) rfl
set_option maxRecDepth 100000 in
set_option maxHeartbeats 4000000 in
theorem routines_any (I : zk) (hI : I.Ok) (ba : Option Addr) (bc : Nat) (da : Option Addr) (dc : Nat) (ra : Option Addr) (rn rc gs gm : Nat) (more : List zb) (hm : ∀ p ∈ more, yO p) (hml : more.length ≤ 1000000) (ma : Option Addr) (mc : Nat) (w : World) (hS : ScnW I ba bc da dc ra rn rc gs gm w) (hgm : gm < w.heap.size) (hmo : RdS w 2 ma more.length mc (zp more)) (hmb : ∀ g off, ma = some ⟨g, off, none⟩ → g < w.heap.size) :
  Calls Tryz.prog 41 #[.pointer (some ⟨gs, 0, none⟩), .slice ma more.length mc] w (RnP I more gm w) := by
 have HS := zh hS
 have HMO := zh hmo
 have HMB := zh hmb
 have HMP := zh hm
 have hmm := @run_makeMap Tryz.prog
 clear hS hmo hmb hm
 go_enter Tryz.func41, Tryz.ntmps41
 go_upto_region 5 with (refine stN ?_)
 have hB4 := Bx.four w (.map #[] 0) (.cells #[.slice none 0 0] 40) (.map #[] 0) (.cells #[.map (some (w.heap.size + 1 + 1))] 141)
 have hs4 : ((((w.alloc (.map #[] 0)).alloc (.cells #[.slice none 0 0] 40)).alloc (.map #[] 0)).alloc (.cells #[.map (some (w.heap.size + 1 + 1))] 141)).heap.size = w.heap.size + 4 := by simp
 obtain ⟨w4, hw4⟩ : ∃ w4, (((w.alloc (.map #[] 0)).alloc (.cells #[.slice none 0 0] 40)).alloc (.map #[] 0)).alloc (.cells #[.map (some (w.heap.size + 1 + 1))] 141) = w4 := ⟨_, rfl⟩
 rw [hw4] at hB4 hs4 ⊢
 have H4 : RnW I gm w.heap.size (w.heap.size + 1 + 1 + 1) (w.heap.size + 1) (w.heap.size + 1 + 1) w [] [] [] (.slice none 0 0) w4 :=
  ⟨kn_below HS.out.kn hB4.bb, zg.ofBelow hB4.bb, ⟨hB4.b3, hB4.b2, List.nodup_nil, hB4.b1, .inl ⟨rfl, rfl, rfl⟩⟩, hB4.b0, by simp, by simp, zn _, by omega, by omega, hgm, by omega⟩
 have HS4 := zh (HS.out.below hB4.bb)
 have hb5 : Below w4.heap.size w4 (w4.alloc (zo ⟨0, I.entry⟩)) := (Below.refl _ _).alloc (zn _) _
 have HW5 := zh (want_one w.heap.size _ _ _ [] [] _ 0 I.entry w4 H4.wn hB4.bb.size (by simp) (by simp))
 have H45 := zh (H4.below hb5)
 have hc4 := fun o => cell_of_row w4 gs o _ _ _ HS4.out.blk
 clear hw4 hB4 hs4 H4 hb5 hmm
 go_upto_region 6 with (go_at_call 70; (with_reducible refine HW5.out.mono ?_); rintro e5 w5 ⟨rfl, N, vq5, hN5, hw5, ht5, hv5⟩; have HN5 := zh hN5; have H5 := zh (H45.out.want (l := []) hw5 ht5 hv5); clear hN5 hw5 ht5 hv5)
 have hn5 : N = [⟨0, I.entry⟩] := by have h := HN5.out; simpa [xU] using h.symm
 subst hn5
 have HS5 := zh (HS.out.turn H5.out.tr H5.out.kn)
 clear HW5 H45 HN5 hc4 HS4
 have hc5 := fun o => cell_of_row w5 gs o _ _ _ HS5.out.blk
 go_upto_if 32 with fail
 clear hc5
 go_cut [] (fun wx => ∃ V vq, Hid (RnW I gm w.heap.size (w.heap.size + 1 + 1 + 1) (w.heap.size + 1) (w.heap.size + 1 + 1) w [] V V vq wx) ∧ Hid (∀ q, q ∈ V ↔ (q = ⟨0, I.entry⟩ ∨ (I.vector ≠ 0 ∧ q = ⟨0, I.vector⟩))) ∧ Hid (V.length ≤ 2))
 case first =>
  by_cases hv : I.vector = 0
  ·have hd : (I.vector != 0) = false := by simp [hv]
   have HVE := zh hv
   rw [hd]
   clear hd hv
   go_wp2_with fail
   go_meet
   exact ⟨_, _, H5, zh (fun q => by have := HVE.out; simp [this]), zh (by simp)⟩
  ·have hd : (I.vector != 0) = true := by simp [hv]
   have HVE := zh hv
   have hb6 : Below w5.heap.size w5 (w5.alloc (zo ⟨0, I.vector⟩)) := (Below.refl _ _).alloc (zn _) _
   have H56 := zh (H5.out.below hb6)
   have HW6 := zh (want_one w.heap.size _ _ _ _ _ _ 0 I.vector w5 H5.out.wn H5.out.tr.size (by simp) (by simp))
   rw [hd]
   clear hd hv hb6
   have hc5 := fun o => cell_of_row w5 gs o _ _ _ HS5.out.blk
   go_wp2_with (go_at_call 70; (with_reducible refine HW6.out.mono ?_); rintro e6 w6 ⟨rfl, N6, vq6, hN6, hw6, ht6, hv6⟩; have HN6 := zh hN6; have H6 := zh (H56.out.want (l := []) hw6 ht6 hv6); clear hN6 hw6 ht6 hv6)
   go_meet
   have hn6 := HN6.out
   exact ⟨_, _, H6, zh (fun q => by
    have h1 : q ∈ xU [] [(⟨0, I.entry⟩ : zb)] ++ N6 ↔ _ := Iff.rfl
    have h2 := HVE.out
    rw [show ([] : List zb) ++ [(⟨0, I.entry⟩ : zb)] ++ N6 = xU ([] ++ [(⟨0, I.entry⟩ : zb)]) [⟨0, I.vector⟩] from hn6.symm, mem_addL]
    simp [h2]), zh (by rw [show ([] : List zb) ++ [(⟨0, I.entry⟩ : zb)] ++ N6 = xU ([] ++ [(⟨0, I.entry⟩ : zb)]) [⟨0, I.vector⟩] from hn6.symm]; exact addL_len _ _)⟩
 case rest =>
  obtain ⟨V, vq, HR, HQ, HLV⟩ := hcut
  have hrd := HMO.out.turn HR.out.tr (fun k cs T fr hc e => by
   obtain ⟨L, hL, -⟩ := HS.out.kn
   rw [e, hL] at hc; cases hc)
  have HW8 := zh (want_any w.heap.size _ _ _ V V vq more ma mc wc HR.out.wn HR.out.tr.size hrd (fun g off e => by
   have h1 := HMB.out g off e
   exact ⟨⟨by omega, by omega⟩, fun hk => by have := (HR.out.wn.oq.lt g hk).1; omega⟩) (by have := HLV.out; omega) (zn _))
  clear hrd
  go_upto_region 9 with (go_at_call 70; (with_reducible refine HW8.out.mono ?_); rintro e8 w8 ⟨rfl, N8, vq8, hN8, hw8, ht8, hv8⟩; have HN8 := zh hN8; have H8 := zh (HR.out.want (l := []) hw8 ht8 hv8); clear hN8 hw8 ht8 hv8)
  have HE8 := zh (EntI.start (I := I) (more := more) (V := V ++ N8) (fun q => by rw [show V ++ N8 = xU V more from HN8.out.symm, mem_addL, HQ.out q]))
  have HL8 := zh (show (V ++ N8).length ≤ 20000000 by have h1 := addL_len V more; rw [HN8.out] at h1; have := HLV.out; omega)
  clear HW8 HN8 HR HQ HLV
  go_loopg [] 2001 (fun k wr => ∃ (R : List RtR) (V Q : List zb) (vq : Value), R.length + k = 2001 ∧ Hid (V.length ≤ 20000000) ∧ Hid (RnW I gm w.heap.size (w.heap.size + 1 + 1 + 1) (w.heap.size + 1) (w.heap.size + 1 + 1) w R V Q vq wr) ∧ Hid (V = yy R ++ Q) ∧ Hid (EntI I more V (R.map (·.1))))
  case atStart => exact ⟨[], V ++ N8, V ++ N8, vq8, rfl, HL8, H8, zh rfl, HE8⟩
  case round =>
   clear HE8 HL8 H8
   obtain ⟨R, V, Q, vq, hk, HL, HR, HVQ, HE⟩ := hrel
   have HK := zh hk
   clear hk
   cases Q with
   | nil =>
    have hv0 := HVQ.out
    rw [List.append_nil] at hv0
    have HVE := zh hv0
    clear hv0
    obtain ⟨Aq, cq, hvq⟩ := HR.out.wn.oq.slice
    subst hvq
    have hcq := fun o => cell_of_row wr (w.heap.size + 1) o _ _ _ HR.out.wn.hbq
    have HKE := zh (keysR_any w.heap.size wr)
    have hrl : (yy R).Nodup := by have h1 := HR.out.wn.nv; rw [HVE.out] at h1; exact h1
    have HNR := zh hrl
    have hlr : (allL R).length ≤ 1000000000 := by
     have h1 := HL.out
     rw [HVE.out] at h1
     unfold yy at h1
     unfold allL
     rw [List.length_map] at h1 ⊢
     omega
    have HSK := zh (sortedKeysR w.heap.size (allL R) wr HR.out.al (by rw [allL_keys]; exact hrl) hlr)
    clear hrl hlr
    go_upto_region 20 with fail
    clear hcq
    go_wp2_with (first
     | (go_at_call 73; (with_reducible refine HKE.out.mono ?_); rintro e7 w7 ⟨rfl, rfl⟩)
     | (go_at_call 72; (with_reducible refine HSK.out.mono ?_); rintro e8 w8 ⟨v8, ss, rfl, hp8, hs8, ho8, hb8⟩
        obtain ⟨A8, c8, hv8, hrd8⟩ := RdS.own ho8
        subst hv8
        have HP8 := zh (show ss.Perm (yy R) by rw [allL_keys] at hp8; exact hp8)
        have HS8 := zh hs8
        have HO8 := zh ho8
        have H8 := zh (HR.out.below hb8)
        have HRD := zh hrd8
        clear hp8 hs8 ho8 hb8 hrd8))
    have hsl : ss.length ≤ 1000000000 := by
     have h1 := HP8.out.length_eq
     have h2 := HL.out
     rw [HVE.out] at h2
     omega
    have HSL := zh hsl
    have hle : ss.length ≤ c8 := HRD.out.le
    clear HRD hsl HKE HSK HR HK
    obtain ⟨wo, rfl⟩ : ∃ wo : World, wo = wr := ⟨_, rfl⟩
    go_loopw [12, 77] (fun vo i wx => ∃ (m : Nat) (O : List RtR), m ≤ ss.length ∧ i = .int .i64 m ∧ Hid (yy O = ss.take m) ∧ Hid (∀ x ∈ O, x ∈ R) ∧ Hid (wx.ownsRow w.heap.size 50 8 vo O.length (O.flatMap x6)) ∧ Hid (RnW I gm w.heap.size (w.heap.size + 1 + 1 + 1) (w.heap.size + 1) (w.heap.size + 1 + 1) w R V [] (.slice Aq 0 cq) wx) ∧ Hid (wx.ownsRow wo.heap.size 47 2 (.slice A8 ss.length c8) ss.length (zp ss))) (fun _ i _ => ss.length - (intOf i).toNat)
    case atStart => exact ⟨0, [], Nat.zero_le _, rfl, zh (by simp [yy]), zh (by simp), zh (World.ownsRow_nil _ _ _ _), H8, HO8⟩
    case round =>
     clear H8 HO8
     obtain ⟨m, O, hm, rfl, HEO, HOR, HOW, HR, HRD⟩ := hrel
     by_cases hlt : m < ss.length
     ·obtain ⟨p, hp⟩ : ∃ p, ss[m]? = some p := ⟨_, List.getElem?_eq_getElem hlt⟩
      obtain ⟨x, hxR, hxp⟩ : ∃ x ∈ R, x.1.entry = p := by
       have h1 : p ∈ yy R := (HP8.out.mem_iff).1 (List.mem_of_getElem? hp)
       exact List.mem_map.1 h1
      have hxv := HR.out.rv x hxR
      have hget := allL_get HNR.out hxR
      obtain ⟨r, vc, vl, vs⟩ := x
      dsimp only at hxv hxp
      obtain ⟨A1, c1, rfl, -⟩ := zt hxv.oc
      obtain ⟨A2, c2, rfl, -⟩ := zt hxv.ol
      obtain ⟨A3, c3, rfl, -⟩ := zt hxv.oi
      have hgd : (yT p (allL R)).getD rtn0 = .agg #[.int .i64 r.entry.bank, .int .u16 r.entry.addr, .bool r.thunk, .int .i64 r.dest.bank, .int .u16 r.dest.addr, .slice A1 r.code.length c1, .slice A2 r.calls.length c2, .slice A3 r.iss.length c3] := by
       rw [← hxp, hget]
       rfl
      have HEO2 := zh (show yy (O ++ [(r, .slice A1 r.code.length c1, .slice A2 r.calls.length c2, .slice A3 r.iss.length c3)]) = ss.take (m + 1) by
       have h1 := HEO.out
       unfold yy at h1 ⊢
       rw [List.map_append, h1, List.take_succ, hp, List.map_cons, List.map_nil]
       dsimp only
       rw [hxp]
       rfl)
      have HOR2 := zh (show ∀ y ∈ O ++ [(r, .slice A1 r.code.length c1, .slice A2 r.calls.length c2, .slice A3 r.iss.length c3)], y ∈ R from fun y hy => (List.mem_append.1 hy).elim (HOR.out y) (fun h => by rw [List.mem_singleton.1 h]; exact hxR))
      have hol : O.length ≤ 1000000000 := by
       have h1 := congrArg List.length HEO.out
       unfold yy at h1
       rw [List.length_map, List.length_take] at h1
       have := HSL.out
       omega
      have HGD := zh hgd
      have HLT := zh hlt
      have HOL := zh hol
      have hrow := (yd HRD.out).row hlt
      rw [show zp ss = ss.flatMap yQ from rfl, xT yQ 2 (fun _ => rfl) ss m p hp] at hrow
      obtain ⟨g, off, cur, T, fr, hAe, hg, hex, -, -⟩ := hrow
      subst hAe
      have HG := zh hg
      have HEX := zh hex
      have hb1 : Below wr.heap.size wr (wr.alloc (zo p)) := (Below.refl _ _).alloc (zn _) _
      have H1 := zh (HR.out.below hb1)
      have HP1 := zh (heap_alloc_new wr (zo p))
      have HOW1 := zh (HOW.out.alloc (zo p))
      have HRD1 := zh (HRD.out.alloc (zo p))
      clear hxR hxp hxv hget hgd hol hg hex hp hb1
      go_upto_region 23 with (first
       | (refine lmT 47 ([.int .i64 p.bank, .int .u16 p.addr]) (HG.out) (HEX.out) ?_)
       | (refine stN ?_))
      obtain ⟨w1, hw1⟩ : ∃ w1, wr.alloc (zo p) = w1 := ⟨_, rfl⟩
      rw [hw1] at H1 HP1 HOW1 HRD1 ⊢
      clear hw1
      have HA1 := zh H1.out.al
      have HOWa := zh (HOW1.out.alloc (xu r.entry r.thunk r.dest (.slice A1 r.code.length c1) (.slice A2 r.calls.length c2) (.slice A3 r.iss.length c3)))
      have HRDa := zh (HRD1.out.alloc (xu r.entry r.thunk r.dest (.slice A1 r.code.length c1) (.slice A2 r.calls.length c2) (.slice A3 r.iss.length c3)))
      have hb2 : Below w1.heap.size w1 (w1.alloc (xu r.entry r.thunk r.dest (.slice A1 r.code.length c1) (.slice A2 r.calls.length c2) (.slice A3 r.iss.length c3))) := (Below.refl _ _).alloc (zn _) _
      have Ha := zh (H1.out.below hb2)
      have HBS := zh (Ha.out.tr.size)
      have hk1 := HLT.out
      have hk2 := HSL.out
      clear hb2
      go_wp2_with (first
       | (refine ldT 47 (HP1.out) ?_)
       | (refine yq xj Tryz.underlying140 HA1.out rfl _ _ rfl rfl p rfl (zero_rtn _) ?_; rw [HGD.out])
       | (refine zJ (.tmp 81) (.tmp 85) 35 50 rfl 8 112 _ infoRtn Tryz.underlying35 rfl (by decide) (by decide) w.heap.size HBS.out u12 O.length (O.flatMap x6) rfl HOWa.out (Nat.le_trans HOL.out (by decide)) w1.heap.size 1 _ _ _ rfl (heap_alloc_new w1 _) rfl rfl (by decide) (by decide) rfl ?_
          intro ga cp w5 ho5 hg5 hv5
          have HO5 := zh ho5
          have HG5 := zh hg5
          clear ho5 hg5 hv5))
      have ht5 : zg (fun k => u12.ownBlock = some k) (w1.alloc (xu r.entry r.thunk r.dest (.slice A1 r.code.length c1) (.slice A2 r.calls.length c2) (.slice A3 r.iss.length c3))) w5 := (zg.refl _ _).grown HG5.out (fun k e _ => e)
      have HX5 := zh (Ha.out.other ht5 (fun k e => ⟨(HOWa.out.lt k e).1, by obtain ⟨-, cs, hc⟩ := zz HOWa.out k e; exact ⟨cs, _, hc⟩⟩))
      have HY5 := zh (zi HRDa.out ht5 (fun k hk e => by obtain ⟨-, cs, hc⟩ := zz HRDa.out k hk; exact xY HOWa.out hc (fun _ _ => zm (by decide)) e))
      have HZ5 : Hid (w5.ownsRow w.heap.size 50 8 (.slice (some ⟨ga, 0, none⟩) (O.length + 1) cp) (O ++ [((r, .slice A1 r.code.length c1, .slice A2 r.calls.length c2, .slice A3 r.iss.length c3) : RtR)]).length ((O ++ [((r, .slice A1 r.code.length c1, .slice A2 r.calls.length c2, .slice A3 r.iss.length c3) : RtR)]).flatMap x6)) := zh (by
       rw [List.length_append, List.flatMap_append]
       exact HO5.out)
      clear ht5
      go_roundw
      case rel => exact ⟨m + 1, _, HLT.out, by go_num, HEO2, HOR2, HZ5, HX5, HY5⟩
      case measure => have h1 := HLT.out; simp [intOf]; omega
     ·obtain rfl : m = ss.length := by omega
      have hcw := fun o => cell_of_row wr (w.heap.size + 1 + 1 + 1) o _ _ _ HR.out.wn.hbw
      have HM := zh HR.out.wn.hw
      go_wp2_with (refine wpList_lenL Tryz.underlying141 HM.out rfl _ rfl rfl ?_; rw [trueL_len])
      go_ret2
      have heo := HEO.out
      rw [List.take_of_length_le (zn _)] at heo
      refine ⟨O, u12, decide ((V.length : Int) ≤ 2000), rfl, ⟨HOW.out, fun x hx => HR.out.rv x (HOR.out x hx)⟩, HR.out.kn, HR.out.tr, fun x hx => HE.out.rt x.1 (List.mem_map.2 ⟨x, HOR.out x hx, rfl⟩), ?_⟩
      by_cases h2 : V.length ≤ 2000
      ·have h3 : decide ((V.length : Int) ≤ 2000) = true := decide_eq_true (by omega)
       rw [h3]
       exact rtns_end HE.out HVE.out HP8.out HS8.out heo HOR.out h2
      ·have h3 : decide ((V.length : Int) ≤ 2000) = false := decide_eq_false (by omega)
       rw [h3]
       exact HE.out.many HR.out.wn.nv (by omega)
   | cons p Q =>
    have hoq : jk wr w.heap.size 47 2 vq (Q.length + 1) (zp (p :: Q)) := by
     rcases HR.out.wn.oq with ⟨-, h0, -⟩ | h
     ·simp at h0
     ·exact h
    obtain ⟨gq, oq, cq, hvq⟩ : ∃ gq oq cq, vq = .slice (some ⟨gq, oq, none⟩) (Q.length + 1) cq := by
     obtain ⟨-, g, off, cap, cur, hv, -⟩ := hoq
     exact ⟨g, off, cap, hv⟩
    subst hvq
    have HOQ := zh hoq
    have hcq := fun o => cell_of_row wr (w.heap.size + 1) o _ _ _ HR.out.wn.hbq
    have hcw := fun o => cell_of_row wr (w.heap.size + 1 + 1 + 1) o _ _ _ HR.out.wn.hbw
    have HM := zh HR.out.wn.hw
    have hl0 : (0 : Int) < (Q.length : Int) + 1 := by omega
    clear hoq
    go_upto_if 50 with (refine wpList_lenL Tryz.underlying141 HM.out rfl _ rfl rfl ?_; rw [trueL_len])
    by_cases hmany : (2000 : Int) < (V.length : Int)
    ·go_wp2_with fail
     go_ret2
     exact ⟨[], _, false, rfl, ⟨World.ownsRow_nil _ _ _ _, by simp⟩, HR.out.kn, HR.out.tr, by simp, HE.out.many HR.out.wn.nv (by omega)⟩
    ·have HKV := zh hmany
     have hq0 : wr.cell? ⟨gq, oq, none⟩ = some (.int .i64 p.bank) := by
      obtain ⟨-, g, off, cap, cur, hv, -, hg, -, -, -, h6⟩ := HOQ.out
      simp only [Value.slice.injEq, Option.some.injEq, Addr.mk.injEq] at hv
      obtain ⟨⟨rfl, rfl, -⟩, -⟩ := hv
      rw [cell_of_row _ _ _ _ _ _ hg]
      have := h6 0 (by omega)
      rw [Nat.add_zero] at this
      rw [this]
      rfl
     have hq1 : wr.cell? ⟨gq, oq + 1, none⟩ = some (.int .u16 p.addr) := by
      obtain ⟨-, g, off, cap, cur, hv, -, hg, -, -, -, h6⟩ := HOQ.out
      simp only [Value.slice.injEq, Option.some.injEq, Addr.mk.injEq] at hv
      obtain ⟨⟨rfl, rfl, -⟩, -⟩ := hv
      rw [cell_of_row _ _ _ _ _ _ hg, h6 1 (by omega)]
      rfl
     have hcq2 : Q.length + 1 ≤ cq := by
      obtain ⟨-, g, off, cap, cur, hv, -, hg, h3, -⟩ := HOQ.out
      simp only [Value.slice.injEq] at hv
      omega
     go_upto_region 13 with (refine stN ?_)
     have hb1 : Below wr.heap.size wr (wr.alloc (zo p)) := (Below.refl _ _).alloc (zn _) _
     have H1 := zh (HR.out.below hb1)
     have HP1 := zh (heap_alloc_new wr (zo p))
     have HOQ1 := zh (HOQ.out.turn (zg.ofBelow (bs := fun _ => False) hb1) (fun _ _ e => e))
     have HC1 := zh hcq2
     have hz1 := hb1.size
     obtain ⟨w1, hw1⟩ : ∃ w1, wr.alloc (zo p) = w1 := ⟨_, rfl⟩
     rw [hw1] at H1 HP1 HOQ1 ⊢
     clear hw1 hb1 hq0 hq1 hcq hcw hl0 hmany HM hz1
     have hcq := fun o => cell_of_row w1 (w.heap.size + 1) o _ _ _ H1.out.wn.hbq
     have hfq := fun o => frozen_of_row w1 (w.heap.size + 1) o _ _ H1.out.wn.hbq
     have hs1 : (1 : Int) ≤ (Q.length : Int) + 1 := by omega
     have hs2 : (1 : Int) ≤ ((Q.length + 1 : Nat) : Int) := by omega
     have hs3 : (Q.length : Int) + 1 ≤ (cq : Int) := by omega
     have hs4 : ((Q.length + 1 : Nat) : Int) ≤ (cq : Int) := by omega
     go_upto_region 14 with fail
     have ht14 : jk w1 w.heap.size 47 2 (.slice (if cq = 1 then some ⟨gq, oq, none⟩ else some ⟨gq, oq + 2, none⟩) Q.length (cq - 1)) Q.length (zp Q) := by
      have h1 := HOQ1.out.tail
      have h2 := HC1.out
      by_cases hq1 : cq = 1
      ·rw [if_pos hq1]
       have hz0 : Q.length = 0 := by omega
       have hQ : Q = [] := List.eq_nil_of_length_eq_zero hz0
       subst hQ
       exact h1.2
      ·rw [if_neg hq1]
       exact h1.1
     have H2 := zh (H1.out.pop (Q' := Q) (v' := .slice (if cq = 1 then some ⟨gq, oq, none⟩ else some ⟨gq, oq + 2, none⟩) Q.length (cq - 1)) (by by_cases hq1 : cq = 1 <;> simp [hq1, Value.ownBlock]) ht14)
     have HP2 : Hid ((w1.setCell ⟨w.heap.size + 1, 0, none⟩ (.slice (if cq = 1 then some ⟨gq, oq, none⟩ else some ⟨gq, oq + 2, none⟩) Q.length (cq - 1))).heap[wr.heap.size]? = some (zo p)) := zh (by
      rw [heap_setCell_other (fun e => by have h1 := H1.out.wn.hbq; rw [← e, HP1.out] at h1; injection h1 with h1; injection h1 with _ h1; exact absurd h1 (by decide))]
      exact HP1.out)
     generalize (Value.slice (if cq = 1 then some ⟨gq, oq, none⟩ else some ⟨gq, oq + 2, none⟩) Q.length (cq - 1)) = vq2 at *
     obtain ⟨w2, hw2⟩ : ∃ w2, w1.setCell ⟨w.heap.size + 1, 0, none⟩ vq2 = w2 := ⟨_, rfl⟩
     rw [hw2] at H2 HP2 ⊢
     clear hw2 ht14 hcq hfq hs1 hs2 hs3 hs4 hcq2 H1 HP1 HOQ1 HOQ HC1 HR
     have hpo : yO p := Ent.plOk hI HMP.out (HE.out.ent p (by rw [HVQ.out]; simp))
     have HRO := zh (routine_any I hI ba bc da dc ra rn rc gs gm p hpo w2 (HS.out.turn H2.out.tr H2.out.kn) (Nat.lt_of_lt_of_le hgm H2.out.tr.size))
     have HPO := zh hpo
     clear hpo
     go_upto_region 15 with (first
      | (refine ldT 47 (HP2.out) ?_)
      | (refine stN ?_)
      | (go_at_call 71; (with_reducible refine HRO.out.mono ?_); rintro e3 w3 ⟨r, vc, vl, vs, rfl, hr3, hv3, hk3, ht3⟩
         obtain ⟨A1, c1, rfl, -⟩ := zt hv3.oc
         obtain ⟨A2, c2, rfl, -⟩ := zt hv3.ol
         obtain ⟨A3, c3, rfl, -⟩ := zt hv3.oi
         have HR3 := zh hr3
         have HV3 := zh hv3
         have H3 := zh (H2.out.rtn ht3 hk3)
         have HP3 := zh (ht3.heap HP2.out (fun e => by have h1 := H2.out.kn; obtain ⟨L, hL, -⟩ := h1; have h2 := HP2.out; rw [e, hL] at h2; cases h2))
         clear hr3 hv3 hk3 ht3))
     have hb4 : Below w3.heap.size w3 (w3.alloc (xu p r.thunk r.dest (.slice A1 r.code.length c1) (.slice A2 r.calls.length c2) (.slice A3 r.iss.length c3))) := (Below.refl _ _).alloc (zn _) _
     have H4 := zh (H3.out.below hb4)
     have HP4 := zh (za hb4 HP3.out)
     have HX4 := zh (heap_alloc_new w3 (xu p r.thunk r.dest (.slice A1 r.code.length c1) (.slice A2 r.calls.length c2) (.slice A3 r.iss.length c3)))
     have HV4 := zh ((HV3.out.below hb4).mono H2.out.tr.size)
     have HAP := zh (show ∀ k, (Value.slice A2 r.calls.length c2).ownBlock = some k → ¬ vq2.ownBlock = some k from fun k hk e => by
      have h1 := (HV3.out.ol.lt k hk).1
      have h2 := (H2.out.wn.oq.lt k e).2
      omega)
     obtain ⟨w4, hw4⟩ : ∃ w4, w3.alloc (xu p r.thunk r.dest (.slice A1 r.code.length c1) (.slice A2 r.calls.length c2) (.slice A3 r.iss.length c3)) = w4 := ⟨_, rfl⟩
     rw [hw4] at H4 HP4 HX4 HV4 ⊢
     clear hw4 hb4 H3 HP3 HV3 HRO H2 HP2
     have HM4 := zh H4.out.al
     have HNE := zh (show r.entry ∉ yy R by
      have h1 := H4.out.wn.nv
      rw [HVQ.out, List.nodup_append] at h1
      rw [HR3.out.en]
      exact fun hm => h1.2.2 _ hm p (by simp) rfl)
     go_upto_region 16 with (first
      | (refine ldT 47 (HP4.out) ?_)
      | (refine ldT 50 (HX4.out) ?_)
      | (refine zZ xj Tryz.underlying140 HM4.out rfl _ _ _ rfl rfl p rfl _ rfl ?_; intro w5 hm5 hg5 hz5
         have H5 := zh (H4.out.put (x := (r, .slice A1 r.code.length c1, .slice A2 r.calls.length c2, .slice A3 r.iss.length c3)) HNE.out (by show _ = some (yc yL (xG r.entry (rtvV (r, _, _, _)) (allL R))); unfold rtvV; dsimp only; rw [HR3.out.en]; exact hm5) hg5 HV4.out HAP.out)
         have HX5 := zh ((hg5.block w3.heap.size (Array.getElem?_eq_some_iff.1 HX4.out).1 (fun e => by injection e with e; have h1 := HX4.out; rw [e, HM4.out] at h1; cases h1)).trans HX4.out)
         clear hm5 hg5 hz5))
     have hq2 : Q.length ≤ V.length := by rw [HVQ.out, List.length_append, List.length_cons]; omega
     have hcl := HR3.out.calls_len HPO.out
     have hvl : V.length ≤ 2000 := by have := HKV.out; omega
     have hrv5 := H5.out.rv (r, .slice A1 r.code.length c1, .slice A2 r.calls.length c2, .slice A3 r.iss.length c3) (by simp)
     have hrd5 : RdS w5 2 A2 r.calls.length c2 (zp r.calls) := by
      obtain ⟨A', cap', he, hrd⟩ := RdS.own hrv5.ol
      injection he with he1 _ he2
      subst he1 he2
      exact hrd
     have HW6 := zh (want_any w.heap.size _ _ _ V Q vq2 r.calls A2 c2 w5 H5.out.wn H5.out.tr.size hrd5 (fun g off e => by
      have hob : (Value.slice A2 r.calls.length c2).ownBlock = some g := by rw [e]; rfl
      obtain ⟨-, cs, hc⟩ := zz hrv5.ol g hob
      refine ⟨⟨fun e2 => ?_, fun e2 => ?_⟩, HAP.out g hob⟩
      ·rw [e2, H5.out.wn.hw] at hc; cases hc
      ·rw [e2, H5.out.wn.hbq] at hc
       injection hc with hc
       exact zm (by decide) hc.symm) (by omega) hq2)
     have HQ2 := zh hq2
     have HCL := zh hcl
     have HVL := zh hvl
     have hcx := fun o => cell_of_row w5 w3.heap.size o _ _ _ HX5.out
     clear hq2 hcl hvl hrv5 hrd5 HM4 H4 HP4 HX4 HV4 HNE
     go_upto_region 17 with (go_at_call 70; (with_reducible refine HW6.out.mono ?_); rintro e6 w6 ⟨rfl, N6, vq6, hN6, hw6, ht6, hv6⟩; have HN6 := zh hN6; have H6 := zh (H5.out.want (l := []) hw6 ht6 hv6); have HX6 := zh (H5.out.wn.keep ht6 (by decide) (by decide) HX5.out); clear hN6 hw6 ht6 hv6)
     clear hcx HW6 HAP
     have HL6 := zh (show (V ++ N6).length ≤ 17000000 by have h1 := addL_len V r.calls; rw [HN6.out] at h1; have := HCL.out; have := HVL.out; omega)
     have HVQ6 := zh (show V ++ N6 = yy (R ++ [(r, .slice A1 r.code.length c1, .slice A2 r.calls.length c2, .slice A3 r.iss.length c3)]) ++ (Q ++ N6) by
      rw [HVQ.out]
      unfold yy
      rw [List.map_append, List.map_cons, List.map_nil, HR3.out.en]
      simp)
     have hcx := fun o => cell_of_row w6 w3.heap.size o _ _ _ HX6.out
     go_upto_if 67 with fail
     clear hcx
     cases hth : r.thunk with
     | false =>
      have HTH := zh hth
      clear hth
      go_wp2_with fail
      have hk := HK.out
      have hvq := congrArg List.length HVQ.out
      rw [List.length_append, List.length_cons] at hvq
      unfold yy at hvq
      rw [List.length_map] at hvq
      have hv2 := HVL.out
      go_roundg (gk - 1)
      case measure => omega
      case rel =>
       refine ⟨R ++ [(r, .slice A1 r.code.length c1, .slice A2 r.calls.length c2, .slice A3 r.iss.length c3)], V ++ N6, Q ++ N6, vq6, by rw [List.length_append, List.length_cons, List.length_nil]; omega, zh (by have := HL6.out; omega), H6, HVQ6, zh (ent_step rfl HE.out HVQ.out HR3.out H5.out.wn.nv (fun q => ?_))⟩
       rw [show V ++ N6 = xU V r.calls from HN6.out.symm, mem_addL, HTH.out]
       simp
     | true =>
      have HTH := zh hth
      clear hth
      have hb7 : Below w6.heap.size w6 (w6.alloc (zo ⟨r.dest.bank, r.dest.addr⟩)) := (Below.refl _ _).alloc (zn _) _
      have H67 := zh (H6.out.below hb7)
      have hqv : (Q ++ N6).length ≤ (V ++ N6).length := Nat.le_trans (Nat.le_add_left _ _) (Nat.le_of_eq ((congrArg List.length HVQ6.out).trans List.length_append).symm)
      have HW7 := zh (want_one w.heap.size _ _ _ (V ++ N6) (Q ++ N6) vq6 r.dest.bank r.dest.addr w6 H6.out.wn H6.out.tr.size (by have := HL6.out; omega) hqv)
      clear hb7 hqv
      go_wp2_with (first
       | (refine jc 47 _ rfl _ _ rfl _ _ _ (HX6.out) ([.int .i64 r.dest.bank, .int .u16 r.dest.addr]) ((by kernel_rfl)) ?_ ?_ ?_; kernel_rfl; kernel_rfl)
       | (go_at_call 70; (with_reducible refine HW7.out.mono ?_); rintro e7 w7 ⟨rfl, N7, vq7, hN7, hw7, ht7, hv7⟩; have HN7 := zh hN7; have H7 := zh (H67.out.want (l := []) hw7 ht7 hv7); clear hN7 hw7 ht7 hv7))
      have hk := HK.out
      have hvq := congrArg List.length HVQ.out
      rw [List.length_append, List.length_cons] at hvq
      unfold yy at hvq
      rw [List.length_map] at hvq
      have hv2 := HVL.out
      go_roundg (gk - 1)
      case measure => omega
      case rel =>
       refine ⟨R ++ [(r, .slice A1 r.code.length c1, .slice A2 r.calls.length c2, .slice A3 r.iss.length c3)], V ++ N6 ++ N7, Q ++ N6 ++ N7, vq7, by rw [List.length_append, List.length_cons, List.length_nil]; omega, zh (by have h1 := addL_len (V ++ N6) [⟨r.dest.bank, r.dest.addr⟩]; rw [HN7.out, List.length_cons, List.length_nil] at h1; have := HL6.out; omega), H7, zh (by rw [HVQ6.out, List.append_assoc]), zh (ent_step rfl HE.out HVQ.out HR3.out H5.out.wn.nv (fun q => ?_))⟩
       rw [show V ++ N6 ++ N7 = xU (V ++ N6) [⟨r.dest.bank, r.dest.addr⟩] from HN7.out.symm, mem_addL, show V ++ N6 = xU V r.calls from HN6.out.symm, mem_addL, HTH.out, List.mem_singleton, or_assoc]
       simp
end Go.Proofs.YteofmaiojepdkaaGreat
