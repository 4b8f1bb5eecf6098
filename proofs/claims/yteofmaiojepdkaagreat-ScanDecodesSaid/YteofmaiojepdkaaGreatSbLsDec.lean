/- The law ScanDecodes, walked. Condition: the numbers lie in their types' ranges. -/
import Derived.Test.YteofmaiojepdkaaGreatSbSpJ
import Derived.Test.YteofmaiojepdkaaGreatSbSpN
set_option linter.all false
namespace Go.Proofs.YteofmaiojepdkaaGreat
open Go Go.RowKit Go.Maps Go.Sort
structure LwW (I : zr) (gb gd : Nat) (gi gl : Nat) (L : LstS) (c : Nat → Nat → Int) (vc vr vi : Value) (W : World) : Prop where
 im : W.heap[gi]? = some (.cells #[.slice (some ⟨gb, 0, none⟩) I.banks.length 3, .int .u16 I.entry, .int .u16 I.vector, .slice (some ⟨gd, 0, none⟩) I.data.length 3, .slice none 0 0] 31 (0, 0))
 vw : yG W I (some ⟨gb, 0, none⟩) 3 (some ⟨gd, 0, none⟩) 3
 ls : W.heap[gl]? = some (.cells #[vc, vr, vi] 38 (0, 0))
 rd : LstD I I.banks.length c L.rts L.iss vc vr vi W
theorem LwW.below {I : zr} {gb gd gi gl : Nat} {L : LstS} {c : Nat → Nat → Int} {vc vr vi : Value} {W W' : World} (h : LwW I gb gd gi gl L c vc vr vi W) (hb : Below W.heap.size W W') : LwW I gb gd gi gl L c vc vr vi W' := ⟨za hb h.im, h.vw.below hb, za hb h.ls, h.rd.below hb⟩
abbrev imgI (I : zr) (gb gd : Nat) : Obj := .cells #[.slice (some ⟨gb, 0, none⟩) I.banks.length 3, .int .u16 I.entry, .int .u16 I.vector, .slice (some ⟨gd, 0, none⟩) I.data.length 3, .slice none 0 0] 31
abbrev lst0 : Obj := .cells #[.slice none 0 0, .slice none 0 0, .slice none 0 0] 38
theorem rd_ptr {w : World} {B s n : Nat} {T : TypeId} {A : Option Addr} {c : Nat} {xs : List Value} (h : w.ownsRow B T s (.slice A n c) n xs) : ∀ g off, A = some ⟨g, off, none⟩ → g < w.heap.size := fun g off e => by
 subst e
 exact (h.lt g rfl).2
theorem LstV.turnL {I : zr} {B : Nat} {L : LstS} {vc vr vi : Value} {W W' : World} {gl : Nat} {cs : Array Value} {fr : Nat × Nat} (h : LstV I B L vc vr vi W) (hg : W.heap[gl]? = some (.cells cs 38 fr)) (t : zo (fun k => k = gl) W W') : LstV I B L vc vr vi W' := by
 have key : ∀ k cs' T fr', W.heap[k]? = some (.cells cs' T fr') → T ≠ 38 → ¬ k = gl := fun k cs' T fr' hk hT e => by
  rw [e, hg] at hk
  injection hk with hk
  injection hk with h1 h2
  exact hT h2.symm
 obtain ⟨gs, c, h1, h2, h3⟩ := h.cls
 obtain ⟨R, h4, h5⟩ := h.rts
 exact ⟨⟨gs, c, h1, h2.turn t (fun k cs' T fr' hk hT => key k cs' T fr' hk (by rcases hT with rfl | rfl <;> decide)), h3⟩, ⟨R, h4.turn t (fun k cs' T fr' hk _ hT => key k cs' T fr' hk hT), h5⟩, zp h.iss t (yq h.iss hg (fun _ _ => zm (by decide)))⟩
theorem LstV.below {I : zr} {B : Nat} {L : LstS} {vc vr vi : Value} {W W' : World} (h : LstV I B L vc vr vi W) (hb : Below W.heap.size W W') : LstV I B L vc vr vi W' := by
 obtain ⟨gs, c, h1, h2, h3⟩ := h.cls
 obtain ⟨R, h4, h5⟩ := h.rts
 exact ⟨⟨gs, c, h1, h2.below hb, h3⟩, ⟨R, h4.below hb, h5⟩, zp h.iss (zo.ofBelow (bs := fun _ => False) hb) (fun _ _ e => e)⟩
abbrev rtnO (r : xd) (A1 A2 A3 : Option Addr) (k1 k2 k3 : Nat) : Obj := .cells #[.int .i64 r.entry.bank, .int .u16 r.entry.addr, .bool r.thunk, .int .i64 r.dest.bank, .int .u16 r.dest.addr, .slice A1 r.code.length k1, .slice A2 r.calls.length k2, .slice A3 r.iss.length k3] 50
theorem pw_next {α : Type} {lt : α → α → Prop} {l : List α} (h : l.Pairwise lt) {m : Nat} {x y : α} (hx : l[m]? = some x) (hy : l[m + 1]? = some y) : lt x y := by
 obtain ⟨h1, h2⟩ := List.getElem?_eq_some_iff.1 hx
 obtain ⟨h3, h4⟩ := List.getElem?_eq_some_iff.1 hy
 have := List.pairwise_iff_getElem.1 h m (m + 1) h1 h3 (Nat.lt_succ_self m)
 rwa [h2, h4] at this
abbrev fndO (x : Ins) (e : Int) : Obj := .cells #[.int .i64 x.op, .int .i64 x.d, .int .i64 x.s, .int .u16 x.imm, .int .u16 x.aux, .int .i64 x.bank, .int .i64 x.size, .int .i64 e] 67
def ScQ (I : zr) (more : List zd) (w : World) (e : Ending) (w' : World) : Prop := ∃ L A1 n1 k1 A2 n2 k2 A3 n3 k3, e = .returned (.agg #[.slice A1 n1 k1, .slice A2 n2 k2, .slice A3 n3 k3]) ∧ IsLst I more L ∧ LstV I w.heap.size L (.slice A1 n1 k1) (.slice A2 n2 k2) (.slice A3 n3 k3) w' ∧ Below w.heap.size w w'
theorem scan_q {I : zr} (hI : I.Ok) {gb gd : Nat} {more : List zd} (hm : (∀ p ∈ more, xI p) ∧ more.length ≤ 4) {A : Option Addr} {c B : Nat} {W : World} (hV : yG W I (some ⟨gb, 0, none⟩) 3 (some ⟨gd, 0, none⟩) 3) (ho : W.ownsRow B 47 2 (.slice A more.length c) more.length (zM more)) :
  Calls Tryz.prog 17 #[.agg #[.slice (some ⟨gb, 0, none⟩) I.banks.length 3, .int .u16 I.entry, .int .u16 I.vector, .slice (some ⟨gd, 0, none⟩) I.data.length 3, .slice none 0 0], .slice A more.length c] W (ScQ I more W) :=
 (scan_any I hI _ 3 _ 3 none 0 0 more hm.1 (by have := hm.2; omega) A c W hV (rd_own ho) (rd_ptr ho)).mono fun e W' ⟨L, vc, vr, vi, he, hL, hv, hb⟩ => by
  obtain ⟨c, -, hr⟩ := hv.read hI
  obtain ⟨A1, k1, rfl, -⟩ := hr.cls
  obtain ⟨R, A2, k2, rfl, -⟩ := hr.rts
  obtain ⟨A3, k3, rfl, -⟩ := hr.iss
  exact ⟨L, _, _, _, _, _, _, _, _, _, he, hL, hv, hb⟩
theorem lw_mk {I : zr} (hI : I.Ok) {gb gd gi gl B : Nat} {L : LstS} {vc vr vi : Value} {w3 W : World} (him : w3.heap[gi]? = some (imgI I gb gd)) (hV : yG w3 I (some ⟨gb, 0, none⟩) 3 (some ⟨gd, 0, none⟩) 3) (h : LstV I B L vc vr vi W) (hg : W.heap[gl]? = some lst0) (hz : w3.heap.size ≤ gl) (hb : Below w3.heap.size w3 W) :
  ∃ c, LwW I gb gd gi gl L c vc vr vi (W.setRow gl #[vc, vr, vi]) ∧ Below w3.heap.size w3 (W.setRow gl #[vc, vr, vi]) := by
 have hb' : Below w3.heap.size w3 (W.setRow gl #[vc, vr, vi]) := below_setRow hb hz _
 obtain ⟨c, -, hr⟩ := (h.turnL hg ((zo.refl (fun k => k = gl) W).setRow #[vc, vr, vi] (fun _ => rfl))).read hI
 exact ⟨c, ⟨za hb' him, hV.below hb', setRow_heap _ _ _ _ _ _ hg, hr⟩, hb'⟩
set_option maxRecDepth 100000 in
set_option maxHeartbeats 8000000 in
theorem scandecodes_any (p : Option Addr) (n cap : Nat) (Q : Nat → Nat → Int) (hn : n ≤ 9223372036854775807) (N : Nat → Int) (p2 : Option Addr) (n2 cap2 : Nat) (Q2 : Nat → Nat → Int) (hn2 : n2 ≤ 9223372036854775807) (hQ2 : ∀ i j, yV (Q2 i j)) (w : World) (hQ : FivV w (.slice p n cap) n Q) (hR : TwoV w (.slice p2 n2 cap2) n2 Q2) :
  Calls Tryz.prog 6 #[.slice p n cap, .agg #[.int .i64 (N 0), .int .i64 (N 1), .int .i64 (N 2), .int .i64 (N 3)], .slice p2 n2 cap2] w fun e w' => e = .returned (.bool true) ∧ Below w.heap.size w w' := by
 have HSA := zh (fun W => sane_any W)
 have HLA := zh (fun W (hb : Below w.heap.size w W) => laid_any p n cap Q hn N W (hQ.below hb))
 have HPL := zh (fun W (hb : Below w.heap.size w W) => places_any p2 n2 cap2 Q2 hn2 W (hR.below hb))
 have HX := zh (Bx.one w (boxQ N))
 have HM := zh (And.intro (plsQ_ok (n := n2) hQ2) (plsQ_len n2 Q2))
 clear hQ hR hn hn2
 generalize plsQ n2 Q2 = more at *
 go_enter Tryz.func6, Tryz.ntmps6
 go_upto_region 1 with fail
 obtain ⟨wi, hwi⟩ : ∃ wi, w.alloc (boxQ N) = wi := ⟨_, rfl⟩
 rw [hwi] at HX ⊢
 clear hwi
 go_upto_region 3 with (first
  | (go_at_call 14; (with_reducible refine (HSA.out _).mono ?_); rintro e1 w1 ⟨rfl, hb1⟩; have HX1 := zh (HX.out.stay hb1); clear hb1)
  | (refine zb 23 _ rfl _ rfl _ _ _ (HX1.out.b0) ?_ ?_ ?_; kernel_rfl; kernel_rfl)
  | (go_at_call 15; (with_reducible refine (HLA.out _ HX1.out.bb).mono ?_); rintro e2 w2 ⟨⟨I, gb, gd, ⟨hI, -⟩, hI3, rfl, hV⟩, hb2⟩; have HX2 := zh (HX1.out.stay hb2); have HI := zh hI; have HV := zh hV; clear hb2 hI hI3 hV)
  | (refine wpList_store_row rfl _ _ _ rfl _ _ rfl rfl _ _ (heap_alloc_new _ _) ?_ ?_ ?_ ?_; kernel_rfl; rfl; kernel_rfl; rw [World.setRow_alloc_new]))
 have hb3 : Below w2.heap.size w2 (w2.alloc (imgI I gb gd)) := (Below.refl _ _).alloc (zn _) _
 have HX3 := zh (HX2.out.bb.trans (hb3.mono HX2.out.bb.size))
 have HV3 := zh (HV.out.below hb3)
 have HG3 := zh (heap_alloc_new w2 (imgI I gb gd))
 obtain ⟨w3, hw3⟩ : ∃ w3, w2.alloc (imgI I gb gd) = w3 := ⟨_, rfl⟩
 obtain ⟨gi, hgi⟩ : ∃ gi, w2.heap.size = gi := ⟨_, rfl⟩
 rw [hw3] at HX3 HV3 HG3 ⊢
 rw [hgi] at HG3 ⊢
 clear hb3 hw3 hgi HX HX1 HX2 HV HSA HLA
 simp only [Act.put]
 go_cut [9] (fun v wx => ∃ gl L c vc vr vi, v = .pointer (some ⟨gl, 0, none⟩) ∧ Hid (IsLst I more L) ∧ Hid (LwW I gb gd gi gl L c vc vr vi wx) ∧ Hid (Below w.heap.size w wx))
 case first =>
  refine zw (S := fun W => W.heap[gi]? = some (imgI I gb gd)) [5] (by kernel_rfl) HG3.out (fun hHeld => ?_)
  have HWD := zh (Below.refl w3.heap.size w3).drew
  obtain ⟨wd, hwd⟩ : ∃ wd, w3.drew = wd := ⟨_, rfl⟩
  rw [hwd] at HWD hHeld ⊢
  clear hwd
  (refine tkZ 0 (v := .agg #[.slice (some ⟨gb, 0, none⟩) I.banks.length 3, .int .u16 I.entry, .int .u16 I.vector, .slice (some ⟨gd, 0, none⟩) I.data.length 3, .slice none 0 0]) rfl (by assumption) (fun W hS => yL _ _ rfl _ rfl _ _ _ hS (by kernel_rfl)) ?_; (try simp only [zA, zB, zC, Act.put, zD, zE, zF]))
  (refine tkZ 1 (v := ?_) rfl (by assumption) ?_ ?_; rotate_left; (focus (intro w hSw; (try dsimp only at hSw); go_simp; try with_reducible rfl)); (try simp only [zA, zB, zC, Act.put, zD, zE, zF]))
  clear hHeld
  refine twoZ 2 4 rfl rfl (fun K hK => ?_) (fun K hK => ?_)
  ·go_simp
   go_at_call 18
   (with_reducible refine (HPL.out _ (HX3.out.trans (HWD.out.mono HX3.out.size))).mono ?_)
   rintro e4 w4 ⟨⟨A, cc, rfl, how⟩, hb4⟩
   have HO4 := zh how
   have HB4 := zh (HWD.out.trans (hb4.mono HWD.out.size))
   clear how hb4
   go_simp
   refine hK.out _ _ (.inr (za HB4.out HG3.out)) ?_
   (try simp only [zA, zB, zC, Act.put, zD, zE, zF])
   clear hK K
   refine twoZ 3 4 rfl rfl (fun K hK => ?_) (fun K hK => ?_)
   ·go_simp
    go_at_call 17
    (with_reducible refine (scan_q HI.out.ok HM.out (HV3.out.below HB4.out) HO4.out).mono ?_)
    rintro e5 w5 ⟨L, A1, m1, k1, A2, m2, k2, A3, m3, k3, rfl, hL, hlv, hb5⟩
    have HLL := zh (And.intro hL hlv)
    have HB5 := zh (HB4.out.trans (hb5.mono HB4.out.size))
    clear hL hlv hb5
    go_simp
    refine hK.out _ _ (.inr (za HB5.out HG3.out)) ?_
    (try simp only [zA, zB, zC, Act.put, zD, zE, zF])
    clear hK K
    refine yx 4 rfl (fun K hK => ?_)
    go_simp
    have HGL := zh (heap_alloc_new w5 lst0)
    have HB6 := zh (HB5.out.alloc HB5.out.size lst0)
    refine hK.out _ _ (.inr (za HB6.out HG3.out)) ?_
    (try simp only [zA, zB, zC, Act.put, zD, zE, zF])
    clear hK K
    refine yl 5 ?_
    simp only [List.drop_succ_cons, List.drop_zero]
    go_wp2_with (first | (refine wpList_store_row rfl _ _ _ rfl _ _ rfl rfl _ _ (HGL.out) ?_ ?_ ?_ ?_; kernel_rfl; rfl; kernel_rfl))
    go_meet
    obtain ⟨c, hlw, hbw⟩ := lw_mk HI.out.ok HG3.out HV3.out (HLL.out.2.below ((Below.refl _ _).alloc (zn _) lst0)) HGL.out HB5.out.size HB6.out
    exact ⟨_, _, c, _, _, _, rfl, zh HLL.out.1, zh hlw, zh (HX3.out.trans (hbw.mono HX3.out.size))⟩
   ·go_simp
    have HGL := zh (heap_alloc_new w4 lst0)
    have HB5 := zh (HB4.out.alloc HB4.out.size lst0)
    have HO5 := zh (HO4.out.alloc lst0)
    refine hK.out _ _ (.inr (za HB5.out HG3.out)) ?_
    (try simp only [zA, zB, zC, Act.put, zD, zE, zF])
    clear hK K
    refine yx 3 rfl (fun K hK => ?_)
    go_simp
    go_at_call 17
    (with_reducible refine (scan_q HI.out.ok HM.out (HV3.out.below HB5.out) HO5.out).mono ?_)
    rintro e5 w6 ⟨L, A1, m1, k1, A2, m2, k2, A3, m3, k3, rfl, hL, hlv, hb6⟩
    have HLL := zh (And.intro hL hlv)
    have HB6 := zh (HB5.out.trans (hb6.mono HB5.out.size))
    have HGL := zh (za hb6 HGL.out)
    clear hL hlv hb6
    go_simp
    refine hK.out _ _ (.inr (za HB6.out HG3.out)) ?_
    (try simp only [zA, zB, zC, Act.put, zD, zE, zF])
    clear hK K
    refine yl 5 ?_
    simp only [List.drop_succ_cons, List.drop_zero]
    go_wp2_with (first | (refine wpList_store_row rfl _ _ _ rfl _ _ rfl rfl _ _ (HGL.out) ?_ ?_ ?_ ?_; kernel_rfl; rfl; kernel_rfl))
    go_meet
    obtain ⟨c, hlw, hbw⟩ := lw_mk HI.out.ok HG3.out HV3.out HLL.out.2 HGL.out HB4.out.size HB6.out
    exact ⟨_, _, c, _, _, _, rfl, zh HLL.out.1, zh hlw, zh (HX3.out.trans (hbw.mono HX3.out.size))⟩
  ·go_simp
   have HGL := zh (heap_alloc_new wd lst0)
   have HB4 := zh (HWD.out.alloc HWD.out.size lst0)
   refine hK.out _ _ (.inr (za HB4.out HG3.out)) ?_
   (try simp only [zA, zB, zC, Act.put, zD, zE, zF])
   clear hK K
   refine yx 2 rfl (fun K hK => ?_)
   go_simp
   go_at_call 18
   (with_reducible refine (HPL.out _ (HX3.out.trans (HB4.out.mono HX3.out.size))).mono ?_)
   rintro e4 w5 ⟨⟨A, cc, rfl, how⟩, hb5⟩
   have HO5 := zh how
   have HB5 := zh (HB4.out.trans (hb5.mono HB4.out.size))
   have HGL := zh (za hb5 HGL.out)
   clear how hb5
   go_simp
   refine hK.out _ _ (.inr (za HB5.out HG3.out)) ?_
   (try simp only [zA, zB, zC, Act.put, zD, zE, zF])
   clear hK K
   refine yx 3 rfl (fun K hK => ?_)
   go_simp
   go_at_call 17
   (with_reducible refine (scan_q HI.out.ok HM.out (HV3.out.below HB5.out) HO5.out).mono ?_)
   rintro e5 w6 ⟨L, A1, m1, k1, A2, m2, k2, A3, m3, k3, rfl, hL, hlv, hb6⟩
   have HLL := zh (And.intro hL hlv)
   have HB6 := zh (HB5.out.trans (hb6.mono HB5.out.size))
   have HGL := zh (za hb6 HGL.out)
   clear hL hlv hb6
   go_simp
   refine hK.out _ _ (.inr (za HB6.out HG3.out)) ?_
   (try simp only [zA, zB, zC, Act.put, zD, zE, zF])
   clear hK K
   refine yl 5 ?_
   simp only [List.drop_succ_cons, List.drop_zero]
   go_wp2_with (first | (refine wpList_store_row rfl _ _ _ rfl _ _ rfl rfl _ _ (HGL.out) ?_ ?_ ?_ ?_; kernel_rfl; rfl; kernel_rfl))
   go_meet
   obtain ⟨c, hlw, hbw⟩ := lw_mk HI.out.ok HG3.out HV3.out HLL.out.2 HGL.out HWD.out.size HB6.out
   exact ⟨_, _, c, _, _, _, rfl, zh HLL.out.1, zh hlw, zh (HX3.out.trans (hbw.mono HX3.out.size))⟩
 case rest =>
  clear HX3 HV3 HG3 HPL
  obtain ⟨gl, L, c, vc, vr, vi, rfl, HL, HW, HB⟩ := hcut
  obtain ⟨R, Ar, kr, rfl, hR, hRL⟩ := HW.out.rd.rts
  obtain ⟨wo, rfl⟩ : ∃ wo : World, wo = wc := ⟨_, rfl⟩
  have HS := zh (hRL.symm ▸ lst_lstR HI.out.ok HM.out.1 HL.out : LstR I more (R.map (·.1)))
  have HR := zh hR
  have hkr := hR.rd.le
  have hlr := hR.le
  clear hR hRL HL
  have hcl := fun o => cell_of_row wo gl o _ _ _ HW.out.ls
  go_wp2_with fail
  clear hcl
  go_loopw [10] (fun i wr => ∃ m : Nat, m ≤ R.length ∧ i = .int .i64 m ∧ Hid (Below wo.heap.size wo wr)) (fun i _ => R.length - (intOf i).toNat)
  case atStart => exact ⟨0, Nat.zero_le _, rfl, zh (Below.refl _ _)⟩
  case round =>
   obtain ⟨m, hm, rfl, HBR⟩ := hrel
   have HWR := zh (HW.out.below HBR.out)
   have hcl := fun o => cell_of_row wr gl o _ _ _ HWR.out.ls
   by_cases hlt : m < R.length
   ·obtain ⟨x, hx⟩ : ∃ x, R[m]? = some x := ⟨_, List.getElem?_eq_getElem hlt⟩
    have hrt := (HR.out.below HBR.out).rt x (List.mem_of_getElem? hx)
    obtain ⟨gr, ro, cur, T, fr, rfl, hg, hex⟩ := RdS.elt (f := rtvL) (fun _ => rfl) (HR.out.below HBR.out).rd hx
    have HXX := zh hx
    obtain ⟨r, v1, v2, v3⟩ := x
    obtain ⟨⟨A1, k1, e1, hr1, hl1⟩, ⟨A2, k2, e2, -, -⟩, ⟨A3, k3, e3, -, -⟩⟩ := hrt
    dsimp only at e1 e2 e3 hr1 hl1
    subst e1 e2 e3
    have HG := zh hg
    have HEX := zh hex
    have HR1 := zh hr1
    have hk1 := hr1.le
    have HLT := zh hlt
    clear hg hex hr1 hx
    go_upto_region 8 with (first
     | (refine zL 50 _ rfl _ _ rfl _ _ _ (HG.out) (rtvL (r, .slice A1 r.code.length k1, .slice A2 r.calls.length k2, .slice A3 r.iss.length k3)) (HEX.out) ?_ ?_ ?_; kernel_rfl; kernel_rfl)
     | (refine wpList_store_row rfl _ _ _ rfl _ _ rfl rfl _ _ (heap_alloc_new _ _) ?_ ?_ ?_ ?_; kernel_rfl; rfl; kernel_rfl; rw [World.setRow_alloc_new]))
    simp only [Act.put]
    obtain ⟨wk, hwk⟩ : ∃ wk, wr.alloc (.cells (rtvL (r, .slice A1 r.code.length k1, .slice A2 r.calls.length k2, .slice A3 r.iss.length k3)).toArray 50) = wk := ⟨_, rfl⟩
    have hbk : Below wr.heap.size wr wk := hwk ▸ (Below.refl _ _).alloc (zn _) _
    have HK := zh (show wk.heap[wr.heap.size]? = some (rtnO r A1 A2 A3 k1 k2 k3) from hwk ▸ heap_alloc_new wr _)
    have HBK := zh (HBR.out.trans (hbk.mono HBR.out.size))
    have HR1 := zh (HR1.out.below hbk)
    rw [hwk]
    obtain ⟨gk, hgk⟩ : ∃ gk, wr.heap.size = gk := ⟨_, rfl⟩
    rw [hgk] at HK ⊢
    clear hwk hbk hgk hcl HWR HG HEX HBR
    go_cut [48] (fun v wx => v = .bool false ∧ Hid (Below wk.heap.size wk wx))
    case first =>
     have HWK := zh (HW.out.below HBK.out)
     rcases Nat.eq_zero_or_pos m with h0 | h0
     ·subst h0
      refine zw (S := fun _ => True) [14] (by kernel_rfl) trivial (fun hHeld => ?_)
      (refine tkZ 0 (v := ?_) rfl (by assumption) ?_ ?_; rotate_left; (focus (intro w hSw; (try dsimp only at hSw); go_simp; try with_reducible rfl)); (try simp only [zA, zB, zC, Act.put, zD, zE, zF]))
      (refine tkZ 1 (v := .bool false) rfl (by assumption) (fun W hS => by clear hS; go_simp; first | done | rfl) ?_; (try simp only [zA, zB, zC, Act.put, zD, zE, zF]))
      (refine tkZ 2 (v := ?_) rfl (by assumption) ?_ ?_; rotate_left; (focus (intro w hSw; (try dsimp only at hSw); go_simp; try with_reducible rfl)); (try simp only [zA, zB, zC, Act.put, zD, zE, zF]))
      (refine skZ 3 rfl (by assumption) ?_; (try simp only [zA, zB, zC, Act.put, zD, zE, zF]))
      (refine skZ 4 rfl (by assumption) ?_; (try simp only [zA, zB, zC, Act.put, zD, zE, zF]))
      (refine skZ 5 rfl (by assumption) ?_; (try simp only [zA, zB, zC, Act.put, zD, zE, zF]))
      (refine skZ 6 rfl (by assumption) ?_; (try simp only [zA, zB, zC, Act.put, zD, zE, zF]))
      (refine skZ 7 rfl (by assumption) ?_; (try simp only [zA, zB, zC, Act.put, zD, zE, zF]))
      (refine skZ 8 rfl (by assumption) ?_; (try simp only [zA, zB, zC, Act.put, zD, zE, zF]))
      (refine skZ 9 rfl (by assumption) ?_; (try simp only [zA, zB, zC, Act.put, zD, zE, zF]))
      (refine skZ 10 rfl (by assumption) ?_; (try simp only [zA, zB, zC, Act.put, zD, zE, zF]))
      (refine skZ 11 rfl (by assumption) ?_; (try simp only [zA, zB, zC, Act.put, zD, zE, zF]))
      (refine skZ 12 rfl (by assumption) ?_; (try simp only [zA, zB, zC, Act.put, zD, zE, zF]))
      (refine skZ 13 rfl (by assumption) ?_; (try simp only [zA, zB, zC, Act.put, zD, zE, zF]))
      refine yl 14 ?_
      simp only [List.drop_succ_cons, List.drop_zero]
      go_wp2_with fail
      go_meet
      exact ⟨rfl, zh (Below.refl _ _).drew⟩
     ·obtain ⟨m', rfl⟩ : ∃ m', m = m' + 1 := ⟨m - 1, by omega⟩
      obtain ⟨x', hx'⟩ : ∃ x', R[m']? = some x' := ⟨_, List.getElem?_eq_getElem (by have := HLT.out; omega)⟩
      have HRK := zh (HR.out.below HBK.out)
      obtain ⟨gq, oq, cq, Tq, fq, e9, hg9, hex9, -, -⟩ := RdS.eltPart (f := rtvL) (fun _ => rfl) HRK.out.rd hx' (a := 0) (m := 2) (by omega) (L := xV x'.1.entry) rfl
      injection e9 with e9
      injection e9 with e91 e92
      subst e91 e92
      have HBF := zh (fun W => before_any x'.1.entry r.entry W)
      have hbf : yb x'.1.entry r.entry := pw_next HS.out.so (m := m') (by rw [List.map_map, List.getElem?_map, hx']; rfl) (by rw [List.map_map, List.getElem?_map, HXX.out]; rfl)
      have HBT := zh (decide_eq_true hbf)
      have HE9 := zh hex9
      have HG9 := zh hg9
      clear hbf hex9 hg9 hx'
      refine zw (S := fun W => W.heap[gl]? = some (.cells #[vc, .slice (some ⟨gr, ro, none⟩) R.length kr, vi] 38 (0, 0)) ∧ W.heap[gr]? = some (.cells cq Tq fq) ∧ W.heap[gk]? = some (rtnO r A1 A2 A3 k1 k2 k3)) [14] (by kernel_rfl) ⟨HWK.out.ls, HG9.out, HK.out⟩ (fun hHeld => ?_)
      (refine tkZ 0 (v := ?_) rfl (by assumption) ?_ ?_; rotate_left; (focus (intro w hSw; (try dsimp only at hSw); go_simp; try with_reducible rfl)); (try simp only [zA, zB, zC, Act.put, zD, zE, zF]))
      (refine tkZ 1 (v := .bool true) rfl (by assumption) (fun W hS => by clear hS; go_simp; first | done | rfl) ?_; (try simp only [zA, zB, zC, Act.put, zD, zE, zF]))
      (refine tkZ 2 (v := ?_) rfl (by assumption) ?_ ?_; rotate_left; (focus (intro w hSw; (try dsimp only at hSw); go_simp; try with_reducible rfl)); (try simp only [zA, zB, zC, Act.put, zD, zE, zF]))
      (refine tkZ 3 (v := ?_) rfl (by assumption) ?_ ?_; rotate_left; (focus (intro w hSw; (try dsimp only at hSw); go_simp; try with_reducible rfl)); (try simp only [zA, zB, zC, Act.put, zD, zE, zF]))
      (refine tkZ 4 (v := .slice (some ⟨gr, ro, none⟩) R.length kr) rfl (by assumption) (fun W hS => zK _ _ rfl _ _ rfl _ _ _ hS.1 _ rfl (fun _ => by kernel_rfl)) ?_; (try simp only [zA, zB, zC, Act.put, zD, zE, zF]))
      (refine tkZ 5 (v := ?_) rfl (by assumption) ?_ ?_; rotate_left; (focus (intro w hSw; (try dsimp only at hSw); go_simp; try with_reducible rfl)); (try simp only [zA, zB, zC, Act.put, zD, zE, zF]))
      (refine tkZ 6 (v := .int .i64 m') rfl (by assumption) (fun W hS => by clear hS; go_simp; first | done | rfl | exact IntWalk.i64_in _ (by omega)) ?_; (try simp only [zA, zB, zC, Act.put, zD, zE, zF]))
      have hml : m' < R.length := by have := HLT.out; omega
      (refine tkZ 7 (v := .pointer (some ⟨gr, ro + m' * 8, none⟩)) rfl (by assumption) (fun W hS => by clear hS; go_simp; first | done | rfl) ?_; (try simp only [zA, zB, zC, Act.put, zD, zE, zF]))
      (refine tkZ 8 (v := ?_) rfl (by assumption) ?_ ?_; rotate_left; (focus (intro w hSw; (try dsimp only at hSw); go_simp; try with_reducible rfl)); (try simp only [zA, zB, zC, Act.put, zD, zE, zF]))
      (refine tkZ 9 (v := .agg #[.int .i64 x'.1.entry.bank, .int .u16 x'.1.entry.addr]) rfl (by assumption) (fun W hS => zX _ _ rfl _ _ rfl _ _ _ hS.2.1 (xV x'.1.entry) HE9.out (by kernel_rfl)) ?_; (try simp only [zA, zB, zC, Act.put, zD, zE, zF]))
      (refine tkZ 10 (v := ?_) rfl (by assumption) ?_ ?_; rotate_left; (focus (intro w hSw; (try dsimp only at hSw); go_simp; try with_reducible rfl)); (try simp only [zA, zB, zC, Act.put, zD, zE, zF]))
      (refine tkZ 11 (v := .agg #[.int .i64 r.entry.bank, .int .u16 r.entry.addr]) rfl (by assumption) (fun W hS => zX _ _ rfl _ _ rfl _ _ _ hS.2.2 (xV r.entry) rfl (by kernel_rfl)) ?_; (try simp only [zA, zB, zC, Act.put, zD, zE, zF]))
      have HWD := zh (Below.refl wk.heap.size wk).drew
      obtain ⟨wd, hwd⟩ : ∃ wd, wk.drew = wd := ⟨_, rfl⟩
      rw [hwd] at HWD hHeld ⊢
      clear hwd
      refine yx 12 rfl (fun K hK => ?_)
      go_simp
      go_at_call 24
      (with_reducible refine (HBF.out _).mono ?_)
      rintro e9 w9 ⟨rfl, hb9⟩
      rw [HBT.out]
      have HB9 := zh (HWD.out.trans (hb9.mono HWD.out.size))
      clear hb9
      go_simp
      refine hK.out _ _ (.inr ⟨za HB9.out HWK.out.ls, za HB9.out HG9.out, za HB9.out HK.out⟩) ?_
      (try simp only [zA, zB, zC, Act.put, zD, zE, zF])
      clear hK K hHeld
      have hHeld := And.intro (za HB9.out HWK.out.ls) (And.intro (za HB9.out HG9.out) (za HB9.out HK.out))
      (refine tkZ 13 (v := .bool false) rfl (by assumption) (fun W hS => by clear hS; go_simp; first | done | rfl) ?_; (try simp only [zA, zB, zC, Act.put, zD, zE, zF]))
      refine yl 14 ?_
      simp only [List.drop_succ_cons, List.drop_zero]
      clear hHeld
      go_wp2_with fail
      go_meet
      exact ⟨rfl, HB9⟩
    case rest =>
     obtain ⟨rfl, HC⟩ := hcut
     have HBC := zh (HBK.out.trans (HC.out.mono HBK.out.size))
     have HKC := zh (za HC.out HK.out)
     have HR1 := zh (HR1.out.below HC.out)
     clear HC HK HBK
     have hcr := fun o => cell_of_row wc gk o _ _ _ HKC.out
     go_wp2_with fail
     have hlc := hl1
     obtain ⟨wp, rfl⟩ : ∃ wp : World, wp = wc := ⟨_, rfl⟩
     clear hcr
     go_loopw [12] (fun i wq => ∃ j : Nat, j ≤ r.code.length ∧ i = .int .i64 j ∧ Hid (Below wp.heap.size wp wq)) (fun i _ => r.code.length - (intOf i).toNat)
     case atStart => exact ⟨0, Nat.zero_le _, rfl, zh (Below.refl _ _)⟩
     case round =>
      obtain ⟨j, hj, rfl, HJ⟩ := hrel
      have HKJ := zh (za HJ.out HKC.out)
      have hcr := fun o => cell_of_row wr gk o _ _ _ HKJ.out
      by_cases hjl : j < r.code.length
      ·obtain ⟨y, hy⟩ : ∃ y, r.code[j]? = some y := ⟨_, List.getElem?_eq_getElem hjl⟩
       have hyo := HS.out.cd r (List.mem_map.2 ⟨_, List.mem_of_getElem? HXX.out, rfl⟩) y (List.mem_of_getElem? hy)
       have HRJ := zh (HR1.out.below HJ.out)
       obtain ⟨g3, o3, c3, T3, f3, rfl, hg3, hex3⟩ := RdS.elt (f := itmL I) (fun _ => rfl) HRJ.out hy
       obtain ⟨g3', o3', c3', T3', f3', e3, hg3', hexp, -, -⟩ := RdS.eltPart (f := itmL I) (fun _ => rfl) HRJ.out hy (a := 0) (m := 2) (by omega) (L := xV y) rfl
       injection e3 with e3
       injection e3 with e31 e32
       subst e31 e32
       obtain rfl : c3 = c3' := by rw [hg3] at hg3'; injection hg3' with h; injection h with h _
       have HE3 := zh hex3
       have HEP := zh hexp
       have HG3 := zh hg3
       have HY := zh hy
       have HYO := zh hyo
       have HJL := zh hjl
       have HBJ := zh (HBC.out.trans (HJ.out.mono HBC.out.size))
       have HWJ := zh (HW.out.below HBJ.out)
       have HAT := zh (fun W (hV : yG W I (some ⟨gb, 0, none⟩) 3 (some ⟨gd, 0, none⟩) 3) => rat_any I HI.out.ok _ 3 _ 3 none 0 0 y hyo.2.2.1 hyo.2.2.2 W hV)
       clear hex3 hexp hg3 hg3' hy hyo
       go_upto_region 13 with fail
       clear hcr
       go_cut [13] (fun v wx => ∃ gf, v = .pointer (some ⟨gf, 0, none⟩) ∧ Hid (wx.heap[gf]? = some (fndO (atI I y).1 (atI I y).2)) ∧ Hid (Below wr.heap.size wr wx))
       case first =>
        refine zw (S := fun W => W.heap[gi]? = some (imgI I gb gd) ∧ W.heap[gk]? = some (rtnO r (some ⟨g3, o3, none⟩) A2 A3 k1 k2 k3) ∧ W.heap[g3]? = some (.cells c3 T3 f3)) [9] (by kernel_rfl) ⟨HWJ.out.im, HKJ.out, HG3.out⟩ (fun hHeld => ?_)
        (refine tkZ 0 (v := .agg #[.slice (some ⟨gb, 0, none⟩) I.banks.length 3, .int .u16 I.entry, .int .u16 I.vector, .slice (some ⟨gd, 0, none⟩) I.data.length 3, .slice none 0 0]) rfl (by assumption) (fun W hS => yL _ _ rfl _ rfl _ _ _ hS.1 (by kernel_rfl)) ?_; (try simp only [zA, zB, zC, Act.put, zD, zE, zF]))
        (refine tkZ 1 (v := ?_) rfl (by assumption) ?_ ?_; rotate_left; (focus (intro w hSw; (try dsimp only at hSw); go_simp; try with_reducible rfl)); (try simp only [zA, zB, zC, Act.put, zD, zE, zF]))
        (refine tkZ 2 (v := .slice (some ⟨g3, o3, none⟩) r.code.length k1) rfl (by assumption) (fun W hS => zK _ _ rfl _ _ rfl _ _ _ hS.2.1 _ rfl (fun _ => by kernel_rfl)) ?_; (try simp only [zA, zB, zC, Act.put, zD, zE, zF]))
        (refine tkZ 3 (v := ?_) rfl (by assumption) ?_ ?_; rotate_left; (focus (intro w hSw; (try dsimp only at hSw); go_simp; try with_reducible rfl)); (try simp only [zA, zB, zC, Act.put, zD, zE, zF]))
        (refine tkZ 4 (v := .pointer (some ⟨g3, o3 + j * 9, none⟩)) rfl (by assumption) (fun W hS => by clear hS; go_simp; first | done | rfl) ?_; (try simp only [zA, zB, zC, Act.put, zD, zE, zF]))
        (refine tkZ 5 (v := ?_) rfl (by assumption) ?_ ?_; rotate_left; (focus (intro w hSw; (try dsimp only at hSw); go_simp; try with_reducible rfl)); (try simp only [zA, zB, zC, Act.put, zD, zE, zF]))
        (refine tkZ 6 (v := .agg #[.int .i64 y.bank, .int .u16 y.addr]) rfl (by assumption) (fun W hS => zX _ _ rfl _ _ rfl _ _ _ hS.2.2 (xV y) HEP.out (by kernel_rfl)) ?_; (try simp only [zA, zB, zC, Act.put, zD, zE, zF]))
        have HWD := zh (Below.refl wr.heap.size wr).drew
        obtain ⟨wd, hwd⟩ : ∃ wd, wr.drew = wd := ⟨_, rfl⟩
        rw [hwd] at HWD hHeld ⊢
        clear hwd
        have HS3 := zh (fun W (hb : Below wr.heap.size wr W) => show W.heap[gi]? = some (imgI I gb gd) ∧ W.heap[gk]? = some (rtnO r (some ⟨g3, o3, none⟩) A2 A3 k1 k2 k3) ∧ W.heap[g3]? = some (.cells c3 T3 f3) from ⟨za hb HWJ.out.im, za hb HKJ.out, za hb HG3.out⟩)
        clear hHeld
        refine twoZ 7 8 rfl rfl (fun K hK => ?_) (fun K hK => ?_)
        ·go_simp
         go_at_call 25
         (with_reducible refine (HAT.out _ (HWJ.out.below HWD.out).vw).mono ?_)
         rintro e9 w9 ⟨rfl, hb9⟩
         have HB9 := zh (HWD.out.trans (hb9.mono HWD.out.size))
         clear hb9
         go_simp
         refine hK.out _ _ (.inr (HS3.out _ HB9.out)) ?_
         (try simp only [zA, zB, zC, Act.put, zD, zE, zF])
         clear hK K
         refine yx 8 rfl (fun K hK => ?_)
         go_simp
         have HGF := zh (heap_alloc_new w9 (rfnd0 0))
         have HB10 := zh (HB9.out.alloc HB9.out.size (rfnd0 0))
         refine hK.out _ _ (.inr (HS3.out _ HB10.out)) ?_
         (try simp only [zA, zB, zC, Act.put, zD, zE, zF])
         clear hK K
         refine yl 9 ?_
         simp only [List.drop_succ_cons, List.drop_zero]
         go_wp2_with (first | (refine wpList_store_row rfl _ _ _ rfl _ _ rfl rfl _ _ (HGF.out) ?_ ?_ ?_ ?_; kernel_rfl; rfl; kernel_rfl))
         go_meet
         exact ⟨_, rfl, zh (setRow_heap _ _ _ _ _ _ HGF.out), zh (below_setRow HB10.out HB9.out.size _)⟩
        ·go_simp
         have HGF := zh (heap_alloc_new wd (rfnd0 0))
         have HB9 := zh (HWD.out.alloc HWD.out.size (rfnd0 0))
         refine hK.out _ _ (.inr (HS3.out _ HB9.out)) ?_
         (try simp only [zA, zB, zC, Act.put, zD, zE, zF])
         clear hK K
         refine yx 7 rfl (fun K hK => ?_)
         go_simp
         go_at_call 25
         (with_reducible refine (HAT.out _ (HWJ.out.below HB9.out).vw).mono ?_)
         rintro e9 w10 ⟨rfl, hb10⟩
         have HB10 := zh (HB9.out.trans (hb10.mono HB9.out.size))
         have HGF := zh (za hb10 HGF.out)
         clear hb10
         go_simp
         refine hK.out _ _ (.inr (HS3.out _ HB10.out)) ?_
         (try simp only [zA, zB, zC, Act.put, zD, zE, zF])
         clear hK K
         refine yl 9 ?_
         simp only [List.drop_succ_cons, List.drop_zero]
         go_wp2_with (first | (refine wpList_store_row rfl _ _ _ rfl _ _ rfl rfl _ _ (HGF.out) ?_ ?_ ?_ ?_; kernel_rfl; rfl; kernel_rfl))
         go_meet
         exact ⟨_, rfl, zh (setRow_heap _ _ _ _ _ _ HGF.out), zh (below_setRow HB10.out HWD.out.size _)⟩
       case rest =>
        obtain ⟨gf, rfl, HF, HFB⟩ := hcut
        have HBX := zh (HJ.out.trans (HFB.out.mono HJ.out.size))
        have HKX := zh (za HFB.out HKJ.out)
        have HGX := zh (za HFB.out HG3.out)
        have he0 : (atI I y).2 = 0 := HYO.out.1
        have HF0 := zh (show wc.heap[gf]? = some (fndO (atI I y).1 0) from he0 ▸ HF.out)
        have hexi := RdS.eltPart (f := itmL I) (fun _ => rfl) (HRJ.out.below HFB.out) HY.out (a := 2) (m := 7) (by omega) (L := [.int .i64 (atI I y).1.op, .int .i64 (atI I y).1.d, .int .i64 (atI I y).1.s, .int .u16 (atI I y).1.imm, .int .u16 (atI I y).1.aux, .int .i64 (atI I y).1.bank, .int .i64 (atI I y).1.size]) rfl
        obtain ⟨g4, o4, c4, T4, f4, e4, hg4, hexi, -, -⟩ := hexi
        injection e4 with e4
        injection e4 with e41 e42
        subst e41 e42
        obtain rfl : c3 = c4 := by rw [HGX.out] at hg4; injection hg4 with h; injection h with h _
        have HEI := zh hexi
        have HRX := zh (HRJ.out.below HFB.out)
        clear he0 HF hexi hg4 HFB HE3 HAT
        have HS4 := zh (And.intro HF0.out (And.intro HKX.out HGX.out))
        generalize (atI I y).1 = Y at *
        go_upto_region 14 with fail
        go_cut [98] (fun v wx => v = .bool false ∧ Hid (Below wc.heap.size wc wx))
        case first =>
         rcases Nat.eq_zero_or_pos j with h0 | h0
         ·subst h0
          refine zw (S := fun W => W.heap[gf]? = some (fndO Y 0) ∧ W.heap[gk]? = some (rtnO r (some ⟨g3, o3, none⟩) A2 A3 k1 k2 k3) ∧ W.heap[g3]? = some (.cells c3 T3 f3)) [] (by kernel_rfl) HS4.out (fun hHeld => ?_)
          (refine tkZ 0 (v := ?_) rfl (by assumption) ?_ ?_; rotate_left; (focus (intro w hSw; (try dsimp only at hSw); go_simp; try with_reducible rfl)); (try simp only [zA, zB, zC, Act.put, zD, zE, zF]))
          (refine tkZ 1 (v := .int .i64 0) rfl (by assumption) (fun W hS => zK _ _ rfl _ _ rfl _ _ _ hS.1 _ rfl (fun _ => by kernel_rfl)) ?_; (try simp only [zA, zB, zC, Act.put, zD, zE, zF]))
          (refine tkZ 2 (v := .bool false) rfl (by assumption) (fun W hS => by clear hS; go_simp; first | done | rfl) ?_; (try simp only [zA, zB, zC, Act.put, zD, zE, zF]))
          (refine tkZ 3 (v := ?_) rfl (by assumption) ?_ ?_; rotate_left; (focus (intro w hSw; (try dsimp only at hSw); go_simp; try with_reducible rfl)); (try simp only [zA, zB, zC, Act.put, zD, zE, zF]))
          (refine tkZ 4 (v := ?_) rfl (by assumption) ?_ ?_; rotate_left; (focus (intro w hSw; (try dsimp only at hSw); go_simp; try with_reducible rfl)); (try simp only [zA, zB, zC, Act.put, zD, zE, zF]))
          (refine tkZ 5 (v := .agg #[.int .i64 Y.op, .int .i64 Y.d, .int .i64 Y.s, .int .u16 Y.imm, .int .u16 Y.aux, .int .i64 Y.bank, .int .i64 Y.size]) rfl (by assumption) (fun W hS => zX _ _ rfl _ _ rfl _ _ _ hS.1 [.int .i64 Y.op, .int .i64 Y.d, .int .i64 Y.s, .int .u16 Y.imm, .int .u16 Y.aux, .int .i64 Y.bank, .int .i64 Y.size] rfl (by kernel_rfl)) ?_; (try simp only [zA, zB, zC, Act.put, zD, zE, zF]))
          (refine tkZ 6 (v := ?_) rfl (by assumption) ?_ ?_; rotate_left; (focus (intro w hSw; (try dsimp only at hSw); go_simp; try with_reducible rfl)); (try simp only [zA, zB, zC, Act.put, zD, zE, zF]))
          (refine tkZ 7 (v := .slice (some ⟨g3, o3, none⟩) r.code.length k1) rfl (by assumption) (fun W hS => zK _ _ rfl _ _ rfl _ _ _ hS.2.1 _ rfl (fun _ => by kernel_rfl)) ?_; (try simp only [zA, zB, zC, Act.put, zD, zE, zF]))
          (refine tkZ 8 (v := ?_) rfl (by assumption) ?_ ?_; rotate_left; (focus (intro w hSw; (try dsimp only at hSw); go_simp; try with_reducible rfl)); (try simp only [zA, zB, zC, Act.put, zD, zE, zF]))
          (refine tkZ 9 (v := .pointer (some ⟨g3, o3 + 0 * 9, none⟩)) rfl (by assumption) (fun W hS => by clear hS; go_simp; first | done | rfl) ?_; (try simp only [zA, zB, zC, Act.put, zD, zE, zF]))
          (refine tkZ 10 (v := .pointer (some ⟨g3, o3 + 0 * 9 + 2, none⟩)) rfl (by assumption) (fun W hS => by clear hS; go_simp; first | done | rfl) ?_; (try simp only [zA, zB, zC, Act.put, zD, zE, zF]))
          (refine tkZ 11 (v := .agg #[.int .i64 Y.op, .int .i64 Y.d, .int .i64 Y.s, .int .u16 Y.imm, .int .u16 Y.aux, .int .i64 Y.bank, .int .i64 Y.size]) rfl (by assumption) (fun W hS => zX _ _ rfl _ _ rfl _ _ _ hS.2.2 [.int .i64 Y.op, .int .i64 Y.d, .int .i64 Y.s, .int .u16 Y.imm, .int .u16 Y.aux, .int .i64 Y.bank, .int .i64 Y.size] HEI.out (by kernel_rfl)) ?_; (try simp only [zA, zB, zC, Act.put, zD, zE, zF]))
          (refine tkZ 12 (v := .bool false) rfl (by assumption) (fun W hS => by clear hS; go_simp; first | done | rfl) ?_; (try simp only [zA, zB, zC, Act.put, zD, zE, zF]))
          (refine tkZ 13 (v := .bool false) rfl (by assumption) (fun W hS => by clear hS; go_simp; first | done | rfl) ?_; (try simp only [zA, zB, zC, Act.put, zD, zE, zF]))
          (refine tkZ 14 (v := ?_) rfl (by assumption) ?_ ?_; rotate_left; (focus (intro w hSw; (try dsimp only at hSw); go_simp; try with_reducible rfl)); (try simp only [zA, zB, zC, Act.put, zD, zE, zF]))
          (refine tkZ 15 (v := ?_) rfl (by assumption) ?_ ?_; rotate_left; (focus (intro w hSw; (try dsimp only at hSw); go_simp; try with_reducible rfl)); (try simp only [zA, zB, zC, Act.put, zD, zE, zF]))
          (refine tkZ 16 (v := .bool false) rfl (by assumption) (fun W hS => by clear hS; go_simp; first | done | rfl) ?_; (try simp only [zA, zB, zC, Act.put, zD, zE, zF]))
          (refine tkZ 17 (v := ?_) rfl (by assumption) ?_ ?_; rotate_left; (focus (intro w hSw; (try dsimp only at hSw); go_simp; try with_reducible rfl)); (try simp only [zA, zB, zC, Act.put, zD, zE, zF]))
          (refine skZ 18 rfl (by assumption) ?_; (try simp only [zA, zB, zC, Act.put, zD, zE, zF]))
          (refine skZ 19 rfl (by assumption) ?_; (try simp only [zA, zB, zC, Act.put, zD, zE, zF]))
          (refine skZ 20 rfl (by assumption) ?_; (try simp only [zA, zB, zC, Act.put, zD, zE, zF]))
          (refine skZ 21 rfl (by assumption) ?_; (try simp only [zA, zB, zC, Act.put, zD, zE, zF]))
          (refine skZ 22 rfl (by assumption) ?_; (try simp only [zA, zB, zC, Act.put, zD, zE, zF]))
          (refine skZ 23 rfl (by assumption) ?_; (try simp only [zA, zB, zC, Act.put, zD, zE, zF]))
          (refine skZ 24 rfl (by assumption) ?_; (try simp only [zA, zB, zC, Act.put, zD, zE, zF]))
          (refine skZ 25 rfl (by assumption) ?_; (try simp only [zA, zB, zC, Act.put, zD, zE, zF]))
          (refine skZ 26 rfl (by assumption) ?_; (try simp only [zA, zB, zC, Act.put, zD, zE, zF]))
          (refine skZ 27 rfl (by assumption) ?_; (try simp only [zA, zB, zC, Act.put, zD, zE, zF]))
          (refine skZ 28 rfl (by assumption) ?_; (try simp only [zA, zB, zC, Act.put, zD, zE, zF]))
          (refine skZ 29 rfl (by assumption) ?_; (try simp only [zA, zB, zC, Act.put, zD, zE, zF]))
          (refine skZ 30 rfl (by assumption) ?_; (try simp only [zA, zB, zC, Act.put, zD, zE, zF]))
          (refine skZ 31 rfl (by assumption) ?_; (try simp only [zA, zB, zC, Act.put, zD, zE, zF]))
          (refine skZ 32 rfl (by assumption) ?_; (try simp only [zA, zB, zC, Act.put, zD, zE, zF]))
          (refine tkZ 33 (v := .bool false) rfl (by assumption) (fun W hS => by clear hS; go_simp; first | done | rfl) ?_; (try simp only [zA, zB, zC, Act.put, zD, zE, zF]))
          (refine tkZ 34 (v := .bool false) rfl (by assumption) (fun W hS => by clear hS; go_simp; first | done | rfl) ?_; (try simp only [zA, zB, zC, Act.put, zD, zE, zF]))
          refine yl 35 ?_
          simp only [List.drop_succ_cons, List.drop_zero]
          go_wp2_with fail
          go_meet
          exact ⟨rfl, zh (Below.refl _ _).drew⟩
         ·obtain ⟨j', rfl⟩ : ∃ j', j = j' + 1 := ⟨j - 1, by omega⟩
          obtain ⟨y', hy'⟩ : ∃ y', r.code[j']? = some y' := ⟨_, List.getElem?_eq_getElem (by have := HJL.out; omega)⟩
          obtain ⟨g5, o5, c5, T5, f5, e5, hg5, hex5, -, -⟩ := RdS.eltPart (f := itmL I) (fun _ => rfl) HRX.out hy' (a := 0) (m := 2) (by omega) (L := xV y') rfl
          injection e5 with e5
          injection e5 with e51 e52
          subst e51 e52
          obtain rfl : c3 = c5 := by rw [HGX.out] at hg5; injection hg5 with h; injection h with h _
          have hbf : yb y' y := pw_next ((HS.out.rt r (List.mem_map.2 ⟨_, List.mem_of_getElem? HXX.out, rfl⟩)).sc) hy' HY.out
          have HBF := zh (fun W => before_any y' y W)
          have HBT := zh (decide_eq_true hbf)
          have HE5 := zh hex5
          have hjm : j' < r.code.length := by have := HJL.out; omega
          clear hbf hex5 hg5 hy'
          refine zw (S := fun W => W.heap[gf]? = some (fndO Y 0) ∧ W.heap[gk]? = some (rtnO r (some ⟨g3, o3, none⟩) A2 A3 k1 k2 k3) ∧ W.heap[g3]? = some (.cells c3 T3 f3)) [] (by kernel_rfl) HS4.out (fun hHeld => ?_)
          (refine tkZ 0 (v := ?_) rfl (by assumption) ?_ ?_; rotate_left; (focus (intro w hSw; (try dsimp only at hSw); go_simp; try with_reducible rfl)); (try simp only [zA, zB, zC, Act.put, zD, zE, zF]))
          (refine tkZ 1 (v := .int .i64 0) rfl (by assumption) (fun W hS => zK _ _ rfl _ _ rfl _ _ _ hS.1 _ rfl (fun _ => by kernel_rfl)) ?_; (try simp only [zA, zB, zC, Act.put, zD, zE, zF]))
          (refine tkZ 2 (v := .bool false) rfl (by assumption) (fun W hS => by clear hS; go_simp; first | done | rfl) ?_; (try simp only [zA, zB, zC, Act.put, zD, zE, zF]))
          (refine tkZ 3 (v := ?_) rfl (by assumption) ?_ ?_; rotate_left; (focus (intro w hSw; (try dsimp only at hSw); go_simp; try with_reducible rfl)); (try simp only [zA, zB, zC, Act.put, zD, zE, zF]))
          (refine tkZ 4 (v := ?_) rfl (by assumption) ?_ ?_; rotate_left; (focus (intro w hSw; (try dsimp only at hSw); go_simp; try with_reducible rfl)); (try simp only [zA, zB, zC, Act.put, zD, zE, zF]))
          (refine tkZ 5 (v := .agg #[.int .i64 Y.op, .int .i64 Y.d, .int .i64 Y.s, .int .u16 Y.imm, .int .u16 Y.aux, .int .i64 Y.bank, .int .i64 Y.size]) rfl (by assumption) (fun W hS => zX _ _ rfl _ _ rfl _ _ _ hS.1 [.int .i64 Y.op, .int .i64 Y.d, .int .i64 Y.s, .int .u16 Y.imm, .int .u16 Y.aux, .int .i64 Y.bank, .int .i64 Y.size] rfl (by kernel_rfl)) ?_; (try simp only [zA, zB, zC, Act.put, zD, zE, zF]))
          (refine tkZ 6 (v := ?_) rfl (by assumption) ?_ ?_; rotate_left; (focus (intro w hSw; (try dsimp only at hSw); go_simp; try with_reducible rfl)); (try simp only [zA, zB, zC, Act.put, zD, zE, zF]))
          (refine tkZ 7 (v := .slice (some ⟨g3, o3, none⟩) r.code.length k1) rfl (by assumption) (fun W hS => zK _ _ rfl _ _ rfl _ _ _ hS.2.1 _ rfl (fun _ => by kernel_rfl)) ?_; (try simp only [zA, zB, zC, Act.put, zD, zE, zF]))
          (refine tkZ 8 (v := ?_) rfl (by assumption) ?_ ?_; rotate_left; (focus (intro w hSw; (try dsimp only at hSw); go_simp; try with_reducible rfl)); (try simp only [zA, zB, zC, Act.put, zD, zE, zF]))
          (refine tkZ 9 (v := .pointer (some ⟨g3, o3 + (j' + 1) * 9, none⟩)) rfl (by assumption) (fun W hS => by clear hS; go_simp; first | done | rfl | (intro h; exact absurd (h (by omega)) (by omega))) ?_; (try simp only [zA, zB, zC, Act.put, zD, zE, zF]))
          (refine tkZ 10 (v := .pointer (some ⟨g3, o3 + (j' + 1) * 9 + 2, none⟩)) rfl (by assumption) (fun W hS => by clear hS; go_simp; first | done | rfl) ?_; (try simp only [zA, zB, zC, Act.put, zD, zE, zF]))
          (refine tkZ 11 (v := .agg #[.int .i64 Y.op, .int .i64 Y.d, .int .i64 Y.s, .int .u16 Y.imm, .int .u16 Y.aux, .int .i64 Y.bank, .int .i64 Y.size]) rfl (by assumption) (fun W hS => zX _ _ rfl _ _ rfl _ _ _ hS.2.2 [.int .i64 Y.op, .int .i64 Y.d, .int .i64 Y.s, .int .u16 Y.imm, .int .u16 Y.aux, .int .i64 Y.bank, .int .i64 Y.size] HEI.out (by kernel_rfl)) ?_; (try simp only [zA, zB, zC, Act.put, zD, zE, zF]))
          (refine tkZ 12 (v := .bool false) rfl (by assumption) (fun W hS => by clear hS; go_simp; first | done | rfl) ?_; (try simp only [zA, zB, zC, Act.put, zD, zE, zF]))
          (refine tkZ 13 (v := .bool false) rfl (by assumption) (fun W hS => by clear hS; go_simp; first | done | rfl) ?_; (try simp only [zA, zB, zC, Act.put, zD, zE, zF]))
          (refine tkZ 14 (v := ?_) rfl (by assumption) ?_ ?_; rotate_left; (focus (intro w hSw; (try dsimp only at hSw); go_simp; try with_reducible rfl)); (try simp only [zA, zB, zC, Act.put, zD, zE, zF]))
          (refine tkZ 15 (v := ?_) rfl (by assumption) ?_ ?_; rotate_left; (focus (intro w hSw; (try dsimp only at hSw); go_simp; try with_reducible rfl)); (try simp only [zA, zB, zC, Act.put, zD, zE, zF]))
          (refine tkZ 16 (v := .bool true) rfl (by assumption) (fun W hS => by clear hS; go_simp; first | done | rfl) ?_; (try simp only [zA, zB, zC, Act.put, zD, zE, zF]))
          (refine tkZ 17 (v := ?_) rfl (by assumption) ?_ ?_; rotate_left; (focus (intro w hSw; (try dsimp only at hSw); go_simp; try with_reducible rfl)); (try simp only [zA, zB, zC, Act.put, zD, zE, zF]))
          (refine tkZ 18 (v := ?_) rfl (by assumption) ?_ ?_; rotate_left; (focus (intro w hSw; (try dsimp only at hSw); go_simp; try with_reducible rfl)); (try simp only [zA, zB, zC, Act.put, zD, zE, zF]))
          (refine tkZ 19 (v := .slice (some ⟨g3, o3, none⟩) r.code.length k1) rfl (by assumption) (fun W hS => zK _ _ rfl _ _ rfl _ _ _ hS.2.1 _ rfl (fun _ => by kernel_rfl)) ?_; (try simp only [zA, zB, zC, Act.put, zD, zE, zF]))
          (refine tkZ 20 (v := ?_) rfl (by assumption) ?_ ?_; rotate_left; (focus (intro w hSw; (try dsimp only at hSw); go_simp; try with_reducible rfl)); (try simp only [zA, zB, zC, Act.put, zD, zE, zF]))
          (refine tkZ 21 (v := .int .i64 j') rfl (by assumption) (fun W hS => by clear hS; go_simp; first | done | rfl | exact IntWalk.i64_in _ (by omega)) ?_; (try simp only [zA, zB, zC, Act.put, zD, zE, zF]))
          (refine tkZ 22 (v := .pointer (some ⟨g3, o3 + j' * 9, none⟩)) rfl (by assumption) (fun W hS => by clear hS; go_simp; first | done | rfl) ?_; (try simp only [zA, zB, zC, Act.put, zD, zE, zF]))
          (refine tkZ 23 (v := ?_) rfl (by assumption) ?_ ?_; rotate_left; (focus (intro w hSw; (try dsimp only at hSw); go_simp; try with_reducible rfl)); (try simp only [zA, zB, zC, Act.put, zD, zE, zF]))
          (refine tkZ 24 (v := .agg #[.int .i64 y'.bank, .int .u16 y'.addr]) rfl (by assumption) (fun W hS => zX _ _ rfl _ _ rfl _ _ _ hS.2.2 (xV y') HE5.out (by kernel_rfl)) ?_; (try simp only [zA, zB, zC, Act.put, zD, zE, zF]))
          (refine tkZ 25 (v := ?_) rfl (by assumption) ?_ ?_; rotate_left; (focus (intro w hSw; (try dsimp only at hSw); go_simp; try with_reducible rfl)); (try simp only [zA, zB, zC, Act.put, zD, zE, zF]))
          (refine tkZ 26 (v := .slice (some ⟨g3, o3, none⟩) r.code.length k1) rfl (by assumption) (fun W hS => zK _ _ rfl _ _ rfl _ _ _ hS.2.1 _ rfl (fun _ => by kernel_rfl)) ?_; (try simp only [zA, zB, zC, Act.put, zD, zE, zF]))
          (refine tkZ 27 (v := ?_) rfl (by assumption) ?_ ?_; rotate_left; (focus (intro w hSw; (try dsimp only at hSw); go_simp; try with_reducible rfl)); (try simp only [zA, zB, zC, Act.put, zD, zE, zF]))
          (refine tkZ 28 (v := .pointer (some ⟨g3, o3 + (j' + 1) * 9, none⟩)) rfl (by assumption) (fun W hS => by clear hS; go_simp; first | done | rfl | (intro h; exact absurd (h (by omega)) (by omega))) ?_; (try simp only [zA, zB, zC, Act.put, zD, zE, zF]))
          (refine tkZ 29 (v := ?_) rfl (by assumption) ?_ ?_; rotate_left; (focus (intro w hSw; (try dsimp only at hSw); go_simp; try with_reducible rfl)); (try simp only [zA, zB, zC, Act.put, zD, zE, zF]))
          (refine tkZ 30 (v := .agg #[.int .i64 y.bank, .int .u16 y.addr]) rfl (by assumption) (fun W hS => zX _ _ rfl _ _ rfl _ _ _ hS.2.2 (xV y) HEP.out (by kernel_rfl)) ?_; (try simp only [zA, zB, zC, Act.put, zD, zE, zF]))
          have HWD := zh (Below.refl wc.heap.size wc).drew
          obtain ⟨wd, hwd⟩ : ∃ wd, wc.drew = wd := ⟨_, rfl⟩
          rw [hwd] at HWD hHeld ⊢
          clear hwd
          refine yx 31 rfl (fun K hK => ?_)
          go_simp
          go_at_call 24
          (with_reducible refine (HBF.out _).mono ?_)
          rintro e9 w9 ⟨rfl, hb9⟩
          rw [HBT.out]
          have HB9 := zh (HWD.out.trans (hb9.mono HWD.out.size))
          clear hb9
          go_simp
          refine hK.out _ _ (.inr ⟨za HB9.out HS4.out.1, za HB9.out HS4.out.2.1, za HB9.out HS4.out.2.2⟩) ?_
          (try simp only [zA, zB, zC, Act.put, zD, zE, zF])
          clear hK K hHeld
          have hHeld := And.intro (za HB9.out HS4.out.1) (And.intro (za HB9.out HS4.out.2.1) (za HB9.out HS4.out.2.2))
          (refine tkZ 32 (v := .bool false) rfl (by assumption) (fun W hS => by clear hS; go_simp; first | done | rfl) ?_; (try simp only [zA, zB, zC, Act.put, zD, zE, zF]))
          (refine tkZ 33 (v := .bool false) rfl (by assumption) (fun W hS => by clear hS; go_simp; first | done | rfl) ?_; (try simp only [zA, zB, zC, Act.put, zD, zE, zF]))
          (refine tkZ 34 (v := .bool false) rfl (by assumption) (fun W hS => by clear hS; go_simp; first | done | rfl) ?_; (try simp only [zA, zB, zC, Act.put, zD, zE, zF]))
          refine yl 35 ?_
          simp only [List.drop_succ_cons, List.drop_zero]
          go_wp2_with fail
          go_meet
          exact ⟨rfl, HB9⟩
        case rest =>
         obtain ⟨rfl, HC⟩ := hcut
         go_wp2_with fail
         go_roundw
         case rel => exact ⟨j + 1, HJL.out, by go_num, zh (HBX.out.trans (HC.out.mono HBX.out.size))⟩
         case measure => have h1 := HJL.out; simp [intOf]; omega
      ·obtain rfl : j = r.code.length := by omega
       have HLT := zh HLT.out
       go_wp2_with fail
       go_roundw
       case rel => exact ⟨m + 1, HLT.out, by go_num, zh (HBC.out.trans (HJ.out.mono HBC.out.size))⟩
       case measure => have h1 := HLT.out; simp [intOf]; omega
   ·obtain rfl : m = R.length := by omega
    go_wp2_with fail
    go_ret
    exact ⟨rfl, HB.out.trans (HBR.out.mono HB.out.size)⟩
end Go.Proofs.YteofmaiojepdkaaGreat
