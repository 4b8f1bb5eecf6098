/- package scan: Scan, walked. Condition: the image's banks have 4096 bytes; the further places are places, not too many. -/
import Derived.Test.YteofmaiojepdkaaGreatTbSkX
set_option linter.all false
namespace Go.Proofs.YteofmaiojepdkaaGreat
open Go Go.RowKit Go.Maps Go.Sort
@[go_sem] theorem scn_build (ba : Option Addr) (bn bc : Nat) (x y : Int) (da : Option Addr) (dn dc : Nat) (ra : Option Addr) (rn rc g : Nat) (W : World) : (Instr.build 96 #[(0, .agg #[.slice ba bn bc, .int .u16 x, .int .u16 y, .slice da dn dc, .slice ra rn rc]), (1, .map (some g))]).run Tryz.prog W = .ok (.agg #[.slice ba bn bc, .int .u16 x, .int .u16 y, .slice da dn dc, .slice ra rn rc, .map (some g)]) W := run_build W _ _ _ (by kernel_rfl)
@[go_sem] theorem lst_build (a : Option Addr) (n c : Nat) (W : World) : (Instr.build 38 #[(0, .slice a n c)]).run Tryz.prog W = .ok (.agg #[.slice a n c, .slice none 0 0, .slice none 0 0]) W := run_build W _ _ _ (by kernel_rfl)
theorem insL_put {I : zk} {l : List zb} {p : zb} : xG p (insV (atI I p).1) (insL I l) = insL I (if p ∈ l then l else l ++ [p]) := by
 by_cases h : p ∈ l
 ·rw [if_pos h]
  induction l with
  | nil => simp at h
  | cons q l ih =>
   unfold insL at ih ⊢
   rw [List.map_cons]
   by_cases e : p = q
   ·subst e; simp [xG]
   ·have h2 : p ∈ l := by simpa [e] using h
    simp [xG, e, ih h2]
 ·rw [if_neg h, putL_new (by rw [insL_keys]; exact h)]
  simp [insL]
theorem addL_nodup {C : List zb} (hC : C.Nodup) : ∀ l : List zb, (xU C l).Nodup
 | [] => hC
 | p :: l => by
  show (xU (if p ∈ C then C else C ++ [p]) l).Nodup
  by_cases h : p ∈ C
  ·rw [if_pos h]; exact addL_nodup hC l
  ·rw [if_neg h]
   exact addL_nodup (List.nodup_append.2 ⟨hC, by simp, fun a ha b hb e => h (by rw [List.mem_singleton.1 hb] at e; rw [← e]; exact ha)⟩) l
theorem xM.mono {B B' : Nat} {gs : List Nat} {c : Nat → Nat → Int} {v : Value} {W : World} (h : xM B gs c v W) (hB : B' ≤ B) : xM B' gs c v W := ⟨h.own.mono hB, h.nd, fun g hg => Nat.le_trans hB (h.lb g hg), h.row⟩
structure LstV (I : zk) (B : Nat) (L : LstS) (vc vr vi : Value) (W : World) : Prop where
 cls : ∃ gs c, gs.length = I.banks.length ∧ xM B gs c vc W ∧ L.cls = clsL I c
 rts : ∃ R : List RtR, RnsV I B R vr W ∧ L.rts = R.map (·.1)
 iss : W.ownsRow B 58 3 vi L.iss.length (yf L.iss)
theorem RnsV.turn {I : zk} {B : Nat} {R : List RtR} {v : Value} {W W' : World} {bs : Nat → Prop} (h : RnsV I B R v W) (t : zg bs W W') (hb : ∀ k cs T fr, W.heap[k]? = some (.cells cs T fr) → T ≠ 5 → T ≠ 38 → ¬ bs k) : RnsV I B R v W' :=
 ⟨zi h.own t (fun k hk => by obtain ⟨-, cs, hc⟩ := zz h.own k hk; exact hb k cs _ _ hc (by decide) (by decide)), fun x hx => (h.rv x hx).turn t (fun k cs fr hc => hb k cs _ _ hc (by decide) (by decide)) (fun k hk => by obtain ⟨-, cs, hc⟩ := zz (h.rv x hx).ol k hk; exact hb k cs _ _ hc (by decide) (by decide)) (fun k cs fr hc => hb k cs _ _ hc (by decide) (by decide))⟩
theorem RnsV.below {I : zk} {B : Nat} {R : List RtR} {v : Value} {W W' : World} (h : RnsV I B R v W) (hb : Below W.heap.size W W') : RnsV I B R v W' := h.turn (zg.ofBelow (bs := fun _ => False) hb) (fun _ _ _ _ _ _ _ e => e)
theorem RnsV.mono {I : zk} {B B' : Nat} {R : List RtR} {v : Value} {W : World} (h : RnsV I B R v W) (hB : B' ≤ B) : RnsV I B' R v W := ⟨h.own.mono hB, fun x hx => (h.rv x hx).mono hB⟩
theorem own_max {w : World} {B s n : Nat} {T : TypeId} {v : Value} {xs : List Value} (h : w.ownsRow B T s v n xs) : n ≤ 9223372036854775807 := by
 rcases h.2 with ⟨-, h0⟩ | ⟨g, cap, cur, -, -, -, hn, hc, -⟩
 ·omega
 ·exact Nat.le_trans hn hc
theorem run_lenL {κ : Type} [DecidableEq κ] {P : Program} {K e t : TypeId} {enc : κ → Value} {l : List (κ × Value)} {w : World} {g : Nat} (ht : P.underlying t = some (.map K e)) (hg : w.heap[g]? = some (yc enc l)) (ty : TypeId) : (Builtin.len_ #[t] ty #[.map (some g)]).run P w = .ok (.int .i64 l.length) w := by
 simp [Builtin.len_, run_underlying ht, MapKept.run_getObj_map (P := P) hg, goInt, Result.andThen, x7]
theorem insL_len (I : zk) (l : List zb) : (insL I l).length = l.length := by unfold insL; exact List.length_map _
def yN (R : List RtR) : List zb := R.flatMap fun x => x.1.code
theorem codes_snoc {R : List RtR} {m : Nat} {x : RtR} (hx : R[m]? = some x) : yN (R.take (m + 1)) = yN (R.take m) ++ x.1.code := by
 rw [List.take_succ, hx]
 show yN (R.take m ++ [x]) = _
 unfold yN
 rw [List.flatMap_append, List.flatMap_cons, List.flatMap_nil, List.append_nil]
theorem mem_codes {R : List RtR} {p : zb} : p ∈ xU [] (yN R) ↔ ∃ r ∈ R.map (·.1), p ∈ r.code := by
 rw [mem_addL]
 unfold yN
 simp only [List.not_mem_nil, false_or, List.mem_flatMap, List.mem_map]
 constructor
 ·rintro ⟨x, h1, h2⟩; exact ⟨x.1, ⟨x, h1, rfl⟩, h2⟩
 ·rintro ⟨r, ⟨x, h1, rfl⟩, h2⟩; exact ⟨x, h1, h2⟩
theorem codes_ok {I : zk} (hI : I.Ok) {more : List zb} (hm : ∀ p ∈ more, yO p) {rs : List xc} (h : yz I more (some rs)) {r : xc} (hr : r ∈ rs) {p : zb} (hp : p ∈ r.code) : okI I p ∧ yO p := by
 have h1 := h.2.2.1 r hr
 have he : yO r.entry := Ent.plOk hI hm ((h.2.2.2 r.entry).1 (List.mem_map.2 ⟨r, hr, rfl⟩))
 by_cases ht : yS I r.entry
 ·rw [(h1.thk ht).2.1, List.mem_singleton] at hp
  rw [hp]
  exact ⟨ht.1, he⟩
 ·have h2 := (h1.mc ht p).1 hp
  exact ⟨h2.2, h2.1.plOk he⟩
theorem sort_exists : ∀ l : List zb, l.Nodup → ∃ m : List zb, m.Perm l ∧ m.Pairwise zP
 | [], _ => ⟨[], List.Perm.refl _, .nil⟩
 | p :: l, h => by
  rw [List.nodup_cons] at h
  obtain ⟨m, hm, hs⟩ := sort_exists l h.2
  have hnp : p ∉ m := fun e => h.1 (hm.mem_iff.1 e)
  refine ⟨m.filter (fun x => decide (zP x p)) ++ p :: m.filter (fun x => !decide (zP x p)), ?_, ?_⟩
  ·refine (List.perm_middle).trans (List.Perm.cons _ ?_)
   exact (List.filter_append_perm _ m).trans hm
  ·rw [List.pairwise_append]
   refine ⟨hs.sublist List.filter_sublist, ?_, fun a ha b hb => ?_⟩
   ·rw [List.pairwise_cons]
    refine ⟨fun b hb => ?_, hs.sublist List.filter_sublist⟩
    have h1 := List.mem_filter.1 hb
    have h2 : ¬ zP b p := by simpa using h1.2
    rcases zP.tri p b with h3 | h3 | h3
    ·exact h3
    ·exact absurd (h3 ▸ h1.1) hnp
    ·exact absurd h3 h2
   ·have h1 : zP a p := by simpa using (List.mem_filter.1 ha).2
    rcases List.mem_cons.1 hb with rfl | hb
    ·exact h1
    ·have h2 := List.mem_filter.1 hb
     have h3 : ¬ zP b p := by simpa using h2.2
     rcases zP.tri p b with h4 | h4 | h4
     ·exact zP.tr _ _ _ h1 h4
     ·exact absurd (h4 ▸ h2.1) hnp
     ·exact absurd h4 h3
theorem many_lst {I : zk} {more : List zb} {rs : List xc} {its0 : List zb} (h : yz I more (some rs)) (hnd : its0.Nodup) (hme : ∀ p, p ∈ its0 ↔ ∃ r ∈ rs, p ∈ r.code) (hl : 20000 < its0.length) : IsLst I more (manyL I) := by
 obtain ⟨its, hp, hs⟩ := sort_exists its0 hnd
 exact .inr ⟨rs, its, h, ⟨hs, fun p => by rw [hp.mem_iff]; exact hme p⟩, .inl ⟨by rw [hp.length_eq]; exact hl, rfl⟩⟩
theorem own_blkS {w : World} {B g : Nat} {T : TypeId} {cs : Array Value} (hB : B ≤ g) (hg : w.heap[g]? = some (.cells cs T (0, 0))) : w.ownsRow B T cs.size (.slice (some ⟨g, 0, none⟩) 1 1) 1 cs.toList :=
 ⟨by simp, .inr ⟨g, 1, cs, rfl, hB, hg, zn _, by decide, by simp, by rw [Nat.one_mul]; exact List.take_of_length_le (by simp)⟩⟩
def ScP (I : zk) (more : List zb) (w : World) (e : Ending) (w' : World) : Prop := ∃ L vc vr vi, e = .returned (.agg #[vc, vr, vi]) ∧ IsLst I more L ∧ LstV I w.heap.size L vc vr vi w' ∧ Below w.heap.size w w'
set_option maxRecDepth 100000 in
set_option maxHeartbeats 4000000 in
theorem scan_any (I : zk) (hI : I.Ok) (ba : Option Addr) (bc : Nat) (da : Option Addr) (dc : Nat) (ra : Option Addr) (rn rc : Nat) (more : List zb) (hm : ∀ p ∈ more, yO p) (hml : more.length ≤ 1000000) (ma : Option Addr) (mc : Nat) (w : World) (hV : yG w I ba bc da dc) (hmo : RdS w 2 ma more.length mc (zp more)) (hmb : ∀ g off, ma = some ⟨g, off, none⟩ → g < w.heap.size) :
  Calls Tryz.prog 17 #[.agg #[.slice ba I.banks.length bc, .int .u16 I.entry, .int .u16 I.vector, .slice da I.data.length dc, .slice ra rn rc], .slice ma more.length mc] w (ScP I more w) := by
 have HI := zh hI
 have HV := zh hV
 have HMO := zh hmo
 have HMB := zh hmb
 have HMP := zh hm
 have hmm := @run_makeMap Tryz.prog
 have hbx := Bx.two w (z6 I ba bc da dc ra rn rc) (.cells #[.slice none 0 0, .slice none 0 0, .slice none 0 0] 38)
 have HB := zh hbx
 clear hI hV hmo hmb hm hbx
 go_enter Tryz.func17, Tryz.ntmps17
 go_upto_region 2 with (first
  | (refine ldT 31 (HB.out.b0) ?_))
 have hB4 := Bx.four w (z6 I ba bc da dc ra rn rc) (.cells #[.slice none 0 0, .slice none 0 0, .slice none 0 0] 38) (.map #[] 0) (.cells #[.slice ba I.banks.length bc, .int .u16 I.entry, .int .u16 I.vector, .slice da I.data.length dc, .slice ra rn rc, .map (some (w.heap.size + 1 + 1))] 96)
 obtain ⟨w4, hw4⟩ : ∃ w4, (((w.alloc (z6 I ba bc da dc ra rn rc)).alloc (.cells #[.slice none 0 0, .slice none 0 0, .slice none 0 0] 38)).alloc (.map #[] 0)).alloc (.cells #[.slice ba I.banks.length bc, .int .u16 I.entry, .int .u16 I.vector, .slice da I.data.length dc, .slice ra rn rc, .map (some (w.heap.size + 1 + 1))] 96) = w4 := ⟨_, rfl⟩
 rw [hw4] at hB4 ⊢
 have HB4 := zh hB4
 have HSC := zh (show ScnW I ba bc da dc ra rn rc (w.heap.size + 1 + 1 + 1) (w.heap.size + 1 + 1) w4 from ⟨hB4.b3, ⟨[], hB4.b2, ⟨List.nodup_nil, fun p v h => by simp [yT] at h⟩⟩, HV.out.below hB4.bb⟩)
 have HCA := zh (classes_any I HI.out ba bc da dc ra rn rc w4 (HV.out.below hB4.bb))
 clear hw4 hB4 HB
 go_upto_region 3 with (first
  | (refine ldT 31 (HB4.out.b0) ?_)
  | (refine stN ?_)
  | (go_at_call 40; (with_reducible refine HCA.out.mono ?_); rintro e5 w5 ⟨gs, v5, rfl, hgl5, hc5, hb5⟩
     obtain ⟨A5, c5, rfl, -⟩ := zt hc5.own
     have HGL := zh hgl5
     have HC5 := zh hc5
     have HB5 := zh hb5
     clear hgl5 hc5 hb5))
 have hb6 : Below w5.heap.size w5 (w5.alloc (.cells #[.slice A5 gs.length c5, .slice none 0 0, .slice none 0 0] 38)) := (Below.refl _ _).alloc (zn _) _
 have hl6 := heap_alloc_new w5 (.cells #[.slice A5 gs.length c5, .slice none 0 0, .slice none 0 0] 38)
 have hc6 := HC5.out.below hb6
 have hb46 : Below w4.heap.size w4 (w5.alloc (.cells #[.slice A5 gs.length c5, .slice none 0 0, .slice none 0 0] 38)) := HB5.out.trans (hb6.mono HB5.out.size)
 obtain ⟨w6, hw6⟩ : ∃ w6, w5.alloc (.cells #[.slice A5 gs.length c5, .slice none 0 0, .slice none 0 0] 38) = w6 := ⟨_, rfl⟩
 rw [hw6] at hb6 hl6 hc6 hb46 ⊢
 have HL6 := zh hl6
 have HC6 := zh hc6
 have HB6 := zh (HB4.out.stay hb46)
 have HZ4 := zh (show w.heap.size + 4 ≤ w4.heap.size from HB4.out.z)
 have HZ5 := zh (show w.heap.size + 4 ≤ w5.heap.size from Nat.le_trans HB4.out.z HB5.out.size)
 have HZ6 := zh (show w5.heap.size < w6.heap.size from (Array.getElem?_eq_some_iff.1 hl6).1)
 have hbw6 : Below w.heap.size w w6 := HB6.out.bb
 have HRA := zh (routines_any I HI.out ba bc da dc ra rn rc (w.heap.size + 1 + 1 + 1) (w.heap.size + 1 + 1) more HMP.out hml ma mc w6 (HSC.out.below hb46) (by have := HB6.out.z; simp at this; omega) (HMO.out.below hbw6) (fun g off e => Nat.lt_of_lt_of_le (HMB.out g off e) hbw6.size))
 clear hw6 hb6 hl6 hc6 hb46 hbw6 HB4 HSC HCA HC5 HB5
 go_upto_region 5 with (go_at_call 41; (with_reducible refine HRA.out.mono ?_); rintro e7 w7 ⟨R, v7, ok, rfl, hrv, hkn, htr, hrt, hrts⟩; have HRV := zh hrv; have HTR := zh htr; have HRT := zh hrt; have HRS := zh hrts; clear hrv hkn htr hrt hrts)
 obtain ⟨A7, c7, hv7, -⟩ := zt HRV.out.own
 subst hv7
 have hk6 : w6.heap[w.heap.size + 1 + 1]? = some (.map #[] 0) := HB6.out.b2
 have hcn : ∀ k cs T fr, w6.heap[k]? = some (.cells cs T fr) → ¬ k = w.heap.size + 1 + 1 := fun k cs T fr hk e => by rw [e, hk6] at hk; cases hk
 have hb8 : Below w7.heap.size w7 (w7.alloc (.map #[] 0)) := (Below.refl _ _).alloc (zn _) _
 have HIM := zh (za hb8 (HTR.out.heap HB6.out.b0 (hcn _ _ _ _ HB6.out.b0)))
 have HRES := zh (za hb8 (HTR.out.heap HB6.out.b1 (hcn _ _ _ _ HB6.out.b1)))
 have HL8 := zh (za hb8 (HTR.out.heap HL6.out (hcn _ _ _ _ HL6.out)))
 have HC8 := zh ((HC6.out.turn HTR.out (fun k cs T fr hk _ => hcn k cs T fr hk)).below hb8)
 have HR8 := zh (HRV.out.below hb8)
 have HW8 := zh (show Below w.heap.size w (w7.alloc (.map #[] 0)) from (HB6.out.bb.trans (HTR.out.toBelow HB6.out.bb.size (fun k e => by omega))).trans (hb8.mono (Nat.le_trans HB6.out.bb.size HTR.out.size)))
 have HG8 := zh (heap_alloc_new w7 (.map #[] 0))
 have HZ7 := zh HTR.out.size
 obtain ⟨w8, hw8⟩ : ∃ w8, w7.alloc (.map #[] 0) = w8 := ⟨_, rfl⟩
 rw [hw8] at HIM HRES HL8 HC8 HR8 HW8 HG8 ⊢
 have hrl : R.length ≤ 9223372036854775807 := own_max HR8.out.own
 have HRL := zh hrl
 have hle7 : R.length ≤ c7 := (yd HR8.out.own).le
 clear hw8 hb8 hk6 hcn HL6 HC6 HB6 HRA HRV hmm
 go_wp2_with fail
 go_loopw [30] (fun i wr => ∃ m : Nat, m ≤ R.length ∧ i = .int .i64 m ∧ Hid (zg (fun k => k = w7.heap.size) w8 wr) ∧ Hid (wr.heap[w7.heap.size]? = some (yc yL (insL I (xU [] (yN (R.take m))))))) (fun i _ => R.length - (intOf i).toNat)
 case atStart => exact ⟨0, Nat.zero_le _, rfl, zh (zg.refl _ _), HG8⟩
 case round =>
  obtain ⟨m, hm, rfl, HT, HM⟩ := hrel
  by_cases hlt : m < R.length
  ·obtain ⟨x, hx⟩ : ∃ x, R[m]? = some x := ⟨_, List.getElem?_eq_getElem hlt⟩
   have hgn : ∀ k cs T fr, w8.heap[k]? = some (.cells cs T fr) → ¬ k = w7.heap.size := fun k cs T fr hk e => by rw [e, HG8.out] at hk; cases hk
   have hrr := HR8.out.turn HT.out (fun k cs T fr hk _ _ => hgn k cs T fr hk)
   have hxv := HR8.out.rv x (List.mem_of_getElem? hx)
   have HCO := zh (codes_snoc hx)
   have hrow := (yd hrr.own).row hlt
   rw [xT x6 8 (fun _ => rfl) R m x hx] at hrow
   obtain ⟨r, vcx, vlx, vsx⟩ := x
   dsimp only at hxv
   obtain ⟨A1, c1, rfl, -⟩ := zt hxv.oc
   obtain ⟨A2, c2, rfl, -⟩ := zt hxv.ol
   obtain ⟨A3, c3, rfl, -⟩ := zt hxv.oi
   obtain ⟨g, off, cur, T, fr, hAe, hg, hex, -, -⟩ := hrow
   subst hAe
   have HG := zh hg
   have HEX := zh hex
   have HXV := zh hxv
   have HLT := zh hlt
   clear hrr hxv hx hg hex
   have hk1 := hlt
   have hk2 := HRL.out
   go_upto_region 8 with (first
    | (refine lmT 50 ([.int .i64 r.entry.bank, .int .u16 r.entry.addr, .bool r.thunk, .int .i64 r.dest.bank, .int .u16 r.dest.addr, .slice A1 r.code.length c1, .slice A2 r.calls.length c2, .slice A3 r.iss.length c3]) (HG.out) (HEX.out) ?_)
    | (refine stN ?_))
   have hx9 := heap_alloc_new wr (xu r.entry r.thunk r.dest (.slice A1 r.code.length c1) (.slice A2 r.calls.length c2) (.slice A3 r.iss.length c3))
   have hb9 : Below wr.heap.size wr (wr.alloc (xu r.entry r.thunk r.dest (.slice A1 r.code.length c1) (.slice A2 r.calls.length c2) (.slice A3 r.iss.length c3))) := (Below.refl _ _).alloc (zn _) _
   have HT9 := zh (HT.out.alloc (xu r.entry r.thunk r.dest (.slice A1 r.code.length c1) (.slice A2 r.calls.length c2) (.slice A3 r.iss.length c3)))
   have HM9 := zh (za hb9 HM.out)
   obtain ⟨w9, hw9⟩ : ∃ w9, wr.alloc (xu r.entry r.thunk r.dest (.slice A1 r.code.length c1) (.slice A2 r.calls.length c2) (.slice A3 r.iss.length c3)) = w9 := ⟨_, rfl⟩
   rw [hw9] at hx9 HT9 HM9 ⊢
   have hcx := fun j => cell_of_row w9 wr.heap.size j _ _ _ hx9
   have hcl := own_max HXV.out.oc
   have hlc1 : r.code.length ≤ c1 := (yd HXV.out.oc).le
   have HCLN := zh hcl
   clear hw9 hb9 hx9 HT HM
   go_wp2_with fail
   clear hcx
   obtain ⟨wo, rfl⟩ : ∃ wo : World, wo = wr := ⟨_, rfl⟩
   go_loopw [37] (fun i wr => ∃ n : Nat, n ≤ r.code.length ∧ i = .int .i64 n ∧ Hid (zg (fun k => k = w7.heap.size) w8 wr) ∧ Hid (wr.heap[w7.heap.size]? = some (yc yL (insL I (xU [] (yN (R.take m) ++ r.code.take n)))))) (fun i _ => r.code.length - (intOf i).toNat)
   case atStart => exact ⟨0, Nat.zero_le _, rfl, HT9, by rw [List.take_zero, List.append_nil]; exact HM9⟩
   case round =>
    clear HT9 HM9
    obtain ⟨n, hn, rfl, HT, HM⟩ := hrel
    by_cases hltn : n < r.code.length
    ·obtain ⟨p, hp⟩ : ∃ p, r.code[n]? = some p := ⟨_, List.getElem?_eq_getElem hltn⟩
     have hgn : ∀ k cs T fr, w8.heap[k]? = some (.cells cs T fr) → ¬ k = w7.heap.size := fun k cs T fr hk e => by rw [e, HG8.out] at hk; cases hk
     have hoc := zi HXV.out.oc HT.out (fun k hk => by obtain ⟨-, cs, hc⟩ := zz HXV.out.oc k hk; exact hgn _ _ _ _ hc)
     have hrow := (yd hoc).row hltn
     rw [show x9 I r.code = r.code.flatMap (itmL I) from rfl, xT (itmL I) 9 (fun _ => rfl) r.code n p hp] at hrow
     obtain ⟨g2, off2, cur2, T2, fr2, hA1, hg2, hex2, -, -⟩ := hrow
     subst hA1
     have HG2 := zh hg2
     have HEX2 := zh (show (cur2.extract (off2 + n * 9) (off2 + n * 9 + 9)).toList = [.int .i64 p.bank, .int .u16 p.addr, .int .i64 (atI I p).1.op, .int .i64 (atI I p).1.d, .int .i64 (atI I p).1.s, .int .u16 (atI I p).1.imm, .int .u16 (atI I p).1.aux, .int .i64 (atI I p).1.bank, .int .i64 (atI I p).1.size] from hex2)
     have HP := zh hp
     have HLTN := zh hltn
     have hb1 : Below wr.heap.size wr (wr.alloc (itmB p (atI I p).1)) := (Below.refl _ _).alloc (zn _) _
     have HT1 := zh (HT.out.alloc (itmB p (atI I p).1))
     have HI1 := zh (heap_alloc_new wr (itmB p (atI I p).1))
     have HM1 := zh (za hb1 HM.out)
     have hk1 := hltn
     have hk2 := HCLN.out
     clear hgn hoc hp hg2 hex2 hb1 HT HM
     go_upto_region 11 with (first
      | (refine lmT 55 ([.int .i64 p.bank, .int .u16 p.addr, .int .i64 (atI I p).1.op, .int .i64 (atI I p).1.d, .int .i64 (atI I p).1.s, .int .u16 (atI I p).1.imm, .int .u16 (atI I p).1.aux, .int .i64 (atI I p).1.bank, .int .i64 (atI I p).1.size]) (HG2.out) (HEX2.out) ?_)
      | (refine stN ?_))
     obtain ⟨w10, hw10⟩ : ∃ w10, wr.alloc (itmB p (atI I p).1) = w10 := ⟨_, rfl⟩
     rw [hw10] at HT1 HI1 HM1 ⊢
     clear hw10
     go_wp2_with (first
      | (refine jc 47 _ rfl _ _ rfl _ _ _ (HI1.out) ([.int .i64 p.bank, .int .u16 p.addr]) ((by kernel_rfl)) ?_ ?_ ?_; kernel_rfl; kernel_rfl)
      | (refine jc 53 _ rfl _ _ rfl _ _ _ (HI1.out) ([.int .i64 (atI I p).1.op, .int .i64 (atI I p).1.d, .int .i64 (atI I p).1.s, .int .u16 (atI I p).1.imm, .int .u16 (atI I p).1.aux, .int .i64 (atI I p).1.bank, .int .i64 (atI I p).1.size]) ((by kernel_rfl)) ?_ ?_ ?_; kernel_rfl; kernel_rfl)
      | (refine zZ xj Tryz.underlying100 HM1.out rfl _ _ _ rfl rfl p rfl (insV (atI I p).1) rfl ?_; intro w12 hm12 hg12 hz12
         have ht12 := HT1.out.trans ((zg.refl (fun k => k = w7.heap.size) w10).grown hg12 (fun k e _ => by injection e with e; exact e.symm)) (fun _ _ e => e)
         rw [insL_put] at hm12
         have HT12 := zh ht12
         have HM12 := zh hm12
         clear ht12 hm12 hg12 hz12))
     have htk : r.code.take (n + 1) = r.code.take n ++ [p] := by rw [List.take_succ, HP.out]; rfl
     go_roundw
     case rel => exact ⟨n + 1, HLTN.out, by go_num, HT12, by rw [htk, ← List.append_assoc, addL_snoc]; exact HM12⟩
     case measure => have h1 := HLTN.out; simp [intOf]; omega
    ·obtain rfl : n = r.code.length := by omega
     have hm0 := HM.out
     rw [List.take_of_length_le (zn _), ← HCO.out] at hm0
     have HM0 := zh hm0
     clear hm0 HM
     have hk1 := HLT.out
     have hk2 := HRL.out
     go_wp2_with fail
     go_roundw
     case rel => exact ⟨m + 1, HLT.out, by go_num, HT, HM0⟩
     case measure => have h1 := HLT.out; simp [intOf]; omega
  ·obtain rfl : m = R.length := by omega
   have hm0 := HM.out
   rw [List.take_of_length_le (zn _)] at hm0
   obtain ⟨its0, hit⟩ : ∃ l, xU [] (yN R) = l := ⟨_, rfl⟩
   rw [hit] at hm0
   have HND := zh (show its0.Nodup by rw [← hit]; exact addL_nodup List.nodup_nil _)
   have HME := zh (show ∀ p, p ∈ its0 ↔ ∃ r ∈ R.map (·.1), p ∈ r.code from fun p => by rw [← hit]; exact mem_codes)
   have HM0 := zh hm0
   have hgn : ∀ k cs T fr, w8.heap[k]? = some (.cells cs T fr) → ¬ k = w7.heap.size := fun k cs T fr hk e => by rw [e, HG8.out] at hk; cases hk
   have HIM9 := zh (HT.out.heap HIM.out (hgn _ _ _ _ HIM.out))
   have HRES9 := zh (HT.out.heap HRES.out (hgn _ _ _ _ HRES.out))
   have HL9 := zh (HT.out.heap HL8.out (hgn _ _ _ _ HL8.out))
   have HC9 := zh (HC8.out.turn HT.out (fun k cs T fr hk _ => hgn k cs T fr hk))
   have HR9 := zh (HR8.out.turn HT.out (fun k cs T fr hk _ _ => hgn k cs T fr hk))
   have HW9 := zh (show Below w.heap.size w wr from HW8.out.trans (HT.out.toBelow HW8.out.size (fun k e => by have := HZ7.out; have := HZ6.out; have := HZ5.out; omega)))
   have hlen := run_lenL (P := Tryz.prog) Tryz.underlying100 hm0
   rw [insL_len] at hlen
   clear hit hm0 hgn HM HIM HRES HL8 HC8 HR8 HW8 HT
   obtain ⟨wo, rfl⟩ : ∃ wo : World, wo = wr := ⟨_, rfl⟩
   go_upto_region 14 with fail
   cases ok with
   | false =>
    go_upto_if 54 with fail
    have hci := fun j => cell_of_row wo w.heap.size j _ _ _ HIM9.out
    have hba : Below wo.heap.size wo (wo.alloc (y8 ⟨2, ⟨0, I.entry⟩⟩)) := (Below.refl _ _).alloc (zn _) _
    have hla := za hba HL9.out
    have hcl := fun j => cell_of_row _ w5.heap.size j _ _ _ hla
    have hfl := fun j => frozen_of_row _ w5.heap.size j _ _ hla
    clear hba hla
    go_upto_region 16 with fail
    clear hci hcl hfl
    have hz9 := HW9.out.size
    have hz4 := HZ4.out
    have hz5 := HZ5.out
    have hz10 := (Array.getElem?_eq_some_iff.1 HL9.out).1
    have hba : Below wo.heap.size wo (wo.alloc (y8 ⟨2, ⟨0, I.entry⟩⟩)) := (Below.refl _ _).alloc (zn _) _
    have hia := heap_alloc_new wo (y8 ⟨2, ⟨0, I.entry⟩⟩)
    have hla := za hba HL9.out
    have hra := za hba HRES9.out
    have hca := HC9.out.below hba
    have hwa := HW9.out.trans (hba.mono hz9)
    obtain ⟨wa, hwa2⟩ : ∃ wa, wo.alloc (y8 ⟨2, ⟨0, I.entry⟩⟩) = wa := ⟨_, rfl⟩
    rw [hwa2] at hba hia hla hra hca hwa ⊢
    clear hwa2
    have hwb : zg (fun k => k = w5.heap.size) wa (wa.setCell ⟨w5.heap.size, 2, none⟩ (.slice (some ⟨wo.heap.size, 0, none⟩) 1 1)) := (zg.refl _ wa).setCell _ (fun _ => rfl)
    have HLz := zh (heap_setCell_same hla (i := 2) (.slice (some ⟨wo.heap.size, 0, none⟩) 1 1))
    have HRz := zh (hwb.heap hra (fun e => by omega))
    have HIz := zh (hwb.heap hia (fun e => by rw [e] at hz9 hia; rw [hla] at hia; injection hia with hia; injection hia with _ hia; exact absurd hia (by decide)))
    have HCz := zh (hca.turn hwb (fun k cs T fr hk hT e => by
     rw [e, hla] at hk
     injection hk with hk
     injection hk with _ hk
     rcases hT with hT | hT <;> rw [← hk] at hT <;> exact absurd hT (by decide)))
    have HWz := zh (hwa.trans (hwb.toBelow hwa.size (fun k e => by have e2 : k = w5.heap.size := e; omega)))
    obtain ⟨wz, hwz⟩ : ∃ wz, wa.setCell ⟨w5.heap.size, 2, none⟩ (.slice (some ⟨wo.heap.size, 0, none⟩) 1 1) = wz := ⟨_, rfl⟩
    rw [hwz] at HLz HRz HCz HIz HWz ⊢
    clear hwz hwb hba hia hla hra hca hwa
    go_wp2_with (first
     | (refine ldT 38 (HLz.out) ?_)
     | (refine stR (HRz.out) ?_))
    refine bodyPost_ret (results_cell_row (cs := #[.slice A5 gs.length c5, .slice none 0 0, .slice (some ⟨wo.heap.size, 0, none⟩) 1 1]) (fr := (0, 0)) Tryz.results17 _ _ (w.heap.size + 1) 38 _ ?_ (setRow_heap _ _ _ _ _ _ HRz.out) Tryz.underlying38 rfl (by kernel_rfl)) rfl ?_
    ·rfl
    ·have htw : zg (fun k => k = w.heap.size + 1) wz (wz.setRow (w.heap.size + 1) #[.slice A5 gs.length c5, .slice none 0 0, .slice (some ⟨wo.heap.size, 0, none⟩) 1 1]) := (zg.refl _ wz).setRow _ (fun _ => rfl)
     refine ⟨manyL I, _, _, _, rfl, .inl ⟨HRS.out, rfl⟩, ⟨⟨gs, yj I, HGL.out, (HCz.out.turn htw (fun k cs T fr hk hT e => ?_)).mono (by omega), rfl⟩, ⟨[], ⟨World.ownsRow_nil _ _ _ _, by simp⟩, rfl⟩, ?_⟩, HWz.out.trans (htw.toBelow HWz.out.size (fun k e => by have e2 : k = w.heap.size + 1 := e; omega))⟩
     ·rw [e, HRz.out] at hk
      injection hk with hk
      injection hk with _ hk
      rcases hT with hT | hT <;> rw [← hk] at hT <;> exact absurd hT (by decide)
     ·exact own_blkS hz9 (htw.heap HIz.out (fun e => by omega))
   | true =>
    by_cases hmany : (20000 : Int) < (its0.length : Int)
    ·go_upto_if 54 with fail
     have hci := fun j => cell_of_row wo w.heap.size j _ _ _ HIM9.out
     have hba : Below wo.heap.size wo (wo.alloc (y8 ⟨2, ⟨0, I.entry⟩⟩)) := (Below.refl _ _).alloc (zn _) _
     have hla := za hba HL9.out
     have hcl := fun j => cell_of_row _ w5.heap.size j _ _ _ hla
     have hfl := fun j => frozen_of_row _ w5.heap.size j _ _ hla
     clear hba hla
     go_upto_region 16 with fail
     clear hci hcl hfl
     have hz9 := HW9.out.size
     have hz4 := HZ4.out
     have hz5 := HZ5.out
     have hz10 := (Array.getElem?_eq_some_iff.1 HL9.out).1
     have hba : Below wo.heap.size wo (wo.alloc (y8 ⟨2, ⟨0, I.entry⟩⟩)) := (Below.refl _ _).alloc (zn _) _
     have hia := heap_alloc_new wo (y8 ⟨2, ⟨0, I.entry⟩⟩)
     have hla := za hba HL9.out
     have hra := za hba HRES9.out
     have hca := HC9.out.below hba
     have hwa := HW9.out.trans (hba.mono hz9)
     obtain ⟨wa, hwa2⟩ : ∃ wa, wo.alloc (y8 ⟨2, ⟨0, I.entry⟩⟩) = wa := ⟨_, rfl⟩
     rw [hwa2] at hba hia hla hra hca hwa ⊢
     clear hwa2
     have hwb : zg (fun k => k = w5.heap.size) wa (wa.setCell ⟨w5.heap.size, 2, none⟩ (.slice (some ⟨wo.heap.size, 0, none⟩) 1 1)) := (zg.refl _ wa).setCell _ (fun _ => rfl)
     have HLz := zh (heap_setCell_same hla (i := 2) (.slice (some ⟨wo.heap.size, 0, none⟩) 1 1))
     have HRz := zh (hwb.heap hra (fun e => by omega))
     have HIz := zh (hwb.heap hia (fun e => by rw [e] at hz9 hia; rw [hla] at hia; injection hia with hia; injection hia with _ hia; exact absurd hia (by decide)))
     have HCz := zh (hca.turn hwb (fun k cs T fr hk hT e => by
      rw [e, hla] at hk
      injection hk with hk
      injection hk with _ hk
      rcases hT with hT | hT <;> rw [← hk] at hT <;> exact absurd hT (by decide)))
     have HWz := zh (hwa.trans (hwb.toBelow hwa.size (fun k e => by have e2 : k = w5.heap.size := e; omega)))
     obtain ⟨wz, hwz⟩ : ∃ wz, wa.setCell ⟨w5.heap.size, 2, none⟩ (.slice (some ⟨wo.heap.size, 0, none⟩) 1 1) = wz := ⟨_, rfl⟩
     rw [hwz] at HLz HRz HCz HIz HWz ⊢
     clear hwz hwb hba hia hla hra hca hwa
     go_wp2_with (first
      | (refine ldT 38 (HLz.out) ?_)
      | (refine stR (HRz.out) ?_))
     refine bodyPost_ret (results_cell_row (cs := #[.slice A5 gs.length c5, .slice none 0 0, .slice (some ⟨wo.heap.size, 0, none⟩) 1 1]) (fr := (0, 0)) Tryz.results17 _ _ (w.heap.size + 1) 38 _ ?_ (setRow_heap _ _ _ _ _ _ HRz.out) Tryz.underlying38 rfl (by kernel_rfl)) rfl ?_
     ·rfl
     ·have htw : zg (fun k => k = w.heap.size + 1) wz (wz.setRow (w.heap.size + 1) #[.slice A5 gs.length c5, .slice none 0 0, .slice (some ⟨wo.heap.size, 0, none⟩) 1 1]) := (zg.refl _ wz).setRow _ (fun _ => rfl)
      refine ⟨manyL I, _, _, _, rfl, many_lst HRS.out HND.out HME.out (by omega), ⟨⟨gs, yj I, HGL.out, (HCz.out.turn htw (fun k cs T fr hk hT e => ?_)).mono (by omega), rfl⟩, ⟨[], ⟨World.ownsRow_nil _ _ _ _, by simp⟩, rfl⟩, ?_⟩, HWz.out.trans (htw.toBelow HWz.out.size (fun k e => by have e2 : k = w.heap.size + 1 := e; omega))⟩
      ·rw [e, HRz.out] at hk
       injection hk with hk
       injection hk with _ hk
       rcases hT with hT | hT <;> rw [← hk] at hT <;> exact absurd hT (by decide)
      ·exact own_blkS hz9 (htw.heap HIz.out (fun e => by omega))
    ·go_upto_if 54 with fail
     have hcl := fun j => cell_of_row _ w5.heap.size j _ _ _ HL9.out
     have hfl := fun j => frozen_of_row _ w5.heap.size j _ _ HL9.out
     go_upto_region 18 with fail
     clear hcl hfl
     have hz9 := HW9.out.size
     have hz4 := HZ4.out
     have hz5 := HZ5.out
     have hz6 := HZ6.out
     have hz7 := HZ7.out
     have hz10 := (Array.getElem?_eq_some_iff.1 HL9.out).1
     have hwb : zg (fun k => k = w5.heap.size) wo (wo.setCell ⟨w5.heap.size, 1, none⟩ (.slice A7 R.length c7)) := (zg.refl _ wo).setCell _ (fun _ => rfl)
     have HLb := zh (heap_setCell_same HL9.out (i := 1) (.slice A7 R.length c7))
     have hwk : Below w.heap.size wo (wo.setCell ⟨w5.heap.size, 1, none⟩ (.slice A7 R.length c7)) := hwb.toBelow hz9 (fun k e => by have e2 : k = w5.heap.size := e; omega)
     have hwt : Below w.heap.size w (wo.setCell ⟨w5.heap.size, 1, none⟩ (.slice A7 R.length c7)) := HW9.out.trans hwk
     have HRb := zh (hwb.heap HRES9.out (fun e => by have e2 : w.heap.size + 1 = w5.heap.size := e; omega))
     have HIb := zh (hwb.heap HIM9.out (fun e => by have e2 : w.heap.size = w5.heap.size := e; omega))
     have HMb := zh (hwb.heap HM0.out (fun e => by have e2 : w7.heap.size = w5.heap.size := e; omega))
     have HCb := zh ((HC9.out.turn hwb (fun k cs T fr hk hT e => by
      rw [e, HL9.out] at hk
      injection hk with hk
      injection hk with _ hk
      rcases hT with hT | hT <;> rw [← hk] at hT <;> exact absurd hT (by decide))).mono (show w.heap.size ≤ _ by omega))
     have HNb := zh ((HR9.out.turn hwb (fun k cs T fr hk h1 h2 e => by
      rw [e, HL9.out] at hk
      injection hk with hk
      injection hk with _ hk
      exact h2 hk.symm)).mono (show w.heap.size ≤ _ by omega))
     have HWb := zh hwt
     have hcd : ∀ p ∈ its0, okI I p ∧ yO p := fun p hp => by
      obtain ⟨r, hr, hc⟩ := (HME.out p).1 hp
      exact codes_ok HI.out HMP.out HRS.out hr hc
     have HMK := zh (mark_any I HI.out ba bc da dc ra rn rc w HV.out its0 HND.out hcd (by omega) w7.heap.size w5.heap.size gs HGL.out (.slice A5 gs.length c5) (.slice A7 R.length c7) _ hwt (by omega) HMb.out HLb.out HCb.out)
     obtain ⟨wb, hwb2⟩ : ∃ wb, wo.setCell ⟨w5.heap.size, 1, none⟩ (.slice A7 R.length c7) = wb := ⟨_, rfl⟩
     rw [hwb2] at HLb HRb HIb HMb HCb HNb HWb HMK ⊢
     clear hwb2 hwb hwk hwt hcd hlen HL9 HRES9 HIM9 HM0 HC9 HR9
     go_wp2_with (first
      | (refine ldT 31 (HIb.out) ?_)
      | (refine ldT 38 (HLc.out) ?_)
      | (refine stR (HRc.out) ?_)
      | (go_at_call 42; (with_reducible refine HMK.out.mono ?_); rintro e8 w8c ⟨rfl, its, vi, hpi, hsi, hli, hci, hoi, hti⟩
         have hnn : ∀ k cs T fr, wb.heap[k]? = some (.cells cs T fr) → T ≠ 5 → T ≠ 38 → ¬ (k = w5.heap.size ∨ k ∈ gs) := fun k cs T fr hk h1 h2 e => by
          rcases e with e | e
          ·rw [e, HLb.out] at hk
           injection hk with hk
           injection hk with _ hk
           exact h2 hk.symm
          ·obtain ⟨b, hb⟩ := List.getElem?_of_mem e
           rw [HCb.out.row b k hb] at hk
           injection hk with hk
           injection hk with _ hk
           exact h1 hk.symm
         have hn1 : ¬ (w.heap.size + 1 = w5.heap.size ∨ w.heap.size + 1 ∈ gs) := fun e => by
          rcases e with e | e
          ·omega
          ·obtain ⟨b, hb⟩ := List.getElem?_of_mem e
           have h3 := HCb.out.row b _ hb
           rw [HRb.out] at h3
           injection h3 with h3
           injection h3 with _ h3
           exact absurd h3 (by decide)
         have HRc := zh (hti.heap HRb.out hn1)
         have HNc := zh (HNb.out.turn hti hnn)
         have hn2 : ∀ k, (k = w5.heap.size ∨ k ∈ gs) → w.heap.size ≤ k := fun k e => by
          rcases e with e | e
          ·omega
          ·exact HCb.out.lb k e
         have HWc := zh (HWb.out.trans (hti.toBelow HWb.out.size hn2))
         have HLc := zh hli
         have HCc := zh hci
         have HOc := zh (hoi.mono HWb.out.size)
         have HPI := zh hpi
         have HSI := zh hsi
         obtain ⟨A8, c8, hvi, -⟩ := zt hoi
         subst hvi
         clear hli hci hoi hti hpi hsi hnn hn1 hn2 HLb HRb HIb HMb HCb HNb HWb))
     refine bodyPost_ret (results_cell_row (cs := #[.slice A5 gs.length c5, .slice A7 R.length c7, .slice A8 ((its.filter (yb I its)).map fun p => (⟨40, p⟩ : zM)).length c8]) (fr := (0, 0)) Tryz.results17 _ _ (w.heap.size + 1) 38 _ ?_ (setRow_heap _ _ _ _ _ _ HRc.out) Tryz.underlying38 rfl (by kernel_rfl)) rfl ?_
     ·rfl
     ·have htw : zg (fun k => k = w.heap.size + 1) w8c (w8c.setRow (w.heap.size + 1) #[.slice A5 gs.length c5, .slice A7 R.length c7, .slice A8 ((its.filter (yb I its)).map fun p => (⟨40, p⟩ : zM)).length c8]) := (zg.refl _ w8c).setRow _ (fun _ => rfl)
      have hne : ∀ k cs T fr, w8c.heap[k]? = some (.cells cs T fr) → T ≠ 38 → ¬ k = w.heap.size + 1 := fun k cs T fr hk h2 e => by
       rw [e, HRc.out] at hk
       injection hk with hk
       injection hk with _ hk
       exact h2 hk.symm
      have hpl := HPI.out.length_eq
      refine ⟨fullL I (R.map (·.1)) its, _, _, _, rfl, .inr ⟨_, its, HRS.out, ⟨HSI.out, fun p => by rw [HPI.out.mem_iff]; exact HME.out p⟩, .inr ⟨by omega, rfl⟩⟩, ⟨⟨gs, clOf I its, HGL.out, HCc.out.turn htw (fun k cs T fr hk hT => hne k cs T fr hk (by rcases hT with hT | hT <;> rw [hT] <;> decide)), rfl⟩, ⟨R, HNc.out.turn htw (fun k cs T fr hk _ h2 => hne k cs T fr hk h2), rfl⟩, ?_⟩, HWc.out.trans (htw.toBelow HWc.out.size (fun k e => by have e2 : k = w.heap.size + 1 := e; omega))⟩
      exact zi HOc.out htw (fun k hk => by obtain ⟨-, cs, hc⟩ := zz HOc.out k hk; exact hne k cs _ _ hc (by decide))
end Go.Proofs.YteofmaiojepdkaaGreat
