/- package scan: routine, the way of code. Condition: the image's banks have 4096 bytes; the entry is a place. -/
import Derived.Test.YteofmaiojepdkaaGreatTbSkM
import Derived.Test.YteofmaiojepdkaaGreatTbSkP
set_option linter.all false
namespace Go.Proofs.YteofmaiojepdkaaGreat
open Go Go.RowKit Go.Maps Go.Sort
theorem zero_bool (w : World) : (zeroValue 4).run Tryz.prog w = .ok (.bool false) w := by kernel_rfl
theorem trueL_get (D : List zb) (p : zb) : (yT p (xP D)).getD (.bool false) = .bool (decide (p ∈ D)) := by
 by_cases h : p ∈ D
 ·cases hg : yT p (xP D) with
  | none => exact absurd (by rw [trueL_keys]; exact h) (getL_none.1 hg)
  | some v =>
   have h1 := getL_mem hg
   unfold xP at h1
   obtain ⟨x, -, hx⟩ := List.mem_map.1 h1
   injection hx with _ hx
   rw [← hx]
   simp [h]
 ·rw [getL_none.2 (by rw [trueL_keys]; exact h)]
  simp [h]
theorem VsW.sortC {I : zk} {e : zb} {A : VsA} {w0 W W' : World} {D cd cd' Q C : List zb} {iss : List zM} {vcd vis vq : Value} (h : VsW I e A w0 D cd Q C iss vcd vis vq W) (t : zg (fun j => vcd.ownBlock = some j) W W') (ho : W'.ownsRow w0.heap.size 55 9 vcd cd'.length (x9 I cd')) : VsW I e A w0 D cd' Q C iss vcd vis vq W' := by
 have hx : ∀ {b : Nat} {o : Obj}, W.heap[b]? = some o → (∀ cs fr, o ≠ .cells cs 55 fr) → W'.heap[b]? = some o := fun hb hn => t.heap hb (xY h.oc hb hn)
 obtain ⟨L, hL, hM⟩ := h.kn
 exact ⟨⟨L, hx hL (fun _ _ => zY), hM⟩, h.tr.trans t (fun k hk e => by have := (h.oc.lt k e).1; omega), hx h.hbd (fun _ _ => zm (by decide)), hx h.hd (fun _ _ => zY), h.nd, hx h.hbs (fun _ _ => zm (by decide)), hx h.hbr (fun _ _ => zm (by decide)), hx h.hbq (fun _ _ => zm (by decide)), hx h.hbc (fun _ _ => zm (by decide)), hx h.hc (fun _ _ => zY), h.nc, ho, zi h.oi t (fun k hk e => by
   obtain ⟨-, cs, hc⟩ := zz h.oi k hk
   exact xY h.oc hc (fun _ _ => zm (by decide)) e), h.oq.turn t (fun k hk e => by
   obtain ⟨-, cs, hc⟩ := zz h.oc k e
   exact rowQ_ne h.oq hc (fun _ _ => zm (by decide)) hk), h.lbd, h.lbs, h.lbr, h.lbq, h.lbc, h.lgd, h.lgc, h.ngg, h.nbb, h.lgk⟩
theorem VsW.sortI {I : zk} {e : zb} {A : VsA} {w0 W W' : World} {D cd Q C : List zb} {iss iss' : List zM} {vcd vis vq : Value} (h : VsW I e A w0 D cd Q C iss vcd vis vq W) (t : zg (fun j => vis.ownBlock = some j) W W') (ho : W'.ownsRow w0.heap.size 58 3 vis iss'.length (yf iss')) : VsW I e A w0 D cd Q C iss' vcd vis vq W' := by
 have hx : ∀ {b : Nat} {o : Obj}, W.heap[b]? = some o → (∀ cs fr, o ≠ .cells cs 58 fr) → W'.heap[b]? = some o := fun hb hn => t.heap hb (xY h.oi hb hn)
 obtain ⟨L, hL, hM⟩ := h.kn
 exact ⟨⟨L, hx hL (fun _ _ => zY), hM⟩, h.tr.trans t (fun k hk e => by have := (h.oi.lt k e).1; omega), hx h.hbd (fun _ _ => zm (by decide)), hx h.hd (fun _ _ => zY), h.nd, hx h.hbs (fun _ _ => zm (by decide)), hx h.hbr (fun _ _ => zm (by decide)), hx h.hbq (fun _ _ => zm (by decide)), hx h.hbc (fun _ _ => zm (by decide)), hx h.hc (fun _ _ => zY), h.nc, zi h.oc t (fun k hk e => by
   obtain ⟨-, cs, hc⟩ := zz h.oc k hk
   exact xY h.oi hc (fun _ _ => zm (by decide)) e), ho, h.oq.turn t (fun k hk e => by
   obtain ⟨-, cs, hc⟩ := zz h.oi k e
   exact rowQ_ne h.oq hc (fun _ _ => zm (by decide)) hk), h.lbd, h.lbs, h.lbr, h.lbq, h.lbc, h.lgd, h.lgc, h.ngg, h.nbb, h.lgk⟩
theorem rt_end {I : zk} {e : zb} (ht : ¬ yS I e) {D cd C cd' C' : List zb} {iss iss' : List zM} (h : RtI I e D []) (k : RtC I D cd C iss) (p1 : cd'.Perm cd) (s1 : cd'.Pairwise zP) (p2 : C'.Perm C) (s2 : C'.Pairwise zP) (p3 : iss'.Perm iss) (s3 : iss'.Pairwise yR) : yu I e ⟨e, false, ⟨0, 0⟩, cd', C', iss'⟩ :=
 yu.ofDone ht h.done s1 s2 s3 (fun p => by rw [p1.mem_iff, k.cd, List.mem_filter]; simp) (fun q => by rw [p2.mem_iff]; exact k.cl q) (fun x => by rw [p3.mem_iff]; exact k.mi x)
theorem calls_len {I : zk} {e : zb} {D C : List zb} (hnd : C.Nodup) (hr : ∀ p ∈ D, yO p) (h : ∀ q, q ∈ C ↔ ∃ p, p ∈ D ∧ okI I p ∧ q ∈ (fl I p).cl) : C.length ≤ 16777217 := by
 rw [← univ_len e]
 exact yw hnd fun q hq => by
  obtain ⟨p, h1, h2, h3⟩ := (h q).1 hq
  exact mem_univ (.inr ((fl_bd (hr p h1) h2).cl q h3))
theorem mem_addL {q : zb} : ∀ {cl C : List zb}, q ∈ xU C cl ↔ q ∈ C ∨ q ∈ cl
 | [], C => by simp [xU]
 | c :: cl, C => by
  have ih := mem_addL (q := q) (cl := cl) (C := if c ∈ C then C else C ++ [c])
  show q ∈ xU (if c ∈ C then C else C ++ [c]) cl ↔ _
  rw [ih]
  by_cases h : c ∈ C
  ·rw [if_pos h, List.mem_cons]
   exact ⟨fun h1 => h1.imp id .inr, fun h1 => h1.elim .inl fun h1 => h1.elim (fun e => .inl (e ▸ h)) .inr⟩
  ·rw [if_neg h]
   simp only [List.mem_append, List.mem_cons, List.not_mem_nil, or_false, or_assoc]
theorem lack_le (e : zb) (D : List zb) : lack (univ e) D ≤ 16777217 := by
 rw [← univ_len e]
 exact List.countP_le_length
theorem iss_at_len {f : zO} {p : zb} {m : List zM} (hn : m.Nodup) (hm : ∀ x : zM, x ∈ m ↔ x.at_ = p ∧ x.kind ∈ f.iss) : m.length ≤ 3 := by
 classical
 have h1 := yw (m := f.iss.map fun k => (⟨k, p⟩ : zM)) hn (fun x hx => List.mem_map.2 ⟨x.kind, ((hm x).1 hx).2, zM.ext' rfl ((hm x).1 hx).1.symm⟩)
 rw [List.length_map] at h1
 exact Nat.le_trans h1 (iss_len3 f)
set_option maxRecDepth 100000 in
set_option maxHeartbeats 4000000 in
theorem routine_plain (I : zk) (hI : I.Ok) (ba : Option Addr) (bc : Nat) (da : Option Addr) (dc : Nat) (ra : Option Addr) (rn rc gs gn : Nat) (e : zb) (p0 : 0 ≤ e.addr) (p1 : e.addr < 65536) (hpb : ja e.bank) (ht : ¬ yS I e) (w : World) (hS : ScnW I ba bc da dc ra rn rc gs gn w) (hgk : gn < w.heap.size) :
  Calls Tryz.prog 71 #[.pointer (some ⟨gs, 0, none⟩), .agg #[.int .i64 e.bank, .int .u16 e.addr]] w (RtP I gn e w) := by
 have HS := zh hS
 have HE0 := zh (plOk_of p0 p1 hpb)
 have HDC := zh (fun W hh => at_any I hI ba bc da dc ra rn rc gs gn e p0 p1 W hh)
 have HTH := zh ht
 have hcs : ((atI I e).2 == 0) = false ∨ (((atI I e).2 == 0) = true ∧ ((atI I e).1.op == 131) = false) := by
  unfold yS okI at ht
  by_cases h1 : (atI I e).2 = 0
  ·exact .inr ⟨by simpa using h1, by simpa using fun h2 => ht ⟨h1, h2⟩⟩
  ·exact .inl (by simpa using h1)
 have HCS := zh hcs
 have hmm := @run_makeMap Tryz.prog
 have hbx := (Bx.four w (.cells #[.pointer (some ⟨gs, 0, none⟩)] 93) (zo e) (xu ⟨0, 0⟩ false ⟨0, 0⟩ (.slice none 0 0) (.slice none 0 0) (.slice none 0 0)) (xu e false ⟨0, 0⟩ (.slice none 0 0) (.slice none 0 0) (.slice none 0 0)))
 have HB := zh hbx
 have HB3 := zh (Bx.three w (.cells #[.pointer (some ⟨gs, 0, none⟩)] 93) (zo e) (xu ⟨0, 0⟩ false ⟨0, 0⟩ (.slice none 0 0) (.slice none 0 0) (.slice none 0 0)))
 obtain ⟨W1, hW1⟩ : ∃ W1, ((w.alloc (.cells #[.pointer (some ⟨gs, 0, none⟩)] 93)).alloc (zo e)).alloc (xu ⟨0, 0⟩ false ⟨0, 0⟩ (.slice none 0 0) (.slice none 0 0) (.slice none 0 0)) = W1 := ⟨_, rfl⟩
 have HW1 := zh hW1
 have H1B := zh (show Below w.heap.size w W1 by rw [← hW1]; exact (Bx.three w (.cells #[.pointer (some ⟨gs, 0, none⟩)] 93) (zo e) (xu ⟨0, 0⟩ false ⟨0, 0⟩ (.slice none 0 0) (.slice none 0 0) (.slice none 0 0))).bb)
 have H1Z := zh (show W1.heap.size = w.heap.size + 3 by rw [← hW1]; simp)
 have H1R := zh (show W1.heap[w.heap.size + 2]? = some (xu ⟨0, 0⟩ false ⟨0, 0⟩ (.slice none 0 0) (.slice none 0 0) (.slice none 0 0)) by rw [← hW1]; exact (Bx.three w (.cells #[.pointer (some ⟨gs, 0, none⟩)] 93) (zo e) (xu ⟨0, 0⟩ false ⟨0, 0⟩ (.slice none 0 0) (.slice none 0 0) (.slice none 0 0))).b2)
 clear hW1
 unfold AtP at HDC
 generalize ha : atI I e = a at *
 have HAA := zh ha
 have hc1 := fun o => cell_of_row _ w.heap.size o _ _ _ hbx.b0
 clear hS ht ha hbx hcs
 go_enter Tryz.func71, Tryz.ntmps71
 go_upto_region 3 with (first
  | (refine ldT 47 (HB3.out.b1) ?_)
  | (refine ldT 47 (HB.out.b1) ?_)
  | (refine stN ?_)
  | (go_at_call 93; (with_reducible refine (HDC.out _ (HS.out.below HB.out.bb)).mono ?_); rintro e2 w2 ⟨rfl, hk2, ht2⟩; have HK2 := zh hk2; have HT2 := zh ht2; clear hk2 ht2))
 (refine pts ?_)
 have hn : ∀ k, w.heap.size ≤ k → ¬ k = gn := fun k hk he => by omega
 have hw3 : Below w2.heap.size w2 (w2.alloc (fndB a)) := (Below.refl _ _).alloc (zn _) _
 have H0 := zh (za hw3 (HT2.out.heap HB.out.b0 (hn _ (by omega))))
 have H1 := zh (za hw3 (HT2.out.heap HB.out.b1 (hn _ (by omega))))
 have H2 := zh (za hw3 (HT2.out.heap HB.out.b2 (hn _ (by omega))))
 have H3 := zh (za hw3 (HT2.out.heap HB.out.b3 (hn _ (by omega))))
 have hf3 : (w2.alloc (fndB a)).heap[w2.heap.size]? = some (fndB a) := heap_alloc_new _ _
 have HT3 : zg (fun k => k = gn) W1 (w2.alloc (fndB a)) := ((zg.ofBelow (by have := HW1.out; rw [this]; exact (Below.refl _ W1).alloc (zn _) _)).trans HT2.out (fun _ _ h => h)).trans (zg.ofBelow (bs := fun _ => False) hw3) (fun _ _ h => h.elim)
 have HK3 : KnW I gn (w2.alloc (fndB a)) := by
  obtain ⟨L, hL, hM⟩ := HK2.out
  exact ⟨L, za hw3 hL, hM⟩
 obtain ⟨w3, hw3e⟩ : ∃ w3, w2.alloc (fndB a) = w3 := ⟨_, rfl⟩
 rw [hw3e] at H0 H1 H2 H3 hf3 HT3 HK3 ⊢
 have HF := zh hf3
 have HT3 := zh HT3
 have HK3 := zh HK3
 have HZ := zh (show w.heap.size + 4 ≤ w2.heap.size from Nat.le_trans HB.out.z HT2.out.size)
 clear hf3 hw3 hw3e HB HB3 HK2 HT2 HDC hc1
 have hc3 := fun o => cell_of_row w3 w2.heap.size o _ _ _ HF.out
 have HSC := zh (show ScnW I ba bc da dc ra rn rc gs gn W1 from HS.out.below H1B.out)
 clear hc3
 go_cut [25] (fun s wx => s = .bool false ∧ wx = w3)
 case first =>
  have hc3 := fun o => cell_of_row w3 w2.heap.size o _ _ _ HF.out
  rcases HCS.out with e1 | ⟨e1, e2⟩
  ·go_wp2_with fail
   go_meet
   exact ⟨rfl, rfl⟩
  ·go_wp2_with fail
   go_meet
   exact ⟨rfl, rfl⟩
 case rest =>
  obtain ⟨rfl, rfl⟩ := hcut
  have hmm := @run_makeMap Tryz.prog
  go_upto_region 10 with (refine stN ?_)
  have hB4 := Bx.four wc (.map #[] 0) (.cells #[.map (some wc.heap.size)] 141) (.map #[] 0) (.cells #[.map (some (wc.heap.size + 1 + 1))] 141)
  have hs4 : ((((wc.alloc (.map #[] 0)).alloc (.cells #[.map (some wc.heap.size)] 141)).alloc (.map #[] 0)).alloc (.cells #[.map (some (wc.heap.size + 1 + 1))] 141)).heap.size = wc.heap.size + 4 := by simp
  obtain ⟨w9, hw9⟩ : ∃ w9, (((wc.alloc (.map #[] 0)).alloc (.cells #[.map (some wc.heap.size)] 141)).alloc (.map #[] 0)).alloc (.cells #[.map (some (wc.heap.size + 1 + 1))] 141) = w9 := ⟨_, rfl⟩
  rw [hw9] at hB4 hs4 ⊢
  have HB4 := zh hB4
  have HS4 := zh hs4
  have H19 := zh (za hB4.bb H1.out)
  clear hw9 hB4 hs4 hmm
  go_upto_region 11 with (first
   | (refine ldT 47 (H19.out) ?_)
   | (refine stN ?_))
  have hb11 : Below w9.heap.size w9 ((w9.alloc (zo e)).alloc (.cells #[.slice (some ⟨w9.heap.size, 0, none⟩) 1 1] 40)) := ((Below.refl _ w9).alloc (zn _) _).alloc (by simp) _
  have hp11 := (Bx.two w9 (zo e) (.cells #[.slice (some ⟨w9.heap.size, 0, none⟩) 1 1] 40)).b0
  have hq11 := (Bx.two w9 (zo e) (.cells #[.slice (some ⟨w9.heap.size, 0, none⟩) 1 1] 40)).b1
  obtain ⟨w11, hw11⟩ : ∃ w11, (w9.alloc (zo e)).alloc (.cells #[.slice (some ⟨w9.heap.size, 0, none⟩) 1 1] 40) = w11 := ⟨_, rfl⟩
  rw [hw11] at hb11 hp11 hq11 ⊢
  have hbc : Below wc.heap.size wc w11 := HB4.out.bb.trans (hb11.mono HB4.out.bb.size)
  have hz := HZ.out
  have hzc : w.heap.size + 4 ≤ wc.heap.size := Nat.le_trans hz (Nat.le_of_lt (Array.getElem?_eq_some_iff.1 HF.out).1)
  have hz9 := HS4.out
  have HV : VsW I e ⟨gs, gn, wc.heap.size + 1, w.heap.size, w.heap.size + 3, w9.heap.size + 1, wc.heap.size + 3, wc.heap.size, wc.heap.size + 2⟩ W1 [] [] [e] [] [] (.slice none 0 0) (.slice none 0 0) (.slice (some ⟨w9.heap.size, 0, none⟩) 1 1) w11 :=
   ⟨kn_below HK3.out hbc, HT3.out.trans (zg.ofBelow (bs := fun _ => False) hbc) (fun _ _ h => h.elim), za hb11 HB4.out.b1, za hb11 HB4.out.b0, List.nodup_nil, za hbc H0.out, za hbc H3.out, hq11, za hb11 HB4.out.b3, za hb11 HB4.out.b2, List.nodup_nil,
    World.ownsRow_nil _ _ _ _, World.ownsRow_nil _ _ _ _, ⟨rfl, w9.heap.size, 0, 1, #[.int .i64 e.bank, .int .u16 e.addr], rfl, by rw [H1Z.out]; omega, hp11, zn _, by decide, by simp, fun j hj => by
     match j, hj with
     | 0, _ => rfl
     | 1, _ => rfl⟩, by show W1.heap.size ≤ wc.heap.size + 1; rw [H1Z.out]; omega, by show w.heap.size ≠ gn; omega, by show W1.heap.size ≤ w.heap.size + 3; rw [H1Z.out]; omega, by show W1.heap.size ≤ w9.heap.size + 1; rw [H1Z.out]; omega, by show W1.heap.size ≤ wc.heap.size + 3; rw [H1Z.out]; omega, by show W1.heap.size ≤ wc.heap.size; rw [H1Z.out]; omega, by show W1.heap.size ≤ wc.heap.size + 2; rw [H1Z.out]; omega, by show wc.heap.size ≠ wc.heap.size + 2; omega, by show wc.heap.size + 1 ≠ wc.heap.size + 3; omega, by show gn < W1.heap.size; rw [H1Z.out]; omega⟩
  have HV := zh HV
  clear hw11 hb11 hp11 hq11 hbc
  obtain ⟨A, hA⟩ : ∃ A : VsA, A = ⟨gs, gn, wc.heap.size + 1, w.heap.size, w.heap.size + 3, w9.heap.size + 1, wc.heap.size + 3, wc.heap.size, wc.heap.size + 2⟩ := ⟨_, rfl⟩
  rw [← hA] at HV
  have HAE := zh hA
  clear hA hz hzc hz9
  go_wp2_with fail
  go_loopg [] (1000 * lack (univ e) [] + 1) (fun k wr => ∃ (D cd Q C : List zb) (iss : List zM) (vcd vis vq : Value), (1000 * lack (univ e) D + Q.length ≤ k ∧ k ≤ 16777217001) ∧ Hid (VsW I e A W1 D cd Q C iss vcd vis vq wr) ∧ Hid (RtI I e D Q) ∧ Hid (RtC I D cd C iss))
  case atStart => exact ⟨[], [], [e], [], [], _, _, _, ⟨zn _, by have := lack_le e []; omega⟩, HV, zh (RtI.start I e), zh (RtC.start I)⟩
  case round =>
   obtain ⟨D, cd, Q, C, iss, vcd, vis, vq, hk, HVR, HRI, HRC⟩ := hrel
   cases Q with
   | nil =>
    have hv0 := HVR.out
    obtain ⟨Ac, cc, hvc, -⟩ := zt hv0.oc
    obtain ⟨Ai, ci, hvi, -⟩ := zt hv0.oi
    subst hvc hvi
    obtain ⟨gq, oq, cq, hvq⟩ : ∃ gq oq cq, vq = .slice (some ⟨gq, oq, none⟩) 0 cq := by
     obtain ⟨-, g, off, cap, cur, hv, -⟩ := hv0.oq
     exact ⟨g, off, cap, hv⟩
    subst hvq
    have hbq := hv0.hbq
    rw [show A.bq = w9.heap.size + 1 by rw [HAE.out]] at hbq
    have hc := fun o => cell_of_row wr (w9.heap.size + 1) o _ _ _ hbq
    have hbr := hv0.hbr
    rw [show A.br = w.heap.size + 3 by rw [HAE.out]] at hbr
    have hcr := fun o => cell_of_row wr (w.heap.size + 3) o _ _ _ hbr
    have hln2 := HRI.out.len HE0.out
    have hlnc : cd.length ≤ D.length := by rw [HRC.out.cd]; exact List.length_filter_le _ _
    have hndc : cd.Nodup := by rw [HRC.out.cd]; exact hv0.nd.filter _
    have HSI := zh (sortItm_any I W1.heap.size (.slice Ac cd.length cc) cd hndc (by omega) wr hv0.oc)
    have HLN := zh (show iss.length < 4611686018427387904 by have := HRC.out.ln; omega)
    have HLC := zh (show C.length ≤ 1000000000 by have := calls_len (e := e) hv0.nc (fun p hp => (HRI.out.rd p hp).plOk HE0.out) HRC.out.cl; omega)
    clear hv0 hbq hbr hln2 hlnc hndc hk
    go_upto_region 18 with (go_at_call 96; (with_reducible refine HSI.out.mono ?_); rintro e5 w5 ⟨rfl, cd', hp5, hs5, ho5, ht5⟩; have HP5 := zh hp5; have HS5 := zh hs5; have HV5 := zh (HVR.out.sortC ht5 ho5); clear hp5 hs5 ho5 ht5)
    clear hc hcr
    have hbr := HV5.out.hbr
    rw [show A.br = w.heap.size + 3 by rw [HAE.out]] at hbr
    have hcr := fun o => cell_of_row w5 (w.heap.size + 3) o _ _ _ hbr
    have HSI2 := zh (sortIss_any W1.heap.size (.slice Ai iss.length ci) iss HRC.out.ni HLN.out w5 HV5.out.oi)
    clear hbr
    go_upto_region 19 with (go_at_call 98; (with_reducible refine HSI2.out.mono ?_); rintro e6 w6 ⟨rfl, iss', hp6, hs6, ho6, ht6⟩; have HP6 := zh hp6; have HS6 := zh hs6; have HV6 := zh (HV5.out.sortI ht6 ho6); clear hp6 hs6 ho6 ht6)
    clear hcr
    have hbc := HV6.out.hbc
    have hgc := HV6.out.hc
    rw [show A.bc = wc.heap.size + 3 by rw [HAE.out], show A.gc = wc.heap.size + 2 by rw [HAE.out]] at hbc
    rw [show A.gc = wc.heap.size + 2 by rw [HAE.out]] at hgc
    have hcb := fun o => cell_of_row w6 (wc.heap.size + 3) o _ _ _ hbc
    have HKE := zh (keysB_any (wc.heap.size + 2) w6)
    have HSK := zh (sortedKeysB (wc.heap.size + 2) (xP C) w6 hgc (by rw [trueL_keys]; exact HV6.out.nc) (by have h1 := HLC.out; unfold xP; rw [List.length_map]; exact h1))
    clear hbc hgc
    go_upto_region 20 with (first
     | (go_at_call 102; (with_reducible refine HKE.out.mono ?_); rintro e7 w7 ⟨rfl, rfl⟩)
     | (go_at_call 72; (with_reducible refine HSK.out.mono ?_); rintro e8 w8 ⟨v8, ss, rfl, hp8, hs8, ho8, hb8⟩
        obtain ⟨A8, c8, rfl, -⟩ := zt ho8
        have HP8 := zh hp8
        have HS8 := zh hs8
        have HO8 := zh ho8
        have HV8 := zh (HV6.out.below hb8)
        have HB8 := zh hb8
        have hbr8 := HV8.out.hbr
        rw [show A.br = w.heap.size + 3 by rw [HAE.out]] at hbr8
        have HR8 := zh hbr8
        have hcr8 := fun o => cell_of_row w8 (w.heap.size + 3) o _ _ _ hbr8
        have hfr8 := fun o => frozen_of_row w8 (w.heap.size + 3) o _ _ hbr8
        clear hp8 hs8 ho8 hb8 hbr8))
    have hgk2 : gn ≠ w.heap.size + 2 := fun h => by omega
    have hgk3 : gn ≠ w.heap.size + 3 := fun h => by omega
    have hv8 := HV8.out
    have hgke : A.gk = gn := by rw [HAE.out]
    have htr := hv8.tr
    have hkn := hv8.kn
    rw [hgke] at htr hkn
    have hz1 := H1Z.out
    obtain ⟨wz, hwz⟩ : ∃ wz, w8.setCell ⟨w.heap.size + 3, 6, none⟩ (.slice A8 ss.length c8) = wz := ⟨_, rfl⟩
    have H3 : Hid (wz.heap[w.heap.size + 3]? = some (.cells #[.int .i64 e.bank, .int .u16 e.addr, .bool false, .int .i64 0, .int .u16 0, (.slice Ac cd.length cc), .slice A8 ss.length c8, (.slice Ai iss.length ci)] 50 (0, 0))) := zh (by rw [← hwz]; exact heap_setCell_same HR8.out (i := 6) _)
    have H2 : Hid (wz.heap[w.heap.size + 1 + 1]? = some (.cells #[.int .i64 0, .int .u16 0, .bool false, .int .i64 0, .int .u16 0, .slice none 0 0, .slice none 0 0, .slice none 0 0] 50 (0, 0))) := zh (by rw [show w.heap.size + 1 + 1 = w.heap.size + 2 by omega, ← hwz, heap_setCell_other (by omega)]; exact htr.heap H1R.out (fun h => hgk2 h.symm))
    have HTZ : Hid (zg (fun k => k = gn) w wz) := zh (by rw [← hwz]; exact ((zg.ofBelow H1B.out).trans htr (fun _ _ h => h)).setCell _ (fun h => by omega))
    have HKZ : Hid (KnW I gn wz) := zh (by rw [← hwz]; exact kn_setCell hkn hgk3)
    have htz : zg (fun k => k = w.heap.size + 3) w8 wz := by rw [← hwz]; exact (zg.refl _ w8).setCell _ (fun _ => rfl)
    have HOC : Hid (wz.ownsRow w.heap.size 55 9 (.slice Ac cd.length cc) cd'.length (x9 I cd')) := zh (zi (hv8.oc.mono (by omega)) htz (ye hv8.oc HR8.out (fun _ _ => zm (by decide))))
    have HOI : Hid (wz.ownsRow w.heap.size 58 3 (.slice Ai iss.length ci) iss'.length (yf iss')) := zh (zi (hv8.oi.mono (by omega)) htz (ye hv8.oi HR8.out (fun _ _ => zm (by decide))))
    have HOL : Hid (wz.ownsRow w.heap.size 47 2 (.slice A8 ss.length c8) ss.length (zp ss)) := zh (zi (HO8.out.mono (Nat.le_trans H1B.out.size HV6.out.tr.size)) htz (ye HO8.out HR8.out (fun _ _ => zm (by decide))))
    rw [hwz]
    clear hwz htz hv8 hgke htr hkn hz1 hgk2 hgk3
    go_wp2_with (first
     | (refine ldT 50 (H3.out) ?_)
     | (refine stR (H2.out) ?_))
    refine bodyPost_ret (results_cell_row (cs := #[.int .i64 e.bank, .int .u16 e.addr, .bool false, .int .i64 0, .int .u16 0, (.slice Ac cd.length cc), .slice A8 ss.length c8, (.slice Ai iss.length ci)]) (fr := (0, 0)) Tryz.results71 _ _ (w.heap.size + 1 + 1) 50 _ ?_ (setRow_heap _ _ _ _ _ _ H2.out) Tryz.underlying50 rfl (by kernel_rfl)) rfl ?_
    ·rfl
    ·have htw : zg (fun k => k = w.heap.size + 1 + 1) wz (wz.setRow (w.heap.size + 1 + 1) #[.int .i64 e.bank, .int .u16 e.addr, .bool false, .int .i64 0, .int .u16 0, (.slice Ac cd.length cc), .slice A8 ss.length c8, (.slice Ai iss.length ci)]) := (zg.refl _ wz).setRow _ (fun _ => rfl)
     refine ⟨⟨e, false, ⟨0, 0⟩, cd', ss, iss'⟩, (.slice Ac cd.length cc), _, (.slice Ai iss.length ci), rfl, rt_end HTH.out HRI.out HRC.out HP5.out HS5.out (by have h1 := HP8.out; rw [trueL_keys] at h1; exact h1) HS8.out HP6.out HS6.out, ⟨zi HOC.out htw (ye HOC.out H2.out (fun _ _ => zm (by decide))), zi HOL.out htw (ye HOL.out H2.out (fun _ _ => zm (by decide))), zi HOI.out htw (ye HOI.out H2.out (fun _ _ => zm (by decide)))⟩, kn_setRow HKZ.out (by omega), HTZ.out.setRow _ (fun h => by omega)⟩
   | cons p Q =>
    have hbq : wr.heap[w9.heap.size + 1]? = some (.cells #[vq] 40 (0, 0)) := by have h1 := HVR.out.hbq; rw [HAE.out] at h1; exact h1
    have HBQ := zh hbq
    obtain ⟨gq, oq, cq, hvq⟩ : ∃ gq oq cq, vq = .slice (some ⟨gq, oq, none⟩) (Q.length + 1) cq := by
     obtain ⟨-, g, off, cap, cur, hv, -⟩ := HVR.out.oq
     exact ⟨g, off, cap, hv⟩
    subst hvq
    have hq0 : wr.cell? ⟨gq, oq, none⟩ = some (.int .i64 p.bank) := by
     obtain ⟨-, g, off, cap, cur, hv, -, hg, -, -, -, h6⟩ := HVR.out.oq
     simp only [Value.slice.injEq, Option.some.injEq, Addr.mk.injEq] at hv
     obtain ⟨⟨rfl, rfl, -⟩, -⟩ := hv
     rw [cell_of_row _ _ _ _ _ _ hg]
     have := h6 0 (by rw [List.length_cons]; omega)
     rw [Nat.add_zero] at this
     rw [this]
     rfl
    have hq1 : wr.cell? ⟨gq, oq + 1, none⟩ = some (.int .u16 p.addr) := by
     obtain ⟨-, g, off, cap, cur, hv, -, hg, -, -, -, h6⟩ := HVR.out.oq
     simp only [Value.slice.injEq, Option.some.injEq, Addr.mk.injEq] at hv
     obtain ⟨⟨rfl, rfl, -⟩, -⟩ := hv
     rw [cell_of_row _ _ _ _ _ _ hg, h6 1 (by rw [List.length_cons]; omega)]
     rfl
    have hcq : Q.length + 1 ≤ cq := by
     obtain ⟨-, g, off, cap, cur, hv, -, hg, h3, -⟩ := HVR.out.oq
     simp only [Value.slice.injEq] at hv
     omega
    have hc := fun o => cell_of_row wr (w9.heap.size + 1) o _ _ _ hbq
    clear hbq
    have hl0 : (0 : Int) < (Q.length : Int) + 1 := by omega
    have hl1 : (0 : Int) < ((Q.length + 1 : Nat) : Int) := by omega
    go_upto_region 14 with (refine stN ?_)
    (refine pts ?_)
    have hb13 : Below wr.heap.size wr (wr.alloc (zo p)) := (Below.refl _ _).alloc (zn _) _
    have hp13 : (wr.alloc (zo p)).heap[wr.heap.size]? = some (zo p) := heap_alloc_new _ _
    have hq13 := za hb13 HBQ.out
    have HV13 := HVR.out.below hb13
    obtain ⟨w13, hw13⟩ : ∃ w13, wr.alloc (zo p) = w13 := ⟨_, rfl⟩
    rw [hw13] at hb13 hp13 hq13 HV13 ⊢
    have HP13 := zh hp13
    have HQ13 := zh hq13
    have HV13 := zh HV13
    have hc13 := fun o => cell_of_row w13 (w9.heap.size + 1) o _ _ _ hq13
    have hf13 := fun o => frozen_of_row w13 (w9.heap.size + 1) o _ _ hq13
    clear hc hq0 hq1 hw13 hb13 hp13 hq13 HVR HBQ
    have hs1 : (1 : Int) ≤ (Q.length : Int) + 1 := by omega
    have hs2 : (1 : Int) ≤ ((Q.length + 1 : Nat) : Int) := by omega
    have hs3 : (Q.length : Int) + 1 ≤ (cq : Int) := by omega
    have hs4 : ((Q.length + 1 : Nat) : Int) ≤ (cq : Int) := by omega
    go_upto_region 15 with fail
    clear hc13 hf13
    have ht14 : jk w13 W1.heap.size 47 2 (.slice (if cq = 1 then some ⟨gq, oq, none⟩ else some ⟨gq, oq + 2, none⟩) Q.length (cq - 1)) Q.length (zp Q) := by
     have h1 := HV13.out.oq.tail
     by_cases hq1 : cq = 1
     ·rw [if_pos hq1]
      have hz0 : Q.length = 0 := by omega
      have hQ : Q = [] := List.eq_nil_of_length_eq_zero hz0
      subst hQ
      exact h1.2
     ·rw [if_neg hq1]
      exact h1.1
    have h14 := HV13.out.queue (w1 := w13) ht14 ⟨rfl, rfl, rfl, zn _, fun _ _ _ => rfl⟩
    rw [show A.bq = w9.heap.size + 1 by rw [HAE.out]] at h14
    have HV14 := zh h14.1
    obtain ⟨w14, hw14⟩ : ∃ w14, w13.setCell ⟨w9.heap.size + 1, 0, none⟩ (.slice (if cq = 1 then some ⟨gq, oq, none⟩ else some ⟨gq, oq + 2, none⟩) Q.length (cq - 1)) = w14 := ⟨_, rfl⟩
    have hp14 : w14.heap[wr.heap.size]? = some (zo p) := by
     rw [← hw14, heap_setCell_other (fun e => by have h1 := HQ13.out; rw [← e, HP13.out] at h1; injection h1 with h1; injection h1 with _ h1; exact absurd h1 (by decide))]
     exact HP13.out
    have h15 := h14.1
    rw [hw14] at h15 ⊢
    have HV15 := zh h15
    have HP14 := zh hp14
    have hbd := h15.hbd
    have hmd := h15.hd
    rw [show A.bd = wc.heap.size + 1 by rw [HAE.out]] at hbd
    rw [show A.gd = wc.heap.size by rw [HAE.out]] at hbd hmd
    have hc15 := fun o => cell_of_row w14 (wc.heap.size + 1) o _ _ _ hbd
    have HM15 := zh hmd
    clear ht14 h14 hw14 hp14 h15 hbd hmd HV14 HV13 HP13 HQ13
    generalize (Value.slice (if cq = 1 then some ⟨gq, oq, none⟩ else some ⟨gq, oq + 2, none⟩) Q.length (cq - 1)) = vq' at *
    go_upto_if 58 with (first
     | (refine ldT 47 (HP14.out) ?_)
     | (refine yq xj Tryz.underlying141 HM15.out rfl _ _ rfl rfl p rfl (zero_bool _) ?_; rw [trueL_get]))
    have hpl := (HRI.out.rq p (by simp)).plOk HE0.out
    have HPL := zh hpl
    have hln := HRC.out.ln
    have hln2 := HRI.out.len HE0.out
    have hlnc : cd.length ≤ D.length := by rw [HRC.out.cd]; exact List.length_filter_le _ _
    have hlk := hk.1
    have hlk2 := hk.2
    rw [List.length_cons] at hlk
    have HLN := zh (show iss.length ≤ 100000000 by omega)
    have HLC := zh (show cd.length ≤ 100000000 by omega)
    have HLQ := zh (show Q.length ≤ 50000000000 by omega)
    have HLK := zh hlk
    have HLK2 := zh hlk2
    clear hpl hln hln2 hlnc hlk hlk2 hk hc15 hl0 hl1 hs1 hs2 hs3 hs4 hcq
    by_cases hpD : p ∈ D
    ·have hdD : decide (p ∈ D) = true := decide_eq_true hpD
     rw [hdD]
     clear hdD
     go_wp2_with fail
     go_roundg (1000 * lack (univ e) D + Q.length)
     case measure => have := HLK.out; omega
     case rel => exact ⟨D, cd, Q, C, iss, vcd, vis, _, ⟨zn _, by have := HLK.out; have := HLK2.out; omega⟩, HV15, zh (HRI.out.skip hpD), HRC⟩
    ·have hdD : decide (p ∈ D) = false := decide_eq_false hpD
     rw [hdD]
     clear hdD
     have HSA := zh (show ScnW I ba bc da dc ra rn rc A.gs A.gk W1 by rw [HAE.out]; exact HSC.out)
     have hargs : (A.bd = wc.heap.size + 1 ∧ A.bs = w.heap.size) ∧ (A.br = w.heap.size + 3 ∧ A.bq = w9.heap.size + 1) ∧ A.bc = wc.heap.size + 3 := by rw [HAE.out]; exact ⟨⟨rfl, rfl⟩, ⟨rfl, rfl⟩, rfl⟩
     by_cases hok : okI I p
     ·have hv := visit_yes hI ba bc da dc ra rn rc HSA.out p HPL.out.2.1 HPL.out.2.2 hpD hok HLN.out HLC.out HLQ.out HPL.out.1 w14 HV15.out
      rw [hargs.1.1, hargs.1.2, hargs.2.1.1, hargs.2.1.2, hargs.2.2] at hv
      have HVS := zh hv
      clear hv hargs
      go_wp2_with (first
       | (refine ldT 47 (HP14.out) ?_)
       | (go_at_call 95; (with_reducible refine HVS.out.mono ?_); rintro e5 w5 ⟨rfl, iss5, vcd5, vis5, vq5, hP5, hv5⟩; have HP5 := zh hP5; have HV5 := zh hv5; clear hP5 hv5))
      go_roundg (1000 * lack (univ e) (D ++ [p]) + (Q ++ (fl I p).nx).length)
      case measure =>
       have h1 := HLK.out
       have h2 := HRI.out.lower HE0.out hpD
       have h3 := (fl_bd HPL.out hok).ln
       rw [List.length_append]
       omega
      case rel =>
       obtain ⟨m, hm, hmn, hmm⟩ := HP5.out
       subst hm
       have h1 := HLK.out
       have h4 := HLK2.out
       have h2 := HRI.out.lower HE0.out hpD
       have h3 := (fl_bd HPL.out hok).ln
       exact ⟨D ++ [p], cd ++ [p], Q ++ (fl I p).nx, xU C (fl I p).cl, iss ++ m, vcd5, vis5, vq5, ⟨zn _, by rw [List.length_append]; omega⟩, HV5, zh (HRI.out.visit hpD (fun _ => rfl) (fun h => absurd hok h)), zh (HRC.out.yes hpD hok (fun q => mem_addL) hmn hmm (iss_at_len hmn hmm))⟩
     ·have hv := visit_no hI ba bc da dc ra rn rc HSA.out p HPL.out.2.1 HPL.out.2.2 hpD hok HLN.out w14 HV15.out
      rw [hargs.1.1, hargs.1.2, hargs.2.1.1, hargs.2.1.2, hargs.2.2] at hv
      have HVS := zh hv
      clear hv hargs
      go_wp2_with (first
       | (refine ldT 47 (HP14.out) ?_)
       | (go_at_call 95; (with_reducible refine HVS.out.mono ?_); rintro e5 w5 ⟨rfl, iss5, vcd5, vis5, vq5, hP5, hv5⟩; have HP5 := zh hP5; have HV5 := zh hv5; clear hP5 hv5))
      go_roundg (1000 * lack (univ e) (D ++ [p]) + Q.length)
      case measure =>
       have h1 := HLK.out
       have h2 := HRI.out.lower HE0.out hpD
       omega
      case rel =>
       have hP := HP5.out
       subst hP
       have h1 := HLK.out
       have h4 := HLK2.out
       have h2 := HRI.out.lower HE0.out hpD
       have h5 := HRI.out.visit hpD (N := []) (fun h => absurd h hok) (fun _ => rfl)
       rw [List.append_nil] at h5
       exact ⟨D ++ [p], cd, Q, C, _, vcd5, vis5, vq5, ⟨zn _, by omega⟩, HV5, zh h5, zh (HRC.out.no hpD hok)⟩
theorem routine_any (I : zk) (hI : I.Ok) (ba : Option Addr) (bc : Nat) (da : Option Addr) (dc : Nat) (ra : Option Addr) (rn rc gs gk : Nat) (e : zb) (he : yO e) (w : World) (hS : ScnW I ba bc da dc ra rn rc gs gk w) (hgk : gk < w.heap.size) :
  Calls Tryz.prog 71 #[.pointer (some ⟨gs, 0, none⟩), .agg #[.int .i64 e.bank, .int .u16 e.addr]] w (RtP I gk e w) := by
 by_cases ht : yS I e
 ·exact routine_thunk I hI ba bc da dc ra rn rc gs gk e he.2.1 he.2.2 ht w hS hgk
 ·exact routine_plain I hI ba bc da dc ra rn rc gs gk e he.2.1 he.2.2 he.1 ht w hS hgk
end Go.Proofs.YteofmaiojepdkaaGreat
