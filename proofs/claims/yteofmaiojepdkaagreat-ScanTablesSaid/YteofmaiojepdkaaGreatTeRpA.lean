/- The reference of chapter 05: Put, walked: a place is put into an ordered list. Condition: the list reads as a list of places. -/
import Derived.Test.YteofmaiojepdkaaGreatTeScB
set_option linter.all false
namespace Go.Proofs.YteofmaiojepdkaaGreat
open Go Go.RowKit Go.Maps Go.Sort
def PutP (l : List zb) (p : zb) (A0 : Option Addr) (c0 : Nat) (w : World) (e : Ending) (w' : World) : Prop := ∃ A c, e = .returned (.slice A (insP l p).length c) ∧ RdS w' 2 A (insP l p).length c (zK (insP l p)) ∧
 ((A = A0 ∧ c = c0 ∧ insP l p = l) ∨ w'.ownsRow w.heap.size 47 2 (.slice A (insP l p).length c) (insP l p).length (zK (insP l p))) ∧ Below w.heap.size w w'
theorem PutP.own {l : List zb} {p : zb} {A0 : Option Addr} {c0 : Nat} {w w' : World} {B : Nat} {A : Option Addr} {c n : Nat} {xs : List zb} (hn : n = xs.length) (he : insP l p = xs) (hB : w.heap.size ≤ B) (ho : w'.ownsRow B 47 2 (.slice A n c) n (zK xs)) (hb : Below w.heap.size w w') : PutP l p A0 c0 w (.returned (.slice A n c)) w' := by
 subst hn he
 exact ⟨A, c, rfl, rd_own ho, .inr (ho.mono hB), hb⟩
theorem insP_in {l : List zb} {p : zb} (h : p ∈ l) : insP l p = l := by unfold insP insL_; rw [if_pos h]
theorem insP_out {l : List zb} {p : zb} (h : p ∉ l) {o : List zb} {d : Bool} (hf : insF zO p l = (o, d)) : insP l p = if d = true then o else o ++ [p] := by
 unfold insP insL_
 rw [if_neg h, hf]
theorem insF_next {l : List zb} {p x : zb} {m : Nat} (hx : l[m]? = some x) {o : List zb} {d : Bool} (hf : insF zO p (l.take m) = (o, d)) : insF zO p (l.take (m + 1)) = if d = false ∧ zO p x then (o ++ [p] ++ [x], true) else (o ++ [x], d) := by
 rw [List.take_succ, hx]
 show insF zO p (l.take m ++ [x]) = _
 rw [insF_snoc, hf]
 rfl
theorem plcs_put (o : List zb) (x : zb) : zK o ++ [.int .i64 x.bank, .int .u16 x.addr] = zK (o ++ [x]) := by
 rw [plcsL_app]
 rfl
theorem insF_small {l : List zb} {p : zb} {m : Nat} (hm : m ≤ l.length) {o : List zb} {d : Bool} (hf : insF zO p (l.take m) = (o, d)) : o.length ≤ l.length + 1 := by
 have h1 := (insF_le zO p (l.take m)).1
 rw [hf, List.length_take] at h1
 have h2 : d.toNat ≤ 1 := by cases d <;> decide
 dsimp only at h1
 omega
set_option maxRecDepth 100000 in
set_option maxHeartbeats 8000000 in
theorem put5_any (l : List zb) (p : zb) (A : Option Addr) (c : Nat) (w : World) (h : RdS w 2 A l.length c (zK l)) (hl : l.length ≤ 1000000000) :
  Calls Tryz.prog 26 #[.slice A l.length c, .agg #[.int .i64 p.bank, .int .u16 p.addr]] w (PutP l p A c w) := by
 have HA := zh h
 have ha := h.le
 clear h
 have HX := zh (Bx.one w (zI p))
 go_enter Tryz.func26, Tryz.ntmps26
 go_upto_region 1 with fail
 obtain ⟨wi, hwi⟩ : ∃ wi, w.alloc (zI p) = wi := ⟨_, rfl⟩
 rw [hwi] at HX ⊢
 clear hwi
 have HB0 := zh HX.out.b0
 have HBI := zh HX.out.bb
 clear HX
 go_wp2_with fail
 go_loopw [5, 6, 7] (fun vo vd i wr => ∃ (m : Nat) (o : List zb) (d : Bool), m ≤ l.length ∧ i = .int .i64 m ∧ vd = .bool d ∧ Hid (insF zO p (l.take m) = (o, d)) ∧ Hid (p ∉ l.take m) ∧ Hid (wr.ownsRow wi.heap.size 47 2 vo o.length (zK o)) ∧ Hid (Below wi.heap.size wi wr)) (fun _ _ i _ => l.length - (intOf i).toNat)
 case atStart => exact ⟨0, [], false, Nat.zero_le _, rfl, rfl, zh rfl, zh (by simp), zh (World.ownsRow_nil _ _ _ _), zh (Below.refl _ _)⟩
 case round =>
  obtain ⟨m, o, d, hm, rfl, rfl, HF, HN, HO, HB⟩ := hrel
  obtain ⟨Ao, co, rfl, -⟩ := zM HO.out
  have hol := insF_small hm HF.out
  by_cases hlt : m < l.length
  ·obtain ⟨x, hx⟩ : ∃ x, l[m]? = some x := ⟨_, List.getElem?_eq_getElem hlt⟩
   obtain ⟨g1, o1, cur1, T1, fr1, rfl, hg1, hex1⟩ := RdS.elt (f := x7) (fun _ => rfl) (HA.out.below HBI.out) hx
   have HE1 := zh hex1
   have HS := zh (fun W (hb : Below wi.heap.size wi W) => show W.heap[g1]? = some (.cells cur1 T1 fr1) ∧ W.heap[w.heap.size]? = some (zI p) from ⟨za hb hg1, za hb HB0.out⟩)
   have HLT := zh hlt
   have HXX := zh hx
   have HBF := zh (fun W => before_any p x W)
   clear hg1 hex1 hx
   go_upto_region 6 with fail
   refine zu (S := fun W => W.heap[g1]? = some (.cells cur1 T1 fr1) ∧ W.heap[w.heap.size]? = some (zI p)) [] (by kernel_rfl) (HS.out _ HB.out.drew) (fun hHeld => ?_)
   (refine tz 0 ?_)
   (refine tz 1 ?_)
   (refine tkZ 2 (v := .pointer (some ⟨g1, o1 + m * 2, none⟩)) rfl (by assumption) (fun W hS => by clear hS; go_simp; first | done | rfl) ?_; (refine pts ?_))
   (refine tkZ 3 (v := .agg #[.int .i64 x.bank, .int .u16 x.addr]) rfl (by assumption) (fun W hS => yk _ _ rfl _ _ rfl _ _ _ hS.1 (x7 x) HE1.out (by kernel_rfl)) ?_; (refine pts ?_))
   (refine tkZ 4 (v := .agg #[.int .i64 p.bank, .int .u16 p.addr]) rfl (by assumption) (fun W hS => yr _ _ rfl _ rfl _ _ _ hS.2 (by kernel_rfl)) ?_; (refine pts ?_))
   have HWD := zh (HB.out.trans ((Below.refl wr.heap.size wr).drew.mono HB.out.size))
   have HOD := zh (zo HO.out (zm.ofBelow (bs := fun _ => False) (Below.refl wr.heap.size wr).drew) (fun _ _ e => e))
   obtain ⟨wd, hwd⟩ : ∃ wd, wr.drew = wd := ⟨_, rfl⟩
   rw [hwd] at HWD HOD hHeld ⊢
   clear hwd
   by_cases he : x = p
   ·subst he
    have HM := zh (insP_in (List.mem_of_getElem? HXX.out))
    (refine tkZ 5 (v := .bool true) rfl (by assumption) (fun W hS => by clear hS; go_simp; first | done | rfl) ?_; (refine pts ?_))
    refine ys 6 ?_
    simp only [List.drop_succ_cons, List.drop_zero]
    clear hHeld
    go_wp2_with fail
    go_ret
    exact ⟨some ⟨g1, o1, none⟩, c, by rw [HM.out]; rfl, by rw [HM.out]; exact (HA.out.below HBI.out).below HWD.out, .inl ⟨rfl, rfl, HM.out⟩, HBI.out.trans (HWD.out.mono HBI.out.size)⟩
   ·have HNE := zh he
    (refine tkZ 5 (v := .bool false) rfl (by assumption) (fun W hS => by
     clear hS
     have hne : ¬ (x.bank = p.bank ∧ x.addr = p.addr) := fun h => he (zb.ext' h.1 h.2)
     by_cases d1 : x.bank = p.bank
     ·have d2 : ¬ x.addr = p.addr := fun h => hne ⟨d1, h⟩
      clear hne
      go_simp
      first | done | rfl | simp [d1, d2]
     ·clear hne
      go_simp
      first | done | rfl | simp [d1]) ?_; (refine pts ?_))
    refine ys 6 ?_
    simp only [List.drop_succ_cons, List.drop_zero]
    clear hHeld
    go_upto_region 8 with fail
    all_goals
     clear he
     refine zu (S := fun W => W.heap[g1]? = some (.cells cur1 T1 fr1) ∧ W.heap[w.heap.size]? = some (zI p)) [6] (by kernel_rfl) (HS.out _ HWD.out.drew) (fun hHeld => ?_)
     (refine tkZ 0 (v := .agg #[.int .i64 p.bank, .int .u16 p.addr]) rfl (by assumption) (fun W hS => yr _ _ rfl _ rfl _ _ _ hS.2 (by kernel_rfl)) ?_; (refine pts ?_))
     (refine tz 1 ?_)
     (refine tz 2 ?_)
     (refine tkZ 3 (v := .pointer (some ⟨g1, o1 + m * 2, none⟩)) rfl (by assumption) (fun W hS => by clear hS; go_simp; first | done | rfl) ?_; (refine pts ?_))
     (refine tkZ 4 (v := .agg #[.int .i64 x.bank, .int .u16 x.addr]) rfl (by assumption) (fun W hS => yk _ _ rfl _ _ rfl _ _ _ hS.1 (x7 x) HE1.out (by kernel_rfl)) ?_; (refine pts ?_))
     clear hHeld
     refine yI 5 rfl (fun K hK => ?_)
     go_simp
     go_at_call 24
     (with_reducible refine (HBF.out _).mono ?_)
     rintro e9 w9 ⟨rfl, hb9⟩
     have HB9 := zh (HWD.out.trans (((Below.refl wd.heap.size wd).drew.trans (hb9.mono (Below.refl wd.heap.size wd).drew.size)).mono HWD.out.size))
     have HO9 := zh (zo HOD.out (zm.ofBelow (bs := fun _ => False) ((Below.refl wd.heap.size wd).drew.trans (hb9.mono (Below.refl wd.heap.size wd).drew.size))) (fun _ _ e => e))
     clear hb9 HWD HOD
     obtain ⟨bb, hbb⟩ : ∃ bb, decide (zO p x) = bb := ⟨_, rfl⟩
     rw [hbb]
     have HBB := zh hbb
     clear hbb
     go_simp
     refine hK.out _ _ (.inr (HS.out _ HB9.out)) ?_
     (refine pts ?_)
     clear hK K
     refine ys 6 ?_
     simp only [List.drop_succ_cons, List.drop_zero]
     have hNX := insF_next HXX.out HF.out
     have hNM : p ∉ l.take (m + 1) := by rw [mem_take_succ HXX.out]; exact fun h => h.elim HN.out fun e => HNE.out e.symm
     have HNM := zh hNM
     clear hNM
     by_cases hc : d = false ∧ bb = true
     ·obtain ⟨rfl, rfl⟩ := hc
      rw [if_pos ⟨rfl, of_decide_eq_true HBB.out⟩] at hNX
      have HNX := zh hNX
      clear hNX
      go_upto_region 12 with (first
       | (refine ldT 47 ((HS.out _ HB9.out).2) ?_)
       | (at_builtin; go_must
        (refine yq (.tmp 33) (.tmp 35) 40 47 rfl 2 16 _ jc Tryz.underlying40 rfl (by decide) (by decide) wi.heap.size (Nat.le_trans HB9.out.size (by simp)) (.slice Ao o.length co) o.length (zK o) rfl (HO9.out.alloc _) (by omega) w9.heap.size 1 _ _ _ rfl (heap_alloc_new w9 _) rfl rfl (by decide) (by decide) rfl ?_
         intro ga cp w6 ho6 hg6 hv6
         have HO6 := zh (show w6.ownsRow wi.heap.size 47 2 _ (o.length + 1) (zK (o ++ [p])) by rw [← plcs_put]; exact ho6)
         have HB6 := zh (HB9.out.trans ((((Below.refl w9.heap.size w9).alloc (zn _) _).mono HB9.out.size).grown hg6 (Nat.le_trans HB9.out.size (by simp)) (fun k hk => (HO9.out.lt k hk).1)))
         clear ho6 hg6 hv6)))
      go_wp2_with (first
       | (refine lmT 47 ([.int .i64 x.bank, .int .u16 x.addr]) ((HS.out _ HB6.out).1) (HE1.out) ?_)
       | (at_builtin; go_must
        (refine yq (.tmp 37) (.tmp 42) 40 47 rfl 2 16 _ jc Tryz.underlying40 rfl (by decide) (by decide) wi.heap.size (Nat.le_trans HB6.out.size (by simp)) (.slice (some ⟨ga, 0, none⟩) (o.length + 1) cp) (o.length + 1) (zK (o ++ [p])) rfl (HO6.out.alloc _) (by omega) w6.heap.size 1 _ _ _ rfl (heap_alloc_new w6 _) rfl rfl (by decide) (by decide) rfl ?_
         intro ga7 cp7 w7 ho7 hg7 hv7
         have HO7 := zh (show w7.ownsRow wi.heap.size 47 2 _ (o.length + 1 + 1) (zK (o ++ [p] ++ [x])) by rw [← plcs_put (o ++ [p])]; exact ho7)
         have HB7 := zh (HB6.out.trans ((((Below.refl w6.heap.size w6).alloc (zn _) _).mono HB6.out.size).grown hg7 (Nat.le_trans HB6.out.size (by simp)) (fun k hk => (HO6.out.lt k hk).1)))
         clear ho7 hg7 hv7)))
      go_roundw
      case rel => exact ⟨m + 1, o ++ [p] ++ [x], true, HLT.out, by go_num, rfl, HNX, HNM, by simpa using HO7, HB7⟩
      case measure => have h1 := HLT.out; simp [intOf]; omega
     ·rw [if_neg (fun h => hc ⟨h.1, HBB.out.symm.trans (decide_eq_true h.2)⟩)] at hNX
      have HNX := zh hNX
      clear hNX
      have hcv : d = true ∨ (d = false ∧ bb = false) := by cases d <;> cases bb <;> simp_all
      rcases hcv with rfl | ⟨rfl, rfl⟩
      all_goals
       clear hc
       go_wp2_with (first
        | (refine lmT 47 ([.int .i64 x.bank, .int .u16 x.addr]) ((HS.out _ HB9.out).1) (HE1.out) ?_)
        | (at_builtin; go_must
         (refine yq (.tmp 37) (.tmp 42) 40 47 rfl 2 16 _ jc Tryz.underlying40 rfl (by decide) (by decide) wi.heap.size (Nat.le_trans HB9.out.size (by simp)) (.slice Ao o.length co) o.length (zK o) rfl (HO9.out.alloc _) (by omega) w9.heap.size 1 _ _ _ rfl (heap_alloc_new w9 _) rfl rfl (by decide) (by decide) rfl ?_
          intro ga7 cp7 w7 ho7 hg7 hv7
          have HO7 := zh (show w7.ownsRow wi.heap.size 47 2 _ (o.length + 1) (zK (o ++ [x])) by rw [← plcs_put]; exact ho7)
          have HB7 := zh (HB9.out.trans ((((Below.refl w9.heap.size w9).alloc (zn _) _).mono HB9.out.size).grown hg7 (Nat.le_trans HB9.out.size (by simp)) (fun k hk => (HO9.out.lt k hk).1)))
          clear ho7 hg7 hv7)))
       go_roundw
       case rel => exact ⟨m + 1, o ++ [x], _, HLT.out, by go_num, rfl, HNX, HNM, by simpa using HO7, HB7⟩
       case measure => have h1 := HLT.out; simp [intOf]; omega
  ·obtain rfl : m = l.length := by omega
   have hN : p ∉ l := by have := HN.out; rwa [List.take_of_length_le (zn _)] at this
   have hF := HF.out
   rw [List.take_of_length_le (zn _)] at hF
   have hP := insP_out hN hF
   have HBX := zh (za HB.out HB0.out)
   cases d with
   | true =>
    have HP := zh (show insP l p = o from hP)
    clear hP hF hN
    go_wp2_with fail
    go_ret
    exact PutP.own rfl HP.out HBI.out.size HO.out (HBI.out.trans (HB.out.mono HBI.out.size))
   | false =>
    have HP := zh (show insP l p = o ++ [p] from hP)
    clear hP hF hN
    go_wp2_with (first
     | (refine ldT 47 (HBX.out) ?_)
     | (at_builtin; go_must
      (refine yq (.tmp 46) (.tmp 48) 40 47 rfl 2 16 _ jc Tryz.underlying40 rfl (by decide) (by decide) wi.heap.size (Nat.le_trans HB.out.size (by simp)) (.slice Ao o.length co) o.length (zK o) rfl (HO.out.alloc _) (by omega) wr.heap.size 1 _ _ _ rfl (heap_alloc_new wr _) rfl rfl (by decide) (by decide) rfl ?_
       intro ga7 cp7 w7 ho7 hg7 hv7
       have HO7 := zh (show w7.ownsRow wi.heap.size 47 2 _ (o.length + 1) (zK (o ++ [p])) by rw [← plcs_put]; exact ho7)
       have HB7 := zh (HB.out.trans ((((Below.refl wr.heap.size wr).alloc (zn _) _).mono HB.out.size).grown hg7 (Nat.le_trans HB.out.size (by simp)) (fun k hk => (HO.out.lt k hk).1)))
       clear ho7 hg7 hv7)))
    go_ret
    exact PutP.own (by simp) HP.out HBI.out.size HO7.out (HBI.out.trans (HB7.out.mono HBI.out.size))
end Go.Proofs.YteofmaiojepdkaaGreat
