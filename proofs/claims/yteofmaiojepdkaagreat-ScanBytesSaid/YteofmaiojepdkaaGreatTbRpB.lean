/- The reference of chapter 05: PutIssue, walked: an issue is put into an ordered list. Condition: the list reads as a list of issues. Printed by gen_rpb.py. -/
import Derived.Test.YteofmaiojepdkaaGreatTbRpR
set_option linter.all false
namespace Go.Proofs.YteofmaiojepdkaaGreat
open Go Go.RowKit Go.Maps Go.Sort
def insS (l : List zM) (p : zM) : List zM := insL_ yR p l
theorem insS_so {l : List zM} (h : l.Pairwise yR) (p : zM) : (insS l p).Pairwise yR := insL_so yR p yR.tr yR.tri h
theorem insS_me {l : List zM} (h : l.Pairwise yR) (p q : zM) : q ∈ insS l p ↔ q = p ∨ q ∈ l := insL_me yR p yR.tr yR.tri h q
theorem insS_len {l : List zM} (h : l.Pairwise yR) (p : zM) : (insS l p).length ≤ l.length + 1 := insL_len_ yR p yR.tr yR.tri h
def PisP (l : List zM) (p : zM) (A0 : Option Addr) (c0 : Nat) (w : World) (e : Ending) (w' : World) : Prop := ∃ A c, e = .returned (.slice A (insS l p).length c) ∧ RdS w' 3 A (insS l p).length c (yf (insS l p)) ∧
 ((A = A0 ∧ c = c0 ∧ insS l p = l) ∨ w'.ownsRow w.heap.size 58 3 (.slice A (insS l p).length c) (insS l p).length (yf (insS l p))) ∧ Below w.heap.size w w'
theorem PisP.own {l : List zM} {p : zM} {A0 : Option Addr} {c0 : Nat} {w w' : World} {B : Nat} {A : Option Addr} {c n : Nat} {xs : List zM} (hn : n = xs.length) (he : insS l p = xs) (hB : w.heap.size ≤ B) (ho : w'.ownsRow B 58 3 (.slice A n c) n (yf xs)) (hb : Below w.heap.size w w') : PisP l p A0 c0 w (.returned (.slice A n c)) w' := by
 subst hn he
 exact ⟨A, c, rfl, yd ho, .inr (ho.mono hB), hb⟩
theorem insS_in {l : List zM} {p : zM} (h : p ∈ l) : insS l p = l := by unfold insS insL_; rw [if_pos h]
theorem insS_out {l : List zM} {p : zM} (h : p ∉ l) {o : List zM} {d : Bool} (hf : jg yR p l = (o, d)) : insS l p = if d = true then o else o ++ [p] := by
 unfold insS insL_
 rw [if_neg h, hf]
theorem insG_next {l : List zM} {p x : zM} {m : Nat} (hx : l[m]? = some x) {o : List zM} {d : Bool} (hf : jg yR p (l.take m) = (o, d)) : jg yR p (l.take (m + 1)) = if d = false ∧ yR p x then (o ++ [p] ++ [x], true) else (o ++ [x], d) := by
 rw [List.take_succ, hx]
 show jg yR p (l.take m ++ [x]) = _
 rw [insF_snoc, hf]
 rfl
theorem isss_snoc (o : List zM) (x : zM) : yf o ++ [.int .i64 x.kind, .int .i64 x.at_.bank, .int .u16 x.at_.addr] = yf (o ++ [x]) := by
 unfold yf
 rw [List.flatMap_append, List.flatMap_cons, List.flatMap_nil]
 rfl
theorem insG_small {l : List zM} {p : zM} {m : Nat} (hm : m ≤ l.length) {o : List zM} {d : Bool} (hf : jg yR p (l.take m) = (o, d)) : o.length ≤ l.length + 1 := by
 have h1 := (insF_le yR p (l.take m)).1
 rw [hf, List.length_take] at h1
 have h2 : d.toNat ≤ 1 := by cases d <;> decide
 dsimp only at h1
 omega
theorem iss_parts {cur : Array Value} {a : Nat} {x : zM} (h : (cur.extract a (a + 3)).toList = issL x) : Hid ((cur.extract (a + 1) (a + 1 + 2)).toList = yQ x.at_) ∧ Hid (cur[a]? = some (.int .i64 x.kind)) := by
 have key : ∀ k, k < 3 → cur[a + k]? = (issL x)[k]? := fun k hk => by
  rw [← h, Array.toList_extract]
  simp only [List.extract_eq_take_drop, Nat.add_sub_cancel_left]
  rw [List.getElem?_take_of_lt hk, List.getElem?_drop, Array.getElem?_toList]
 refine ⟨zh ?_, zh (by have := key 0 (by omega); simpa [issL] using this)⟩
 have := ext_at (c := cur) (o := a + 1) (L := yQ x.at_) (fun j hj => by
  have hj2 : j < 2 := hj
  have h1 := key (1 + j) (by omega)
  rw [show a + (1 + j) = a + 1 + j by omega] at h1
  rw [h1]
  match j, hj2 with
  | 0, _ => rfl
  | 1, _ => rfl)
 exact this
set_option maxRecDepth 100000 in
set_option maxHeartbeats 8000000 in
theorem pis5_any (l : List zM) (p : zM) (A : Option Addr) (c : Nat) (w : World) (h : RdS w 3 A l.length c (yf l)) (hl : l.length ≤ 1000000000) :
  Calls Tryz.prog 113 #[.slice A l.length c, .agg #[.int .i64 p.kind, .int .i64 p.at_.bank, .int .u16 p.at_.addr]] w (PisP l p A c w) := by
 have HA := zh h
 have ha := h.le
 clear h
 have HX := zh (Bx.one w (y8 p))
 go_enter Tryz.func113, Tryz.ntmps113
 go_upto_region 1 with fail
 obtain ⟨wi, hwi⟩ : ∃ wi, w.alloc (y8 p) = wi := ⟨_, rfl⟩
 rw [hwi] at HX ⊢
 clear hwi
 have HB0 := zh HX.out.b0
 have HBI := zh HX.out.bb
 clear HX
 go_wp2_with fail
 go_loopw [5, 6, 7] (fun vo vd i wr => ∃ (m : Nat) (o : List zM) (d : Bool), m ≤ l.length ∧ i = .int .i64 m ∧ vd = .bool d ∧ Hid (jg yR p (l.take m) = (o, d)) ∧ Hid (p ∉ l.take m) ∧ Hid (wr.ownsRow wi.heap.size 58 3 vo o.length (yf o)) ∧ Hid (Below wi.heap.size wi wr)) (fun _ _ i _ => l.length - (intOf i).toNat)
 case atStart => exact ⟨0, [], false, Nat.zero_le _, rfl, rfl, zh rfl, zh (by simp), zh (World.ownsRow_nil _ _ _ _), zh (Below.refl _ _)⟩
 case round =>
  obtain ⟨m, o, d, hm, rfl, rfl, HF, HN, HO, HB⟩ := hrel
  obtain ⟨Ao, co, rfl, -⟩ := zt HO.out
  have hol := insG_small hm HF.out
  by_cases hlt : m < l.length
  ·obtain ⟨x, hx⟩ : ∃ x, l[m]? = some x := ⟨_, List.getElem?_eq_getElem hlt⟩
   obtain ⟨g1, o1, cur1, T1, fr1, rfl, hg1, hex1⟩ := RdS.elt (f := issL) (fun _ => rfl) (HA.out.below HBI.out) hx
   have HE1 := zh hex1
   obtain ⟨HEA, HKA⟩ := iss_parts hex1
   have HS := zh (fun W (hb : Below wi.heap.size wi W) => show W.heap[g1]? = some (.cells cur1 T1 fr1) ∧ W.heap[w.heap.size]? = some (y8 p) from ⟨za hb hg1, za hb HB0.out⟩)
   have HLT := zh hlt
   have HXX := zh hx
   have HBF := zh (fun W => before_any p.at_ x.at_ W)
   clear hg1 hex1 hx
   go_upto_region 6 with fail
   refine zr (S := fun W => W.heap[g1]? = some (.cells cur1 T1 fr1) ∧ W.heap[w.heap.size]? = some (y8 p)) [] (by kernel_rfl) (HS.out _ HB.out.drew) (fun hHeld => ?_)
   (refine tz 0 ?_)
   (refine tz 1 ?_)
   (refine tkZ 2 (v := .pointer (some ⟨g1, o1 + m * 3, none⟩)) rfl (by assumption) (fun W hS => by clear hS; go_simp; first | done | rfl) ?_; (refine pts ?_))
   (refine tkZ 3 (v := .agg #[.int .i64 x.kind, .int .i64 x.at_.bank, .int .u16 x.at_.addr]) rfl (by assumption) (fun W hS => zQ _ _ rfl _ _ rfl _ _ _ hS.1 (issL x) HE1.out (by kernel_rfl)) ?_; (refine pts ?_))
   (refine tkZ 4 (v := .agg #[.int .i64 p.kind, .int .i64 p.at_.bank, .int .u16 p.at_.addr]) rfl (by assumption) (fun W hS => zW _ _ rfl _ rfl _ _ _ hS.2 (by kernel_rfl)) ?_; (refine pts ?_))
   have HWD := zh (HB.out.trans ((Below.refl wr.heap.size wr).drew.mono HB.out.size))
   have HOD := zh (zi HO.out (zg.ofBelow (bs := fun _ => False) (Below.refl wr.heap.size wr).drew) (fun _ _ e => e))
   obtain ⟨wd, hwd⟩ : ∃ wd, wr.drew = wd := ⟨_, rfl⟩
   rw [hwd] at HWD HOD hHeld ⊢
   clear hwd
   by_cases he : x = p
   ·subst he
    have HM := zh (insS_in (List.mem_of_getElem? HXX.out))
    (refine tkZ 5 (v := .bool true) rfl (by assumption) (fun W hS => by clear hS; go_simp; first | done | rfl) ?_; (refine pts ?_))
    refine z8 6 ?_
    simp only [List.drop_succ_cons, List.drop_zero]
    clear hHeld
    go_wp2_with fail
    go_ret
    exact ⟨some ⟨g1, o1, none⟩, c, by rw [HM.out]; rfl, by rw [HM.out]; exact (HA.out.below HBI.out).below HWD.out, .inl ⟨rfl, rfl, HM.out⟩, HBI.out.trans (HWD.out.mono HBI.out.size)⟩
   ·have HNE := zh he
    (refine tkZ 5 (v := .bool false) rfl (by assumption) (fun W hS => by
     clear hS
     have hne : ¬ (x.kind = p.kind ∧ x.at_.bank = p.at_.bank ∧ x.at_.addr = p.at_.addr) := fun h => he (zM.ext' h.1 (zb.ext' h.2.1 h.2.2))
     by_cases d0 : x.kind = p.kind
     ·by_cases d1 : x.at_.bank = p.at_.bank
      ·have d2 : ¬ x.at_.addr = p.at_.addr := fun h => hne ⟨d0, d1, h⟩
       clear hne
       go_simp
       first | done | rfl | simp [d0, d1, d2]
      ·clear hne
       go_simp
       first | done | rfl | simp [d0, d1]
     ·clear hne
      go_simp
      first | done | rfl | simp [d0]) ?_; (refine pts ?_))
    refine z8 6 ?_
    simp only [List.drop_succ_cons, List.drop_zero]
    clear hHeld
    go_upto_region 8 with fail
    all_goals
     clear he
     go_cut [8] (fun v wx => ∃ bb : Bool, v = .bool bb ∧ Hid (decide (yR p x) = bb) ∧ Hid (Below wd.heap.size wd wx))
     case first =>
      refine zr (S := fun W => W.heap[g1]? = some (.cells cur1 T1 fr1) ∧ W.heap[w.heap.size]? = some (y8 p)) [28] (by kernel_rfl) (HS.out _ HWD.out.drew) (fun hHeld => ?_)
      (refine tkZ 0 (v := .pointer (some ⟨w.heap.size, 1, none⟩)) rfl (by assumption) (fun W hS => by clear hS; go_simp; first | done | rfl) ?_; (refine pts ?_))
      (refine tkZ 1 (v := .agg #[.int .i64 p.at_.bank, .int .u16 p.at_.addr]) rfl (by assumption) (fun W hS => zQ _ _ rfl _ _ rfl _ _ _ hS.2 (yQ p.at_) rfl (by kernel_rfl)) ?_; (refine pts ?_))
      (refine tz 2 ?_)
      (refine tz 3 ?_)
      (refine tkZ 4 (v := .pointer (some ⟨g1, o1 + m * 3, none⟩)) rfl (by assumption) (fun W hS => by clear hS; go_simp; first | done | rfl) ?_; (refine pts ?_))
      (refine tkZ 5 (v := .pointer (some ⟨g1, o1 + m * 3 + 1, none⟩)) rfl (by assumption) (fun W hS => by clear hS; go_simp; first | done | rfl) ?_; (refine pts ?_))
      (refine tkZ 6 (v := .agg #[.int .i64 x.at_.bank, .int .u16 x.at_.addr]) rfl (by assumption) (fun W hS => zQ _ _ rfl _ _ rfl _ _ _ hS.1 (yQ x.at_) HEA.out (by kernel_rfl)) ?_; (refine pts ?_))
      clear hHeld
      have HWE := zh (Below.refl wd.heap.size wd).drew
      obtain ⟨we, hwe⟩ : ∃ we, wd.drew = we := ⟨_, rfl⟩
      rw [hwe] at HWE ⊢
      clear hwe
      refine yx 7 rfl (fun K hK => ?_)
      go_simp
      go_at_call 24
      (with_reducible refine (HBF.out _).mono ?_)
      rintro e9 w9 ⟨rfl, hb9⟩
      have HB9 := zh (HWE.out.trans (hb9.mono HWE.out.size))
      clear hb9
      have hH9 := HS.out _ (HWD.out.trans (HB9.out.mono HWD.out.size))
      have HH9 := zh hH9
      clear hH9
      by_cases c1 : zP p.at_ x.at_
      ·have HBB := zh (show decide (yR p x) = true from decide_eq_true (.inl c1))
       rw [decide_eq_true c1]
       go_simp
       refine hK.out _ _ (.inr HH9.out) ?_
       (refine pts ?_)
       clear hK K
       have hHeld := HH9.out
       (refine tz 8 ?_)
       (refine skZ 9 rfl (by assumption) ?_; (refine pts ?_))
       (refine skZ 10 rfl (by assumption) ?_; (refine pts ?_))
       (refine skZ 11 rfl (by assumption) ?_; (refine pts ?_))
       (refine skZ 12 rfl (by assumption) ?_; (refine pts ?_))
       (refine skZ 13 rfl (by assumption) ?_; (refine pts ?_))
       (refine skZ 14 rfl (by assumption) ?_; (refine pts ?_))
       (refine skZ 15 rfl (by assumption) ?_; (refine pts ?_))
       (refine skZ 16 rfl (by assumption) ?_; (refine pts ?_))
       (refine skZ 17 rfl (by assumption) ?_; (refine pts ?_))
       (refine skZ 18 rfl (by assumption) ?_; (refine pts ?_))
       (refine skZ 19 rfl (by assumption) ?_; (refine pts ?_))
       (refine skZ 20 rfl (by assumption) ?_; (refine pts ?_))
       (refine skZ 21 rfl (by assumption) ?_; (refine pts ?_))
       (refine skZ 22 rfl (by assumption) ?_; (refine pts ?_))
       (refine skZ 23 rfl (by assumption) ?_; (refine pts ?_))
       (refine skZ 24 rfl (by assumption) ?_; (refine pts ?_))
       (refine skZ 25 rfl (by assumption) ?_; (refine pts ?_))
       (refine skZ 26 rfl (by assumption) ?_; (refine pts ?_))
       (refine tkZ 27 (v := .bool true) rfl (by assumption) (fun W hS => by clear hS; go_simp; first | done | rfl) ?_; (refine pts ?_))
       refine z8 28 ?_
       simp only [List.drop_succ_cons, List.drop_zero]
       clear hHeld
       go_wp2_with fail
       go_meet
       exact ⟨true, rfl, HBB, HB9⟩
      ·rw [decide_eq_false c1]
       go_simp
       refine hK.out _ _ (.inr HH9.out) ?_
       (refine pts ?_)
       clear hK K
       have hHeld := HH9.out
       (refine tz 8 ?_)
       (refine tkZ 9 (v := .pointer (some ⟨w.heap.size, 1, none⟩)) rfl (by assumption) (fun W hS => by clear hS; go_simp; first | done | rfl) ?_; (refine pts ?_))
       (refine tkZ 10 (v := .agg #[.int .i64 p.at_.bank, .int .u16 p.at_.addr]) rfl (by assumption) (fun W hS => zQ _ _ rfl _ _ rfl _ _ _ hS.2 (yQ p.at_) rfl (by kernel_rfl)) ?_; (refine pts ?_))
       (refine tz 11 ?_)
       (refine tz 12 ?_)
       (refine tkZ 13 (v := .pointer (some ⟨g1, o1 + m * 3, none⟩)) rfl (by assumption) (fun W hS => by clear hS; go_simp; first | done | rfl) ?_; (refine pts ?_))
       (refine tkZ 14 (v := .pointer (some ⟨g1, o1 + m * 3 + 1, none⟩)) rfl (by assumption) (fun W hS => by clear hS; go_simp; first | done | rfl) ?_; (refine pts ?_))
       (refine tkZ 15 (v := .agg #[.int .i64 x.at_.bank, .int .u16 x.at_.addr]) rfl (by assumption) (fun W hS => zQ _ _ rfl _ _ rfl _ _ _ hS.1 (yQ x.at_) HEA.out (by kernel_rfl)) ?_; (refine pts ?_))
       by_cases c2 : p.at_ = x.at_
       ·have HBB := zh (show decide (yR p x) = decide (p.kind < x.kind) from decide_eq_decide.2 ⟨fun h => h.elim (fun h => absurd h c1) (·.2), fun h => .inr ⟨c2, h⟩⟩)
        (refine tkZ 16 (v := .bool true) rfl (by assumption) (fun W hS => by clear hS; rw [c2]; go_simp; first | done | rfl) ?_; (refine pts ?_))
        (refine tz 17 ?_)
        (refine tkZ 18 (v := .pointer (some ⟨w.heap.size, 0, none⟩)) rfl (by assumption) (fun W hS => by clear hS; go_simp; first | done | rfl) ?_; (refine pts ?_))
        (refine tkZ 19 (v := .int .i64 p.kind) rfl (by assumption) (fun W hS => yo _ _ rfl _ _ rfl _ _ _ hS.2 _ rfl (fun _ => by kernel_rfl)) ?_; (refine pts ?_))
        (refine tz 20 ?_)
        (refine tz 21 ?_)
        (refine tkZ 22 (v := .pointer (some ⟨g1, o1 + m * 3, none⟩)) rfl (by assumption) (fun W hS => by clear hS; go_simp; first | done | rfl) ?_; (refine pts ?_))
        (refine tkZ 23 (v := .pointer (some ⟨g1, o1 + m * 3, none⟩)) rfl (by assumption) (fun W hS => by clear hS; go_simp; first | done | rfl) ?_; (refine pts ?_))
        (refine tkZ 24 (v := .int .i64 x.kind) rfl (by assumption) (fun W hS => yo _ _ rfl _ _ rfl _ _ _ hS.1 _ HKA.out (fun _ => by kernel_rfl)) ?_; (refine pts ?_))
        (refine tkZ 25 (v := .bool (decide (p.kind < x.kind))) rfl (by assumption) (fun W hS => by clear hS; go_simp; first | done | rfl) ?_; (refine pts ?_))
        (refine tkZ 26 (v := .bool (decide (p.kind < x.kind))) rfl (by assumption) (fun W hS => by clear hS; go_simp; first | done | rfl) ?_; (refine pts ?_))
        (refine tkZ 27 (v := .bool (decide (p.kind < x.kind))) rfl (by assumption) (fun W hS => by clear hS; go_simp; first | done | rfl) ?_; (refine pts ?_))
        refine z8 28 ?_
        simp only [List.drop_succ_cons, List.drop_zero]
        clear hHeld
        obtain ⟨bk, hbk⟩ : ∃ bk, decide (p.kind < x.kind) = bk := ⟨_, rfl⟩
        rw [hbk] at HBB ⊢
        clear hbk
        go_wp2_with fail
        go_meet
        exact ⟨bk, rfl, HBB, HB9⟩
       ·have HBB := zh (show decide (yR p x) = false from decide_eq_false (fun h => h.elim c1 (fun h => c2 h.1)))
        (refine tkZ 16 (v := .bool false) rfl (by assumption) (fun W hS => by
         clear hS
         have hne : ¬ (p.at_.bank = x.at_.bank ∧ p.at_.addr = x.at_.addr) := fun h => c2 (zb.ext' h.1 h.2)
         by_cases d1 : p.at_.bank = x.at_.bank
         ·have d2 : ¬ p.at_.addr = x.at_.addr := fun h => hne ⟨d1, h⟩
          clear hne
          go_simp
          first | done | rfl | simp [d1, d2]
         ·clear hne
          go_simp
          first | done | rfl | simp [d1]) ?_; (refine pts ?_))
        (refine tz 17 ?_)
        (refine skZ 18 rfl (by assumption) ?_; (refine pts ?_))
        (refine skZ 19 rfl (by assumption) ?_; (refine pts ?_))
        (refine skZ 20 rfl (by assumption) ?_; (refine pts ?_))
        (refine skZ 21 rfl (by assumption) ?_; (refine pts ?_))
        (refine skZ 22 rfl (by assumption) ?_; (refine pts ?_))
        (refine skZ 23 rfl (by assumption) ?_; (refine pts ?_))
        (refine skZ 24 rfl (by assumption) ?_; (refine pts ?_))
        (refine skZ 25 rfl (by assumption) ?_; (refine pts ?_))
        (refine tkZ 26 (v := .bool false) rfl (by assumption) (fun W hS => by clear hS; go_simp; first | done | rfl) ?_; (refine pts ?_))
        (refine tkZ 27 (v := .bool false) rfl (by assumption) (fun W hS => by clear hS; go_simp; first | done | rfl) ?_; (refine pts ?_))
        refine z8 28 ?_
        simp only [List.drop_succ_cons, List.drop_zero]
        clear hHeld
        go_wp2_with fail
        go_meet
        exact ⟨false, rfl, HBB, HB9⟩
     case rest =>
     obtain ⟨bb, rfl, HBB, HWB⟩ := hcut
     obtain ⟨w9, rfl⟩ : ∃ w9 : World, w9 = wc := ⟨_, rfl⟩
     have HB9 := zh (HWD.out.trans (HWB.out.mono HWD.out.size))
     have HO9 := zh (zi HOD.out (zg.ofBelow (bs := fun _ => False) HWB.out) (fun _ _ e => e))
     clear HWB HWD HOD
     have hNX := insG_next HXX.out HF.out
     have hNM : p ∉ l.take (m + 1) := by rw [y2 HXX.out]; exact fun h => h.elim HN.out fun e => HNE.out e.symm
     have HNM := zh hNM
     clear hNM
     by_cases hc : d = false ∧ bb = true
     ·obtain ⟨rfl, rfl⟩ := hc
      rw [if_pos ⟨rfl, of_decide_eq_true HBB.out⟩] at hNX
      have HNX := zh hNX
      clear hNX
      go_upto_region 12 with (first
       | (refine ldT 58 ((HS.out _ HB9.out).2) ?_)
       | (at_builtin; go_must
        (refine zJ (.tmp 55) (.tmp 57) 36 58 rfl 3 24 _ infoIss Tryz.underlying36 rfl (by decide) (by decide) wi.heap.size (Nat.le_trans HB9.out.size (by simp)) (.slice Ao o.length co) o.length (yf o) rfl (HO9.out.alloc _) (by omega) w9.heap.size 1 _ _ _ rfl (heap_alloc_new w9 _) rfl rfl (by decide) (by decide) rfl ?_
         intro ga cp w6 ho6 hg6 hv6
         have HO6 := zh (show w6.ownsRow wi.heap.size 58 3 _ (o.length + 1) (yf (o ++ [p])) by rw [← isss_snoc]; exact ho6)
         have HB6 := zh (HB9.out.trans ((((Below.refl w9.heap.size w9).alloc (zn _) _).mono HB9.out.size).grown hg6 (Nat.le_trans HB9.out.size (by simp)) (fun k hk => (HO9.out.lt k hk).1)))
         clear ho6 hg6 hv6)))
      go_wp2_with (first
       | (refine lmT 58 ([.int .i64 x.kind, .int .i64 x.at_.bank, .int .u16 x.at_.addr]) ((HS.out _ HB6.out).1) (HE1.out) ?_)
       | (at_builtin; go_must
        (refine zJ (.tmp 59) (.tmp 64) 36 58 rfl 3 24 _ infoIss Tryz.underlying36 rfl (by decide) (by decide) wi.heap.size (Nat.le_trans HB6.out.size (by simp)) (.slice (some ⟨ga, 0, none⟩) (o.length + 1) cp) (o.length + 1) (yf (o ++ [p])) rfl (HO6.out.alloc _) (by omega) w6.heap.size 1 _ _ _ rfl (heap_alloc_new w6 _) rfl rfl (by decide) (by decide) rfl ?_
         intro ga7 cp7 w7 ho7 hg7 hv7
         have HO7 := zh (show w7.ownsRow wi.heap.size 58 3 _ (o.length + 1 + 1) (yf (o ++ [p] ++ [x])) by rw [← isss_snoc (o ++ [p])]; exact ho7)
         have HB7 := zh (HB6.out.trans ((((Below.refl w6.heap.size w6).alloc (zn _) _).mono HB6.out.size).grown hg7 (Nat.le_trans HB6.out.size (by simp)) (fun k hk => (HO6.out.lt k hk).1)))
         clear ho7 hg7 hv7)))
      go_roundw
      case rel => exact ⟨m + 1, o ++ [p] ++ [x], true, HLT.out, by go_num, rfl, HNX, HNM, by simpa using HO7, HB7⟩
      case measure => have h1 := HLT.out; simp [intOf]; omega
     ·rw [if_neg (fun h => hc ⟨h.1, HBB.out.symm.trans (decide_eq_true h.2)⟩)] at hNX
      have HNX := zh hNX
      clear hNX
      have hcv : d = true ∨ (d = false ∧ bb = false) := by cases d <;> cases bb <;> simp_all
      rcases hcv with rfl | ⟨rfl, rfl⟩
      all_goals
       clear hc
       go_wp2_with (first
        | (refine lmT 58 ([.int .i64 x.kind, .int .i64 x.at_.bank, .int .u16 x.at_.addr]) ((HS.out _ HB9.out).1) (HE1.out) ?_)
        | (at_builtin; go_must
         (refine zJ (.tmp 59) (.tmp 64) 36 58 rfl 3 24 _ infoIss Tryz.underlying36 rfl (by decide) (by decide) wi.heap.size (Nat.le_trans HB9.out.size (by simp)) (.slice Ao o.length co) o.length (yf o) rfl (HO9.out.alloc _) (by omega) w9.heap.size 1 _ _ _ rfl (heap_alloc_new w9 _) rfl rfl (by decide) (by decide) rfl ?_
          intro ga7 cp7 w7 ho7 hg7 hv7
          have HO7 := zh (show w7.ownsRow wi.heap.size 58 3 _ (o.length + 1) (yf (o ++ [x])) by rw [← isss_snoc]; exact ho7)
          have HB7 := zh (HB9.out.trans ((((Below.refl w9.heap.size w9).alloc (zn _) _).mono HB9.out.size).grown hg7 (Nat.le_trans HB9.out.size (by simp)) (fun k hk => (HO9.out.lt k hk).1)))
          clear ho7 hg7 hv7)))
       go_roundw
       case rel => exact ⟨m + 1, o ++ [x], _, HLT.out, by go_num, rfl, HNX, HNM, by simpa using HO7, HB7⟩
       case measure => have h1 := HLT.out; simp [intOf]; omega
  ·obtain rfl : m = l.length := by omega
   have hN : p ∉ l := by have := HN.out; rwa [List.take_of_length_le (zn _)] at this
   have hF := HF.out
   rw [List.take_of_length_le (zn _)] at hF
   have hP := insS_out hN hF
   have HBX := zh (za HB.out HB0.out)
   cases d with
   | true =>
    have HP := zh (show insS l p = o from hP)
    clear hP hF hN
    go_wp2_with fail
    go_ret
    exact PisP.own rfl HP.out HBI.out.size HO.out (HBI.out.trans (HB.out.mono HBI.out.size))
   | false =>
    have HP := zh (show insS l p = o ++ [p] from hP)
    clear hP hF hN
    go_wp2_with (first
     | (refine ldT 58 (HBX.out) ?_)
     | (at_builtin; go_must
      (refine zJ (.tmp 68) (.tmp 70) 36 58 rfl 3 24 _ infoIss Tryz.underlying36 rfl (by decide) (by decide) wi.heap.size (Nat.le_trans HB.out.size (by simp)) (.slice Ao o.length co) o.length (yf o) rfl (HO.out.alloc _) (by omega) wr.heap.size 1 _ _ _ rfl (heap_alloc_new wr _) rfl rfl (by decide) (by decide) rfl ?_
       intro ga7 cp7 w7 ho7 hg7 hv7
       have HO7 := zh (show w7.ownsRow wi.heap.size 58 3 _ (o.length + 1) (yf (o ++ [p])) by rw [← isss_snoc]; exact ho7)
       have HB7 := zh (HB.out.trans ((((Below.refl wr.heap.size wr).alloc (zn _) _).mono HB.out.size).grown hg7 (Nat.le_trans HB.out.size (by simp)) (fun k hk => (HO.out.lt k hk).1)))
       clear ho7 hg7 hv7)))
    go_ret
    exact PisP.own (by simp) HP.out HBI.out.size HO7.out (HBI.out.trans (HB7.out.mono HBI.out.size))
end Go.Proofs.YteofmaiojepdkaaGreat
