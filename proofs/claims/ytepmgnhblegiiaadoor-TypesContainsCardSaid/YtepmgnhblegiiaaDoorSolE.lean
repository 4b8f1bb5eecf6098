/- The closure that unites two classes. No condition beyond what each states. -/
import Derived.Test.YtepmgnhblegiiaaDoorSolD
import Derived.Deep.DeepCutAuto
import Derived.Deep.QuietTactic
import Derived.BigQuiet
set_option linter.all false
namespace Go.Proofs.YtepmgnhblegiiaaDoor
open Go Go.RowKit Go.Maps

def JoinPost (cs ps : List Con) (L : Lay) (B gt : Nat) (rt : Int → Int) (of : Int → Cls) (clash : Bool) (qs : List (Int × Int)) (a b : Int) (w : World) (e : Ending) (w' : World) : Prop :=
  e = .returned (.tuple #[]) ∧ Turn (joinB L B gt w) w w' ∧ ((rt a = rt b ∧ SolW L rt of clash w' ∧ TodoW B gt qs w') ∨
    ∃ rt' of' clash', Inv L.n cs ps rt' of' clash' [] ∧ SolW L rt' of' clash' w' ∧ TodoW B gt [] w' ∧ rootsN L.n rt' < rootsN L.n rt)
structure JoinHyp (cs ps : List Con) (L : Lay) (B g2 g3 gt g5 : Nat) (rt : Int → Int) (of : Int → Cls) (clash : Bool) (qs : List (Int × Int)) (a b : Int) (w : World) : Prop where
  inv : Inv L.n cs ps rt of clash ((a, b) :: qs)
  sol : SolW L rt of clash w
  todo : TodoW B gt qs w
  cap : JoinC L g2 g3 gt g5 w
  base : B ≤ w.heap.size
  few : qs.length + 70000 * rootsN L.n rt ≤ 200000000

set_option maxRecDepth 100000 in
set_option maxHeartbeats 4000000 in
theorem join_step (cs ps : List Con) (L : Lay) (hR : ∀ c ∈ cs, rightS L.n c = true) (B g2 g3 gt g5 m : Nat)
    (ih : ∀ rt of clash qs (a b : Nat) w, JoinHyp cs ps L B g2 g3 gt g5 rt of clash qs a b w → rootsN L.n rt < m → Calls Tryd.prog 68 #[.int .i64 a, .int .i64 b, .pointer (some ⟨g2, 0, none⟩), .pointer (some ⟨g3, 0, none⟩), .pointer (some ⟨gt, 0, none⟩), .pointer (some ⟨g5, 0, none⟩)] w (JoinPost cs ps L B gt rt of clash qs a b w))
    (rt : Int → Int) (of : Int → Cls) (clash : Bool) (qs : List (Int × Int)) (a b : Nat) (w : World) (h : JoinHyp cs ps L B g2 g3 gt g5 rt of clash qs a b w) (hm : rootsN L.n rt ≤ m) :
    Calls Tryd.prog 68 #[.int .i64 a, .int .i64 b, .pointer (some ⟨g2, 0, none⟩), .pointer (some ⟨g3, 0, none⟩), .pointer (some ⟨gt, 0, none⟩), .pointer (some ⟨g5, 0, none⟩)] w (JoinPost cs ps L B gt rt of clash qs a b w) := by
  have hab := (h.inv.pend (a, b) (by simp)).1
  have ha : a < L.n := by have := hab.1.2; simp at this; omega
  have hb : b < L.n := by have := hab.2.2; simp at this; omega
  obtain ⟨ra, hra⟩ := Int.eq_ofNat_of_zero_le (h.inv.roots.nn a (by omega))
  obtain ⟨rb, hrb⟩ := Int.eq_ofNat_of_zero_le (h.inv.roots.nn b (by omega))
  have hran : ra < L.n := by have := h.inv.roots.le a; omega
  have hrbn : rb < L.n := by have := h.inv.roots.le b; omega
  have hoff := h.cap.off h.sol h.todo
  have hne2 : ¬ g2 = L.gu := fun e => hoff.1 (.inl (.inr (.inl e)))
  have HH := Lib.hid h
  have HO := Lib.hid hoff
  have HIH := Lib.hid ih
  have HRA := Lib.hid hra
  have HRB := Lib.hid hrb
  have HR := Lib.hid hR
  have HM := Lib.hid hm
  clear h ih hra hrb hoff hab hR hm
  go_enter Tryd.func68, Tryd.ntmps68
  go_wp2
  refine wp_region_relyT [] 6 (factOf [isV ((.pointer (some ⟨L.gs, 0, none⟩))), isV ((.int .i64 a)), isV ((.int .i64 (ra : Int))), isV ((.pointer (some ⟨L.gs, 0, none⟩))), isV ((.int .i64 b)), isV ((.int .i64 (rb : Int)))]) (nth [[0], [1], [2], [3], [4], [5]]) (nth [[], [], [], [], [], []]) (nth [[], [], [0, 1], [], [], [3, 4, 2]]) [2, 5] (fun w2 => SolW L rt of clash w2 ∧ Turn (fun k => k = L.gu) w w2) (by kernel_rfl) (by kernel_rfl) (⟨HH.out.sol.drew, (Turn.refl _ _).drew⟩) (fun w w' h hb => ⟨h.1.turn (Turn.ofBelow (bs := fun _ => False) hb) (fun _ h => h.elim), h.2.trans (Turn.ofBelow (bs := fun _ => False) hb) (fun _ _ h => h.elim)⟩) (GrowsAll.of ((GrowsAll.cons (Grows.isV _)  (GrowsAll.cons (Grows.isV _)  (GrowsAll.cons (Grows.isV _)  (GrowsAll.cons (Grows.isV _)  (GrowsAll.cons (Grows.isV _)  (GrowsAll.cons (Grows.isV _) GrowsAll.nil)))))))) (fun f F hF => ?_)
  simp only [List.take_succ_cons, List.take_zero, fullGo, Act.put, List.setIfInBounds_toArray, List.set_cons_zero, List.set_cons_succ, Nat.reduceAdd] at hF
  subst hF
  refine ⟨StepObsF.cons ?_ (StepObsF.cons ?_ (StepObsF.cons ?_ (StepObsF.cons ?_ (StepObsF.cons ?_ (StepObsF.cons ?_ (StepObsF.nil)))))), ?_⟩
  · intro w2 hS hF hD K hK
    rw [if_pos (by rfl)]
    exact wp_of_quiet (exec_load_at _ _ rfl _ _ rfl _ _ _ (hS.2.heap HH.out.cap.h2 hne2) ((.pointer (some ⟨L.gs, 0, none⟩))) (by kernel_rfl) (fun _ => by kernel_rfl)) (hK.out _ _ rfl (After.lit rfl rfl rfl (by first | rfl | kernel_rfl)))
  · intro w2 hS hF hD K hK
    rw [if_pos (by rfl)]
    refine wp_of_quiet (v := (.int .i64 a)) (by (show _ = _); kernel_rfl) (hK.out _ _ rfl (After.lit rfl rfl rfl ?_))
    first | rfl | kernel_rfl
  · intro w2 hS hF hD K hK
    obtain ⟨e0, e1, -⟩ := hF
    replace e0 : f 0 = _ := e0
    replace e1 : f 1 = _ := e1
    try simp only [e0, e1]
    rw [if_pos (by rfl)]
    go_simp
    refine (find_nat L _ hS.1 a ra ha HRA.out).mono ?_; rintro e w3 ⟨rfl, hs3, ht3⟩; go_simp
    refine hK.out _ _ rfl (After.litS rfl rfl rfl (ht3.size) (⟨hs3, hS.2.trans ht3 (fun _ _ e => e)⟩) (StaysW.isV (StaysW.isV (StaysW.isV (StaysW.isV (StaysW.isV (StaysW.isV StaysW.nil)))))) ?_)
    first | rfl | kernel_rfl
  · intro w2 hS hF hD K hK
    rw [if_pos (by rfl)]
    exact wp_of_quiet (exec_load_at _ _ rfl _ _ rfl _ _ _ (hS.2.heap HH.out.cap.h2 hne2) ((.pointer (some ⟨L.gs, 0, none⟩))) (by kernel_rfl) (fun _ => by kernel_rfl)) (hK.out _ _ rfl (After.lit rfl rfl rfl (by first | rfl | kernel_rfl)))
  · intro w2 hS hF hD K hK
    rw [if_pos (by rfl)]
    refine wp_of_quiet (v := (.int .i64 b)) (by (show _ = _); kernel_rfl) (hK.out _ _ rfl (After.lit rfl rfl rfl ?_))
    first | rfl | kernel_rfl
  · intro w2 hS hF hD K hK
    obtain ⟨e3, e4, e2, -⟩ := hF
    replace e3 : f 3 = _ := e3
    replace e4 : f 4 = _ := e4
    replace e2 : f 2 = _ := e2
    try simp only [e3, e4, e2]
    rw [if_pos (by rfl)]
    go_simp
    refine (find_nat L _ hS.1 b rb hb HRB.out).mono ?_; rintro e w3 ⟨rfl, hs3, ht3⟩; go_simp
    refine hK.out _ _ rfl (After.litS rfl rfl rfl (ht3.size) (⟨hs3, hS.2.trans ht3 (fun _ _ e => e)⟩) (StaysW.isV (StaysW.isV (StaysW.isV (StaysW.isV (StaysW.isV (StaysW.isV StaysW.nil)))))) ?_)
    first | rfl | kernel_rfl
  intro w2 hS hF
  obtain ⟨e2, e5, -⟩ := hF
  replace e2 : f 2 = _ := e2
  replace e5 : f 5 = _ := e5
  try simp only [e2, e5]
  simp only [List.drop_succ_cons, List.drop_zero]
  have hs2 := Lib.hid hS.1
  have ht2 := Lib.hid hS.2
  clear hS
  by_cases hE : ra = rb
  · have e1 : ((ra : Int) == (rb : Int)) = true := by simp [hE]
    have HE := Lib.hid hE
    clear hE
    go_wp2
    go_end0
    refine ⟨rfl, ht2.out.mono (fun x _ e => .inl (.inr (.inl e))), .inl ⟨by rw [HRA.out, HRB.out, HE.out], hs2.out, TodoW.own HH.out.sol HH.out.todo ht2.out (fun k e => .inr (.inl e))⟩⟩
  · have e1 : ((ra : Int) == (rb : Int)) = false := by simp; omega
    obtain ⟨lo, hlo⟩ : ∃ lo : Nat, lo = min ra rb := ⟨_, rfl⟩
    obtain ⟨hi, hhi⟩ : ∃ hi : Nat, hi = max ra rb := ⟨_, rfl⟩
    have hlt : lo < hi := by omega
    have hhn : hi < L.n := by omega
    have hln : lo < L.n := by omega
    have hlh : (rt a = (lo : Int) ∧ rt b = (hi : Int)) ∨ (rt a = (hi : Int) ∧ rt b = (lo : Int)) := by
      rw [HRA.out, HRB.out]; omega
    have hroot : ∀ v, rt (rt v) = rt v := HH.out.inv.roots.idem
    have hl1 : rt (lo : Int) = lo := by
      rcases hlh with ⟨h1, h2⟩ | ⟨h1, h2⟩
      · rw [← h1]; exact hroot _
      · rw [← h2]; exact hroot _
    have hl2 : rt (hi : Int) = hi := by
      rcases hlh with ⟨h1, h2⟩ | ⟨h1, h2⟩
      · rw [← h2]; exact hroot _
      · rw [← h1]; exact hroot _
    have HL1 := Lib.hid hl1
    have HL2 := Lib.hid hl2
    clear hl1 hl2
    have HLH := Lib.hid hlh
    clear hroot
    clear hlh
    have HLO := Lib.hid hlo
    have HHI := Lib.hid hhi
    clear hlo hhi
    go_upto_region 2 with (fail)
    go_cut [0, 1] (fun s0 s1 wx => s0 = .int .i64 (lo : Int) ∧ s1 = .int .i64 (hi : Int) ∧ w2 = wx)
    case first =>
      have hlo := HLO.out
      have hhi := HHI.out
      rcases (show ra < rb ∨ rb < ra by omega) with hc | hc
      all_goals
        have HLO' := Lib.hid hlo
        have HHI' := Lib.hid hhi
        clear hlo hhi
        go_wp2
        go_meet
        case rel =>
          have hlo := HLO'.out
          have hhi := HHI'.out
          exact ⟨by congr 1; omega, by congr 1; omega, rfl⟩
    case rest =>
      obtain ⟨rfl, rfl, rfl⟩ := hcut
      have hne2' : ¬ g2 = L.gs := fun e => HO.out.1 (.inl (.inl e))
      have c2 : w2.cell? ⟨g2, 0, none⟩ = some (.pointer (some ⟨L.gs, 0, none⟩)) := cell_of_one (ht2.out.heap HH.out.cap.h2 hne2)
      have s1 := hs2.out.s1
      have s0 := hs2.out.s0
      obtain ⟨cu, up, hcu, hf, hcu'⟩ := hs2.out.u
      have fu : w2.frozen? ⟨L.gu, hi, none⟩ = false := frozen_of_row _ _ _ _ _ hcu
      have cu1 : w2.cell? ⟨L.gu, hi, none⟩ = some (.int .i64 (up hi)) := by rw [cell_of_row w2 _ _ _ _ _ hcu]; exact hcu' hi hhn
      have HCU := Lib.hid hcu
      have HCU' := Lib.hid hcu'
      have HF := Lib.hid hf
      clear hcu hcu' hf
      go_upto_region 3 with (fail)
      go_quiet (fail)
      go_upto_region 4 with (fail)
      go_cut [] (fun wx => Hid (SolW L (joinRt rt lo hi) of clash wx) ∧ Hid (Turn (fun k => k = L.gu) w wx))
      case first =>
        go_wp2
        go_meet
        case rel => exact ⟨Lib.hid ((hs2.out.drewN _).setU HCU.out HCU'.out hhn (HF.out.join HL1.out HL2.out hlt)), Lib.hid ((ht2.out.drewN _).setCell _ (fun _ => rfl))⟩
      case rest =>
        obtain ⟨HS4, HT4⟩ := hcut
        clear c2 s1 s0 fu
        obtain ⟨co, hgo, hco⟩ := HS4.out.o
        have o0 := hco lo hln 0 (by omega)
        have o1 := hco lo hln 1 (by omega)
        have o2 := hco lo hln 2 (by omega)
        have o3 := hco lo hln 3 (by omega)
        have o4 := hco lo hln 4 (by omega)
        have o5 := hco lo hln 5 (by omega)
        have i0 := hco hi hhn 0 (by omega)
        have i1 := hco hi hhn 1 (by omega)
        have i2 := hco hi hhn 2 (by omega)
        have i3 := hco hi hhn 3 (by omega)
        have i4 := hco hi hhn 4 (by omega)
        have i5 := hco hi hhn 5 (by omega)
        have OO := Lib.hid (And.intro o0 (And.intro o1 (And.intro o2 (And.intro o3 (And.intro o4 o5)))))
        have II := Lib.hid (And.intro i0 (And.intro i1 (And.intro i2 (And.intro i3 (And.intro i4 i5)))))
        have HGO := Lib.hid hgo
        clear o0 o1 o2 o3 o4 o5 i0 i1 i2 i3 i4 i5 hgo hco
        have HG2 := Lib.hid (HT4.out.heap HH.out.cap.h2 hne2)
        have hogs : ¬ L.go = L.gs := L.so.symm
        go_upto_region 5 with (fail)
        go_cut [] (fun wx => Hid (SolW L (joinRt rt lo hi) (setCls of lo { of lo with size := agreeV (of lo).size (of hi).size, sign := agreeV (of lo).sign (of hi).sign }) (agreeC (agreeC clash (of lo).size (of hi).size) (of lo).sign (of hi).sign) wx) ∧ Hid (Turn L.own w wx))
        case first =>
          refine wp_region_relyU 1 _ (.pointer (some ⟨L.go, lo * 6, none⟩)) [] 22 (factOf [isV ((.pointer (some ⟨L.go, lo * 6, none⟩))), isV ((.pointer (some ⟨L.go, lo * 6, none⟩))), isV ((.pointer (some ⟨L.gs, 0, none⟩))), isV ((.pointer (some ⟨L.go, lo * 6, none⟩))), isV ((.pointer (some ⟨L.go, lo * 6, none⟩))), isV ((.pointer (some ⟨L.go, lo * 6, none⟩))), isV ((.int .i64 (of lo).size)), isV ((.pointer (some ⟨L.go, hi * 6, none⟩))), isV ((.pointer (some ⟨L.go, hi * 6, none⟩))), isV ((.pointer (some ⟨L.go, hi * 6, none⟩))), isV ((.int .i64 (of hi).size)), isVK ((.int .i64 (agreeV (of lo).size (of hi).size))) (FlagW L (diffB (of lo).size (of hi).size)), isV ((.pointer (some ⟨L.gs, 0, none⟩))), isV ((.pointer (some ⟨L.go, lo * 6, none⟩))), isV ((.pointer (some ⟨L.go, lo * 6, none⟩))), isV ((.pointer (some ⟨L.go, lo * 6 + 1, none⟩))), isV ((.int .i64 (of lo).sign)), isV ((.pointer (some ⟨L.go, hi * 6, none⟩))), isV ((.pointer (some ⟨L.go, hi * 6, none⟩))), isV ((.pointer (some ⟨L.go, hi * 6 + 1, none⟩))), isV ((.int .i64 (of hi).sign)), isVK ((.int .i64 (agreeV (of lo).sign (of hi).sign))) (FlagW L (diffB (of lo).sign (of hi).sign))]) (nth [[0], [1], [2], [3], [4], [5], [6], [7], [8], [9], [10], [11], [12], [13], [14], [15], [16], [17], [18], [19], [20], [21]]) (nth [[], [], [], [], [], [], [], [], [], [], [], [], [], [], [], [], [], [], [], [], [], []]) (nth [[], [], [], [], [3], [4], [5], [], [7], [8], [9], [2, 6, 10], [], [], [13], [14], [15], [], [17], [18], [19], [12, 16, 20, 11]]) [0, 1, 11, 21] (fun w5 => Turn (fun k => k = L.gs) wc w5 ∧ ∃ c, SolW L (joinRt rt lo hi) of c w5 ∧ (clash = true → c = true) ∧ (c = true → clash = true ∨ diffB (of lo).size (of hi).size = true ∨ diffB (of lo).sign (of hi).sign = true)) (by kernel_rfl) (by kernel_rfl) rfl (by kernel_rfl) (by kernel_rfl) (by kernel_rfl) (fun _ _ _ h => h) ⟨by rfl, fun w => by rfl⟩ (by rfl) (⟨(Turn.refl _ _).drew, clash, HS4.out.drew, id, .inl⟩) (fun w w' h hb => by obtain ⟨h1, c, h2, h3⟩ := h; exact ⟨h1.trans (Turn.ofBelow (bs := fun _ => False) hb) (fun _ _ h => h.elim), c, h2.turn (Turn.ofBelow (bs := fun _ => False) hb) (fun _ h => h.elim), h3⟩) (GrowsAll.of ((GrowsAll.cons (Grows.isV _)  (GrowsAll.cons (Grows.isV _)  (GrowsAll.cons (Grows.isV _)  (GrowsAll.cons (Grows.isV _)  (GrowsAll.cons (Grows.isV _)  (GrowsAll.cons (Grows.isV _)  (GrowsAll.cons (Grows.isV _)  (GrowsAll.cons (Grows.isV _)  (GrowsAll.cons (Grows.isV _)  (GrowsAll.cons (Grows.isV _)  (GrowsAll.cons (Grows.isV _)  (GrowsAll.cons (Grows.isVK _ (flag_grow L _))  (GrowsAll.cons (Grows.isV _)  (GrowsAll.cons (Grows.isV _)  (GrowsAll.cons (Grows.isV _)  (GrowsAll.cons (Grows.isV _)  (GrowsAll.cons (Grows.isV _)  (GrowsAll.cons (Grows.isV _)  (GrowsAll.cons (Grows.isV _)  (GrowsAll.cons (Grows.isV _)  (GrowsAll.cons (Grows.isV _)  (GrowsAll.cons (Grows.isVK _ (flag_grow L _)) GrowsAll.nil)))))))))))))))))))))))) (fun f F hF => ?_)
          simp only [List.take_succ_cons, List.take_zero, fullGo, Act.put, List.setIfInBounds_toArray, List.set_cons_zero, List.set_cons_succ, Nat.reduceAdd] at hF
          subst hF
          refine ⟨StepObsF.cons ?_ (StepObsF.skip (by rfl) (StepObsF.cons ?_ (StepObsF.cons ?_ (StepObsF.cons ?_ (StepObsF.cons ?_ (StepObsF.cons ?_ (StepObsF.cons ?_ (StepObsF.cons ?_ (StepObsF.cons ?_ (StepObsF.cons ?_ (StepObsF.cons ?_ (StepObsF.cons ?_ (StepObsF.cons ?_ (StepObsF.cons ?_ (StepObsF.cons ?_ (StepObsF.cons ?_ (StepObsF.cons ?_ (StepObsF.cons ?_ (StepObsF.cons ?_ (StepObsF.cons ?_ (StepObsF.cons ?_ (StepObsF.nil)))))))))))))))))))))), ?_⟩
          · intro w5 hS hF hD K hK
            rw [if_pos (by rfl)]
            refine wp_of_quiet (v := (.pointer (some ⟨L.go, lo * 6, none⟩))) (by (show _ = _); kernel_rfl) (hK.out _ _ rfl (After.lit rfl rfl rfl ?_))
            first | rfl | kernel_rfl
          · intro w5 hS hF hD K hK
            rw [if_pos (by rfl)]
            exact wp_of_quiet (exec_load_at _ _ rfl _ _ rfl _ _ _ (hS.1.heap HG2.out hne2') ((.pointer (some ⟨L.gs, 0, none⟩))) (by kernel_rfl) (fun _ => by kernel_rfl)) (hK.out _ _ rfl (After.lit rfl rfl rfl (by first | rfl | kernel_rfl)))
          · intro w5 hS hF hD K hK
            rw [if_pos (by rfl)]
            refine wp_of_quiet (v := (.pointer (some ⟨L.go, lo * 6, none⟩))) (by (show _ = _); kernel_rfl) (hK.out _ _ rfl (After.lit rfl rfl rfl ?_))
            first | rfl | kernel_rfl
          · intro w5 hS hF hD K hK
            obtain ⟨e3, -⟩ := hF
            replace e3 : f 3 = _ := e3
            try simp only [e3]
            rw [if_pos (by rfl)]
            refine wp_of_quiet (v := (.pointer (some ⟨L.go, lo * 6, none⟩))) (by (show _ = _); kernel_rfl) (hK.out _ _ rfl (After.lit rfl rfl rfl ?_))
            first | rfl | kernel_rfl
          · intro w5 hS hF hD K hK
            obtain ⟨e4, -⟩ := hF
            replace e4 : f 4 = _ := e4
            try simp only [e4]
            rw [if_pos (by rfl)]
            refine wp_of_quiet (v := (.pointer (some ⟨L.go, lo * 6, none⟩))) (by (show _ = _); kernel_rfl) (hK.out _ _ rfl (After.lit rfl rfl rfl ?_))
            first | rfl | kernel_rfl
          · intro w5 hS hF hD K hK
            obtain ⟨e5, -⟩ := hF
            replace e5 : f 5 = _ := e5
            try simp only [e5]
            rw [if_pos (by rfl)]
            exact wp_of_quiet (exec_load_at _ _ rfl _ _ rfl _ _ _ (hS.1.heap HGO.out hogs) ((.int .i64 (of lo).size)) (OO.out.1) (fun _ => by kernel_rfl)) (hK.out _ _ rfl (After.lit rfl rfl rfl (by first | rfl | kernel_rfl)))
          · intro w5 hS hF hD K hK
            rw [if_pos (by rfl)]
            refine wp_of_quiet (v := (.pointer (some ⟨L.go, hi * 6, none⟩))) (by (show _ = _); kernel_rfl) (hK.out _ _ rfl (After.lit rfl rfl rfl ?_))
            first | rfl | kernel_rfl
          · intro w5 hS hF hD K hK
            obtain ⟨e7, -⟩ := hF
            replace e7 : f 7 = _ := e7
            try simp only [e7]
            rw [if_pos (by rfl)]
            refine wp_of_quiet (v := (.pointer (some ⟨L.go, hi * 6, none⟩))) (by (show _ = _); kernel_rfl) (hK.out _ _ rfl (After.lit rfl rfl rfl ?_))
            first | rfl | kernel_rfl
          · intro w5 hS hF hD K hK
            obtain ⟨e8, -⟩ := hF
            replace e8 : f 8 = _ := e8
            try simp only [e8]
            rw [if_pos (by rfl)]
            refine wp_of_quiet (v := (.pointer (some ⟨L.go, hi * 6, none⟩))) (by (show _ = _); kernel_rfl) (hK.out _ _ rfl (After.lit rfl rfl rfl ?_))
            first | rfl | kernel_rfl
          · intro w5 hS hF hD K hK
            obtain ⟨e9, -⟩ := hF
            replace e9 : f 9 = _ := e9
            try simp only [e9]
            rw [if_pos (by rfl)]
            exact wp_of_quiet (exec_load_at _ _ rfl _ _ rfl _ _ _ (hS.1.heap HGO.out hogs) ((.int .i64 (of hi).size)) (II.out.1) (fun _ => by kernel_rfl)) (hK.out _ _ rfl (After.lit rfl rfl rfl (by first | rfl | kernel_rfl)))
          · intro w5 hS hF hD K hK
            obtain ⟨e2, e6, e10, -⟩ := hF
            replace e2 : f 2 = _ := e2
            replace e6 : f 6 = _ := e6
            replace e10 : f 10 = _ := e10
            try simp only [e2, e6, e10]
            rw [if_pos (by rfl)]
            go_simp
            obtain ⟨hT, c, hs5, hc1, hc2⟩ := hS; refine (agree_any L _ hs5 (of lo).size (of hi).size).mono ?_; rintro e w3 ⟨rfl, hs3, ht3⟩; go_simp
            refine hK.out _ _ rfl (After.litK rfl rfl rfl (ht3.size) (⟨hT.trans ht3 (fun _ _ e => e), _, hs3, or_up hc1 hc2 (.inl rfl)⟩) (StaysW.isV (StaysW.isV (StaysW.isV (StaysW.isV (StaysW.isV (StaysW.isV (StaysW.isV (StaysW.isV (StaysW.isV (StaysW.isV (StaysW.isV (StaysW.isVK (fun h => flag_keep hs5 hs3 h) (StaysW.isV (StaysW.isV (StaysW.isV (StaysW.isV (StaysW.isV (StaysW.isV (StaysW.isV (StaysW.isV (StaysW.isV (StaysW.isVK (fun h => flag_keep hs5 hs3 h) StaysW.nil)))))))))))))))))))))) (flag_set hs3) ?_)
            first | rfl | kernel_rfl
          · intro w5 hS hF hD K hK
            rw [if_pos (by rfl)]
            exact wp_of_quiet (exec_load_at _ _ rfl _ _ rfl _ _ _ (hS.1.heap HG2.out hne2') ((.pointer (some ⟨L.gs, 0, none⟩))) (by kernel_rfl) (fun _ => by kernel_rfl)) (hK.out _ _ rfl (After.lit rfl rfl rfl (by first | rfl | kernel_rfl)))
          · intro w5 hS hF hD K hK
            rw [if_pos (by rfl)]
            refine wp_of_quiet (v := (.pointer (some ⟨L.go, lo * 6, none⟩))) (by (show _ = _); kernel_rfl) (hK.out _ _ rfl (After.lit rfl rfl rfl ?_))
            first | rfl | kernel_rfl
          · intro w5 hS hF hD K hK
            obtain ⟨e13, -⟩ := hF
            replace e13 : f 13 = _ := e13
            try simp only [e13]
            rw [if_pos (by rfl)]
            refine wp_of_quiet (v := (.pointer (some ⟨L.go, lo * 6, none⟩))) (by (show _ = _); kernel_rfl) (hK.out _ _ rfl (After.lit rfl rfl rfl ?_))
            first | rfl | kernel_rfl
          · intro w5 hS hF hD K hK
            obtain ⟨e14, -⟩ := hF
            replace e14 : f 14 = _ := e14
            try simp only [e14]
            rw [if_pos (by rfl)]
            refine wp_of_quiet (v := (.pointer (some ⟨L.go, lo * 6 + 1, none⟩))) (by (show _ = _); kernel_rfl) (hK.out _ _ rfl (After.lit rfl rfl rfl ?_))
            first | rfl | kernel_rfl
          · intro w5 hS hF hD K hK
            obtain ⟨e15, -⟩ := hF
            replace e15 : f 15 = _ := e15
            try simp only [e15]
            rw [if_pos (by rfl)]
            exact wp_of_quiet (exec_load_at _ _ rfl _ _ rfl _ _ _ (hS.1.heap HGO.out hogs) ((.int .i64 (of lo).sign)) (OO.out.2.1) (fun _ => by kernel_rfl)) (hK.out _ _ rfl (After.lit rfl rfl rfl (by first | rfl | kernel_rfl)))
          · intro w5 hS hF hD K hK
            rw [if_pos (by rfl)]
            refine wp_of_quiet (v := (.pointer (some ⟨L.go, hi * 6, none⟩))) (by (show _ = _); kernel_rfl) (hK.out _ _ rfl (After.lit rfl rfl rfl ?_))
            first | rfl | kernel_rfl
          · intro w5 hS hF hD K hK
            obtain ⟨e17, -⟩ := hF
            replace e17 : f 17 = _ := e17
            try simp only [e17]
            rw [if_pos (by rfl)]
            refine wp_of_quiet (v := (.pointer (some ⟨L.go, hi * 6, none⟩))) (by (show _ = _); kernel_rfl) (hK.out _ _ rfl (After.lit rfl rfl rfl ?_))
            first | rfl | kernel_rfl
          · intro w5 hS hF hD K hK
            obtain ⟨e18, -⟩ := hF
            replace e18 : f 18 = _ := e18
            try simp only [e18]
            rw [if_pos (by rfl)]
            refine wp_of_quiet (v := (.pointer (some ⟨L.go, hi * 6 + 1, none⟩))) (by (show _ = _); kernel_rfl) (hK.out _ _ rfl (After.lit rfl rfl rfl ?_))
            first | rfl | kernel_rfl
          · intro w5 hS hF hD K hK
            obtain ⟨e19, -⟩ := hF
            replace e19 : f 19 = _ := e19
            try simp only [e19]
            rw [if_pos (by rfl)]
            exact wp_of_quiet (exec_load_at _ _ rfl _ _ rfl _ _ _ (hS.1.heap HGO.out hogs) ((.int .i64 (of hi).sign)) (II.out.2.1) (fun _ => by kernel_rfl)) (hK.out _ _ rfl (After.lit rfl rfl rfl (by first | rfl | kernel_rfl)))
          · intro w5 hS hF hD K hK
            obtain ⟨e12, e16, e20, e11, -⟩ := hF
            replace e12 : f 12 = _ := e12
            replace e16 : f 16 = _ := e16
            replace e20 : f 20 = _ := e20
            obtain ⟨e11, p11⟩ := e11
            replace e11 : f 11 = _ := e11
            try simp only [e12, e16, e20, e11]
            rw [if_pos (by rfl)]
            go_simp
            obtain ⟨hT, c, hs5, hc1, hc2⟩ := hS; refine (agree_any L _ hs5 (of lo).sign (of hi).sign).mono ?_; rintro e w3 ⟨rfl, hs3, ht3⟩; go_simp
            refine hK.out _ _ rfl (After.litK rfl rfl rfl (ht3.size) (⟨hT.trans ht3 (fun _ _ e => e), _, hs3, or_up hc1 hc2 (.inr rfl)⟩) (StaysW.isV (StaysW.isV (StaysW.isV (StaysW.isV (StaysW.isV (StaysW.isV (StaysW.isV (StaysW.isV (StaysW.isV (StaysW.isV (StaysW.isV (StaysW.isVK (fun h => flag_keep hs5 hs3 h) (StaysW.isV (StaysW.isV (StaysW.isV (StaysW.isV (StaysW.isV (StaysW.isV (StaysW.isV (StaysW.isV (StaysW.isV (StaysW.isVK (fun h => flag_keep hs5 hs3 h) StaysW.nil)))))))))))))))))))))) (flag_set hs3) ?_)
            first | rfl | kernel_rfl
          intro w5 hS hF
          obtain ⟨e0, e1, e11, e21, -⟩ := hF
          replace e0 : f 0 = _ := e0
          replace e1 : f 1 = _ := e1
          obtain ⟨e11, p11⟩ := e11
          replace e11 : f 11 = _ := e11
          obtain ⟨e21, p21⟩ := e21
          replace e21 : f 21 = _ := e21
          try simp only [e0, e1, e11, e21]
          simp only [List.drop_succ_cons, List.drop_zero]
          obtain ⟨hT, c, hs5, hc1, hc2⟩ := hS
          have hc := or_all hc1 hc2 (flag_is hs5 p11) (flag_is hs5 p21)
          have HC := Lib.hid hc
          have HS5 := Lib.hid hs5
          have HT5 := Lib.hid hT
          have x0 := (hs5.cls hln).1
          have x1 := (hs5.cls hln).2.1
          have f0' := hs5.ofree (lo * 6)
          have f1' := hs5.ofree (lo * 6 + 1)
          clear hc hc1 hc2 hs5 hT e0 e1 e11 e21 p11 p21
          go_wp2
          go_meet
          case rel =>
            refine ⟨Lib.hid ?_, Lib.hid ?_⟩
            · have hs := (HS5.out.set0 hln (agreeV (of lo).size (of hi).size)).set1 hln (agreeV (of lo).sign (of hi).sign)
              rw [setCls_at, setCls_twice, HC.out] at hs
              exact hs
            · exact (((HT4.out.mono (cs := L.own) (fun _ _ e => .inr (.inl e))).trans HT5.out (fun _ _ e => .inl e)).setCell _ (fun _ => .inr (.inr (.inl rfl)))).setCell _ (fun _ => .inr (.inr (.inl rfl)))
        case rest =>
          obtain ⟨HS5, HT5⟩ := hcut
          clear HS4 HT4 OO II HGO HG2
          have HTD := Lib.hid (TodoW.own HH.out.sol HH.out.todo HT5.out (fun k e => e))
          have HCP := Lib.hid (HH.out.cap.keep HH.out.sol HH.out.todo (HT5.out.mono (fun x _ e => .inl e)))
          obtain ⟨co, hgo, hco⟩ := HS5.out.o
          have o2 := hco lo hln 2 (by omega)
          have o3 := hco lo hln 3 (by omega)
          have i2 := hco hi hhn 2 (by omega)
          have i3 := hco hi hhn 3 (by omega)
          rw [setCls_at] at o2 o3
          rw [setCls_ne _ _ (by omega)] at i2 i3
          have OO := Lib.hid (And.intro o2 o3)
          have II := Lib.hid (And.intro i2 i3)
          have HGO := Lib.hid hgo
          have hoff5 := HCP.out.off HS5.out HTD.out
          have HN3 := Lib.hid (show ¬ todoB B gt wc g3 from fun e => hoff5.2.1 (.inr e))
          have HNO := Lib.hid (show ¬ todoB B gt wc L.go from fun e => own_todo HS5.out HTD.out (.inr (.inr (.inl rfl))) e)
          have hBc : B ≤ wc.heap.size := Nat.le_trans HH.out.base HT5.out.size
          have hqf := HH.out.few
          have hqs : qs.length ≤ 200000000 := by omega
          have hp1 : (pairOf (of lo).ptr (of hi).ptr).length ≤ 1 := by unfold pairOf; split <;> simp
          clear o2 o3 i2 i3 hgo hco hoff5 hqf
          go_upto_region 6 with (fail)
          go_cut [] (fun wx => Hid (SolW L (joinRt rt lo hi) (setCls of lo { of lo with size := agreeV (of lo).size (of hi).size, sign := agreeV (of lo).sign (of hi).sign, ptr := max (of lo).ptr (of hi).ptr, elem := max (of lo).elem (of hi).elem }) (agreeC (agreeC clash (of lo).size (of hi).size) (of lo).sign (of hi).sign) wx) ∧ Hid (Turn (joinB L B gt w) w wx) ∧ Hid (TodoW B gt (qs ++ pairOf (of lo).ptr (of hi).ptr ++ pairOf (of lo).elem (of hi).elem) wx))
          case first =>
            refine wp_region_relyU 1 _ (.pointer (some ⟨L.go, lo * 6, none⟩)) [] 22 (factOf [isV ((.pointer (some ⟨L.go, lo * 6, none⟩))), isVs [(.pointer (some ⟨L.go, lo * 6, none⟩))] (TodoW B gt qs), isV ((.func (.func 67) #[] #[.pointer (some ⟨gt, 0, none⟩)])), isV ((.pointer (some ⟨L.go, lo * 6, none⟩))), isV ((.pointer (some ⟨L.go, lo * 6, none⟩))), isV ((.pointer (some ⟨L.go, lo * 6 + 2, none⟩))), isV ((.int .i64 (of lo).ptr)), isV ((.pointer (some ⟨L.go, hi * 6, none⟩))), isV ((.pointer (some ⟨L.go, hi * 6, none⟩))), isV ((.pointer (some ⟨L.go, hi * 6 + 2, none⟩))), isV ((.int .i64 (of hi).ptr)), isVs [(.pointer (some ⟨L.go, lo * 6, none⟩)), (.int .i64 (max (of lo).ptr (of hi).ptr))] (TodoW B gt (qs ++ pairOf (of lo).ptr (of hi).ptr)), isV ((.func (.func 67) #[] #[.pointer (some ⟨gt, 0, none⟩)])), isV ((.pointer (some ⟨L.go, lo * 6, none⟩))), isV ((.pointer (some ⟨L.go, lo * 6, none⟩))), isV ((.pointer (some ⟨L.go, lo * 6 + 3, none⟩))), isV ((.int .i64 (of lo).elem)), isV ((.pointer (some ⟨L.go, hi * 6, none⟩))), isV ((.pointer (some ⟨L.go, hi * 6, none⟩))), isV ((.pointer (some ⟨L.go, hi * 6 + 3, none⟩))), isV ((.int .i64 (of hi).elem)), isVs [(.pointer (some ⟨L.go, lo * 6, none⟩)), (.int .i64 (max (of lo).ptr (of hi).ptr)), (.int .i64 (max (of lo).elem (of hi).elem))] (TodoW B gt (qs ++ pairOf (of lo).ptr (of hi).ptr ++ pairOf (of lo).elem (of hi).elem))]) (nth [[0], [1], [2], [3], [4], [5], [6], [7], [8], [9], [10], [1, 11], [12], [13], [14], [15], [16], [17], [18], [19], [20], [1, 11, 21]]) (nth [[], [], [], [], [], [], [], [], [], [], [], [1, 21], [], [], [], [], [], [], [], [], [], [1, 11]]) (nth [[], [], [], [], [3], [4], [5], [], [7], [8], [9], [1, 2, 6, 10], [], [], [13], [14], [15], [], [17], [18], [19], [12, 16, 20, 11]]) [0, 21] (fun w5 => Turn (todoB B gt wc) wc w5) (by kernel_rfl) (by kernel_rfl) rfl (by kernel_rfl) (by kernel_rfl) (by kernel_rfl) (fun _ _ _ h => h) ⟨by rfl, fun w => by rfl⟩ (⟨by rfl, TodoW.own HS5.out HTD.out ((Turn.refl (fun _ => False) _).drew) (fun _ h => h.elim)⟩) ((Turn.refl _ _).drew) (fun w w' h hb => h.trans (Turn.ofBelow (bs := fun _ => False) hb) (fun _ _ h => h.elim)) (GrowsAll.of ((GrowsAll.cons (Grows.isV _)  (GrowsAll.cons (Grows.isVs _ (TodoW.grow))  (GrowsAll.cons (Grows.isV _)  (GrowsAll.cons (Grows.isV _)  (GrowsAll.cons (Grows.isV _)  (GrowsAll.cons (Grows.isV _)  (GrowsAll.cons (Grows.isV _)  (GrowsAll.cons (Grows.isV _)  (GrowsAll.cons (Grows.isV _)  (GrowsAll.cons (Grows.isV _)  (GrowsAll.cons (Grows.isV _)  (GrowsAll.cons (Grows.isVs _ (TodoW.grow))  (GrowsAll.cons (Grows.isV _)  (GrowsAll.cons (Grows.isV _)  (GrowsAll.cons (Grows.isV _)  (GrowsAll.cons (Grows.isV _)  (GrowsAll.cons (Grows.isV _)  (GrowsAll.cons (Grows.isV _)  (GrowsAll.cons (Grows.isV _)  (GrowsAll.cons (Grows.isV _)  (GrowsAll.cons (Grows.isV _)  (GrowsAll.cons (Grows.isVs _ (TodoW.grow)) GrowsAll.nil)))))))))))))))))))))))) (fun f F hF => ?_)
            simp only [List.take_succ_cons, List.take_zero, fullGo, Act.put, List.setIfInBounds_toArray, List.set_cons_zero, List.set_cons_succ, Nat.reduceAdd] at hF
            subst hF
            refine ⟨StepObsF.cons ?_ (StepObsF.skip (by rfl) (StepObsF.cons ?_ (StepObsF.cons ?_ (StepObsF.cons ?_ (StepObsF.cons ?_ (StepObsF.cons ?_ (StepObsF.cons ?_ (StepObsF.cons ?_ (StepObsF.cons ?_ (StepObsF.cons ?_ (StepObsF.cons ?_ (StepObsF.cons ?_ (StepObsF.cons ?_ (StepObsF.cons ?_ (StepObsF.cons ?_ (StepObsF.cons ?_ (StepObsF.cons ?_ (StepObsF.cons ?_ (StepObsF.cons ?_ (StepObsF.cons ?_ (StepObsF.cons ?_ (StepObsF.nil)))))))))))))))))))))), ?_⟩
            · intro w5 hS hF hD K hK
              rw [if_pos (by rfl)]
              refine wp_of_quiet (v := (.pointer (some ⟨L.go, lo * 6, none⟩))) (by (show _ = _); kernel_rfl) (hK.out _ _ rfl (After.lit rfl rfl rfl ?_))
              first | rfl | kernel_rfl
            · intro w5 hS hF hD K hK
              rw [if_pos (by rfl)]
              exact wp_of_quiet (exec_load_at _ _ rfl _ _ rfl _ _ _ (hS.heap HCP.out.h3 HN3.out) ((.func (.func 67) #[] #[.pointer (some ⟨gt, 0, none⟩)])) (by kernel_rfl) (fun _ => by kernel_rfl)) (hK.out _ _ rfl (After.lit rfl rfl rfl (by first | rfl | kernel_rfl)))
            · intro w5 hS hF hD K hK
              rw [if_pos (by rfl)]
              refine wp_of_quiet (v := (.pointer (some ⟨L.go, lo * 6, none⟩))) (by (show _ = _); kernel_rfl) (hK.out _ _ rfl (After.lit rfl rfl rfl ?_))
              first | rfl | kernel_rfl
            · intro w5 hS hF hD K hK
              obtain ⟨e3, -⟩ := hF
              replace e3 : f 3 = _ := e3
              try simp only [e3]
              rw [if_pos (by rfl)]
              refine wp_of_quiet (v := (.pointer (some ⟨L.go, lo * 6, none⟩))) (by (show _ = _); kernel_rfl) (hK.out _ _ rfl (After.lit rfl rfl rfl ?_))
              first | rfl | kernel_rfl
            · intro w5 hS hF hD K hK
              obtain ⟨e4, -⟩ := hF
              replace e4 : f 4 = _ := e4
              try simp only [e4]
              rw [if_pos (by rfl)]
              refine wp_of_quiet (v := (.pointer (some ⟨L.go, lo * 6 + 2, none⟩))) (by (show _ = _); kernel_rfl) (hK.out _ _ rfl (After.lit rfl rfl rfl ?_))
              first | rfl | kernel_rfl
            · intro w5 hS hF hD K hK
              obtain ⟨e5, -⟩ := hF
              replace e5 : f 5 = _ := e5
              try simp only [e5]
              rw [if_pos (by rfl)]
              exact wp_of_quiet (exec_load_at _ _ rfl _ _ rfl _ _ _ (hS.heap HGO.out HNO.out) ((.int .i64 (of lo).ptr)) (OO.out.1) (fun _ => by kernel_rfl)) (hK.out _ _ rfl (After.lit rfl rfl rfl (by first | rfl | kernel_rfl)))
            · intro w5 hS hF hD K hK
              rw [if_pos (by rfl)]
              refine wp_of_quiet (v := (.pointer (some ⟨L.go, hi * 6, none⟩))) (by (show _ = _); kernel_rfl) (hK.out _ _ rfl (After.lit rfl rfl rfl ?_))
              first | rfl | kernel_rfl
            · intro w5 hS hF hD K hK
              obtain ⟨e7, -⟩ := hF
              replace e7 : f 7 = _ := e7
              try simp only [e7]
              rw [if_pos (by rfl)]
              refine wp_of_quiet (v := (.pointer (some ⟨L.go, hi * 6, none⟩))) (by (show _ = _); kernel_rfl) (hK.out _ _ rfl (After.lit rfl rfl rfl ?_))
              first | rfl | kernel_rfl
            · intro w5 hS hF hD K hK
              obtain ⟨e8, -⟩ := hF
              replace e8 : f 8 = _ := e8
              try simp only [e8]
              rw [if_pos (by rfl)]
              refine wp_of_quiet (v := (.pointer (some ⟨L.go, hi * 6 + 2, none⟩))) (by (show _ = _); kernel_rfl) (hK.out _ _ rfl (After.lit rfl rfl rfl ?_))
              first | rfl | kernel_rfl
            · intro w5 hS hF hD K hK
              obtain ⟨e9, -⟩ := hF
              replace e9 : f 9 = _ := e9
              try simp only [e9]
              rw [if_pos (by rfl)]
              exact wp_of_quiet (exec_load_at _ _ rfl _ _ rfl _ _ _ (hS.heap HGO.out HNO.out) ((.int .i64 (of hi).ptr)) (II.out.1) (fun _ => by kernel_rfl)) (hK.out _ _ rfl (After.lit rfl rfl rfl (by first | rfl | kernel_rfl)))
            · intro w5 hS hF hD K hK
              obtain ⟨e1, e2, e6, e10, -⟩ := hF
              obtain ⟨e1, p1⟩ := e1
              replace e1 : [f 1] = _ := e1
              simp only [List.cons.injEq, and_true] at e1
              have q1_1 := e1
              replace e2 : f 2 = _ := e2
              replace e6 : f 6 = _ := e6
              replace e10 : f 10 = _ := e10
              try simp only [q1_1, e2, e6, e10]
              rw [if_pos (by rfl)]
              go_simp
              refine (refer_any B gt qs _ p1 (Nat.le_trans hBc hS.size) (by omega) (of lo).ptr (of hi).ptr).mono ?_; rintro e w3 ⟨rfl, hq3, ht3⟩; go_simp
              refine hK.out _ _ rfl (After.gen rfl rfl rfl rfl (ht3.size) (todoB_trans hS ht3) (StaysE.isV (StaysE.out (by rfl) (StaysE.isV (StaysE.isV (StaysE.isV (StaysE.isV (StaysE.isV (StaysE.isV (StaysE.isV (StaysE.isV (StaysE.isV (StaysE.out (by rfl) (StaysE.isV (StaysE.isV (StaysE.isV (StaysE.isV (StaysE.isV (StaysE.isV (StaysE.isV (StaysE.isV (StaysE.isV (StaysE.out (by rfl) StaysE.nil)))))))))))))))))))))) (hq3) ?_)
              show [f 1, _] = _
              rw [q1_1]
              first | rfl | kernel_rfl
            · intro w5 hS hF hD K hK
              rw [if_pos (by rfl)]
              exact wp_of_quiet (exec_load_at _ _ rfl _ _ rfl _ _ _ (hS.heap HCP.out.h3 HN3.out) ((.func (.func 67) #[] #[.pointer (some ⟨gt, 0, none⟩)])) (by kernel_rfl) (fun _ => by kernel_rfl)) (hK.out _ _ rfl (After.lit rfl rfl rfl (by first | rfl | kernel_rfl)))
            · intro w5 hS hF hD K hK
              rw [if_pos (by rfl)]
              refine wp_of_quiet (v := (.pointer (some ⟨L.go, lo * 6, none⟩))) (by (show _ = _); kernel_rfl) (hK.out _ _ rfl (After.lit rfl rfl rfl ?_))
              first | rfl | kernel_rfl
            · intro w5 hS hF hD K hK
              obtain ⟨e13, -⟩ := hF
              replace e13 : f 13 = _ := e13
              try simp only [e13]
              rw [if_pos (by rfl)]
              refine wp_of_quiet (v := (.pointer (some ⟨L.go, lo * 6, none⟩))) (by (show _ = _); kernel_rfl) (hK.out _ _ rfl (After.lit rfl rfl rfl ?_))
              first | rfl | kernel_rfl
            · intro w5 hS hF hD K hK
              obtain ⟨e14, -⟩ := hF
              replace e14 : f 14 = _ := e14
              try simp only [e14]
              rw [if_pos (by rfl)]
              refine wp_of_quiet (v := (.pointer (some ⟨L.go, lo * 6 + 3, none⟩))) (by (show _ = _); kernel_rfl) (hK.out _ _ rfl (After.lit rfl rfl rfl ?_))
              first | rfl | kernel_rfl
            · intro w5 hS hF hD K hK
              obtain ⟨e15, -⟩ := hF
              replace e15 : f 15 = _ := e15
              try simp only [e15]
              rw [if_pos (by rfl)]
              exact wp_of_quiet (exec_load_at _ _ rfl _ _ rfl _ _ _ (hS.heap HGO.out HNO.out) ((.int .i64 (of lo).elem)) (OO.out.2) (fun _ => by kernel_rfl)) (hK.out _ _ rfl (After.lit rfl rfl rfl (by first | rfl | kernel_rfl)))
            · intro w5 hS hF hD K hK
              rw [if_pos (by rfl)]
              refine wp_of_quiet (v := (.pointer (some ⟨L.go, hi * 6, none⟩))) (by (show _ = _); kernel_rfl) (hK.out _ _ rfl (After.lit rfl rfl rfl ?_))
              first | rfl | kernel_rfl
            · intro w5 hS hF hD K hK
              obtain ⟨e17, -⟩ := hF
              replace e17 : f 17 = _ := e17
              try simp only [e17]
              rw [if_pos (by rfl)]
              refine wp_of_quiet (v := (.pointer (some ⟨L.go, hi * 6, none⟩))) (by (show _ = _); kernel_rfl) (hK.out _ _ rfl (After.lit rfl rfl rfl ?_))
              first | rfl | kernel_rfl
            · intro w5 hS hF hD K hK
              obtain ⟨e18, -⟩ := hF
              replace e18 : f 18 = _ := e18
              try simp only [e18]
              rw [if_pos (by rfl)]
              refine wp_of_quiet (v := (.pointer (some ⟨L.go, hi * 6 + 3, none⟩))) (by (show _ = _); kernel_rfl) (hK.out _ _ rfl (After.lit rfl rfl rfl ?_))
              first | rfl | kernel_rfl
            · intro w5 hS hF hD K hK
              obtain ⟨e19, -⟩ := hF
              replace e19 : f 19 = _ := e19
              try simp only [e19]
              rw [if_pos (by rfl)]
              exact wp_of_quiet (exec_load_at _ _ rfl _ _ rfl _ _ _ (hS.heap HGO.out HNO.out) ((.int .i64 (of hi).elem)) (II.out.2) (fun _ => by kernel_rfl)) (hK.out _ _ rfl (After.lit rfl rfl rfl (by first | rfl | kernel_rfl)))
            · intro w5 hS hF hD K hK
              obtain ⟨e12, e16, e20, e11, -⟩ := hF
              replace e12 : f 12 = _ := e12
              replace e16 : f 16 = _ := e16
              replace e20 : f 20 = _ := e20
              obtain ⟨e11, p11⟩ := e11
              replace e11 : [f 1, f 11] = _ := e11
              simp only [List.cons.injEq, and_true] at e11
              obtain ⟨q11_1, q11_11⟩ := e11
              try simp only [e12, e16, e20, q11_1, q11_11]
              rw [if_pos (by rfl)]
              go_simp
              refine (refer_any B gt (qs ++ pairOf (of lo).ptr (of hi).ptr) _ p11 (Nat.le_trans hBc hS.size) (by simp; omega) (of lo).elem (of hi).elem).mono ?_; rintro e w3 ⟨rfl, hq3, ht3⟩; go_simp
              refine hK.out _ _ rfl (After.gen rfl rfl rfl rfl (ht3.size) (todoB_trans hS ht3) (StaysE.isV (StaysE.out (by rfl) (StaysE.isV (StaysE.isV (StaysE.isV (StaysE.isV (StaysE.isV (StaysE.isV (StaysE.isV (StaysE.isV (StaysE.isV (StaysE.out (by rfl) (StaysE.isV (StaysE.isV (StaysE.isV (StaysE.isV (StaysE.isV (StaysE.isV (StaysE.isV (StaysE.isV (StaysE.isV (StaysE.out (by rfl) StaysE.nil)))))))))))))))))))))) (hq3) ?_)
              show [f 1, f 11, _] = _
              rw [q11_1, q11_11]
              first | rfl | kernel_rfl
            intro w5 hS hF
            obtain ⟨e0, e21, -⟩ := hF
            replace e0 : f 0 = _ := e0
            obtain ⟨e21, p21⟩ := e21
            replace e21 : [f 1, f 11, f 21] = _ := e21
            simp only [List.cons.injEq, and_true] at e21
            obtain ⟨q21_1, q21_11, q21_21⟩ := e21
            try simp only [e0, q21_1, q21_11, q21_21]
            simp only [List.drop_succ_cons, List.drop_zero]
            have HS6 := Lib.hid (HS5.out.todo HTD.out hS)
            have HT6 := Lib.hid hS
            have HQ6 := Lib.hid p21
            have xx := HS6.out.cls hln
            rw [setCls_at] at xx
            have x0 := xx.2.2.1
            have x1 := xx.2.2.2.1
            have f0' := HS6.out.ofree (lo * 6 + 2)
            have f1' := HS6.out.ofree (lo * 6 + 3)
            clear e0 q21_1 q21_11 q21_21 p21 xx hS
            go_wp2
            go_meet
            case rel =>
              refine ⟨Lib.hid ?_, Lib.hid ?_, Lib.hid ?_⟩
              · have hs := (HS6.out.set2 hln (max (of lo).ptr (of hi).ptr)).set3 hln (max (of lo).elem (of hi).elem)
                rw [setCls_at, setCls_twice, setCls_at, setCls_twice] at hs
                exact hs
              · have h1 : Turn (joinB L B gt w) w wc := HT5.out.mono (fun x _ e => .inl e)
                have h2 : Turn (joinB L B gt w) w w5 := joinTrans h1 (HT6.out.mono (fun x _ e => .inr e))
                exact (h2.setCell _ (fun _ => .inl (.inr (.inr (.inl rfl))))).setCell _ (fun _ => .inl (.inr (.inr (.inl rfl))))
              · have hn : ∀ k, k = L.go → ¬ todoB B gt w5 k := fun k e h => by subst e; exact own_todo HS6.out HQ6.out (.inr (.inr (.inl rfl))) h
                exact HQ6.out.keep (bs := fun k => k = L.go) (((Turn.refl (fun k => k = L.go) w5).setCell _ (fun _ => rfl)).setCell _ (fun _ => rfl)) hn
          case rest =>
            obtain ⟨HS6, HT6, HQ6⟩ := hcut
            clear HS5 HT5 OO II HGO HN3 HNO HTD HCP
            have hbd : ∀ (k : Nat), k < L.n → rt k = k → ∀ o f, (of k).fields o = some f → (0 ≤ o ∧ o < 65536) ∧ (0 ≤ f ∧ f < L.n) := fun k hk hr o f hf => by
              obtain ⟨h1, c, hc, hkd, hn, _⟩ := (HH.out.inv.good k (by omega) (by omega) hr).fields o f hf
              have := (rightS_parts (HR.out c hc)).2.2.2.1 hkd
              exact ⟨by omega, h1⟩
            have HFH := Lib.hid (hbd hi hhn HL2.out)
            have HFL := Lib.hid (hbd lo hln HL1.out)
            clear hbd
            have hFH : ∀ o, (of hi).fields o ≠ none → 0 ≤ o ∧ o < 65536 := fun o ho => by
              cases hf : (of hi).fields o with
              | none => exact absurd hf ho
              | some f => exact (HFH.out o f hf).1
            have HFN := Lib.hid hFH
            clear hFH
            have xx := HS6.out.cls hln
            have yy := HS6.out.cls hhn
            have hm := HS6.out.m hi hhn
            rw [setCls_at] at xx
            rw [setCls_ne _ _ (by omega)] at yy hm
            have x4 := xx.2.2.2.2.1
            have y4 := yy.2.2.2.2.1
            have f4 := HS6.out.ofree (lo * 6 + 4)
            have HMH := Lib.hid hm
            have HY5 := Lib.hid yy.2.2.2.2.2
            clear xx yy hm
            go_upto_region 7 with (fail)
            go_cut [] (fun wx => Hid (SolW L (joinRt rt lo hi) (setCls of lo { of lo with size := agreeV (of lo).size (of hi).size, sign := agreeV (of lo).sign (of hi).sign, ptr := max (of lo).ptr (of hi).ptr, elem := max (of lo).elem (of hi).elem, count := max (of lo).count (of hi).count }) (agreeC (agreeC clash (of lo).size (of hi).size) (of lo).sign (of hi).sign) wx) ∧ Hid (Turn (joinB L B gt w) w wx) ∧ Hid (TodoW B gt (qs ++ pairOf (of lo).ptr (of hi).ptr ++ pairOf (of lo).elem (of hi).elem) wx))
            case first =>
              have key : ∀ x : Int, x = max (of lo).count (of hi).count → SolW L (joinRt rt lo hi) (setCls of lo { of lo with size := agreeV (of lo).size (of hi).size, sign := agreeV (of lo).sign (of hi).sign, ptr := max (of lo).ptr (of hi).ptr, elem := max (of lo).elem (of hi).elem, count := max (of lo).count (of hi).count }) (agreeC (agreeC clash (of lo).size (of hi).size) (of lo).sign (of hi).sign) (wc.drew.setCell ⟨L.go, lo * 6 + 4, none⟩ (.int .i64 x)) ∧ Turn (joinB L B gt w) w (wc.drew.setCell ⟨L.go, lo * 6 + 4, none⟩ (.int .i64 x)) ∧ TodoW B gt (qs ++ pairOf (of lo).ptr (of hi).ptr ++ pairOf (of lo).elem (of hi).elem) (wc.drew.setCell ⟨L.go, lo * 6 + 4, none⟩ (.int .i64 x)) := fun x hx => by
                subst hx
                refine ⟨?_, ?_, ?_⟩
                · have hs := HS6.out.drew.set4 hln (max (of lo).count (of hi).count)
                  rw [setCls_at, setCls_twice] at hs
                  exact hs
                · exact HT6.out.drew.setCell _ (fun _ => .inl (.inr (.inr (.inl rfl))))
                · have hn : ∀ k, k = L.go → ¬ todoB B gt wc k := fun k e h => by subst e; exact own_todo HS6.out HQ6.out (.inr (.inr (.inl rfl))) h
                  exact HQ6.out.keep (bs := fun k => k = L.go) ((Turn.refl (fun k => k = L.go) wc).drew.setCell _ (fun _ => rfl)) hn
              have KEY := Lib.hid key
              clear key
              go_still_tail 10, (by kernel_rfl)
              change wpList _ _ _ _ _ wc.drew
              go_wp2
              all_goals
                go_meet
                case rel => exact ⟨Lib.hid (KEY.out _ (by omega)).1, Lib.hid (KEY.out _ (by omega)).2.1, Lib.hid (KEY.out _ (by omega)).2.2⟩
            case rest =>
              clear x4 y4 f4 HMH HY5
              obtain ⟨HS7, HT7, HQ7⟩ := hcut
              clear HS6 HT6 HQ6
              have hm := HS7.out.m hi hhn
              have yy := HS7.out.cls hhn
              rw [setCls_ne _ _ (by omega)] at hm yy
              have y5 := yy.2.2.2.2.2
              have HMH := Lib.hid hm
              clear yy hm
              go_upto_block 0 with (at_range; refine wpList_range_ii hI3 rfl _ _ rfl hM (zeroInt _) rfl HMH.out HFN.out ?_; intro w0 cnt hrg0 hcnt hg0 hs0)
              go_frame
              obtain ⟨R, hRR⟩ : ∃ R, R = wc.heap.size := ⟨_, rfl⟩
              rw [← hRR] at hrg0
              rw [← hRR]
              have HT0 := Lib.hid (HT7.out.grown (row := none) hg0 (fun k e => by cases e))
              have HS0 := Lib.hid (HS7.out.turn (bs := fun _ => False) ((Turn.refl _ _).grown hg0 (fun k e => by cases e)) (fun _ h => h.elim))
              have HQ0 := Lib.hid (HQ7.out.keep (bs := fun _ => False) ((Turn.refl _ _).grown hg0 (fun k e => by cases e)) (fun _ h => h.elim))
              have HRG := Lib.hid hrg0
              have HFF := Lib.hid (fieldsAt_start (of lo).fields (of hi).fields)
              have hRw : w.heap.size ≤ R := by rw [hRR]; exact HT7.out.size
              have HFX := Lib.hid (show ∀ left k, fieldsAt (of lo).fields (of hi).fields left k ≠ none → 0 ≤ k ∧ k < 65536 from fun left k hk => by
                unfold fieldsAt at hk
                split at hk
                · cases hf : (of lo).fields k with
                  | none => exact absurd hf hk
                  | some f => exact (HFL.out k f hf).1
                · cases hf : (of lo).fields k with
                  | none => rw [hf] at hk; exact HFN.out k hk
                  | some f => exact (HFL.out k f hf).1)
              clear hrg0 hg0 hs0 hRR y5 HMH HS7 HT7 HQ7
              go_cut [] (fun wx => ∃ qs', Hid (SolW L (joinRt rt lo hi) (setCls of lo { of lo with size := agreeV (of lo).size (of hi).size, sign := agreeV (of lo).sign (of hi).sign, ptr := max (of lo).ptr (of hi).ptr, elem := max (of lo).elem (of hi).elem, count := max (of lo).count (of hi).count, fields := fieldsAt (of lo).fields (of hi).fields (fun _ => false) }) (agreeC (agreeC clash (of lo).size (of hi).size) (of lo).sign (of hi).sign) wx) ∧ Hid (Turn (joinB L B gt w) w wx) ∧ Hid (TodoW B gt (qs ++ pairOf (of lo).ptr (of hi).ptr ++ pairOf (of lo).elem (of hi).elem ++ qs') wx) ∧ Hid (PairsAt (of lo).fields (of hi).fields (fun _ => false) qs') ∧ qs'.length ≤ 65536)
              case first =>
                go_wp2_with fail
                go_loopg [] cnt (fun k wr => ∃ left qs', Hid (Rw (L.gm hi) R (of hi).fields left k wr) ∧ Hid (SolW L (joinRt rt lo hi) (setCls of lo { of lo with size := agreeV (of lo).size (of hi).size, sign := agreeV (of lo).sign (of hi).sign, ptr := max (of lo).ptr (of hi).ptr, elem := max (of lo).elem (of hi).elem, count := max (of lo).count (of hi).count, fields := fieldsAt (of lo).fields (of hi).fields left }) (agreeC (agreeC clash (of lo).size (of hi).size) (of lo).sign (of hi).sign) wr) ∧ Hid (Turn (joinB L B gt w) w wr) ∧ Hid (TodoW B gt (qs ++ pairOf (of lo).ptr (of hi).ptr ++ pairOf (of lo).elem (of hi).elem ++ qs') wr) ∧ Hid (PairsAt (of lo).fields (of hi).fields left qs') ∧ qs'.length + k ≤ 65536)
                case atStart =>
                  refine ⟨_, [], HRG, ?_, HT0, ?_, Lib.hid (pairsAt_start _ _), by simpa using hcnt⟩
                  · rw [HFF.out]; exact HS0
                  · rw [List.append_nil]; exact HQ0
                case round =>
                  obtain ⟨left, qs', HRW, HSW, HTW, HQW, HPW, hlen⟩ := hrel
                  go_upto_region 10 with (at_next; refine wpList_next_ii hI3 rfl _ rfl hM (zeroInt _) rfl HRW.out (fun hl0 => ?_) (fun x c w1 cnt1 hx hc hlx hFx hrg1 hlt1 hg1 hs1 hen => ?_))
                  · go_meet
                    case rel =>
                      obtain rfl : left = fun _ => false := funext hl0
                      exact ⟨qs', HSW, HTW, HQW, HPW, by omega⟩
                  · obtain ⟨oa, ob, oc, od, hobj⟩ := RangeW.obj HRW.out
                    have hno := own_iter HSW.out hobj
                    have hnt := todo_iter HQW.out hobj
                    have hgR : Turn (fun k => k = R) wr w1 := (Turn.refl _ _).grown hg1 (fun k e _ => by cases e; rfl)
                    have HS1 := Lib.hid (HSW.out.turn hgR (fun k e h => hno (e ▸ h)))
                    have HQ1 := Lib.hid (HQW.out.keep hgR (fun k e h => hnt (e ▸ h)))
                    have HT1 := Lib.hid (HTW.out.trans hgR (cs := fun k => k = R) (fun k hk e => absurd hk (by omega)))
                    have HC1 := Lib.hid (HH.out.cap.keep HH.out.sol HH.out.todo HT1.out)
                    have hbx := HFH.out x c hFx
                    have hlim := L.lim
                    have HFx := Lib.hid hFx
                    have HLX := Lib.hid hlx
                    have HRG1 := Lib.hid hrg1
                    have cc := HS1.out.cls hln
                    have hmx := HS1.out.m lo hln
                    rw [setCls_at] at cc hmx
                    have c5 := cc.2.2.2.2.2
                    have HMX := Lib.hid hmx
                    have hvx : fieldsAt (of lo).fields (of hi).fields left x = (of lo).fields x := by unfold fieldsAt; rw [if_pos hlx]
                    have c3 : w1.cell? ⟨g3, 0, none⟩ = some (.func (.func 67) #[] #[.pointer (some ⟨gt, 0, none⟩)]) := cell_of_one HC1.out.h3
                    have hB1 : B ≤ w1.heap.size := Nat.le_trans HH.out.base HT1.out.size
                    have hp2 : (pairOf (of lo).elem (of hi).elem).length ≤ 1 := by unfold pairOf; split <;> simp
                    clear cc hmx hobj hno hnt hgR hFx hlx hrg1 hg1
                    cases hfx : (of lo).fields x with
                    | none =>
                      have HV := Lib.hid (hvx.trans hfx)
                      have HFX0 := Lib.hid hfx
                      clear hvx hfx
                      go_wp2_with (first | (at_lookup; refine wpList_lookup_none hI3 rfl _ _ _ rfl hM (zeroInt _) rfl HMX.out x rfl hx HV.out ?_) | (at_mapUpdate; refine wpList_update_ii hI3 rfl _ _ _ _ rfl hM (zeroInt _) rfl HMX.out (HFX.out left) x c rfl hx rfl hc ?_; intro w3 hm3 hg3))
                      go_roundg cnt1
                      case measure => exact hlt1
                      case rel =>
                        have hrow := Row3.of HS1.out HRG1.out hln hhn (by omega) hg3
                        obtain ⟨k1, k2⟩ := hrow
                        refine ⟨fun z => left z && z != x, qs', Lib.hid k1, Lib.hid ?_, Lib.hid (HT1.out.grown hg3 (fun k e _ => by cases e; exact .inl (.inr (.inr (.inr ⟨lo, hln, rfl⟩))))), Lib.hid (HQ1.out.own HS1.out ((Turn.refl (fun k => k = L.gm lo) w1).grown hg3 (fun k e _ => by cases e; rfl)) (fun k e => by subst e; exact .inr (.inr (.inr ⟨lo, hln, rfl⟩)))), Lib.hid ?_, by omega⟩
                        · have hs := HS1.out.setM hln hg3 hm3
                          rw [setCls_at, setCls_twice] at hs
                          have hst := fieldsAt_step (FL := (of lo).fields) (left := left) HFx.out
                          rw [HFX0.out] at hst
                          simp only at hst
                          rw [← hst]
                          exact hs
                        · have := pairsAt_step HPW.out HLX.out HFx.out (fun o f hf => (HFL.out o f hf).2.1) hbx.2.1
                          rw [HFX0.out] at this
                          simpa using this
                    | some f =>
                      have HV := Lib.hid (hvx.trans hfx)
                      have hbf := HFL.out x f hfx
                      have HFX0 := Lib.hid hfx
                      clear hvx hfx
                      go_wp2_with (first | (at_lookup; refine wpList_lookup_some hI3 rfl _ _ _ rfl hM (zeroInt _) rfl HMX.out x f rfl hx HV.out ?_) | (go_at_call 67; refine (refer_any B gt _ _ HQ1.out hB1 (by simp; omega) c f).mono ?_; rintro e w2 ⟨rfl, hq2, ht2⟩; have HS2 := Lib.hid (HS1.out.todo HQ1.out ht2); have cc2 := (HS2.out.cls hln); rw [setCls_at] at cc2; have c52 := cc2.2.2.2.2.2; have hmx2 := HS2.out.m lo hln; rw [setCls_at] at hmx2; have HMX2 := Lib.hid hmx2; have HT2 := Lib.hid ht2; have HQ2 := Lib.hid hq2; clear cc2 hmx2 ht2 hq2) | (at_mapUpdate; refine wpList_update_ii hI3 rfl _ _ _ _ rfl hM (zeroInt _) rfl HMX2.out (HFX.out left) x (max c f) rfl hx rfl (by unfold i64ok; omega) ?_; intro w3 hm3 hg3))
                      go_roundg cnt1
                      case measure => exact hlt1
                      case rel =>
                        obtain ⟨oa, ob, oc, od, hobj⟩ := RangeW.obj HRG1.out
                        have hno := own_iter HS1.out hobj
                        have hnt := todo_iter HQ1.out hobj
                        have hRG2 : Rw (L.gm hi) R (of hi).fields (fun z => left z && z != x) cnt1 w2 := RangeW.same HRG1.out (HT2.out.block _ (HS1.out.lt (.inr (.inr (.inr ⟨hi, hhn, rfl⟩)))) (fun e => own_todo HS1.out HQ1.out (.inr (.inr (.inr ⟨hi, hhn, rfl⟩))) e)) (HT2.out.block _ (RangeW.lt HRG1.out) hnt)
                        have hrow := Row3.of HS2.out hRG2 hln hhn (by omega) hg3
                        obtain ⟨k1, k2⟩ := hrow
                        have hT2 : Turn (joinB L B gt w) w w2 := joinTrans HT1.out (HT2.out.mono (fun x _ e => .inr e))
                        have hpl : (pairOf c f).length ≤ 1 := by unfold pairOf; split <;> simp
                        refine ⟨fun z => left z && z != x, qs' ++ pairOf c f, Lib.hid k1, Lib.hid ?_, Lib.hid (hT2.grown hg3 (fun k e _ => by cases e; exact .inl (.inr (.inr (.inr ⟨lo, hln, rfl⟩))))), Lib.hid ?_, Lib.hid ?_, by simp; omega⟩
                        · have hs := HS2.out.setM hln hg3 hm3
                          rw [setCls_at, setCls_twice] at hs
                          have hst := fieldsAt_step (FL := (of lo).fields) (left := left) HFx.out
                          rw [HFX0.out] at hst
                          simp only at hst
                          rw [← hst]
                          exact hs
                        · have := HQ2.out.own HS2.out ((Turn.refl (fun k => k = L.gm lo) w2).grown hg3 (fun k e _ => by cases e; rfl)) (fun k e => by subst e; exact .inr (.inr (.inr ⟨lo, hln, rfl⟩)))
                          simpa [List.append_assoc] using this
                        · have := pairsAt_step HPW.out HLX.out HFx.out (fun o f hf => (HFL.out o f hf).2.1) hbx.2.1
                          rw [HFX0.out] at this
                          exact this
              case rest =>
                obtain ⟨qs', HSW, HTW, HQW, HPW, hlen⟩ := hcut
                clear HRG HS0 HT0 HQ0 HFF HFX
                have hinv := HH.out.inv.join HLH.out (by omega) (merged_of HPW.out)
                have hq' := HQW.out
                rw [List.append_assoc, List.append_assoc, ← List.append_assoc (pairOf _ _)] at hq'
                have hro := rootsN_join (n := L.n) HL1.out HL2.out (by omega) (by omega) (by omega)
                have hp2 : (pairOf (of lo).elem (of hi).elem).length ≤ 1 := by unfold pairOf; split <;> simp
                have hfw := HH.out.few
                have hk : (qs ++ (pairOf (of lo).ptr (of hi).ptr ++ pairOf (of lo).elem (of hi).elem ++ qs')).length + 70000 * rootsN L.n (joinRt rt lo hi) ≤ 200000000 := by simp only [List.length_append]; omega
                have hro' : rootsN L.n (joinRt rt lo hi) < rootsN L.n rt := hro
                generalize joinRt rt lo hi = rt1 at *
                have HI := Lib.hid (And.intro hinv (And.intro HSW.out (And.intro hq' (And.intro hk hro'))))
                clear hinv hq' hk hro hro' hfw HSW HQW HPW
                go_wp2_with fail
                go_loopg [] 300000000 (fun k wr => ∃ rt' of' c' q, Hid (Inv L.n cs ps rt' of' c' q) ∧ Hid (SolW L rt' of' c' wr) ∧ Hid (TodoW B gt q wr) ∧ Hid (Turn (joinB L B gt w) w wr) ∧ rootsN L.n rt' < rootsN L.n rt ∧ q.length + 70000 * rootsN L.n rt' ≤ 200000000 ∧ q.length ≤ k)
                case atStart =>
                  obtain ⟨h1, h2, h3, h4, h5⟩ := HI.out
                  exact ⟨_, _, _, _, Lib.hid h1, Lib.hid h2, Lib.hid h3, HTW, h5, h4, by omega⟩
                case round =>
                  obtain ⟨rt', of', c', q, HINV, HSO, HQO, HTO, hlt', hfew', hlen'⟩ := hrel
                  clear HI HTW
                  rcases List.eq_nil_or_concat q with rfl | ⟨q0, p, rfl⟩
                  · obtain ⟨ao, cap, hg0⟩ := HQO.out.nil
                    have ct := cell_of_one hg0
                    clear hg0
                    go_wp2_with fail
                    go_end0
                    exact ⟨rfl, HTO.out, .inr ⟨rt', of', c', HINV.out, HSO.out, HQO.out, hlt'⟩⟩
                  · rw [List.concat_eq_append] at *
                    obtain ⟨p1, p2⟩ := p
                    have hpr := (HINV.out.pend (p1, p2) (by simp)).1
                    obtain ⟨pa, hpa⟩ := Int.eq_ofNat_of_zero_le hpr.1.1
                    obtain ⟨pb, hpb⟩ := Int.eq_ofNat_of_zero_le hpr.2.1
                    simp only at hpa hpb
                    subst hpa
                    subst hpb
                    clear hpr
                    obtain ⟨g, cap, cur, hg1, hBg, hg2, hcap1, hcap2, hcs, htk, hp1, hp2'⟩ := HQO.out.pop
                    have ct := cell_of_one hg1
                    have ft : wr.frozen? ⟨gt, 0, none⟩ = false := free_of_one hg1
                    have hcap2' : cap ≤ 9223372036854775807 := hcap2
                    have hggt : g ≠ gt := fun e => by rw [e, hg1] at hg2; simp at hg2
                    have hgtl : gt < wr.heap.size := (Array.getElem?_eq_some_iff.1 hg1).1
                    have hgl : g < wr.heap.size := (Array.getElem?_eq_some_iff.1 hg2).1
                    have HC4 := Lib.hid (HH.out.cap.keep HH.out.sol HH.out.todo HTO.out)
                    have h5l : g5 < wr.heap.size := (Array.getElem?_eq_some_iff.1 HC4.out.h5).1
                    have h5n : g5 ≠ gt := fun e => by have := HC4.out.h5; rw [e, hg1] at this; simp at this
                    have cj := cell_of_one HC4.out.h5
                    have hex : (cur.extract (q0.length * 2) (q0.length * 2 + 2)).toList = [.int .i64 (pa : Int), .int .i64 (pb : Int)] := by
                      have h1 : q0.length * 2 + 1 < cur.size := (Array.getElem?_eq_some_iff.1 hp2').1
                      apply List.ext_getElem?
                      intro j
                      rw [Array.getElem?_toList, Array.getElem?_extract]
                      match j with
                      | 0 => rw [if_pos (by omega)]; exact hp1
                      | 1 => rw [if_pos (by omega)]; exact hp2'
                      | j + 2 => rw [if_neg (by omega)]; rfl
                    have HP := Lib.hid (And.intro hg1 (And.intro hg2 (And.intro hcs htk)))
                    have HEX := Lib.hid hex
                    clear hg1 hg2 hcs htk hp1 hp2' hcap2 hex
                    obtain ⟨W2, hW2⟩ : ∃ W2, W2 = (wr.setCell ⟨gt, 0, none⟩ (.slice (some ⟨g, 0, none⟩) q0.length cap)).alloc (.cells #[.int .i64 (pa : Int), .int .i64 (pb : Int)] 102) := ⟨_, rfl⟩
                    have hsz : (wr.setCell ⟨gt, 0, none⟩ (.slice (some ⟨g, 0, none⟩) q0.length cap)).heap.size = wr.heap.size := by simp [World.setCell]
                    have hTW : Turn (todoB B gt wr) wr W2 := by rw [hW2]; exact ((Turn.refl (todoB B gt wr) wr).setCell (g := gt) _ (fun _ => .inl rfl)).alloc _
                    have hyp : JoinHyp cs ps L B g2 g3 gt g5 rt' of' c' q0 pa pb W2 := {
                      inv := HINV.out.same_todo (fun x hx => by rcases List.mem_cons.1 hx with e | e <;> simp [e]) (fun x hx hn => absurd (by simpa [or_comm] using hx) hn)
                      sol := HSO.out.todo HQO.out hTW
                      todo := by
                        rw [hW2]
                        refine ⟨_, (alloc_other _ _ (by rw [hsz]; exact hgtl)).trans (one_setCell HP.out.1), (pairsV_len q0), .inr ⟨g, cap, cur, rfl, hBg, ?_, by omega, hcap2', HP.out.2.2.1, HP.out.2.2.2⟩⟩
                        rw [alloc_other _ _ (by rw [hsz]; exact hgl), heap_setCell_other hggt]
                        exact HP.out.2.1
                      cap := HC4.out.keep HSO.out HQO.out (hTW.mono (fun x _ e => .inr e))
                      base := Nat.le_trans (Nat.le_trans HH.out.base HTO.out.size) hTW.size
                      few := by simp only [List.length_append, List.length_cons, List.length_nil] at hfew'; omega }
                    have HCALL := Lib.hid (HIH.out rt' of' c' q0 pa pb W2 hyp (by have := HM.out; omega))
                    have HTW2 := Lib.hid (joinTrans HTO.out (hTW.mono (cs := joinB L B gt wr) (fun x _ e => .inr e)))
                    have HW2 := Lib.hid hW2
                    clear hyp hTW hsz hW2
                    rw [HW2.out] at HCALL
                    go_upto_region 17 with (first | (refine wpList_val (by rfl) (exec_load_midB 102 _ rfl g (q0.length * 2) rfl cur 102 (0, 0) HP.out.2.1 [.int .i64 (pa : Int), .int .i64 (pb : Int)] HEX.out (by kernel_rfl)) ?_) | (refine wpList_store_row rfl _ _ _ rfl _ _ rfl rfl _ _ (heap_alloc_new _ _) ?_ ?_ ?_ ?_; kernel_rfl; rfl; kernel_rfl; rw [World.setRow_alloc_new]))
                    go_wp2_with (go_at_call 68; refine (HCALL.out).mono ?_; rintro e w9 ⟨rfl, ht9, hd9⟩)
                    rw [← HW2.out] at ht9
                    have hT9 := joinTrans HTW2.out ht9
                    go_roundg q0.length
                    case measure => simp only [List.length_append, List.length_cons, List.length_nil] at hlen'; omega
                    case rel =>
                      simp only [List.length_append, List.length_cons, List.length_nil] at hfew'
                      rcases hd9 with ⟨h1, h2, h3⟩ | ⟨rt9, of9, c9, h1, h2, h3, h4⟩
                      · exact ⟨rt', of', c', q0, Lib.hid (HINV.out.same_todo (fun x hx => by simp [hx]) (fun x hx hn => by
                          have : x = ((pa : Int), (pb : Int)) := by
                            rcases List.mem_append.1 hx with e | e
                            · exact absurd e hn
                            · simpa using e
                          subst this
                          exact h1)), Lib.hid h2, Lib.hid h3, Lib.hid hT9, hlt', by omega, Nat.le_refl _⟩
                      · exact ⟨rt9, of9, c9, [], Lib.hid h1, Lib.hid h2, Lib.hid h3, Lib.hid hT9, by omega, by simp; omega, by simp⟩

theorem join_any (cs ps : List Con) (L : Lay) (hR : ∀ c ∈ cs, rightS L.n c = true) (B g2 g3 gt g5 : Nat) : ∀ (m : Nat) (rt : Int → Int) (of : Int → Cls) (clash : Bool) (qs : List (Int × Int)) (a b : Nat) (w : World), JoinHyp cs ps L B g2 g3 gt g5 rt of clash qs a b w → rootsN L.n rt ≤ m →
    Calls Tryd.prog 68 #[.int .i64 a, .int .i64 b, .pointer (some ⟨g2, 0, none⟩), .pointer (some ⟨g3, 0, none⟩), .pointer (some ⟨gt, 0, none⟩), .pointer (some ⟨g5, 0, none⟩)] w (JoinPost cs ps L B gt rt of clash qs a b w)
  | 0, rt, of, clash, qs, a, b, w, h, hm => join_step cs ps L hR B g2 g3 gt g5 0 (fun _ _ _ _ _ _ _ _ h0 => absurd h0 (by omega)) rt of clash qs a b w h hm
  | m + 1, rt, of, clash, qs, a, b, w, h, hm => join_step cs ps L hR B g2 g3 gt g5 (m + 1) (fun rt of clash qs a b w h h0 => join_any cs ps L hR B g2 g3 gt g5 m rt of clash qs a b w h (by omega)) rt of clash qs a b w h hm
end Go.Proofs.YtepmgnhblegiiaaDoor
