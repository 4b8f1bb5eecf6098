/- The reference: Classes (under way). No condition beyond what each states. -/
import Derived.Test.YtepmgnhblegiiaaDoorPlJ
set_option linter.all false
namespace Go.Proofs.YtepmgnhblegiiaaDoor
open Go Go.RowKit Go.Maps

/-- What a round of the reference's loop knows: ch: something was united; up to constraint i, and of it up to k, nothing was left to unite. -/
def MidP (n : Nat) (cs : List Con) (cl0 cl : Nat → Int) (ch : Bool) (i k : Nat) : Prop :=
  (ch = true ∧ sumN cl n < sumN cl0 n) ∨ (ch = false ∧ cl = cl0 ∧ (∀ j c, (j < i ∨ (j = i ∧ 0 < k)) → cs[j]? = some c → c.kind = 1 → cl c.a.toNat = cl c.b.toNat) ∧
    ∀ j l c d, l < j → (j < i ∨ (j = i ∧ l + 1 < k)) → cs[j]? = some c → cs[l]? = some d → joinedP cl c d c.a.toNat d.a.toNat → cl c.b.toNat = cl d.b.toNat)
theorem MidP.shut {n : Nat} {cs : List Con} {cl0 cl : Nat → Int} (h : MidP n cs cl0 cl false cs.length 0) : cl = cl0 ∧ Shut cs cl := by
  rcases h with ⟨h, -⟩ | ⟨-, h1, h2, h3⟩
  · cases h
  · refine ⟨h1, fun c hc hk => ?_, fun i k c d hki hi hk => ?_⟩
    · obtain ⟨j, hj, rfl⟩ := List.mem_iff_getElem.1 hc
      exact h2 j _ (.inl hj) (by simp [hj]) hk
    · refine h3 i k c d hki (.inl ?_) hi hk
      rcases Nat.lt_or_ge i cs.length with h | h
      · exact h
      · rw [List.getElem?_eq_none h] at hi; cases hi

theorem ClaI.unite {n : Nat} {cs : List Con} {cl : Nat → Int} (h : ClaI n cs cl) {a b : Nat} (ha : a < n) (hb : b < n) (hc : Cong cs a b) (hne : cl a ≠ cl b) : ClaI n cs (mergeK cl (max (cl a) (cl b)) (min (cl a) (cl b))) ∧ sumN (mergeK cl (max (cl a) (cl b)) (min (cl a) (cl b))) n < sumN cl n := by
  have a1 := h.nn a ha
  have a2 := h.le a ha
  have b1 := h.nn b hb
  have b2 := h.le b hb
  have hab : Cong cs (cl a) (cl b) := ((h.sound a ha).symm.trans hc).trans (h.sound b hb)
  rcases Int.lt_or_gt_of_ne hne with hl | hl
  · rw [Int.max_eq_right (by omega), Int.min_eq_left (by omega)]
    exact ⟨h.merge ⟨a1, hl⟩ (by omega) (h.idem a ha) (h.idem b hb) hab.symm, h.less ⟨a1, hl⟩ (by omega) (h.idem b hb)⟩
  · rw [Int.max_eq_left (by omega), Int.min_eq_right (by omega)]
    exact ⟨h.merge ⟨b1, hl⟩ (by omega) (h.idem b hb) (h.idem a ha) hab, h.less ⟨b1, hl⟩ (by omega) (h.idem a ha)⟩
/-- One try to unite: b says whether something was united. -/
def OneP (n : Nat) (cl dl : Nat → Int) (c : Con) (b : Bool) : Prop := (b = true ∧ sumN dl n < sumN cl n) ∨ (b = false ∧ dl = cl ∧ (c.kind = 1 → cl c.a.toNat = cl c.b.toNat))
theorem MidP.one {n : Nat} {cs : List Con} {cl0 cl dl : Nat → Int} {ch b : Bool} {i : Nat} {x : Con} (h : MidP n cs cl0 cl ch i 0) (hx : cs[i]? = some x) (ho : OneP n cl dl x b) : MidP n cs cl0 dl (b || ch) i 1 := by
  rcases ho with ⟨rfl, ho⟩ | ⟨rfl, rfl, ho⟩
  · rcases h with ⟨-, h⟩ | ⟨-, rfl, -⟩
    · exact .inl ⟨rfl, by omega⟩
    · exact .inl ⟨rfl, ho⟩
  · rcases h with ⟨rfl, h⟩ | ⟨rfl, rfl, h1, h2⟩
    · exact .inl ⟨rfl, h⟩
    · refine .inr ⟨rfl, rfl, fun j c hj hc hk => ?_, fun j l c d hl hj => h2 j l c d hl (by omega)⟩
      rcases hj with hj | ⟨rfl, -⟩
      · exact h1 j c (.inl hj) hc hk
      · rw [hx] at hc; cases hc; exact ho hk
theorem MidP.next {n : Nat} {cs : List Con} {cl0 cl : Nat → Int} {ch : Bool} {i : Nat} (h : MidP n cs cl0 cl ch i (i + 1)) : MidP n cs cl0 cl ch (i + 1) 0 := by
  rcases h with h | ⟨h1, h2, h3, h4⟩
  · exact .inl h
  · exact .inr ⟨h1, h2, fun j c hj => h3 j c (by omega), fun j l c d hl hj => h4 j l c d hl (by omega)⟩
/-- One try to unite what two constraints join. -/
def TwoP (n : Nat) (cl dl : Nat → Int) (c d : Con) (an bn : Nat) (b : Bool) : Prop := (b = true ∧ sumN dl n < sumN cl n) ∨ (b = false ∧ dl = cl ∧ (joinedP cl c d an bn → cl c.b.toNat = cl d.b.toNat))
theorem MidP.two {n : Nat} {cs : List Con} {cl0 cl dl : Nat → Int} {ch b : Bool} {i k : Nat} {x y : Con} {an yn : Nat} (h : MidP n cs cl0 cl ch i (k + 1)) (hx : cs[i]? = some x) (hy : cs[k]? = some y) (hki : k < i) (ha : x.a = an) (hb : y.a = yn) (ho : TwoP n cl dl x y an yn b) : MidP n cs cl0 dl (b || ch) i (k + 1 + 1) := by
  rcases ho with ⟨rfl, ho⟩ | ⟨rfl, rfl, ho⟩
  · rcases h with ⟨-, h⟩ | ⟨-, rfl, -⟩
    · exact .inl ⟨rfl, by omega⟩
    · exact .inl ⟨rfl, ho⟩
  · rcases h with ⟨rfl, h⟩ | ⟨rfl, rfl, h1, h2⟩
    · exact .inl ⟨rfl, h⟩
    · refine .inr ⟨rfl, rfl, fun j c hj => h1 j c (by omega), fun j l c d hl hj hc hd hjn => ?_⟩
      by_cases e : j = i ∧ l = k
      · obtain ⟨rfl, rfl⟩ := e
        rw [hx] at hc; rw [hy] at hd
        cases hc; cases hd
        exact ho (by rw [ha, hb] at hjn; simpa using hjn)
      · exact h2 j l c d hl (by omega) hc hd hjn
def ClsPost (n : Nat) (cs : List Con) (w : World) (e : Ending) (w' : World) : Prop :=
  Below w.heap.size w w' ∧ ∃ g cap cl, w.heap.size ≤ g ∧ e = .returned (.slice (some ⟨g, 0, none⟩) n cap) ∧ ClaW g n cl w' ∧ ClaI n cs cl ∧ Shut cs cl
/-- The row of n variables, each alone. -/
theorem own_cla {w : World} {B n : Nat} {v : Value} (h : w.ownsRow B 3 1 v n (upList n)) (hn : 0 < n) : ∃ g cap, v = .slice (some ⟨g, 0, none⟩) n cap ∧ B ≤ g ∧ ClaW g n (fun v => (v : Int)) w := by
  rcases h.2 with ⟨-, h0⟩ | ⟨g, cap, cur, rfl, hB, hg, -, -, -, ht⟩
  · omega
  · exact ⟨g, cap, rfl, hB, cur, hg, fun v hv => by rw [flat_at ht (by omega)]; exact upList_at hv⟩

set_option maxRecDepth 100000 in
set_option maxHeartbeats 2000000 in
theorem rclasses_any (n : Nat) (hn : 0 < n) (hn2 : n ≤ 2000) (cs : List Con) (hR : ∀ c ∈ cs, rightS n c = true) (hl : cs.length ≤ 5000) (w : World) (ao : Option Addr) (cap : Nat) (h : ConsW ao cs w) :
    Calls Tryd.prog 37 #[.int .i64 n, .slice ao cs.length cap] w (ClsPost n cs w) := by
  have H := Lib.hid h
  have HR := Lib.hid hR
  clear h hR
  obtain ⟨i0, hi, hz0, hz1, hz2⟩ := info_parts infoInt
  go_enter Tryd.func37, Tryd.ntmps37
  go_wp2_with fail
  go_loopw [5, 6] (fun s5 s6 wr => ∃ k : Nat, k ≤ n ∧ s6 = .int .i64 k ∧ Hid (wr.ownsRow w.heap.size 3 1 s5 k (upList k)) ∧ Hid (Below w.heap.size w wr)) (fun _ s6 _ => n - (intOf s6).toNat)
  case atStart => exact ⟨0, Nat.zero_le _, rfl, Lib.hid ⟨rfl, .inl ⟨rfl, rfl⟩⟩, Lib.hid (Below.refl _ _)⟩
  case round =>
    obtain ⟨k, hk, rfl, HOW, HBW⟩ := hrel
    by_cases hlt : k < n
    · have hsz : w.heap.size ≤ wr.heap.size := HBW.out.size
      have hul := Lib.hid (upList_len k)
      go_wp2_with (at_builtin; refine wpList_append_own _ rfl _ _ 47 rfl w.heap.size 3 i0 (.int .i64 0) 1 8 Tryd.underlying47 hi hz0 hz1 hz2 rfl (by decide) _ k (upList k) rfl (own_turn HOW.out ((Turn.refl (fun _ => False) _).alloc _) (fun _ _ h => h)) ⟨wr.heap.size, 0, none⟩ 1 1 [.int .i64 (k : Int)] rfl rfl (cells_new _ _ _ _ rfl) (by intro u hu; simp at hu; rcases hu with rfl; rfl) (by unfold maxLen; omega) (by omega) (Nat.le_trans hsz (by simp)) ?_; intro v5 w5 hown5 hgrow5 _)
      have hgB : Turn (fun k => w.heap.size ≤ k) wr w5 := ((Turn.refl _ _).alloc _).grown hgrow5 (fun k e _ => (own_cells HOW.out k e).1)
      exact ⟨⟨k + 1, by omega, by go_num, Lib.hid (by rw [upList_succ]; exact hown5), Lib.hid (HBW.out.trans (hgB.toBelow hsz (fun _ h => h)))⟩, by simp [intOf]; omega⟩
    · have : n = k := by omega
      subst this
      obtain ⟨g, cg, rfl, hgB, hcl⟩ := own_cla HOW.out hn
      have HCL := Lib.hid hcl
      clear hcl HOW
      go_wp2_with fail
      go_loopg [] (sumN (fun v => (v : Int)) n) (fun m wx => ∃ cl, sumN cl n ≤ m ∧ Hid (ClaI n cs cl) ∧ Hid (ClaW g n cl wx) ∧ Hid (Below w.heap.size w wx))
      case atStart => exact ⟨_, Nat.le_refl _, Lib.hid (ClaI.start n cs), HCL, HBW⟩
      case round =>
        obtain ⟨cl0, hm, HI0, HC0, HB0⟩ := hrel
        go_wp2_with fail
        go_loopw [7, 8] (fun s7 s8 wx => ∃ (i : Nat) (cl : Nat → Int) (ch : Bool), i ≤ cs.length ∧ s7 = .bool ch ∧ s8 = .int .i64 i ∧ Hid (MidP n cs cl0 cl ch i 0) ∧ Hid (ClaI n cs cl) ∧ Hid (ClaW g n cl wx) ∧ Hid (Below w.heap.size w wx)) (fun _ s8 _ => cs.length - (intOf s8).toNat)
        case atStart => exact ⟨0, cl0, false, Nat.zero_le _, rfl, rfl, Lib.hid (.inr ⟨rfl, rfl, fun j c hj => absurd hj (by omega), fun j l c d _ hj => absurd hj (by omega)⟩), HI0, HC0, HB0⟩
        case round =>
          obtain ⟨i, cl, ch, hi2, rfl, rfl, HMP, HIN, HCW, HBE⟩ := hrel
          by_cases hlt : i < cs.length
          · obtain ⟨ga, ca, rfl, hga, hca⟩ := H.out (by omega)
            obtain ⟨x, hx⟩ : ∃ x, cs[i]? = some x := ⟨cs[i], by simp [hlt]⟩
            have hrx := HR.out x (List.mem_of_getElem? hx)
            have hxa := right_a hrx
            obtain ⟨an, han⟩ := Int.eq_ofNat_of_zero_le hxa.1
            have HGC := Lib.hid (below_keep HBE.out hga)
            have HX := Lib.hid (And.intro hx hrx)
            have q0 := Lib.hid (hca i x hx 0 (by omega))
            have q1 := Lib.hid (hca i x hx 1 (by omega))
            have q2 := Lib.hid (hca i x hx 2 (by omega))
            clear hga hca hx hrx hxa
            go_upto_region 10 with fail
            go_cut [45] (fun s45 wx => ∃ (b : Bool) (dl : Nat → Int), s45 = .bool b ∧ Hid (OneP n cl dl x b) ∧ Hid (ClaI n cs dl) ∧ Hid (ClaW g n dl wx) ∧ Hid (Below w.heap.size w wx))
            case first =>
              by_cases hk1 : x.kind = 1
              · have ek : (x.kind == 1) = true := by simpa using hk1
                have hxb := right_b HX.out.2 (.inl hk1)
                obtain ⟨bn, hbn⟩ := Int.eq_ofNat_of_zero_le hxb.1
                have han2 : an < n := by have := right_a HX.out.2; omega
                have hbn2 : bn < n := by omega
                have HK := Lib.hid (And.intro hk1 (And.intro han hbn))
                have r1 := Lib.hid (show ca[i * 4 + 1]? = some (.int .i64 (an : Int)) by rw [q1.out, ← han]; rfl)
                have r2 := Lib.hid (show ca[i * 4 + 2]? = some (.int .i64 (bn : Int)) by rw [q2.out, ← hbn]; rfl)
                clear hk1 hxb hbn han
                refine wp_region_relyT [] 18 (factOf [isV ((.slice (some ⟨ga, 0, none⟩) cs.length cap)), isV ((.int .i64 (i : Int))), isV ((.pointer (some ⟨ga, i * 4, none⟩))), isV ((.pointer (some ⟨ga, i * 4, none⟩))), isV ((.int .i64 x.kind)), isV ((.bool true)), isV ((.bool true)), isV ((.slice (some ⟨g, 0, none⟩) n cg)), isV ((.slice (some ⟨ga, 0, none⟩) cs.length cap)), isV ((.int .i64 (i : Int))), isV ((.pointer (some ⟨ga, i * 4, none⟩))), isV ((.pointer (some ⟨ga, i * 4 + 1, none⟩))), isV ((.int .i64 (an : Int))), isV ((.slice (some ⟨ga, 0, none⟩) cs.length cap)), isV ((.int .i64 (i : Int))), isV ((.pointer (some ⟨ga, i * 4, none⟩))), isV ((.pointer (some ⟨ga, i * 4 + 2, none⟩))), isV ((.int .i64 (bn : Int)))]) (nth [[0], [1], [2], [3], [4], [5], [6], [7], [8], [9], [10], [11], [12], [13], [14], [15], [16], [17]]) (nth [[], [], [], [], [], [], [], [], [], [], [], [], [], [], [], [], [], []]) (nth [[], [], [0, 1], [2], [3], [4], [5], [6], [6], [6], [8, 9, 6], [10, 6], [11, 6], [6], [6], [13, 14, 6], [15, 6], [16, 6]]) [6, 7, 12, 17] (fun w5 => Turn (fun _ => False) wr w5) (by kernel_rfl) (by kernel_rfl) ((Turn.refl _ _).drew) (fun w w' h hb => h.trans (Turn.ofBelow (bs := fun _ => False) hb) (fun _ _ h => h.elim)) (GrowsAll.of ((GrowsAll.cons (Grows.isV _)  (GrowsAll.cons (Grows.isV _)  (GrowsAll.cons (Grows.isV _)  (GrowsAll.cons (Grows.isV _)  (GrowsAll.cons (Grows.isV _)  (GrowsAll.cons (Grows.isV _)  (GrowsAll.cons (Grows.isV _)  (GrowsAll.cons (Grows.isV _)  (GrowsAll.cons (Grows.isV _)  (GrowsAll.cons (Grows.isV _)  (GrowsAll.cons (Grows.isV _)  (GrowsAll.cons (Grows.isV _)  (GrowsAll.cons (Grows.isV _)  (GrowsAll.cons (Grows.isV _)  (GrowsAll.cons (Grows.isV _)  (GrowsAll.cons (Grows.isV _)  (GrowsAll.cons (Grows.isV _)  (GrowsAll.cons (Grows.isV _) GrowsAll.nil)))))))))))))))))))) (fun f F hF => ?_)
                simp only [List.take_succ_cons, List.take_zero, fullGo, Act.put, List.setIfInBounds_toArray, List.set_cons_zero, List.set_cons_succ, Nat.reduceAdd] at hF
                subst hF
                refine ⟨StepObsF.cons ?_ (StepObsF.cons ?_ (StepObsF.cons ?_ (StepObsF.cons ?_ (StepObsF.cons ?_ (StepObsF.cons ?_ (StepObsF.cons ?_ (StepObsF.cons ?_ (StepObsF.cons ?_ (StepObsF.cons ?_ (StepObsF.cons ?_ (StepObsF.cons ?_ (StepObsF.cons ?_ (StepObsF.cons ?_ (StepObsF.cons ?_ (StepObsF.cons ?_ (StepObsF.cons ?_ (StepObsF.cons ?_ (StepObsF.nil)))))))))))))))))), ?_⟩
                · intro w5 hS hF hD K hK
                  rw [if_pos (by rfl)]
                  refine wp_of_quiet (v := (.slice (some ⟨ga, 0, none⟩) cs.length cap)) (by (show _ = _); kernel_rfl) (hK.out _ _ rfl (After.lit rfl rfl rfl ?_))
                  first | rfl | kernel_rfl
                · intro w5 hS hF hD K hK
                  rw [if_pos (by rfl)]
                  refine wp_of_quiet (v := (.int .i64 (i : Int))) (by (show _ = _); kernel_rfl) (hK.out _ _ rfl (After.lit rfl rfl rfl ?_))
                  first | rfl | kernel_rfl
                · intro w5 hS hF hD K hK
                  obtain ⟨e0, e1, -⟩ := hF
                  replace e0 : f 0 = _ := e0
                  replace e1 : f 1 = _ := e1
                  try simp only [e0, e1]
                  rw [if_pos (by rfl)]
                  go_simp
                  refine hK.out _ _ rfl (After.lit rfl rfl rfl ?_)
                  first | rfl | kernel_rfl
                · intro w5 hS hF hD K hK
                  obtain ⟨e2, -⟩ := hF
                  replace e2 : f 2 = _ := e2
                  try simp only [e2]
                  rw [if_pos (by rfl)]
                  refine wp_of_quiet (v := (.pointer (some ⟨ga, i * 4, none⟩))) (by (show _ = _); kernel_rfl) (hK.out _ _ rfl (After.lit rfl rfl rfl ?_))
                  first | rfl | kernel_rfl
                · intro w5 hS hF hD K hK
                  obtain ⟨e3, -⟩ := hF
                  replace e3 : f 3 = _ := e3
                  try simp only [e3]
                  rw [if_pos (by rfl)]
                  exact wp_of_quiet (exec_load_at _ _ rfl _ _ rfl _ _ _ (hS.heap HGC.out (fun h => h)) ((.int .i64 x.kind)) (q0.out) (fun _ => by kernel_rfl)) (hK.out _ _ rfl (After.lit rfl rfl rfl (by first | rfl | kernel_rfl)))
                · intro w5 hS hF hD K hK
                  obtain ⟨e4, -⟩ := hF
                  replace e4 : f 4 = _ := e4
                  try simp only [e4]
                  rw [if_pos (by rfl)]
                  go_simp
                  refine hK.out _ _ rfl (After.lit rfl rfl rfl ?_)
                  first | rfl | kernel_rfl
                · intro w5 hS hF hD K hK
                  obtain ⟨e5, -⟩ := hF
                  replace e5 : f 5 = _ := e5
                  try simp only [e5]
                  rw [if_pos (by rfl)]
                  refine wp_of_quiet (v := (.bool true)) (by (show _ = _); kernel_rfl) (hK.out _ _ rfl (After.lit rfl rfl rfl ?_))
                  first | rfl | kernel_rfl
                · intro w5 hS hF hD K hK
                  obtain ⟨e6, -⟩ := hF
                  replace e6 : f 6 = _ := e6
                  try simp only [e6]
                  rw [if_pos (by rfl)]
                  refine wp_of_quiet (v := (.slice (some ⟨g, 0, none⟩) n cg)) (by (show _ = _); kernel_rfl) (hK.out _ _ rfl (After.lit rfl rfl rfl ?_))
                  first | rfl | kernel_rfl
                · intro w5 hS hF hD K hK
                  obtain ⟨e6, -⟩ := hF
                  replace e6 : f 6 = _ := e6
                  try simp only [e6]
                  rw [if_pos (by rfl)]
                  refine wp_of_quiet (v := (.slice (some ⟨ga, 0, none⟩) cs.length cap)) (by (show _ = _); kernel_rfl) (hK.out _ _ rfl (After.lit rfl rfl rfl ?_))
                  first | rfl | kernel_rfl
                · intro w5 hS hF hD K hK
                  obtain ⟨e6, -⟩ := hF
                  replace e6 : f 6 = _ := e6
                  try simp only [e6]
                  rw [if_pos (by rfl)]
                  refine wp_of_quiet (v := (.int .i64 (i : Int))) (by (show _ = _); kernel_rfl) (hK.out _ _ rfl (After.lit rfl rfl rfl ?_))
                  first | rfl | kernel_rfl
                · intro w5 hS hF hD K hK
                  obtain ⟨e8, e9, e6, -⟩ := hF
                  replace e8 : f 8 = _ := e8
                  replace e9 : f 9 = _ := e9
                  replace e6 : f 6 = _ := e6
                  try simp only [e8, e9, e6]
                  rw [if_pos (by rfl)]
                  go_simp
                  refine hK.out _ _ rfl (After.lit rfl rfl rfl ?_)
                  first | rfl | kernel_rfl
                · intro w5 hS hF hD K hK
                  obtain ⟨e10, e6, -⟩ := hF
                  replace e10 : f 10 = _ := e10
                  replace e6 : f 6 = _ := e6
                  try simp only [e10, e6]
                  rw [if_pos (by rfl)]
                  refine wp_of_quiet (v := (.pointer (some ⟨ga, i * 4 + 1, none⟩))) (by (show _ = _); kernel_rfl) (hK.out _ _ rfl (After.lit rfl rfl rfl ?_))
                  first | rfl | kernel_rfl
                · intro w5 hS hF hD K hK
                  obtain ⟨e11, e6, -⟩ := hF
                  replace e11 : f 11 = _ := e11
                  replace e6 : f 6 = _ := e6
                  try simp only [e11, e6]
                  rw [if_pos (by rfl)]
                  exact wp_of_quiet (exec_load_at _ _ rfl _ _ rfl _ _ _ (hS.heap HGC.out (fun h => h)) ((.int .i64 (an : Int))) (r1.out) (fun _ => by kernel_rfl)) (hK.out _ _ rfl (After.lit rfl rfl rfl (by first | rfl | kernel_rfl)))
                · intro w5 hS hF hD K hK
                  obtain ⟨e6, -⟩ := hF
                  replace e6 : f 6 = _ := e6
                  try simp only [e6]
                  rw [if_pos (by rfl)]
                  refine wp_of_quiet (v := (.slice (some ⟨ga, 0, none⟩) cs.length cap)) (by (show _ = _); kernel_rfl) (hK.out _ _ rfl (After.lit rfl rfl rfl ?_))
                  first | rfl | kernel_rfl
                · intro w5 hS hF hD K hK
                  obtain ⟨e6, -⟩ := hF
                  replace e6 : f 6 = _ := e6
                  try simp only [e6]
                  rw [if_pos (by rfl)]
                  refine wp_of_quiet (v := (.int .i64 (i : Int))) (by (show _ = _); kernel_rfl) (hK.out _ _ rfl (After.lit rfl rfl rfl ?_))
                  first | rfl | kernel_rfl
                · intro w5 hS hF hD K hK
                  obtain ⟨e13, e14, e6, -⟩ := hF
                  replace e13 : f 13 = _ := e13
                  replace e14 : f 14 = _ := e14
                  replace e6 : f 6 = _ := e6
                  try simp only [e13, e14, e6]
                  rw [if_pos (by rfl)]
                  go_simp
                  refine hK.out _ _ rfl (After.lit rfl rfl rfl ?_)
                  first | rfl | kernel_rfl
                · intro w5 hS hF hD K hK
                  obtain ⟨e15, e6, -⟩ := hF
                  replace e15 : f 15 = _ := e15
                  replace e6 : f 6 = _ := e6
                  try simp only [e15, e6]
                  rw [if_pos (by rfl)]
                  refine wp_of_quiet (v := (.pointer (some ⟨ga, i * 4 + 2, none⟩))) (by (show _ = _); kernel_rfl) (hK.out _ _ rfl (After.lit rfl rfl rfl ?_))
                  first | rfl | kernel_rfl
                · intro w5 hS hF hD K hK
                  obtain ⟨e16, e6, -⟩ := hF
                  replace e16 : f 16 = _ := e16
                  replace e6 : f 6 = _ := e6
                  try simp only [e16, e6]
                  rw [if_pos (by rfl)]
                  exact wp_of_quiet (exec_load_at _ _ rfl _ _ rfl _ _ _ (hS.heap HGC.out (fun h => h)) ((.int .i64 (bn : Int))) (r2.out) (fun _ => by kernel_rfl)) (hK.out _ _ rfl (After.lit rfl rfl rfl (by first | rfl | kernel_rfl)))
                intro w5 hS hF
                obtain ⟨e6, e7, e12, e17, -⟩ := hF
                replace e6 : f 6 = _ := e6
                replace e7 : f 7 = _ := e7
                replace e12 : f 12 = _ := e12
                replace e17 : f 17 = _ := e17
                try simp only [e6, e7, e12, e17]
                simp only [List.drop_succ_cons, List.drop_zero]
                have HS5 := Lib.hid hS
                have HU := Lib.hid (runite_any g n cg hn2 cl an bn han2 hbn2 w5 (HCW.out.turn hS (fun h => h)))
                clear hS
                go_wp2_with (go_at_call 53; refine (HU.out).mono ?_; rintro e w6 ⟨ht6, ⟨rfl, hq, hc6⟩ | ⟨rfl, hq, hc6⟩⟩)
                · go_meet
                  case rel => exact ⟨false, cl, rfl, Lib.hid (.inr ⟨rfl, rfl, fun _ => by rw [HK.out.2.1, HK.out.2.2]; simpa using hq⟩), HIN, Lib.hid hc6, Lib.hid (HBE.out.trans ((HS5.out.toBelow HBE.out.size (fun _ h => h.elim)).trans (ht6.toBelow (Nat.le_trans HBE.out.size HS5.out.size) (fun k hk => by omega))))⟩
                · have h9 := HIN.out.unite han2 hbn2 (by have h8 := Cong.same (cs := cs) (List.mem_of_getElem? HX.out.1) HK.out.1; rw [HK.out.2.1, HK.out.2.2] at h8; exact h8) hq
                  go_meet
                  case rel => exact ⟨true, _, rfl, Lib.hid (.inl ⟨rfl, h9.2⟩), Lib.hid h9.1, Lib.hid hc6, Lib.hid (HBE.out.trans ((HS5.out.toBelow HBE.out.size (fun _ h => h.elim)).trans (ht6.toBelow (Nat.le_trans HBE.out.size HS5.out.size) (fun k hk => by omega))))⟩
              · have ek : (x.kind == 1) = false := by simpa using hk1
                have HK := Lib.hid hk1
                clear hk1
                refine wp_region_relyT [] 19 (factOf [isV ((.slice (some ⟨ga, 0, none⟩) cs.length cap)), isV ((.int .i64 (i : Int))), isV ((.pointer (some ⟨ga, i * 4, none⟩))), isV ((.pointer (some ⟨ga, i * 4, none⟩))), isV ((.int .i64 x.kind)), isV ((.bool false)), isV ((.bool false)), isV undef, isV undef, isV undef, isV undef, isV undef, isV undef, isV undef, isV undef, isV undef, isV undef, isV undef, isV undef]) (nth [[0], [1], [2], [3], [4], [5], [6], [7], [8], [9], [10], [11], [12], [13], [14], [15], [16], [17], [18]]) (nth [[], [], [], [], [], [], [], [], [], [], [], [], [], [], [], [], [], [], []]) (nth [[], [], [0, 1], [2], [3], [4], [5], [6], [6], [6], [6], [6], [6], [6], [6], [6], [6], [6], [6]]) [6] (fun w5 => Turn (fun _ => False) wr w5) (by kernel_rfl) (by kernel_rfl) ((Turn.refl _ _).drew) (fun w w' h hb => h.trans (Turn.ofBelow (bs := fun _ => False) hb) (fun _ _ h => h.elim)) (GrowsAll.of ((GrowsAll.cons (Grows.isV _)  (GrowsAll.cons (Grows.isV _)  (GrowsAll.cons (Grows.isV _)  (GrowsAll.cons (Grows.isV _)  (GrowsAll.cons (Grows.isV _)  (GrowsAll.cons (Grows.isV _)  (GrowsAll.cons (Grows.isV _)  (GrowsAll.cons (Grows.isV _)  (GrowsAll.cons (Grows.isV _)  (GrowsAll.cons (Grows.isV _)  (GrowsAll.cons (Grows.isV _)  (GrowsAll.cons (Grows.isV _)  (GrowsAll.cons (Grows.isV _)  (GrowsAll.cons (Grows.isV _)  (GrowsAll.cons (Grows.isV _)  (GrowsAll.cons (Grows.isV _)  (GrowsAll.cons (Grows.isV _)  (GrowsAll.cons (Grows.isV _)  (GrowsAll.cons (Grows.isV _) GrowsAll.nil))))))))))))))))))))) (fun f F hF => ?_)
                simp only [List.take_succ_cons, List.take_zero, fullGo, Act.put, List.setIfInBounds_toArray, List.set_cons_zero, List.set_cons_succ, Nat.reduceAdd] at hF
                subst hF
                refine ⟨StepObsF.cons ?_ (StepObsF.cons ?_ (StepObsF.cons ?_ (StepObsF.cons ?_ (StepObsF.cons ?_ (StepObsF.cons ?_ (StepObsF.cons ?_ (StepObsF.cons ?_ (StepObsF.cons ?_ (StepObsF.cons ?_ (StepObsF.cons ?_ (StepObsF.cons ?_ (StepObsF.cons ?_ (StepObsF.cons ?_ (StepObsF.cons ?_ (StepObsF.cons ?_ (StepObsF.cons ?_ (StepObsF.cons ?_ (StepObsF.cons ?_ (StepObsF.nil))))))))))))))))))), ?_⟩
                · intro w5 hS hF hD K hK
                  rw [if_pos (by rfl)]
                  refine wp_of_quiet (v := (.slice (some ⟨ga, 0, none⟩) cs.length cap)) (by (show _ = _); kernel_rfl) (hK.out _ _ rfl (After.lit rfl rfl rfl ?_))
                  first | rfl | kernel_rfl
                · intro w5 hS hF hD K hK
                  rw [if_pos (by rfl)]
                  refine wp_of_quiet (v := (.int .i64 (i : Int))) (by (show _ = _); kernel_rfl) (hK.out _ _ rfl (After.lit rfl rfl rfl ?_))
                  first | rfl | kernel_rfl
                · intro w5 hS hF hD K hK
                  obtain ⟨e0, e1, -⟩ := hF
                  replace e0 : f 0 = _ := e0
                  replace e1 : f 1 = _ := e1
                  try simp only [e0, e1]
                  rw [if_pos (by rfl)]
                  go_simp
                  refine hK.out _ _ rfl (After.lit rfl rfl rfl ?_)
                  first | rfl | kernel_rfl
                · intro w5 hS hF hD K hK
                  obtain ⟨e2, -⟩ := hF
                  replace e2 : f 2 = _ := e2
                  try simp only [e2]
                  rw [if_pos (by rfl)]
                  refine wp_of_quiet (v := (.pointer (some ⟨ga, i * 4, none⟩))) (by (show _ = _); kernel_rfl) (hK.out _ _ rfl (After.lit rfl rfl rfl ?_))
                  first | rfl | kernel_rfl
                · intro w5 hS hF hD K hK
                  obtain ⟨e3, -⟩ := hF
                  replace e3 : f 3 = _ := e3
                  try simp only [e3]
                  rw [if_pos (by rfl)]
                  exact wp_of_quiet (exec_load_at _ _ rfl _ _ rfl _ _ _ (hS.heap HGC.out (fun h => h)) ((.int .i64 x.kind)) (q0.out) (fun _ => by kernel_rfl)) (hK.out _ _ rfl (After.lit rfl rfl rfl (by first | rfl | kernel_rfl)))
                · intro w5 hS hF hD K hK
                  obtain ⟨e4, -⟩ := hF
                  replace e4 : f 4 = _ := e4
                  try simp only [e4]
                  rw [if_pos (by rfl)]
                  go_simp
                  refine hK.out _ _ rfl (After.lit rfl rfl rfl ?_)
                  first | rfl | kernel_rfl
                · intro w5 hS hF hD K hK
                  obtain ⟨e5, -⟩ := hF
                  replace e5 : f 5 = _ := e5
                  try simp only [e5]
                  rw [if_pos (by rfl)]
                  refine wp_of_quiet (v := (.bool false)) (by (show _ = _); kernel_rfl) (hK.out _ _ rfl (After.lit rfl rfl rfl ?_))
                  first | rfl | kernel_rfl
                · intro w5 hS hF hD K hK
                  obtain ⟨e6, -⟩ := hF
                  replace e6 : f 6 = _ := e6
                  try simp only [e6]
                  rw [if_neg (by (show ¬ (false = true)); exact Bool.false_ne_true)]
                  exact hK.out _ _ rfl (After.lit rfl rfl rfl (by first | rfl | kernel_rfl))
                · intro w5 hS hF hD K hK
                  obtain ⟨e6, -⟩ := hF
                  replace e6 : f 6 = _ := e6
                  try simp only [e6]
                  rw [if_neg (by (show ¬ (false = true)); exact Bool.false_ne_true)]
                  exact hK.out _ _ rfl (After.lit rfl rfl rfl (by first | rfl | kernel_rfl))
                · intro w5 hS hF hD K hK
                  obtain ⟨e6, -⟩ := hF
                  replace e6 : f 6 = _ := e6
                  try simp only [e6]
                  rw [if_neg (by (show ¬ (false = true)); exact Bool.false_ne_true)]
                  exact hK.out _ _ rfl (After.lit rfl rfl rfl (by first | rfl | kernel_rfl))
                · intro w5 hS hF hD K hK
                  obtain ⟨e6, -⟩ := hF
                  replace e6 : f 6 = _ := e6
                  try simp only [e6]
                  rw [if_neg (by (show ¬ (false = true)); exact Bool.false_ne_true)]
                  exact hK.out _ _ rfl (After.lit rfl rfl rfl (by first | rfl | kernel_rfl))
                · intro w5 hS hF hD K hK
                  obtain ⟨e6, -⟩ := hF
                  replace e6 : f 6 = _ := e6
                  try simp only [e6]
                  rw [if_neg (by (show ¬ (false = true)); exact Bool.false_ne_true)]
                  exact hK.out _ _ rfl (After.lit rfl rfl rfl (by first | rfl | kernel_rfl))
                · intro w5 hS hF hD K hK
                  obtain ⟨e6, -⟩ := hF
                  replace e6 : f 6 = _ := e6
                  try simp only [e6]
                  rw [if_neg (by (show ¬ (false = true)); exact Bool.false_ne_true)]
                  exact hK.out _ _ rfl (After.lit rfl rfl rfl (by first | rfl | kernel_rfl))
                · intro w5 hS hF hD K hK
                  obtain ⟨e6, -⟩ := hF
                  replace e6 : f 6 = _ := e6
                  try simp only [e6]
                  rw [if_neg (by (show ¬ (false = true)); exact Bool.false_ne_true)]
                  exact hK.out _ _ rfl (After.lit rfl rfl rfl (by first | rfl | kernel_rfl))
                · intro w5 hS hF hD K hK
                  obtain ⟨e6, -⟩ := hF
                  replace e6 : f 6 = _ := e6
                  try simp only [e6]
                  rw [if_neg (by (show ¬ (false = true)); exact Bool.false_ne_true)]
                  exact hK.out _ _ rfl (After.lit rfl rfl rfl (by first | rfl | kernel_rfl))
                · intro w5 hS hF hD K hK
                  obtain ⟨e6, -⟩ := hF
                  replace e6 : f 6 = _ := e6
                  try simp only [e6]
                  rw [if_neg (by (show ¬ (false = true)); exact Bool.false_ne_true)]
                  exact hK.out _ _ rfl (After.lit rfl rfl rfl (by first | rfl | kernel_rfl))
                · intro w5 hS hF hD K hK
                  obtain ⟨e6, -⟩ := hF
                  replace e6 : f 6 = _ := e6
                  try simp only [e6]
                  rw [if_neg (by (show ¬ (false = true)); exact Bool.false_ne_true)]
                  exact hK.out _ _ rfl (After.lit rfl rfl rfl (by first | rfl | kernel_rfl))
                · intro w5 hS hF hD K hK
                  obtain ⟨e6, -⟩ := hF
                  replace e6 : f 6 = _ := e6
                  try simp only [e6]
                  rw [if_neg (by (show ¬ (false = true)); exact Bool.false_ne_true)]
                  exact hK.out _ _ rfl (After.lit rfl rfl rfl (by first | rfl | kernel_rfl))
                · intro w5 hS hF hD K hK
                  obtain ⟨e6, -⟩ := hF
                  replace e6 : f 6 = _ := e6
                  try simp only [e6]
                  rw [if_neg (by (show ¬ (false = true)); exact Bool.false_ne_true)]
                  exact hK.out _ _ rfl (After.lit rfl rfl rfl (by first | rfl | kernel_rfl))
                intro w5 hS hF
                obtain ⟨e6, -⟩ := hF
                replace e6 : f 6 = _ := e6
                try simp only [e6]
                simp only [List.drop_succ_cons, List.drop_zero]
                have HS5 := Lib.hid hS
                clear hS
                go_wp2_with fail
                go_meet
                case rel => exact ⟨false, cl, rfl, Lib.hid (.inr ⟨rfl, rfl, fun h => absurd h HK.out⟩), HIN, Lib.hid (HCW.out.turn HS5.out (fun h => h)), Lib.hid (HBE.out.trans (HS5.out.toBelow HBE.out.size (fun _ h => h.elim)))⟩
            case rest =>
              obtain ⟨b, dl, rfl, HOP, HID, HCD, HBD⟩ := hcut
              have HMQ := Lib.hid (HMP.out.one HX.out.1 HOP.out)
              clear HIN HCW HBE HMP HOP HGC q0 q1 q2
              go_upto_if 45 with fail
              go_cut [7] (fun s7 wx => ∃ ch2 : Bool, s7 = .bool ch2 ∧ Hid (MidP n cs cl0 dl ch2 i 1) ∧ Hid (ClaW g n dl wx) ∧ Hid (Below w.heap.size w wx))
              case first =>
                cases b
                all_goals
                  go_wp2_with fail
                  go_meet
                case rel => exact ⟨ch, rfl, Lib.hid (by simpa using HMQ.out), HCD, HBD⟩
                case rel => exact ⟨true, rfl, Lib.hid (by simpa using HMQ.out), HCD, HBD⟩
              case rest =>
                obtain ⟨ch2, rfl, HM1, HCE, HBF⟩ := hcut
                clear HMQ HCD HBD
                go_wp2_with fail
                go_loopw [7, 9] (fun s7 s9 wx => ∃ (k : Nat) (dl : Nat → Int) (ch : Bool), k ≤ i ∧ s7 = .bool ch ∧ s9 = .int .i64 k ∧ Hid (MidP n cs cl0 dl ch i (k + 1)) ∧ Hid (ClaI n cs dl) ∧ Hid (ClaW g n dl wx) ∧ Hid (Below w.heap.size w wx)) (fun _ s9 _ => i - (intOf s9).toNat)
                case atStart => exact ⟨0, dl, ch2, Nat.zero_le _, rfl, rfl, HM1, HID, HCE, HBF⟩
                case round =>
                  clear HM1 HID HCE HBF
                  obtain ⟨k, dl, ch, hk2, rfl, rfl, HMP, HIN, HCW, HBE⟩ := hrel
                  by_cases hki : k < i
                  · obtain ⟨y, hy⟩ : ∃ y, cs[k]? = some y := ⟨cs[k]'(by omega), by simp⟩
                    obtain ⟨g2, c2, e2, hga, hca⟩ := H.out (by omega)
                    cases e2
                    have hry := HR.out y (List.mem_of_getElem? hy)
                    have hya := right_a hry
                    obtain ⟨yn, hyn⟩ := Int.eq_ofNat_of_zero_le hya.1
                    have HGC := Lib.hid (below_keep HBE.out hga)
                    have HXE := Lib.hid (con_extract (hca i x HX.out.1))
                    have HYE := Lib.hid (con_extract (hca k y hy))
                    have HY := Lib.hid (And.intro hy hry)
                    have hana : an < n := by have := right_a HX.out.2; omega
                    have hyna : yn < n := by omega
                    have HJ := Lib.hid (fun W (hc : ClaW g n dl W) => rjoined_any g n cg hn2 dl x y an yn hana hyna han hyn W hc)
                    clear hy hga hca hry hya
                    have hkc : k < cs.length := by omega
                    go_upto_region 15 with fail
                    refine wp_region_relyT [] 9 (factOf [isV ((.slice (some ⟨g, 0, none⟩) n cg)), isV ((.slice (some ⟨ga, 0, none⟩) cs.length cap)), isV ((.int .i64 (i : Int))), isV ((.pointer (some ⟨ga, i * 4, none⟩))), isV ((.agg (conCells x))), isV ((.slice (some ⟨ga, 0, none⟩) cs.length cap)), isV ((.int .i64 (k : Int))), isV ((.pointer (some ⟨ga, k * 4, none⟩))), isV ((.agg (conCells y)))]) (nth [[0], [1], [2], [3], [4], [5], [6], [7], [8]]) (nth [[], [], [], [], [], [], [], [], []]) (nth [[], [], [], [1, 2], [3], [], [], [5, 6], [7]]) [0, 4, 8] (fun w5 => Turn (fun _ => False) wr w5) (by kernel_rfl) (by kernel_rfl) ((Turn.refl _ _).drew) (fun w w' h hb => h.trans (Turn.ofBelow (bs := fun _ => False) hb) (fun _ _ h => h.elim)) (GrowsAll.of ((GrowsAll.cons (Grows.isV _)  (GrowsAll.cons (Grows.isV _)  (GrowsAll.cons (Grows.isV _)  (GrowsAll.cons (Grows.isV _)  (GrowsAll.cons (Grows.isV _)  (GrowsAll.cons (Grows.isV _)  (GrowsAll.cons (Grows.isV _)  (GrowsAll.cons (Grows.isV _)  (GrowsAll.cons (Grows.isV _) GrowsAll.nil))))))))))) (fun f F hF => ?_)
                    simp only [List.take_succ_cons, List.take_zero, fullGo, Act.put, List.setIfInBounds_toArray, List.set_cons_zero, List.set_cons_succ, Nat.reduceAdd] at hF
                    subst hF
                    refine ⟨StepObsF.cons ?_ (StepObsF.cons ?_ (StepObsF.cons ?_ (StepObsF.cons ?_ (StepObsF.cons ?_ (StepObsF.cons ?_ (StepObsF.cons ?_ (StepObsF.cons ?_ (StepObsF.cons ?_ (StepObsF.nil))))))))), ?_⟩
                    · intro w5 hS hF hD K hK
                      rw [if_pos (by rfl)]
                      refine wp_of_quiet (v := (.slice (some ⟨g, 0, none⟩) n cg)) (by (show _ = _); kernel_rfl) (hK.out _ _ rfl (After.lit rfl rfl rfl ?_))
                      first | rfl | kernel_rfl
                    · intro w5 hS hF hD K hK
                      rw [if_pos (by rfl)]
                      refine wp_of_quiet (v := (.slice (some ⟨ga, 0, none⟩) cs.length cap)) (by (show _ = _); kernel_rfl) (hK.out _ _ rfl (After.lit rfl rfl rfl ?_))
                      first | rfl | kernel_rfl
                    · intro w5 hS hF hD K hK
                      rw [if_pos (by rfl)]
                      refine wp_of_quiet (v := (.int .i64 (i : Int))) (by (show _ = _); kernel_rfl) (hK.out _ _ rfl (After.lit rfl rfl rfl ?_))
                      first | rfl | kernel_rfl
                    · intro w5 hS hF hD K hK
                      obtain ⟨e1, e2, -⟩ := hF
                      replace e1 : f 1 = _ := e1
                      replace e2 : f 2 = _ := e2
                      try simp only [e1, e2]
                      rw [if_pos (by rfl)]
                      go_simp
                      refine hK.out _ _ rfl (After.lit rfl rfl rfl ?_)
                      first | rfl | kernel_rfl
                    · intro w5 hS hF hD K hK
                      obtain ⟨e3, -⟩ := hF
                      replace e3 : f 3 = _ := e3
                      try simp only [e3]
                      rw [if_pos (by rfl)]
                      exact wp_of_quiet (exec_load_midB _ _ rfl _ _ rfl _ _ _ (hS.heap HGC.out (fun h => h)) (conCells x).toList HXE.out (by kernel_rfl)) (hK.out _ _ rfl (After.lit rfl rfl rfl (by first | rfl | kernel_rfl)))
                    · intro w5 hS hF hD K hK
                      rw [if_pos (by rfl)]
                      refine wp_of_quiet (v := (.slice (some ⟨ga, 0, none⟩) cs.length cap)) (by (show _ = _); kernel_rfl) (hK.out _ _ rfl (After.lit rfl rfl rfl ?_))
                      first | rfl | kernel_rfl
                    · intro w5 hS hF hD K hK
                      rw [if_pos (by rfl)]
                      refine wp_of_quiet (v := (.int .i64 (k : Int))) (by (show _ = _); kernel_rfl) (hK.out _ _ rfl (After.lit rfl rfl rfl ?_))
                      first | rfl | kernel_rfl
                    · intro w5 hS hF hD K hK
                      obtain ⟨e5, e6, -⟩ := hF
                      replace e5 : f 5 = _ := e5
                      replace e6 : f 6 = _ := e6
                      try simp only [e5, e6]
                      rw [if_pos (by rfl)]
                      go_simp
                      refine hK.out _ _ rfl (After.lit rfl rfl rfl ?_)
                      first | rfl | kernel_rfl
                    · intro w5 hS hF hD K hK
                      obtain ⟨e7, -⟩ := hF
                      replace e7 : f 7 = _ := e7
                      try simp only [e7]
                      rw [if_pos (by rfl)]
                      exact wp_of_quiet (exec_load_midB _ _ rfl _ _ rfl _ _ _ (hS.heap HGC.out (fun h => h)) (conCells y).toList HYE.out (by kernel_rfl)) (hK.out _ _ rfl (After.lit rfl rfl rfl (by first | rfl | kernel_rfl)))
                    intro w5 hS hF
                    obtain ⟨e0, e4, e8, -⟩ := hF
                    replace e0 : f 0 = _ := e0
                    replace e4 : f 4 = _ := e4
                    replace e8 : f 8 = _ := e8
                    try simp only [e0, e4, e8]
                    simp only [List.drop_succ_cons, List.drop_zero]
                    have HS5 := Lib.hid hS
                    clear hS
                    go_upto_region 16 with (go_at_call 54; refine (HJ.out _ (HCW.out.turn HS5.out (fun h => h))).mono ?_; rintro e w6 ⟨hb6, bb, rfl, hbb⟩)
                    have hbl6 : Below w.heap.size w w6 := (HBE.out.trans (HS5.out.toBelow HBE.out.size (fun _ h => h.elim))).trans (hb6.mono (Nat.le_trans HBE.out.size HS5.out.size))
                    have HB6 := Lib.hid hbl6
                    have HC6 := Lib.hid ((HCW.out.turn HS5.out (fun h => h)).turn (Turn.ofBelow (bs := fun _ => False) hb6) (fun h => h))
                    have HG6 := Lib.hid (below_cells (HS5.out.heap HGC.out (fun h => h)) hb6)
                    have HBB := Lib.hid hbb
                    clear hb6 hbl6 hbb HJ HXE HYE
                    go_cut [75] (fun s75 wx => ∃ (b : Bool) (el : Nat → Int), s75 = .bool b ∧ Hid (TwoP n dl el x y an yn b) ∧ Hid (ClaI n cs el) ∧ Hid (ClaW g n el wx) ∧ Hid (Below w.heap.size w wx))
                    case first =>
                      cases bb
                      · refine wp_region_relyT [] 14 (factOf [isV ((.bool false)), isV ((.bool false)), isV undef, isV undef, isV undef, isV undef, isV undef, isV undef, isV undef, isV undef, isV undef, isV undef, isV undef, isV undef]) (nth [[0], [1], [2], [3], [4], [5], [6], [7], [8], [9], [10], [11], [12], [13]]) (nth [[], [], [], [], [], [], [], [], [], [], [], [], [], []]) (nth [[], [0], [1], [1], [1], [1], [1], [1], [1], [1], [1], [1], [1], [1]]) [1] (fun w7 => Turn (fun _ => False) w6 w7) (by kernel_rfl) (by kernel_rfl) ((Turn.refl _ _).drew) (fun w w' h hb => h.trans (Turn.ofBelow (bs := fun _ => False) hb) (fun _ _ h => h.elim)) (GrowsAll.of ((GrowsAll.cons (Grows.isV _)  (GrowsAll.cons (Grows.isV _)  (GrowsAll.cons (Grows.isV _)  (GrowsAll.cons (Grows.isV _)  (GrowsAll.cons (Grows.isV _)  (GrowsAll.cons (Grows.isV _)  (GrowsAll.cons (Grows.isV _)  (GrowsAll.cons (Grows.isV _)  (GrowsAll.cons (Grows.isV _)  (GrowsAll.cons (Grows.isV _)  (GrowsAll.cons (Grows.isV _)  (GrowsAll.cons (Grows.isV _)  (GrowsAll.cons (Grows.isV _)  (GrowsAll.cons (Grows.isV _) GrowsAll.nil)))))))))))))))) (fun f F hF => ?_)
                        simp only [List.take_succ_cons, List.take_zero, fullGo, Act.put, List.setIfInBounds_toArray, List.set_cons_zero, List.set_cons_succ, Nat.reduceAdd] at hF
                        subst hF
                        refine ⟨StepObsF.cons ?_ (StepObsF.cons ?_ (StepObsF.cons ?_ (StepObsF.cons ?_ (StepObsF.cons ?_ (StepObsF.cons ?_ (StepObsF.cons ?_ (StepObsF.cons ?_ (StepObsF.cons ?_ (StepObsF.cons ?_ (StepObsF.cons ?_ (StepObsF.cons ?_ (StepObsF.cons ?_ (StepObsF.cons ?_ (StepObsF.nil)))))))))))))), ?_⟩
                        · intro w7 hS hF hD K hK
                          rw [if_pos (by rfl)]
                          refine wp_of_quiet (v := (.bool false)) (by (show _ = _); kernel_rfl) (hK.out _ _ rfl (After.lit rfl rfl rfl ?_))
                          first | rfl | kernel_rfl
                        · intro w7 hS hF hD K hK
                          obtain ⟨e0, -⟩ := hF
                          replace e0 : f 0 = _ := e0
                          try simp only [e0]
                          rw [if_pos (by rfl)]
                          refine wp_of_quiet (v := (.bool false)) (by (show _ = _); kernel_rfl) (hK.out _ _ rfl (After.lit rfl rfl rfl ?_))
                          first | rfl | kernel_rfl
                        · intro w7 hS hF hD K hK
                          obtain ⟨e1, -⟩ := hF
                          replace e1 : f 1 = _ := e1
                          try simp only [e1]
                          rw [if_neg (by (show ¬ (false = true)); exact Bool.false_ne_true)]
                          exact hK.out _ _ rfl (After.lit rfl rfl rfl (by first | rfl | kernel_rfl))
                        · intro w7 hS hF hD K hK
                          obtain ⟨e1, -⟩ := hF
                          replace e1 : f 1 = _ := e1
                          try simp only [e1]
                          rw [if_neg (by (show ¬ (false = true)); exact Bool.false_ne_true)]
                          exact hK.out _ _ rfl (After.lit rfl rfl rfl (by first | rfl | kernel_rfl))
                        · intro w7 hS hF hD K hK
                          obtain ⟨e1, -⟩ := hF
                          replace e1 : f 1 = _ := e1
                          try simp only [e1]
                          rw [if_neg (by (show ¬ (false = true)); exact Bool.false_ne_true)]
                          exact hK.out _ _ rfl (After.lit rfl rfl rfl (by first | rfl | kernel_rfl))
                        · intro w7 hS hF hD K hK
                          obtain ⟨e1, -⟩ := hF
                          replace e1 : f 1 = _ := e1
                          try simp only [e1]
                          rw [if_neg (by (show ¬ (false = true)); exact Bool.false_ne_true)]
                          exact hK.out _ _ rfl (After.lit rfl rfl rfl (by first | rfl | kernel_rfl))
                        · intro w7 hS hF hD K hK
                          obtain ⟨e1, -⟩ := hF
                          replace e1 : f 1 = _ := e1
                          try simp only [e1]
                          rw [if_neg (by (show ¬ (false = true)); exact Bool.false_ne_true)]
                          exact hK.out _ _ rfl (After.lit rfl rfl rfl (by first | rfl | kernel_rfl))
                        · intro w7 hS hF hD K hK
                          obtain ⟨e1, -⟩ := hF
                          replace e1 : f 1 = _ := e1
                          try simp only [e1]
                          rw [if_neg (by (show ¬ (false = true)); exact Bool.false_ne_true)]
                          exact hK.out _ _ rfl (After.lit rfl rfl rfl (by first | rfl | kernel_rfl))
                        · intro w7 hS hF hD K hK
                          obtain ⟨e1, -⟩ := hF
                          replace e1 : f 1 = _ := e1
                          try simp only [e1]
                          rw [if_neg (by (show ¬ (false = true)); exact Bool.false_ne_true)]
                          exact hK.out _ _ rfl (After.lit rfl rfl rfl (by first | rfl | kernel_rfl))
                        · intro w7 hS hF hD K hK
                          obtain ⟨e1, -⟩ := hF
                          replace e1 : f 1 = _ := e1
                          try simp only [e1]
                          rw [if_neg (by (show ¬ (false = true)); exact Bool.false_ne_true)]
                          exact hK.out _ _ rfl (After.lit rfl rfl rfl (by first | rfl | kernel_rfl))
                        · intro w7 hS hF hD K hK
                          obtain ⟨e1, -⟩ := hF
                          replace e1 : f 1 = _ := e1
                          try simp only [e1]
                          rw [if_neg (by (show ¬ (false = true)); exact Bool.false_ne_true)]
                          exact hK.out _ _ rfl (After.lit rfl rfl rfl (by first | rfl | kernel_rfl))
                        · intro w7 hS hF hD K hK
                          obtain ⟨e1, -⟩ := hF
                          replace e1 : f 1 = _ := e1
                          try simp only [e1]
                          rw [if_neg (by (show ¬ (false = true)); exact Bool.false_ne_true)]
                          exact hK.out _ _ rfl (After.lit rfl rfl rfl (by first | rfl | kernel_rfl))
                        · intro w7 hS hF hD K hK
                          obtain ⟨e1, -⟩ := hF
                          replace e1 : f 1 = _ := e1
                          try simp only [e1]
                          rw [if_neg (by (show ¬ (false = true)); exact Bool.false_ne_true)]
                          exact hK.out _ _ rfl (After.lit rfl rfl rfl (by first | rfl | kernel_rfl))
                        · intro w7 hS hF hD K hK
                          obtain ⟨e1, -⟩ := hF
                          replace e1 : f 1 = _ := e1
                          try simp only [e1]
                          rw [if_neg (by (show ¬ (false = true)); exact Bool.false_ne_true)]
                          exact hK.out _ _ rfl (After.lit rfl rfl rfl (by first | rfl | kernel_rfl))
                        intro w7 hS hF
                        obtain ⟨e1, -⟩ := hF
                        replace e1 : f 1 = _ := e1
                        try simp only [e1]
                        simp only [List.drop_succ_cons, List.drop_zero]
                        have HS7 := Lib.hid hS
                        clear hS
                        go_wp2_with fail
                        go_meet
                        case rel => exact ⟨false, dl, rfl, Lib.hid (.inr ⟨rfl, rfl, fun hj => by have h9 := HBB.out.2 hj; cases h9⟩), HIN, Lib.hid (HC6.out.turn HS7.out (fun h => h)), Lib.hid (HB6.out.trans (HS7.out.toBelow HB6.out.size (fun _ h => h.elim)))⟩
                      · have hjn := HBB.out.1 (by first | rfl | trivial)
                        have hkx : x.kind = 5 ∨ x.kind = 6 ∨ x.kind = 7 := by have := hjn.2.2; omega
                        have hxb := right_b HX.out.2 (by omega)
                        have hyb := right_b HY.out.2 (by have := hjn.1; omega)
                        obtain ⟨xb, hxb2⟩ := Int.eq_ofNat_of_zero_le hxb.1
                        obtain ⟨yb, hyb2⟩ := Int.eq_ofNat_of_zero_le hyb.1
                        have hxbn : xb < n := by omega
                        have hybn : yb < n := by omega
                        have HJN := Lib.hid (And.intro hjn (And.intro hxb2 hyb2))
                        obtain ⟨g3, c3, e3, hga3, hca3⟩ := H.out (by omega)
                        cases e3
                        have HG3 := Lib.hid hga3
                        have HG7 := Lib.hid (below_keep HB6.out hga3)
                        have r1 := Lib.hid (show c3[i * 4 + 2]? = some (.int .i64 (xb : Int)) by rw [hca3 i x HX.out.1 2 (by omega), ← hxb2]; rfl)
                        have r2 := Lib.hid (show c3[k * 4 + 2]? = some (.int .i64 (yb : Int)) by rw [hca3 k y HY.out.1 2 (by omega), ← hyb2]; rfl)
                        clear hjn hkx hxb hyb hxb2 hyb2 hga3 hca3
                        refine wp_region_relyT [] 13 (factOf [isV ((.bool true)), isV ((.bool true)), isV ((.slice (some ⟨g, 0, none⟩) n cg)), isV ((.slice (some ⟨ga, 0, none⟩) cs.length cap)), isV ((.int .i64 (i : Int))), isV ((.pointer (some ⟨ga, i * 4, none⟩))), isV ((.pointer (some ⟨ga, i * 4 + 2, none⟩))), isV ((.int .i64 (xb : Int))), isV ((.slice (some ⟨ga, 0, none⟩) cs.length cap)), isV ((.int .i64 (k : Int))), isV ((.pointer (some ⟨ga, k * 4, none⟩))), isV ((.pointer (some ⟨ga, k * 4 + 2, none⟩))), isV ((.int .i64 (yb : Int)))]) (nth [[0], [1], [2], [3], [4], [5], [6], [7], [8], [9], [10], [11], [12]]) (nth [[], [], [], [], [], [], [], [], [], [], [], [], []]) (nth [[], [0], [1], [1], [1], [3, 4, 1], [5, 1], [6, 1], [1], [1], [8, 9, 1], [10, 1], [11, 1]]) [1, 2, 7, 12] (fun w7 => Turn (fun _ => False) w6 w7) (by kernel_rfl) (by kernel_rfl) ((Turn.refl _ _).drew) (fun w w' h hb => h.trans (Turn.ofBelow (bs := fun _ => False) hb) (fun _ _ h => h.elim)) (GrowsAll.of ((GrowsAll.cons (Grows.isV _)  (GrowsAll.cons (Grows.isV _)  (GrowsAll.cons (Grows.isV _)  (GrowsAll.cons (Grows.isV _)  (GrowsAll.cons (Grows.isV _)  (GrowsAll.cons (Grows.isV _)  (GrowsAll.cons (Grows.isV _)  (GrowsAll.cons (Grows.isV _)  (GrowsAll.cons (Grows.isV _)  (GrowsAll.cons (Grows.isV _)  (GrowsAll.cons (Grows.isV _)  (GrowsAll.cons (Grows.isV _)  (GrowsAll.cons (Grows.isV _) GrowsAll.nil))))))))))))))) (fun f F hF => ?_)
                        simp only [List.take_succ_cons, List.take_zero, fullGo, Act.put, List.setIfInBounds_toArray, List.set_cons_zero, List.set_cons_succ, Nat.reduceAdd] at hF
                        subst hF
                        refine ⟨StepObsF.cons ?_ (StepObsF.cons ?_ (StepObsF.cons ?_ (StepObsF.cons ?_ (StepObsF.cons ?_ (StepObsF.cons ?_ (StepObsF.cons ?_ (StepObsF.cons ?_ (StepObsF.cons ?_ (StepObsF.cons ?_ (StepObsF.cons ?_ (StepObsF.cons ?_ (StepObsF.cons ?_ (StepObsF.nil))))))))))))), ?_⟩
                        · intro w7 hS hF hD K hK
                          rw [if_pos (by rfl)]
                          refine wp_of_quiet (v := (.bool true)) (by (show _ = _); kernel_rfl) (hK.out _ _ rfl (After.lit rfl rfl rfl ?_))
                          first | rfl | kernel_rfl
                        · intro w7 hS hF hD K hK
                          obtain ⟨e0, -⟩ := hF
                          replace e0 : f 0 = _ := e0
                          try simp only [e0]
                          rw [if_pos (by rfl)]
                          refine wp_of_quiet (v := (.bool true)) (by (show _ = _); kernel_rfl) (hK.out _ _ rfl (After.lit rfl rfl rfl ?_))
                          first | rfl | kernel_rfl
                        · intro w7 hS hF hD K hK
                          obtain ⟨e1, -⟩ := hF
                          replace e1 : f 1 = _ := e1
                          try simp only [e1]
                          rw [if_pos (by rfl)]
                          refine wp_of_quiet (v := (.slice (some ⟨g, 0, none⟩) n cg)) (by (show _ = _); kernel_rfl) (hK.out _ _ rfl (After.lit rfl rfl rfl ?_))
                          first | rfl | kernel_rfl
                        · intro w7 hS hF hD K hK
                          obtain ⟨e1, -⟩ := hF
                          replace e1 : f 1 = _ := e1
                          try simp only [e1]
                          rw [if_pos (by rfl)]
                          refine wp_of_quiet (v := (.slice (some ⟨ga, 0, none⟩) cs.length cap)) (by (show _ = _); kernel_rfl) (hK.out _ _ rfl (After.lit rfl rfl rfl ?_))
                          first | rfl | kernel_rfl
                        · intro w7 hS hF hD K hK
                          obtain ⟨e1, -⟩ := hF
                          replace e1 : f 1 = _ := e1
                          try simp only [e1]
                          rw [if_pos (by rfl)]
                          refine wp_of_quiet (v := (.int .i64 (i : Int))) (by (show _ = _); kernel_rfl) (hK.out _ _ rfl (After.lit rfl rfl rfl ?_))
                          first | rfl | kernel_rfl
                        · intro w7 hS hF hD K hK
                          obtain ⟨e3, e4, e1, -⟩ := hF
                          replace e3 : f 3 = _ := e3
                          replace e4 : f 4 = _ := e4
                          replace e1 : f 1 = _ := e1
                          try simp only [e3, e4, e1]
                          rw [if_pos (by rfl)]
                          go_simp
                          refine hK.out _ _ rfl (After.lit rfl rfl rfl ?_)
                          first | rfl | kernel_rfl
                        · intro w7 hS hF hD K hK
                          obtain ⟨e5, e1, -⟩ := hF
                          replace e5 : f 5 = _ := e5
                          replace e1 : f 1 = _ := e1
                          try simp only [e5, e1]
                          rw [if_pos (by rfl)]
                          refine wp_of_quiet (v := (.pointer (some ⟨ga, i * 4 + 2, none⟩))) (by (show _ = _); kernel_rfl) (hK.out _ _ rfl (After.lit rfl rfl rfl ?_))
                          first | rfl | kernel_rfl
                        · intro w7 hS hF hD K hK
                          obtain ⟨e6, e1, -⟩ := hF
                          replace e6 : f 6 = _ := e6
                          replace e1 : f 1 = _ := e1
                          try simp only [e6, e1]
                          rw [if_pos (by rfl)]
                          exact wp_of_quiet (exec_load_at _ _ rfl _ _ rfl _ _ _ (hS.heap HG7.out (fun h => h)) ((.int .i64 (xb : Int))) (r1.out) (fun _ => by kernel_rfl)) (hK.out _ _ rfl (After.lit rfl rfl rfl (by first | rfl | kernel_rfl)))
                        · intro w7 hS hF hD K hK
                          obtain ⟨e1, -⟩ := hF
                          replace e1 : f 1 = _ := e1
                          try simp only [e1]
                          rw [if_pos (by rfl)]
                          refine wp_of_quiet (v := (.slice (some ⟨ga, 0, none⟩) cs.length cap)) (by (show _ = _); kernel_rfl) (hK.out _ _ rfl (After.lit rfl rfl rfl ?_))
                          first | rfl | kernel_rfl
                        · intro w7 hS hF hD K hK
                          obtain ⟨e1, -⟩ := hF
                          replace e1 : f 1 = _ := e1
                          try simp only [e1]
                          rw [if_pos (by rfl)]
                          refine wp_of_quiet (v := (.int .i64 (k : Int))) (by (show _ = _); kernel_rfl) (hK.out _ _ rfl (After.lit rfl rfl rfl ?_))
                          first | rfl | kernel_rfl
                        · intro w7 hS hF hD K hK
                          obtain ⟨e8, e9, e1, -⟩ := hF
                          replace e8 : f 8 = _ := e8
                          replace e9 : f 9 = _ := e9
                          replace e1 : f 1 = _ := e1
                          try simp only [e8, e9, e1]
                          rw [if_pos (by rfl)]
                          go_simp
                          refine hK.out _ _ rfl (After.lit rfl rfl rfl ?_)
                          first | rfl | kernel_rfl
                        · intro w7 hS hF hD K hK
                          obtain ⟨e10, e1, -⟩ := hF
                          replace e10 : f 10 = _ := e10
                          replace e1 : f 1 = _ := e1
                          try simp only [e10, e1]
                          rw [if_pos (by rfl)]
                          refine wp_of_quiet (v := (.pointer (some ⟨ga, k * 4 + 2, none⟩))) (by (show _ = _); kernel_rfl) (hK.out _ _ rfl (After.lit rfl rfl rfl ?_))
                          first | rfl | kernel_rfl
                        · intro w7 hS hF hD K hK
                          obtain ⟨e11, e1, -⟩ := hF
                          replace e11 : f 11 = _ := e11
                          replace e1 : f 1 = _ := e1
                          try simp only [e11, e1]
                          rw [if_pos (by rfl)]
                          exact wp_of_quiet (exec_load_at _ _ rfl _ _ rfl _ _ _ (hS.heap HG7.out (fun h => h)) ((.int .i64 (yb : Int))) (r2.out) (fun _ => by kernel_rfl)) (hK.out _ _ rfl (After.lit rfl rfl rfl (by first | rfl | kernel_rfl)))
                        intro w7 hS hF
                        obtain ⟨e1, e2, e7, e12, -⟩ := hF
                        replace e1 : f 1 = _ := e1
                        replace e2 : f 2 = _ := e2
                        replace e7 : f 7 = _ := e7
                        replace e12 : f 12 = _ := e12
                        try simp only [e1, e2, e7, e12]
                        simp only [List.drop_succ_cons, List.drop_zero]
                        have HS7 := Lib.hid hS
                        have HU := Lib.hid (runite_any g n cg hn2 dl xb yb hxbn hybn w7 (HC6.out.turn hS (fun h => h)))
                        clear hS
                        go_wp2_with (go_at_call 53; refine (HU.out).mono ?_; rintro e w8 ⟨ht8, ⟨rfl, hq, hc8⟩ | ⟨rfl, hq, hc8⟩⟩)
                        · go_meet
                          case rel => exact ⟨false, dl, rfl, Lib.hid (.inr ⟨rfl, rfl, fun _ => by rw [HJN.out.2.1, HJN.out.2.2]; simpa using hq⟩), HIN, Lib.hid hc8, Lib.hid (HB6.out.trans ((HS7.out.toBelow HB6.out.size (fun _ h => h.elim)).trans (ht8.toBelow (Nat.le_trans HB6.out.size HS7.out.size) (fun k hk => by omega))))⟩
                        · have h9 := HIN.out.unite hxbn hybn (by
                            have h8 := Cong.step (cs := cs) (List.mem_of_getElem? HX.out.1) (List.mem_of_getElem? HY.out.1) ⟨HJN.out.1.1, HJN.out.1.2.2⟩ ((HIN.out.sound an hana).trans (by have h7 := (HIN.out.sound yn hyna).symm; rw [← HJN.out.1.2.1] at h7; exact h7) |> fun q => by rw [han, hyn]; exact q)
                            rw [HJN.out.2.1, HJN.out.2.2] at h8; exact h8) hq
                          go_meet
                          case rel => exact ⟨true, _, rfl, Lib.hid (.inl ⟨rfl, h9.2⟩), Lib.hid h9.1, Lib.hid hc8, Lib.hid (HB6.out.trans ((HS7.out.toBelow HB6.out.size (fun _ h => h.elim)).trans (ht8.toBelow (Nat.le_trans HB6.out.size HS7.out.size) (fun k hk => by omega))))⟩
                    case rest =>
                      obtain ⟨b, el, rfl, HOP, HID, HCD, HBD⟩ := hcut
                      have HMQ := Lib.hid (HMP.out.two HX.out.1 HY.out.1 hki han hyn HOP.out)
                      cases b
                      · go_wp2_with fail
                        exact ⟨⟨k + 1, el, ch, by omega, rfl, by go_num, Lib.hid (by simpa using HMQ.out), HID, HCD, HBD⟩, by simp [intOf]; omega⟩
                      · go_wp2_with fail
                        exact ⟨⟨k + 1, el, true, by omega, rfl, by go_num, Lib.hid (by simpa using HMQ.out), HID, HCD, HBD⟩, by simp [intOf]; omega⟩
                  · have : k = i := by omega
                    subst this
                    go_wp2_with fail
                    exact ⟨⟨k + 1, dl, ch, by omega, rfl, by go_num, Lib.hid HMP.out.next, HIN, HCW, HBE⟩, by simp [intOf]; omega⟩
          · have : i = cs.length := by omega
            subst this
            cases ch
            · go_wp2_with fail
              go_ret
              have h9 := HMP.out.shut
              exact ⟨HBE.out, g, cg, cl, hgB, rfl, HCW.out, HIN.out, h9.2⟩
            · have hlt2 : sumN cl n < sumN cl0 n := by
                rcases HMP.out with ⟨-, h⟩ | ⟨h, -⟩
                · exact h
                · cases h
              go_wp2_with fail
              go_roundg (sumN cl n)
              case measure => omega
              case rel => exact ⟨cl, Nat.le_refl _, HIN, HCW, HBE⟩
end Go.Proofs.YtepmgnhblegiiaaDoor
