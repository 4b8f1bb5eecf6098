/- solved: what the program says of a variable. No condition beyond what each states. -/
import Derived.Test.YtepmgnhblegiiaaDoorSrt
import Derived.Test.YtepmgnhblegiiaaDoorRelyT
import Derived.Test.YtepmgnhblegiiaaDoorFit
set_option linter.all false
namespace Go.Proofs.YtepmgnhblegiiaaDoor
open Go Go.RowKit Go.Maps

/-- A value of which Q held in a world from which but bs was turned. -/
def isVT (bs : Nat → Prop) (Q : Value → World → Prop) : Fct := fun vs w => match vs with | [v] => ∃ w0, Q v w0 ∧ Turn bs w0 w | _ => False
theorem Grows.isVT (bs : Nat → Prop) (Q : Value → World → Prop) : Grows (isVT bs Q) := fun vs w w' h hb => by
  match vs, h with
  | [v], ⟨w0, h1, h2⟩ => exact ⟨w0, h1, h2.trans (Turn.ofBelow (bs := fun _ => False) hb) (fun _ _ h => h.elim)⟩
theorem StaysW.isVT {w w' : World} {bs : Nat → Prop} {Q : Value → World → Prop} {l : List Fct} (t : Turn bs w w') (h : StaysW w w' l) : StaysW w w' (isVT bs Q :: l) := ⟨fun vs h => by
  match vs, h with
  | [v], ⟨w0, h1, h2⟩ => exact ⟨w0, h1, h2.trans t (fun _ _ h => h)⟩, h⟩
theorem After.litT {al : List Nat} {n : Nat} {l : List Fct} {rd : List (List Nat)} {drops : Nat → List Nat} {S : World → Prop} {i : Nat} {f : Nat → Value} {w w' : World} {v : Value} {bs : Nat → Prop} {Q : Value → World → Prop} (hi : l[i]? = some (isVT bs Q)) (hr : rd[i]? = some [i]) (hal : al.contains i = false) (hsz : w.heap.size ≤ w'.heap.size) (hS : S w') (hst : StaysW w w' l) (hp : Q v w') : After al n (factOf l) (nth rd) drops S i f w v w' := by
  refine ⟨?_, .inr ⟨hsz, hS, fun j _ _ _ h => hst.of j _ h⟩, fun e => by rw [hal] at e; cases e⟩
  simp only [factOf, hi, nth, hr, List.map_cons, List.map_nil, upd_same]
  exact ⟨w', hp, Turn.refl _ _⟩

/-- find of a variable, or of none. -/
def FoundP (L : Lay) (p q : Int) (rt : Int → Int) : Prop := (p = -1 ∧ q = -1) ∨ ((0 ≤ p ∧ p < L.n) ∧ rt p = q)
theorem find_opt (L : Lay) {rt : Int → Int} {of : Int → Cls} {clash : Bool} (w : World) (h : SolW L rt of clash w) (p q : Int) (hp : FoundP L p q rt) :
    Calls Tryd.prog 42 #[.pointer (some ⟨L.gs, 0, none⟩), .int .i64 p] w fun e w' => e = .returned (.int .i64 q) ∧ SolW L rt of clash w' ∧ Turn (fun k => k = L.gu) w w' := by
  rcases hp with ⟨rfl, rfl⟩ | ⟨⟨h0, h1⟩, rfl⟩
  · exact (find_none L w).mono fun e w' ⟨h1, h2⟩ => ⟨h1, h2 ▸ h, h2 ▸ Turn.refl _ _⟩
  · obtain ⟨v, rfl⟩ := Int.eq_ofNat_of_zero_le h0
    exact find_any L w h v (by omega)

theorem cls_extract {L : Lay} {of : Int → Cls} {c : Array Value} (h : ∀ v, v < L.n → ∀ j, j < 6 → c[v * 6 + j]? = (clsCells (of v) (L.gm v))[j]?) (v : Nat) (hv : v < L.n) : (c.extract (v * 6) (v * 6 + (clsCells (of v) (L.gm v)).toList.length)).toList = (clsCells (of v) (L.gm v)).toList := by
  have h5 : c[v * 6 + 5]? = some (.map (some (L.gm v))) := h v hv 5 (by omega)
  have hs : v * 6 + 5 < c.size := (Array.getElem?_eq_some_iff.1 h5).1
  have hl : (clsCells (of v) (L.gm v)).toList.length = 6 := rfl
  apply List.ext_getElem?
  intro j
  rw [Array.getElem?_toList, Array.getElem?_extract, hl, Array.getElem?_toList]
  match j with
  | 0 => rw [if_pos (by omega)]; exact h v hv 0 (by omega)
  | 1 => rw [if_pos (by omega)]; exact h v hv 1 (by omega)
  | 2 => rw [if_pos (by omega)]; exact h v hv 2 (by omega)
  | 3 => rw [if_pos (by omega)]; exact h v hv 3 (by omega)
  | 4 => rw [if_pos (by omega)]; exact h v hv 4 (by omega)
  | 5 => rw [if_pos (by omega)]; exact h v hv 5 (by omega)
  | j + 6 => rw [if_neg (by omega)]; rfl
theorem own_mono {w : World} {B C : Nat} {e : TypeId} {s : Nat} {v : Value} {n : Nat} {xs : List Value} (h : w.ownsRow C e s v n xs) (hB : B ≤ C) : w.ownsRow B e s v n xs := by
  obtain ⟨h1, h2⟩ := h
  refine ⟨h1, ?_⟩
  rcases h2 with h2 | ⟨g, cap, cur, rfl, hC, r⟩
  · exact .inl h2
  · exact .inr ⟨g, cap, cur, rfl, Nat.le_trans hB hC, r⟩
def SldQ (B : Nat) (rt : Int → Int) (F : Int → Option Int) (val : Value) (w : World) : Prop :=
  ∃ ms, w.ownsRow B 46 2 val ms.length (mv ms) ∧ ms.length ≤ 65536 ∧ ms.Pairwise (fun x y => x.1 < y.1) ∧ ∀ o f, (o, f) ∈ ms ↔ ∃ g, F o = some g ∧ f = rt g
/-- What solved answers. -/
def SldPost (L : Lay) (rt : Int → Int) (of : Int → Cls) (clash : Bool) (r : Int) (qp qe : Int) (w : World) (e : Ending) (w' : World) : Prop :=
  ∃ val ms, e = .returned (.agg #[.int .i64 r, .int .i64 (of r).size, .int .i64 (of r).sign, .int .i64 qp, .int .i64 qe, .int .i64 (of r).count, val]) ∧ SolW L rt of clash w' ∧ Turn (fun k => k = L.gu) w w' ∧ w'.ownsRow w.heap.size 46 2 val ms.length (mv ms) ∧ ms.length ≤ 65536 ∧ ms.Pairwise (fun x y => x.1 < y.1) ∧ ∀ o f, (o, f) ∈ ms ↔ ∃ g, (of r).fields o = some g ∧ f = rt g

set_option maxRecDepth 100000 in
set_option maxHeartbeats 2000000 in
theorem solved_any (L : Lay) (rt : Int → Int) (of : Int → Cls) (clash : Bool) (w : World) (v : Nat) (hv : v < L.n) (r : Nat) (hr : rt v = r) (hrn : r < L.n) (h : SolW L rt of clash w) (qp qe : Int) (hqp : FoundP L (of r).ptr qp rt) (hqe : FoundP L (of r).elem qe rt) (hF : ∀ o f, (of r).fields o = some f → (0 ≤ o ∧ o < 65536) ∧ (0 ≤ f ∧ f < L.n)) :
    Calls Tryd.prog 31 #[.pointer (some ⟨L.gs, 0, none⟩), .int .i64 v] w (SldPost L rt of clash r qp qe w) := by
  have hlim := L.lim
  have hol : ∀ k, L.own k → k < w.heap.size := fun k hk => h.lt hk
  obtain ⟨W, hW⟩ : ∃ W, W = (w.alloc (.cells #[.pointer (some ⟨L.gs, 0, none⟩)] 56)).alloc (.cells #[.int .i64 0, .int .i64 0, .int .i64 0, .int .i64 0, .int .i64 0, .int .i64 0, .slice none 0 0] 44) := ⟨_, rfl⟩
  have hS : SolW L rt of clash W := by rw [hW]; exact (h.alloc _).alloc _
  have hT : Turn (fun k => k = L.gu) w W := by rw [hW]; exact ((Turn.refl _ _).alloc _).alloc _
  have b1 : W.heap[w.heap.size]? = some (.cells #[.pointer (some ⟨L.gs, 0, none⟩)] 56 (0, 0)) := by
    rw [hW, alloc_other _ _ (by simp)]; exact heap_alloc_new _ _
  have b2 : W.heap[w.heap.size + 1]? = some (.cells #[.int .i64 0, .int .i64 0, .int .i64 0, .int .i64 0, .int .i64 0, .int .i64 0, .slice none 0 0] 44 (0, 0)) := by
    have := heap_alloc_new (w.alloc (.cells #[.pointer (some ⟨L.gs, 0, none⟩)] 56)) (.cells #[.int .i64 0, .int .i64 0, .int .i64 0, .int .i64 0, .int .i64 0, .int .i64 0, .slice none 0 0] 44)
    rw [hW]; simpa using this
  have HW := Lib.hid (And.intro hT (And.intro hS (And.intro b1 b2)))
  have H := Lib.hid h
  have HF := Lib.hid hF
  have HOL := Lib.hid hol
  have HR := Lib.hid hr
  have HQP := Lib.hid hqp
  have HQE := Lib.hid hqe
  have HFD := Lib.hid (find_nat L _ hS v r hv hr)
  rw [hW] at HW HFD
  have hou := hol _ (.inr (.inl rfl))
  clear hT hS b1 b2 hW W h hF hol hr hqp hqe
  have hn1 : ¬ w.heap.size = L.gu := by omega
  have hn2 : ¬ w.heap.size + 1 = L.gu := by omega
  go_enter Tryd.func31, Tryd.ntmps31
  go_upto_region 2 with (go_at_call 42; refine (HFD.out).mono ?_; rintro e w4 ⟨rfl, hs4, ht4⟩; have HS4 := Lib.hid hs4; have HT4 := Lib.hid ht4; clear hs4 ht4)
  have c1 := cell_of_one (HT4.out.heap HW.out.2.2.1 hn1)
  have s1 := HS4.out.s1
  obtain ⟨co, hgo, hco⟩ := HS4.out.o
  have HEX := Lib.hid (cls_extract hco r hrn)
  have HGA := Lib.hid hgo
  clear hgo hco
  go_upto_region 3 with (first | (refine wpList_val (by rfl) (exec_load_midB 71 _ rfl L.go (r * 6) rfl co 71 (0, 0) HGA.out (clsCells (of r) (L.gm r)).toList HEX.out (by kernel_rfl)) ?_) | (refine wpList_store_row rfl _ _ _ rfl _ _ rfl rfl _ _ (heap_alloc_new _ _) ?_ ?_ ?_ ?_; kernel_rfl; rfl; kernel_rfl; rw [World.setRow_alloc_new]))
  obtain ⟨W, hW⟩ : ∃ W, W = w4.alloc (.cells (clsCells (of r) (L.gm r)) 71) := ⟨_, rfl⟩
  obtain ⟨B, hB⟩ : ∃ B, B = w4.heap.size := ⟨_, rfl⟩
  have hV1 : SolW L rt of clash W := by rw [hW]; exact HS4.out.alloc _
  have hV2 : Turn (fun k => k = L.gu) w W := by rw [hW]; exact (HW.out.1.trans HT4.out (fun _ _ e => e)).alloc _
  have hV3 : W.heap[w.heap.size]? = some (.cells #[.pointer (some ⟨L.gs, 0, none⟩)] 56 (0, 0)) := by
    have h9 := HT4.out.heap HW.out.2.2.1 hn1
    rw [hW, alloc_other _ _ (Array.getElem?_eq_some_iff.1 h9).1]; exact h9
  have hV4 : W.heap[w.heap.size + 1]? = some (.cells #[.int .i64 0, .int .i64 0, .int .i64 0, .int .i64 0, .int .i64 0, .int .i64 0, .slice none 0 0] 44 (0, 0)) := by
    have h9 := HT4.out.heap HW.out.2.2.2 hn2
    rw [hW, alloc_other _ _ (Array.getElem?_eq_some_iff.1 h9).1]; exact h9
  have hV5 : W.heap[B]? = some (.cells (clsCells (of r) (L.gm r)) 71 (0, 0)) := by rw [hW, hB]; exact heap_alloc_new _ _
  have hBg : ¬ B = L.gu := by
    have h9 := HT4.out.size
    have h8 : w.heap.size + 1 < w4.heap.size := (Array.getElem?_eq_some_iff.1 (HT4.out.heap HW.out.2.2.2 hn2)).1
    omega
  have HV := Lib.hid (And.intro hV1 (And.intro hV2 (And.intro hV3 (And.intro hV4 hV5))))
  rw [← hW, ← hB]
  clear hV1 hV2 hV3 hV4 hV5 hW hB HW HFD HS4 HT4 HGA HEX c1 s1
  refine wp_region_relyT [] 19 (factOf [isV ((.int .i64 (r : Int))), isV ((.pointer (some ⟨B, 0, none⟩))), isV ((.int .i64 (of r).size)), isV ((.pointer (some ⟨B, 1, none⟩))), isV ((.int .i64 (of r).sign)), isV ((.pointer (some ⟨L.gs, 0, none⟩))), isV ((.pointer (some ⟨B, 2, none⟩))), isV ((.int .i64 (of r).ptr)), isV ((.int .i64 qp)), isV ((.pointer (some ⟨L.gs, 0, none⟩))), isV ((.pointer (some ⟨B, 3, none⟩))), isV ((.int .i64 (of r).elem)), isV ((.int .i64 qe)), isV ((.pointer (some ⟨B, 4, none⟩))), isV ((.int .i64 (of r).count)), isV ((.pointer (some ⟨B, 5, none⟩))), isV ((.map (some (L.gm r)))), isV ((.func (.func 45) #[] #[.pointer (some ⟨w.heap.size, 0, none⟩)])), isVT ((fun k => k = L.gu)) (SldQ W.heap.size rt (of r).fields)]) (nth [[0], [1], [2], [3], [4], [5], [6], [7], [8], [9], [10], [11], [12], [13], [14], [15], [16], [17], [18]]) (nth [[], [], [], [], [], [], [], [], [], [], [], [], [], [], [], [], [], [], []]) (nth [[], [], [1], [], [3], [], [], [6], [5, 7], [], [], [10], [9, 11, 8], [], [13], [], [15], [], [16, 17, 12]]) [0, 2, 4, 8, 12, 14, 18] (fun w5 => SolW L rt of clash w5 ∧ Turn (fun k => k = L.gu) W w5) (by kernel_rfl) (by kernel_rfl) (⟨HV.out.1.drew, (Turn.refl _ _).drew⟩) (fun w w' h hb => ⟨h.1.turn (Turn.ofBelow (bs := fun _ => False) hb) (fun _ h => h.elim), h.2.trans (Turn.ofBelow (bs := fun _ => False) hb) (fun _ _ h => h.elim)⟩) (GrowsAll.of ((GrowsAll.cons (Grows.isV _)  (GrowsAll.cons (Grows.isV _)  (GrowsAll.cons (Grows.isV _)  (GrowsAll.cons (Grows.isV _)  (GrowsAll.cons (Grows.isV _)  (GrowsAll.cons (Grows.isV _)  (GrowsAll.cons (Grows.isV _)  (GrowsAll.cons (Grows.isV _)  (GrowsAll.cons (Grows.isV _)  (GrowsAll.cons (Grows.isV _)  (GrowsAll.cons (Grows.isV _)  (GrowsAll.cons (Grows.isV _)  (GrowsAll.cons (Grows.isV _)  (GrowsAll.cons (Grows.isV _)  (GrowsAll.cons (Grows.isV _)  (GrowsAll.cons (Grows.isV _)  (GrowsAll.cons (Grows.isV _)  (GrowsAll.cons (Grows.isV _)  (GrowsAll.cons (Grows.isVT _ _) GrowsAll.nil))))))))))))))))))))) (fun f F hF => ?_)
  simp only [List.take_succ_cons, List.take_zero, fullGo, Act.put, List.setIfInBounds_toArray, List.set_cons_zero, List.set_cons_succ, Nat.reduceAdd] at hF
  subst hF
  refine ⟨StepObsF.cons ?_ (StepObsF.cons ?_ (StepObsF.cons ?_ (StepObsF.cons ?_ (StepObsF.cons ?_ (StepObsF.cons ?_ (StepObsF.cons ?_ (StepObsF.cons ?_ (StepObsF.cons ?_ (StepObsF.cons ?_ (StepObsF.cons ?_ (StepObsF.cons ?_ (StepObsF.cons ?_ (StepObsF.cons ?_ (StepObsF.cons ?_ (StepObsF.cons ?_ (StepObsF.cons ?_ (StepObsF.cons ?_ (StepObsF.cons ?_ (StepObsF.nil))))))))))))))))))), ?_⟩
  · intro w5 hS hF hD K hK
    rw [if_pos (by rfl)]
    refine wp_of_quiet (v := (.int .i64 (r : Int))) (by (show _ = _); kernel_rfl) (hK.out _ _ rfl (After.lit rfl rfl rfl ?_))
    first | rfl | kernel_rfl
  · intro w5 hS hF hD K hK
    rw [if_pos (by rfl)]
    refine wp_of_quiet (v := (.pointer (some ⟨B, 0, none⟩))) (by (show _ = _); kernel_rfl) (hK.out _ _ rfl (After.lit rfl rfl rfl ?_))
    first | rfl | kernel_rfl
  · intro w5 hS hF hD K hK
    obtain ⟨e1, -⟩ := hF
    replace e1 : f 1 = _ := e1
    try simp only [e1]
    rw [if_pos (by rfl)]
    exact wp_of_quiet (exec_load_at _ _ rfl _ _ rfl _ _ _ (hS.2.heap HV.out.2.2.2.2 hBg) ((.int .i64 (of r).size)) (by kernel_rfl) (fun _ => by kernel_rfl)) (hK.out _ _ rfl (After.lit rfl rfl rfl (by first | rfl | kernel_rfl)))
  · intro w5 hS hF hD K hK
    rw [if_pos (by rfl)]
    refine wp_of_quiet (v := (.pointer (some ⟨B, 1, none⟩))) (by (show _ = _); kernel_rfl) (hK.out _ _ rfl (After.lit rfl rfl rfl ?_))
    first | rfl | kernel_rfl
  · intro w5 hS hF hD K hK
    obtain ⟨e3, -⟩ := hF
    replace e3 : f 3 = _ := e3
    try simp only [e3]
    rw [if_pos (by rfl)]
    exact wp_of_quiet (exec_load_at _ _ rfl _ _ rfl _ _ _ (hS.2.heap HV.out.2.2.2.2 hBg) ((.int .i64 (of r).sign)) (by kernel_rfl) (fun _ => by kernel_rfl)) (hK.out _ _ rfl (After.lit rfl rfl rfl (by first | rfl | kernel_rfl)))
  · intro w5 hS hF hD K hK
    rw [if_pos (by rfl)]
    exact wp_of_quiet (exec_load_at _ _ rfl _ _ rfl _ _ _ (hS.2.heap HV.out.2.2.1 hn1) ((.pointer (some ⟨L.gs, 0, none⟩))) (by kernel_rfl) (fun _ => by kernel_rfl)) (hK.out _ _ rfl (After.lit rfl rfl rfl (by first | rfl | kernel_rfl)))
  · intro w5 hS hF hD K hK
    rw [if_pos (by rfl)]
    refine wp_of_quiet (v := (.pointer (some ⟨B, 2, none⟩))) (by (show _ = _); kernel_rfl) (hK.out _ _ rfl (After.lit rfl rfl rfl ?_))
    first | rfl | kernel_rfl
  · intro w5 hS hF hD K hK
    obtain ⟨e6, -⟩ := hF
    replace e6 : f 6 = _ := e6
    try simp only [e6]
    rw [if_pos (by rfl)]
    exact wp_of_quiet (exec_load_at _ _ rfl _ _ rfl _ _ _ (hS.2.heap HV.out.2.2.2.2 hBg) ((.int .i64 (of r).ptr)) (by kernel_rfl) (fun _ => by kernel_rfl)) (hK.out _ _ rfl (After.lit rfl rfl rfl (by first | rfl | kernel_rfl)))
  · intro w5 hS hF hD K hK
    obtain ⟨e5, e7, -⟩ := hF
    replace e5 : f 5 = _ := e5
    replace e7 : f 7 = _ := e7
    try simp only [e5, e7]
    rw [if_pos (by rfl)]
    go_simp
    refine (find_opt L _ hS.1 _ _ HQP.out).mono ?_; rintro e w3 ⟨rfl, hs3, ht3⟩; go_simp
    refine hK.out _ _ rfl (After.litS rfl rfl rfl (ht3.size) (⟨hs3, hS.2.trans ht3 (fun _ _ e => e)⟩) (StaysW.isV (StaysW.isV (StaysW.isV (StaysW.isV (StaysW.isV (StaysW.isV (StaysW.isV (StaysW.isV (StaysW.isV (StaysW.isV (StaysW.isV (StaysW.isV (StaysW.isV (StaysW.isV (StaysW.isV (StaysW.isV (StaysW.isV (StaysW.isV (StaysW.isVT (ht3) StaysW.nil))))))))))))))))))) ?_)
    first | rfl | kernel_rfl
  · intro w5 hS hF hD K hK
    rw [if_pos (by rfl)]
    exact wp_of_quiet (exec_load_at _ _ rfl _ _ rfl _ _ _ (hS.2.heap HV.out.2.2.1 hn1) ((.pointer (some ⟨L.gs, 0, none⟩))) (by kernel_rfl) (fun _ => by kernel_rfl)) (hK.out _ _ rfl (After.lit rfl rfl rfl (by first | rfl | kernel_rfl)))
  · intro w5 hS hF hD K hK
    rw [if_pos (by rfl)]
    refine wp_of_quiet (v := (.pointer (some ⟨B, 3, none⟩))) (by (show _ = _); kernel_rfl) (hK.out _ _ rfl (After.lit rfl rfl rfl ?_))
    first | rfl | kernel_rfl
  · intro w5 hS hF hD K hK
    obtain ⟨e10, -⟩ := hF
    replace e10 : f 10 = _ := e10
    try simp only [e10]
    rw [if_pos (by rfl)]
    exact wp_of_quiet (exec_load_at _ _ rfl _ _ rfl _ _ _ (hS.2.heap HV.out.2.2.2.2 hBg) ((.int .i64 (of r).elem)) (by kernel_rfl) (fun _ => by kernel_rfl)) (hK.out _ _ rfl (After.lit rfl rfl rfl (by first | rfl | kernel_rfl)))
  · intro w5 hS hF hD K hK
    obtain ⟨e9, e11, e8, -⟩ := hF
    replace e9 : f 9 = _ := e9
    replace e11 : f 11 = _ := e11
    replace e8 : f 8 = _ := e8
    try simp only [e9, e11, e8]
    rw [if_pos (by rfl)]
    go_simp
    refine (find_opt L _ hS.1 _ _ HQE.out).mono ?_; rintro e w3 ⟨rfl, hs3, ht3⟩; go_simp
    refine hK.out _ _ rfl (After.litS rfl rfl rfl (ht3.size) (⟨hs3, hS.2.trans ht3 (fun _ _ e => e)⟩) (StaysW.isV (StaysW.isV (StaysW.isV (StaysW.isV (StaysW.isV (StaysW.isV (StaysW.isV (StaysW.isV (StaysW.isV (StaysW.isV (StaysW.isV (StaysW.isV (StaysW.isV (StaysW.isV (StaysW.isV (StaysW.isV (StaysW.isV (StaysW.isV (StaysW.isVT (ht3) StaysW.nil))))))))))))))))))) ?_)
    first | rfl | kernel_rfl
  · intro w5 hS hF hD K hK
    rw [if_pos (by rfl)]
    refine wp_of_quiet (v := (.pointer (some ⟨B, 4, none⟩))) (by (show _ = _); kernel_rfl) (hK.out _ _ rfl (After.lit rfl rfl rfl ?_))
    first | rfl | kernel_rfl
  · intro w5 hS hF hD K hK
    obtain ⟨e13, -⟩ := hF
    replace e13 : f 13 = _ := e13
    try simp only [e13]
    rw [if_pos (by rfl)]
    exact wp_of_quiet (exec_load_at _ _ rfl _ _ rfl _ _ _ (hS.2.heap HV.out.2.2.2.2 hBg) ((.int .i64 (of r).count)) (by kernel_rfl) (fun _ => by kernel_rfl)) (hK.out _ _ rfl (After.lit rfl rfl rfl (by first | rfl | kernel_rfl)))
  · intro w5 hS hF hD K hK
    rw [if_pos (by rfl)]
    refine wp_of_quiet (v := (.pointer (some ⟨B, 5, none⟩))) (by (show _ = _); kernel_rfl) (hK.out _ _ rfl (After.lit rfl rfl rfl ?_))
    first | rfl | kernel_rfl
  · intro w5 hS hF hD K hK
    obtain ⟨e15, -⟩ := hF
    replace e15 : f 15 = _ := e15
    try simp only [e15]
    rw [if_pos (by rfl)]
    exact wp_of_quiet (exec_load_at _ _ rfl _ _ rfl _ _ _ (hS.2.heap HV.out.2.2.2.2 hBg) ((.map (some (L.gm r)))) (by kernel_rfl) (fun _ => by kernel_rfl)) (hK.out _ _ rfl (After.lit rfl rfl rfl (by first | rfl | kernel_rfl)))
  · intro w5 hS hF hD K hK
    rw [if_pos (by rfl)]
    refine wp_of_quiet (v := (.func (.func 45) #[] #[.pointer (some ⟨w.heap.size, 0, none⟩)])) (by (show _ = _); kernel_rfl) (hK.out _ _ rfl (After.lit rfl rfl rfl ?_))
    first | rfl | kernel_rfl
  · intro w5 hS hF hD K hK
    obtain ⟨e16, e17, e12, -⟩ := hF
    replace e16 : f 16 = _ := e16
    replace e17 : f 17 = _ := e17
    replace e12 : f 12 = _ := e12
    try simp only [e16, e17, e12]
    rw [if_pos (by rfl)]
    go_simp
    refine (sorted_any L rt of clash _ r hrn hS.1 HF.out _ _ (hS.2.heap HV.out.2.2.1 hn1)).mono ?_; rintro e w3 ⟨val, ms, rfl, hs3, ht3, hm1, hm2, hm3, hm4⟩; go_simp
    exact hK.out _ _ rfl (After.litT rfl rfl rfl (ht3.size) (⟨hs3, hS.2.trans ht3 (fun _ _ e => e)⟩) (StaysW.isV (StaysW.isV (StaysW.isV (StaysW.isV (StaysW.isV (StaysW.isV (StaysW.isV (StaysW.isV (StaysW.isV (StaysW.isV (StaysW.isV (StaysW.isV (StaysW.isV (StaysW.isV (StaysW.isV (StaysW.isV (StaysW.isV (StaysW.isV (StaysW.isVT (ht3) StaysW.nil))))))))))))))))))) (⟨ms, own_mono hm1 hS.2.size, hm2, hm3, hm4⟩))
  intro w5 hS hF
  obtain ⟨e0, e2, e4, e8, e12, e14, e18, -⟩ := hF
  replace e0 : f 0 = _ := e0
  replace e2 : f 2 = _ := e2
  replace e4 : f 4 = _ := e4
  replace e8 : f 8 = _ := e8
  replace e12 : f 12 = _ := e12
  replace e14 : f 14 = _ := e14
  obtain ⟨y18, p18, t18⟩ := e18
  try simp only [e0, e2, e4, e8, e12, e14]
  simp only [List.drop_succ_cons, List.drop_zero]
  obtain ⟨ms, m1, m2, m3, m4⟩ := p18
  generalize f 18 = val at *
  obtain ⟨sp, sc, hval⟩ := own_slice m1
  subst hval
  have HQ := Lib.hid (And.intro m1 (And.intro m2 (And.intro m3 m4)))
  have HS := Lib.hid hS
  have HT := Lib.hid t18
  clear m1 m2 m3 m4 hS t18
  go_wp2_with ((refine wpList_store_row rfl _ _ _ rfl _ _ rfl rfl _ _ (HS.out.2.heap HV.out.2.2.2.1 hn2) ?_ ?_ ?_ ?_; kernel_rfl; rfl; kernel_rfl))
  (try simp only [Exit.inBlock, Exit.then])
  refine bodyPost_ret (results_cell_row (cs := #[.int .i64 (r : Int), .int .i64 (of r).size, .int .i64 (of r).sign, .int .i64 qp, .int .i64 qe, .int .i64 (of r).count, .slice sp ms.length sc]) (fr := (0, 0)) Tryd.results31 _ _ (w.heap.size + 1) 44 _ rfl (setRow_heap _ _ _ _ _ _ (HS.out.2.heap HV.out.2.2.2.1 hn2)) Tryd.underlying44 rfl (by kernel_rfl)) rfl ⟨_, ms, rfl, ?_, ?_, ?_, HQ.out.2.1, HQ.out.2.2.1, HQ.out.2.2.2⟩
  · exact HS.out.1.turn ((Turn.refl (fun k => k = w.heap.size + 1) _).setRow _ (fun _ => rfl)) (fun k hk ho => by have := HOL.out k ho; omega)
  · exact (HV.out.2.1.trans HS.out.2 (fun _ _ e => e)).setRow _ (fun hk => absurd hk (by omega))
  · have hsz := HV.out.2.1.size
    have hlt := (Array.getElem?_eq_some_iff.1 HV.out.2.2.2.1).1
    have h1 := own_turn HQ.out.1 HT.out (fun x hx e => by have h8 := (own_cells HQ.out.1 x hx).1; omega)
    exact own_mono (own_turn h1 ((Turn.refl (fun k => k = w.heap.size + 1) _).setRow _ (fun _ => rfl)) (fun x hx e => by have h8 := (own_cells h1 x hx).1; omega)) hsz
end Go.Proofs.YtepmgnhblegiiaaDoor
