/- Solutions told from their classes; the chapter's examples. Plain law. No condition. -/
import Derived.Test.YtepmgnhblegiiaaDoorPlJ
import Derived.Test.YtepmgnhblegiiaaDoorPrP
import Derived.Test.YtepmgnhblegiiaaDoorSlv
set_option linter.all false
namespace Go.Proofs.YtepmgnhblegiiaaDoor
open Go Go.RowKit Go.Maps

theorem cong_iff {n : Nat} {cs : List Con} {cl : Nat → Int} (hI : ClaI n cs cl) (hS : Shut cs cl) (hR : ∀ c ∈ cs, rightS n c = true) {u v : Int} : Cong cs u v ↔ rtK n cl u = rtK n cl v :=
  ⟨fun h => hS.cong hR h, fun e => (hI.snd u).trans (by rw [e]; exact (hI.snd v).symm)⟩
/-- The description, step by step. -/
def descB (cl : Nat → Int) (cs : List Con) : (Nat → Row) × Bool :=
  cs.foldl (fun s c => (updR s.1 (cl c.a.toNat).toNat (stepR c (cl c.b.toNat) (s.1 (cl c.a.toNat).toNat)), stepB c (s.1 (cl c.a.toNat).toNat) s.2)) (fun v => ⟨cl v, 0, 0, -1, -1, 0, []⟩, true)
theorem descB_snoc (cl : Nat → Int) (ps : List Con) (c : Con) : descB cl (ps ++ [c]) = (updR (descB cl ps).1 (cl c.a.toNat).toNat (stepR c (cl c.b.toNat) ((descB cl ps).1 (cl c.a.toNat).toNat)), stepB c ((descB cl ps).1 (cl c.a.toNat).toNat) (descB cl ps).2) := by
  unfold descB
  rw [List.foldl_append]; rfl
theorem descB_inv {n : Nat} {cs : List Con} {cl : Nat → Int} (hI : ClaI n cs cl) (hS : Shut cs cl) (hR : ∀ c ∈ cs, rightS n c = true) : ∀ k, k ≤ cs.length → DesI n cs (cs.take k) cl (descB cl (cs.take k)).1 (descB cl (cs.take k)).2
  | 0, _ => by rw [List.take_zero]; exact DesI.start hI
  | k + 1, hk => by
    have ih := descB_inv hI hS hR k (by omega)
    have hc : cs[k] ∈ cs := List.getElem_mem _
    have e : cs.take (k + 1) = cs.take k ++ [cs[k]] := List.take_succ_eq_append_getElem (by omega)
    have ha := right_a (hR _ hc)
    have h0 := hI.nn (cs[k]).a.toNat (by omega)
    rw [e, descB_snoc]
    exact ih.step hI hS hR hc (x := (cl (cs[k]).a.toNat).toNat) (by omega)
theorem descB_all {n : Nat} {cs : List Con} {cl : Nat → Int} (hI : ClaI n cs cl) (hS : Shut cs cl) (hR : ∀ c ∈ cs, rightS n c = true) : DesI n cs cs cl (descB cl cs).1 (descB cl cs).2 := by
  have := descB_inv hI hS hR cs.length (Nat.le_refl _)
  rwa [List.take_length] at this
/-- No path comes back where each link goes down. -/
theorem no_path {n : Nat} {cs ps : List Con} {cl : Nat → Int} {rw : Nat → Row} {ok : Bool} (h : DesI n cs ps cl rw ok) (rk : Nat → Nat) (hrk : ∀ x, x < n → cl x = x → ∀ y ∈ outs (rw x), rk y.toNat < rk x) {u v : Int} (hp : Path (rtK n cl) (ofK n rw) u v) : ∀ x : Nat, u = x → x < n → cl x = x → rk v.toNat < rk x := by
  induction hp with
  | one e =>
    rintro x rfl hx hc
    exact hrk x hx hc _ ((h.edge hx).1 e)
  | more e _ ih =>
    rintro x rfl hx hc
    have ho := (h.edge hx).1 e
    obtain ⟨p, hp, he, hpc⟩ := h.outs_root hx ho
    have h1 := hrk x hx hc _ ho
    have h2 := ih p he hp hpc
    rw [he] at h1
    simp only [Int.toNat_natCast] at h1
    omega
theorem fine_of {n : Nat} {cs : List Con} {cl : Nat → Int} (hI : ClaI n cs cl) (hS : Shut cs cl) (hR : ∀ c ∈ cs, rightS n c = true) {rw : Nat → Row} (he : descB cl cs = (rw, true)) (rk : Nat → Nat)
    (h : ∀ x, x < n → cl x = x → kindsN (rw x) ≤ 1 ∧ FitR rw (rw x) ∧ ∀ y ∈ outs (rw x), rk y.toNat < rk x) : ¬ Clash cs ∧ ∀ v, v < n → Desc cs v (rw (cl v).toNat) := by
  have hd := descB_all hI hS hR
  rw [he] at hd
  have hn : ¬ Clash cs := fun hc => by
    rcases (clash_rows hd hR).1 hc with e | ⟨x, hx, hxr, hq⟩
    · cases e
    · refine hq ⟨(h x hx hxr).1, (h x hx hxr).2.1, fun hp => ?_⟩
      have := no_path hd rk (fun x hx hc => (h x hx hc).2.2) hp x rfl hx hxr
      simp at this
  exact ⟨hn, fun v hv => desc_rows hI hd hR hn hv⟩
/-- A solution: rows by variables. -/
theorem solve_ok {n : Nat} {cs : List Con} {cl : Nat → Int} {rw : Nat → Row} (hn : n ≤ 2000) (hl : cs.length ≤ 5000) (hR : ∀ c ∈ cs, rightS n c = true) (h : ¬ Clash cs ∧ ∀ v, v < n → Desc cs v (rw (cl v).toNat)) : SolveR n cs ((List.range n).map fun v => rw (cl v).toNat) 0 0 :=
  .ok _ (by omega) (by omega) hl hR h.1 (by simp) (fun v r hr => by
    have hv : v < n := by
      rcases Nat.lt_or_ge v n with h | h
      · exact h
      · simp [List.getElem?_eq_none, h] at hr
    have hr' : rw (cl v).toNat = r := by simpa [hv] using hr
    subst hr'
    exact h.2 v hv)

/-! ### The chapter's examples -/
def ex1 : List Con := [⟨5, 0, 1, 0⟩, ⟨5, 0, 2, 0⟩, ⟨2, 2, 0, 1⟩]
def cl1 : Nat → Int := fun v => if v = 2 then 1 else v
theorem ex1_cla : ClaI 3 ex1 cl1 where
  nn v hv := by unfold cl1; split <;> omega
  le v hv := by unfold cl1; split <;> omega
  idem v hv := by unfold cl1; split <;> simp_all
  sound v hv := by
    unfold cl1; split
    · rename_i e; subst e
      exact .step (c := ⟨5, 0, 2, 0⟩) (d := ⟨5, 0, 1, 0⟩) (by simp [ex1]) (by simp [ex1]) ⟨rfl, .inl rfl⟩ (.refl _)
    · exact .refl _
theorem ex1_shut : Shut ex1 cl1 where
  same c hc hk := by simp [ex1] at hc; rcases hc with rfl | rfl | rfl <;> simp at hk
  twin i k c d hki hi hk hj := by
    have hi3 : i < 3 := by
      have := (List.getElem?_eq_some_iff.1 hi).1; simpa [ex1] using this
    match i, k, hki, hi3 with
    | 1, 0, _, _ => simp [ex1] at hi hk; subst hi; subst hk; rfl
    | 2, 0, _, _ => simp [ex1] at hi hk; subst hi; subst hk; simp [joinedP] at hj
    | 2, 1, _, _ => simp [ex1] at hi hk; subst hi; subst hk; simp [joinedP] at hj
def rw1 (v : Nat) : Row := if v = 0 then ⟨0, 2, 0, 1, -1, 0, []⟩ else if v = 1 then ⟨1, 1, 0, -1, -1, 0, []⟩ else ⟨cl1 v, 0, 0, -1, -1, 0, []⟩
theorem ex1_desc : descB cl1 ex1 = (rw1, true) := by
  refine Prod.ext ?_ rfl
  funext v
  by_cases h0 : v = 0
  · subst h0; rfl
  by_cases h1 : v = 1
  · subst h1; rfl
  simp [descB, ex1, rw1, updR, cl1, h0, h1]
theorem ex1_solve : SolveR 3 ex1 [⟨0, 2, 0, 1, -1, 0, []⟩, ⟨1, 1, 0, -1, -1, 0, []⟩, ⟨1, 1, 0, -1, -1, 0, []⟩] 0 0 := by
  have hR : ∀ c ∈ ex1, rightS 3 c = true := by decide
  refine solve_ok (n := 3) (cl := cl1) (rw := rw1) (by omega) (by decide) hR (fine_of ex1_cla ex1_shut hR ex1_desc (fun _ => 0) fun x hx _ => ?_)
  match x, hx with
  | 0, _ => exact ⟨by decide, ⟨fun q hq => by simp [rw1] at hq, fun h => by simp [rw1] at h⟩, fun y hy => by simp [outs, rw1] at hy⟩
  | 1, _ => exact ⟨by decide, ⟨fun q hq => by simp [rw1] at hq, fun h => by simp [rw1] at h⟩, fun y hy => by simp [outs, rw1] at hy⟩
  | 2, _ => exact ⟨by decide, ⟨fun q hq => by simp [rw1] at hq, fun h => by simp [rw1] at h⟩, fun y hy => by simp [outs, rw1] at hy⟩

/-- Classes where each variable is alone. -/
def clA : Nat → Int := fun v => v
theorem clA_cla (n : Nat) (cs : List Con) : ClaI n cs clA := ClaI.start n cs
def ex4 : List Con := [⟨6, 0, 1, 0⟩, ⟨5, 1, 0, 0⟩]
def rw4 (v : Nat) : Row := if v = 0 then ⟨0, 0, 0, -1, -1, 0, [(0, 1)]⟩ else if v = 1 then ⟨1, 2, 0, 0, -1, 0, []⟩ else ⟨v, 0, 0, -1, -1, 0, []⟩
theorem ex4_shut : Shut ex4 clA where
  same c hc hk := by simp [ex4] at hc; rcases hc with rfl | rfl <;> simp at hk
  twin i k c d hki hi hk hj := by
    have hi3 : i < 2 := by
      have := (List.getElem?_eq_some_iff.1 hi).1; simpa [ex4] using this
    match i, k, hki, hi3 with
    | 1, 0, _, _ => simp [ex4] at hi hk; subst hi; subst hk; simp [joinedP] at hj
theorem ex4_desc : descB clA ex4 = (rw4, true) := by
  refine Prod.ext ?_ rfl
  funext v
  by_cases h0 : v = 0
  · subst h0; rfl
  by_cases h1 : v = 1
  · subst h1; rfl
  simp [descB, ex4, rw4, updR, clA, h0, h1]
  intro e
  exact absurd (show v = 1 from e) h1
theorem ex4_solve : SolveR 2 ex4 [⟨0, 0, 0, -1, -1, 0, [(0, 1)]⟩, ⟨1, 2, 0, 0, -1, 0, []⟩] 0 0 := by
  have hR : ∀ c ∈ ex4, rightS 2 c = true := by decide
  refine solve_ok (n := 2) (cl := clA) (rw := rw4) (by omega) (by decide) hR (fine_of (clA_cla 2 _) ex4_shut hR ex4_desc (fun v => 1 - v) fun x hx _ => ?_)
  match x, hx with
  | 0, _ => exact ⟨by decide, ⟨fun q hq h => by simp [rw4] at h, fun h => by simp [rw4] at h⟩, fun y hy => by simp [outs, rw4] at hy; subst hy; decide⟩
  | 1, _ => exact ⟨by decide, ⟨fun q hq => by simp [rw4] at hq, fun h => by simp [rw4] at h⟩, fun y hy => by simp [outs, rw4] at hy⟩

def ex3 : List Con := [⟨6, 0, 1, 0⟩, ⟨7, 1, 0, 2⟩]
theorem ex3_solve : SolveR 2 ex3 [] 1 60 := by
  refine .clash 1 (by omega) (by omega) (by decide) (by decide) (by decide) ?_ (.loop 0 (.more (y := 1) ⟨⟨6, 0, 1, 0⟩, by simp [ex3], .refl _, .inl rfl, .refl _⟩ (.one ⟨⟨7, 1, 0, 2⟩, by simp [ex3], .refl _, .inr rfl, .refl _⟩)))
  have hR : ∀ c ∈ ex3.take 1, rightS 2 c = true := by decide
  have hs : Shut (ex3.take 1) clA := ⟨fun c hc hk => by simp [ex3] at hc; subst hc; simp at hk, fun i k c d hki hi hk hj => by
    have hi3 : i < 1 := by
      have := (List.getElem?_eq_some_iff.1 hi).1; simpa [ex3] using this
    omega⟩
  have hd : descB clA (ex3.take 1) = (fun v => if v = 0 then ⟨0, 0, 0, -1, -1, 0, [(0, 1)]⟩ else ⟨v, 0, 0, -1, -1, 0, []⟩, true) := by
    refine Prod.ext ?_ rfl
    funext v
    by_cases h0 : v = 0
    · subst h0; rfl
    simp [descB, ex3, updR, clA, h0]
  refine (fine_of (clA_cla 2 _) hs hR hd (fun v => 1 - v) fun x hx _ => ?_).1
  match x, hx with
  | 0, _ => exact ⟨by decide, ⟨fun q hq h => by simp at h, fun h => by simp at h⟩, fun y hy => by simp [outs] at hy; subst hy; decide⟩
  | 1, _ => exact ⟨by decide, ⟨fun q hq => by simp at hq, fun h => by simp at h⟩, fun y hy => by simp [outs] at hy⟩

def ex2 : List Con := [⟨6, 0, 1, 2⟩, ⟨6, 0, 2, 2⟩, ⟨3, 1, 0, 0⟩, ⟨4, 2, 0, 0⟩]
theorem ex2_cong {cs : List Con} (h1 : (⟨6, 0, 1, 2⟩ : Con) ∈ cs) (h2 : (⟨6, 0, 2, 2⟩ : Con) ∈ cs) : Cong cs 2 1 := .step (c := ⟨6, 0, 2, 2⟩) (d := ⟨6, 0, 1, 2⟩) h2 h1 ⟨rfl, .inr (.inr ⟨rfl, rfl⟩)⟩ (.refl _)
theorem ex2_solve : SolveR 4 ex2 [] 3 60 := by
  refine .clash 3 (by omega) (by omega) (by decide) (by decide) (by decide) ?_ (.sign 1 3 4 ⟨⟨3, 1, 0, 0⟩, by simp [ex2], .refl _, .inl rfl, rfl⟩ ⟨⟨4, 2, 0, 0⟩, by simp [ex2], ex2_cong (by simp [ex2]) (by simp [ex2]), .inr rfl, rfl⟩ (by omega))
  have hR : ∀ c ∈ ex2.take 3, rightS 4 c = true := by decide
  have hI : ClaI 4 (ex2.take 3) cl1 := ⟨fun v hv => by unfold cl1; split <;> omega, fun v hv => by unfold cl1; split <;> omega, fun v hv => by unfold cl1; split <;> simp_all, fun v hv => by
    unfold cl1; split
    · rename_i e; subst e
      exact ex2_cong (by simp [ex2]) (by simp [ex2])
    · exact .refl _⟩
  have hs : Shut (ex2.take 3) cl1 := ⟨fun c hc hk => by simp [ex2] at hc; rcases hc with rfl | rfl | rfl <;> simp at hk, fun i k c d hki hi hk hj => by
    have hi3 : i < 3 := by
      have := (List.getElem?_eq_some_iff.1 hi).1; simpa [ex2] using this
    match i, k, hki, hi3 with
    | 1, 0, _, _ => simp [ex2] at hi hk; subst hi; subst hk; rfl
    | 2, 0, _, _ => simp [ex2] at hi hk; subst hi; subst hk; simp [joinedP] at hj
    | 2, 1, _, _ => simp [ex2] at hi hk; subst hi; subst hk; simp [joinedP] at hj⟩
  have hd : descB cl1 (ex2.take 3) = (fun v => if v = 0 then ⟨0, 0, 0, -1, -1, 0, [(2, 1)]⟩ else if v = 1 then ⟨1, 0, 3, -1, -1, 0, []⟩ else ⟨cl1 v, 0, 0, -1, -1, 0, []⟩, true) := by
    refine Prod.ext ?_ rfl
    funext v
    by_cases h0 : v = 0
    · subst h0; rfl
    by_cases h1 : v = 1
    · subst h1; rfl
    simp [descB, ex2, updR, cl1, h0, h1]
    intro e
    exact absurd (show v = 1 from e) h1
  refine (fine_of hI hs hR hd (fun v => 1 - v) fun x hx _ => ?_).1
  match x, hx with
  | 0, _ => exact ⟨by decide, ⟨fun q hq h => by simp at h, fun h => by simp at h⟩, fun y hy => by simp [outs] at hy; subst hy; decide⟩
  | 1, _ => exact ⟨by decide, ⟨fun q hq => by simp at hq, fun h => by simp at h⟩, fun y hy => by simp [outs] at hy⟩
  | 2, _ => exact ⟨by decide, ⟨fun q hq => by simp at hq, fun h => by simp at h⟩, fun y hy => by simp [outs] at hy⟩
  | 3, _ => exact ⟨by decide, ⟨fun q hq => by simp at hq, fun h => by simp at h⟩, fun y hy => by simp [outs] at hy⟩
end Go.Proofs.YtepmgnhblegiiaaDoor

/- The chapter's examples, walked. Condition: the table of powers of ten reads as the text lays it. -/
namespace Go.Proofs.YtepmgnhblegiiaaDoor
open Go Go.RowKit Go.Maps

def consV (cs : List Con) : List Value := cs.flatMap fun c => (conCells c).toList
theorem consV_at : ∀ {l : List Con} {i j : Nat} {p : Con}, l[i]? = some p → j < 4 → (consV l)[i * 4 + j]? = (conCells p)[j]?
  | [], i, j, p, h, _ => by simp at h
  | q :: l, 0, j, p, h, hj => by
    simp only [List.getElem?_cons_zero, Option.some.injEq] at h
    subst h
    show ((conCells q).toList ++ consV l)[0 * 4 + j]? = _
    rw [List.getElem?_append_left (by simp [conCells]; omega)]; simp
  | q :: l, i + 1, j, p, h, hj => by
    simp only [List.getElem?_cons_succ] at h
    show ((conCells q).toList ++ consV l)[(i + 1) * 4 + j]? = _
    rw [List.getElem?_append_right (by simp [conCells]; omega)]
    have e : (i + 1) * 4 + j - (conCells q).toList.length = i * 4 + j := by simp [conCells]; omega
    rw [e]; exact consV_at h hj
theorem consV_len (l : List Con) : (consV l).length = l.length * 4 := by
  induction l with
  | nil => rfl
  | cons p l ih => show ((conCells p).toList ++ consV l).length = _
                   rw [List.length_append, ih]; simp [conCells]; omega
theorem consV_snoc (l : List Con) (c : Con) : consV (l ++ [c]) = consV l ++ (conCells c).toList := by simp [consV]
theorem cons_block {w : World} {g : Nat} {cs : List Con} {c : Array Value} (hg : w.heap[g]? = some (.cells c 37 (0, 0))) (hc : ∀ k, k < cs.length * 4 → c[k]? = (consV cs)[k]?) : ConsW (some ⟨g, 0, none⟩) cs w := fun _ =>
  ⟨g, c, rfl, hg, fun i k hk j hj => by
    have hi : i < cs.length := (List.getElem?_eq_some_iff.1 hk).1
    rw [hc _ (by omega)]; exact consV_at hk hj⟩
theorem cons_new (w : World) (cs : List Con) (c : Array Value) (hc : c.toList = consV cs) : ConsW (some ⟨w.heap.size, 0, none⟩) cs (w.alloc (.cells c 37)) :=
  cons_block (heap_alloc_new _ _) (fun k hk => by rw [← hc, Array.getElem?_toList])
/-- A row of constraints of the call's own. -/
theorem own_cons {w : World} {B : Nat} {A : Option Addr} {n cap : Nat} {cs : List Con} (h : w.ownsRow B 37 4 (.slice A n cap) n (consV cs)) : n = cs.length ∧ ConsW A cs w := by
  have h1 := h.1
  rw [consV_len] at h1
  have hn : n = cs.length := by omega
  refine ⟨hn, fun h0 => ?_⟩
  obtain ⟨g, cur, rfl, hB, hg, hcur⟩ := own_ptr h (by omega)
  exact cons_block hg (fun k hk => hcur k (by omega)) h0
/-- The cells of an answer. -/
theorem RowsW.cells {B : Nat} {val : Value} {rows : List Row} {w : World} (h : RowsW B val rows w) (h0 : 0 < rows.length) : ∃ g cap, val = .slice (some ⟨g, 0, none⟩) rows.length cap ∧ B ≤ g ∧ rows.length ≤ cap ∧ (∃ c, w.heap[g]? = some (.cells c 44 (0, 0))) ∧ ∀ i r, rows[i]? = some r → ∀ j, j < 6 → w.cell? ⟨g, i * 7 + j, none⟩ = (rowCells r undef)[j]? := by
  obtain ⟨l, rfl, h2, h3⟩ := h
  obtain ⟨sp, sc, rfl⟩ := own_slice h2
  have hcap := own_cap h2
  obtain ⟨g, cur, rfl, hB, hg, hcur⟩ := own_ptr h2 (by simpa using h0)
  refine ⟨g, sc, by simp, hB, by simpa using hcap.1, ⟨cur, hg⟩, fun i r hr j hj => ?_⟩
  rw [List.getElem?_map] at hr
  cases hq : l[i]? with
  | none => rw [hq] at hr; cases hr
  | some p =>
    rw [hq] at hr
    cases hr
    have hi : i < l.length := (List.getElem?_eq_some_iff.1 hq).1
    rw [cell_of_row _ _ _ _ _ _ hg, hcur _ (by omega), rowsCells_at hq (by omega)]
    match j, hj with
    | 0, _ => rfl
    | 1, _ => rfl
    | 2, _ => rfl
    | 3, _ => rfl
    | 4, _ => rfl
    | 5, _ => rfl
theorem RowsW.len {B : Nat} {val : Value} {rows : List Row} {w : World} (h : RowsW B val rows w) : ∃ ao cap, val = .slice ao rows.length cap ∧ rows.length ≤ cap := by
  obtain ⟨ao, cap, e, hc, -⟩ := h.view
  exact ⟨ao, cap, e, hc⟩
theorem itoa_digit (u : Nat) (h : u < 10) : Lib.itoa (u : Int) = [UInt8.ofNat (48 + u)] := by
  rw [Lib.itoa_nonneg, Lib.decDigits, dif_pos h]
def rowsE : List Row := [⟨0, 0, 0, -1, -1, 0, [(0, 1)]⟩, ⟨1, 2, 0, 0, -1, 0, []⟩]
theorem print_ex0 : printB rowsE 0 = [123, 48, 58, 32, 99, 49, 125] := by
  have e0 : Lib.itoa 0 = [48] := itoa_digit 0 (by omega)
  have e1 : Lib.itoa 1 = [49] := itoa_digit 1 (by omega)
  simp [printB, rowsE, rowT, bodyB, memsB, memB, Lib.join, List.intercalate, e0, e1]
theorem print_ex1 : printB rowsE 1 = [42, 99, 48] := by
  have e0 : Lib.itoa 0 = [48] := itoa_digit 0 (by omega)
  simp [printB, rowsE, rowT, e0]
theorem rowsE_n : ∀ r ∈ rowsE, RowN r := by
  intro r hr
  simp only [rowsE, List.mem_cons, List.not_mem_nil, or_false] at hr
  rcases hr with rfl | rfl <;> refine ⟨?_, ?_, ?_, ?_, ?_, ?_, ?_⟩ <;> simp [n64]

set_option maxRecDepth 100000 in
set_option maxHeartbeats 4000000 in
theorem sanity_any (w : World) (hT : TabP w) : Calls Tryd.prog 14 #[] w fun e w' => e = .returned (.bool true) ∧ Below w.heap.size w w' := by
  have HT := Lib.hid hT
  clear hT
  have HC := Lib.hid cons_new
  go_enter Tryd.func14, Tryd.ntmps14
  go_upto_region 2 with (go_at_call 19; refine (solve_any 3 ex1 (by intro h; cases h) _ _ 3 (by decide) (HC.out w ex1 _ rfl)).mono ?_; rintro e w1 ⟨v1, r1, i1, e1, rfl, hs1, hb1, hr1⟩; obtain ⟨rfl, rfl, rfl⟩ := hs1.unique ex1_solve)
  obtain ⟨g1, c1, rfl, -, hc1, ⟨cc1, hg1⟩, hv1⟩ := hr1.cells (by decide)
  have HB1 := Lib.hid (((Below.refl w.heap.size w).alloc (Nat.le_refl _) _).trans (hb1.mono (by simp)))
  have HV1 := Lib.hid (And.intro hg1 hv1)
  clear hb1 hs1 hr1 hg1 hv1
  go_upto_region 3 with (go_at_call 19; refine (solve_any 4 ex2 (by intro h; cases h) _ _ 4 (by decide) (HC.out w1 ex2 _ rfl)).mono ?_; rintro e w2 ⟨v2, r2, i2, e2, rfl, hs2, hb2, hr2⟩; obtain ⟨rfl, rfl, rfl⟩ := hs2.unique ex2_solve)
  have HB2 := Lib.hid ((HB1.out.alloc HB1.out.size _).trans (hb2.mono (Nat.le_trans HB1.out.size (by simp))))
  have HB12 := Lib.hid (((Below.refl w1.heap.size w1).alloc (Nat.le_refl _) _).trans (hb2.mono (by simp)))
  clear hb2 hs2 hr2
  go_upto_region 4 with (go_at_call 19; refine (solve_any 2 ex3 (by intro h; cases h) _ _ 2 (by decide) (HC.out w2 ex3 _ rfl)).mono ?_; rintro e w3 ⟨v3, r3, i3, e3, rfl, hs3, hb3, hr3⟩; obtain ⟨rfl, rfl, rfl⟩ := hs3.unique ex3_solve)
  have HB3 := Lib.hid ((HB2.out.alloc HB2.out.size _).trans (hb3.mono (Nat.le_trans HB2.out.size (by simp))))
  have HB13 := Lib.hid ((HB12.out.alloc HB12.out.size _).trans (hb3.mono (Nat.le_trans HB12.out.size (by simp))))
  clear hb3 hs3 hr3 HB12
  go_upto_region 5 with (go_at_call 19; refine (solve_any 2 ex4 (by intro h; cases h) _ _ 2 (by decide) (HC.out w3 ex4 _ rfl)).mono ?_; rintro e w4 ⟨v4, r4, i4, e4, rfl, hs4, hb4, hr4⟩; obtain ⟨rfl, rfl, rfl⟩ := hs4.unique ex4_solve)
  have HB4 := Lib.hid ((HB3.out.alloc HB3.out.size _).trans (hb4.mono (Nat.le_trans HB3.out.size (by simp))))
  have HB14 := Lib.hid ((HB13.out.alloc HB13.out.size _).trans (hb4.mono (Nat.le_trans HB13.out.size (by simp))))
  have HR4 := Lib.hid hr4.view
  obtain ⟨a4, c4, rfl, hc4⟩ := hr4.len
  have hcell : ∀ o x, w1.cell? ⟨g1, o, none⟩ = some x → w4.cell? ⟨g1, o, none⟩ = some x := fun o x h => by
    rw [World.cell?_of_block (HB14.out.block _ (Array.getElem?_eq_some_iff.1 HV1.out.1).1)]; exact h
  have q1 : w4.cell? ⟨g1, 7, none⟩ = some (.int .i64 1) := hcell _ _ (HV1.out.2 1 _ rfl 0 (by omega))
  have q2 : w4.cell? ⟨g1, 14, none⟩ = some (.int .i64 1) := hcell _ _ (HV1.out.2 2 _ rfl 0 (by omega))
  have q3 : w4.cell? ⟨g1, 15, none⟩ = some (.int .i64 1) := hcell _ _ (HV1.out.2 2 _ rfl 1 (by omega))
  have q4 : w4.cell? ⟨g1, 3, none⟩ = some (.int .i64 1) := hcell _ _ (HV1.out.2 0 _ rfl 3 (by omega))
  have q5 : w4.cell? ⟨g1, 1, none⟩ = some (.int .i64 2) := hcell _ _ (HV1.out.2 0 _ rfl 1 (by omega))
  have HP0 := Lib.hid (fun W (hb : Below w4.heap.size w4 W) => show Calls Tryd.prog 23 #[.slice a4 2 c4, .int .i64 0] W (fun e w' => e = .returned (.string ⟨#[123, 48, 58, 32, 99, 49, 125]⟩) ∧ Below W.heap.size W w') by
    have h9 := print_any rowsE _ W 0 (by simp [n64]) (HT.out.stay (HB4.out.trans (hb.mono HB4.out.size))) (HR4.out.below hb) rowsE_n (by decide)
    rw [print_ex0] at h9; exact h9)
  have HP1 := Lib.hid (fun W (hb : Below w4.heap.size w4 W) => show Calls Tryd.prog 23 #[.slice a4 2 c4, .int .i64 1] W (fun e w' => e = .returned (.string ⟨#[42, 99, 48]⟩) ∧ Below W.heap.size W w') by
    have h9 := print_any rowsE _ W 1 (by simp [n64]) (HT.out.stay (HB4.out.trans (hb.mono HB4.out.size))) (HR4.out.below hb) rowsE_n (by decide)
    rw [print_ex1] at h9; exact h9)
  clear hb4 hs4 hr4 HB13 hcell
  go_wp2_with (first | (go_at_call 23; (with_reducible refine (HP0.out _ (Below.refl _ _)).mono ?_); rintro e w5 ⟨rfl, hb5⟩) | (go_at_call 23; (with_reducible refine (HP1.out _ hb5).mono ?_); rintro e w6 ⟨rfl, hb6⟩))
  go_ret
  exact ⟨rfl, HB4.out.trans ((hb5.trans (hb6.mono hb5.size)).mono HB4.out.size)⟩
end Go.Proofs.YtepmgnhblegiiaaDoor
