/- The uniting of classes in memory: what is captured. No condition beyond what each states. -/
import Derived.Test.YtepmgnhblegiiaaDoorSolC
import Derived.Test.YtepmgnhblegiiaaDoorRelyT
import Derived.Test.YtepmgnhblegiiaaDoorPlE
set_option linter.all false
namespace Go.Proofs.YtepmgnhblegiiaaDoor
open Go Go.RowKit Go.Maps

/-- What the closure join captures. -/
structure JoinC (L : Lay) (g2 g3 gt g5 : Nat) (w : World) : Prop where
  h2 : w.heap[g2]? = some (.cells #[.pointer (some ⟨L.gs, 0, none⟩)] 56 (0, 0))
  h3 : w.heap[g3]? = some (.cells #[.func (.func 67) #[] #[.pointer (some ⟨gt, 0, none⟩)]] 35 (0, 0))
  h5 : w.heap[g5]? = some (.cells #[.func (.func 68) #[] #[.pointer (some ⟨g2, 0, none⟩), .pointer (some ⟨g3, 0, none⟩), .pointer (some ⟨gt, 0, none⟩), .pointer (some ⟨g5, 0, none⟩)]] 91 (0, 0))

def joinB (L : Lay) (B gt : Nat) (w : World) (k : Nat) : Prop := L.own k ∨ todoB B gt w k
section
variable {L : Lay} {B g2 g3 gt g5 : Nat} {w w' : World} {rt : Int → Int} {of : Int → Cls} {clash : Bool} {qs : List (Int × Int)}
theorem own_obj (hs : SolW L rt of clash w) {k : Nat} (hk : L.own k) : (∃ cs, w.heap[k]? = some (.cells cs 68 (0, 0))) ∨ (∃ cs, w.heap[k]? = some (.cells cs 3 (0, 0))) ∨ (∃ cs, w.heap[k]? = some (.cells cs 71 (0, 0))) ∨ ∃ es c, w.heap[k]? = some (.map es c) := by
  rcases hk with rfl | rfl | rfl | ⟨v, hv, rfl⟩
  · exact .inl ⟨_, hs.s⟩
  · obtain ⟨c, up, h1, -⟩ := hs.u; exact .inr (.inl ⟨_, h1⟩)
  · obtain ⟨c, h1, -⟩ := hs.o; exact .inr (.inr (.inl ⟨_, h1⟩))
  · exact .inr (.inr (.inr (hs.m v hv).obj))
theorem own_todo (hs : SolW L rt of clash w) (ht : TodoW B gt qs w) {k : Nat} (h1 : L.own k) (h2 : todoB B gt w k) : False := by
  obtain ⟨v, hv, -⟩ := ht
  rcases h2 with rfl | ⟨-, cs, h2⟩
  · rcases own_obj hs h1 with ⟨_, h⟩ | ⟨_, h⟩ | ⟨_, h⟩ | ⟨_, _, h⟩ <;> rw [hv] at h <;> simp at h
  · rcases own_obj hs h1 with ⟨_, h⟩ | ⟨_, h⟩ | ⟨_, h⟩ | ⟨_, _, h⟩ <;> rw [h2] at h <;> simp at h
theorem JoinC.off (hj : JoinC L g2 g3 gt g5 w) (hs : SolW L rt of clash w) (ht : TodoW B gt qs w) : ¬ joinB L B gt w g2 ∧ ¬ joinB L B gt w g3 ∧ ¬ joinB L B gt w g5 := by
  obtain ⟨v, hv, -⟩ := ht
  refine ⟨?_, ?_, ?_⟩
  · rintro (h | rfl | ⟨-, cs, h⟩)
    · rcases own_obj hs h with ⟨_, h⟩ | ⟨_, h⟩ | ⟨_, h⟩ | ⟨_, _, h⟩ <;> rw [hj.h2] at h <;> simp at h
    · have := hj.h2; rw [hv] at this; simp at this
    · rw [hj.h2] at h; simp at h
  · rintro (h | rfl | ⟨-, cs, h⟩)
    · rcases own_obj hs h with ⟨_, h⟩ | ⟨_, h⟩ | ⟨_, h⟩ | ⟨_, _, h⟩ <;> rw [hj.h3] at h <;> simp at h
    · have := hj.h3; rw [hv] at this; simp at this
    · rw [hj.h3] at h; simp at h
  · rintro (h | rfl | ⟨-, cs, h⟩)
    · rcases own_obj hs h with ⟨_, h⟩ | ⟨_, h⟩ | ⟨_, h⟩ | ⟨_, _, h⟩ <;> rw [hj.h5] at h <;> simp at h
    · have := hj.h5; rw [hv] at this; simp at this
    · rw [hj.h5] at h; simp at h
theorem JoinC.keep (hj : JoinC L g2 g3 gt g5 w) (hs : SolW L rt of clash w) (ht : TodoW B gt qs w) (t : Turn (joinB L B gt w) w w') : JoinC L g2 g3 gt g5 w' := by
  obtain ⟨a, b, c⟩ := hj.off hs ht
  exact ⟨t.heap hj.h2 a, t.heap hj.h3 b, t.heap hj.h5 c⟩
/-- Two steps of the uniting. -/
theorem joinTrans {a b c : World} (h : Turn (joinB L B gt a) a b) (k : Turn (joinB L B gt b) b c) : Turn (joinB L B gt a) a c :=
  h.trans k fun x hx hb => by
    rcases hb with hb | hb
    · exact .inl hb
    · exact todoB_back h (fun _ _ e => .inr e) x hx hb
/-- A turn of the solver's own blocks leaves what is still to be united, and the other way round. -/
theorem SolW.todo (hs : SolW L rt of clash w) (ht : TodoW B gt qs w) (t : Turn (todoB B gt w) w w') : SolW L rt of clash w' := hs.turn t fun k hk ho => own_todo hs ht ho hk
theorem TodoW.own (hs : SolW L rt of clash w) (ht : TodoW B gt qs w) {bs : Nat → Prop} (t : Turn bs w w') (hb : ∀ k, bs k → L.own k) : TodoW B gt qs w' := ht.keep t fun k hk h => own_todo hs ht (hb k hk) h
end
theorem todoB_trans {B gt : Nat} {a b c : World} (h : Turn (todoB B gt a) a b) (k : Turn (todoB B gt b) b c) : Turn (todoB B gt a) a c := h.trans k (todoB_back h fun _ _ e => e)
theorem TodoW.grow {B gt : Nat} {qs : List (Int × Int)} (w w' : World) (h : TodoW B gt qs w) (hb : Below w.heap.size w w') : TodoW B gt qs w' := h.keep (Turn.ofBelow (bs := fun _ => False) hb) (fun _ h => h.elim)
theorem own_iter {L : Lay} {w : World} {rt : Int → Int} {of : Int → Cls} {clash : Bool} (hs : SolW L rt of clash w) {k : Nat} {a : Option Nat} {b : Nat} {c : Array Nat} {d : Nat} (h : w.heap[k]? = some (.mapIter a b c d)) : ¬ L.own k := fun ho => by
  rcases own_obj hs ho with ⟨_, h'⟩ | ⟨_, h'⟩ | ⟨_, h'⟩ | ⟨_, _, h'⟩ <;> rw [h] at h' <;> simp at h'
theorem todo_iter {B gt : Nat} {w : World} {qs : List (Int × Int)} (ht : TodoW B gt qs w) {k : Nat} {a : Option Nat} {b : Nat} {c : Array Nat} {d : Nat} (h : w.heap[k]? = some (.mapIter a b c d)) : ¬ todoB B gt w k := fun ho => by
  obtain ⟨v, hv, -⟩ := ht
  rcases ho with rfl | ⟨-, cs, h'⟩
  · rw [h] at hv; simp at hv
  · rw [h] at h'; simp at h'
/-- A store into one map of fields leaves the range over another one. -/
theorem Row3.of {L : Lay} {w w' : World} {rt : Int → Int} {of : Int → Cls} {clash : Bool} (hs : SolW L rt of clash w) {R : Nat} {F : Int → Option Int} {left : Int → Bool} {cnt : Nat} {lo hi : Nat} (hr : Rw (L.gm hi) R F left cnt w) (hlo : lo < L.n) (hhi : hi < L.n) (hne : hi ≠ lo) (hg : w.grownBy w' (some (L.gm lo))) :
    Rw (L.gm hi) R F left cnt w' ∧ R ≠ L.gm lo := by
  obtain ⟨oa, ob, oc, od, hobj⟩ := RangeW.obj hr
  have hno := own_iter hs hobj
  have h1 : R ≠ L.gm lo := fun e => hno (.inr (.inr (.inr ⟨lo, hlo, e⟩)))
  have h2 : L.gm hi ≠ L.gm lo := fun e => hne (L.inj hi lo hhi hlo e)
  exact ⟨RangeW.same hr (hg.block _ (hs.lt (.inr (.inr (.inr ⟨hi, hhi, rfl⟩)))) (by simpa using h2)) (hg.block _ (RangeW.lt hr) (by simpa using h1)), h1⟩
theorem mem_pairOf {x y : Int} {p : Int × Int} : p ∈ pairOf x y ↔ x ≠ -1 ∧ y ≠ -1 ∧ p = (x, y) := by
  unfold pairOf
  split
  · rename_i h; simp [h]
  · rename_i h
    constructor
    · intro h'; simp at h'
    · rintro ⟨h1, h2, _⟩; exact absurd ⟨h1, h2⟩ h
theorem TodoW.pop {B gt : Nat} {q : List (Int × Int)} {p : Int × Int} {w : World} (h : TodoW B gt (q ++ [p]) w) :
    ∃ g cap cur, w.heap[gt]? = some (.cells #[.slice (some ⟨g, 0, none⟩) (q.length + 1) cap] 100 (0, 0)) ∧ B ≤ g ∧ w.heap[g]? = some (.cells cur 102 (0, 0)) ∧ q.length + 1 ≤ cap ∧ cap ≤ maxLen ∧ cur.size = cap * 2 ∧ cur.toList.take (q.length * 2) = pairsV q ∧ cur[q.length * 2]? = some (.int .i64 p.1) ∧ cur[q.length * 2 + 1]? = some (.int .i64 p.2) := by
  obtain ⟨v, h1, h2, h3⟩ := h
  rcases h3 with ⟨-, h0⟩ | ⟨g, cap, cur, rfl, hB, hg, hn, hm, hs, htk⟩
  · simp at h0
  · have hl : (q ++ [p]).length = q.length + 1 := by simp
    rw [hl] at h1 hn htk
    rw [pairsV_app] at htk
    have hpl := pairsV_len q
    have key : ∀ j, j < 2 → cur[q.length * 2 + j]? = [Value.int .i64 p.1, .int .i64 p.2][j]? := fun j hj => by
      have h5 : (cur.toList.take ((q.length + 1) * 2))[q.length * 2 + j]? = cur.toList[q.length * 2 + j]? := by rw [List.getElem?_take, if_pos (by omega)]
      rw [htk, List.getElem?_append_right (by omega), hpl] at h5
      rw [← Array.getElem?_toList, ← h5]
      have : q.length * 2 + j - q.length * 2 = j := by omega
      rw [this]; rfl
    refine ⟨g, cap, cur, h1, hB, hg, hn, hm, hs, ?_, key 0 (by omega), key 1 (by omega)⟩
    have h6 := congrArg (List.take (q.length * 2)) htk
    rw [List.take_take, List.take_append_of_le_length (by omega)] at h6
    rw [show min (q.length * 2) ((q.length + 1) * 2) = q.length * 2 by omega] at h6
    rw [h6, ← hpl, List.take_length]
theorem TodoW.nil {B gt : Nat} {w : World} (h : TodoW B gt [] w) : ∃ ao cap, w.heap[gt]? = some (.cells #[.slice ao 0 cap] 100 (0, 0)) := by
  obtain ⟨v, h1, h2, h3⟩ := h
  rcases h3 with ⟨rfl, h0⟩ | ⟨g, cap, cur, rfl, hB, hg, hn, hm, hs, htk⟩
  · exact ⟨none, 0, h1⟩
  · exact ⟨_, cap, h1⟩
theorem rightS_parts {n : Int} {c : Con} (h : rightS n c = true) : (0 ≤ c.a ∧ c.a < n) ∧ ((c.kind = 1 ∨ c.kind = 5 ∨ c.kind = 6 ∨ c.kind = 7) → 0 ≤ c.b ∧ c.b < n) ∧ (c.kind = 2 → 1 ≤ c.n ∧ c.n ≤ 65535) ∧ (c.kind = 6 → 0 ≤ c.n ∧ c.n ≤ 65535) ∧ (c.kind = 7 → 1 ≤ c.n ∧ c.n ≤ 65535) := by
  simp only [rightS, Bool.and_eq_true, Bool.or_eq_true, decide_eq_true_eq] at h
  omega
/-- What a field becomes when two classes become one. -/
def mrg (x y : Option Int) : Option Int := match x, y with | none, g => g | some f, none => some f | some f, some g => some (max g f)
/-- The fields while the entries of the other class come up. -/
def fieldsAt (FL FH : Int → Option Int) (left : Int → Bool) (o : Int) : Option Int := if left o = true then FL o else mrg (FL o) (FH o)
def PairsAt (FL FH : Int → Option Int) (left : Int → Bool) (ps : List (Int × Int)) : Prop := ∀ p, p ∈ ps ↔ ∃ o f g, left o = false ∧ FL o = some f ∧ FH o = some g ∧ p = (g, f)
theorem fieldsAt_start (FL FH : Int → Option Int) : fieldsAt FL FH (fun k => (FH k).isSome) = FL := by
  funext o; unfold fieldsAt
  split
  · rfl
  · rename_i h
    cases hf : FH o with
    | none => cases FL o <;> rfl
    | some g => exact absurd (by show (FH o).isSome = true; rw [hf]; rfl) h
theorem pairsAt_start (FL FH : Int → Option Int) : PairsAt FL FH (fun k => (FH k).isSome) [] := fun p => by
  constructor
  · intro h; simp at h
  · rintro ⟨o, f, g, h1, _, h2, _⟩; simp only [h2] at h1; simp at h1
theorem fieldsAt_step {FL FH : Int → Option Int} {left : Int → Bool} {o c : Int} (hc : FH o = some c) : setF (fieldsAt FL FH left) o (match FL o with | none => c | some f => max c f) = fieldsAt FL FH (fun z => left z && z != o) := by
  funext z; unfold setF fieldsAt
  by_cases h : z = o
  · subst h
    simp only [bne_self_eq_false, Bool.and_false, Bool.false_eq_true, ↓reduceIte, hc, mrg]
    cases FL z <;> rfl
  · have : (z != o) = true := by simpa using h
    rw [if_neg h]; simp only [this, Bool.and_true]
theorem pairsAt_step {FL FH : Int → Option Int} {left : Int → Bool} {ps : List (Int × Int)} {o c : Int} (h : PairsAt FL FH left ps) (hl : left o = true) (hc : FH o = some c) (h0 : ∀ o f, FL o = some f → 0 ≤ f) (hc0 : 0 ≤ c) :
    PairsAt FL FH (fun z => left z && z != o) (ps ++ match FL o with | none => [] | some f => pairOf c f) := fun p => by
  rw [List.mem_append, h p]
  constructor
  · rintro (⟨z, f, g, h1, h2, h3, h4⟩ | hp)
    · exact ⟨z, f, g, by simp [h1], h2, h3, h4⟩
    · cases hf : FL o with
      | none => rw [hf] at hp; simp at hp
      | some f =>
        rw [hf] at hp
        have := h0 o f hf
        have hpf : pairOf c f = [(c, f)] := by unfold pairOf; rw [if_pos (by omega)]
        have hp : p ∈ pairOf c f := hp
        rw [hpf] at hp
        exact ⟨o, f, c, by simp, hf, hc, by simpa using hp⟩
  · rintro ⟨z, f, g, h1, h2, h3, h4⟩
    by_cases hz : z = o
    · subst hz
      right
      rw [hc] at h3; cases h3
      have := h0 z f h2
      have hpf : pairOf c f = [(c, f)] := by unfold pairOf; rw [if_pos (by omega)]
      simp only [h2, hpf]; simp [h4]
    · left
      have hb : (z != o) = true := by simpa using hz
      simp only [hb, Bool.and_true] at h1
      exact ⟨z, f, g, h1, h2, h3, h4⟩
theorem merged_of {x y : Cls} {qs : List (Int × Int)} (h : PairsAt x.fields y.fields (fun _ => false) qs) :
    Merged x y { x with size := agreeV x.size y.size, sign := agreeV x.sign y.sign, ptr := max x.ptr y.ptr, elem := max x.elem y.elem, count := max x.count y.count, fields := fieldsAt x.fields y.fields (fun _ => false) } (pairOf x.ptr y.ptr ++ pairOf x.elem y.elem ++ qs) where
  size := rfl
  sign := rfl
  ptr := rfl
  elem := rfl
  count := rfl
  fields o := by
    simp only [fieldsAt, Bool.false_eq_true, ↓reduceIte, mrg]
    cases x.fields o <;> cases y.fields o <;> rfl
  pairs p := by
    rw [List.mem_append, List.mem_append, mem_pairOf, mem_pairOf, h p]
    simp only [true_and, or_assoc]
theorem setCls_twice (of : Int → Cls) (r : Int) (k k' : Cls) : setCls (setCls of r k) r k' = setCls of r k' := by
  funext v; unfold setCls; split <;> rfl
theorem setCls_at (of : Int → Cls) (r : Int) (k : Cls) : setCls of r k r = k := by simp [setCls]
theorem setCls_ne (of : Int → Cls) {r v : Int} (k : Cls) (h : v ≠ r) : setCls of r k v = of v := by simp [setCls, h]
/-- A class after a store into its cell number j. -/
theorem SolW.set0 {L : Lay} {rt : Int → Int} {of : Int → Cls} {clash : Bool} {w : World} (h : SolW L rt of clash w) {v : Nat} (hv : v < L.n) (x : Int) : SolW L rt (setCls of v { of v with size := x }) clash (w.setCell ⟨L.go, v * 6, none⟩ (.int .i64 x)) :=
  h.setO (j := 0) hv (by omega) (fun i hi => by match i, hi with | 0, _ => rfl | 1, _ => rfl | 2, _ => rfl | 3, _ => rfl | 4, _ => rfl | 5, _ => rfl) rfl
theorem SolW.set1 {L : Lay} {rt : Int → Int} {of : Int → Cls} {clash : Bool} {w : World} (h : SolW L rt of clash w) {v : Nat} (hv : v < L.n) (x : Int) : SolW L rt (setCls of v { of v with sign := x }) clash (w.setCell ⟨L.go, v * 6 + 1, none⟩ (.int .i64 x)) :=
  h.setO (j := 1) hv (by omega) (fun i hi => by match i, hi with | 0, _ => rfl | 1, _ => rfl | 2, _ => rfl | 3, _ => rfl | 4, _ => rfl | 5, _ => rfl) rfl
theorem SolW.set2 {L : Lay} {rt : Int → Int} {of : Int → Cls} {clash : Bool} {w : World} (h : SolW L rt of clash w) {v : Nat} (hv : v < L.n) (x : Int) : SolW L rt (setCls of v { of v with ptr := x }) clash (w.setCell ⟨L.go, v * 6 + 2, none⟩ (.int .i64 x)) :=
  h.setO (j := 2) hv (by omega) (fun i hi => by match i, hi with | 0, _ => rfl | 1, _ => rfl | 2, _ => rfl | 3, _ => rfl | 4, _ => rfl | 5, _ => rfl) rfl
theorem SolW.set3 {L : Lay} {rt : Int → Int} {of : Int → Cls} {clash : Bool} {w : World} (h : SolW L rt of clash w) {v : Nat} (hv : v < L.n) (x : Int) : SolW L rt (setCls of v { of v with elem := x }) clash (w.setCell ⟨L.go, v * 6 + 3, none⟩ (.int .i64 x)) :=
  h.setO (j := 3) hv (by omega) (fun i hi => by match i, hi with | 0, _ => rfl | 1, _ => rfl | 2, _ => rfl | 3, _ => rfl | 4, _ => rfl | 5, _ => rfl) rfl
theorem SolW.set4 {L : Lay} {rt : Int → Int} {of : Int → Cls} {clash : Bool} {w : World} (h : SolW L rt of clash w) {v : Nat} (hv : v < L.n) (x : Int) : SolW L rt (setCls of v { of v with count := x }) clash (w.setCell ⟨L.go, v * 6 + 4, none⟩ (.int .i64 x)) :=
  h.setO (j := 4) hv (by omega) (fun i hi => by match i, hi with | 0, _ => rfl | 1, _ => rfl | 2, _ => rfl | 3, _ => rfl | 4, _ => rfl | 5, _ => rfl) rfl
/-- The cells of a class, one by one. -/
theorem SolW.cls {L : Lay} {rt : Int → Int} {of : Int → Cls} {clash : Bool} {w : World} (h : SolW L rt of clash w) {v : Nat} (hv : v < L.n) :
    w.cell? ⟨L.go, v * 6, none⟩ = some (.int .i64 (of v).size) ∧ w.cell? ⟨L.go, v * 6 + 1, none⟩ = some (.int .i64 (of v).sign) ∧ w.cell? ⟨L.go, v * 6 + 2, none⟩ = some (.int .i64 (of v).ptr) ∧ w.cell? ⟨L.go, v * 6 + 3, none⟩ = some (.int .i64 (of v).elem) ∧
    w.cell? ⟨L.go, v * 6 + 4, none⟩ = some (.int .i64 (of v).count) ∧ w.cell? ⟨L.go, v * 6 + 5, none⟩ = some (.map (some (L.gm v))) :=
  ⟨(h.o_at hv (j := 0) (by omega)).1, (h.o_at hv (j := 1) (by omega)).1, (h.o_at hv (j := 2) (by omega)).1, (h.o_at hv (j := 3) (by omega)).1, (h.o_at hv (j := 4) (by omega)).1, (h.o_at hv (j := 5) (by omega)).1⟩
theorem SolW.ofree {L : Lay} {rt : Int → Int} {of : Int → Cls} {clash : Bool} {w : World} (h : SolW L rt of clash w) (i : Nat) : w.frozen? ⟨L.go, i, none⟩ = false := by
  obtain ⟨c, h1, h2⟩ := h.o
  exact frozen_of_row _ _ _ _ _ h1
theorem find_nat (L : Lay) {rt : Int → Int} {of : Int → Cls} {clash : Bool} (w : World) (h : SolW L rt of clash w) (v r : Nat) (hv : v < L.n) (hr : rt v = (r : Int)) :
    Calls Tryd.prog 42 #[.pointer (some ⟨L.gs, 0, none⟩), .int .i64 v] w fun e w' => e = .returned (.int .i64 (r : Int)) ∧ SolW L rt of clash w' ∧ Turn (fun k => k = L.gu) w w' :=
  (find_any L w h v hv).mono fun e w' ⟨h1, h2⟩ => ⟨by rw [h1, hr], h2⟩

def diffB (a b : Int) : Bool := decide (a ≠ 0) && decide (b ≠ 0) && decide (a ≠ b)
theorem agreeC_eq (c : Bool) (a b : Int) : agreeC c a b = (c || diffB a b) := rfl
/-- If b, then the mark of a contradiction is set. -/
def FlagW (L : Lay) (b : Bool) (w : World) : Prop := b = true → w.cell? ⟨L.gs, 2, none⟩ = some (.bool true)
section
variable {L : Lay} {rt : Int → Int} {of : Int → Cls} {c x : Bool} {a b : Int} {w w' : World}
theorem flag_grow (L : Lay) (x : Bool) (w w' : World) (h : FlagW L x w) (hb : Below w.heap.size w w') : FlagW L x w' := fun hx => by
  have h1 := h hx
  have : L.gs < w.heap.size := by
    unfold World.cell? at h1
    cases hg : w.heap[L.gs]? with
    | none => simp [hg] at h1
    | some o => exact (Array.getElem?_eq_some_iff.1 hg).1
  rw [hb.cell (p := ⟨L.gs, 2, none⟩) this]
  exact h1
theorem flag_keep (h : SolW L rt of c w) (h' : SolW L rt of (agreeC c a b) w') (hf : FlagW L x w) : FlagW L x w' := fun hx => by
  have h1 := hf hx
  rw [h.s2] at h1
  have hc : c = true := by simpa using h1
  rw [h'.s2, hc]
  rfl
theorem flag_set (h : SolW L rt of (agreeC c a b) w) : FlagW L (diffB a b) w := fun hx => by rw [h.s2, agreeC_eq, hx, Bool.or_true]
theorem flag_is (h : SolW L rt of c w) (hf : FlagW L x w) (hx : x = true) : c = true := by
  have h1 := hf hx
  rw [h.s2] at h1
  simpa using h1
theorem or_up {clash c d b1 b2 : Bool} (h1 : clash = true → c = true) (h2 : c = true → clash = true ∨ b1 = true ∨ b2 = true) (hd : d = b1 ∨ d = b2) : (clash = true → (c || d) = true) ∧ ((c || d) = true → clash = true ∨ b1 = true ∨ b2 = true) := by
  cases clash <;> cases c <;> cases d <;> cases b1 <;> cases b2 <;> simp_all
theorem or_all {clash c b1 b2 : Bool} (h1 : clash = true → c = true) (h2 : c = true → clash = true ∨ b1 = true ∨ b2 = true) (h3 : b1 = true → c = true) (h4 : b2 = true → c = true) : c = ((clash || b1) || b2) := by
  cases clash <;> cases c <;> cases b1 <;> cases b2 <;> simp_all
end
end Go.Proofs.YtepmgnhblegiiaaDoor
