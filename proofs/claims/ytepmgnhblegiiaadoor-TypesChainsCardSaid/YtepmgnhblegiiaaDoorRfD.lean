/- The reference: described. No condition beyond what each states. -/
import Derived.Test.YtepmgnhblegiiaaDoorRfP
import Derived.Test.YtepmgnhblegiiaaDoorRfC
import Derived.Test.YtepmgnhblegiiaaDoorPlJ
import Derived.Deep.QuietTactic
import Derived.BigQuiet
set_option linter.all false
namespace Go.Proofs.YtepmgnhblegiiaaDoor
open Go Go.RowKit Go.Maps

/-- The rows of a description in memory. -/
structure CelW (g n : Nat) (rw : Nat → Row) (fv : Nat → Value) (w : World) : Prop where
  c : ∃ c : Array Value, w.heap[g]? = some (.cells c 44 (0, 0)) ∧ ∀ v, v < n → ∀ j, j < 7 → c[v * 7 + j]? = (rowCells (rw v) (fv v))[j]?
structure DesW (B g n : Nat) (rw : Nat → Row) (fv : Nat → Value) (w : World) : Prop where
  cel : CelW g n rw fv w
  own : ∀ v, v < n → w.ownsRow B 46 2 (fv v) (rw v).fields.length (mv (rw v).fields)
  apart : ∀ u v, u < n → v < n → u ≠ v → ∀ k, (fv u).ownBlock = some k → (fv v).ownBlock ≠ some k
def updV (fv : Nat → Value) (x : Nat) (v : Value) (u : Nat) : Value := if u = x then v else fv u
section
variable {B g n : Nat} {rw : Nat → Row} {fv : Nat → Value} {w : World}
theorem CelW.turn {w' : World} {bs : Nat → Prop} (h : CelW g n rw fv w) (t : Turn bs w w') (hb : ¬ bs g) : CelW g n rw fv w' := by
  obtain ⟨c, hg, hc⟩ := h.c
  exact ⟨c, t.heap hg hb, hc⟩
theorem CelW.at {v j : Nat} (h : CelW g n rw fv w) (hv : v < n) (hj : j < 7) : w.cell? ⟨g, v * 7 + j, none⟩ = (rowCells (rw v) (fv v))[j]? ∧ w.frozen? ⟨g, v * 7 + j, none⟩ = false := by
  obtain ⟨c, hg, hc⟩ := h.c
  exact ⟨by rw [cell_of_row _ _ _ _ _ _ hg]; exact hc v hv j hj, frozen_of_row _ _ _ _ _ hg⟩
theorem CelW.lt (h : CelW g n rw fv w) : g < w.heap.size := by
  obtain ⟨c, hg, -⟩ := h.c
  exact (Array.getElem?_eq_some_iff.1 hg).1
theorem CelW.set {v j : Nat} (h : CelW g n rw fv w) (hv : v < n) (hj : j < 7) {r' : Row} {f' x : Value} (hx : ∀ i, i < 7 → (rowCells r' f')[i]? = if i = j then some x else (rowCells (rw v) (fv v))[i]?) :
    CelW g n (updR rw v r') (updV fv v f') (w.setCell ⟨g, v * 7 + j, none⟩ x) := by
  obtain ⟨c, hg, hc⟩ := h.c
  refine ⟨_, heap_setCell_same hg _, fun u hu i hi => ?_⟩
  have hsz : v * 7 + j < c.size := by
    have h1 := hc v hv j hj
    have h2 : j < (rowCells (rw v) (fv v)).length := hj
    rw [List.getElem?_eq_getElem h2] at h1
    exact (Array.getElem?_eq_some_iff.1 h1).1
  by_cases e : u = v
  · subst e
    simp only [updR, updV, if_pos]
    rw [hx i hi]
    by_cases e' : i = j
    · subst e'; simp [hsz]
    · rw [if_neg e', Array.getElem?_setIfInBounds_ne (by omega)]; exact hc u hu i hi
  · simp only [updR, updV, if_neg e]
    rw [Array.getElem?_setIfInBounds_ne (by omega)]; exact hc u hu i hi
theorem updV_same (fv : Nat → Value) (x : Nat) : updV fv x (fv x) = fv := by funext u; unfold updV; split; (rename_i e; rw [e]); rfl
theorem updR_same (rw : Nat → Row) (x : Nat) : updR rw x (rw x) = rw := by funext u; unfold updR; split; (rename_i e; rw [e]); rfl
theorem updR_at (rw : Nat → Row) (x : Nat) (r : Row) : updR rw x r x = r := by simp [updR]
theorem updR_twice (rw : Nat → Row) (x : Nat) (r s : Row) : updR (updR rw x r) x s = updR rw x s := by funext u; unfold updR; split <;> rfl
theorem DesW.blk (h : DesW B g n rw fv w) {v : Nat} (hv : v < n) : (fv v).ownBlock ≠ some g := fun e => by
  obtain ⟨c, hg, -⟩ := h.cel.c
  obtain ⟨-, cs, hcs⟩ := own_cells (h.own v hv) g e
  rw [hg] at hcs; simp at hcs
theorem DesW.turn {w' : World} {bs : Nat → Prop} (h : DesW B g n rw fv w) (t : Turn bs w w') (hb : ¬ bs g) (hf : ∀ v, v < n → ∀ k, (fv v).ownBlock = some k → ¬ bs k) : DesW B g n rw fv w' :=
  ⟨h.cel.turn t hb, fun v hv => own_turn (h.own v hv) t (hf v hv), h.apart⟩
theorem DesW.keep {w' : World} (h : DesW B g n rw fv w) (t : Turn (fun _ => False) w w') : DesW B g n rw fv w' := h.turn t (fun h => h) (fun _ _ _ _ h => h)
/-- A store into a row, but for its fields. -/
theorem DesW.set {v j : Nat} (h : DesW B g n rw fv w) (hv : v < n) (hj : j < 6) {r' : Row} {x : Value} (hr : r'.fields = (rw v).fields) (hx : ∀ i, i < 7 → (rowCells r' (fv v))[i]? = if i = j then some x else (rowCells (rw v) (fv v))[i]?) :
    DesW B g n (updR rw v r') fv (w.setCell ⟨g, v * 7 + j, none⟩ x) := by
  have h1 := h.cel.set hv (by omega) hx
  rw [updV_same] at h1
  refine ⟨h1, fun u hu => ?_, h.apart⟩
  have h2 := own_turn (h.own u hu) ((Turn.refl (fun k => k = g) w).setCell (g := g) (i := v * 7 + j) x (fun _ => rfl)) (fun k hk e => h.blk hu (e ▸ hk))
  unfold updR; split
  · rename_i e; subst e; rw [hr]; exact h2
  · exact h2
theorem DesW.set1 {v : Nat} (h : DesW B g n rw fv w) (hv : v < n) (x : Int) : DesW B g n (updR rw v { rw v with size := x }) fv (w.setCell ⟨g, v * 7 + 1, none⟩ (.int .i64 x)) := h.set hv (by omega) rfl (fun i hi => by rcases i with _ | _ | _ | _ | _ | _ | _ | i <;> first | rfl | omega)
theorem DesW.set2 {v : Nat} (h : DesW B g n rw fv w) (hv : v < n) (x : Int) : DesW B g n (updR rw v { rw v with sign := x }) fv (w.setCell ⟨g, v * 7 + 2, none⟩ (.int .i64 x)) := h.set hv (by omega) rfl (fun i hi => by rcases i with _ | _ | _ | _ | _ | _ | _ | i <;> first | rfl | omega)
theorem DesW.set3 {v : Nat} (h : DesW B g n rw fv w) (hv : v < n) (x : Int) : DesW B g n (updR rw v { rw v with ptr := x }) fv (w.setCell ⟨g, v * 7 + 3, none⟩ (.int .i64 x)) := h.set hv (by omega) rfl (fun i hi => by rcases i with _ | _ | _ | _ | _ | _ | _ | i <;> first | rfl | omega)
theorem DesW.set4 {v : Nat} (h : DesW B g n rw fv w) (hv : v < n) (x : Int) : DesW B g n (updR rw v { rw v with elem := x }) fv (w.setCell ⟨g, v * 7 + 4, none⟩ (.int .i64 x)) := h.set hv (by omega) rfl (fun i hi => by rcases i with _ | _ | _ | _ | _ | _ | _ | i <;> first | rfl | omega)
theorem DesW.set5 {v : Nat} (h : DesW B g n rw fv w) (hv : v < n) (x : Int) : DesW B g n (updR rw v { rw v with count := x }) fv (w.setCell ⟨g, v * 7 + 5, none⟩ (.int .i64 x)) := h.set hv (by omega) rfl (fun i hi => by rcases i with _ | _ | _ | _ | _ | _ | _ | i <;> first | rfl | omega)
/-- A new row of fields. -/
theorem DesW.setF {v : Nat} {w1 : World} {f' : Value} {l' : List (Int × Int)} (h : DesW B g n rw fv w) (hv : v < n) (t : Turn (fun k => (fv v).ownBlock = some k) w w1) (ho : w1.ownsRow B 46 2 f' l'.length (mv l')) (hb : ∀ k, f'.ownBlock = some k → (fv v).ownBlock = some k ∨ w.heap.size ≤ k) :
    DesW B g n (updR rw v { rw v with fields := l' }) (updV fv v f') (w1.setCell ⟨g, v * 7 + 6, none⟩ f') := by
  have hc1 : CelW g n rw fv w1 := h.cel.turn t (h.blk hv)
  have hgl := h.cel.lt
  have hf'g : f'.ownBlock ≠ some g := fun e => by
    obtain ⟨c, hg, -⟩ := hc1.c
    obtain ⟨-, cs, hcs⟩ := own_cells ho g e
    rw [hg] at hcs; simp at hcs
  refine ⟨hc1.set hv (by omega) (fun i hi => by rcases i with _ | _ | _ | _ | _ | _ | _ | i <;> first | rfl | omega), fun u hu => ?_, fun a b ha hb' hab k hk => ?_⟩
  · have ts : Turn (fun k => k = g) w1 (w1.setCell ⟨g, v * 7 + 6, none⟩ f') := (Turn.refl (fun k => k = g) w1).setCell f' (fun _ => rfl)
    by_cases e : u = v
    · subst e
      simp only [updR, updV, if_pos]
      exact own_turn ho ts (fun k hk e => hf'g (e ▸ hk))
    · simp only [updR, updV, if_neg e]
      exact own_turn (own_turn (h.own u hu) t (fun k hk e' => h.apart u v hu hv e k hk e')) ts (fun k hk e => h.blk hu (e ▸ hk))
  · unfold updV at hk ⊢
    by_cases ea : a = v
    · subst ea
      rw [if_pos rfl] at hk
      rw [if_neg (Ne.symm hab)]
      rcases hb k hk with h1 | h1
      · exact h.apart a b ha hb' hab k h1
      · intro e; have := (h.own b hb').lt k e; omega
    · rw [if_neg ea] at hk
      by_cases eb : b = v
      · subst eb
        rw [if_pos rfl]
        intro e
        rcases hb k e with h1 | h1
        · exact h.apart a b ha hb' hab k hk h1
        · have := (h.own a ha).lt k hk; omega
      · rw [if_neg eb]; exact h.apart a b ha hb' hab k hk
end
/-- A whole row is written anew. -/
theorem CelW.row {g n i : Nat} {rw : Nat → Row} {fv : Nat → Value} {w : World} {c : Array Value} (hg : w.heap[g]? = some (.cells c 44 (0, 0))) (hc : ∀ v, v < n → ∀ j, j < 7 → c[v * 7 + j]? = (rowCells (rw v) (fv v))[j]?) (hi : i < n) (r' : Row) (f' : Value) (hs : i * 7 + 7 ≤ c.size) :
    CelW g n (updR rw i r') (updV fv i f') (w.setRow g (c.toList.take (i * 7) ++ rowCells r' f' ++ c.toList.drop (i * 7 + (rowCells r' f').length)).toArray) := by
  refine ⟨_, setRow_heap _ _ _ _ _ _ hg, fun v hv j hj => ?_⟩
  have hl : (rowCells r' f').length = 7 := rfl
  have hlt : (c.toList.take (i * 7)).length = i * 7 := by rw [List.length_take, Array.length_toList]; omega
  rw [List.getElem?_toArray]
  by_cases e : v = i
  · subst e
    simp only [updR, updV, if_pos]
    rw [List.getElem?_append_left (by rw [List.length_append, hlt, hl]; omega), List.getElem?_append_right (by rw [hlt]; omega), hlt]
    congr 1; omega
  · simp only [updR, updV, if_neg e]
    rw [← hc v hv j hj]
    rcases Nat.lt_or_ge v i with h | h
    · rw [List.getElem?_append_left (by rw [List.length_append, hlt, hl]; omega), List.getElem?_append_left (by rw [hlt]; omega), List.getElem?_take, if_pos (by omega), Array.getElem?_toList]
    · rw [List.getElem?_append_right (by rw [List.length_append, hlt, hl]; omega), List.length_append, hlt, hl, List.getElem?_drop, Array.getElem?_toList]
      congr 1; omega
/-- The rows ahead of all constraints. -/
def row0 (cl : Nat → Int) (v : Nat) : Row := ⟨cl v, 0, 0, -1, -1, 0, []⟩
def rows0 (cl : Nat → Int) (k : Nat) : List (Row × Value) := (List.range k).map fun v => (row0 cl v, .slice none 0 0)
theorem rows0_len (cl : Nat → Int) (k : Nat) : (rows0 cl k).length = k := by simp [rows0]
theorem rows0_succ (cl : Nat → Int) (k : Nat) : rows0 cl (k + 1) = rows0 cl k ++ [(row0 cl k, .slice none 0 0)] := by simp [rows0, List.range_succ]
theorem rows0_at {cl : Nat → Int} {k v : Nat} (h : v < k) : (rows0 cl k)[v]? = some (row0 cl v, .slice none 0 0) := by simp [rows0, h]
theorem own_des {w : World} {B n : Nat} {v : Value} {cl : Nat → Int} (h : w.ownsRow B 44 7 v n (rowsCells (rows0 cl n))) (hn : 0 < n) : ∃ g cap, v = .slice (some ⟨g, 0, none⟩) n cap ∧ n ≤ cap ∧ B ≤ g ∧ DesW B g n (row0 cl) (fun _ => .slice none 0 0) w := by
  obtain ⟨sp, sc, rfl⟩ := own_slice h
  have hcap := own_cap h
  obtain ⟨g, cur, rfl, hB, hg, hcur⟩ := own_ptr h hn
  refine ⟨g, sc, rfl, hcap.1, hB, ⟨⟨cur, hg, fun v hv j hj => ?_⟩⟩, fun v hv => ⟨rfl, .inl ⟨rfl, rfl⟩⟩, fun u v _ _ _ k hk => by cases hk⟩
  rw [hcur _ (by omega)]
  exact rowsCells_at (rows0_at hv) hj
/-- A round's middle: what the switch leaves. -/
def midR (c : Con) (y : Int) (s : Row) : Row :=
  if c.kind = 3 ∨ c.kind = 4 then { s with sign := c.kind } else if c.kind = 5 then { s with ptr := y } else if c.kind = 6 then { s with fields := putS s.fields (c.n, y) } else if c.kind = 7 then { s with elem := y, count := max s.count c.n } else s
def midZ (c : Con) : Int := if c.kind = 2 then c.n else if c.kind = 5 then 2 else 0
def midB (c : Con) (s : Row) (ok : Bool) : Bool := if c.kind = 3 ∨ c.kind = 4 then ok && decide (s.sign = 0 ∨ s.sign = c.kind) else ok
theorem mid_step (c : Con) (y : Int) (s : Row) (ok : Bool) (hz : midZ c > 0) : stepR c y s = { midR c y s with size := midZ c } ∧ stepB c s ok = (midB c s ok && decide ((midR c y s).size = 0 ∨ (midR c y s).size = midZ c)) := by
  unfold midZ at hz
  unfold stepR midR stepB midB midZ
  split at hz
  · rename_i h; rw [if_pos h, if_neg (by omega), if_neg (by omega), if_neg (by omega), if_neg (by omega)]
    simp [h]
  · split at hz
    · rename_i h2 h; rw [if_neg h2, if_neg (by omega), if_pos h, if_neg (by omega), if_pos h]
      simp [h]
    · omega
theorem mid_none (c : Con) (y : Int) (s : Row) (ok : Bool) {n : Int} (hr : rightS n c = true) (hz : ¬ midZ c > 0) : stepR c y s = midR c y s ∧ stepB c s ok = midB c s ok := by
  have h2 : c.kind ≠ 2 := fun h => by have := right_n hr (.inl h); unfold midZ at hz; rw [if_pos h] at hz; omega
  have h5 : c.kind ≠ 5 := fun h => by unfold midZ at hz; rw [if_neg h2, if_pos h] at hz; omega
  unfold stepR midR stepB midB
  rw [if_neg h2, if_neg h5, if_neg h5, if_neg h2, if_neg h5]
  exact ⟨rfl, rfl⟩
def PutQ (B : Nat) (W0 : Nat) (lv : Value) (l' : List (Int × Int)) (v : Value) (w : World) : Prop := w.ownsRow B 46 2 v l'.length (mv l') ∧ ∀ k, v.ownBlock = some k → lv.ownBlock = some k ∨ W0 ≤ k
def DscPost (n : Nat) (cs : List Con) (cl : Nat → Int) (w : World) (e : Ending) (w' : World) : Prop :=
  Below w.heap.size w w' ∧ ∃ g cap rw fv ok, e = .returned (.tuple #[.slice (some ⟨g, 0, none⟩) n cap, .bool ok]) ∧ n ≤ cap ∧ w.heap.size ≤ g ∧ DesI n cs cs cl rw ok ∧ DesW w.heap.size g n (fun v => rw (cl v).toNat) fv w'

set_option maxRecDepth 100000 in
set_option maxHeartbeats 4000000 in
theorem rdescribed_any (n : Nat) (hn : 0 < n) (hn2 : n ≤ 2000) (cs : List Con) (hR : ∀ c ∈ cs, rightS n c = true) (hl : cs.length ≤ 5000) (cl : Nat → Int) (hI : ClaI n cs cl) (hS : Shut cs cl) (w : World) (ao : Option Addr) (cap : Nat) (h : ConsW ao cs w) (gc capc : Nat) (hc : ClaW gc n cl w) :
    Calls Tryd.prog 36 #[.int .i64 n, .slice ao cs.length cap, .slice (some ⟨gc, 0, none⟩) n capc] w (DscPost n cs cl w) := by
  have H := Lib.hid h
  have HR := Lib.hid hR
  have HCI := Lib.hid (And.intro hI hS)
  have HCW := Lib.hid hc
  have hgl : gc < w.heap.size := by obtain ⟨c, hg, -⟩ := hc; exact (Array.getElem?_eq_some_iff.1 hg).1
  clear h hR hI hS hc
  obtain ⟨j0, hj, hy0, hy1, hy2⟩ := info_parts infoSld
  go_enter Tryd.func36, Tryd.ntmps36
  go_upto_block 0 with fail
  go_cut [8] (fun s8 wx => ∃ g cp, s8 = .slice (some ⟨g, 0, none⟩) n cp ∧ n ≤ cp ∧ w.heap.size ≤ g ∧ Hid (DesW w.heap.size g n (row0 cl) (fun _ => .slice none 0 0) wx) ∧ Hid (Below w.heap.size w wx))
  case first =>
    go_wp2_with fail
    go_loopw [8, 9] (fun s8 s9 wr => ∃ (k : Nat) (v8 : Value), s8 = v8 ∧ k ≤ n ∧ s9 = .int .i64 k ∧ Hid (wr.ownsRow w.heap.size 44 7 v8 k (rowsCells (rows0 cl k))) ∧ Hid (Below w.heap.size w wr)) (fun _ s9 _ => n - (intOf s9).toNat)
    case atStart => exact ⟨0, _, rfl, Nat.zero_le _, rfl, Lib.hid ⟨rfl, .inl ⟨rfl, rfl⟩⟩, Lib.hid (Below.refl _ _)⟩
    case round =>
      obtain ⟨k, v8, h8, hk, rfl, HOW, HB⟩ := hrel
      have h8' := h8.symm
      subst h8'
      by_cases hlt : k < n
      · have ck : wr.cell? ⟨gc, k, none⟩ = some (.int .i64 (cl k)) := (HCW.out.turn (Turn.ofBelow (bs := fun _ => False) HB.out) (fun h => h)).cell hlt
        have hsz : w.heap.size ≤ wr.heap.size := HB.out.size
        have hlen := Lib.hid (rowsCells_len (rows0 cl k))
        go_wp2_with (at_builtin; refine wpList_append_own _ rfl _ _ 30 rfl w.heap.size 44 j0 (.agg #[.int .i64 0, .int .i64 0, .int .i64 0, .int .i64 0, .int .i64 0, .int .i64 0, .slice none 0 0]) 7 72 Tryd.underlying30 hj hy0 hy1 hy2 rfl (by decide) _ k (rowsCells (rows0 cl k)) rfl (own_turn HOW.out ((Turn.refl (fun _ => False) _).alloc _) (fun _ _ h => h)) ⟨wr.heap.size, 0, none⟩ 1 1 (rowCells (row0 cl k) (.slice none 0 0)) rfl rfl (cells_new _ _ _ _ rfl) (by intro u hu; simp [rowCells] at hu; rcases hu with rfl | rfl | rfl | rfl | rfl | rfl | rfl <;> rfl) (by unfold maxLen; omega) (by omega) (Nat.le_trans hsz (by simp)) ?_; intro v6 w6 hown6 hgrow6 _)
        have hgB : Turn (fun k => w.heap.size ≤ k) wr w6 := ((Turn.refl _ _).alloc _).grown hgrow6 (fun k e _ => (own_cells HOW.out k e).1)
        go_roundw
        case rel => exact ⟨k + 1, _, rfl, by omega, by go_num, Lib.hid (by rw [rows0_succ, rowsCells_snoc]; exact hown6), Lib.hid (HB.out.trans (hgB.toBelow hsz (fun _ h => h)))⟩
        case measure => simp [intOf]; omega
      · have hkn : k = n := by omega
        subst hkn
        obtain ⟨g, cp, rfl, h1, h2, h3⟩ := own_des HOW.out hn
        have H3 := Lib.hid h3
        clear h3 HOW
        go_wp2_with fail
        go_meet
        case rel => exact ⟨g, cp, rfl, h1, h2, H3, HB⟩
  case rest =>
    obtain ⟨g, cp, rfl, hcp, hBg, HD0, HB0⟩ := hcut
    go_upto_block 2 with fail
    go_cut [10] (fun s10 wx => ∃ rw fv ok, s10 = .bool ok ∧ Hid (DesI n cs cs cl rw ok) ∧ Hid (DesW w.heap.size g n rw fv wx) ∧ Hid (Below w.heap.size w wx))
    case first =>
      go_wp2_with fail
      go_loopw [10, 11] (fun s10 s11 wr => ∃ (i : Nat) (rw : Nat → Row) (fv : Nat → Value) (ok : Bool), i ≤ cs.length ∧ s10 = .bool ok ∧ s11 = .int .i64 i ∧ Hid (DesI n cs (cs.take i) cl rw ok) ∧ Hid (DesW w.heap.size g n rw fv wr) ∧ Hid (Below w.heap.size w wr)) (fun _ s11 _ => cs.length - (intOf s11).toNat)
      case atStart => exact ⟨0, row0 cl, _, true, Nat.zero_le _, rfl, rfl, Lib.hid (by rw [List.take_zero]; exact DesI.start HCI.out.1), HD0, HB0⟩
      case round =>
        clear HD0 HB0
        obtain ⟨i, rw, fv, ok, hi, rfl, rfl, HDI, HDW, HB⟩ := hrel
        by_cases hlt : i < cs.length
        · obtain ⟨x, hx⟩ : ∃ x, cs[i]? = some x := ⟨cs[i], by simp [hlt]⟩
          have hxm := List.mem_of_getElem? hx
          have hxr := HR.out x hxm
          obtain ⟨ga, ca, rfl, hga, hca⟩ := H.out (by omega)
          have hxa := right_a hxr
          obtain ⟨an, han⟩ := Int.eq_ofNat_of_zero_le hxa.1
          have hann : an < n := by omega
          obtain ⟨r, hr⟩ := Int.eq_ofNat_of_zero_le (HCI.out.1.nn an hann)
          have hrn : r < n := by have := HCI.out.1.le an hann; omega
          have HEX := Lib.hid (con_extract (hca i x hx))
          have HGA := Lib.hid (below_keep HB.out hga)
          have HX := Lib.hid (And.intro hx (And.intro hxm (And.intro hxr (And.intro han hr))))
          have HSTEP := Lib.hid (HDI.out.step HCI.out.1 HCI.out.2 HR.out hxm (x := r) (by rw [han]; simpa using hr))
          have HTK := Lib.hid (show cs.take (i + 1) = cs.take i ++ [x] by rw [List.take_add_one, hx]; rfl)
          clear hx hxm hxr hga hca hxa
          go_upto_region 11 with (first | (refine wpList_val (by rfl) (exec_load_midB 37 _ rfl ga (i * 4) rfl ca 37 (0, 0) HGA.out (conCells x).toList HEX.out (by kernel_rfl)) ?_) | (refine wpList_store_row rfl _ _ _ rfl _ _ rfl rfl _ _ (heap_alloc_new _ _) ?_ ?_ ?_ ?_; kernel_rfl; rfl; kernel_rfl; rw [World.setRow_alloc_new]))
          -- ROUND
          have hbxa : ∃ W, W = wr.alloc (.cells #[.int .i64 x.kind, .int .i64 x.a, .int .i64 x.b, .int .i64 x.n] 37) := ⟨_, rfl⟩
          obtain ⟨W, hW⟩ := hbxa
          change Code.wp _ _ _ _ (wr.alloc (.cells #[.int .i64 x.kind, .int .i64 x.a, .int .i64 x.b, .int .i64 x.n] 37))
          rw [← hW]
          have hbx : W.heap[wr.heap.size]? = some (.cells #[.int .i64 x.kind, .int .i64 (an : Int), .int .i64 x.b, .int .i64 x.n] 37 (0, 0)) := by rw [hW, ← HX.out.2.2.2.1]; exact heap_alloc_new _ _
          have htw : Turn (fun _ => False) wr W := by rw [hW]; exact (Turn.refl _ _).alloc _
          have HBX := Lib.hid hbx
          have HDV := Lib.hid (HDW.out.keep htw)
          have HBW := Lib.hid (HB.out.trans (htw.toBelow HB.out.size (fun _ h => h.elim)))
          have HCV := Lib.hid (HCW.out.turn (Turn.ofBelow (bs := fun _ => False) HBW.out) (fun h => h))
          have k0 : W.cell? ⟨wr.heap.size, 0, none⟩ = some (.int .i64 x.kind) := by rw [cell_of_row _ _ _ _ _ _ hbx]; rfl
          have k1 : W.cell? ⟨wr.heap.size, 1, none⟩ = some (.int .i64 (an : Int)) := by rw [cell_of_row _ _ _ _ _ _ hbx]; rfl
          have k3 : W.cell? ⟨wr.heap.size, 3, none⟩ = some (.int .i64 x.n) := by rw [cell_of_row _ _ _ _ _ _ hbx]; rfl
          have kc : W.cell? ⟨gc, an, none⟩ = some (.int .i64 (r : Int)) := by rw [HCV.out.cell hann, HX.out.2.2.2.2]
          have hszw : w.heap.size ≤ W.heap.size := HBW.out.size
          have hng : ¬ wr.heap.size = g := fun e => by have := HDW.out.cel.lt; omega
          have hgl2 : g < W.heap.size := HDV.out.cel.lt
          clear hW hbx htw HDW HB HEX HGA
          go_upto_block 4 with fail
          go_cut [10, 14] (fun s10 s14 wx => ∃ rw' fv' ok' z, s10 = .bool ok' ∧ s14 = .int .i64 z ∧ Hid (ok' = midB x (rw r) ok ∧ z = midZ x ∧ rw' = updR rw r (midR x (cl x.b.toNat) (rw r))) ∧ Hid (DesW w.heap.size g n rw' fv' wx) ∧ Hid (Below w.heap.size w wx))
          case first =>
            have hkk : x.kind = 1 ∨ x.kind = 2 ∨ x.kind = 3 ∨ x.kind = 4 ∨ x.kind = 5 ∨ x.kind = 6 ∨ x.kind = 7 := by
              have h9 := HX.out.2.2.1
              simp only [rightS, Bool.and_eq_true, Bool.or_eq_true, decide_eq_true_eq] at h9
              omega
            rcases hkk with hk | hk | hk | hk | hk | hk | hk
            · have HK := Lib.hid hk
              have e2 : (x.kind == 2) = false := by rw [hk]; rfl
              have e3 : (x.kind == 3) = false := by rw [hk]; rfl
              have e4 : (x.kind == 4) = false := by rw [hk]; rfl
              have e5 : (x.kind == 5) = false := by rw [hk]; rfl
              have e6 : (x.kind == 6) = false := by rw [hk]; rfl
              have e7 : (x.kind == 7) = false := by rw [hk]; rfl
              clear hk
              go_wp2_with fail
              go_meet
              case rel => exact ⟨rw, fv, ok, 0, rfl, rfl, Lib.hid ⟨by simp [midB, HK.out], by simp [midZ, HK.out], by simp [midR, HK.out, updR_same]⟩, Lib.hid (HDV.out), Lib.hid (HBW.out)⟩
            · have HK := Lib.hid hk
              have e2 : (x.kind == 2) = true := by rw [hk]; rfl
              have e3 : (x.kind == 3) = false := by rw [hk]; rfl
              have e4 : (x.kind == 4) = false := by rw [hk]; rfl
              have e5 : (x.kind == 5) = false := by rw [hk]; rfl
              have e6 : (x.kind == 6) = false := by rw [hk]; rfl
              have e7 : (x.kind == 7) = false := by rw [hk]; rfl
              clear hk
              go_wp2_with fail
              go_meet
              case rel => exact ⟨rw, fv, ok, x.n, rfl, rfl, Lib.hid ⟨by simp [midB, HK.out], by simp [midZ, HK.out], by simp [midR, HK.out, updR_same]⟩, Lib.hid (HDV.out), Lib.hid (HBW.out)⟩
            · have HK := Lib.hid hk
              have e2 : (x.kind == 2) = false := by rw [hk]; rfl
              have e3 : (x.kind == 3) = true := by rw [hk]; rfl
              have e4 : (x.kind == 4) = false := by rw [hk]; rfl
              have e5 : (x.kind == 5) = false := by rw [hk]; rfl
              have e6 : (x.kind == 6) = false := by rw [hk]; rfl
              have e7 : (x.kind == 7) = false := by rw [hk]; rfl
              clear hk
              have c2 : W.cell? ⟨g, r * 7 + 2, none⟩ = some (.int .i64 (rw r).sign) := (HDV.out.cel.at hrn (j := 2) (by omega)).1
              have f2 := (HDV.out.cel.at hrn (j := 2) (by omega)).2
              have k0' : W.cell? ⟨wr.heap.size, 0, none⟩ = some (.int .i64 3) := by rw [k0, HK.out]
              have h0 := k0; clear k0
              have HDR := Lib.hid (HDV.out.set2 hrn 3)
              cases ok
              · have HG := trivial
                go_upto_region 18 with fail
                go_quiet (fail)
                go_wp2_with fail
                go_meet
                case rel => exact ⟨_, fv, false, 0, rfl, rfl, Lib.hid ⟨by simp [midB, HK.out], by simp [midZ, HK.out], by rw [show midR x (cl x.b.toNat) (rw r) = { rw r with sign := 3 } by simp [midR, HK.out]]⟩, Lib.hid ((HDV.out.keep ((Turn.refl _ _).drewN _)).set2 hrn 3), Lib.hid ((HBW.out.trans (((Turn.refl (fun _ => False) _).drewN _).toBelow hszw (fun _ h => h.elim))).setCell hBg _)⟩
              · by_cases hs : (rw r).sign = 0
                · have es : ((rw r).sign == 0) = true := by simpa using hs
                  have HG := Lib.hid hs; clear hs
                  go_upto_region 18 with fail
                  go_quiet (fail)
                  go_wp2_with fail
                  go_meet
                  case rel => exact ⟨_, fv, true, 0, rfl, rfl, Lib.hid ⟨by simp [midB, HK.out, HG.out], by simp [midZ, HK.out], by rw [show midR x (cl x.b.toNat) (rw r) = { rw r with sign := 3 } by simp [midR, HK.out]]⟩, Lib.hid ((HDV.out.keep ((Turn.refl _ _).drewN _)).set2 hrn 3), Lib.hid ((HBW.out.trans (((Turn.refl (fun _ => False) _).drewN _).toBelow hszw (fun _ h => h.elim))).setCell hBg _)⟩
                · have es : ((rw r).sign == 0) = false := by simpa using hs
                  by_cases hs2 : (rw r).sign = 3
                  · have es2 : ((rw r).sign == 3) = true := by simpa using hs2
                    have HG := Lib.hid hs2; clear hs hs2
                    go_upto_region 18 with fail
                    go_quiet (fail)
                    go_wp2_with fail
                    go_meet
                    case rel => exact ⟨_, fv, true, 0, rfl, rfl, Lib.hid ⟨by simp [midB, HK.out, HG.out], by simp [midZ, HK.out], by rw [show midR x (cl x.b.toNat) (rw r) = { rw r with sign := 3 } by simp [midR, HK.out]]⟩, Lib.hid ((HDV.out.keep ((Turn.refl _ _).drewN _)).set2 hrn 3), Lib.hid ((HBW.out.trans (((Turn.refl (fun _ => False) _).drewN _).toBelow hszw (fun _ h => h.elim))).setCell hBg _)⟩
                  · have es2 : ((rw r).sign == 3) = false := by simpa using hs2
                    have HG := Lib.hid (And.intro hs hs2); clear hs hs2
                    go_upto_region 18 with fail
                    go_quiet (fail)
                    go_wp2_with fail
                    go_meet
                    case rel => exact ⟨_, fv, false, 0, rfl, rfl, Lib.hid ⟨by simp [midB, HK.out, HG.out.1, HG.out.2], by simp [midZ, HK.out], by rw [show midR x (cl x.b.toNat) (rw r) = { rw r with sign := 3 } by simp [midR, HK.out]]⟩, Lib.hid ((HDV.out.keep ((Turn.refl _ _).drewN _)).set2 hrn 3), Lib.hid ((HBW.out.trans (((Turn.refl (fun _ => False) _).drewN _).toBelow hszw (fun _ h => h.elim))).setCell hBg _)⟩
            · have HK := Lib.hid hk
              have e2 : (x.kind == 2) = false := by rw [hk]; rfl
              have e3 : (x.kind == 3) = false := by rw [hk]; rfl
              have e4 : (x.kind == 4) = true := by rw [hk]; rfl
              have e5 : (x.kind == 5) = false := by rw [hk]; rfl
              have e6 : (x.kind == 6) = false := by rw [hk]; rfl
              have e7 : (x.kind == 7) = false := by rw [hk]; rfl
              clear hk
              have c2 : W.cell? ⟨g, r * 7 + 2, none⟩ = some (.int .i64 (rw r).sign) := (HDV.out.cel.at hrn (j := 2) (by omega)).1
              have f2 := (HDV.out.cel.at hrn (j := 2) (by omega)).2
              have k0' : W.cell? ⟨wr.heap.size, 0, none⟩ = some (.int .i64 4) := by rw [k0, HK.out]
              have h0 := k0; clear k0
              have HDR := Lib.hid (HDV.out.set2 hrn 4)
              cases ok
              · have HG := trivial
                go_upto_region 18 with fail
                go_quiet (fail)
                go_wp2_with fail
                go_meet
                case rel => exact ⟨_, fv, false, 0, rfl, rfl, Lib.hid ⟨by simp [midB, HK.out], by simp [midZ, HK.out], by rw [show midR x (cl x.b.toNat) (rw r) = { rw r with sign := 4 } by simp [midR, HK.out]]⟩, Lib.hid ((HDV.out.keep ((Turn.refl _ _).drewN _)).set2 hrn 4), Lib.hid ((HBW.out.trans (((Turn.refl (fun _ => False) _).drewN _).toBelow hszw (fun _ h => h.elim))).setCell hBg _)⟩
              · by_cases hs : (rw r).sign = 0
                · have es : ((rw r).sign == 0) = true := by simpa using hs
                  have HG := Lib.hid hs; clear hs
                  go_upto_region 18 with fail
                  go_quiet (fail)
                  go_wp2_with fail
                  go_meet
                  case rel => exact ⟨_, fv, true, 0, rfl, rfl, Lib.hid ⟨by simp [midB, HK.out, HG.out], by simp [midZ, HK.out], by rw [show midR x (cl x.b.toNat) (rw r) = { rw r with sign := 4 } by simp [midR, HK.out]]⟩, Lib.hid ((HDV.out.keep ((Turn.refl _ _).drewN _)).set2 hrn 4), Lib.hid ((HBW.out.trans (((Turn.refl (fun _ => False) _).drewN _).toBelow hszw (fun _ h => h.elim))).setCell hBg _)⟩
                · have es : ((rw r).sign == 0) = false := by simpa using hs
                  by_cases hs2 : (rw r).sign = 4
                  · have es2 : ((rw r).sign == 4) = true := by simpa using hs2
                    have HG := Lib.hid hs2; clear hs hs2
                    go_upto_region 18 with fail
                    go_quiet (fail)
                    go_wp2_with fail
                    go_meet
                    case rel => exact ⟨_, fv, true, 0, rfl, rfl, Lib.hid ⟨by simp [midB, HK.out, HG.out], by simp [midZ, HK.out], by rw [show midR x (cl x.b.toNat) (rw r) = { rw r with sign := 4 } by simp [midR, HK.out]]⟩, Lib.hid ((HDV.out.keep ((Turn.refl _ _).drewN _)).set2 hrn 4), Lib.hid ((HBW.out.trans (((Turn.refl (fun _ => False) _).drewN _).toBelow hszw (fun _ h => h.elim))).setCell hBg _)⟩
                  · have es2 : ((rw r).sign == 4) = false := by simpa using hs2
                    have HG := Lib.hid (And.intro hs hs2); clear hs hs2
                    go_upto_region 18 with fail
                    go_quiet (fail)
                    go_wp2_with fail
                    go_meet
                    case rel => exact ⟨_, fv, false, 0, rfl, rfl, Lib.hid ⟨by simp [midB, HK.out, HG.out.1, HG.out.2], by simp [midZ, HK.out], by rw [show midR x (cl x.b.toNat) (rw r) = { rw r with sign := 4 } by simp [midR, HK.out]]⟩, Lib.hid ((HDV.out.keep ((Turn.refl _ _).drewN _)).set2 hrn 4), Lib.hid ((HBW.out.trans (((Turn.refl (fun _ => False) _).drewN _).toBelow hszw (fun _ h => h.elim))).setCell hBg _)⟩
            · have HK := Lib.hid hk
              have e2 : (x.kind == 2) = false := by rw [hk]; rfl
              have e3 : (x.kind == 3) = false := by rw [hk]; rfl
              have e4 : (x.kind == 4) = false := by rw [hk]; rfl
              have e5 : (x.kind == 5) = true := by rw [hk]; rfl
              have e6 : (x.kind == 6) = false := by rw [hk]; rfl
              have e7 : (x.kind == 7) = false := by rw [hk]; rfl
              clear hk
              have hxb := right_b HX.out.2.2.1 (by have := HK.out; omega)
              obtain ⟨bn, hbn⟩ := Int.eq_ofNat_of_zero_le hxb.1
              have hbnn : bn < n := by omega
              have k2 : W.cell? ⟨wr.heap.size, 2, none⟩ = some (.int .i64 (bn : Int)) := by rw [cell_of_row _ _ _ _ _ _ HBX.out, ← hbn]; rfl
              have kb : W.cell? ⟨gc, bn, none⟩ = some (.int .i64 (cl bn)) := HCV.out.cell hbnn
              have HBN := Lib.hid (show cl x.b.toNat = cl bn by rw [hbn]; rfl)
              clear hxb hbn
              have f3 := (HDV.out.cel.at hrn (j := 3) (by omega)).2
              have c3 : W.cell? ⟨g, r * 7 + 3, none⟩ = some (.int .i64 (rw r).ptr) := (HDV.out.cel.at hrn (j := 3) (by omega)).1
              go_wp2_with fail
              go_meet
              case rel => exact ⟨_, fv, ok, 2, rfl, rfl, Lib.hid ⟨by simp [midB, HK.out], by simp [midZ, HK.out], by rw [HBN.out]; rw [show midR x (cl bn) (rw r) = { rw r with ptr := cl bn } by simp [midR, HK.out]]⟩, Lib.hid (HDV.out.set3 hrn (cl bn)), Lib.hid (HBW.out.setCell hBg _)⟩
            · have HK := Lib.hid hk
              have e2 : (x.kind == 2) = false := by rw [hk]; rfl
              have e3 : (x.kind == 3) = false := by rw [hk]; rfl
              have e4 : (x.kind == 4) = false := by rw [hk]; rfl
              have e5 : (x.kind == 5) = false := by rw [hk]; rfl
              have e6 : (x.kind == 6) = true := by rw [hk]; rfl
              have e7 : (x.kind == 7) = false := by rw [hk]; rfl
              clear hk
              have hxb := right_b HX.out.2.2.1 (by have := HK.out; omega)
              obtain ⟨bn, hbn⟩ := Int.eq_ofNat_of_zero_le hxb.1
              have hbnn : bn < n := by omega
              have k2 : W.cell? ⟨wr.heap.size, 2, none⟩ = some (.int .i64 (bn : Int)) := by rw [cell_of_row _ _ _ _ _ _ HBX.out, ← hbn]; rfl
              have kb : W.cell? ⟨gc, bn, none⟩ = some (.int .i64 (cl bn)) := HCV.out.cell hbnn
              have HBN := Lib.hid (show cl x.b.toNat = cl bn by rw [hbn]; rfl)
              clear hxb hbn
              have HC6 := Lib.hid ((HDV.out.cel.at hrn (j := 6) (by omega)).1)
              obtain ⟨fp, fc, hfv⟩ := own_slice (HDV.out.own r hrn)
              obtain ⟨cg, hcg, hcr⟩ := HDV.out.cel.c
              have HCG := Lib.hid (And.intro hcg (show cg[r * 7 + 6]? = some (.slice fp (rw r).fields.length fc) by rw [hcr r hrn 6 (by omega), ← hfv]; rfl))
              have hown := HDV.out.own r hrn
              have hblk := HDV.out.blk hrn
              rw [hfv] at hown hblk
              have HOW := Lib.hid hown
              have HFV := Lib.hid hfv
              have HBK := Lib.hid hblk
              have HPT := Lib.hid (fun (w5 : World) (t : Turn (fun _ => False) W w5) => rput_any w.heap.size fp fc (rw r).fields (x.n, cl bn) w5 (Nat.le_trans hszw t.size) ((HDI.out.rows r hrn).few) (own_turn hown t (fun _ _ h => h)))
              obtain ⟨cc, hcc, hccr⟩ := HCV.out
              have HCC := Lib.hid (And.intro hcc (hccr bn hbnn))
              have hbnk : ¬ (Value.slice fp (rw r).fields.length fc).ownBlock = some wr.heap.size := fun e => by obtain ⟨-, cs9, h9⟩ := own_cells HOW.out _ e; rw [HBX.out] at h9; simp at h9
              have hcnk : ¬ (Value.slice fp (rw r).fields.length fc).ownBlock = some gc := fun e => by have h9 := (own_cells HOW.out _ e).1; omega
              have f6 := (HDV.out.cel.at hrn (j := 6) (by omega)).2
              clear hcg hcr hown hblk hfv hcc hccr
              go_upto_region 24 with fail
              refine wp_region_relyU 1 _ (.pointer (some ⟨g, r * 7, none⟩)) [] 14 (factOf [isV ((.pointer (some ⟨g, r * 7, none⟩))), isVs [(.pointer (some ⟨g, r * 7, none⟩))] ((fun w5 => Turn (fun _ => False) W w5)), isV ((.pointer (some ⟨g, r * 7, none⟩))), isV ((.pointer (some ⟨g, r * 7 + 6, none⟩))), isV ((.slice fp (rw r).fields.length fc)), isV ((.pointer (some ⟨wr.heap.size, 3, none⟩))), isV ((.int .i64 x.n)), isV ((.slice (some ⟨gc, 0, none⟩) n capc)), isV ((.pointer (some ⟨wr.heap.size, 2, none⟩))), isV ((.int .i64 (bn : Int))), isV ((.pointer (some ⟨gc, bn, none⟩))), isV ((.int .i64 (cl bn))), isV ((.agg #[.int .i64 x.n, .int .i64 (cl bn)])), isVT ((fun _ => False)) (PutQ w.heap.size W.heap.size (.slice fp (rw r).fields.length fc) (putS (rw r).fields (x.n, cl bn)))]) (nth [[0], [1], [2], [3], [4], [5], [6], [7], [8], [9], [10], [11], [12], [13]]) (nth [[], [], [], [], [], [], [], [], [], [], [], [], [], [1]]) (nth [[], [], [1], [2], [3], [], [5], [], [], [8], [7, 9], [10], [6, 11], [4, 12, 1]]) [0, 13] (fun w5 => Turn (fun k => (Value.slice fp (rw r).fields.length fc).ownBlock = some k) W w5) (by kernel_rfl) (by kernel_rfl) rfl (by kernel_rfl) (by kernel_rfl) (by kernel_rfl) (fun _ _ _ h => h) ⟨by rfl, fun w => by rfl⟩ (⟨by rfl, (Turn.refl _ _).drew⟩) ((Turn.refl _ _).drew) (fun w w' h hb => h.trans (Turn.ofBelow (bs := fun _ => False) hb) (fun _ _ h => h.elim)) (GrowsAll.of ((GrowsAll.cons (Grows.isV _)  (GrowsAll.cons (Grows.isVs _ (fun w w' h hb => h.trans (Turn.ofBelow (bs := fun _ => False) hb) (fun _ _ h => h.elim)))  (GrowsAll.cons (Grows.isV _)  (GrowsAll.cons (Grows.isV _)  (GrowsAll.cons (Grows.isV _)  (GrowsAll.cons (Grows.isV _)  (GrowsAll.cons (Grows.isV _)  (GrowsAll.cons (Grows.isV _)  (GrowsAll.cons (Grows.isV _)  (GrowsAll.cons (Grows.isV _)  (GrowsAll.cons (Grows.isV _)  (GrowsAll.cons (Grows.isV _)  (GrowsAll.cons (Grows.isV _)  (GrowsAll.cons (Grows.isVT _ _) GrowsAll.nil)))))))))))))))) (fun f F hF => ?_)
              simp only [List.take_succ_cons, List.take_zero, fullGo, Act.put, List.setIfInBounds_toArray, List.set_cons_zero, List.set_cons_succ, Nat.reduceAdd] at hF
              subst hF
              refine ⟨StepObsF.cons ?_ (StepObsF.skip (by rfl) (StepObsF.cons ?_ (StepObsF.cons ?_ (StepObsF.cons ?_ (StepObsF.cons ?_ (StepObsF.cons ?_ (StepObsF.cons ?_ (StepObsF.cons ?_ (StepObsF.cons ?_ (StepObsF.cons ?_ (StepObsF.cons ?_ (StepObsF.cons ?_ (StepObsF.cons ?_ (StepObsF.nil)))))))))))))), ?_⟩
              · intro w5 hS hF hD K hK
                rw [if_pos (by rfl)]
                refine wp_of_quiet (v := (.pointer (some ⟨g, r * 7, none⟩))) (by (show _ = _); kernel_rfl) (hK.out _ _ rfl (After.lit rfl rfl rfl ?_))
                first | rfl | kernel_rfl
              · intro w5 hS hF hD K hK
                obtain ⟨e1, -⟩ := hF
                obtain ⟨e1, p1⟩ := e1
                replace e1 : [f 1] = _ := e1
                simp only [List.cons.injEq, and_true] at e1
                have q1_1 := e1
                try simp only [q1_1]
                rw [if_pos (by rfl)]
                refine wp_of_quiet (v := (.pointer (some ⟨g, r * 7, none⟩))) (by (show _ = _); kernel_rfl) (hK.out _ _ rfl (After.lit rfl rfl rfl ?_))
                first | rfl | kernel_rfl
              · intro w5 hS hF hD K hK
                obtain ⟨e2, -⟩ := hF
                replace e2 : f 2 = _ := e2
                try simp only [e2]
                rw [if_pos (by rfl)]
                refine wp_of_quiet (v := (.pointer (some ⟨g, r * 7 + 6, none⟩))) (by (show _ = _); kernel_rfl) (hK.out _ _ rfl (After.lit rfl rfl rfl ?_))
                first | rfl | kernel_rfl
              · intro w5 hS hF hD K hK
                obtain ⟨e3, -⟩ := hF
                replace e3 : f 3 = _ := e3
                try simp only [e3]
                rw [if_pos (by rfl)]
                exact wp_of_quiet (exec_load_at _ _ rfl _ _ rfl _ _ _ (hS.heap HCG.out.1 HBK.out) ((.slice fp (rw r).fields.length fc)) (HCG.out.2) (fun _ => by kernel_rfl)) (hK.out _ _ rfl (After.lit rfl rfl rfl (by first | rfl | kernel_rfl)))
              · intro w5 hS hF hD K hK
                rw [if_pos (by rfl)]
                refine wp_of_quiet (v := (.pointer (some ⟨wr.heap.size, 3, none⟩))) (by (show _ = _); kernel_rfl) (hK.out _ _ rfl (After.lit rfl rfl rfl ?_))
                first | rfl | kernel_rfl
              · intro w5 hS hF hD K hK
                obtain ⟨e5, -⟩ := hF
                replace e5 : f 5 = _ := e5
                try simp only [e5]
                rw [if_pos (by rfl)]
                exact wp_of_quiet (exec_load_at _ _ rfl _ _ rfl _ _ _ (hS.heap HBX.out hbnk) ((.int .i64 x.n)) (by kernel_rfl) (fun _ => by kernel_rfl)) (hK.out _ _ rfl (After.lit rfl rfl rfl (by first | rfl | kernel_rfl)))
              · intro w5 hS hF hD K hK
                rw [if_pos (by rfl)]
                refine wp_of_quiet (v := (.slice (some ⟨gc, 0, none⟩) n capc)) (by (show _ = _); kernel_rfl) (hK.out _ _ rfl (After.lit rfl rfl rfl ?_))
                first | rfl | kernel_rfl
              · intro w5 hS hF hD K hK
                rw [if_pos (by rfl)]
                refine wp_of_quiet (v := (.pointer (some ⟨wr.heap.size, 2, none⟩))) (by (show _ = _); kernel_rfl) (hK.out _ _ rfl (After.lit rfl rfl rfl ?_))
                first | rfl | kernel_rfl
              · intro w5 hS hF hD K hK
                obtain ⟨e8, -⟩ := hF
                replace e8 : f 8 = _ := e8
                try simp only [e8]
                rw [if_pos (by rfl)]
                exact wp_of_quiet (exec_load_at _ _ rfl _ _ rfl _ _ _ (hS.heap HBX.out hbnk) ((.int .i64 (bn : Int))) ((by rw [← cell_of_row _ _ 2 _ _ _ HBX.out]; exact k2)) (fun _ => by kernel_rfl)) (hK.out _ _ rfl (After.lit rfl rfl rfl (by first | rfl | kernel_rfl)))
              · intro w5 hS hF hD K hK
                obtain ⟨e7, e9, -⟩ := hF
                replace e7 : f 7 = _ := e7
                replace e9 : f 9 = _ := e9
                try simp only [e7, e9]
                rw [if_pos (by rfl)]
                go_simp
                refine hK.out _ _ rfl (After.lit rfl rfl rfl ?_)
                first | rfl | kernel_rfl
              · intro w5 hS hF hD K hK
                obtain ⟨e10, -⟩ := hF
                replace e10 : f 10 = _ := e10
                try simp only [e10]
                rw [if_pos (by rfl)]
                exact wp_of_quiet (exec_load_at _ _ rfl _ _ rfl _ _ _ (hS.heap HCC.out.1 hcnk) ((.int .i64 (cl bn))) (HCC.out.2) (fun _ => by kernel_rfl)) (hK.out _ _ rfl (After.lit rfl rfl rfl (by first | rfl | kernel_rfl)))
              · intro w5 hS hF hD K hK
                obtain ⟨e6, e11, -⟩ := hF
                replace e6 : f 6 = _ := e6
                replace e11 : f 11 = _ := e11
                try simp only [e6, e11]
                rw [if_pos (by rfl)]
                refine wp_of_quiet (v := (.agg #[.int .i64 x.n, .int .i64 (cl bn)])) (by (show _ = _); kernel_rfl) (hK.out _ _ rfl (After.lit rfl rfl rfl ?_))
                first | rfl | kernel_rfl
              · intro w5 hS hF hD K hK
                obtain ⟨e4, e12, e1, -⟩ := hF
                replace e4 : f 4 = _ := e4
                replace e12 : f 12 = _ := e12
                obtain ⟨e1, p1⟩ := e1
                replace e1 : [f 1] = _ := e1
                simp only [List.cons.injEq, and_true] at e1
                have q1_1 := e1
                try simp only [e4, e12, q1_1]
                rw [if_pos (by rfl)]
                go_simp; refine (HPT.out _ p1).mono ?_; rintro e w9 ⟨v9, rfl, ho9, ht9, hb9⟩; go_simp
                exact hK.out _ _ rfl (After.litD rfl rfl rfl rfl (ht9.size) (hS.trans ht9 (fun _ _ e => e)) (StaysE.isV (StaysE.out (by rfl) (StaysE.isV (StaysE.isV (StaysE.isV (StaysE.isV (StaysE.isV (StaysE.isV (StaysE.isV (StaysE.isV (StaysE.isV (StaysE.isV (StaysE.isV (StaysE.out (by rfl) StaysE.nil)))))))))))))) (⟨ho9, fun k hk => (hb9 k hk).imp id (fun h => Nat.le_trans hS.size h)⟩))
              intro w5 hS hF
              obtain ⟨e0, e13, -⟩ := hF
              replace e0 : f 0 = _ := e0
              obtain ⟨y13, p13, t13⟩ := e13
              try simp only [e0]
              simp only [List.drop_succ_cons, List.drop_zero]
              have HS5 := Lib.hid hS
              have HP5 := Lib.hid (own_turn p13.1 t13 (fun _ _ h => h))
              have HQ5 := Lib.hid p13.2
              have f6' : w5.frozen? ⟨g, r * 7 + 6, none⟩ = false := frozen_of_row _ _ _ _ _ (hS.heap HCG.out.1 HBK.out)
              have c6' : w5.cell? ⟨g, r * 7 + 6, none⟩ = some (.slice fp (rw r).fields.length fc) := by rw [cell_of_row _ _ _ _ _ _ (hS.heap HCG.out.1 HBK.out)]; exact HCG.out.2
              obtain ⟨np, nc, hnv⟩ := own_slice HP5.out
              have HNV := Lib.hid hnv
              generalize f 13 = v9 at *
              have hnv' := HNV.out
              subst hnv'
              clear hS p13 t13 hnv
              go_wp2_with fail
              go_meet
              case rel => exact ⟨_, _, ok, 0, rfl, rfl, Lib.hid ⟨by simp [midB, HK.out], by simp [midZ, HK.out], by rw [HBN.out]; rw [show midR x (cl bn) (rw r) = { rw r with fields := putS (rw r).fields (x.n, cl bn) } by simp [midR, HK.out]]⟩, Lib.hid (HDV.out.setF hrn (by rw [HFV.out]; exact HS5.out) HP5.out (by rw [HFV.out]; exact HQ5.out)), Lib.hid ((HBW.out.trans (HS5.out.toBelow hszw (fun k e => (own_cells HOW.out k e).1))).setCell hBg _)⟩
            · have HK := Lib.hid hk
              have e2 : (x.kind == 2) = false := by rw [hk]; rfl
              have e3 : (x.kind == 3) = false := by rw [hk]; rfl
              have e4 : (x.kind == 4) = false := by rw [hk]; rfl
              have e5 : (x.kind == 5) = false := by rw [hk]; rfl
              have e6 : (x.kind == 6) = false := by rw [hk]; rfl
              have e7 : (x.kind == 7) = true := by rw [hk]; rfl
              clear hk
              have hxb := right_b HX.out.2.2.1 (by have := HK.out; omega)
              obtain ⟨bn, hbn⟩ := Int.eq_ofNat_of_zero_le hxb.1
              have hbnn : bn < n := by omega
              have k2 : W.cell? ⟨wr.heap.size, 2, none⟩ = some (.int .i64 (bn : Int)) := by rw [cell_of_row _ _ _ _ _ _ HBX.out, ← hbn]; rfl
              have kb : W.cell? ⟨gc, bn, none⟩ = some (.int .i64 (cl bn)) := HCV.out.cell hbnn
              have HBN := Lib.hid (show cl x.b.toNat = cl bn by rw [hbn]; rfl)
              clear hxb hbn
              have f4 := (HDV.out.cel.at hrn (j := 4) (by omega)).2
              have c4 : W.cell? ⟨g, r * 7 + 4, none⟩ = some (.int .i64 (rw r).elem) := (HDV.out.cel.at hrn (j := 4) (by omega)).1
              have HD4 := Lib.hid (HDV.out.set4 hrn (cl bn))
              go_upto_region 27 with fail
              obtain ⟨W4, hW4⟩ : ∃ W4, W4 = W.setCell ⟨g, r * 7 + 4, none⟩ (.int .i64 (cl bn)) := ⟨_, rfl⟩
              rw [← hW4] at HD4 ⊢
              obtain ⟨c5a, hc5a, hc5r⟩ := HD4.out.cel.c
              have h5 : c5a[r * 7 + 5]? = some (.int .i64 (rw r).count) := by rw [hc5r r hrn 5 (by omega), updR_at]; rfl
              have hb4 : W4.heap[wr.heap.size]? = some (.cells #[.int .i64 x.kind, .int .i64 (an : Int), .int .i64 x.b, .int .i64 x.n] 37 (0, 0)) := by rw [hW4, heap_setCell_other hng]; exact HBX.out
              have HB4 := Lib.hid (show Below w.heap.size w W4 by rw [hW4]; exact HBW.out.setCell hBg _)
              have HX4 := Lib.hid (And.intro hc5a (And.intro h5 hb4))
              clear hc5a hc5r h5 hb4 hW4 f4 c4
              refine wp_region_relyT [] 8 (factOf [isV ((.pointer (some ⟨g, r * 7, none⟩))), isV ((.pointer (some ⟨g, r * 7, none⟩))), isV ((.pointer (some ⟨g, r * 7, none⟩))), isV ((.pointer (some ⟨g, r * 7 + 5, none⟩))), isV ((.int .i64 (rw r).count)), isV ((.pointer (some ⟨wr.heap.size, 3, none⟩))), isV ((.int .i64 x.n)), isV ((.int .i64 (max (rw r).count x.n)))]) (nth [[0], [1], [2], [3], [4], [5], [6], [7]]) (nth [[], [], [], [], [], [], [], []]) (nth [[], [], [1], [2], [3], [], [5], [4, 6]]) [0, 7] (fun w5 => Turn (fun _ => False) W4 w5) (by kernel_rfl) (by kernel_rfl) ((Turn.refl _ _).drew) (fun w w' h hb => h.trans (Turn.ofBelow (bs := fun _ => False) hb) (fun _ _ h => h.elim)) (GrowsAll.of ((GrowsAll.cons (Grows.isV _)  (GrowsAll.cons (Grows.isV _)  (GrowsAll.cons (Grows.isV _)  (GrowsAll.cons (Grows.isV _)  (GrowsAll.cons (Grows.isV _)  (GrowsAll.cons (Grows.isV _)  (GrowsAll.cons (Grows.isV _)  (GrowsAll.cons (Grows.isV _) GrowsAll.nil)))))))))) (fun f F hF => ?_)
              simp only [List.take_succ_cons, List.take_zero, fullGo, Act.put, List.setIfInBounds_toArray, List.set_cons_zero, List.set_cons_succ, Nat.reduceAdd] at hF
              subst hF
              refine ⟨StepObsF.cons ?_ (StepObsF.cons ?_ (StepObsF.cons ?_ (StepObsF.cons ?_ (StepObsF.cons ?_ (StepObsF.cons ?_ (StepObsF.cons ?_ (StepObsF.cons ?_ (StepObsF.nil)))))))), ?_⟩
              · intro w5 hS hF hD K hK
                rw [if_pos (by rfl)]
                refine wp_of_quiet (v := (.pointer (some ⟨g, r * 7, none⟩))) (by (show _ = _); kernel_rfl) (hK.out _ _ rfl (After.lit rfl rfl rfl ?_))
                first | rfl | kernel_rfl
              · intro w5 hS hF hD K hK
                rw [if_pos (by rfl)]
                refine wp_of_quiet (v := (.pointer (some ⟨g, r * 7, none⟩))) (by (show _ = _); kernel_rfl) (hK.out _ _ rfl (After.lit rfl rfl rfl ?_))
                first | rfl | kernel_rfl
              · intro w5 hS hF hD K hK
                obtain ⟨e1, -⟩ := hF
                replace e1 : f 1 = _ := e1
                try simp only [e1]
                rw [if_pos (by rfl)]
                refine wp_of_quiet (v := (.pointer (some ⟨g, r * 7, none⟩))) (by (show _ = _); kernel_rfl) (hK.out _ _ rfl (After.lit rfl rfl rfl ?_))
                first | rfl | kernel_rfl
              · intro w5 hS hF hD K hK
                obtain ⟨e2, -⟩ := hF
                replace e2 : f 2 = _ := e2
                try simp only [e2]
                rw [if_pos (by rfl)]
                refine wp_of_quiet (v := (.pointer (some ⟨g, r * 7 + 5, none⟩))) (by (show _ = _); kernel_rfl) (hK.out _ _ rfl (After.lit rfl rfl rfl ?_))
                first | rfl | kernel_rfl
              · intro w5 hS hF hD K hK
                obtain ⟨e3, -⟩ := hF
                replace e3 : f 3 = _ := e3
                try simp only [e3]
                rw [if_pos (by rfl)]
                exact wp_of_quiet (exec_load_at _ _ rfl _ _ rfl _ _ _ (hS.heap HX4.out.1 (fun h => h)) ((.int .i64 (rw r).count)) (HX4.out.2.1) (fun _ => by kernel_rfl)) (hK.out _ _ rfl (After.lit rfl rfl rfl (by first | rfl | kernel_rfl)))
              · intro w5 hS hF hD K hK
                rw [if_pos (by rfl)]
                refine wp_of_quiet (v := (.pointer (some ⟨wr.heap.size, 3, none⟩))) (by (show _ = _); kernel_rfl) (hK.out _ _ rfl (After.lit rfl rfl rfl ?_))
                first | rfl | kernel_rfl
              · intro w5 hS hF hD K hK
                obtain ⟨e5, -⟩ := hF
                replace e5 : f 5 = _ := e5
                try simp only [e5]
                rw [if_pos (by rfl)]
                exact wp_of_quiet (exec_load_at _ _ rfl _ _ rfl _ _ _ (hS.heap HX4.out.2.2 (fun h => h)) ((.int .i64 x.n)) (by kernel_rfl) (fun _ => by kernel_rfl)) (hK.out _ _ rfl (After.lit rfl rfl rfl (by first | rfl | kernel_rfl)))
              · intro w5 hS hF hD K hK
                obtain ⟨e4, e6, -⟩ := hF
                replace e4 : f 4 = _ := e4
                replace e6 : f 6 = _ := e6
                try simp only [e4, e6]
                rw [if_pos (by rfl)]
                go_simp
                refine hK.out _ _ rfl (After.lit rfl rfl rfl ?_)
                first | rfl | kernel_rfl
              intro w5 hS hF
              obtain ⟨e0, e7, -⟩ := hF
              replace e0 : f 0 = _ := e0
              replace e7 : f 7 = _ := e7
              try simp only [e0, e7]
              simp only [List.drop_succ_cons, List.drop_zero]
              have HS5 := Lib.hid hS
              have f5 : w5.frozen? ⟨g, r * 7 + 5, none⟩ = false := frozen_of_row _ _ _ _ _ (hS.heap HX4.out.1 (fun h => h))
              have c5 : w5.cell? ⟨g, r * 7 + 5, none⟩ = some (.int .i64 (rw r).count) := by rw [cell_of_row _ _ _ _ _ _ (hS.heap HX4.out.1 (fun h => h))]; exact HX4.out.2.1
              clear hS
              go_wp2_with fail
              go_meet
              case rel => exact ⟨_, fv, ok, 0, rfl, rfl, Lib.hid ⟨by simp [midB, HK.out], by simp [midZ, HK.out], by rw [HBN.out]⟩, Lib.hid (by rw [show midR x (cl bn) (rw r) = { rw r with elem := cl bn, count := max (rw r).count x.n } by simp [midR, HK.out]]; have h9 := (HD4.out.keep HS5.out).set5 hrn (max (rw r).count x.n); rw [updR_at, updR_twice] at h9; exact h9), Lib.hid ((HB4.out.trans (HS5.out.toBelow HB4.out.size (fun _ h => h.elim))).setCell hBg _)⟩
          case rest =>
            clear HDV HBW HCV k0 k1 k3 kc HBX
            obtain ⟨rw', fv', ok', z, rfl, rfl, HE, HDV, HBW⟩ := hcut
            have HMS := Lib.hid (fun h => mid_step x (cl x.b.toNat) (rw r) ok h)
            have HMN := Lib.hid (fun h => mid_none x (cl x.b.toNat) (rw r) ok HX.out.2.2.1 h)
            obtain ⟨he1, he2, he3⟩ := HE.out
            have e1 : rw' r = midR x (cl x.b.toNat) (rw r) := by rw [he3, updR_at]
            have HE1 := Lib.hid e1
            by_cases hz : z > 0
            · have c1 : wc.cell? ⟨g, r * 7 + 1, none⟩ = some (.int .i64 (rw' r).size) := (HDV.out.cel.at hrn (j := 1) (by omega)).1
              have f1 := (HDV.out.cel.at hrn (j := 1) (by omega)).2
              have hms := HMS.out (by rw [← he2]; exact hz)
              have HR2 := Lib.hid (show updR rw' r { rw' r with size := z } = updR rw r (stepR x (cl x.b.toNat) (rw r)) by rw [he3, updR_twice, updR_at, hms.1, he2])
              have HO2 := Lib.hid (show stepB x (rw r) ok = (ok' && decide ((rw' r).size = 0 ∨ (rw' r).size = z)) by rw [hms.2, he1, he2, e1])
              clear hms he1 he2 he3 e1
              cases ok'
              · go_wp2_with fail
                exact ⟨⟨i + 1, updR rw' r { rw' r with size := z }, fv', false, by omega, rfl, by go_num, Lib.hid (by rw [HTK.out, HR2.out]; have h9 := HSTEP.out; rw [HO2.out] at h9; exact h9), Lib.hid (HDV.out.set1 hrn z), Lib.hid (HBW.out.setCell hBg _)⟩, by simp [intOf]; omega⟩
              · by_cases hs : (rw' r).size = 0
                · have es : ((rw' r).size == 0) = true := by simpa using hs
                  have HG := Lib.hid hs; clear hs
                  go_wp2_with fail
                  exact ⟨⟨i + 1, updR rw' r { rw' r with size := z }, fv', true, by omega, rfl, by go_num, Lib.hid (by rw [HTK.out, HR2.out]; have h9 := HSTEP.out; rw [HO2.out, show (true && decide ((rw' r).size = 0 ∨ (rw' r).size = z)) = true by simp [HG.out]] at h9; exact h9), Lib.hid (HDV.out.set1 hrn z), Lib.hid (HBW.out.setCell hBg _)⟩, by simp [intOf]; omega⟩
                · have es : ((rw' r).size == 0) = false := by simpa using hs
                  by_cases hs2 : (rw' r).size = z
                  · have es2 : ((rw' r).size == z) = true := by simpa using hs2
                    have HG := Lib.hid hs2; clear hs hs2
                    go_wp2_with fail
                    exact ⟨⟨i + 1, updR rw' r { rw' r with size := z }, fv', true, by omega, rfl, by go_num, Lib.hid (by rw [HTK.out, HR2.out]; have h9 := HSTEP.out; rw [HO2.out, show (true && decide ((rw' r).size = 0 ∨ (rw' r).size = z)) = true by simp [HG.out]] at h9; exact h9), Lib.hid (HDV.out.set1 hrn z), Lib.hid (HBW.out.setCell hBg _)⟩, by simp [intOf]; omega⟩
                  · have es2 : ((rw' r).size == z) = false := by simpa using hs2
                    have HG := Lib.hid (And.intro hs hs2); clear hs hs2
                    go_wp2_with fail
                    exact ⟨⟨i + 1, updR rw' r { rw' r with size := z }, fv', false, by omega, rfl, by go_num, Lib.hid (by rw [HTK.out, HR2.out]; have h9 := HSTEP.out; rw [HO2.out, show (true && decide ((rw' r).size = 0 ∨ (rw' r).size = z)) = false by simp [HG.out]] at h9; exact h9), Lib.hid (HDV.out.set1 hrn z), Lib.hid (HBW.out.setCell hBg _)⟩, by simp [intOf]; omega⟩
            · have hms := HMN.out (by rw [← he2]; exact hz)
              have HR2 := Lib.hid (show rw' = updR rw r (stepR x (cl x.b.toNat) (rw r)) by rw [he3, hms.1])
              have HO2 := Lib.hid (show stepB x (rw r) ok = ok' by rw [hms.2, he1])
              clear hms he1 he2 he3 e1
              go_wp2_with fail
              exact ⟨⟨i + 1, rw', fv', ok', by omega, rfl, by go_num, Lib.hid (by rw [HTK.out, HR2.out]; have h9 := HSTEP.out; rw [HO2.out] at h9; exact h9), HDV, HBW⟩, by simp [intOf]; omega⟩
          -- ENDROUND
        · have hin : i = cs.length := by omega
          subst hin
          go_wp2_with fail
          go_meet
          case rel => exact ⟨rw, fv, ok, rfl, Lib.hid (by have h9 := HDI.out; rw [List.take_length] at h9; exact h9), HDW, HB⟩
    case rest =>
      clear HD0 HB0
      obtain ⟨rw, fv, ok, rfl, HDI, HDW, HB⟩ := hcut
      obtain ⟨j1, hj1, hy01, hy11, hy21⟩ := info_parts infoMem
      go_wp2_with fail
      go_loopw [15] (fun s15 wr => ∃ (i : Nat) (fv : Nat → Value), i ≤ n ∧ s15 = .int .i64 i ∧ Hid (DesW w.heap.size g n (fun v => if v < i then rw (cl v).toNat else rw v) fv wr) ∧ Hid (Below w.heap.size w wr)) (fun s15 _ => n - (intOf s15).toNat)
      case atStart => exact ⟨0, fv, Nat.zero_le _, rfl, Lib.hid (by simpa using HDW.out), HB⟩
      case round =>
        clear HDW HB
        obtain ⟨i, fv, hi, rfl, HDW, HB⟩ := hrel
        by_cases hlt : i < n
        · have hcw : ClaW gc n cl wr := HCW.out.turn (Turn.ofBelow (bs := fun _ => False) HB.out) (fun h => h)
          obtain ⟨r, hr⟩ := Int.eq_ofNat_of_zero_le (HCI.out.1.nn i hlt)
          have hri : r ≤ i := by have := HCI.out.1.le i hlt; omega
          have hrn : r < n := by omega
          have hrr : cl r = r := by have := HCI.out.1.idem i hlt; rw [hr] at this; simpa using this
          have ck : wr.cell? ⟨gc, i, none⟩ = some (.int .i64 (r : Int)) := by rw [hcw.cell hlt, hr]
          have HR1 := Lib.hid (And.intro hr hrr)
          by_cases hne : r = i
          · have ene : ((r : Int) != (i : Int)) = false := by simp [hne]
            have HN := Lib.hid hne
            clear hne hr hrr hcw
            go_wp2_with fail
            exact ⟨⟨i + 1, fv, by omega, by go_num, Lib.hid (by
              have h9 := HDW.out
              have e9 : (fun v => if v < i + 1 then rw (cl v).toNat else rw v) = (fun v => if v < i then rw (cl v).toNat else rw v) := by
                funext v
                by_cases hv : v < i
                · rw [if_pos (by omega), if_pos hv]
                · by_cases hv2 : v = i
                  · subst hv2; rw [if_pos (by omega), if_neg (by omega), HR1.out.1, HN.out]; simp
                  · rw [if_neg (by omega), if_neg hv]
              rw [e9]; exact h9), HB⟩, by simp [intOf]; omega⟩
          · have ene : ((r : Int) != (i : Int)) = true := by simp; omega
            have HN := Lib.hid hne
            have hri2 : r < i := by omega
            obtain ⟨rc, hrc⟩ : ∃ rc : Nat → Row, rc = fun v => if v < i then rw (cl v).toNat else rw v := ⟨_, rfl⟩
            have HRC := Lib.hid hrc
            rw [← hrc] at HDW
            have hrcr : rc r = rw r := by rw [hrc]; simp only [if_pos hri2, hrr]; simp
            have HRR := Lib.hid hrcr
            obtain ⟨c, hg, hc⟩ := HDW.out.cel.c
            have hcs : i * 7 + 7 ≤ c.size := by
              have h1 := hc i hlt 6 (by omega)
              have h2 := (Array.getElem?_eq_some_iff.1 (show c[i * 7 + 6]? = some (fv i) from h1)).1
              omega
            obtain ⟨fp, fc, hfv⟩ := own_slice (HDW.out.own r hrn)
            have HEX := Lib.hid (ext_at (L := rowCells (rc r) (fv r)) (c := c) (o := r * 7) (fun j hj => hc r hrn j hj))
            have HCR := Lib.hid (CelW.row hg hc hlt (rc r) (fv r) hcs)
            have HG := Lib.hid hg
            have HCS := Lib.hid (show Nat.ble (i * 7 + (rowCells (rc r) (fv r)).length) c.size = true from Nat.ble_eq_true_of_le hcs)
            have HFV := Lib.hid hfv
            clear hrc hrcr hc hg hcs hfv hne hr hrr hcw
            go_upto_region 36 with (first | (refine wpList_val (by rfl) (exec_load_midB 44 _ rfl g (r * 7) rfl c 44 (0, 0) HG.out (rowCells (rc r) (fv r)) HEX.out (by kernel_rfl)) ?_) | (refine wpList_store_at rfl _ _ _ rfl g (i * 7) (by rfl) (.agg (rowCells (rc r) (fv r)).toArray) (by rfl) c _ HG.out (rowCells (rc r) (fv r)) (by rfl) HCS.out (by kernel_rfl) (by rw [HFV.out]; rfl) _ rfl ?_))
            obtain ⟨W5, hW5⟩ : ∃ W5, W5 = wr.setRow g (c.toList.take (i * 7) ++ rowCells (rc r) (fv r) ++ c.toList.drop (i * 7 + (rowCells (rc r) (fv r)).length)).toArray := ⟨_, rfl⟩
            have ht5 : Turn (fun k => k = g) wr W5 := by rw [hW5]; exact (Turn.refl (fun k => k = g) wr).setRow _ (fun _ => rfl)
            rw [← hW5] at HCR ⊢
            have c6 : W5.cell? ⟨g, r * 7 + 6, none⟩ = some (.slice fp (rc r).fields.length fc) := by
              rw [(HCR.out.at hrn (j := 6) (by omega)).1]
              unfold updR updV; rw [if_neg (by omega), if_neg (by omega), HFV.out]; rfl
            have c9 : W5.cell? ⟨g, i * 7 + 6, none⟩ = some (.slice fp (rc r).fields.length fc) := by
              rw [(HCR.out.at hlt (j := 6) (by omega)).1]
              simp only [updR, updV, if_pos]; rw [HFV.out]; rfl
            have f9 := (HCR.out.at hlt (j := 6) (by omega)).2
            have hgw : gc ≠ g := by omega
            have ck : W5.cell? ⟨gc, i, none⟩ = some (.int .i64 (r : Int)) := by
              obtain ⟨c2, hc2, hc3⟩ := HCW.out.turn (Turn.ofBelow (bs := fun _ => False) HB.out) (fun h => h)
              rw [cell_of_row _ _ _ _ _ _ (ht5.heap hc2 hgw), hc3 i hlt, HR1.out.1]
            have HT5 := Lib.hid ht5
            have HO5 := Lib.hid (show W5.ownsRow w.heap.size 46 2 (.slice fp (rc r).fields.length fc) (rc r).fields.length (mv (rc r).fields) by
              have h9 := own_turn (HDW.out.own r hrn) ht5 (fun k hk e => HDW.out.blk hrn (e ▸ hk))
              rwa [HFV.out] at h9)
            have hc0 : fp = none → fc = 0 := fun e => by
              rcases own_form HO5.out with ⟨-, h, -⟩ | ⟨g, h, -⟩
              · exact h
              · rw [e] at h; cases h
            have HC0 := Lib.hid hc0
            have hszr : w.heap.size ≤ wr.heap.size := HB.out.size
            have hs5 : wr.heap.size ≤ W5.heap.size := ht5.size
            have hfew : (rc r).fields.length ≤ 65536 := by rw [HRR.out]; exact (HDI.out.rows r hrn).few
            have hgW : g < W5.heap.size := HCR.out.lt
            have hcW : gc < W5.heap.size := by omega
            have c6' : ∀ x, (W5.alloc x).cell? ⟨g, r * 7 + 6, none⟩ = some (.slice fp (rc r).fields.length fc) := fun x => by rw [World.cell?_of_block (alloc_other _ _ hgW)]; exact c6
            have ck' : ∀ x, (W5.alloc x).cell? ⟨gc, i, none⟩ = some (.int .i64 (r : Int)) := fun x => by rw [World.cell?_of_block (alloc_other _ _ hcW)]; exact ck
            clear hW5 ht5 HEX HCS hc0
            go_wp2_with (at_builtin; refine wpList_append_src _ rfl (.tmp 170) (.tmp 178) 42 rfl wr.heap.size 46 j1 (.agg #[.int .i64 0, .int .i64 0]) 2 16 Tryd.underlying42 hj1 hy01 hy11 hy21 rfl (by decide) (.slice (some ⟨W5.heap.size, 0, none⟩) 0 0) 0 [] rfl (own_empty W5 _ _ _ hs5) fp (rc r).fields.length fc HC0.out (mv (rc r).fields) rfl ((own_src HO5.out).turn ((Turn.refl (fun _ => False) _).alloc _) (fun _ _ h => h)) (mv_one _) (by unfold maxLen; omega) (by omega) (Nat.le_trans hs5 (by simp)) ?_; intro v6 w6 hown6 hgrow6 hat6; rw [Nat.zero_add, List.nil_append] at hown6; obtain ⟨np, nc, hnv⟩ := own_slice hown6; subst hnv; have ht6 : Turn (fun k => W5.heap.size ≤ k) W5 w6 := ((Turn.refl _ _).alloc _).grown hgrow6 (fun k e _ => by simp only [Value.ownBlock, Option.some.injEq] at e; omega); have c9' : w6.cell? ⟨g, i * 7 + 6, none⟩ = some (.slice fp (rc r).fields.length fc) := ((HCR.out.turn ht6 (fun h => by have := HCR.out.lt; omega)).at hlt (j := 6) (by omega)).1.trans (by simp only [updR, updV, if_pos]; rw [HFV.out]; rfl); have f9' := ((HCR.out.turn ht6 (fun h => by have := HCR.out.lt; omega)).at hlt (j := 6) (by omega)).2; have HT6 := Lib.hid ht6; have HO6 := Lib.hid hown6; clear ht6 hown6 hgrow6 hat6)
            have hrows : (fun v => if v < i + 1 then rw (cl v).toNat else rw v) = updR rc i (rc r) := by
              funext v
              unfold updR
              by_cases hv : v = i
              · subst hv; rw [if_pos (by omega), if_pos rfl, HR1.out.1, HRR.out]; simp
              · rw [if_neg hv, HRC.out]
                by_cases hv2 : v < i
                · rw [if_pos (by omega)]; simp only [if_pos hv2]
                · rw [if_neg (by omega)]; simp only [if_neg hv2]
            have hcel := (HCR.out.turn HT6.out (fun h => by omega)).set hlt (j := 6) (by omega) (r' := rc r) (f' := .slice np (rc r).fields.length nc) (x := .slice np (rc r).fields.length nc) (fun k hk => by
              simp only [updR, updV, if_pos]
              rcases k with _ | _ | _ | _ | _ | _ | _ | k <;> first | rfl | omega)
            rw [updR_twice] at hcel
            have hbl : Below w.heap.size w (w6.setCell ⟨g, i * 7 + 6, none⟩ (.slice np (rc r).fields.length nc)) :=
              (HB.out.trans ((HT5.out.toBelow hszr (fun k e => by omega)).trans (HT6.out.toBelow (Nat.le_trans hszr hs5) (fun k hk => by omega)))).setCell hBg _
            have hg6 : ∀ k, (Value.slice np (rc r).fields.length nc).ownBlock = some k → wr.heap.size ≤ k := fun k hk => (own_cells HO6.out k hk).1
            have hglt : g < wr.heap.size := HDW.out.cel.lt
            have ts : Turn (fun k => k = g) w6 (w6.setCell ⟨g, i * 7 + 6, none⟩ (.slice np (rc r).fields.length nc)) := (Turn.refl (fun k => k = g) w6).setCell _ (fun _ => rfl)
            refine ⟨⟨i + 1, updV (updV fv i (fv r)) i (.slice np (rc r).fields.length nc), by omega, by go_num, Lib.hid ?_, Lib.hid hbl⟩, by simp [intOf]; omega⟩
            rw [hrows]
            refine ⟨hcel, fun v hv => ?_, fun a b ha hb hab k hk => ?_⟩
            · by_cases e : v = i
              · subst e
                simp only [updR, updV, if_pos]
                exact own_turn (own_mono HO6.out hszr) ts (fun k hk e => by have := hg6 k hk; omega)
              · simp only [updR, updV, if_neg e]
                have h1 := HDW.out.own v hv
                have hkl : ∀ k, (fv v).ownBlock = some k → k < wr.heap.size := fun k hk => (h1.lt k hk).2
                exact own_turn (own_turn (own_turn h1 HT5.out (fun k hk e => HDW.out.blk hv (e ▸ hk))) HT6.out (fun k hk e => by have := hkl k hk; omega)) ts (fun k hk e => HDW.out.blk hv (e ▸ hk))
            · have hkl : ∀ v, v < n → ∀ k, (fv v).ownBlock = some k → k < wr.heap.size := fun v hv k hk => ((HDW.out.own v hv).lt k hk).2
              by_cases ea : a = i
              · have eb : b ≠ i := by omega
                subst ea
                simp only [updV, if_pos] at hk
                simp only [updV, if_neg eb]
                intro e
                have := hg6 k hk; have := hkl b hb k e; omega
              · simp only [updV, if_neg ea] at hk
                by_cases eb : b = i
                · subst eb
                  simp only [updV, if_pos]
                  intro e
                  have := hg6 k e; have := hkl a ha k hk; omega
                · simp only [updV, if_neg eb]
                  exact HDW.out.apart a b ha hb hab k hk
        · have hin : i = n := by omega
          subst hin
          go_wp2_with fail
          go_ret2
          exact ⟨HB.out, g, cp, rw, fv, ok, rfl, hcp, hBg, HDI.out, ⟨⟨by
            obtain ⟨c, hg, hc⟩ := HDW.out.cel.c
            exact ⟨c, hg, fun v hv j hj => by rw [hc v hv j hj, if_pos hv]⟩⟩, fun v hv => by have h9 := HDW.out.own v hv; rwa [if_pos hv] at h9, HDW.out.apart⟩⟩
end Go.Proofs.YtepmgnhblegiiaaDoor
