/- The first constraint that is not well-formed. No condition beyond what each states. -/
import Derived.Test.YtepmgnhblegiiaaDoorRgt
import Derived.Test.YtepmgnhblegiiaaDoorSof
import Derived.Test.YtepmgnhblegiiaaDoorSld
set_option linter.all false
namespace Go.Proofs.YtepmgnhblegiiaaDoor
open Go Go.RowKit Go.Maps

theorem below_cells {w w' : World} {g : Nat} {o : Obj} (h : w.heap[g]? = some o) (hb : Below w.heap.size w w') : w'.heap[g]? = some o := by
  rw [hb.block g (Array.getElem?_eq_some_iff.1 h).1]; exact h
set_option maxRecDepth 100000 in
theorem wrong_any (n : Int) (c : Con) (w : World) (gn : Nat) (T : TypeId) (h : w.heap[gn]? = some (.cells #[.int .i64 n] T (0, 0))) :
    Calls Tryd.prog 27 #[.agg (conCells c), .pointer (some ⟨gn, 0, none⟩)] w fun e w' => e = .returned (.bool (!rightS n c)) ∧ Below w.heap.size w w' := by
  obtain ⟨k, a, b, m⟩ := c
  have hgl := (Array.getElem?_eq_some_iff.1 h).1
  have c1 : (w.alloc (.cells #[.int .i64 k, .int .i64 a, .int .i64 b, .int .i64 m] 37)).cell? ⟨gn, 0, none⟩ = some (.int .i64 n) := cell_of_one ((alloc_other _ _ hgl).trans h)
  have HR := Lib.hid (fun W => right_any n ⟨k, a, b, m⟩ W)
  generalize hq : rightS n ⟨k, a, b, m⟩ = q
  have HQ := Lib.hid hq
  change Calls _ _ #[.agg #[.int .i64 k, .int .i64 a, .int .i64 b, .int .i64 m], .pointer (some ⟨gn, 0, none⟩)] w _
  clear h hgl hq
  go_enter Tryd.func27, Tryd.ntmps27
  go_wp2_with (first | (refine wpList_load_row rfl _ _ rfl _ rfl _ _ _ _ (heap_alloc_new _ _) rfl rfl ?_ ?_; kernel_rfl) | (go_at_call 28; refine (HR.out _).mono ?_; rintro e w4 ⟨he, hb4⟩; rw [HQ.out] at he; subst he; have HB4 := Lib.hid hb4; clear hb4))
  go_ret
  exact ⟨rfl, ((Below.refl _ _).alloc (Nat.le_refl _) _).trans (HB4.out.mono (by simp))⟩

def WrgPost (n : Int) (cs : List Con) (w : World) (e : Ending) (w' : World) : Prop :=
  Below w.heap.size w w' ∧ ((e = .returned (.int .i64 (-1)) ∧ ∀ c ∈ cs, rightS n c = true) ∨ ∃ (i : Nat) (c : Con), e = .returned (.int .i64 i) ∧ cs[i]? = some c ∧ rightS n c = false ∧ ∀ j d, j < i → cs[j]? = some d → rightS n d = true)

set_option maxRecDepth 100000 in
set_option maxHeartbeats 1000000 in
theorem index_any (n : Int) (cs : List Con) (hl : cs.length ≤ 5000) (w : World) (ao : Option Addr) (cap : Nat) (h : ConsW ao cs w) (gn : Nat) (T : TypeId) (hn : w.heap[gn]? = some (.cells #[.int .i64 n] T (0, 0))) :
    Calls Tryd.prog 26 #[.slice ao cs.length cap, .func (.func 27) #[] #[.pointer (some ⟨gn, 0, none⟩)]] w (WrgPost n cs w) := by
  have H := Lib.hid h
  have HN := Lib.hid hn
  clear h hn
  go_enter Tryd.func26, Tryd.ntmps26
  go_wp2_with fail
  go_loopw [8] (fun s8 wr => ∃ k : Nat, k ≤ cs.length ∧ s8 = .int .i64 k ∧ Hid (Below w.heap.size w wr) ∧ Hid (∀ j d, j < k → cs[j]? = some d → rightS n d = true)) (fun s8 _ => cs.length - (intOf s8).toNat)
  case atStart => exact ⟨0, Nat.zero_le _, rfl, Lib.hid (Below.refl _ _), Lib.hid (fun j d hj => absurd hj (by omega))⟩
  case round =>
    obtain ⟨k, hk, rfl, HBR, HA⟩ := hrel
    by_cases hlt : k < cs.length
    · obtain ⟨g, c, rfl, hg, hc⟩ := H.out (by omega)
      obtain ⟨x, hx⟩ : ∃ x, cs[k]? = some x := ⟨cs[k], by simp [hlt]⟩
      have HGC := Lib.hid (below_keep HBR.out hg)
      have HEX := Lib.hid (con_extract (hc k x hx))
      have HX := Lib.hid hx
      have HWR := Lib.hid (wrong_any n x wr gn T (below_keep HBR.out HN.out))
      generalize hq : rightS n x = q at HWR
      have HQ := Lib.hid hq
      clear hg hc hx hq
      cases q
      all_goals
        go_upto_if 4 with (first | (refine wpList_val (by rfl) (exec_load_midB 37 _ rfl g (k * 4) rfl c 37 (0, 0) HGC.out (conCells x).toList HEX.out (by kernel_rfl)) ?_) | (go_at_call 27; refine (HWR.out).mono ?_; rintro e w4 ⟨rfl, hb4⟩; have HB4 := Lib.hid hb4; clear hb4))
      · go_ret
        exact ⟨HBR.out.trans (HB4.out.mono HBR.out.size), .inr ⟨k, x, rfl, HX.out, HQ.out, HA.out⟩⟩
      · refine ⟨⟨k + 1, by omega, by go_num, Lib.hid (HBR.out.trans (HB4.out.mono HBR.out.size)), Lib.hid (fun j d hj hd => ?_)⟩, by simp [intOf]; omega⟩
        by_cases h : j < k
        · exact HA.out j d h hd
        · have : j = k := by omega
          subst this
          rw [HX.out] at hd
          cases hd
          exact HQ.out
    · have : k = cs.length := by omega
      subst this
      go_wp2_with fail
      go_ret
      exact ⟨HBR.out, .inl ⟨rfl, fun c hc => by
        obtain ⟨j, hj, e⟩ := List.mem_iff_getElem.1 hc
        exact HA.out j c hj (by simp [hj, e])⟩⟩
end Go.Proofs.YtepmgnhblegiiaaDoor

/- What the invariant of the solver gives to its parts; the rows of an answer in memory. No condition beyond what each states. -/
namespace Go.Proofs.YtepmgnhblegiiaaDoor
open Go Go.RowKit Go.Maps

theorem right_n {n : Int} {c : Con} (h : rightS n c = true) (h2 : c.kind = 2 ∨ c.kind = 7) : 1 ≤ c.n ∧ c.n ≤ 65535 := by
  simp only [rightS, Bool.and_eq_true, Bool.or_eq_true, decide_eq_true_eq] at h
  omega
theorem right_f {n : Int} {c : Con} (h : rightS n c = true) (h2 : c.kind = 6) : 0 ≤ c.n ∧ c.n ≤ 65535 := by
  simp only [rightS, Bool.and_eq_true, Bool.or_eq_true, decide_eq_true_eq] at h
  omega
section
variable {L : Lay} {cs : List Con} {rt : Int → Int} {of : Int → Cls} {clash : Bool} (h : Inv L.n cs cs rt of clash []) (hR : ∀ c ∈ cs, rightS L.n c = true)
include h hR
theorem Inv.refs : RefsOk L rt of where
  nn u hu := ⟨h.roots.nn u hu, h.roots.le u⟩
  idem := h.roots.idem
  elem v hv hr := (h.good v (by omega) (by omega) hr).elem.imp id (·.1)
  fields v hv hr o f hf := by
    obtain ⟨a, c, hc, hk, ho, -⟩ := (h.good v (by omega) (by omega) hr).fields o f hf
    have := right_f (hR c hc) hk
    exact ⟨by omega, a⟩
theorem Inv.small : Small L rt of where
  size v hv hr := by
    rcases (h.good v (by omega) (by omega) hr).size with e | ⟨c, hc, -, h1 | h1⟩
    · omega
    · have := right_n (hR c hc) (.inl h1.1); omega
    · omega
  count v hv hr := by
    rcases (h.good v (by omega) (by omega) hr).count with e | ⟨-, c, hc, hk, -, hn⟩
    · omega
    · have := right_n (hR c hc) (.inr hk); omega
omit hR
theorem Inv.ptrs (v : Nat) (hv : v < L.n) (hr : rt v = v) : FoundP L (of v).ptr (if (of v).ptr = -1 then -1 else rt (of v).ptr) rt ∧ FoundP L (of v).elem (if (of v).elem = -1 then -1 else rt (of v).elem) rt := by
  have g := h.good v (by omega) (by omega) hr
  constructor
  · rcases g.ptr with e | ⟨e, -⟩
    · exact .inl ⟨e, if_pos e⟩
    · exact .inr ⟨e, (if_neg (by omega)).symm⟩
  · rcases g.elem with e | ⟨e, -⟩
    · exact .inl ⟨e, if_pos e⟩
    · exact .inr ⟨e, (if_neg (by omega)).symm⟩
end

/-- The row of a class. -/
def rowOf (rt : Int → Int) (of : Int → Cls) (r : Int) (ms : List (Int × Int)) : Row :=
  ⟨r, (of r).size, (of r).sign, if (of r).ptr = -1 then -1 else rt (of r).ptr, if (of r).elem = -1 then -1 else rt (of r).elem, (of r).count, ms⟩
theorem Inv.row {n : Int} {cs : List Con} {rt : Int → Int} {of : Int → Cls} {clash : Bool} (h : Inv n cs cs rt of clash []) (hR : ∀ c ∈ cs, rightS n c = true) (hC : ¬ Clash cs) {v r : Int} (hv : 0 ≤ v ∧ v < n) (hr : rt v = r) {ms : List (Int × Int)} (h7 : ms.Pairwise fun x y => x.1 < y.1) (h8 : ∀ o f, (o, f) ∈ ms ↔ ∃ g, (of r).fields o = some g ∧ f = rt g) : Desc cs v (rowOf rt of r ms) := by
  subst hr
  exact h.desc hR hC hv rfl rfl rfl rfl rfl rfl h7 h8

/-- The cells of rows. -/
def rowCells (r : Row) (fv : Value) : List Value := [.int .i64 r.cls, .int .i64 r.size, .int .i64 r.sign, .int .i64 r.ptr, .int .i64 r.elem, .int .i64 r.count, fv]
def rowsCells (l : List (Row × Value)) : List Value := l.flatMap fun p => rowCells p.1 p.2
theorem rowsCells_len (l : List (Row × Value)) : (rowsCells l).length = l.length * 7 := by
  induction l with
  | nil => rfl
  | cons p l ih => show (rowCells p.1 p.2 ++ rowsCells l).length = _
                   rw [List.length_append, ih]; simp [rowCells]; omega
theorem rowsCells_snoc (l : List (Row × Value)) (p : Row × Value) : rowsCells (l ++ [p]) = rowsCells l ++ rowCells p.1 p.2 := by simp [rowsCells]
theorem rowsCells_at : ∀ {l : List (Row × Value)} {i j : Nat} {p : Row × Value}, l[i]? = some p → j < 7 → (rowsCells l)[i * 7 + j]? = (rowCells p.1 p.2)[j]?
  | [], i, j, p, h, _ => by simp at h
  | q :: l, 0, j, p, h, hj => by
    simp only [List.getElem?_cons_zero, Option.some.injEq] at h
    subst h
    show (rowCells q.1 q.2 ++ rowsCells l)[0 * 7 + j]? = _
    rw [List.getElem?_append_left (by simp [rowCells]; omega)]; simp
  | q :: l, i + 1, j, p, h, hj => by
    simp only [List.getElem?_cons_succ] at h
    show (rowCells q.1 q.2 ++ rowsCells l)[(i + 1) * 7 + j]? = _
    rw [List.getElem?_append_right (by simp [rowCells]; omega)]
    have e : (i + 1) * 7 + j - (rowCells q.1 q.2).length = i * 7 + j := by simp [rowCells]; omega
    rw [e]; exact rowsCells_at h hj
/-- An answer's rows, of the call's own from B on. -/
def RowsW (B : Nat) (val : Value) (rows : List Row) (w : World) : Prop :=
  ∃ l : List (Row × Value), l.map (·.1) = rows ∧ w.ownsRow B 44 7 val l.length (rowsCells l) ∧ ∀ p ∈ l, w.ownsRow B 46 2 p.2 p.1.fields.length (mv p.1.fields) ∧ p.1.fields.length ≤ 65536
theorem RowsW.turn {B : Nat} {val : Value} {rows : List Row} {w w' : World} {bs : Nat → Prop} (h : RowsW B val rows w) (t : Turn bs w w') (hb : ∀ k, bs k → k < B) : RowsW B val rows w' := by
  obtain ⟨l, h1, h2, h3⟩ := h
  exact ⟨l, h1, own_turn h2 t (fun k hk e => by have := (own_cells h2 k hk).1; have := hb k e; omega), fun p hp => ⟨own_turn (h3 p hp).1 t (fun k hk e => by have := (own_cells (h3 p hp).1 k hk).1; have := hb k e; omega), (h3 p hp).2⟩⟩
theorem RowsW.nil (B : Nat) (w : World) : RowsW B (.slice none 0 0) [] w := ⟨[], rfl, ⟨rfl, .inl ⟨rfl, rfl⟩⟩, fun p hp => by simp at hp⟩
theorem infoSld : (Tryd.prog.info? 44).map (fun i => (i.zero, i.size, i.bytes)) = some (some (.agg #[.int .i64 0, .int .i64 0, .int .i64 0, .int .i64 0, .int .i64 0, .int .i64 0, .slice none 0 0]), 7, 72) := by kernel_rfl
/-- What Solve answers. -/
def SolvePost (n : Int) (cs : List Con) (w : World) (e : Ending) (w' : World) : Prop :=
  ∃ val rows k err, e = .returned (.tuple #[val, .int .i64 k, .int .i64 err]) ∧ SolveR n cs rows k err ∧ Below w.heap.size w w' ∧ RowsW w.heap.size val rows w'
end Go.Proofs.YtepmgnhblegiiaaDoor
