/- From a law's walk to its card: what the rows of this seat share. The library's tables out of the rows' list, a world for the witness, arguments of plain data opened, and the post out of 'it returned true and what was there is as it was'. -/
import Derived.Test.YtepmgnhblegiiaaDoorCards
import Derived.Test.YtepmgnhblegiiaaDoorTie
import Derived.Test.YtepmgnhblegiiaaDoorAgr
import Derived.ProofKit
import Derived.OpenShut
import Derived.Deep.DeepHandedRow
import Derived.Deep.DeepWitnessRowRef
import Derived.Lib.LaidTab
import Derived.Stop.LaidErr
import Derived.LaidMore
import Derived.Carry
import Derived.Deep.Slices
import Derived.SizedLaws
import Derived.ChangeMaps5
set_option linter.all false
namespace Go.Proofs.YtepmgnhblegiiaaDoor
open Go.ChangeShapes Go.WideShapes Go.ChangeAt Go.RowKit Go.Deep
set_option maxRecDepth 100000

theorem cOwn : ownKnob Tryd.prog.godebug = none := by kernel_rfl
theorem cLaidOut : laidOutB Tryd.prog = true := by kernel_rfl
/-- The rows' common list. -/
def laidAll : List (String × DataW Unit) := [("math/bits.deBruijn32tab", Rows.laid_math_bits_deBruijn32tab), ("math/bits.deBruijn64tab", Rows.laid_math_bits_deBruijn64tab), ("internal/strconv.uint64pow10", Rows.laid_internal_strconv_uint64pow10)]
theorem tabs_of_laid {W : World} (h : laidMetH Tryd.prog laidAll W) : TabP W := by
  rw [MakeChecks.laidMetH_plain _ _ _ (by kernel_rfl)] at h
  have h2 := laidMet.tail (laidMet.tail h)
  exact Lib.tabIs_of_head gPow (t := 127) (by kernel_rfl) Tryd.underlying127 Tryd.underlying109 (by kernel_rfl) (by kernel_rfl) h2
/-- The heap that the door's own run leaves meets the list. -/
theorem door_met (os : Os) (args : Array Value) : laidMet Tryd.prog laidAll ((World.doorLaid Tryd.prog 48 os).forCall (fun _ _ => 0) ⟨#[], args, []⟩).memory :=
  laidMet_of_run' 8 (by kernel_rfl) (by kernel_rfl)

section
variable {H : Type} {enc : TypeId × Value → H}
/-- What lies below and is left alone reads as it did. -/
theorem trodAll_below {P : Program} (hl : laidOutB P = true) {W W' : World} (hb : Below W.heap.size W W') (sp : Nat → Bool) :
    ∀ (ts : List TypeId) (_ : (ts.all fun t => P.readableRec t && decide (t < P.types.size)) = true) (vs : List Value) (ds : List (DataW H)) (ps : List MemPlace),
      DataW.TrodAll enc P W 0 (fun _ => true) true ts vs ds ps → (∀ p ∈ ps, p.block < W.heap.size) → (∀ p ∈ ps, sp p.block = true) → DataW.TrodAll enc P W' 0 sp true ts vs ds ps
  | [], _, vs, ds, ps, h, _, _ => by
    obtain ⟨rfl, rfl, rfl⟩ := trodAll_nil h
    exact rfl
  | t :: ts, hts, vs, ds, ps, h, hlt, hsp => by
    obtain ⟨v, vs', d, ds', p, q, rfl, rfl, rfl, h0, hr⟩ := trodAll_cons h
    simp only [List.all_cons, Bool.and_eq_true, decide_eq_true_eq] at hts
    refine trodAll_cons_mk (WideElems.Trod_stays hl hts.1.1 hts.1.2 h0 (fun x hx => hb.same (hlt x (List.mem_append_left _ hx))) (fun x hx => hsp x (List.mem_append_left _ hx))) ?_
    exact trodAll_below hl hb sp ts hts.2 vs' ds' q hr (fun x hx => hlt x (List.mem_append_right _ hx)) (fun x hx => hsp x (List.mem_append_right _ hx))

/-- A law returned true and left all that was there alone: its post. -/
theorem post_law {P : Program} {f : Func} {s : ChangeSpec} {W W' : World} {args : Array Value} {ds gs : List (DataW H)} {before : List MemPlace} (hl : laidOutB P = true)
    (hts : (f.params.toList.all fun t => P.readableRec t && decide (t < P.types.size)) = true) (hv : s.vars = []) (tb : TypeId) (hres : f.resultTypes = #[tb]) (htb : P.underlying tb = some .bool)
    (hfn : s.fn H (ds ++ []) = { results := [.lit (.bool true)], args := ds })
    (hW : DataW.Whole enc P f.params.toList s.vars false W args.toList ds gs before) (hb : Below W.heap.size W W') :
    s.post enc P f false true false false W args (.bool true) W' := by
  have hlt : ∀ p ∈ before, p.block < W.heap.size := fun p hp => hW.lt p hp
  have hW' := hW
  obtain ⟨p, q, hA, hV, hpq, hz, hn⟩ := hW
  have hq : gs = [] ∧ q = [] := by
    rw [hv] at hV
    exact trodVars_none hV
  obtain ⟨rfl, rfl⟩ := hq
  have hpq' : before = p := by rw [hpq, List.append_nil]
  have e := hfn
  have hrs : (Value.bool true).resultList f.resultTypes.size = [.bool true] := by rw [hres]; rfl
  have hres' : ∀ (b : Nat) (sp : Nat → Bool) (hd : Bool), DataW.TrodAll enc P W' b sp hd f.resultTypes.toList ((Value.bool true).resultList f.resultTypes.size) (s.fn H (ds ++ [])).results [] := fun b sp hd => by
    rw [hrs, hres, e]
    exact trodAll_mk1 (shut_bool htb true)
  have hargs : ∀ sp : Nat → Bool, (∀ x ∈ before, sp x.block = true) → DataW.TrodAll enc P W' 0 sp true f.params.toList args.toList (s.fn H (ds ++ [])).args before := fun sp hsp => by
    rw [e]
    subst hpq'
    exact trodAll_below hl hb sp _ hts _ _ _ hA hlt hsp
  have hvars : ∀ sp : Nat → Bool, (∀ x ∈ before, sp x.block = true) → DataW.TrodVars enc P W' sp s.vars (s.fn H (ds ++ [])).vars [] := fun sp _ => by
    rw [e, hv]; exact rfl
  have hold : ∀ x ∈ before, (fun b => decide (b < W.heap.size)) x.block = true := fun x hx => by simpa using hlt x hx
  refine ⟨ds, [], before, [], before, [], hW', hres' _ _ _, hargs _ hold, hvars _ hold, World.keptBut_mono (fun x hx => ⟨hx, Or.inr (Or.inl hx)⟩) (hb.frame (· ∈ before)), fun _ => ?_⟩
  refine ⟨?_, _, _, ([] ++ before) ++ [], ⟨[] ++ before, [], trodAll_append (hargs _ (fun _ _ => rfl)) (hres' _ _ _), hvars _ (fun _ _ => rfl), rfl, ?_, ?_⟩, ?_⟩
  · intro j t r hj hr
    rw [hrs] at hr
    rw [hres] at hj
    rcases j with _ | j
    · simp at hj hr
      subst hj; subst hr
      exact okWide_bool_mk htb true
    · simp at hr
  · intro b off hp
    have hin : MemPlace.cell b off ∈ before := by simpa using hp
    rw [hb.frozen (hlt _ hin)]
    exact hz b off hin
  · intro ha; cases ha
  · intro x hx _
    simpa using hx
end

section
variable {P : Program} {w : World} {r : Reach} {base : Nat} {t : TypeId} {v : Value}
theorem cell_int {k : IntKind} (ht : P.underlying t = some (.int k)) (h : Cell.okWide P w r base t v) : ∃ n, v = .int k n ∧ k.has n := by
  unfold Cell.okWide at h
  rw [ht] at h
  cases v <;> simp [Cell.ok, ht] at h
  obtain ⟨rfl, h⟩ := h
  exact ⟨_, rfl, h⟩
theorem has_i64 {n : Int} (h : IntKind.i64.has n) : i64ok n := ⟨by have := h.1; simpa [IntKind.min, IntKind.signed, IntKind.bits] using this, by have := h.2; simpa [IntKind.max, IntKind.signed, IntKind.bits] using this⟩
theorem has_u16 {n : Int} (h : IntKind.u16.has n) : 0 ≤ n ∧ n < 65536 := by
  have h1 := h.1
  have h2 := h.2
  simp [IntKind.min, IntKind.max, IntKind.signed, IntKind.bits] at h1 h2
  omega
theorem has_u8 {n : Int} (h : IntKind.u8.has n) : 0 ≤ n ∧ n < 256 := by
  have h1 := h.1
  have h2 := h.2
  simp [IntKind.min, IntKind.max, IntKind.signed, IntKind.bits] at h1 h2
  omega
theorem value_int {k : IntKind} (ht : P.underlying t = some (.int k)) (h : Value.okWide P w r base t v) : ∃ n, v = .int k n ∧ k.has n := by
  unfold Value.okWide at h
  rw [ht] at h
  exact cell_int ht h
theorem value_str (ht : P.underlying t = some .string) (h : Value.okWide P w r base t v) : ∃ s : ByteArray, v = .string s ∧ s.size ≤ 9223372036854775807 := by
  unfold Value.okWide at h
  rw [ht] at h
  simp only [Cell.okWide, ht] at h
  cases v <;> simp [Cell.ok, ht] at h
  refine ⟨_, rfl, ?_⟩
  have : IntKind.i64.max = 9223372036854775807 := by decide
  omega
/-- A plain aggregate by value: its cells, each of its type. -/
theorem value_flat {ts : List TypeId} (hu : (match P.underlying t with | some (.struct _) | some (.array _ _) => true | _ => false) = true) (hts : P.cellTypes P.depth t = some ts) (hc : P.cellsOf t = ts.length) (h : Value.okWide P w r base t v) :
    ∃ cs : Array Value, v = .agg cs ∧ cs.size = ts.length ∧ ∀ (i : Nat) x u, cs[i]? = some x → ts[i]? = some u → Cell.okWide P w r base u x := by
  have h' : ∃ cs, v = .agg cs ∧ cs.size = P.cellsOf t ∧ Row.okWide P w r base t cs := by
    unfold Value.okWide at h
    split at h
    · exact h
    · exact h
    · rename_i h1 h2
      split at hu
      · rename_i fs e; exact absurd e (h1 fs)
      · rename_i n e' e; exact absurd e (h2 n e')
      · cases hu
  obtain ⟨cs, rfl, hsz, ts', hts', _, hall⟩ := h'
  obtain rfl := Option.some.inj (hts.symm.trans hts')
  rw [hc] at hsz
  refine ⟨cs, rfl, hsz, fun i x u hx hu' => ?_⟩
  obtain ⟨u', hu1, hok⟩ := hall i x hx
  have hi : i < ts.length := (List.getElem?_eq_some_iff.1 hu').1
  rw [Nat.mod_eq_of_lt hi, hu'] at hu1
  obtain rfl := Option.some.inj hu1
  exact hok
end
theorem arr7 {cs : Array Value} (h : cs.size = 7) : ∃ a b c d e f g, cs = #[a, b, c, d, e, f, g] := by
  obtain ⟨l⟩ := cs
  match l, h with
  | [a, b, c, d, e, f, g], _ => exact ⟨a, b, c, d, e, f, g, rfl⟩
theorem arr5 {cs : Array Value} (h : cs.size = 5) : ∃ a b c d e, cs = #[a, b, c, d, e] := by
  obtain ⟨l⟩ := cs
  match l, h with
  | [a, b, c, d, e], _ => exact ⟨a, b, c, d, e, rfl⟩
theorem arr2 {cs : Array Value} (h : cs.size = 2) : ∃ a b, cs = #[a, b] := by
  obtain ⟨l⟩ := cs
  match l, h with
  | [a, b], _ => exact ⟨a, b, rfl⟩
theorem arr4 {cs : Array Value} (h : cs.size = 4) : ∃ a b c d, cs = #[a, b, c, d] := by
  obtain ⟨l⟩ := cs
  match l, h with
  | [a, b, c, d], _ => exact ⟨a, b, c, d, rfl⟩
section
variable {w : World} {r : Reach} {base : Nat} {v : Value}
theorem arg_int (h : Value.okWide Tryd.prog w r base 3 v) : ∃ n : Int, i64ok n ∧ v = .int .i64 n := by
  obtain ⟨n, rfl, hn⟩ := value_int Tryd.underlying3 h
  exact ⟨n, has_i64 hn, rfl⟩
theorem arg_c2 (h : Value.okWide Tryd.prog w r base 49 v) : ∃ c0 c1 : Int, (i64ok c0 ∧ i64ok c1) ∧ v = .agg #[.int .i64 c0, .int .i64 c1] := by
  obtain ⟨cs, rfl, hsz, hall⟩ := value_flat (ts := [3, 3]) (by kernel_rfl) (by kernel_rfl) (by kernel_rfl) h
  obtain ⟨a, b, rfl⟩ := arr2 hsz
  obtain ⟨a, rfl, ha⟩ := cell_int Tryd.underlying3 (hall 0 _ _ rfl rfl)
  obtain ⟨b, rfl, hb⟩ := cell_int Tryd.underlying3 (hall 1 _ _ rfl rfl)
  exact ⟨a, b, ⟨has_i64 ha, has_i64 hb⟩, rfl⟩
theorem arg_c4 (h : Value.okWide Tryd.prog w r base 34 v) : ∃ q0 q1 q2 q3 : Int, (i64ok q0 ∧ i64ok q1 ∧ i64ok q2 ∧ i64ok q3) ∧ v = .agg #[.int .i64 q0, .int .i64 q1, .int .i64 q2, .int .i64 q3] := by
  obtain ⟨cs, rfl, hsz, hall⟩ := value_flat (ts := [3, 3, 3, 3]) (by kernel_rfl) (by kernel_rfl) (by kernel_rfl) h
  obtain ⟨a, b, c, d, rfl⟩ := arr4 hsz
  obtain ⟨a, rfl, ha⟩ := cell_int Tryd.underlying3 (hall 0 _ _ rfl rfl)
  obtain ⟨b, rfl, hb⟩ := cell_int Tryd.underlying3 (hall 1 _ _ rfl rfl)
  obtain ⟨c, rfl, hc⟩ := cell_int Tryd.underlying3 (hall 2 _ _ rfl rfl)
  obtain ⟨d, rfl, hd⟩ := cell_int Tryd.underlying3 (hall 3 _ _ rfl rfl)
  exact ⟨a, b, c, d, ⟨has_i64 ha, has_i64 hb, has_i64 hc, has_i64 hd⟩, rfl⟩
theorem arg_c7 (h : Value.okWide Tryd.prog w r base 51 v) : ∃ q0 q1 q2 q3 q4 q5 q6 : Int, (i64ok q0 ∧ i64ok q1 ∧ i64ok q2 ∧ i64ok q3 ∧ i64ok q4 ∧ i64ok q5 ∧ i64ok q6) ∧ v = .agg #[.int .i64 q0, .int .i64 q1, .int .i64 q2, .int .i64 q3, .int .i64 q4, .int .i64 q5, .int .i64 q6] := by
  obtain ⟨cs, rfl, hsz, hall⟩ := value_flat (ts := [3, 3, 3, 3, 3, 3, 3]) (by kernel_rfl) (by kernel_rfl) (by kernel_rfl) h
  obtain ⟨a, b, c, d, e, f, g, rfl⟩ := arr7 hsz
  obtain ⟨a, rfl, ha⟩ := cell_int Tryd.underlying3 (hall 0 _ _ rfl rfl)
  obtain ⟨b, rfl, hb⟩ := cell_int Tryd.underlying3 (hall 1 _ _ rfl rfl)
  obtain ⟨c, rfl, hc⟩ := cell_int Tryd.underlying3 (hall 2 _ _ rfl rfl)
  obtain ⟨d, rfl, hd⟩ := cell_int Tryd.underlying3 (hall 3 _ _ rfl rfl)
  obtain ⟨e, rfl, he⟩ := cell_int Tryd.underlying3 (hall 4 _ _ rfl rfl)
  obtain ⟨f, rfl, hf⟩ := cell_int Tryd.underlying3 (hall 5 _ _ rfl rfl)
  obtain ⟨g, rfl, hg⟩ := cell_int Tryd.underlying3 (hall 6 _ _ rfl rfl)
  exact ⟨a, b, c, d, e, f, g, ⟨has_i64 ha, has_i64 hb, has_i64 hc, has_i64 hd, has_i64 he, has_i64 hf, has_i64 hg⟩, rfl⟩
end
theorem cell_lt {w : World} {a : Addr} {v : Value} (h : w.cell? a = some v) : a.block < w.heap.size ∧ a.spot = none := by
  unfold World.cell? at h
  cases hb : w.heap[a.block]? with
  | none => simp [hb] at h
  | some o =>
    refine ⟨(Array.getElem?_eq_some_iff.1 hb).1, ?_⟩
    rw [hb] at h
    cases o with
    | cells c t fr =>
      simp only at h
      cases hs : a.spot with
      | none => rfl
      | some s => simp [hs] at h
    | _ => simp at h

section
variable {H : Type} {enc : TypeId × Value → H} {P : Program} {w : World} {base : Nat} {spare : Nat → Bool} {held : Bool}
/-- The rows of a slice of arrays of m ints (0 < m). -/
theorem open_int_arrays {t e q : TypeId} {m : Nat} {r : Reach} {b0 : Nat} {v : Value} {d : DataW H} {ps : List MemPlace} (hm0 : 0 < m) (ht : P.underlying t = some (.slice e)) (he : P.underlying e = some (.array m q)) (hq : P.underlying q = some (.int .i64)) (hce : P.cellsOf e = m) (hcq : P.cellsOf q = 1)
    (hval : Value.okWide P w r b0 t v) (hd : DataW.Trod enc P w base spare held t v d ps) :
    ∃ (p : Option Addr) (len cap b off : Nat) (Q : Nat → Nat → Int), v = .slice p len cap ∧ len ≤ cap ∧ cap ≤ maxLen ∧ (0 < len → p = some ⟨b, off, none⟩ ∧ b < w.heap.size) ∧ (∀ i, i < len → ∀ j, j < m → w.cell? ⟨b, off + i * m + j, none⟩ = some (.int .i64 (Q i j)) ∧ i64ok (Q i j)) ∧
      (len = 0 ∨ ∃ es sp, d = .slice es sp ∧ es.length = len) := by
  obtain ⟨p, len, cap, rfl⟩ := okWide_slice ht hval
  obtain ⟨fuel, hf⟩ := hd
  have hf' : DataW.trod enc P w base spare held fuel t [.slice p len cap] = some (d, ps) := hf
  rcases open_slice ht hf' with ⟨hcs, hx⟩ | ⟨a, len', cap', mm, n, D, Pl, hcs, hb, hl, hmx, hmm, hx, hi⟩
  · simp only [List.cons.injEq, Value.slice.injEq, and_true] at hcs
    obtain ⟨rfl, rfl, rfl⟩ := hcs
    exact ⟨none, 0, 0, 0, 0, fun _ _ => 0, rfl, Nat.le_refl _, Nat.zero_le _, fun h => absurd h (by omega), fun i h => absurd h (by omega), .inl rfl⟩
  · simp only [List.cons.injEq, Value.slice.injEq, and_true] at hcs
    obtain ⟨rfl, rfl, rfl⟩ := hcs
    have hlm : len ≤ mm := by rw [hmm]; split <;> omega
    have hcell : ∀ i, i < len → ∀ j, j < m → ∃ z, w.cell? (a.add (i * m + j)) = some (.int .i64 z) ∧ i64ok z := fun i hil j hj => by
      obtain ⟨cs', hc, htr⟩ := hi i (by omega)
      rw [hce] at hc
      obtain ⟨-, hlen, hat⟩ := World.cells?_some hc
      obtain ⟨xs, n', -, -, -, hxl, hel⟩ := DataW.trod_array he htr
      have h1 := hel j hj
      rw [hcq, Nat.mul_one] at h1
      have hxj : xs[j]? = some (xs[j]'(by omega)) := List.getElem?_eq_getElem (by omega)
      rw [hxj] at h1
      obtain ⟨z, hz, -, hwf⟩ := DataW.trod_int hq h1
      have hcj : cs'[j]? = some (.int .i64 z) := by
        have := congrArg (fun l : List Value => l[0]?) hz
        simpa [List.getElem?_take, List.getElem?_drop] using this
      refine ⟨z, ?_, ?_⟩
      · have := hat j hj
        rw [add_add] at this
        rw [this, hcj]
      · simp only [Lit.wf, Bool.and_eq_true, decide_eq_true_eq] at hwf
        exact has_i64 ⟨hwf.1, hwf.2⟩
    refine ⟨some a, len, cap, a.block, a.off, fun i j => match w.cell? (a.add (i * m + j)) with | some (.int _ z) => z | _ => 0, rfl, hl, hmx, fun h0 => ?_, fun i hil j hj => ?_, .inr ⟨_, _, (congrArg Prod.fst hx), by simp⟩⟩
    · obtain ⟨z, hz, -⟩ := hcell 0 h0 0 hm0
      have h0' : a.add (0 * m + 0) = a := by simp [Addr.add]
      rw [h0'] at hz
      obtain ⟨hlt, hsp⟩ := cell_lt hz
      exact ⟨by obtain ⟨b, o, s⟩ := a; simp only at hsp; rw [hsp], hlt⟩
    · obtain ⟨z, hz, hzok⟩ := hcell i hil j hj
      obtain ⟨z0, hz0, -⟩ := hcell 0 (by omega) 0 hm0
      have h0' : a.add (0 * m + 0) = a := by simp [Addr.add]
      rw [h0'] at hz0
      obtain ⟨-, hsp⟩ := cell_lt hz0
      have haddr : a.add (i * m + j) = ⟨a.block, a.off + i * m + j, none⟩ := by
        obtain ⟨b, o, s⟩ := a
        simp only at hsp
        subst hsp
        unfold Addr.add
        split
        · rename_i h; simp [h]; omega
        · simp [Nat.add_assoc]
      rw [← haddr]
      refine ⟨?_, ?_⟩
      · simp only [hz]
      · simp only [hz]; exact hzok
end

/-- The block of a cell. -/
theorem cell_block {w : World} {b o : Nat} {v : Value} (h : w.cell? ⟨b, o, none⟩ = some v) : ∃ c t fr, w.heap[b]? = some (.cells c t fr) ∧ c[o]? = some v := by
  unfold World.cell? at h
  cases hb : w.heap[b]? with
  | none => simp [hb] at h
  | some ob =>
    rw [hb] at h
    cases ob with
    | cells c t fr => exact ⟨c, t, fr, rfl, by simpa using h⟩
    | _ => simp at h
theorem arr_of {w : World} {p : Option Addr} {len b off : Nat} {Q : Nat → Nat → Int} (hp : 0 < len → p = some ⟨b, off, none⟩ ∧ b < w.heap.size) (hQ : ∀ i, i < len → ∀ j, j < 4 → w.cell? ⟨b, off + i * 4 + j, none⟩ = some (.int .i64 (Q i j)) ∧ i64ok (Q i j)) : ArrW p len w := fun h0 => by
  obtain ⟨c, t, fr, hg, -⟩ := cell_block (hQ 0 h0 0 (by omega)).1
  refine ⟨b, off, c, t, fr, (hp h0).1, hg, fun i hi j hj => ⟨Q i j, ?_, (hQ i hi j hj).2⟩⟩
  have := (hQ i hi j hj).1
  rwa [cell_of_row _ _ _ _ _ _ hg] at this
end Go.Proofs.YtepmgnhblegiiaaDoor
