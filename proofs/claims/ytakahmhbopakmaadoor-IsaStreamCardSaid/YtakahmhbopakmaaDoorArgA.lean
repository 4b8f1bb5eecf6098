/- Arguments that are slices of arrays of ints: opened to cells. No condition beyond what each states. -/
import Derived.Test.YtakahmhbopakmaaDoorCardA
import Derived.Deep.Slices
import Derived.SizedLaws
import Derived.ChangeMaps5
set_option linter.all false
namespace Go.Proofs.YtakahmhbopakmaaDoor
open Go.ChangeShapes Go.WideShapes Go.ChangeAt Go.RowKit Go.Deep

theorem cell_lt {w : World} {a : Addr} {v : Value} (h : w.cell? a = some v) : a.block < w.heap.size ∧ a.spot = none := by
  unfold World.cell? at h
  cases hb : w.heap[a.block]? with
  | none => simp [hb] at h
  | some o =>
    refine ⟨(Array.getElem?_eq_some_iff.1 hb).1, ?_⟩
    rw [hb] at h
    cases o with
    | cells c t fr =>
      simp only at h
      cases hs : a.spot with
      | none => rfl
      | some s => simp [hs] at h
    | _ => simp at h

section
variable {H : Type} {enc : TypeId × Value → H} {P : Program} {w : World} {base : Nat} {spare : Nat → Bool} {held : Bool}
/-- The rows of a slice of arrays of m ints (0 < m). -/
theorem open_int_arrays {t e q : TypeId} {m : Nat} {r : Reach} {b0 : Nat} {v : Value} {d : DataW H} {ps : List MemPlace} (hm0 : 0 < m) (ht : P.underlying t = some (.slice e)) (he : P.underlying e = some (.array m q)) (hq : P.underlying q = some (.int .i64)) (hce : P.cellsOf e = m) (hcq : P.cellsOf q = 1)
    (hval : Value.okWide P w r b0 t v) (hd : DataW.Trod enc P w base spare held t v d ps) :
    ∃ (p : Option Addr) (len cap b off : Nat) (Q : Nat → Nat → Int), v = .slice p len cap ∧ len ≤ cap ∧ cap ≤ maxLen ∧ (0 < len → p = some ⟨b, off, none⟩ ∧ b < w.heap.size) ∧ (∀ i, i < len → ∀ j, j < m → w.cell? ⟨b, off + i * m + j, none⟩ = some (.int .i64 (Q i j)) ∧ i64ok (Q i j)) ∧
      (len = 0 ∨ ∃ es sp, d = .slice es sp ∧ es.length = len) := by
  obtain ⟨p, len, cap, rfl⟩ := okWide_slice ht hval
  obtain ⟨fuel, hf⟩ := hd
  have hf' : DataW.trod enc P w base spare held fuel t [.slice p len cap] = some (d, ps) := hf
  rcases open_slice ht hf' with ⟨hcs, hx⟩ | ⟨a, len', cap', mm, n, D, Pl, hcs, hb, hl, hmx, hmm, hx, hi⟩
  · simp only [List.cons.injEq, Value.slice.injEq, and_true] at hcs
    obtain ⟨rfl, rfl, rfl⟩ := hcs
    exact ⟨none, 0, 0, 0, 0, fun _ _ => 0, rfl, Nat.le_refl _, Nat.zero_le _, fun h => absurd h (by omega), fun i h => absurd h (by omega), .inl rfl⟩
  · simp only [List.cons.injEq, Value.slice.injEq, and_true] at hcs
    obtain ⟨rfl, rfl, rfl⟩ := hcs
    have hlm : len ≤ mm := by rw [hmm]; split <;> omega
    have hcell : ∀ i, i < len → ∀ j, j < m → ∃ z, w.cell? (a.add (i * m + j)) = some (.int .i64 z) ∧ i64ok z := fun i hil j hj => by
      obtain ⟨cs', hc, htr⟩ := hi i (by omega)
      rw [hce] at hc
      obtain ⟨-, hlen, hat⟩ := World.cells?_some hc
      obtain ⟨xs, n', -, -, -, hxl, hel⟩ := DataW.trod_array he htr
      have h1 := hel j hj
      rw [hcq, Nat.mul_one] at h1
      have hxj : xs[j]? = some (xs[j]'(by omega)) := List.getElem?_eq_getElem (by omega)
      rw [hxj] at h1
      obtain ⟨z, hz, -, hwf⟩ := DataW.trod_int hq h1
      have hcj : cs'[j]? = some (.int .i64 z) := by
        have := congrArg (fun l : List Value => l[0]?) hz
        simpa [List.getElem?_take, List.getElem?_drop] using this
      refine ⟨z, ?_, ?_⟩
      · have := hat j hj
        rw [add_add] at this
        rw [this, hcj]
      · simp only [Lit.wf, Bool.and_eq_true, decide_eq_true_eq] at hwf
        exact has_i64 ⟨hwf.1, hwf.2⟩
    refine ⟨some a, len, cap, a.block, a.off, fun i j => match w.cell? (a.add (i * m + j)) with | some (.int _ z) => z | _ => 0, rfl, hl, hmx, fun h0 => ?_, fun i hil j hj => ?_, .inr ⟨_, _, (congrArg Prod.fst hx), by simp⟩⟩
    · obtain ⟨z, hz, -⟩ := hcell 0 h0 0 hm0
      have h0' : a.add (0 * m + 0) = a := by simp [Addr.add]
      rw [h0'] at hz
      obtain ⟨hlt, hsp⟩ := cell_lt hz
      exact ⟨by obtain ⟨b, o, s⟩ := a; simp only at hsp; rw [hsp], hlt⟩
    · obtain ⟨z, hz, hzok⟩ := hcell i hil j hj
      obtain ⟨z0, hz0, -⟩ := hcell 0 (by omega) 0 hm0
      have h0' : a.add (0 * m + 0) = a := by simp [Addr.add]
      rw [h0'] at hz0
      obtain ⟨-, hsp⟩ := cell_lt hz0
      have haddr : a.add (i * m + j) = ⟨a.block, a.off + i * m + j, none⟩ := by
        obtain ⟨b, o, s⟩ := a
        simp only at hsp
        subst hsp
        unfold Addr.add
        split
        · rename_i h; simp [h]; omega
        · simp [Nat.add_assoc]
      rw [← haddr]
      refine ⟨?_, ?_⟩
      · simp only [hz]
      · simp only [hz]; exact hzok
end
end Go.Proofs.YtakahmhbopakmaaDoor
