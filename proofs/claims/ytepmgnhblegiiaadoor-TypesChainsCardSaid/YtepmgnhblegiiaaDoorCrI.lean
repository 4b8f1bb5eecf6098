/- An argument that is a slice of numbers: opened to cells. No condition beyond what each states. -/
import Derived.Test.YtepmgnhblegiiaaDoorCrd
import Derived.Test.YtepmgnhblegiiaaDoorLnk
set_option linter.all false
namespace Go.Proofs.YtepmgnhblegiiaaDoor
open Go.ChangeShapes Go.WideShapes Go.ChangeAt Go.RowKit Go.Deep

section
variable {H : Type} {enc : TypeId × Value → H} {P : Program} {w : World} {base : Nat} {spare : Nat → Bool} {held : Bool}
theorem open_int_slice {t e : TypeId} {r : Reach} {b0 : Nat} {v : Value} {d : DataW H} {ps : List MemPlace} (ht : P.underlying t = some (.slice e)) (he : P.underlying e = some (.int .i64)) (hce : P.cellsOf e = 1)
    (hval : Value.okWide P w r b0 t v) (hd : DataW.Trod enc P w base spare held t v d ps) :
    ∃ (p : Option Addr) (len cap b off : Nat) (Q : Nat → Int), v = .slice p len cap ∧ len ≤ cap ∧ cap ≤ maxLen ∧ (0 < len → p = some ⟨b, off, none⟩ ∧ b < w.heap.size) ∧ (∀ i, i < len → w.cell? ⟨b, off + i, none⟩ = some (.int .i64 (Q i)) ∧ i64ok (Q i)) ∧
      (len = 0 ∨ ∃ es sp, d = .slice es sp ∧ es.length = len) := by
  obtain ⟨p, len, cap, rfl⟩ := okWide_slice ht hval
  obtain ⟨fuel, hf⟩ := hd
  have hf' : DataW.trod enc P w base spare held fuel t [.slice p len cap] = some (d, ps) := hf
  rcases open_slice ht hf' with ⟨hcs, hx⟩ | ⟨a, len', cap', mm, n, D, Pl, hcs, hb, hl, hmx, hmm, hx, hi⟩
  · simp only [List.cons.injEq, Value.slice.injEq, and_true] at hcs
    obtain ⟨rfl, rfl, rfl⟩ := hcs
    exact ⟨none, 0, 0, 0, 0, fun _ => 0, rfl, Nat.le_refl _, Nat.zero_le _, fun h => absurd h (by omega), fun i h => absurd h (by omega), .inl rfl⟩
  · simp only [List.cons.injEq, Value.slice.injEq, and_true] at hcs
    obtain ⟨rfl, rfl, rfl⟩ := hcs
    have hlm : len ≤ mm := by rw [hmm]; split <;> omega
    have hcell : ∀ i, i < len → ∃ z, w.cell? (a.add i) = some (.int .i64 z) ∧ i64ok z := fun i hil => by
      obtain ⟨cs', hc, htr⟩ := hi i (by omega)
      rw [hce] at hc
      obtain ⟨-, hlen, hat⟩ := World.cells?_some hc
      obtain ⟨z, hz, -, hwf⟩ := DataW.trod_int he htr
      refine ⟨z, ?_, ?_⟩
      · have h1 := hat 0 (by omega)
        rw [add_add, Nat.mul_one, Nat.add_zero] at h1
        rw [h1, hz]; rfl
      · simp only [Lit.wf, Bool.and_eq_true, decide_eq_true_eq] at hwf
        exact has_i64 ⟨hwf.1, hwf.2⟩
    refine ⟨some a, len, cap, a.block, a.off, fun i => match w.cell? (a.add i) with | some (.int _ z) => z | _ => 0, rfl, hl, hmx, fun h0 => ?_, fun i hil => ?_, .inr ⟨_, _, (congrArg Prod.fst hx), by simp⟩⟩
    · obtain ⟨z, hz, -⟩ := hcell 0 h0
      have h0' : a.add 0 = a := by simp [Addr.add]
      rw [h0'] at hz
      obtain ⟨hlt, hsp⟩ := cell_lt hz
      exact ⟨by obtain ⟨b, o, s⟩ := a; simp only at hsp; rw [hsp], hlt⟩
    · obtain ⟨z, hz, hzok⟩ := hcell i hil
      obtain ⟨z0, hz0, -⟩ := hcell 0 (by omega)
      have h0' : a.add 0 = a := by simp [Addr.add]
      rw [h0'] at hz0
      obtain ⟨-, hsp⟩ := cell_lt hz0
      have haddr : a.add i = ⟨a.block, a.off + i, none⟩ := by
        obtain ⟨b, o, s⟩ := a
        simp only at hsp
        subst hsp
        unfold Addr.add
        split
        · rename_i h; simp [h]
        · rfl
      rw [← haddr]
      refine ⟨?_, ?_⟩
      · simp only [hz]
      · simp only [hz]; exact hzok
end
theorem lnk_of {w : World} {p : Option Addr} {len b off : Nat} {Q : Nat → Int} (hp : 0 < len → p = some ⟨b, off, none⟩ ∧ b < w.heap.size) (hQ : ∀ i, i < len → w.cell? ⟨b, off + i, none⟩ = some (.int .i64 (Q i)) ∧ i64ok (Q i)) : LnkW p len w := fun h0 => by
  obtain ⟨c, t, fr, hg, -⟩ := cell_block (hQ 0 h0).1
  refine ⟨b, off, c, t, fr, (hp h0).1, hg, fun i hi => ⟨Q i, ?_, (hQ i hi).2⟩⟩
  have := (hQ i hi).1
  rwa [cell_of_row _ _ _ _ _ _ hg] at this
end Go.Proofs.YtepmgnhblegiiaaDoor
