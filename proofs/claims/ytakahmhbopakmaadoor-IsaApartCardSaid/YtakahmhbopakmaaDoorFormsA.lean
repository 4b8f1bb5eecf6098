/- The plain law of IsaForms: which forms are valid. No program in sight. -/
import Derived.Test.YtakahmhbopakmaaDoorRefD
set_option linter.all false
namespace Go.Proofs.YtakahmhbopakmaaDoor
open Go.RowKit

theorem belowN {B : Nat} {a w : World} (h : Below B a w) (n : Nat) : Below B a (w.drewN n) := h.trans ⟨rfl, rfl, rfl, Nat.le_refl _, fun _ _ => rfl⟩

theorem rv_at (i : Ins) (hi : i.Ok) (f : Int) (hf : fmtS i.op = f) (hne : f ≠ 0) : validS i = ((i.size == rsizeTab.getD f.toNat 0) && rvBody f i) := by
  rw [valid_eq i hi]
  unfold rvalidS rsizeS
  rw [hf]
  have : (f == 0) = false := by simpa using hne
  rw [this]
  rfl
theorem fmt_k : ∀ n : Nat, n < 15 → fmtS (32 + n) = 4 ∧ fmtS (32 + n + 16) = 5 ∧ fmtS (32 + n + 32) = 6 := by decide +kernel
theorem fmt_m : ∀ n : Nat, n < 4 → fmtS (80 + n) = 7 ∧ fmtS (80 + n + 8) = 8 := by decide +kernel
def fitsB (n : Int) : Bool := decide (n < 128) || decide (65408 ≤ n)
theorem okSmall (op d s imm bank size : Int) (h1 : 0 ≤ op ∧ op < 1000) (h2 : 0 ≤ d ∧ d < 1000) (h3 : 0 ≤ s ∧ s < 1000) (h4 : 0 ≤ imm ∧ imm < 65536) (h5 : 0 ≤ bank ∧ bank < 1000) (h6 : 0 ≤ size ∧ size < 1000) : (⟨op, d, s, imm, 0, bank, size⟩ : Ins).Ok :=
  ⟨⟨by dsimp only; omega, by dsimp only; omega⟩, ⟨by dsimp only; omega, by dsimp only; omega⟩, ⟨by dsimp only; omega, by dsimp only; omega⟩, h4, ⟨by dsimp only; omega, by dsimp only; omega⟩, ⟨by dsimp only; omega, by dsimp only; omega⟩, ⟨by dsimp only; omega, by dsimp only; omega⟩⟩
theorem fk (x : Int) (hx : 0 ≤ x ∧ x < 15) : fmtS (32 + x) = 4 ∧ fmtS (32 + x + 16) = 5 ∧ fmtS (32 + x + 32) = 6 := by
  obtain ⟨m, hm⟩ : ∃ m : Nat, x = m := ⟨x.toNat, by omega⟩
  subst hm
  exact fmt_k m (by omega)
theorem fv1 (x d s n : Int) (hx : 0 ≤ x ∧ x < 15) (hd : 0 ≤ d ∧ d < 8) (hs : 0 ≤ s ∧ s < 8) (hn : 0 ≤ n ∧ n < 65536) : validS ⟨32 + x, d, s, 0, 0, 0, 2⟩ = true := by
  rw [rv_at _ (okSmall _ _ _ _ _ _ (by omega) (by omega) (by omega) (by omega) (by omega) (by omega)) 4 (fk x hx).1 (by decide)]
  simp [rvBody, regB, rsizeTab]; omega
theorem fv2 (x d s n : Int) (hx : 0 ≤ x ∧ x < 15) (hd : 0 ≤ d ∧ d < 8) (hs : 0 ≤ s ∧ s < 8) (hn : 0 ≤ n ∧ n < 65536) : validS ⟨32 + x + 16, d, 0, n, 0, 0, 3⟩ = fitsB n := by
  rw [rv_at _ (okSmall _ _ _ _ _ _ (by omega) (by omega) (by omega) (by omega) (by omega) (by omega)) 5 (fk x hx).2.1 (by decide)]
  unfold fitsB
  rw [Bool.eq_iff_iff]
  simp [rvBody, regB, sgnB, rsizeTab]; omega
theorem fv3 (x d s n : Int) (hx : 0 ≤ x ∧ x < 15) (hd : 0 ≤ d ∧ d < 8) (hs : 0 ≤ s ∧ s < 8) (hn : 0 ≤ n ∧ n < 65536) : validS ⟨32 + x + 32, d, 0, n, 0, 0, 4⟩ = true := by
  rw [rv_at _ (okSmall _ _ _ _ _ _ (by omega) (by omega) (by omega) (by omega) (by omega) (by omega)) 6 (fk x hx).2.2 (by decide)]
  simp [rvBody, regB, rsizeTab]; omega
theorem fv6 (x d s n : Int) (hx : 0 ≤ x ∧ x < 15) (hd : 0 ≤ d ∧ d < 8) (hs : 0 ≤ s ∧ s < 8) (hn : 0 ≤ n ∧ n < 65536) : validS ⟨32 + x, d, s, n, 0, 0, 2⟩ = (n == 0) := by
  rw [rv_at _ (okSmall _ _ _ _ _ _ (by omega) (by omega) (by omega) (by omega) (by omega) (by omega)) 4 (fk x hx).1 (by decide)]
  rw [Bool.eq_iff_iff]
  simp [rvBody, regB, rsizeTab]; omega
theorem fv7 (x d s n : Int) (hx : 0 ≤ x ∧ x < 15) (hd : 0 ≤ d ∧ d < 8) (hs : 0 ≤ s ∧ s < 8) (hn : 0 ≤ n ∧ n < 65536) : validS ⟨32 + x, d + 8, s, 0, 0, 0, 2⟩ = false := by
  rw [rv_at _ (okSmall _ _ _ _ _ _ (by omega) (by omega) (by omega) (by omega) (by omega) (by omega)) 4 (fk x hx).1 (by decide)]
  rw [Bool.eq_false_iff]
  simp [rvBody, regB, rsizeTab]; omega
theorem fm (x : Int) (hx : 0 ≤ x ∧ x < 4) : fmtS (80 + x) = 7 ∧ fmtS (80 + x + 8) = 8 := by
  obtain ⟨m, hm⟩ : ∃ m : Nat, x = m := ⟨x.toNat, by omega⟩
  subst hm
  exact fmt_m m (by omega)
theorem fv4 (x d s n : Int) (hx : 0 ≤ x ∧ x < 4) (hd : 0 ≤ d ∧ d < 8) (hs : 0 ≤ s ∧ s < 8) (hn : 0 ≤ n ∧ n < 65536) : validS ⟨80 + x, d, s, n, 0, 0, 3⟩ = fitsB n := by
  rw [rv_at _ (okSmall _ _ _ _ _ _ (by omega) (by omega) (by omega) (by omega) (by omega) (by omega)) 7 (fm x hx).1 (by decide)]
  unfold fitsB
  rw [Bool.eq_iff_iff]
  simp [rvBody, regB, sgnB, rsizeTab]; omega
theorem fv5 (x d s n : Int) (hx : 0 ≤ x ∧ x < 4) (hd : 0 ≤ d ∧ d < 8) (hs : 0 ≤ s ∧ s < 8) (hn : 0 ≤ n ∧ n < 65536) : validS ⟨80 + x + 8, d, s, n, 0, 0, 4⟩ = true := by
  rw [rv_at _ (okSmall _ _ _ _ _ _ (by omega) (by omega) (by omega) (by omega) (by omega) (by omega)) 8 (fm x hx).2 (by decide)]
  simp [rvBody, regB, rsizeTab]; omega

end Go.Proofs.YtakahmhbopakmaaDoor
