/- The reference of chapter 19: Right, Assemble. The conditions: the numbers lie in their types' ranges. -/
import Derived.Test.YthebmoggbgldmaaLaLrF
set_option linter.all false
namespace Go.Proofs.Ythebmoggbgldmaa
open Go Go.RowKit Go.Maps
theorem right_chunk2 (ls : List zu) (hok : yV ls) (nf no : Nat) : jy ls nf no = true ↔ xP ls nf no := by
 have key : LabsOk ls → ∀ l ∈ ls, ¬ (l.label < -1 ∨ (0 ≤ l.label ∧ xg ls l.label < 0)) → (xu ls nf no l = zY (yI ls) nf no l) := by
  intro hL l hl h0
  have hs : ∀ op, zp op = zH op := fun op => (ju op).symm
  have hv : zR { l.ins with size := zH l.ins.op } = zQ { l.ins with size := zH l.ins.op } := by
   have h9 := (hok.1 l hl).ins
   refine (yR { l.ins with size := zH l.ins.op } ⟨h9.op, h9.d, h9.s, h9.imm, h9.aux, h9.bank, ?_⟩).symm
   have := sizeS_rng l.ins.op
   exact ⟨by show _ ≤ zH l.ins.op; omega, by show zH l.ins.op ≤ _; omega⟩
  have hr : ∀ n, (decide (0 ≤ xg ls n)) = (yI ls n).isSome := by
   intro n; rw [rlab_of_labs hL]; cases yI ls n <;> simp <;> omega
  have hr2 : ∀ n, (xg ls n < 0) ↔ (yI ls n).isNone = true := by
   intro n; rw [rlab_of_labs hL]; cases yI ls n <;> simp <;> omega
  unfold xu zY
  rw [if_neg h0]
  simp only [hs, hv, hr, hr2]
  clear hr hr2 hv hs h0 hL hl hok
  rcases xL l.ins.op with e | e | e | e | e <;> rw [e] <;> clear e <;> rw [Bool.eq_iff_iff] <;> simp [← Option.isSome_iff_ne_none] <;> grind
 constructor
 ·intro h
  unfold jy at h
  rw [List.all_eq_true] at h
  have h0 : ∀ l ∈ ls, ¬ (l.label < -1 ∨ (0 ≤ l.label ∧ xg ls l.label < 0)) := by
   intro l hl e
   have := h l hl
   unfold xu at this
   rw [if_pos e] at this
   cases this
  have hL := labs_of_rlab h0
  exact ⟨hL, fun l hl => by rw [← key hL l hl (h0 l hl)]; exact h l hl⟩
 ·rintro ⟨hL, h⟩
  unfold jy
  rw [List.all_eq_true]
  intro l hl
  have h0 : ¬ (l.label < -1 ∨ (0 ≤ l.label ∧ xg ls l.label < 0)) := by
   obtain ⟨k, hk, rfl⟩ := List.mem_iff_getElem.1 hl
   rw [rlab_of_labs hL]
   rcases hL k hk with e | ⟨e, -⟩
   ·omega
   ·cases hF : yI ls ls[k].label with
    | none => exact absurd rfl ((labF_none e).1 hF _ hl)
    | some j => simp; omega
  rw [key hL l hl h0]
  exact h l hl
end Go.Proofs.Ythebmoggbgldmaa
