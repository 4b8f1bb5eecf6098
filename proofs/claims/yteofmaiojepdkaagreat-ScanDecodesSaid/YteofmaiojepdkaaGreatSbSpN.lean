/- Chapter 05 in plain Lean: what the routines of a listing are. No condition beyond what each states. -/
import Derived.Test.YteofmaiojepdkaaGreatSbMpE
set_option linter.all false
namespace Go.Proofs.YteofmaiojepdkaaGreat
structure LstR (I : zr) (more : List zd) (rs : List xd) : Prop where
 so : (rs.map (·.entry)).Pairwise yb
 le : rs.length ≤ 2000
 rt : ∀ r ∈ rs, ym I r.entry r
 pl : ∀ r ∈ rs, xI r.entry
 cd : ∀ r ∈ rs, ∀ p ∈ r.code, okI I p ∧ xI p
 cl : ∀ r ∈ rs, ∀ q ∈ r.calls, q ∈ rs.map (·.entry)
 th : ∀ r ∈ rs, r.thunk = true → r.dest ∈ rs.map (·.entry)
theorem rts_lstR {I : zr} (hI : I.Ok) {more : List zd} (hm : ∀ p ∈ more, xI p) {rs : List xd} (h : y8 I more (some rs)) : LstR I more rs := by
 obtain ⟨h1, h2, h3, h4⟩ := h
 have hE : ∀ r ∈ rs, Ent I more r.entry := fun r hr => (h4 _).1 (List.mem_map.2 ⟨r, hr, rfl⟩)
 refine ⟨h1, h2, h3, fun r hr => (hE r hr).plOk hI hm, fun r hr p hp => ?_, fun r hr q hq => (h4 _).2 (.call (hE r hr) (h3 r hr) hq), fun r hr ht => ?_⟩
 ·have hpe := (hE r hr).plOk hI hm
  have hir := h3 r hr
  by_cases ht : yK I r.entry
  ·rw [(hir.thk ht).2.1, List.mem_singleton] at hp
   rw [hp]
   exact ⟨ht.1, hpe⟩
  ·obtain ⟨h5, h6⟩ := (hir.mc ht p).1 hp
   exact ⟨h6, h5.plOk hpe⟩
 ·have hir := h3 r hr
  rw [hir.th] at ht
  have ht := of_decide_eq_true ht
  rw [(hir.thk ht).1]
  exact (h4 _).2 (.thunk (hE r hr) ht)
theorem lst_lstR {I : zr} (hI : I.Ok) {more : List zd} (hm : ∀ p ∈ more, xI p) {L : LstS} (h : IsLst I more L) : LstR I more L.rts := by
 have h0 : LstR I more (manyL I).rts := ⟨List.Pairwise.nil, Nat.zero_le _, fun r hr => (by cases hr), fun r hr => (by cases hr), fun r hr => (by cases hr), fun r hr => (by cases hr), fun r hr => (by cases hr)⟩
 rcases h with ⟨-, rfl⟩ | ⟨rs, its, h1, -, ⟨-, rfl⟩ | ⟨-, rfl⟩⟩
 ·exact h0
 ·exact h0
 ·exact rts_lstR hI hm h1
end Go.Proofs.YteofmaiojepdkaaGreat
