/- unite of the solver of type constraints. No condition beyond what each states. -/
import Derived.Test.YtepmgnhblegiiaaDoorSolE
import Derived.Laws.EntriesVeiled
set_option linter.all false
namespace Go.Proofs.YtepmgnhblegiiaaDoor
open Go Go.RowKit Go.Maps

set_option maxRecDepth 100000 in
set_option maxHeartbeats 1000000 in
theorem unite_any (cs ps : List Con) (L : Lay) (hR : ∀ c ∈ cs, rightS L.n c = true) (rt : Int → Int) (of : Int → Cls) (clash : Bool) (a b : Nat) (w : World) (hinv : Inv L.n cs ps rt of clash [((a : Int), (b : Int))]) (h : SolW L rt of clash w) :
    Calls Tryd.prog 56 #[.pointer (some ⟨L.gs, 0, none⟩), .int .i64 a, .int .i64 b] w fun e w' => e = .returned (.tuple #[]) ∧ Turn L.own w w' ∧ ∃ rt' of' clash', Inv L.n cs ps rt' of' clash' [] ∧ SolW L rt' of' clash' w' := by
  have H := Lib.hid h
  have HI := Lib.hid hinv
  have HR := Lib.hid hR
  clear h hinv hR
  obtain ⟨W, hW⟩ : ∃ W, W = (((w.alloc (.cells #[.pointer (some ⟨L.gs, 0, none⟩)] 56)).alloc (.cells #[.slice none 0 0] 100)).alloc (.cells #[.func (.func 67) #[] #[.pointer (some ⟨w.heap.size + 1, 0, none⟩)]] 35)).alloc (.cells #[.func (.func 68) #[] #[.pointer (some ⟨w.heap.size, 0, none⟩), .pointer (some ⟨w.heap.size + 1 + 1, 0, none⟩), .pointer (some ⟨w.heap.size + 1, 0, none⟩), .pointer (some ⟨w.heap.size + 1 + 1 + 1, 0, none⟩)]] 91) := ⟨_, rfl⟩
  have hT : Turn L.own w W := by rw [hW]; exact ((((Turn.refl _ _).alloc _).alloc _).alloc _).alloc _
  have hS : SolW L rt of clash W := by rw [hW]; exact (((H.out.alloc _).alloc _).alloc _).alloc _
  have b1 : W.heap[w.heap.size]? = some (.cells #[.pointer (some ⟨L.gs, 0, none⟩)] 56 (0, 0)) := by
    rw [hW, alloc_other _ _ (by simp; omega), alloc_other _ _ (by simp; omega), alloc_other _ _ (by simp)]; exact heap_alloc_new _ _
  have b2 : W.heap[w.heap.size + 1]? = some (.cells #[.slice none 0 0] 100 (0, 0)) := by
    rw [hW, alloc_other _ _ (by simp), alloc_other _ _ (by simp)]
    have := heap_alloc_new (w.alloc (.cells #[.pointer (some ⟨L.gs, 0, none⟩)] 56)) (.cells #[.slice none 0 0] 100)
    simpa using this
  have b3 : W.heap[w.heap.size + 1 + 1]? = some (.cells #[.func (.func 67) #[] #[.pointer (some ⟨w.heap.size + 1, 0, none⟩)]] 35 (0, 0)) := by
    rw [hW, alloc_other _ _ (by simp)]
    have := heap_alloc_new ((w.alloc (.cells #[.pointer (some ⟨L.gs, 0, none⟩)] 56)).alloc (.cells #[.slice none 0 0] 100)) (.cells #[.func (.func 67) #[] #[.pointer (some ⟨w.heap.size + 1, 0, none⟩)]] 35)
    simpa using this
  have b4 : W.heap[w.heap.size + 1 + 1 + 1]? = some (.cells #[.func (.func 68) #[] #[.pointer (some ⟨w.heap.size, 0, none⟩), .pointer (some ⟨w.heap.size + 1 + 1, 0, none⟩), .pointer (some ⟨w.heap.size + 1, 0, none⟩), .pointer (some ⟨w.heap.size + 1 + 1 + 1, 0, none⟩)]] 91 (0, 0)) := by
    have := heap_alloc_new (((w.alloc (.cells #[.pointer (some ⟨L.gs, 0, none⟩)] 56)).alloc (.cells #[.slice none 0 0] 100)).alloc (.cells #[.func (.func 67) #[] #[.pointer (some ⟨w.heap.size + 1, 0, none⟩)]] 35)) (.cells #[.func (.func 68) #[] #[.pointer (some ⟨w.heap.size, 0, none⟩), .pointer (some ⟨w.heap.size + 1 + 1, 0, none⟩), .pointer (some ⟨w.heap.size + 1, 0, none⟩), .pointer (some ⟨w.heap.size + 1 + 1 + 1, 0, none⟩)]] 91)
    rw [hW]; simpa using this
  have hle := rootsN_le L.n rt
  have hlim := L.lim
  have hcall := join_any cs ps L HR.out w.heap.size w.heap.size (w.heap.size + 1 + 1) (w.heap.size + 1) (w.heap.size + 1 + 1 + 1) _ rt of clash [] a b W
    { inv := HI.out, sol := hS, todo := ⟨_, b2, rfl, .inl ⟨rfl, rfl⟩⟩, cap := ⟨b1, b3, b4⟩, base := hT.size, few := by simp; omega } (Nat.le_refl _)
  rw [hW] at hcall
  have HCALL := Lib.hid hcall
  rw [hW] at hT
  have HT := Lib.hid hT
  clear hW hT hS b1 b2 b3 b4 hcall hle hlim W
  go_enter Tryd.func56, Tryd.ntmps56
  go_upto_region 5 with (fail)
  go_wp2_with (go_at_call 68; refine (HCALL.out).mono ?_; rintro e w9 ⟨rfl, ht9, hd9⟩)
  go_end0
  refine ⟨rfl, ?_, ?_⟩
  · exact (HT.out).trans ht9 (fun x hx hb => by
      rcases hb with hb | rfl | ⟨hb, _⟩
      · exact hb
      · omega
      · omega)
  · rcases hd9 with ⟨h1, h2, h3⟩ | ⟨rt9, of9, c9, h1, h2, h3, h4⟩
    · exact ⟨rt, of, clash, HI.out.same_todo (fun x hx => by simp at hx) (fun x hx _ => by
        have : x = ((a : Int), (b : Int)) := by simpa using hx
        subst this
        exact h1), h2⟩
    · exact ⟨rt9, of9, c9, h1, h2⟩

/-- A constraint as cells. -/
def conCells (c : Con) : Array Value := #[.int .i64 c.kind, .int .i64 c.a, .int .i64 c.b, .int .i64 c.n]

set_option maxRecDepth 100000 in
set_option maxHeartbeats 1000000 in
theorem link_any (cs ps : List Con) (L : Lay) (hR : ∀ c ∈ cs, rightS L.n c = true) (rt : Int → Int) (of : Int → Cls) (clash : Bool) (w : World) (g2 g3 : Nat) (c : Con) (old : Int) (hold : old = -1 ∨ (0 ≤ old ∧ old < L.n)) (hb : 0 ≤ c.b ∧ c.b < L.n) (hinv : Inv L.n cs ps rt of clash (refer old c.b)) (h : SolW L rt of clash w)
    (h2 : w.heap[g2]? = some (.cells #[.pointer (some ⟨L.gs, 0, none⟩)] 56 (0, 0))) (h3 : w.heap[g3]? = some (.cells (conCells c) 37 (0, 0))) :
    Calls Tryd.prog 55 #[.int .i64 old, .pointer (some ⟨g2, 0, none⟩), .pointer (some ⟨g3, 0, none⟩)] w fun e w' => e = .returned (.tuple #[]) ∧ Turn L.own w w' ∧ ∃ rt' of' clash', Inv L.n cs ps rt' of' clash' [] ∧ SolW L rt' of' clash' w' := by
  by_cases ho : old = -1
  · have hi : Inv L.n cs ps rt of clash [] := by rw [refer, if_pos ho] at hinv; exact hinv
    have e1 : (old != -1) = false := by simp [ho]
    have H := Lib.hid h
    have HI := Lib.hid hi
    clear h hi hinv ho hold
    go_enter Tryd.func55, Tryd.ntmps55
    go_wp2
    go_end0
    exact ⟨rfl, Turn.refl _ _, rt, of, clash, HI.out, H.out⟩
  · have hi : Inv L.n cs ps rt of clash [(old, c.b)] := by rw [refer, if_neg ho] at hinv; exact hinv
    have e1 : (old != -1) = true := by simp [ho]
    obtain ⟨on, rfl⟩ := Int.eq_ofNat_of_zero_le (by omega : 0 ≤ old)
    obtain ⟨bn, hbn⟩ := Int.eq_ofNat_of_zero_le hb.1
    have c2 := cell_of_one h2
    have c3 : w.cell? ⟨g3, 2, none⟩ = some (.int .i64 (bn : Int)) := by rw [cell_of_row w _ _ _ _ _ h3, ← hbn]; rfl
    rw [hbn] at hi
    have HC := Lib.hid (unite_any cs ps L hR rt of clash on bn w hi h)
    clear h hi hinv ho hold hb hbn hR h2 h3
    go_enter Tryd.func55, Tryd.ntmps55
    go_wp2_with (go_at_call 56; refine (HC.out).mono ?_; rintro e w9 ⟨rfl, ht9, hd9⟩)
    go_end0
    exact ⟨rfl, ht9, hd9⟩
end Go.Proofs.YtepmgnhblegiiaaDoor
