/- names of package isa: the map of mnemonics, walked. Condition: the library's table of blanks reads as the text lays it. -/
import Derived.Test.YtakahmhbopakmaaDoorIsaI
import Derived.Test.YtakahmhbopakmaaDoorShelf
import Derived.Maps.Own
import Derived.Maps.StringElems
import Derived.Maps.Views
set_option linter.all false
namespace Go.Proofs.YtakahmhbopakmaaDoor
open Go.RowKit Go.Maps

theorem lawInt : Keyed Tryd.prog 3 := int_keyed Tryd.underlying3
def putAll (D : DataW Unit) : Int → List (List UInt8) → DataW Unit
  | _, [] => D
  | k, s :: l => putAll (D.put (.int .i64 k) (.lit (.string s))) (k + 1) l
theorem putAll_snoc (D : DataW Unit) (k : Int) (l : List (List UInt8)) (s : List UInt8) : putAll D k (l ++ [s]) = (putAll D k l).put (.int .i64 (k + l.length)) (.lit (.string s)) := by
  induction l generalizing D k with
  | nil => simp [putAll]
  | cons x l ih => simp only [List.cons_append, putAll]; rw [ih]; congr 2; simp; omega

def ListPost (D : DataW Unit) (b n : Nat) (k : Int) (l : List (List UInt8)) (w : World) (e : Ending) (w' : World) : Prop :=
  e = .returned (.tuple #[]) ∧ w'.ownsMap Tryd.prog 3 (plainElem Tryd.prog 9) b (n + l.length) (putAll D k l) ∧ w.grownBy w' (some b)

set_option maxHeartbeats 1000000 in
theorem list_any (k : Int) (k0 : 0 ≤ k) (k1 : k ≤ 1000) (s : ByteArray) (hs : s.size < 1000) (hascii : ∀ (j : Nat) b, s.data.toList[j]? = some b → b.toNat < 128) (g1 b n : Nat) (D : DataW Unit) (w : World) (hn : n ≤ 1000)
    (hl : (Lib.fields s.data.toList).length ≤ 1000) (hw : ∀ x ∈ Lib.fields s.data.toList, x.length ≤ 1000)
    (htab : Lib.TabIs Tryd.prog w "strings.asciiSpace" .u8 Lib.asciiSpaceTab) (hg1 : w.cell? ⟨g1, 0, none⟩ = some (.map (some b))) (hne : g1 ≠ b) (hown : w.ownsMap Tryd.prog 3 (plainElem Tryd.prog 9) b n D) :
    Calls Tryd.prog 61 #[.int .i64 k, .string s, .pointer (some ⟨g1, 0, none⟩)] w (ListPost D b n k (Lib.fields s.data.toList) w) := by
  have hF := Tryd.strings_Fields s w (by omega) hascii htab
  have HF := Lib.hid hF
  have HOWN := Lib.hid hown
  clear hF hown htab
  generalize Lib.fields s.data.toList = l at *
  go_enter Tryd.func61, Tryd.ntmps61
  go_wp2_with (first
    | (go_at_call 62; refine HF.out.mono ?_; rintro e w1 ⟨rfl, hw1⟩))
  have hlt : b < w.heap.size := HOWN.out.lt
  have hg1lt := World.block_lt_of_cell? w _ hg1
  have hc0 : ∀ j, (w.alloc (Obj.cells (List.map (fun l => Value.string { data := l.toArray }) l).toArray 9)).cell? ⟨w.heap.size, j, none⟩ = (l.map (fun l => Value.string { data := l.toArray }))[j]? := fun j => by
    rw [cell_of_row _ _ _ _ _ _ (heap_alloc_new w _)]; simp
  have hc1 : (w.alloc (Obj.cells (List.map (fun l => Value.string { data := l.toArray }) l).toArray 9)).cell? ⟨g1, 0, none⟩ = some (.map (some b)) := (World.cell?_alloc_lt _ _ _ hg1lt).trans hg1
  have hgr : w.grownBy (w.alloc (Obj.cells (List.map (fun l => Value.string { data := l.toArray }) l).toArray 9)) (some b) := World.grownBy_alloc w _ _
  have hown0 := HOWN.out.alloc (Obj.cells (List.map (fun l => Value.string { data := l.toArray }) l).toArray 9)
  have hsz0 : w.heap.size < (w.alloc (Obj.cells (List.map (fun l => Value.string { data := l.toArray }) l).toArray 9)).heap.size := by simp
  generalize w.alloc (Obj.cells (List.map (fun l => Value.string { data := l.toArray }) l).toArray 9) = w0 at *
  have HOWN0 := Lib.hid hown0
  have HC0 := Lib.hid hc0
  have HC1 := Lib.hid hc1
  clear hown0 hg1 hc0 hc1 HOWN HF
  go_loopw [10] (fun x wr => ∃ j : Nat, j ≤ l.length ∧ x = .int .i64 j ∧ wr.ownsMap Tryd.prog 3 (plainElem Tryd.prog 9) b (n + j) (putAll D k (l.take j)) ∧ w0.grownBy wr (some b)) (fun x _ => l.length - (intOf x).toNat)
  case atStart => exact ⟨0, Nat.zero_le _, rfl, by simpa [putAll] using HOWN0.out, ⟨rfl, rfl, rfl, Nat.le_refl _, fun _ _ _ => rfl⟩⟩
  case round =>
    obtain ⟨j, hj, rfl, hown, hg⟩ := hrel
    clear HOWN0
    have HOWN := Lib.hid hown
    clear hown
    by_cases hjl : j < l.length
    · have hcm : wr.cell? ⟨g1, 0, none⟩ = some (.map (some b)) := (World.cell?_of_block (w := w0) (hg.block g1 (Nat.lt_trans hg1lt hsz0) (by simpa using hne))).trans HC1.out
      have hcs : wr.cell? ⟨w.heap.size, j, none⟩ = some (.string ⟨l[j].toArray⟩) := (World.cell?_of_block (w := w0) (hg.block w.heap.size hsz0 (by simp; omega))).trans ((HC0.out j).trans (by simp [hjl]))
      have hkey : keyOf Tryd.prog 3 (.int .i64 (k + j)) = some (.int .i64 (k + j)) := keyOf_int_mk Tryd.underlying3 (WalkArith.wf_i64 (by omega))
      have hlen : l[j].length ≤ 1000 := hw _ (List.getElem_mem hjl)
      have hval : plainElem (H := Unit) Tryd.prog 9 (.string ⟨l[j].toArray⟩) = some (.lit (.string l[j]), []) := plainElem_string Tryd.underlying9 (by show l[j].toArray.size ≤ maxLen; simp; unfold maxLen; omega)
      have HKEY := Lib.hid hkey
      have HVAL := Lib.hid hval
      clear hkey hval
      go_wp2_with (at_mapUpdate; refine wpList_mapUpdate_own _ rfl _ _ _ _ rfl 3 9 lawInt Tryd.underlying74 _ b (n + j) _ rfl HOWN.out ?_ _ _ _ rfl rfl HKEY.out _ [] HVAL.out ?_; (unfold maxLen; omega); intro w2 hown2 hg2; have HOWN2 := Lib.hid hown2; clear hown2)
      go_roundw
      case rel => exact ⟨j + 1, by omega, by go_num, (by rw [List.take_succ_eq_append_getElem hjl, putAll_snoc, List.length_take, Nat.min_eq_left (Nat.le_of_lt hjl)]; exact HOWN2.out), hg.trans hg2⟩
      case measure => simp [intOf]; omega
    · have ej : j = l.length := by omega
      subst ej
      go_wp2
      go_end0
      exact ⟨rfl, by simpa using HOWN.out, hgr.trans hg⟩

end Go.Proofs.YtakahmhbopakmaaDoor
