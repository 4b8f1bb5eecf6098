/- names of package isa: the whole map of mnemonics, walked. Condition: the library's table of blanks reads as the text lays it. -/
import Derived.Test.YtakahmhbopakmaaDoorNamesA
import Derived.Lib.SmallJoins
set_option linter.all false
namespace Go.Proofs.YtakahmhbopakmaaDoor
open Go.RowKit Go.Maps

theorem gAscii : Tryd.prog.globalNamed "strings.asciiSpace" = some 0 := by kernel_rfl

/-- What the walk of names hands from one call of its closure to the next. -/
structure NRel (w0 : World) (n : Nat) (D : DataW Unit) (w : World) : Prop where
  own : w.ownsMap Tryd.prog 3 (plainElem Tryd.prog 9) w0.heap.size n D
  cell : w.cell? ⟨w0.heap.size + 1, 0, none⟩ = some (.map (some w0.heap.size))
  hb : Below w0.heap.size w0 w
  tab : Lib.TabIs Tryd.prog w "strings.asciiSpace" .u8 Lib.asciiSpaceTab
  sz : w0.heap.size + 1 < w.heap.size

def wordsOk (l : List UInt8) (ws : List (List UInt8)) : Bool := decide (l.length < 1000) && l.all (fun b => decide (b.toNat < 128)) && decide (Lib.fields l = ws) && decide (ws.length ≤ 1000) && ws.all (fun x => decide (x.length ≤ 1000))
theorem list_stage (k : Int) (k0 : 0 ≤ k) (k1 : k ≤ 1000) (l : List UInt8) (ws : List (List UInt8)) (h : wordsOk l ws = true) (w0 w : World) (n : Nat) (hn : n ≤ 1000) (D : DataW Unit)
    (htab0 : Lib.TabIs Tryd.prog w0 "strings.asciiSpace" .u8 Lib.asciiSpaceTab) (N : NRel w0 n D w) :
    Calls Tryd.prog 61 #[.int .i64 k, .string ⟨l.toArray⟩, .pointer (some ⟨w0.heap.size + 1, 0, none⟩)] w fun e w' => e = .returned (.tuple #[]) ∧ NRel w0 (n + ws.length) (putAll D k ws) w' := by
  unfold wordsOk at h
  simp only [Bool.and_eq_true, decide_eq_true_eq, List.all_eq_true] at h
  obtain ⟨⟨⟨⟨h1, h2⟩, h3⟩, h4⟩, h5⟩ := h
  have hF : Lib.fields (⟨l.toArray⟩ : ByteArray).data.toList = ws := h3
  have hc := list_any k k0 k1 ⟨l.toArray⟩ (by show l.toArray.size < 1000; simpa using h1) (fun j b hj => h2 b (List.mem_of_getElem? (by simpa using hj))) (w0.heap.size + 1) w0.heap.size n D w hn
    (by rw [hF]; exact h4) (by rw [hF]; exact h5) N.tab N.cell (by omega) N.own
  refine hc.mono fun e w' ⟨he, hown, hg⟩ => ?_
  rw [hF] at hown
  have hb' : Below w0.heap.size w0 w' := N.hb.grown hg N.hb.size (fun k hk => by cases hk; exact Nat.le_refl _)
  refine ⟨he, hown, ?_, hb', ?_, by have := hg.size; have := N.sz; omega⟩
  · rw [World.cell?_of_block (w := w) (hg.block (w0.heap.size + 1) N.sz (by simp))]; exact N.cell
  · exact Joins.tab_stays gAscii htab0 hb' (Nat.le_refl _)

def words0 : List (List UInt8) := [[110, 111, 112], [114, 101, 116], [104, 108, 116], [105, 114, 101, 116], [112, 111, 108, 108], [108, 101, 97, 118, 101]]
def words1 : List (List UInt8) := [[112, 117, 115, 104], [112, 111, 112], [110, 101, 103], [110, 111, 116], [101, 110, 116, 101, 114], [100, 114, 111, 112]]
def words2 : List (List UInt8) := [[109, 111, 118], [97, 100, 100], [97, 100, 99], [115, 117, 98], [115, 98, 98], [97, 110, 100], [111, 114], [120, 111, 114], [99, 109, 112], [116, 115, 116], [109, 117, 108], [100, 105, 118], [115, 104, 108], [115, 104, 114], [115, 97, 114]]
def words3 : List (List UInt8) := [[109, 111, 118], [97, 100, 100], [97, 100, 99], [115, 117, 98], [115, 98, 98], [97, 110, 100], [111, 114], [120, 111, 114], [99, 109, 112], [116, 115, 116], [109, 117, 108], [100, 105, 118], [115, 104, 108], [115, 104, 114], [115, 97, 114]]
def words4 : List (List UInt8) := [[109, 111, 118], [97, 100, 100], [97, 100, 99], [115, 117, 98], [115, 98, 98], [97, 110, 100], [111, 114], [120, 111, 114], [99, 109, 112], [116, 115, 116], [109, 117, 108], [100, 105, 118], [115, 104, 108], [115, 104, 114], [115, 97, 114]]
def words5 : List (List UInt8) := [[108, 100], [108, 100, 98], [115, 116], [115, 116, 98], [108, 100, 97], [108, 100, 97, 98], [115, 116, 97], [115, 116, 97, 98], [108, 100], [108, 100, 98], [115, 116], [115, 116, 98]]
def words6 : List (List UInt8) := [[106, 101, 113], [106, 110, 101], [106, 99, 115], [106, 99, 99], [106, 109, 105], [106, 112, 108], [106, 118, 115], [106, 118, 99], [106, 104, 105], [106, 108, 115], [106, 103, 101], [106, 108, 116], [106, 103, 116], [106, 108, 101]]
def words7 : List (List UInt8) := [[106, 101, 113], [106, 110, 101], [106, 99, 115], [106, 99, 99], [106, 109, 105], [106, 112, 108], [106, 118, 115], [106, 118, 99], [106, 104, 105], [106, 108, 115], [106, 103, 101], [106, 108, 116], [106, 103, 116], [106, 108, 101]]
def words8 : List (List UInt8) := [[106, 109, 112], [106, 109, 112, 119], [99, 97, 108, 108], [106, 109, 112, 102], [99, 97, 108, 108, 102], [106, 116, 97, 98], [106, 109, 112, 105]]
def words9 : List (List UInt8) := [[105, 110], [111, 117, 116], [108, 100, 99], [108, 100, 99, 98]]
def words10 : List (List UInt8) := [[115, 116, 105]]
def words11 : List (List UInt8) := [[108, 100, 115], [115, 116, 115], [108, 100, 102], [115, 116, 102]]
def namesD : DataW Unit := putAll (putAll (putAll (putAll (putAll (putAll (putAll (putAll (putAll (putAll (putAll (putAll ((DataW.map [])) 0 words0) 16 words1) 32 words2) 48 words3) 64 words4) 80 words5) 96 words6) 112 words7) 128 words8) 144 words9) 150 words10) 160 words11

def NamesPost (w : World) (e : Ending) (w' : World) : Prop :=
  e = .returned (.map (some w.heap.size)) ∧ w'.ownsMap Tryd.prog 3 (plainElem Tryd.prog 9) w.heap.size 113 namesD ∧ Below w.heap.size w w'

set_option maxRecDepth 100000 in
set_option maxHeartbeats 2000000 in
theorem names_any (w : World) (htab : Lib.TabIs Tryd.prog w "strings.asciiSpace" .u8 Lib.asciiSpaceTab) :
    Calls Tryd.prog 46 #[] w (NamesPost w) := by
  have hmm := @run_makeMap Tryd.prog
  have HT := Lib.hid htab
  clear htab
  have hN0 : NRel w 0 (.map []) ((w.alloc (.map #[] 0)).alloc (.cells #[.map (some w.heap.size)] 74)) :=
    ⟨(World.ownsMap_made w _ _ _).alloc _, cell_of_row _ _ _ _ _ _ (heap_alloc2_new _ _ _), ((Below.refl _ _).alloc (Nat.le_refl _) _).alloc (by simp) _,
      Joins.tab_stays gAscii HT.out (((Below.refl _ _).alloc (Nat.le_refl _) _).alloc (by simp) _) (Nat.le_refl _), by simp⟩
  have HN0 := Lib.hid hN0
  clear hN0
  go_enter Tryd.func46, Tryd.ntmps46
  go_wp2_with fail
  refine (list_stage 0 (by omega) (by omega) [110, 111, 112, 32, 114, 101, 116, 32, 104, 108, 116, 32, 105, 114, 101, 116, 32, 112, 111, 108, 108, 32, 108, 101, 97, 118, 101] words0 (by decide +kernel) w _ 0 (by omega) _ HT.out HN0.out).mono ?_
  rintro e w1 ⟨rfl, hN1⟩
  have HN1 := Lib.hid hN1
  clear hN1 HN0
  go_wp2_with fail
  refine (list_stage 16 (by omega) (by omega) [112, 117, 115, 104, 32, 112, 111, 112, 32, 110, 101, 103, 32, 110, 111, 116, 32, 101, 110, 116, 101, 114, 32, 100, 114, 111, 112] words1 (by decide +kernel) w _ 6 (by omega) _ HT.out HN1.out).mono ?_
  rintro e w2 ⟨rfl, hN2⟩
  have HN2 := Lib.hid hN2
  clear hN2 HN1
  go_wp2_with fail
  refine (list_stage 32 (by omega) (by omega) [109, 111, 118, 32, 97, 100, 100, 32, 97, 100, 99, 32, 115, 117, 98, 32, 115, 98, 98, 32, 97, 110, 100, 32, 111, 114, 32, 120, 111, 114, 32, 99, 109, 112, 32, 116, 115, 116, 32, 109, 117, 108, 32, 100, 105, 118, 32, 115, 104, 108, 32, 115, 104, 114, 32, 115, 97, 114] words2 (by decide +kernel) w _ 12 (by omega) _ HT.out HN2.out).mono ?_
  rintro e w3 ⟨rfl, hN3⟩
  have HN3 := Lib.hid hN3
  clear hN3 HN2
  go_wp2_with fail
  refine (list_stage 48 (by omega) (by omega) [109, 111, 118, 32, 97, 100, 100, 32, 97, 100, 99, 32, 115, 117, 98, 32, 115, 98, 98, 32, 97, 110, 100, 32, 111, 114, 32, 120, 111, 114, 32, 99, 109, 112, 32, 116, 115, 116, 32, 109, 117, 108, 32, 100, 105, 118, 32, 115, 104, 108, 32, 115, 104, 114, 32, 115, 97, 114] words3 (by decide +kernel) w _ 27 (by omega) _ HT.out HN3.out).mono ?_
  rintro e w4 ⟨rfl, hN4⟩
  have HN4 := Lib.hid hN4
  clear hN4 HN3
  go_wp2_with fail
  refine (list_stage 64 (by omega) (by omega) [109, 111, 118, 32, 97, 100, 100, 32, 97, 100, 99, 32, 115, 117, 98, 32, 115, 98, 98, 32, 97, 110, 100, 32, 111, 114, 32, 120, 111, 114, 32, 99, 109, 112, 32, 116, 115, 116, 32, 109, 117, 108, 32, 100, 105, 118, 32, 115, 104, 108, 32, 115, 104, 114, 32, 115, 97, 114] words4 (by decide +kernel) w _ 42 (by omega) _ HT.out HN4.out).mono ?_
  rintro e w5 ⟨rfl, hN5⟩
  have HN5 := Lib.hid hN5
  clear hN5 HN4
  go_wp2_with fail
  refine (list_stage 80 (by omega) (by omega) [108, 100, 32, 108, 100, 98, 32, 115, 116, 32, 115, 116, 98, 32, 108, 100, 97, 32, 108, 100, 97, 98, 32, 115, 116, 97, 32, 115, 116, 97, 98, 32, 108, 100, 32, 108, 100, 98, 32, 115, 116, 32, 115, 116, 98] words5 (by decide +kernel) w _ 57 (by omega) _ HT.out HN5.out).mono ?_
  rintro e w6 ⟨rfl, hN6⟩
  have HN6 := Lib.hid hN6
  clear hN6 HN5
  go_wp2_with fail
  refine (list_stage 96 (by omega) (by omega) [106, 101, 113, 32, 106, 110, 101, 32, 106, 99, 115, 32, 106, 99, 99, 32, 106, 109, 105, 32, 106, 112, 108, 32, 106, 118, 115, 32, 106, 118, 99, 32, 106, 104, 105, 32, 106, 108, 115, 32, 106, 103, 101, 32, 106, 108, 116, 32, 106, 103, 116, 32, 106, 108, 101] words6 (by decide +kernel) w _ 69 (by omega) _ HT.out HN6.out).mono ?_
  rintro e w7 ⟨rfl, hN7⟩
  have HN7 := Lib.hid hN7
  clear hN7 HN6
  go_wp2_with fail
  refine (list_stage 112 (by omega) (by omega) [106, 101, 113, 32, 106, 110, 101, 32, 106, 99, 115, 32, 106, 99, 99, 32, 106, 109, 105, 32, 106, 112, 108, 32, 106, 118, 115, 32, 106, 118, 99, 32, 106, 104, 105, 32, 106, 108, 115, 32, 106, 103, 101, 32, 106, 108, 116, 32, 106, 103, 116, 32, 106, 108, 101] words7 (by decide +kernel) w _ 83 (by omega) _ HT.out HN7.out).mono ?_
  rintro e w8 ⟨rfl, hN8⟩
  have HN8 := Lib.hid hN8
  clear hN8 HN7
  go_wp2_with fail
  refine (list_stage 128 (by omega) (by omega) [106, 109, 112, 32, 106, 109, 112, 119, 32, 99, 97, 108, 108, 32, 106, 109, 112, 102, 32, 99, 97, 108, 108, 102, 32, 106, 116, 97, 98, 32, 106, 109, 112, 105] words8 (by decide +kernel) w _ 97 (by omega) _ HT.out HN8.out).mono ?_
  rintro e w9 ⟨rfl, hN9⟩
  have HN9 := Lib.hid hN9
  clear hN9 HN8
  go_wp2_with fail
  refine (list_stage 144 (by omega) (by omega) [105, 110, 32, 111, 117, 116, 32, 108, 100, 99, 32, 108, 100, 99, 98] words9 (by decide +kernel) w _ 104 (by omega) _ HT.out HN9.out).mono ?_
  rintro e w10 ⟨rfl, hN10⟩
  have HN10 := Lib.hid hN10
  clear hN10 HN9
  go_wp2_with fail
  refine (list_stage 150 (by omega) (by omega) [115, 116, 105] words10 (by decide +kernel) w _ 108 (by omega) _ HT.out HN10.out).mono ?_
  rintro e w11 ⟨rfl, hN11⟩
  have HN11 := Lib.hid hN11
  clear hN11 HN10
  go_wp2_with fail
  refine (list_stage 160 (by omega) (by omega) [108, 100, 115, 32, 115, 116, 115, 32, 108, 100, 102, 32, 115, 116, 102] words11 (by decide +kernel) w _ 109 (by omega) _ HT.out HN11.out).mono ?_
  rintro e w12 ⟨rfl, hN12⟩
  have HN12 := Lib.hid hN12
  clear hN12 HN11
  have hcell := HN12.out.cell
  go_wp2
  go_ret
  exact ⟨rfl, HN12.out.own, HN12.out.hb⟩

end Go.Proofs.YtakahmhbopakmaaDoor
