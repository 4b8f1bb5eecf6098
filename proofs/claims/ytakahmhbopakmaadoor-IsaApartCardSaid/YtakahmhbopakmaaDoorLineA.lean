/- address, register, number, memory of package isa: walked. Condition: the library's tables read as the text lays them. -/
import Derived.Test.YtakahmhbopakmaaDoorHexA
import Derived.Test.YtakahmhbopakmaaDoorNamesB
import Derived.Lib.AppendIntMem
import Derived.Lib.ItoaLen
set_option linter.all false
namespace Go.Proofs.YtakahmhbopakmaaDoor
open Go.RowKit

def hexMin (u : Int) : List Int :=
  if u < 16 then [hdI u] else if u < 256 then [hdI (u / 16), hdI (u % 16)]
  else if u < 4096 then [hdI (u / 16 / 16), hdI (u / 16 % 16), hdI (u % 16)] else [hdI (u / 16 / 16 / 16), hdI (u / 16 / 16 % 16), hdI (u / 16 % 16), hdI (u % 16)]
theorem bits16_any (u : Int) (h0 : 0 ≤ u) (h1 : u < 65536) (w : World) (hT : w.cell? ⟨5, 15, none⟩ = some (.int .u8 4)) (hlt : 5 < w.heap.size) :
    Calls Tryd.prog 91 #[.slice none 0 0, .int .u64 u, .int .i64 16, .bool false, .bool false] w fun e w' => e = .returned (.tuple #[.slice none 0 0, .string (strOf (hexMin u))]) ∧ Below w.heap.size w w' := by
  unfold hexMin
  by_cases h2 : u < 16
  · rw [if_pos h2]; exact bits16_1 u h0 h2 w hT hlt
  by_cases h3 : u < 256
  · rw [if_neg h2, if_pos h3]; exact bits16_2 u (by omega) h3 w hT hlt
  by_cases h4 : u < 4096
  · rw [if_neg h2, if_neg h3, if_pos h4]; exact bits16_3 u (by omega) h4 w hT hlt
  · rw [if_neg h2, if_neg h3, if_neg h4]; exact bits16_4 u (by omega) h1 w hT hlt

set_option maxHeartbeats 1000000 in
theorem fmtu_any (u : Int) (h0 : 0 ≤ u) (h1 : u < 65536) (w : World) (hT : w.cell? ⟨5, 15, none⟩ = some (.int .u8 4)) (hlt : 5 < w.heap.size) :
    Calls Tryd.prog 80 #[.int .u64 u, .int .i64 16] w fun e w' => e = .returned (.string (strOf (hexMin u))) ∧ Below w.heap.size w w' := by
  have h := bits16_any u h0 h1 w hT hlt
  have H := Lib.hid h
  clear h hT
  go_enter Tryd.func80, Tryd.ntmps80
  go_wp2_with (go_at_call 91; refine H.out.mono ?_; rintro e w1 ⟨rfl, hb1⟩)
  go_ret
  exact ⟨rfl, hb1⟩
theorem fmtu2_any (u : Int) (h0 : 0 ≤ u) (h1 : u < 65536) (w : World) (hT : w.cell? ⟨5, 15, none⟩ = some (.int .u8 4)) (hlt : 5 < w.heap.size) :
    Calls Tryd.prog 74 #[.int .u64 u, .int .i64 16] w fun e w' => e = .returned (.string (strOf (hexMin u))) ∧ Below w.heap.size w w' := by
  have h := fmtu_any u h0 h1 w hT hlt
  have H := Lib.hid h
  clear h hT
  go_enter Tryd.func74, Tryd.ntmps74
  go_wp2_with (go_at_call 80; refine H.out.mono ?_; rintro e w1 ⟨rfl, hb1⟩)
  go_ret
  exact ⟨rfl, hb1⟩

def addrS (u : Int) : List Int := [48, 120, hdI (u / 16 / 16 / 16), hdI (u / 16 / 16 % 16), hdI (u / 16 % 16), hdI (u % 16)]

theorem addr_str (u : Int) (h0 : 0 ≤ u) (h1 : u < 65536) : strOf (addrS u) = (({ data := #[48, 120] } : ByteArray) ++ { data := (Lib.repeatL [48] (4 - (hexMin u).length)).toArray }) ++ strOf (hexMin u) := by
  have hz : hdI 0 = 48 := rfl
  unfold hexMin addrS
  by_cases h2 : u < 16
  · rw [if_pos h2]
    have a1 : u / 16 / 16 / 16 = 0 := by omega
    have a2 : u / 16 / 16 % 16 = 0 := by omega
    have a3 : u / 16 % 16 = 0 := by omega
    have a4 : u % 16 = u := by omega
    rw [a1, a2, a3, a4, hz]
    apply ByteArray.ext
    simp [strOf, Lib.repeatL, ByteArray.data_append]
  by_cases h3 : u < 256
  · rw [if_neg h2, if_pos h3]
    have a1 : u / 16 / 16 / 16 = 0 := by omega
    have a2 : u / 16 / 16 % 16 = 0 := by omega
    have a3 : u / 16 % 16 = u / 16 := by omega
    rw [a1, a2, a3, hz]
    apply ByteArray.ext
    simp [strOf, Lib.repeatL, ByteArray.data_append]
  by_cases h4 : u < 4096
  · rw [if_neg h2, if_neg h3, if_pos h4]
    have a1 : u / 16 / 16 / 16 = 0 := by omega
    have a2 : u / 16 / 16 % 16 = u / 16 / 16 := by omega
    rw [a1, a2, hz]
    apply ByteArray.ext
    simp [strOf, Lib.repeatL, ByteArray.data_append]
  · rw [if_neg h2, if_neg h3, if_neg h4]
    apply ByteArray.ext
    simp [strOf, Lib.repeatL, ByteArray.data_append]

set_option maxHeartbeats 1000000 in
theorem address_any (u : Int) (h0 : 0 ≤ u) (h1 : u < 65536) (w : World) (hT : w.cell? ⟨5, 15, none⟩ = some (.int .u8 4)) (hlt : 5 < w.heap.size) :
    Calls Tryd.prog 65 #[.int .u16 u] w fun e w' => e = .returned (.string (strOf (addrS u))) ∧ Below w.heap.size w w' := by
  have h := fmtu2_any u h0 h1 w hT hlt
  have H := Lib.hid h
  clear h hT
  have hl : (hexMin u).length ≤ 4 ∧ 1 ≤ (hexMin u).length := by
    unfold hexMin; split; simp; split; simp; split <;> simp
  obtain ⟨hl1, hl0⟩ := hl
  have hsz := strOf_size (hexMin u)
  have hsub : (4 : Int) - ((hexMin u).length : Int) = ((4 - (hexMin u).length : Nat) : Int) := by omega
  have hrl : (Lib.repeatL [48] (4 - (hexMin u).length)).length = 4 - (hexMin u).length := by rw [Lib.repeatL_length]; simp
  have hR := fun W => Tryd.strings_Repeat ⟨#[48]⟩ (4 - (hexMin u).length) W (by omega) (by show 1 * _ ≤ _; omega)
  have HR := Lib.hid hR
  clear hR
  go_enter Tryd.func65, Tryd.ntmps65
  go_wp2_with (first
    | (go_at_call 74; refine H.out.mono ?_; rintro e w1 ⟨rfl, hb1⟩)
    | (go_at_call 75; refine (HR.out _).mono ?_; rintro e w2 ⟨rfl, hb2⟩))
  go_ret
  refine ⟨?_, hb1.trans (hb2.mono hb1.size)⟩
  show Ending.returned (Value.string _) = _
  rw [addr_str u h0 h1]

/-- The library's tables, as far as package isa comes to read them. -/
structure Tabs (w : World) : Prop where
  asc : Lib.TabIs Tryd.prog w "strings.asciiSpace" .u8 Lib.asciiSpaceTab
  pow : Lib.TabIs Tryd.prog w "internal/strconv.uint64pow10" .u64 Lib.pow10Tab
  bru : w.cell? ⟨5, 15, none⟩ = some (.int .u8 4)
theorem gPow : Tryd.prog.globalNamed "internal/strconv.uint64pow10" = some 3 := by kernel_rfl
theorem Tabs.lt {w : World} (h : Tabs w) : 5 < w.heap.size := World.block_lt_of_cell? w _ h.bru
theorem Tabs.stay {w w' : World} (h : Tabs w) (hb : Below w.heap.size w w') : Tabs w' :=
  ⟨Joins.tab_stays gAscii h.asc hb (Nat.le_refl _), Joins.tab_stays gPow h.pow hb (Nat.le_refl _), (hb.cell (p := ⟨5, 15, none⟩) h.lt).trans h.bru⟩

theorem itoa_any (n : Int) (h : i64ok n) (w : World) (hT : Tabs w) :
    Calls Tryd.prog 64 #[.int .i64 n] w fun e w' => e = .returned (.string ⟨(Lib.itoa n).toArray⟩) ∧ Below w.heap.size w w' :=
  (Tryd.strconv_Itoa n h.1 h.2 w hT.pow).mono fun e w' ⟨he, k, os, hw⟩ => ⟨he, by rw [hw]; exact Lib.below_grow _ _ (Nat.le_refl _) _ _⟩

set_option maxHeartbeats 400000 in
theorem register_any (n : Int) (h : i64ok n) (w : World) (hT : Tabs w) :
    Calls Tryd.prog 63 #[.int .i64 n] w fun e w' => e = .returned (.string ⟨(114 :: Lib.itoa n).toArray⟩) ∧ Below w.heap.size w w' := by
  have hI := itoa_any n h w hT
  have hl := Lib.itoa_length_le n h.1 h.2
  have HI := Lib.hid hI
  clear hI hT
  go_enter Tryd.func63, Tryd.ntmps63
  go_wp2_with (go_at_call 64; refine HI.out.mono ?_; rintro e w1 ⟨rfl, hb1⟩)
  go_ret
  refine ⟨?_, hb1⟩
  rw [show (114 :: Lib.itoa n) = [114] ++ Lib.itoa n from rfl, ← ByteArray.mk_append_mk]
  rfl

def sgnI (n : Int) : Int := if n < 32768 then n else n - 65536
set_option maxHeartbeats 400000 in
theorem number_any (n : Int) (h0 : 0 ≤ n) (h1 : n < 65536) (w : World) (hT : Tabs w) :
    Calls Tryd.prog 66 #[.int .u16 n] w fun e w' => e = .returned (.string ⟨(Lib.itoa (sgnI n)).toArray⟩) ∧ Below w.heap.size w w' := by
  have hI := itoa_any (sgnI n) (by unfold sgnI i64ok; split <;> omega) w hT
  have hw16 : IntKind.i16.wrap n = sgnI n := by unfold sgnI IntKind.wrap; simp [IntKind.bits, IntKind.signed]; split <;> split <;> omega
  have hw64 : IntKind.i64.wrap (sgnI n) = sgnI n := IntWalk.i64_in _ (by unfold sgnI; split <;> omega)
  have HI := Lib.hid hI
  clear hI hT
  go_enter Tryd.func66, Tryd.ntmps66
  go_wp2_with (go_at_call 64; refine HI.out.mono ?_; rintro e w1 ⟨rfl, hb1⟩)
  go_ret
  exact ⟨rfl, hb1⟩

end Go.Proofs.YtakahmhbopakmaaDoor
