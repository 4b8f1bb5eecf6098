/- Decimal, Signed, Address of the reference: walked. Condition: the number is not negative. -/
import Derived.Test.YtepmgnhblegiiaaDoorLaws
import Derived.Lib.AppendIntMem
import Derived.Lib.ItoaLen
import Derived.Lib.ItoaMem
import Derived.Deep.DeepCutAuto
import Derived.Test.YtepmgnhblegiiaaDoorOwnX
import Derived.Lib.Join
import Derived.Lib.SmallJoins
import Derived.Test.YtepmgnhblegiiaaDoorShelf
set_option linter.all false
namespace Go.Proofs.YtepmgnhblegiiaaDoor
open Go.RowKit

/-- The decimal digits as numbers. -/
def digI (n : Nat) : List Int := (Lib.decDigits n).map fun b => (b.toNat : Int)
theorem strOf_dec (n : Nat) : strOf (digI n) = ⟨(Lib.decDigits n).toArray⟩ := by
  unfold strOf digI
  rw [List.map_map]
  congr 2
  have : ((fun n : Int => UInt8.ofNat n.toNat) ∘ fun b : UInt8 => (b.toNat : Int)) = id := by funext b; simp
  rw [this, List.map_id]
theorem strOf_app (a b : List Int) : strOf (a ++ b) = strOf a ++ strOf b := by
  apply ByteArray.ext
  simp [strOf]
theorem digI_small (n : Nat) (h : n < 10) : digI n = [48 + (n : Int) % 10] := by
  unfold digI
  rw [Lib.decDigits, dif_pos h]
  simp only [List.map_cons, List.map_nil, UInt8.toNat_ofNat']
  congr 1
  omega
theorem digI_big (n : Nat) (h : ¬ n < 10) : digI n = digI (n / 10) ++ [48 + (n : Int) % 10] := by
  unfold digI
  rw [Lib.decDigits, dif_neg h, List.map_append]
  simp only [List.map_cons, List.map_nil, UInt8.toNat_ofNat']
  congr 2
  omega
theorem digI_len (n : Nat) (h : n ≤ 9223372036854775807) : (digI n).length ≤ 21 := by
  have := Lib.itoa_length_le (n : Int) (by omega) (by omega)
  rw [Lib.itoa_nonneg] at this
  simpa [digI] using this

theorem conv1 (c : Int) (W : World) : (convert 76 9 (.slice (some ⟨W.heap.size, 0, none⟩) 1 1)).run Tryd.prog (W.alloc (.cells #[.int .u8 c] 5)) = .ok (.string (strOf [c])) (W.alloc (.cells #[.int .u8 c] 5)) :=
  run_conv_row (P := Tryd.prog) (W.alloc (.cells #[.int .u8 c] 5)) 76 9 5 Tryd.underlying76 Tryd.underlying5 Tryd.underlying9 _ 1 W.heap.size [c] (World.ownsRow_lit (base := W.heap.size) (size := 1) (e := 5) W #[.int .u8 c] 1 (Nat.le_refl _) (by decide) rfl)

set_option maxRecDepth 100000 in
set_option maxHeartbeats 1000000 in
theorem decimal_any (n : Nat) (hn : n ≤ 9223372036854775807) (w : World) :
    Calls Tryd.prog 50 #[.int .i64 n] w fun e w' => e = .returned (.string (strOf (digI n))) ∧ Below w.heap.size w w' := by
  have HL := Lib.hid (digI_len n hn)
  go_enter Tryd.func50, Tryd.ntmps50
  have hcv := conv1 (48 + (n : Int) % 10)
  go_upto_block 0 with fail
  clear hcv
  go_wp2_with fail
  go_loopw [0, 3] (fun s0 s3 wr => ∃ (m : Nat) (acc : List Int), s0 = .int .i64 m ∧ m ≤ n ∧ s3 = .string (strOf ((48 + (m : Int) % 10) :: acc)) ∧ Hid (digI n = digI m ++ acc) ∧ Hid (Below w.heap.size w wr)) (fun s0 _ _ => (intOf s0).toNat)
  case atStart => exact ⟨n, [], rfl, Nat.le_refl _, rfl, Lib.hid (by simp), Lib.hid ((Below.refl _ _).alloc (Nat.le_refl _) _)⟩
  case round =>
    obtain ⟨m, acc, rfl, hm, rfl, HE, HB⟩ := hrel
    have hlen : acc.length ≤ 21 := by
      have := congrArg List.length HE.out
      rw [List.length_append] at this
      have := HL.out
      omega
    by_cases h10 : m < 10
    · go_wp2_with fail
      go_ret
      refine ⟨?_, HB.out⟩
      rw [HE.out, digI_small m h10]; rfl
    · have hcv := conv1 (48 + (m : Int) / 10 % 10)
      have z1 : (strOf [48 + (m : Int) / 10 % 10]).size ≤ 1 := by rw [strOf_size]; simp
      have z2 : (strOf ((48 + (m : Int) % 10) :: acc)).size ≤ 30 := by rw [strOf_size]; simp; omega
      have HC := Lib.hid (strOf_app [48 + (m : Int) / 10 % 10] ((48 + (m : Int) % 10) :: acc))
      have HE2 := Lib.hid (digI_big m h10)
      go_wp2_with fail
      go_roundw
      case rel => exact ⟨m / 10, (48 + (m : Int) % 10) :: acc, by rw [Int.natCast_ediv]; rfl, by omega, by rw [← HC.out, Int.natCast_ediv]; rfl, Lib.hid (by rw [HE.out, HE2.out, List.append_assoc]; rfl), Lib.hid (HB.out.alloc HB.out.size _)⟩
      case measure => simp [intOf]; omega

end Go.Proofs.YtepmgnhblegiiaaDoor

/- The text of a class: what both Print's answer; numbers as text. Condition: the table of powers of ten reads as the text lays it. -/
namespace Go.Proofs.YtepmgnhblegiiaaDoor
open Go Go.RowKit Go.Maps

theorem gPow : Tryd.prog.globalNamed "internal/strconv.uint64pow10" = some 0 := by kernel_rfl
/-- The table of powers of ten. -/
def TabP (w : World) : Prop := Lib.TabIs Tryd.prog w "internal/strconv.uint64pow10" .u64 Lib.pow10Tab
theorem TabP.stay {w w' : World} (h : TabP w) (hb : Below w.heap.size w w') : TabP w' := Joins.tab_stays gPow h hb (Nat.le_refl _)
theorem TabP.turn {w w' : World} (h : TabP w) (t : Turn (fun _ => False) w w') : TabP w' := h.stay (t.toBelow (Nat.le_refl _) (fun _ h => h.elim))
def strB (l : List UInt8) : ByteArray := ⟨l.toArray⟩
theorem strB_app (x y : List UInt8) : strB x ++ strB y = strB (x ++ y) := by
  apply ByteArray.ext
  simp [strB]
theorem strB_size (l : List UInt8) : (strB l).size = l.length := by simp [strB, ByteArray.size]
def n64 (n : Int) : Prop := -9223372036854775808 < n ∧ n ≤ 9223372036854775807
theorem itoa_any (n : Int) (h : n64 n) (w : World) (hT : TabP w) : Calls Tryd.prog 32 #[.int .i64 n] w fun e w' => e = .returned (.string (strB (Lib.itoa n))) ∧ Below w.heap.size w w' :=
  (Tryd.strconv_Itoa n (by unfold n64 at h; omega) h.2 w hT).mono fun e w' ⟨he, k, os, hw⟩ => ⟨he, by rw [hw]; exact Lib.below_grow _ _ (Nat.le_refl _) _ _⟩
theorem itoa_len (n : Int) (h : n64 n) : (Lib.itoa n).length ≤ 21 := Lib.itoa_length_le n (by unfold n64 at h; omega) h.2
theorem rdecimal_any (n : Int) (h : n64 n) (w : World) : Calls Tryd.prog 34 #[.int .i64 n] w fun e w' => e = .returned (.string (strB (Lib.itoa n))) ∧ Below w.heap.size w w' := by
  unfold n64 at h
  by_cases hn : n < 0
  · obtain ⟨u, hu⟩ : ∃ u : Nat, n = -(u : Int) := ⟨n.natAbs, by omega⟩
    subst hu
    have h1 : 1 ≤ u := by omega
    have h2 := Lib.itoa_length_le (-(u : Int)) (by omega) (by omega)
    have hd := fun W => decimal_any u (by omega) W
    simp only [strOf_dec] at hd
    obtain ⟨s, hs⟩ : ∃ s : ByteArray, (⟨(Lib.decDigits u).toArray⟩ : ByteArray) = s := ⟨_, rfl⟩
    have hsz : s.size ≤ 21 := by
      rw [← hs]; rw [Lib.itoa_neg u h1] at h2; simp [ByteArray.size] at h2 ⊢; omega
    rw [hs] at hd
    have HD := Lib.hid hd
    have HS := Lib.hid hs
    clear hd hs h2
    go_enter Tryd.func34, Tryd.ntmps34
    go_wp2_with (go_at_call 50; refine (HD.out _).mono ?_; rintro e w1 ⟨rfl, hb1⟩)
    go_ret
    refine ⟨?_, hb1⟩
    rw [Lib.itoa_neg u h1, ← HS.out]
    exact congrArg (fun x => Ending.returned (Value.string x)) (strB_app [45] (Lib.decDigits u))
  · obtain ⟨u, rfl⟩ : ∃ u : Nat, n = u := ⟨n.toNat, by omega⟩
    have hd := fun W => decimal_any u (by omega) W
    simp only [strOf_dec] at hd
    have HD := Lib.hid hd
    clear hd
    go_enter Tryd.func34, Tryd.ntmps34
    go_wp2_with (go_at_call 50; refine (HD.out _).mono ?_; rintro e w1 ⟨rfl, hb1⟩)
    go_ret
    refine ⟨?_, hb1⟩
    rw [Lib.itoa_nonneg]; rfl

def memB (p : Int × Int) : List UInt8 := Lib.itoa p.1 ++ [58, 32, 99] ++ Lib.itoa p.2
def memsB (l : List (Int × Int)) : List UInt8 := Lib.join (l.map memB) [44, 32]
def bodyB (r : Row) : List UInt8 :=
  if r.fields ≠ [] then [123] ++ memsB r.fields ++ [125] else if r.elem ≠ -1 then [91] ++ Lib.itoa r.count ++ [93, 99] ++ Lib.itoa r.elem else if r.sign = 3 then [115] else if r.sign = 4 then [117] else [63]
def rowT (r : Row) : List UInt8 := if r.ptr ≠ -1 then [42, 99] ++ Lib.itoa r.ptr else if r.size ≠ 0 then bodyB r ++ ([58] ++ Lib.itoa r.size) else bodyB r
def printB (rows : List Row) (i : Int) : List UInt8 := if i < 0 then [] else match rows[i.toNat]? with | some r => rowT r | none => []
structure RowN (r : Row) : Prop where
  cls : n64 r.cls
  size : n64 r.size
  sign : n64 r.sign
  ptr : n64 r.ptr
  elem : n64 r.elem
  count : n64 r.count
  flds : ∀ q ∈ r.fields, n64 q.1 ∧ n64 q.2
theorem memB_len (p : Int × Int) (h : n64 p.1 ∧ n64 p.2) : (memB p).length ≤ 45 := by
  have := itoa_len _ h.1
  have := itoa_len _ h.2
  simp [memB]; omega
/-- Texts with a comma between. -/
theorem join_snoc (l : List (List UInt8)) (x sep : List UInt8) : Lib.join (l ++ [x]) sep = if l = [] then x else Lib.join l sep ++ (sep ++ x) := by
  unfold Lib.join
  induction l with
  | nil => simp [List.intercalate, List.intersperse]
  | cons y l ih =>
    cases l with
    | nil => simp [List.intercalate, List.intersperse]
    | cons z l =>
      have e1 : sep.intercalate (y :: z :: l) = y ++ (sep ++ sep.intercalate (z :: l)) := by simp [List.intercalate, List.intersperse]
      have e2 : sep.intercalate (y :: z :: l ++ [x]) = y ++ (sep ++ sep.intercalate (z :: l ++ [x])) := by simp [List.intercalate, List.intersperse]
      rw [e2, ih, if_neg (by simp), if_neg (by simp), e1]
      simp [List.append_assoc]
theorem memsB_len : ∀ (l : List (Int × Int)), (∀ q ∈ l, n64 q.1 ∧ n64 q.2) → (memsB l).length ≤ l.length * 47
  | l, h => by
    have key : ∀ (m : List (Int × Int)), (∀ q ∈ m, n64 q.1 ∧ n64 q.2) → ∀ k, k ≤ m.length → (memsB (m.take k)).length ≤ k * 47 := fun m hm k => by
      induction k with
      | zero => intro _; simp [memsB, Lib.join, List.intercalate]
      | succ k ih =>
        intro hk
        have h1 := ih (by omega)
        have e : m.take (k + 1) = m.take k ++ [m[k]] := List.take_succ_eq_append_getElem (by omega)
        rw [e]
        unfold memsB
        rw [List.map_append, List.map_cons, List.map_nil, join_snoc]
        have h2 := memB_len m[k] (hm _ (List.getElem_mem _))
        split
        · omega
        · unfold memsB at h1
          simp only [List.length_append, List.length_cons, List.length_nil]; omega
    have := key l h l.length (Nat.le_refl _)
    rwa [List.take_length] at this
theorem memsB_snoc (l : List (Int × Int)) (p : Int × Int) : memsB (l ++ [p]) = if l = [] then memB p else memsB l ++ ([44, 32] ++ memB p) := by
  unfold memsB
  rw [List.map_append, List.map_cons, List.map_nil, join_snoc]
  simp
end Go.Proofs.YtepmgnhblegiiaaDoor
