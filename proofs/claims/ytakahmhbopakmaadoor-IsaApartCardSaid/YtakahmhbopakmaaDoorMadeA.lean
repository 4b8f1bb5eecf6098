/- The instructions that Made and Spoilt of the reference make: plain functions and laws, no program in sight. -/
import Derived.Test.YtakahmhbopakmaaDoorFormsA
set_option linter.all false
namespace Go.Proofs.YtakahmhbopakmaaDoor
open Go.RowKit

def opsTo (k : Nat) : List Int := ((List.range k).filter (fun n : Nat => fmtS (n : Int) != 0)).map (fun n : Nat => (n : Int))
theorem opsTo_yes (k : Nat) (h : (fmtS (k : Int) != 0) = true) : opsTo (k + 1) = opsTo k ++ [(k : Int)] := by
  unfold opsTo
  rw [List.range_succ, List.filter_append, List.map_append]
  simp [List.filter_cons, h]
theorem opsTo_no (k : Nat) (h : (fmtS (k : Int) != 0) = false) : opsTo (k + 1) = opsTo k := by
  unfold opsTo
  rw [List.range_succ, List.filter_append, List.map_append]
  simp [List.filter_cons, h]
theorem opsTo_le (k : Nat) : (opsTo k).length ≤ k := by
  unfold opsTo
  rw [List.length_map]
  exact Nat.le_trans (List.length_filter_le _ _) (by simp)
theorem opsAll_len : (opsTo 164).length = 113 := by decide +kernel
def opAt (m : Nat) : Int := (opsTo 164).getD m 0
theorem opAt_fmt : ∀ m : Nat, m < 113 → fmtS (opAt m) ≠ 0 ∧ 0 ≤ opAt m ∧ opAt m ≤ 163 := by decide +kernel
theorem opAt_get (m : Nat) (h : m < 113) : (opsTo 164)[m]? = some (opAt m) := by
  unfold opAt
  have : m < (opsTo 164).length := by rw [opsAll_len]; exact h
  simp [List.getD_eq_getElem?_getD, List.getElem?_eq_getElem this]

def mkD (f : Int) : Bool := f = 2 ∨ f = 5 ∨ f = 6 ∨ f = 9 ∨ f = 13 ∨ f = 14 ∨ f = 15 ∨ f = 18 ∨ f = 4 ∨ f = 7 ∨ f = 8 ∨ f = 16
def mkS (f : Int) : Bool := f = 4 ∨ f = 7 ∨ f = 8 ∨ f = 16 ∨ f = 17
def mkI (f v : Int) : Int := if f = 3 ∨ f = 15 then v % 256 else if f = 5 ∨ f = 7 ∨ f = 10 ∨ f = 18 then extendS (v % 256) else if f = 6 ∨ f = 8 ∨ f = 9 ∨ f = 11 ∨ f = 12 ∨ f = 13 ∨ f = 14 ∨ f = 16 ∨ f = 17 then v else 0
/-- The instruction that numbers determine, out of its operation. -/
def madeF (f op q1 q2 q3 q4 : Int) : Ins :=
  ⟨op, if mkD f then q1 % 8 else 0, if mkS f then q2 % 8 else 0, mkI f (q3 % 65536),
   if f = 13 then q2 % 65536 else if f = 17 then q4 % 65536 else 0,
   if f = 12 ∨ f = 16 then q4 % 64 else if f = 13 then 1 + q4 % 65536 % 255 else 0, rsizeS op⟩
def madeOp (q0 : Int) : Int := opAt (q0 % 65536 % 113).toNat
def madeS (q0 q1 q2 q3 q4 : Int) : Ins := madeF (fmtS (madeOp q0)) (madeOp q0) q1 q2 q3 q4
theorem madeOp_fmt (q0 : Int) : fmtS (madeOp q0) ≠ 0 ∧ 0 ≤ madeOp q0 ∧ madeOp q0 ≤ 163 := opAt_fmt _ (by omega)
theorem mk_size_bd (op : Int) : 0 ≤ rsizeS op ∧ rsizeS op ≤ 7 := by
  have h := fmtS_bd op
  unfold rsizeS
  have : ∀ n : Nat, n ≤ 18 → 0 ≤ rsizeTab.getD n 0 ∧ rsizeTab.getD n 0 ≤ 7 := by decide +kernel
  exact this _ (by omega)
theorem mkI_bd (f v : Int) (h0 : 0 ≤ v) (h1 : v < 65536) : 0 ≤ mkI f v ∧ mkI f v < 65536 := by
  unfold mkI extendS; repeat' split
  all_goals omega
theorem madeF_ok (f op q1 q2 q3 q4 : Int) (h0 : 0 ≤ op) (h1 : op ≤ 163) : (madeF f op q1 q2 q3 q4).Ok := by
  have hi := mkI_bd f (q3 % 65536) (by omega) (by omega)
  have hr := mk_size_bd op
  have hd : 0 ≤ (if mkD f then q1 % 8 else 0) ∧ (if mkD f then q1 % 8 else 0) < 8 := by split <;> omega
  have hs : 0 ≤ (if mkS f then q2 % 8 else 0) ∧ (if mkS f then q2 % 8 else 0) < 8 := by split <;> omega
  have ha : 0 ≤ (if f = 13 then q2 % 65536 else if f = 17 then q4 % 65536 else 0) ∧ (if f = 13 then q2 % 65536 else if f = 17 then q4 % 65536 else 0) < 65536 := by
    repeat' split
    all_goals omega
  have hb : 0 ≤ (if f = 12 ∨ f = 16 then q4 % 64 else if f = 13 then 1 + q4 % 65536 % 255 else 0) ∧ (if f = 12 ∨ f = 16 then q4 % 64 else if f = 13 then 1 + q4 % 65536 % 255 else 0) < 256 := by
    repeat' split
    all_goals omega
  have k : ∀ x : Int, 0 ≤ x → x < 65536 → i64ok x := fun x h0 h1 => ⟨by omega, by omega⟩
  exact ⟨k _ h0 (by show op < 65536; omega), k _ hd.1 (Int.lt_trans hd.2 (by decide)), k _ hs.1 (Int.lt_trans hs.2 (by decide)), hi, ha, k _ hb.1 (Int.lt_trans hb.2 (by decide)), k _ hr.1 (by show rsizeS op < 65536; omega)⟩
theorem made_ok (q0 q1 q2 q3 q4 : Int) : (madeS q0 q1 q2 q3 q4).Ok := madeF_ok _ _ _ _ _ _ (madeOp_fmt q0).2.1 (madeOp_fmt q0).2.2
theorem sgnB_ext (v : Int) (h0 : 0 ≤ v) (h1 : v < 256) : sgnB (extendS v) = true := by
  unfold sgnB extendS; split <;> simp <;> omega
theorem fmt18 (op : Int) (h : fmtS op ≠ 0) : fmtS op = 1 ∨ fmtS op = 2 ∨ fmtS op = 3 ∨ fmtS op = 4 ∨ fmtS op = 5 ∨ fmtS op = 6 ∨ fmtS op = 7 ∨ fmtS op = 8 ∨ fmtS op = 9 ∨ fmtS op = 10 ∨ fmtS op = 11 ∨ fmtS op = 12 ∨ fmtS op = 13 ∨ fmtS op = 14 ∨ fmtS op = 15 ∨ fmtS op = 16 ∨ fmtS op = 17 ∨ fmtS op = 18 := by
  have := fmtS_bd op; omega
theorem madeF_valid (f op q1 q2 q3 q4 : Int) (hf : fmtS op = f) (hn : f ≠ 0) : validS (madeF f op q1 q2 q3 q4) = true := by
  have ho := op_of_fmt (op := op) (by rw [hf]; exact hn)
  rw [rv_at _ (madeF_ok f op q1 q2 q3 q4 ho.1 ho.2) f hf hn]
  have hr : rsizeTab.getD f.toNat 0 = rsizeS op := by unfold rsizeS; rw [hf]
  have hx := sgnB_ext (q3 % 256) (by omega) (by omega)
  rw [hr]
  have h18 := fmt18 op (by rw [hf]; exact hn)
  rw [hf] at h18
  rcases h18 with h | h | h | h | h | h | h | h | h | h | h | h | h | h | h | h | h | h <;> (subst h; simp [madeF, mkD, mkS, mkI, rvBody, regB, hx] <;> omega)
theorem made_valid (q0 q1 q2 q3 q4 : Int) : validS (madeS q0 q1 q2 q3 q4) = true := madeF_valid _ _ _ _ _ _ rfl (madeOp_fmt q0).1

/-- One field changed. -/
def spoiltS (i : Ins) (c0 c1 : Int) : Ins :=
  if c0 % 8 = 0 then { i with op := c1 } else if c0 % 8 = 1 then { i with d := c1 } else if c0 % 8 = 2 then { i with s := c1 } else if c0 % 8 = 3 then { i with imm := c1 % 65536 }
  else if c0 % 8 = 4 then { i with aux := c1 % 65536 } else if c0 % 8 = 5 then { i with bank := c1 } else if c0 % 8 = 6 then { i with size := c1 } else i
theorem spoilt_ok (i : Ins) (hi : i.Ok) (c0 c1 : Int) (h : i64ok c1) : (spoiltS i c0 c1).Ok := by
  obtain ⟨p0, p1, p2, p3, p4, p5, p6⟩ := hi
  have hw : 0 ≤ c1 % 65536 ∧ c1 % 65536 < 65536 := by omega
  unfold spoiltS
  repeat' split
  all_goals first
    | exact ⟨h, p1, p2, p3, p4, p5, p6⟩ | exact ⟨p0, h, p2, p3, p4, p5, p6⟩ | exact ⟨p0, p1, h, p3, p4, p5, p6⟩ | exact ⟨p0, p1, p2, hw, p4, p5, p6⟩
    | exact ⟨p0, p1, p2, p3, hw, p5, p6⟩ | exact ⟨p0, p1, p2, p3, p4, h, p6⟩ | exact ⟨p0, p1, p2, p3, p4, p5, h⟩ | exact ⟨p0, p1, p2, p3, p4, p5, p6⟩

end Go.Proofs.YtakahmhbopakmaaDoor
