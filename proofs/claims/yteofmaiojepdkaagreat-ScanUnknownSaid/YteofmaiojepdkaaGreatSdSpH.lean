/- Chapter 05 in plain Lean: the classes, instruction by instruction. No condition beyond what each states. -/
import Derived.Test.YteofmaiojepdkaaGreatSdMpE
set_option linter.all false
namespace Go.Proofs.YteofmaiojepdkaaGreat
theorem bankI_size {I : zp} (hI : I.Ok) {p : zc} (h : inI I p = true) : (xp I p).size = 4096 := by
 have h1 := jd h
 have h2 := x3 h1.1
 unfold xp
 have hlt : p.bank.toNat < I.banks.length := by omega
 rw [List.getD_eq_getElem?_getD, List.getElem?_eq_getElem hlt]
 exact hI.sz _ (List.getElem_mem hlt)
theorem ok_end {I : zp} (hI : I.Ok) {p : zc} (h : okI I p) : zJ p + szI I p ≤ 4096 := by
 have ho := ok_at h
 obtain ⟨h1, h2, h3, -⟩ := dec_unique _ ho.dec
 obtain ⟨-, -, hl⟩ := enc_valid _ h1 h2
 have hc : ∀ n, (zM I p n).size ≤ 4096 - zJ p := fun n => by
  unfold zM
  split
  ·rw [ByteArray.size_extract, bankI_size hI ho.ii]
   omega
  ·exact Nat.zero_le _
 have hc := hc (zI (byt (zM I p 1) 0))
 have hof : zJ p < 4096 := by unfold zJ; omega
 unfold szI
 rw [ho.eq]
 omega
section
variable (I : zp) (its : List zc)
def stP (b o : Nat) (p : zc) : Bool := decide (p.bank = b) && decide (zJ p = o) && decide (0 < szI I p)
theorem st_cov {I : zp} {b o : Nat} {p : zc} (h : stP I b o p = true) : covP I b o p = true := by
 unfold stP at h
 unfold covP
 simp only [Bool.and_eq_true, decide_eq_true_eq] at h ⊢
 omega
def clM (m : List zc) (b o : Nat) : Int := if m.any (covP I b o) then (if 1 < yZ I its b o then 3 else if m.any (stP I b o) then 1 else 2) else xk I b o
end
section
variable {I : zp} {its : List zc}
theorem covN_pos {b o : Nat} : yZ I its b o = 0 ↔ its.any (covP I b o) = false := by
 unfold yZ
 rw [List.countP_eq_zero]
 simp
theorem covN_take {b o : Nat} (m : Nat) : yZ I (its.take m) b o ≤ yZ I its b o := by
 unfold yZ
 exact (List.take_sublist m its).countP_le
theorem covN_snoc {l : List zc} {p : zc} {b o : Nat} : yZ I (l ++ [p]) b o = yZ I l b o + if covP I b o p then 1 else 0 := by
 unfold yZ
 rw [List.countP_append, List.countP_singleton]
theorem clM_nil (b o : Nat) : clM I its [] b o = xk I b o := by simp [clM]
theorem clM_snoc {m : Nat} {p : zc} (hp : its[m]? = some p) (b o : Nat) :
  clM I its (its.take (m + 1)) b o = if covP I b o p then (if 1 < yZ I its b o then 3 else if (o : Int) - zJ p = 0 then 1 else 2) else clM I its (its.take m) b o := by
 have ht : its.take (m + 1) = its.take m ++ [p] := by rw [List.take_succ, hp]; rfl
 have hle := covN_take (I := I) (its := its) (b := b) (o := o) (m + 1)
 rw [ht, covN_snoc] at hle
 rw [ht]
 unfold clM
 rw [List.any_append, List.any_append]
 simp only [List.any_cons, List.any_nil, Bool.or_false]
 by_cases hc : covP I b o p = true
 ·rw [hc, Bool.or_true, if_pos rfl, if_pos rfl]
  by_cases h1 : 1 < yZ I its b o
  ·rw [if_pos h1, if_pos h1]
  ·rw [if_neg h1, if_neg h1]
   rw [hc, if_pos rfl] at hle
   have h0 : yZ I (its.take m) b o = 0 := by omega
   have h2 : (its.take m).any (stP I b o) = false := by
    cases h3 : (its.take m).any (stP I b o) with
    | false => rfl
    | true =>
     obtain ⟨q, hq, hs⟩ := List.any_eq_true.1 h3
     have h4 := covN_pos.1 h0
     have h5 : (its.take m).any (covP I b o) = true := List.any_eq_true.2 ⟨q, hq, st_cov hs⟩
     rw [h4] at h5
     cases h5
   rw [h2, Bool.false_or]
   have h6 : stP I b o p = decide ((o : Int) - zJ p = 0) := by
    unfold covP at hc
    unfold stP
    simp only [Bool.and_eq_true, decide_eq_true_eq] at hc
    by_cases h7 : (o : Int) - zJ p = 0
    ·have h8 : zJ p = o := by omega
     have h9 : 0 < szI I p := by omega
     simp [h7, hc.1.1, h8, h9]
    ·have h8 : ¬ zJ p = o := by omega
     simp [h7, h8]
   rw [h6]
   by_cases h7 : (o : Int) - zJ p = 0
   ·rw [if_pos h7, decide_eq_true h7, if_pos rfl]
   ·rw [if_neg h7, decide_eq_false h7, if_neg (by decide)]
 ·have hc' : covP I b o p = false := by simpa using hc
  have hs : stP I b o p = false := by
   cases h : stP I b o p with
   | false => rfl
   | true => exact absurd (st_cov h) hc
  rw [hc', hs, Bool.or_false, Bool.or_false, if_neg (by decide : ¬ false = true)]
def tbM (l : List zc) (b o : Nat) : Bool := l.any fun q => decide (q.bank = b) && decide (zJ q = o)
def clT (l : List zc) (b o : Nat) : Int := if yZ I its b o = 0 ∧ tbM l b o = true then 4 else clM I its its b o
theorem clT_nil (b o : Nat) : clT (I := I) (its := its) [] b o = clM I its its b o := by simp [clT, tbM]
theorem clT_snoc (l : List zc) (q : zc) (b o : Nat) : clT (I := I) (its := its) (l ++ [q]) b o = if (q.bank = b ∧ zJ q = o) ∧ yZ I its b o = 0 then 4 else clT (I := I) (its := its) l b o := by
 unfold clT tbM
 rw [List.any_append]
 simp only [List.any_cons, List.any_nil, Bool.or_false, Bool.or_eq_true, Bool.and_eq_true, decide_eq_true_eq]
 by_cases h0 : yZ I its b o = 0
 ·by_cases h1 : q.bank = b ∧ zJ q = o
  ·simp [h0, h1]
  ·simp [h0, h1]
 ·simp [h0]
theorem clT_all (b o : Nat) : clT (I := I) (its := its) (its.flatMap fun p => (fl I p).tb) b o = clOf I its b o := by
 have ht : tbM (its.flatMap fun p => (fl I p).tb) b o = inTab I its b o := by
  unfold tbM inTab
  rw [List.any_flatMap]
 unfold clT clOf
 rw [ht]
 by_cases h0 : yZ I its b o = 0
 ·rw [if_pos h0]
  by_cases h1 : inTab I its b o = true
  ·rw [if_pos ⟨h0, h1⟩, if_pos h1]
  ·rw [if_neg (fun h => h1 h.2), if_neg h1]
   unfold clM
   rw [covN_pos.1 h0, if_neg (by decide)]
 ·rw [if_neg (fun h => h0 h.1), if_neg h0]
  have h1 : its.any (covP I b o) = true := by
   cases h : its.any (covP I b o) with
   | true => rfl
   | false => exact absurd (covN_pos.2 h) h0
  unfold clM
  rw [h1, if_pos rfl]
  by_cases h2 : yZ I its b o = 1
  ·rw [if_pos h2, if_neg (by omega)]
   rfl
  ·rw [if_neg h2, if_pos (by omega)]
end
theorem seen_addr {a : Int} {p q : zc} (h : yr a p = some q) : q.addr = a := by
 unfold yr at h
 split at h
 ·split at h
  ·injection h with h; rw [← h]
  ·cases h
 ·injection h with h; rw [← h]
theorem toF_tb (f : zN) (o : Option zc) : (toF f o).tb = f.tb := by unfold toF; split <;> rfl
theorem ent_addr {I : zp} {p : zc} {f : zN} {a : Int} (ha : 0 ≤ a ∧ a < 65536) (hf : ∀ q ∈ f.tb, 0 ≤ q.addr ∧ q.addr < 65536) : ∀ q ∈ (jf I p f a).tb, 0 ≤ q.addr ∧ q.addr < 65536 := by
 unfold jf
 split
 ·rename_i lo hi h1 h2
  split
  ·exact hf
  ·intro q hq
   rw [toF_tb] at hq
   rcases List.mem_append.1 hq with hq | hq
   ·exact hf q hq
   ·simp only [List.mem_cons, List.not_mem_nil, or_false] at hq
    rcases hq with rfl | rfl
    ·rw [seen_addr h1]; exact ha
    ·rw [seen_addr h2]; omega
 ·exact hf
theorem tab_addr {I : zp} {x : Ins} {p : zc} {f : zN} (hf : ∀ q ∈ f.tb, 0 ≤ q.addr ∧ q.addr < 65536) : ∀ k, ∀ q ∈ (tabF I x p f k).tb, 0 ≤ q.addr ∧ q.addr < 65536
 | 0 => hf
 | k + 1 => ent_addr (by omega) (tab_addr hf k)
theorem fall_tb (x : Ins) (p : zc) : (zQ x p).tb = [] := by
 unfold zQ
 split
 ·split <;> rfl
 ·rfl
theorem flow_addr (I : zp) (x : Ins) (p : zc) : ∀ q ∈ (yP I x p).tb, 0 ≤ q.addr ∧ q.addr < 65536 := by
 have h0 : ∀ q ∈ (zQ x p).tb, 0 ≤ q.addr ∧ q.addr < 65536 := by rw [fall_tb]; simp
 have h1 : ∀ q ∈ (toF (zQ x p) (optT (zR x p))).tb, 0 ≤ q.addr ∧ q.addr < 65536 := by rw [toF_tb]; exact h0
 unfold yP
 split
 ·split <;> exact h0
 ·split
  ·exact h1
  ·split
   ·exact tab_addr h1 _
   ·split
    ·exact h0
    ·split <;> exact h0
end Go.Proofs.YteofmaiojepdkaaGreat
