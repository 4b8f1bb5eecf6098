/- Two valid instructions of the same place have the same text only if they are equal: the plain law. -/
import Derived.Test.YtakahmhbopakmaaDoorRLine
set_option linter.all false
namespace Go.Proofs.YtakahmhbopakmaaDoor
open Go.RowKit

theorem split_at {c : UInt8} : ∀ {a b x y : List UInt8}, c ∉ a → c ∉ b → a ++ c :: x = b ++ c :: y → a = b ∧ x = y
  | [], [], x, y, _, _, h => by simpa using h
  | [], d :: b, x, y, _, hb, h => by
    simp only [List.nil_append, List.cons_append, List.cons.injEq] at h
    exact absurd h.1 (by intro e; subst e; simp at hb)
  | d :: a, [], x, y, ha, _, h => by
    simp only [List.nil_append, List.cons_append, List.cons.injEq] at h
    exact absurd h.1 (by intro e; subst e; simp at ha)
  | d :: a, e :: b, x, y, ha, hb, h => by
    simp only [List.cons_append, List.cons.injEq] at h
    simp only [List.mem_cons, not_or] at ha hb
    obtain ⟨h1, h2⟩ := split_at ha.2 hb.2 h.2
    exact ⟨by rw [h.1, h1], h2⟩
theorem no_split {c : UInt8} {a b x : List UInt8} (ha : c ∉ a) (h : a = b ++ c :: x) : False := by
  subst h; simp at ha
theorem join2 (x : List UInt8) (y : List UInt8) (r : List (List UInt8)) (s : List UInt8) : Lib.join (x :: y :: r) s = x ++ (s ++ Lib.join (y :: r) s) := by
  simp [Lib.join, List.intercalate_cons_cons]
theorem join1 (x s : List UInt8) : Lib.join [x] s = x := by simp [Lib.join]
theorem join_inj : ∀ (l m : List (List UInt8)), l.length = m.length → (∀ x ∈ l, (44 : UInt8) ∉ x) → (∀ x ∈ m, (44 : UInt8) ∉ x) → Lib.join l [44, 32] = Lib.join m [44, 32] → l = m
  | [], [], _, _, _, _ => rfl
  | [x], [y], _, _, _, h => by rw [join1, join1] at h; rw [h]
  | x :: y :: r, x' :: y' :: r', hl, h1, h2, h => by
    rw [join2, join2] at h
    have hs := split_at (c := 44) (h1 x (by simp)) (h2 x' (by simp)) (by simpa using h)
    have h3 : Lib.join (y :: r) [44, 32] = Lib.join (y' :: r') [44, 32] := by simpa using hs.2
    have := join_inj (y :: r) (y' :: r') (by simpa using hl) (fun z hz => h1 z (by simp at hz ⊢; exact .inr hz)) (fun z hz => h2 z (by simp at hz ⊢; exact .inr hz)) h3
    rw [hs.1, this]
/-- A digit. -/
def isD (b : UInt8) : Prop := 48 ≤ b.toNat ∧ b.toNat ≤ 57
theorem dec_digits (n : Nat) : ∀ b ∈ Lib.decDigits n, isD b := by
  induction n using Nat.strongRecOn with
  | _ n ih =>
    intro b hb
    rw [Lib.decDigits] at hb
    split at hb
    · simp only [List.mem_singleton] at hb; subst hb
      unfold isD; rw [UInt8.toNat_ofNat']; omega
    · rcases List.mem_append.1 hb with hb | hb
      · exact ih (n / 10) (by omega) b hb
      · simp only [List.mem_singleton] at hb; subst hb
        unfold isD; rw [UInt8.toNat_ofNat']; omega
def valD (l : List UInt8) : Nat := l.foldl (fun v b => 10 * v + (b.toNat - 48)) 0
theorem valD_dec (n : Nat) : valD (Lib.decDigits n) = n := by
  induction n using Nat.strongRecOn with
  | _ n ih =>
    rw [Lib.decDigits]
    split
    · unfold valD; simp only [List.foldl_cons, List.foldl_nil, UInt8.toNat_ofNat']; omega
    · have := ih (n / 10) (by omega)
      unfold valD at this ⊢
      rw [List.foldl_append, this]
      simp only [List.foldl_cons, List.foldl_nil, UInt8.toNat_ofNat']; omega
theorem dec_inj {n m : Nat} (h : Lib.decDigits n = Lib.decDigits m) : n = m := by rw [← valD_dec n, h, valD_dec]
theorem dec_no (n : Nat) (c : UInt8) (hc : c.toNat < 48 ∨ 57 < c.toNat) : c ∉ Lib.decDigits n := fun h => by
  have := dec_digits n c h
  unfold isD at this; omega
theorem itoa_no (n : Int) (c : UInt8) (hc : c.toNat < 45 ∨ 57 < c.toNat ∨ c = 46 ∨ c = 47) : c ∉ Lib.itoa n := by
  have hd : c.toNat < 48 ∨ 57 < c.toNat := by rcases hc with h | h | rfl | rfl <;> first | omega | decide
  unfold Lib.itoa
  split
  · simp only [List.mem_cons, not_or]
    exact ⟨by rcases hc with h | h | rfl | rfl <;> first | (rintro rfl; revert h; decide) | decide, dec_no _ _ hd⟩
  · exact dec_no _ _ hd
theorem itoa_inj {n m : Int} (h : Lib.itoa n = Lib.itoa m) : n = m := by
  unfold Lib.itoa at h
  split at h <;> split at h
  · have := dec_inj (List.cons.inj h).2; omega
  · exact absurd (by rw [← h]; simp) (dec_no m.toNat 45 (by decide))
  · exact absurd (by rw [h]; simp) (dec_no n.toNat 45 (by decide))
  · have := dec_inj h; omega
theorem reg8_inj {n m : Int} (h : reg8 n = reg8 m) : n = m := itoa_inj (List.cons.inj h).2
theorem reg8_no (n : Int) (c : UInt8) (hc : c.toNat < 45 ∨ 57 < c.toNat ∨ c = 46 ∨ c = 47) (h : c ≠ 114) : c ∉ reg8 n := by
  unfold reg8; simp only [List.mem_cons, not_or]; exact ⟨h, itoa_no n c hc⟩
theorem hd8 (n : Int) (h0 : 0 ≤ n) (h1 : n < 16) : (UInt8.ofNat (hdI n).toNat).toNat = (hdI n).toNat := by
  have := hdI_bd n h0 h1
  rw [UInt8.toNat_ofNat']; omega
theorem hd8_inj {n m : Int} (h0 : 0 ≤ n) (h1 : n < 16) (g0 : 0 ≤ m) (g1 : m < 16) (h : UInt8.ofNat (hdI n).toNat = UInt8.ofNat (hdI m).toNat) : n = m := by
  have h2 := congrArg UInt8.toNat h
  rw [hd8 n h0 h1, hd8 m g0 g1] at h2
  unfold hdI at h2
  split at h2 <;> split at h2 <;> omega
theorem addr8_inj {u v : Int} (h0 : 0 ≤ u) (h1 : u < 65536) (g0 : 0 ≤ v) (g1 : v < 65536) (h : addr8 u = addr8 v) : u = v := by
  unfold addr8 addrS at h
  simp only [List.map_cons, List.map_nil, List.cons.injEq, and_true] at h
  obtain ⟨-, -, e1, e2, e3, e4⟩ := h
  have e1 := hd8_inj (by omega) (by omega) (by omega) (by omega) e1
  have e2 := hd8_inj (by omega) (by omega) (by omega) (by omega) e2
  have e3 := hd8_inj (by omega) (by omega) (by omega) (by omega) e3
  have e4 := hd8_inj (by omega) (by omega) (by omega) (by omega) e4
  omega
theorem addr8_no (u : Int) (h0 : 0 ≤ u) (h1 : u < 65536) (c : UInt8) (hc : c.toNat < 48) : c ∉ addr8 u := by
  unfold addr8 addrS
  simp only [List.map_cons, List.map_nil, List.mem_cons, List.not_mem_nil, or_false, not_or]
  have key : ∀ n : Int, 0 ≤ n → n < 16 → ¬ c = UInt8.ofNat (hdI n).toNat := fun n a b e => by
    have h2 := congrArg UInt8.toNat e
    rw [hd8 n a b] at h2
    have := hdI_bd n a b
    omega
  exact ⟨by rintro rfl; revert hc; decide, by rintro rfl; revert hc; decide, key _ (by omega) (by omega), key _ (by omega) (by omega), key _ (by omega) (by omega), key _ (by omega) (by omega)⟩
theorem sgnI_inj {n m : Int} (h0 : 0 ≤ n) (h1 : n < 65536) (g0 : 0 ≤ m) (g1 : m < 65536) (h : sgnI n = sgnI m) : n = m := by
  unfold sgnI at h; split at h <;> split at h <;> omega
theorem dig1 (s : Int) (h0 : 0 ≤ s) (h1 : s < 8) : Lib.itoa s = [UInt8.ofNat (48 + s.toNat)] := by
  unfold Lib.itoa
  rw [if_neg (by omega), Lib.decDigits, dif_pos (by omega)]
theorem mem8_eq (s n : Int) (h0 : 0 ≤ s) (h1 : s < 8) : mem8 s n = [91, 114, UInt8.ofNat (48 + s.toNat)] ++ ((if n < 32768 then [43] else []) ++ Lib.itoa (sgnI n) ++ [93]) := by
  unfold mem8 reg8
  rw [dig1 s h0 h1]
  simp
theorem mem8_inj {s n s' n' : Int} (a0 : 0 ≤ s) (a1 : s < 8) (b0 : 0 ≤ s') (b1 : s' < 8) (h0 : 0 ≤ n) (h1 : n < 65536) (g0 : 0 ≤ n') (g1 : n' < 65536) (h : mem8 s n = mem8 s' n') : s = s' ∧ n = n' := by
  rw [mem8_eq s n a0 a1, mem8_eq s' n' b0 b1] at h
  simp only [List.cons_append, List.nil_append, List.cons.injEq, true_and] at h
  obtain ⟨hs, hr⟩ := h
  have hs' := congrArg UInt8.toNat hs
  rw [UInt8.toNat_ofNat', UInt8.toNat_ofNat'] at hs'
  refine ⟨by omega, ?_⟩
  have hr' := List.append_cancel_right hr
  have c43 : ∀ z : Int, 0 ≤ z → (43 : UInt8) ∉ Lib.itoa z := fun z _ => itoa_no z 43 (by decide)
  by_cases p : n < 32768 <;> by_cases q : n' < 32768
  · rw [if_pos p, if_pos q] at hr'
    exact sgnI_inj h0 h1 g0 g1 (itoa_inj (List.append_cancel_left hr'))
  · rw [if_pos p, if_neg q] at hr'
    exact absurd (by rw [List.nil_append] at hr'; rw [← hr']; simp) (itoa_no (sgnI n') 43 (by decide))
  · rw [if_neg p, if_pos q] at hr'
    exact absurd (by rw [List.nil_append] at hr'; rw [hr']; simp) (itoa_no (sgnI n) 43 (by decide))
  · rw [if_neg p, if_neg q] at hr'
    exact sgnI_inj h0 h1 g0 g1 (itoa_inj (by simpa using hr'))
theorem mem8_no (s n : Int) (h0 : 0 ≤ s) (h1 : s < 8) : (44 : UInt8) ∉ mem8 s n := by
  rw [mem8_eq s n h0 h1]
  have h := itoa_no (sgnI n) 44 (by decide)
  have hs : ¬ (44 : UInt8) = UInt8.ofNat (48 + s.toNat) := fun e => by
    have := congrArg UInt8.toNat e
    rw [UInt8.toNat_ofNat'] at this
    have h44 : (44 : UInt8).toNat = 44 := rfl
    omega
  generalize UInt8.ofNat (48 + s.toNat) = c at hs
  split <;> simp [h, hs]
end Go.Proofs.YtakahmhbopakmaaDoor
