/- Encoding and decoding of package isa: plain laws, no program in sight. -/
import Derived.Test.YtakahmhbopakmaaDoorREncA
set_option linter.all false
namespace Go.Proofs.YtakahmhbopakmaaDoor
open Go.RowKit

/-- What the bytes of an instruction say, format by format. -/
def rdF (f : Int) (b : Nat → Int) (op sz : Int) : Ins :=
  if f = 2 then ⟨op, b 1, 0, 0, 0, 0, sz⟩
  else if f = 3 then ⟨op, 0, 0, b 1, 0, 0, sz⟩
  else if f = 4 then ⟨op, b 1 / 16, b 1 % 16, 0, 0, 0, sz⟩
  else if f = 5 ∨ f = 18 then ⟨op, b 1, 0, extendS (b 2), 0, 0, sz⟩
  else if f = 6 ∨ f = 9 ∨ f = 14 then ⟨op, b 1, 0, b 2 + 256 * b 3, 0, 0, sz⟩
  else if f = 7 then ⟨op, b 1 / 16, b 1 % 16, extendS (b 2), 0, 0, sz⟩
  else if f = 8 then ⟨op, b 1 / 16, b 1 % 16, b 2 + 256 * b 3, 0, 0, sz⟩
  else if f = 10 then ⟨op, 0, 0, extendS (b 1), 0, 0, sz⟩
  else if f = 11 then ⟨op, 0, 0, b 1 + 256 * b 2, 0, 0, sz⟩
  else if f = 12 then ⟨op, 0, 0, b 2 + 256 * b 3, 0, b 1, sz⟩
  else if f = 13 then ⟨op, b 1, 0, b 3 + 256 * b 4, b 5 + 256 * b 6, b 2, sz⟩
  else if f = 15 then ⟨op, b 1, 0, b 2, 0, 0, sz⟩
  else if f = 16 then ⟨op, b 1 / 16, b 1 % 16, b 3 + 256 * b 4, 0, b 2, sz⟩
  else if f = 17 then ⟨op, 0, b 1, b 2 + 256 * b 3, b 4 + 256 * b 5, 0, sz⟩
  else ⟨op, 0, 0, 0, 0, 0, sz⟩
theorem ite_op {c : Prop} [Decidable c] {x y : Ins} {n : Int} (hx : x.op = n) (hy : y.op = n) : (if c then x else y).op = n := by
  by_cases h : c
  · rw [if_pos h]; exact hx
  · rw [if_neg h]; exact hy
theorem rdF_op (f : Int) (b : Nat → Int) (op sz : Int) : (rdF f b op sz).op = op := by
  unfold rdF
  repeat (first | rfl | refine ite_op rfl ?_)
theorem readB_eq (s : ByteArray) (h : fmtS (byt s 0) ≠ 0) : readB s = rdF (fmtS (byt s 0)) (byt s) (byt s 0) (rsizeS (byt s 0)) := by
  unfold readB
  rw [fldF_tab h]
  rcases fmt18' _ h with e | e | e | e | e | e | e | e | e | e | e | e | e | e | e | e | e | e <;> (rw [e]; simp [rdTo, rdStep, fF, fldTab, rdF, ins0, size_eq])
theorem rsize_fmt (op : Int) : rsizeS op = rsizeTab.getD (fmtS op).toNat 0 := rfl
/-- The bytes beyond the size say nothing. -/
theorem rdF_congr (f : Int) (b b' : Nat → Int) (op sz : Int) (hf : 1 ≤ f ∧ f ≤ 18) (h : ∀ k : Nat, (k : Int) < rsizeTab.getD f.toNat 0 → b k = b' k) : rdF f b op sz = rdF f b' op sz := by
  have h18 : f = 1 ∨ f = 2 ∨ f = 3 ∨ f = 4 ∨ f = 5 ∨ f = 6 ∨ f = 7 ∨ f = 8 ∨ f = 9 ∨ f = 10 ∨ f = 11 ∨ f = 12 ∨ f = 13 ∨ f = 14 ∨ f = 15 ∨ f = 16 ∨ f = 17 ∨ f = 18 := by omega
  rcases h18 with e | e | e | e | e | e | e | e | e | e | e | e | e | e | e | e | e | e <;> subst e
  · rfl
  · have h1 := h 1 (by decide); simp [rdF, h1]
  · have h1 := h 1 (by decide); simp [rdF, h1]
  · have h1 := h 1 (by decide); simp [rdF, h1]
  · have h1 := h 1 (by decide); have h2 := h 2 (by decide); simp [rdF, h1, h2]
  · have h1 := h 1 (by decide); have h2 := h 2 (by decide); have h3 := h 3 (by decide); simp [rdF, h1, h2, h3]
  · have h1 := h 1 (by decide); have h2 := h 2 (by decide); simp [rdF, h1, h2]
  · have h1 := h 1 (by decide); have h2 := h 2 (by decide); have h3 := h 3 (by decide); simp [rdF, h1, h2, h3]
  · have h1 := h 1 (by decide); have h2 := h 2 (by decide); have h3 := h 3 (by decide); simp [rdF, h1, h2, h3]
  · have h1 := h 1 (by decide); simp [rdF, h1]
  · have h1 := h 1 (by decide); have h2 := h 2 (by decide); simp [rdF, h1, h2]
  · have h1 := h 1 (by decide); have h2 := h 2 (by decide); have h3 := h 3 (by decide); simp [rdF, h1, h2, h3]
  · have h1 := h 1 (by decide); have h2 := h 2 (by decide); have h3 := h 3 (by decide); have h4 := h 4 (by decide); have h5 := h 5 (by decide); have h6 := h 6 (by decide); simp [rdF, h1, h2, h3, h4, h5, h6]
  · have h1 := h 1 (by decide); have h2 := h 2 (by decide); have h3 := h 3 (by decide); simp [rdF, h1, h2, h3]
  · have h1 := h 1 (by decide); have h2 := h 2 (by decide); simp [rdF, h1, h2]
  · have h1 := h 1 (by decide); have h2 := h 2 (by decide); have h3 := h 3 (by decide); have h4 := h 4 (by decide); simp [rdF, h1, h2, h3, h4]
  · have h1 := h 1 (by decide); have h2 := h 2 (by decide); have h3 := h 3 (by decide); have h4 := h 4 (by decide); have h5 := h 5 (by decide); simp [rdF, h1, h2, h3, h4, h5]
  · have h1 := h 1 (by decide); have h2 := h 2 (by decide); simp [rdF, h1, h2]

theorem refTail_len (f : Int) (i : Ins) (hf : 1 ≤ f ∧ f ≤ 18) : ((i.op :: refTail f i).length : Int) = rsizeTab.getD f.toNat 0 := by
  have h18 : f = 1 ∨ f = 2 ∨ f = 3 ∨ f = 4 ∨ f = 5 ∨ f = 6 ∨ f = 7 ∨ f = 8 ∨ f = 9 ∨ f = 10 ∨ f = 11 ∨ f = 12 ∨ f = 13 ∨ f = 14 ∨ f = 15 ∨ f = 16 ∨ f = 17 ∨ f = 18 := by omega
  rcases h18 with e | e | e | e | e | e | e | e | e | e | e | e | e | e | e | e | e | e <;> (subst e; simp [refTail, rsizeTab])
theorem fmt_rng {op : Int} (h : fmtS op ≠ 0) : 1 ≤ fmtS op ∧ fmtS op ≤ 18 := by have := fmtS_bd op; omega
theorem enc_valid (i : Ins) (hi : i.Ok) (hv : validS i = true) : encB i = i.op :: refTail (fmtS i.op) i ∧ encE i = 0 ∧ ((encB i).length : Int) = i.size := by
  obtain ⟨h0, h1, -, -, -, hz⟩ := valid_small i hi hv
  have hs := (fOf_some h0).1
  have e1 : encB i = i.op :: refTail (fmtS i.op) i := by unfold encB; rw [hs, hv]; exact bytes_tail i h0
  refine ⟨e1, by unfold encE; rw [hs, hv]; rfl, ?_⟩
  rw [e1, refTail_len _ i (fmt_rng h0), hz]; rfl

theorem byt_append (s more : ByteArray) (k : Nat) (h : k < s.size) : byt (s ++ more) k = byt s k := by
  unfold byt
  have : (s ++ more).data.toList = s.data.toList ++ more.data.toList := by simp
  rw [this, List.getD_eq_getElem?_getD, List.getD_eq_getElem?_getD, List.getElem?_append_left (by simpa using h)]
theorem byt_in (l : List Int) (k : Nat) (x : Int) (h : l[k]? = some x) (h0 : 0 ≤ x) (h1 : x < 256) : byt (strOf l) k = x := byt_strOf l k x h h0 h1
theorem readL_eq (i : Ins) (hi : i.Ok) (hv : validS i = true) : rdF (fmtS i.op) (byt (strOf (encB i))) i.op i.size = i := by
  obtain ⟨h0, h1, -, -, -, hz⟩ := valid_small i hi hv
  obtain ⟨e1, -, -⟩ := enc_valid i hi hv
  obtain ⟨-, -, hr⟩ := validS_parts hv
  have hb : bytesTo i (fldF i.op) 4 = encB i := by rw [e1]; exact bytes_tail i h0
  have hop : byt (strOf (encB i)) 0 = i.op := byt_in _ 0 _ (by rw [e1]; rfl) (by omega) (by omega)
  have : readB (strOf (encB i)) = i := by
    have e2 : readB (strOf (encB i)) = readL (bytesTo i (fldF i.op) 4) (fldF i.op) := by
      unfold readB readL; rw [hop, hb]
    rw [e2, hr]
  rw [readB_eq _ (by rw [hop]; exact h0), hop] at this
  rw [hz]; exact this

/-- Decoding what was encoded, whatever follows. -/
theorem dec_enc (i : Ins) (hi : i.Ok) (hv : validS i = true) (more : ByteArray) : decE (strOf (encB i) ++ more) = 0 ∧ decI (strOf (encB i) ++ more) = i := by
  obtain ⟨h0, h1, -, -, -, hz⟩ := valid_small i hi hv
  obtain ⟨e1, -, hl⟩ := enc_valid i hi hv
  have hop : byt (strOf (encB i)) 0 = i.op := byt_in _ 0 _ (by rw [e1]; rfl) (by omega) (by omega)
  have hsz : (strOf (encB i)).size = (encB i).length := strOf_size _
  have hpos : 0 < (encB i).length := by rw [e1]; simp
  have hop' : byt (strOf (encB i) ++ more) 0 = i.op := by rw [byt_append _ _ 0 (by omega), hop]
  have hrd : readB (strOf (encB i) ++ more) = i := by
    rw [readB_eq _ (by rw [hop']; exact h0), hop', ← hz]
    have hr := readL_eq i hi hv
    rw [rdF_congr _ (byt (strOf (encB i) ++ more)) (byt (strOf (encB i))) _ _ (fmt_rng h0) (fun k hk => byt_append _ _ k (by
      have : rsizeTab.getD (fmtS i.op).toNat 0 = i.size := by rw [hz]; rfl
      omega))]
    exact hr
  have hsize : (strOf (encB i) ++ more).size = (encB i).length + more.size := by rw [ByteArray.size_append, hsz]
  have hE : decE (strOf (encB i) ++ more) = 0 := by
    unfold decE
    rw [if_neg (by omega), hop', (fOf_some h0).1, hrd, hv, size_eq, ← hz]
    rw [if_pos rfl, if_neg (by omega), if_pos rfl]
  exact ⟨hE, by unfold decI; rw [if_pos hE]; exact hrd⟩

/-- A proper prefix of an encoding is too short. -/
theorem dec_short (i : Ins) (hi : i.Ok) (hv : validS i = true) (s : ByteArray) (hs : (s.size : Int) < i.size) (h : ∀ k, k < s.size → byt s k = byt (strOf (encB i)) k) : decE s = 10 ∧ decI s = ins00 := by
  obtain ⟨h0, h1, -, -, -, hz⟩ := valid_small i hi hv
  obtain ⟨e1, -, hl⟩ := enc_valid i hi hv
  have hop : byt (strOf (encB i)) 0 = i.op := byt_in _ 0 _ (by rw [e1]; rfl) (by omega) (by omega)
  have hE : decE s = 10 := by
    unfold decE
    by_cases hz0 : s.size = 0
    · rw [if_pos hz0]
    · rw [if_neg hz0, h 0 (by omega), hop, (fOf_some h0).1, size_eq, ← hz, if_pos rfl, if_pos hs]
  exact ⟨hE, by unfold decI; rw [hE]; rfl⟩

theorem extend_mod (n : Int) (h0 : 0 ≤ n) (h1 : n < 256) : extendS n % 256 = n := by unfold extendS; split <;> omega
/-- Encoding what the bytes say gives the bytes. -/
theorem tail_rd (f : Int) (b : Nat → Int) (op sz : Int) (hf : 1 ≤ f ∧ f ≤ 18) (hb : ∀ k, 0 ≤ b k ∧ b k < 256) (k : Nat) (hk : 1 ≤ k ∧ (k : Int) < rsizeTab.getD f.toNat 0) : (refTail f (rdF f b op sz))[k - 1]? = some (b k) := by
  have h18 : f = 1 ∨ f = 2 ∨ f = 3 ∨ f = 4 ∨ f = 5 ∨ f = 6 ∨ f = 7 ∨ f = 8 ∨ f = 9 ∨ f = 10 ∨ f = 11 ∨ f = 12 ∨ f = 13 ∨ f = 14 ∨ f = 15 ∨ f = 16 ∨ f = 17 ∨ f = 18 := by omega
  have b1 := hb 1
  have b2 := hb 2
  have b3 := hb 3
  have b4 := hb 4
  have b5 := hb 5
  have b6 := hb 6
  have m1 := extend_mod (b 1) b1.1 b1.2
  have m2 := extend_mod (b 2) b2.1 b2.2
  have hk7 : k = 1 ∨ k = 2 ∨ k = 3 ∨ k = 4 ∨ k = 5 ∨ k = 6 ∨ 7 ≤ k := by omega
  have hmax : rsizeTab.getD f.toNat 0 ≤ 7 := by
    have : ∀ n : Nat, n ≤ 18 → rsizeTab.getD n 0 ≤ 7 := by decide
    exact this _ (by omega)
  rcases h18 with e | e | e | e | e | e | e | e | e | e | e | e | e | e | e | e | e | e <;> (subst e; simp [rsizeTab] at hk) <;>
    (rcases hk7 with e | e | e | e | e | e | e <;> first | (exfalso; omega) | (subst e; simp [refTail, rdF, m1, m2] <;> omega))
/-- What Decode accepts. -/
theorem dec_unique (t : ByteArray) (h : decE t = 0) : (decI t).Ok ∧ validS (decI t) = true ∧ (encB (decI t)).length ≤ t.size ∧ ∀ k, k < (encB (decI t)).length → byt (strOf (encB (decI t))) k = byt t k := by
  have hI : decI t = readB t := by unfold decI; rw [if_pos h]
  rw [hI]
  unfold decE at h
  split at h
  · cases h
  rename_i hz0
  split at h
  · rename_i hfo
    split at h
    · cases h
    rename_i hsz
    split at h
    · rename_i hv
      have hok : (readB t).Ok := rdTo_ok t _ 4
      obtain ⟨h0, h1, -, -, -, hz⟩ := valid_small _ hok hv
      obtain ⟨e1, -, hl⟩ := enc_valid _ hok hv
      have hf0 : fmtS (byt t 0) ≠ 0 := fun e => by rw [fOf_zero e] at hfo; cases hfo
      have hrd := readB_eq t hf0
      have hop : (readB t).op = byt t 0 := by
        rw [hrd]; exact rdF_op _ _ _ _
      have hbd := byt_bd t
      rw [size_eq] at hsz
      rw [hop] at hz
      refine ⟨hok, hv, by omega, fun k hk => ?_⟩
      have hb0 := hbd k
      refine byt_in _ k _ ?_ hb0.1 hb0.2
      rw [e1, hop]
      rcases k with _ | k
      · rfl
      · rw [List.getElem?_cons_succ, hrd]
        have hkk : ((k + 1 : Nat) : Int) < rsizeTab.getD (fmtS (byt t 0)).toNat 0 := by
          have : rsizeS (byt t 0) = rsizeTab.getD (fmtS (byt t 0)).toNat 0 := rfl
          omega
        exact tail_rd _ (byt t) _ _ (fmt_rng hf0) hbd (k + 1) ⟨by omega, hkk⟩
    · cases h
  · cases h
theorem dec_codes (t : ByteArray) : decE t = 0 ∨ ((decE t = 10 ∨ decE t = 11) ∧ decI t = ins00) := by
  by_cases h : decE t = 0
  · exact Or.inl h
  · refine Or.inr ⟨?_, by unfold decI; rw [if_neg h]⟩
    unfold decE at h ⊢
    repeat' split
    all_goals first | exact Or.inl rfl | exact Or.inr rfl | (exfalso; simp_all; done)

end Go.Proofs.YtakahmhbopakmaaDoor
