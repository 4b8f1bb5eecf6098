/- Chapter 05 in plain Lean: bounds of what is decoded and of what follows from it; what a work list reaches. No condition beyond what each states. -/
import Derived.Test.YteofmaiojepdkaaGreatTbRefC3
import Derived.Test.YteofmaiojepdkaaGreatTbLkM
set_option linter.all false
namespace Go.Proofs.YteofmaiojepdkaaGreat
theorem ite_ins {P : Ins → Prop} {c : Prop} [Decidable c] {x y : Ins} (hx : P x) (hy : P y) : P (if c then x else y) := by
 by_cases h : c
 ·rw [if_pos h]; exact hx
 ·rw [if_neg h]; exact hy
theorem rdF_bank (f : Int) (b : Nat → Int) (op sz : Int) (hb : ∀ k, 0 ≤ b k ∧ b k < 256) : 0 ≤ (rdF f b op sz).bank ∧ (rdF f b op sz).bank < 256 := by
 have h1 := hb 1
 have h2 := hb 2
 unfold rdF
 repeat (first | exact h1 | exact h2 | exact ⟨Int.le_refl 0, (by decide : (0 : Int) < 256)⟩ | refine ite_ins (P := fun x => 0 ≤ x.bank ∧ x.bank < 256) ?_ ?_)
def yO (p : zb) : Prop := ja p.bank ∧ 0 ≤ p.addr ∧ p.addr < 65536
def inU (p : zb) : Prop := (0 ≤ p.bank ∧ p.bank < 256) ∧ 0 ≤ p.addr ∧ p.addr < 65536
theorem inU.ok {p : zb} (h : inU p) : yO p := by unfold inU at h; unfold yO ja; omega
section
variable {I : zk} {p : zb}
theorem code_in {n : Int} (h : (zK I p n).size ≠ 0) : inI I p = true ∧ 1 ≤ n := by
 unfold zK at h
 split at h
 ·assumption
 ·exact absurd rfl h
theorem y6 (h : inI I p = true) : yg p = true ∧ p.bank < I.banks.length := by
 unfold inI at h
 simpa using h
theorem xp (h : yg p = true) : 0 ≤ p.bank ∧ p.bank < 64 ∧ p.addr < 8192 ∧ ((p.bank = 0 ∧ p.addr < 4096) ∨ 4096 ≤ p.addr) := by
 unfold yg at h
 simp only [Bool.and_eq_true, Bool.or_eq_true, decide_eq_true_eq] at h
 omega
structure OkAt (I : zk) (p : zb) : Prop where
 ii : inI I p = true
 sz1 : 1 ≤ zx (byt (zK I p 1) 0)
 nx : (xk p (zx (byt (zK I p 1) 0) - 1)).isSome = true
 len : zx (byt (zK I p 1) 0) ≤ (zK I p (zx (byt (zK I p 1) 0))).size
 dec : xL (zK I p (zx (byt (zK I p 1) 0))) = 0
 eq : (atI I p).1 = xa (zK I p (zx (byt (zK I p 1) 0)))
theorem ok_at (h : okI I p) : OkAt I p := by
 unfold okI at h
 unfold atI at h
 split at h
 ·cases h
 ·rename_i h0
  split at h
  ·cases h
  ·rename_i h1
   split at h
   ·cases h
   ·rename_i h2
    split at h
    ·rename_i h3
     have := sizeS_bd (byt (zK I p 1) 0)
     simp only [not_or, Bool.not_eq_false, Int.not_lt] at h2
     refine ⟨(code_in h0).1, by omega, h2.1, h2.2, h3, ?_⟩
     unfold atI
     rw [if_neg h0, if_neg h1, if_neg (by simp only [not_or, Bool.not_eq_false, Int.not_lt]; exact h2), if_pos h3]
    ·cases h
theorem dec_bank (t : ByteArray) (h : xL t = 0) : 0 ≤ (xa t).bank ∧ (xa t).bank < 256 := by
 have hI : xa t = yP t := by unfold xa; rw [if_pos h]
 rw [hI]
 unfold xL at h
 split at h
 ·cases h
 split at h
 ·rename_i hfo
  rw [readB_eq t (fun e => by rw [fOf_zero e] at hfo; cases hfo)]
  exact rdF_bank _ _ _ _ (zL t)
 ·cases h
theorem ins_bd (h : okI I p) : (atI I p).1.Ok ∧ zy (atI I p).1 = true ∧ 0 ≤ (atI I p).1.bank ∧ (atI I p).1.bank < 256 := by
 have ho := ok_at h
 rw [ho.eq]
 obtain ⟨h1, h2, -, -⟩ := dec_unique _ ho.dec
 exact ⟨h1, h2, dec_bank _ ho.dec⟩
theorem seen_inU {a : Int} (h : inI I p = true) (ha : 0 ≤ a ∧ a < 65536) {q : zb} (hq : yt a p = some q) : inU q := by
 have := xp (y6 h).1
 unfold yt at hq
 unfold inU
 split at hq
 ·split at hq
  ·injection hq with hq; subst hq; dsimp only; omega
  ·cases hq
 ·injection hq with hq; subst hq; dsimp only; omega
theorem next_inU {n : Int} (hp : yO p) {q : zb} (hq : xk p n = some q) : inU q := by
 unfold xk at hq
 split at hq
 ·rename_i h
  have := xp h.1
  unfold yO at hp
  injection hq with hq; subst hq
  unfold inU
  dsimp only
  omega
 ·cases hq
theorem target_inU (h : inI I p = true) {x : Ins} (hx : x.Ok) (hb : 0 ≤ x.bank ∧ x.bank < 256) {q : zb} (hq : optT (zU x p) = some q) : inU q := by
 have hc := xp (y6 h).1
 have ht := tgt_lo x p
 have ht' := tgt_hi x p
 have hi := hx.imm
 unfold zU at hq
 unfold optT at hq
 unfold inU
 split at hq
 ·split at hq
  ·split at hq
   ·split at hq
    ·simp only [if_true] at hq; injection hq with hq; subst hq; dsimp only; omega
    ·simp at hq
   ·simp only [if_true] at hq; injection hq with hq; subst hq; dsimp only; omega
  ·split at hq
   ·split at hq
    ·simp only [if_true] at hq; injection hq with hq; subst hq; dsimp only; omega
    ·simp only [if_true] at hq; injection hq with hq; subst hq; dsimp only; omega
   ·simp at hq
 ·simp at hq
structure jf (I : zk) (n m : Nat) (f : zO) : Prop where
 nx : ∀ q ∈ f.nx, inU q
 cl : ∀ q ∈ f.cl, inU q
 tb : ∀ q ∈ f.tb, inI I q = true
 ln : f.nx.length ≤ n
 lt : f.tb.length ≤ m
 lc : f.cl.length ≤ 1
theorem jf.add {n m : Nat} {f : zO} (h : jf I n m f) {o : Option zb} (ho : ∀ q, o = some q → inU q) : jf I (n + 1) m (toF f o) := by
 unfold toF
 split
 ·rename_i q
  refine ⟨fun x hx => ?_, h.cl, h.tb, by simp; exact h.ln, h.lt, h.lc⟩
  rcases List.mem_append.1 hx with hx | hx
  ·exact h.nx x hx
  ·rw [List.mem_singleton.1 hx]; exact ho q rfl
 ·exact ⟨h.nx, h.cl, h.tb, Nat.le_succ_of_le h.ln, h.lt, h.lc⟩
theorem jf.flag {n m : Nat} {f : zO} (h : jf I n m f) (a b c : Bool) : jf I n m { f with xe := a, xb := b, xt := c } := ⟨h.nx, h.cl, h.tb, h.ln, h.lt, h.lc⟩
theorem jf.ent {n m : Nat} {f : zO} (h : jf I n m f) (hi : inI I p = true) (a : Int) : jf I (n + 1) (m + 2) (entF I p f a) := by
 have hw : jf I (n + 1) (m + 2) f := ⟨h.nx, h.cl, h.tb, Nat.le_succ_of_le h.ln, by have := h.lt; omega, h.lc⟩
 unfold entF
 split
 ·rename_i lo hi' e1 e2
  split
  ·exact hw.flag f.xe f.xb true
  ·rename_i hs
   simp only [not_or] at hs
   have h2 : jf I n (m + 2) { f with tb := f.tb ++ [lo, hi'] } := by
    refine ⟨h.nx, h.cl, fun x hx => ?_, h.ln, ?_, h.lc⟩
    ·rcases List.mem_append.1 hx with hx | hx
     ·exact h.tb x hx
     ·simp only [List.mem_cons, List.not_mem_nil, or_false] at hx
      rcases hx with rfl | rfl
      ·exact (code_in hs.1).1
      ·exact (code_in hs.2).1
    ·have := h.lt
     simp
     exact this
   refine h2.add fun q hq => seen_inU hi ?_ hq
   have := zL (zK I lo 1) 0
   have := zL (zK I hi' 1) 0
   omega
 ·exact hw.flag f.xe true f.xt
theorem jf.tab {n m : Nat} {f : zO} (h : jf I n m f) (hi : inI I p = true) (x : Ins) : ∀ k, jf I (n + k) (m + 2 * k) (tabF I x p f k)
 | 0 => h
 | k + 1 => jf.ent (jf.tab h hi x k) hi _
theorem fall_bd (hp : yO p) (x : Ins) : jf I 1 0 (zR x p) := by
 unfold zR
 split
 ·split
  ·rename_i q hq
   exact ⟨fun y hy => by rw [List.mem_singleton.1 hy]; exact next_inU hp hq, by simp, by simp, by simp, by simp, by simp⟩
  ·exact ⟨by simp, by simp, by simp, by simp, by simp, by simp⟩
 ·exact ⟨by simp, by simp, by simp, by simp, by simp, by simp⟩
theorem jf.wide {n m n' m' : Nat} {f : zO} (h : jf I n m f) (hn : n ≤ n') (hm : m ≤ m') : jf I n' m' f := ⟨h.nx, h.cl, h.tb, Nat.le_trans h.ln hn, Nat.le_trans h.lt hm, h.lc⟩
theorem flow_bd (hp : yO p) (h : inI I p = true) {x : Ins} (hx : x.Ok) (hb : 0 ≤ x.bank ∧ x.bank < 256) : jf I 300 600 (yU I x p) := by
 have hf := fall_bd (I := I) hp x
 unfold yU
 split
 ·split
  ·rename_i q hq
   exact ⟨hf.nx, fun y hy => by rw [List.mem_singleton.1 hy]; exact target_inU h hx hb hq, hf.tb, Nat.le_trans hf.ln (by omega), Nat.le_trans hf.lt (by omega), by simp⟩
  ·exact (hf.flag _ true _).wide (by omega) (by omega)
 ·split
  ·exact (hf.add fun q hq => target_inU h hx hb hq).wide (by omega) (by omega)
  ·split
   ·exact ((hf.add fun q hq => target_inU h hx hb hq).tab h x x.bank.toNat).wide (by omega) (by omega)
   ·split
    ·exact (hf.flag _ _ true).wide (by omega) (by omega)
    ·split
     ·exact (hf.flag _ true _).wide (by omega) (by omega)
     ·exact hf.wide (by omega) (by omega)
theorem fl_bd (hp : yO p) (h : okI I p) : jf I 300 600 (fl I p) := flow_bd hp (ok_at h).ii (ins_bd h).1 (ins_bd h).2.2
end
theorem Rch.ok {I : zk} {e p : zb} (he : yO e) (h : Rch I e p) : p = e ∨ inU p := by
 induction h with
 | start => exact .inl rfl
 | step h1 h2 h3 ih => exact .inr ((fl_bd (ih.elim (fun h => h ▸ he) (·.ok)) h2).nx _ h3)
theorem Rch.plOk {I : zk} {e p : zb} (he : yO e) (h : Rch I e p) : yO p := (h.ok he).elim (fun h => h ▸ he) (·.ok)
def univ (e : zb) : List zb := e :: (List.range 256).flatMap fun b : Nat => (List.range 65536).map fun a : Nat => (⟨(b : Int), (a : Int)⟩ : zb)
theorem mem_univ {e p : zb} (h : p = e ∨ inU p) : p ∈ univ e := by
 rcases h with rfl | h
 ·simp [univ]
 ·refine List.mem_cons_of_mem _ (List.mem_flatMap.2 ⟨p.bank.toNat, ?_, List.mem_map.2 ⟨p.addr.toNat, ?_, ?_⟩⟩)
  ·unfold inU at h; simp only [List.mem_range]; omega
  ·unfold inU at h; simp only [List.mem_range]; omega
  ·unfold inU at h; exact zb.ext' (by dsimp only; omega) (by dsimp only; omega)
theorem flat_len {α β : Type} (f : α → List β) (k : Nat) : ∀ l : List α, (∀ x ∈ l, (f x).length = k) → (l.flatMap f).length = l.length * k
 | [], _ => by simp
 | x :: l, h => by
  rw [List.flatMap_cons, List.length_append, h x (by simp), flat_len f k l fun y hy => h y (by simp [hy]), List.length_cons, Nat.add_mul]
  omega
theorem univ_len (e : zb) : (univ e).length = 16777217 := by
 unfold univ
 rw [List.length_cons, flat_len _ 65536 _ (fun x _ => by rw [List.length_map, List.length_range]), List.length_range]
def lack (U D : List zb) : Nat := U.countP fun p => decide (p ∉ D)
theorem lack_lt {U D : List zb} {p : zb} (hU : p ∈ U) (hD : p ∉ D) : lack U (D ++ [p]) + 1 ≤ lack U D := by
 unfold lack
 induction U with
 | nil => simp at hU
 | cons x U ih =>
  have hle : U.countP (fun q => decide (q ∉ D ++ [p])) ≤ U.countP (fun q => decide (q ∉ D)) :=
   List.countP_mono_left fun q _ hq => by
    simp only [decide_eq_true_eq, List.mem_append, not_or] at hq ⊢
    exact hq.1
  rw [List.countP_cons, List.countP_cons]
  by_cases hx : x = p
  ·subst hx
   rw [if_neg (by simp), if_pos (by simpa using hD)]
   omega
  ·have := ih (by rcases List.mem_cons.1 hU with e | e; exact absurd e.symm hx; exact e)
   by_cases hxd : x ∈ D
   ·rw [if_neg (by simp [hxd]), if_neg (by simp [hxd])]; omega
   ·rw [if_pos (by simp [hxd, hx]), if_pos (by simp [hxd])]; omega
structure RtI (I : zk) (e : zb) (D Q : List zb) : Prop where
 nd : D.Nodup
 st : e ∈ D ∨ e ∈ Q
 rd : ∀ p ∈ D, Rch I e p
 rq : ∀ p ∈ Q, Rch I e p
 cl : ∀ p ∈ D, okI I p → ∀ q ∈ (fl I p).nx, q ∈ D ∨ q ∈ Q
theorem RtI.start (I : zk) (e : zb) : RtI I e [] [e] := ⟨List.nodup_nil, .inr (by simp), by simp, fun p hp => by rw [List.mem_singleton.1 hp]; exact .start, by simp⟩
section
variable {I : zk} {e : zb} {D Q Q' : List zb} {p : zb}
theorem RtI.same (h : RtI I e D Q) (hq : ∀ x, x ∈ Q ↔ x ∈ Q') : RtI I e D Q' :=
 ⟨h.nd, h.st.imp id (hq _).1, h.rd, fun x hx => h.rq x ((hq x).2 hx), fun x hx ho q hq' => (h.cl x hx ho q hq').imp id (hq q).1⟩
theorem RtI.skip (h : RtI I e D (p :: Q)) (hp : p ∈ D) : RtI I e D Q := by
 have k : ∀ x, x ∈ D ∨ x ∈ p :: Q → x ∈ D ∨ x ∈ Q := fun x hx => hx.elim .inl fun hx => (List.mem_cons.1 hx).elim (fun e => .inl (e ▸ hp)) .inr
 exact ⟨h.nd, k _ h.st, h.rd, fun x hx => h.rq x (by simp [hx]), fun x hx ho q hq => k _ (h.cl x hx ho q hq)⟩
theorem RtI.visit (h : RtI I e D (p :: Q)) (hp : p ∉ D) {N : List zb} (hN : okI I p → N = (fl I p).nx) (hN' : ¬ okI I p → N = []) : RtI I e (D ++ [p]) (Q ++ N) := by
 have k : ∀ x, x ∈ D ∨ x ∈ p :: Q → x ∈ D ++ [p] ∨ x ∈ Q ++ N := fun x hx => by
  rcases hx with hx | hx
  ·exact .inl (by simp [hx])
  ·rcases List.mem_cons.1 hx with rfl | hx
   ·exact .inl (by simp)
   ·exact .inr (by simp [hx])
 refine ⟨List.nodup_append.2 ⟨h.nd, by simp, fun a ha b hb => ?_⟩, k _ h.st, fun x hx => ?_, fun x hx => ?_, fun x hx ho q hq => ?_⟩
 ·rw [List.mem_singleton.1 hb]; rintro rfl; exact hp ha
 ·rcases List.mem_append.1 hx with hx | hx
  ·exact h.rd x hx
  ·rw [List.mem_singleton.1 hx]; exact h.rq p (by simp)
 ·rcases List.mem_append.1 hx with hx | hx
  ·exact h.rq x (by simp [hx])
  ·by_cases ho : okI I p
   ·rw [hN ho] at hx; exact .step (h.rq p (by simp)) ho hx
   ·rw [hN' ho] at hx; simp at hx
 ·rcases List.mem_append.1 hx with hx | hx
  ·exact k _ (h.cl x hx ho q hq)
  ·rw [List.mem_singleton.1 hx] at ho hq
   exact .inr (by rw [hN ho]; simp [hq])
theorem RtI.done (h : RtI I e D []) (x : zb) : x ∈ D ↔ Rch I e x := by
 refine ⟨h.rd x, fun hx => ?_⟩
 induction hx with
 | start => exact h.st.elim id (by simp)
 | step h1 h2 h3 ih => exact (h.cl _ ih h2 _ h3).elim id (by simp)
theorem RtI.len (h : RtI I e D Q) (he : yO e) : D.length ≤ 16777217 := by
 rw [← univ_len e]
 exact yw h.nd fun x hx => mem_univ ((h.rd x hx).ok he)
theorem RtI.lower (h : RtI I e D (p :: Q)) (he : yO e) (hp : p ∉ D) : lack (univ e) (D ++ [p]) + 1 ≤ lack (univ e) D := lack_lt (mem_univ ((h.rq p (by simp)).ok he)) hp
end
end Go.Proofs.YteofmaiojepdkaaGreat
