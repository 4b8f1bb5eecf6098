/- Chapter 19 in plain Lean: the code of a chunk at a place. No condition. -/
import Derived.Test.YthebmoggbgldmaaLaRefC3
set_option linter.all false
namespace Go.Proofs.Ythebmoggbgldmaa
structure zu where
 label : Int
 ins : Ins
 dest : Int
 fn : Int
 obj : Int
 tab : List Int
def xN (op : Int) : Bool := (decide (96 ≤ op) && decide (op < 110)) || (decide (112 ≤ op) && decide (op < 126))
def zK (op : Int) : Int :=
 if xN op || op == 128 || op == 129 then 2 else if op == 133 then 3 else if op == 130 || op == 132 || op == 131 then 4
 else if op == 134 || decide (op < 0) || decide (255 < op) || zH op == 0 then 0 else 1
def xR (op : Int) : Bool :=
 (decide (64 ≤ op) && decide (op ≤ 78)) || (decide (84 ≤ op) && decide (op ≤ 87)) || (decide (88 ≤ op) && decide (op ≤ 91)) || op == 150 || op == 146 || op == 147
theorem xL (op : Int) : zK op = 0 ∨ zK op = 1 ∨ zK op = 2 ∨ zK op = 3 ∨ zK op = 4 := by
 unfold zK; split
 ·exact .inr (.inr (.inl rfl))
 ·split
  ·exact .inr (.inr (.inr (.inl rfl)))
  ·split
   ·exact .inr (.inr (.inr (.inr rfl)))
   ·split
    ·exact .inl rfl
    ·exact .inr (.inl rfl)
def yI (ls : List zu) (n : Int) : Option Nat := if n < 0 then none else ls.findIdx? (fun l => l.label == n)
def LabsOk (ls : List zu) : Prop := ∀ k (h : k < ls.length), ls[k].label = -1 ∨ (0 ≤ ls[k].label ∧ yI (ls.take k) ls[k].label = none)
theorem labF_neg {ls : List zu} {n : Int} (h : n < 0) : yI ls n = none := by unfold yI; rw [if_pos h]
theorem labF_nil (n : Int) : yI [] n = none := by unfold yI; split <;> rfl
theorem labF_lt {ls : List zu} {n : Int} {k : Nat} (h : yI ls n = some k) : ∃ hk : k < ls.length, ls[k].label = n ∧ 0 ≤ n := by
 unfold yI at h
 by_cases h0 : n < 0
 ·rw [if_pos h0] at h; cases h
 ·rw [if_neg h0] at h
  obtain ⟨hk, h1, -⟩ := List.findIdx?_eq_some_iff_getElem.1 h
  exact ⟨hk, by simpa using h1, by omega⟩
theorem labF_none {ls : List zu} {n : Int} (h0 : 0 ≤ n) : yI ls n = none ↔ ∀ l ∈ ls, l.label ≠ n := by
 unfold yI; rw [if_neg (by omega)]
 simp [List.findIdx?_eq_none_iff]
theorem labF_snoc (ls : List zu) (l : zu) (n : Int) (h : yI ls l.label = none) (h0 : 0 ≤ l.label) : yI (ls ++ [l]) n = if n = l.label then some ls.length else yI ls n := by
 by_cases hn : n < 0
 ·rw [labF_neg hn, labF_neg hn, if_neg (by omega)]
 ·by_cases e : n = l.label
  ·rw [if_pos e]; subst e
   unfold yI at *
   rw [if_neg hn] at *
   rw [List.findIdx?_append, h]; simp
  ·rw [if_neg e]
   unfold yI
   rw [if_neg hn, if_neg hn, List.findIdx?_append]
   have : (l.label == n) = false := by simp [Ne.symm e]
   simp [this]
theorem labF_snoc_no (ls : List zu) (l : zu) (n : Int) (h : l.label = -1) : yI (ls ++ [l]) n = yI ls n := by
 unfold yI
 by_cases hn : n < 0
 ·rw [if_pos hn, if_pos hn]
 ·rw [if_neg hn, if_neg hn, List.findIdx?_append]
  have : (l.label == n) = false := by simp; omega
  simp [this]
def zY (L : Int → Option Nat) (nf no : Nat) (l : zu) : Bool :=
 let f := zK l.ins.op
 let jumps := f == 2 || f == 3
 !(f == 0 || (jumps && (L l.dest).isNone) || (!jumps && l.dest != -1) || (f != 4 && l.fn != -1) || (f != 1 && l.obj != -1) || (f != 3 && decide (0 < l.tab.length))) &&
 (f == 2 || (f == 4 && decide (0 ≤ l.fn) && decide (l.fn < nf)) ||
 (f == 3 && decide (0 ≤ l.ins.d) && decide (l.ins.d < 8) && decide (0 < l.tab.length) && decide (l.tab.length < 256) && l.tab.all (fun n => (L n).isSome)) ||
 (f == 1 && zQ { l.ins with size := zH l.ins.op } && (l.obj == -1 || (xR l.ins.op && decide (0 ≤ l.obj) && decide (l.obj < no)))))
def xP (ls : List zu) (nf no : Nat) : Prop := LabsOk ls ∧ ∀ l ∈ ls, zY (yI ls) nf no l = true
def xQ (n : Int) : List zu → Nat → Int → Int
 | [], _, at_ => at_
 | l :: ls, i, at_ => if l.label = n ∧ 0 ≤ n then (if at_ ≠ -1 then -2 else xQ n ls (i + 1) i) else xQ n ls (i + 1) at_
def xg (ls : List zu) (n : Int) : Int := xQ n ls 0 (-1)
def xu (ls : List zu) (nf no : Nat) (l : zu) : Bool :=
 if l.label < -1 ∨ (0 ≤ l.label ∧ xg ls l.label < 0) then false else
 let f := zK l.ins.op
 if (f ≠ 3 ∧ 0 < l.tab.length) ∨ (f ≠ 1 ∧ l.obj ≠ -1) ∨ (f ≠ 4 ∧ l.fn ≠ -1) ∨ ((f = 1 ∨ f = 4) ∧ l.dest ≠ -1) then false else
 if (f = 2 ∨ f = 3) ∧ xg ls l.dest < 0 then false else
 if f = 1 then zR { l.ins with size := zp l.ins.op } && (l.obj == -1 || (decide (0 ≤ l.obj) && decide (l.obj < no) && xR l.ins.op)) else
 if f = 2 then true else
 if f = 4 then decide (0 ≤ l.fn) && decide (l.fn < nf) else
 if f = 3 then !(decide (l.ins.d < 0) || decide (7 < l.ins.d) || decide (l.tab.length < 1) || decide (255 < l.tab.length)) && l.tab.all (fun n => decide (0 ≤ xg ls n)) else false
def jy (ls : List zu) (nf no : Nat) : Bool := ls.all (xu ls nf no)
theorem rlabGo_found (n : Int) (h0 : 0 ≤ n) : ∀ (ls : List zu) (i : Nat) (k : Int), k ≠ -1 → xQ n ls i k = if ∃ l ∈ ls, l.label = n then -2 else k := by
 intro ls
 induction ls with
 | nil => intro i k _; simp [xQ]
 | cons l ls ih =>
  intro i k hk
  unfold xQ
  by_cases e : l.label = n
  ·rw [if_pos ⟨e, h0⟩, if_pos hk, if_pos ⟨l, by simp, e⟩]
  ·rw [if_neg (fun h => e h.1), ih _ _ hk]
   simp [e]
theorem rlabGo_none (n : Int) : ∀ (ls : List zu) (i : Nat), (∀ l ∈ ls, ¬ (l.label = n ∧ 0 ≤ n)) → xQ n ls i (-1) = -1 := by
 intro ls
 induction ls with
 | nil => intro i _; rfl
 | cons l ls ih =>
  intro i h
  unfold xQ
  rw [if_neg (h l (by simp))]
  exact ih _ fun m hm => h m (List.mem_cons_of_mem _ hm)
theorem rlabGo_app (n : Int) (h0 : 0 ≤ n) (l : zu) (hl : l.label = n) : ∀ (ps bs : List zu) (i : Nat), (∀ a ∈ ps, a.label ≠ n) →
  xQ n (ps ++ l :: bs) i (-1) = if ∃ b ∈ bs, b.label = n then -2 else ((i + ps.length : Nat) : Int) := by
 intro ps
 induction ps with
 | nil =>
  intro bs i _
  show xQ n (l :: bs) i (-1) = _
  unfold xQ
  rw [if_pos ⟨hl, h0⟩, if_neg (by simp), rlabGo_found n h0 _ _ _ (by omega)]
  simp
 | cons a ps ih =>
  intro bs i h
  show xQ n (a :: (ps ++ l :: bs)) i (-1) = _
  unfold xQ
  rw [if_neg (fun e => h a (by simp) e.1), ih bs (i + 1) fun m hm => h m (List.mem_cons_of_mem _ hm)]
  have : i + 1 + ps.length = i + (a :: ps).length := by simp; omega
  rw [this]
theorem rlab_neg (ls : List zu) {n : Int} (h : n < 0) : xg ls n = -1 := rlabGo_none n ls 0 fun l _ e => by omega
theorem labF_split {ls : List zu} {n : Int} {k : Nat} (h : yI ls n = some k) : ∃ ps l bs, ls = ps ++ l :: bs ∧ ps.length = k ∧ l.label = n ∧ 0 ≤ n ∧ ∀ a ∈ ps, a.label ≠ n := by
 obtain ⟨hk, h1, h0⟩ := labF_lt h
 refine ⟨ls.take k, ls[k], ls.drop (k + 1), ?_, by simp; omega, h1, h0, ?_⟩
 ·rw [List.getElem_cons_drop, List.take_append_drop]
 ·unfold yI at h
  rw [if_neg (by omega)] at h
  obtain ⟨_, _, h2⟩ := List.findIdx?_eq_some_iff_getElem.1 h
  intro a ha
  obtain ⟨j, hj, rfl⟩ := List.mem_iff_getElem.1 ha
  rw [List.length_take] at hj
  have := h2 j (by omega)
  rw [List.getElem_take]
  simpa using this
theorem rlab_of_labs {ls : List zu} (h : LabsOk ls) (n : Int) : xg ls n = match yI ls n with | some k => (k : Int) | none => -1 := by
 by_cases h0 : n < 0
 ·rw [rlab_neg ls h0, labF_neg h0]
 ·cases hL : yI ls n with
  | none =>
   have := (labF_none (by omega)).1 hL
   exact rlabGo_none n ls 0 fun l hl e => this l hl e.1
  | some k =>
   obtain ⟨ps, l, bs, rfl, hk, hl, _, ha⟩ := labF_split hL
   unfold xg
   rw [rlabGo_app n (by omega) l hl ps bs 0 ha, if_neg ?_]
   ·simp [hk]
   ·rintro ⟨b, hb, e⟩
    obtain ⟨j, hj, rfl⟩ := List.mem_iff_getElem.1 hb
    have h2 := h (ps.length + 1 + j) (by simp; omega)
    have e2 : (ps ++ l :: bs)[ps.length + 1 + j]'(by simp; omega) = bs[j] := by
     rw [List.getElem_append_right (by omega)]
     have : ps.length + 1 + j - ps.length = j + 1 := by omega
     simp only [this, zB]
    rw [e2, e] at h2
    rcases h2 with h2 | ⟨_, h2⟩
    ·omega
    ·have := (labF_none (by omega)).1 h2 l (by
      rw [List.take_append, List.take_of_length_le (by omega)]
      have : ps.length + 1 + j - ps.length = j + 1 := by omega
      rw [this, List.take_succ_cons]
      simp)
     exact this hl
theorem labs_of_rlab {ls : List zu} (h : ∀ l ∈ ls, ¬ (l.label < -1 ∨ (0 ≤ l.label ∧ xg ls l.label < 0))) : LabsOk ls := by
 intro k hk
 have h1 := h ls[k] (List.getElem_mem hk)
 by_cases e : ls[k].label = -1
 ·exact .inl e
 ·refine .inr ⟨by omega, ?_⟩
  cases hL : yI (ls.take k) ls[k].label with
  | none => rfl
  | some j =>
   exfalso
   obtain ⟨ps, l, bs, h2, hj, hl, h0, ha⟩ := labF_split hL
   have h3 : ls = ps ++ l :: (bs ++ ls[k] :: ls.drop (k + 1)) := by
    have : ls = ls.take k ++ ls[k] :: ls.drop (k + 1) := by rw [List.getElem_cons_drop, List.take_append_drop]
    rw [h2] at this
    simpa using this
   have h4 : xg ls ls[k].label = -2 := by
    generalize hq : ls[k] = q at *
    unfold xg
    rw [h3, rlabGo_app _ (by omega) l hl ps _ 0 ha, if_pos ⟨q, by simp, rfl⟩]
   omega
end Go.Proofs.Ythebmoggbgldmaa
namespace Go.Proofs.Ythebmoggbgldmaa
def sz0 (cs : Int → Int) (l : zu) : Int :=
 if zK l.ins.op = 2 then 2 else if zK l.ins.op = 4 ∧ l.ins.op ≠ 131 then cs l.fn else zH (l.ins.op % 256)
def yM (sz : List Int) (k : Nat) : Int := (sz.take k).sum
def labN (ls : List zu) (n : Int) : Nat := (yI ls n).getD 0
def jP (ls : List zu) (sz : List Int) (l : zu) (n : Nat) : Bool :=
 let d := yM sz (labN ls l.dest) - yM sz (n + 1)
 decide (d < -128) || decide (127 < d)
def yx (ls : List zu) (sz : List Int) (l : zu) (s : Int) (n : Nat) : Int :=
 if zK l.ins.op ≠ 2 ∨ s = 3 then s else if jP ls sz l n then 3 else s
def passGo (ls : List zu) (sz : List Int) : List zu → List Int → Nat → List Int
 | l :: r, s :: t, n => yx ls sz l s n :: passGo ls sz r t (n + 1)
 | _, _, _ => []
def xr (ls : List zu) (sz : List Int) : List Int := passGo ls sz ls sz 0
def iterS (ls : List zu) : Nat → List Int → List Int
 | 0, s => s
 | k + 1, s => iterS ls k (xr ls s)
def RelaxR (ls : List zu) (s t : List Int) : Prop := xr ls t = t ∧ ∃ k, iterS ls k s = t
theorem iter_fix {ls : List zu} {t : List Int} (h : xr ls t = t) : ∀ k, iterS ls k t = t := by
 intro k
 induction k with
 | zero => rfl
 | succ k ih => show iterS ls k (xr ls t) = t; rw [h, ih]
theorem iter_add (ls : List zu) : ∀ (i j : Nat) (s : List Int), iterS ls (i + j) s = iterS ls j (iterS ls i s) := by
 intro i
 induction i with
 | zero => intro j s; simp [iterS]
 | succ i ih => intro j s; rw [show i + 1 + j = (i + j) + 1 by omega]; exact ih j _
theorem iter_snoc (ls : List zu) (k : Nat) (s : List Int) : iterS ls (k + 1) s = xr ls (iterS ls k s) := by rw [iter_add]; rfl
theorem relax_uniq {ls : List zu} {s t u : List Int} (h : RelaxR ls s t) (h' : RelaxR ls s u) : t = u := by
 obtain ⟨ht, i, hi⟩ := h
 obtain ⟨hu, j, hj⟩ := h'
 rcases Nat.le_total i j with hh | hh
 ·obtain ⟨d, rfl⟩ := Nat.exists_eq_add_of_le hh
  rw [iter_add, hi, iter_fix ht] at hj
  exact hj
 ·obtain ⟨d, rfl⟩ := Nat.exists_eq_add_of_le hh
  rw [iter_add, hj, iter_fix hu] at hi
  exact hi.symm
noncomputable def finS (ls : List zu) (s : List Int) : List Int := Classical.epsilon (RelaxR ls s)
theorem fin_eq {ls : List zu} {s t : List Int} (h : RelaxR ls s t) : finS ls s = t := relax_uniq (Classical.epsilon_spec (p := RelaxR ls s) ⟨t, h⟩) h
theorem passGo_len (ls : List zu) (sz : List Int) : ∀ (r : List zu) (t : List Int) (n : Nat), r.length = t.length → (passGo ls sz r t n).length = t.length := by
 intro r
 induction r with
 | nil => intro t n h; cases t <;> simp_all [passGo]
 | cons l r ih =>
  intro t n h
  cases t with
  | nil => simp at h
  | cons s t => simp only [passGo, List.length_cons]; rw [ih t (n + 1) (by simpa using h)]
theorem passGo_get (ls : List zu) (sz : List Int) : ∀ (r : List zu) (t : List Int) (n k : Nat) (hr : k < r.length) (ht : k < t.length) (h : k < (passGo ls sz r t n).length), (passGo ls sz r t n)[k] = yx ls sz r[k] t[k] (n + k) := by
 intro r
 induction r with
 | nil => intro t n k hr; simp at hr
 | cons l r ih =>
  intro t n k hr ht h
  cases t with
  | nil => simp at ht
  | cons s t =>
   cases k with
   | zero => rfl
   | succ k =>
    simp only [passGo, zB]
    rw [ih t (n + 1) k (by simpa using hr) (by simpa using ht)]
    rw [show n + 1 + k = n + (k + 1) by omega]
theorem xa {ls : List zu} {sz : List Int} (h : sz.length = ls.length) : (xr ls sz).length = ls.length := by unfold xr; rw [passGo_len _ _ _ _ _ h.symm, h]
theorem pass_get {ls : List zu} {sz : List Int} (h : sz.length = ls.length) (k : Nat) (hk : k < ls.length) : (xr ls sz)[k]'(by rw [xa h]; exact hk) = yx ls sz ls[k] (sz[k]'(by omega)) k := by
 unfold xr
 rw [passGo_get ls sz ls sz 0 k hk (by omega)]
 rw [Nat.zero_add]
theorem iter_len {ls : List zu} : ∀ (k : Nat) {sz : List Int}, sz.length = ls.length → (iterS ls k sz).length = ls.length := by
 intro k
 induction k with
 | zero => intro sz h; exact h
 | succ k ih => intro sz h; exact ih (xa h)
theorem offS_succ (sz : List Int) (k : Nat) (h : k < sz.length) : yM sz (k + 1) = yM sz k + sz[k] := by
 unfold yM
 rw [List.take_succ_eq_append_getElem h, List.sum_append]; simp
theorem offS_zero (sz : List Int) : yM sz 0 = 0 := rfl
def SzOk (sz : List Int) : Prop := ∀ s ∈ sz, 0 ≤ s ∧ s ≤ 8
theorem passAt_ok {ls : List zu} {sz : List Int} {l : zu} {s : Int} {n : Nat} (h : 0 ≤ s ∧ s ≤ 8) : 0 ≤ yx ls sz l s n ∧ yx ls sz l s n ≤ 8 := by
 unfold yx; split
 ·exact h
 ·split
  ·omega
  ·exact h
theorem pass_ok {ls : List zu} {sz : List Int} (hl : sz.length = ls.length) (h : SzOk sz) : SzOk (xr ls sz) := by
 intro s hs
 obtain ⟨k, hk, rfl⟩ := List.mem_iff_getElem.1 hs
 rw [xa hl] at hk
 rw [pass_get hl k hk]
 exact passAt_ok (h _ (List.getElem_mem _))
theorem iter_ok {ls : List zu} : ∀ (k : Nat) {sz : List Int}, sz.length = ls.length → SzOk sz → SzOk (iterS ls k sz) := by
 intro k
 induction k with
 | zero => intro sz _ h; exact h
 | succ k ih => intro sz hl h; exact ih (xa hl) (pass_ok hl h)
theorem off_bd {sz : List Int} (h : SzOk sz) : ∀ k, k ≤ sz.length → 0 ≤ yM sz k ∧ yM sz k ≤ 8 * k := by
 intro k
 induction k with
 | zero => intro _; rw [offS_zero]; omega
 | succ k ih =>
  intro hk
  rw [offS_succ sz k (by omega)]
  have := ih (by omega)
  have := h sz[k] (List.getElem_mem _)
  omega
theorem off_mono {sz : List Int} (h : SzOk sz) {i j : Nat} (hij : i ≤ j) (hj : j ≤ sz.length) : yM sz i ≤ yM sz j := by
 obtain ⟨d, rfl⟩ := Nat.exists_eq_add_of_le hij
 clear hij
 induction d with
 | zero => exact Int.le_refl _
 | succ d ih =>
  have h1 := ih (by omega)
  rw [show i + (d + 1) = (i + d) + 1 by omega, offS_succ sz (i + d) (by omega)]
  have := h sz[i + d] (List.getElem_mem _)
  omega
def left3 (sz : List Int) : Nat := (sz.map fun s => if s = 3 then 0 else 1).sum
theorem passGo_left (ls : List zu) (sz : List Int) : ∀ (r : List zu) (t : List Int) (n : Nat), r.length = t.length → left3 (passGo ls sz r t n) ≤ left3 t ∧ (passGo ls sz r t n ≠ t → left3 (passGo ls sz r t n) < left3 t) := by
 intro r
 induction r with
 | nil => intro t n h; cases t <;> simp_all [passGo]
 | cons l r ih =>
  intro t n h
  cases t with
  | nil => simp at h
  | cons s t =>
   obtain ⟨h1, h2⟩ := ih t (n + 1) (by simpa using h)
   simp only [passGo]
   have e : ∀ (a : Int) (b : List Int), left3 (a :: b) = (if a = 3 then 0 else 1) + left3 b := fun a b => by simp [left3]
   rw [e, e]
   by_cases hp : yx ls sz l s n = s
   ·rw [hp]
    refine ⟨by omega, fun hne => ?_⟩
    have := h2 fun e => hne (by rw [e])
    omega
   ·have h3 : yx ls sz l s n = 3 ∧ s ≠ 3 := by
     unfold yx at hp ⊢
     split at hp
     ·exact absurd rfl hp
     ·rename_i hc
      split at hp
      ·rename_i hf; rw [if_neg hc, if_pos hf]; exact ⟨rfl, fun e => hc (.inr e)⟩
      ·exact absurd rfl hp
    rw [h3.1, if_pos rfl, if_neg h3.2]
    exact ⟨by omega, fun _ => by omega⟩
theorem pass_left {ls : List zu} {sz : List Int} (hl : sz.length = ls.length) (h : xr ls sz ≠ sz) : left3 (xr ls sz) < left3 sz := (passGo_left ls sz ls sz 0 hl.symm).2 h
theorem relax_ex (ls : List zu) : ∀ (m : Nat) (sz : List Int), sz.length = ls.length → left3 sz ≤ m → ∃ t, RelaxR ls sz t := by
 intro m
 induction m with
 | zero =>
  intro sz hl hm
  by_cases h : xr ls sz = sz
  ·exact ⟨sz, h, 0, rfl⟩
  ·have := pass_left hl h; omega
 | succ m ih =>
  intro sz hl hm
  by_cases h : xr ls sz = sz
  ·exact ⟨sz, h, 0, rfl⟩
  ·have := pass_left hl h
   obtain ⟨t, ht, k, hk⟩ := ih (xr ls sz) (xa hl) (by omega)
   exact ⟨t, ht, k + 1, hk⟩
theorem fin_spec {ls : List zu} {s : List Int} (hl : s.length = ls.length) : RelaxR ls s (finS ls s) := Classical.epsilon_spec (p := RelaxR ls s) (relax_ex ls _ s hl (zn _))
theorem fin_len {ls : List zu} {s : List Int} (hl : s.length = ls.length) : (finS ls s).length = ls.length := by
 obtain ⟨-, k, hk⟩ := fin_spec hl
 rw [← hk]; exact iter_len k hl
theorem fin_ok {ls : List zu} {s : List Int} (hl : s.length = ls.length) (h : SzOk s) : SzOk (finS ls s) := by
 obtain ⟨-, k, hk⟩ := fin_spec hl
 rw [← hk]; exact iter_ok k hl h
theorem iter_get {ls : List zu} : ∀ (k : Nat) {sz : List Int} (hl : sz.length = ls.length) (n : Nat) (hn : n < ls.length), (zK ls[n].ins.op ≠ 2 → (iterS ls k sz)[n]'(by rw [iter_len k hl]; exact hn) = sz[n]'(by omega)) ∧ ((sz[n]'(by omega)) = 2 ∨ (sz[n]'(by omega)) = 3 → (iterS ls k sz)[n]'(by rw [iter_len k hl]; exact hn) = 2 ∨ (iterS ls k sz)[n]'(by rw [iter_len k hl]; exact hn) = 3) := by
 intro k
 induction k with
 | zero => intro sz hl n hn; exact ⟨fun _ => rfl, fun h => h⟩
 | succ k ih =>
  intro sz hl n hn
  obtain ⟨h1, h2⟩ := ih (xa hl) n hn
  rw [pass_get hl n hn] at h1 h2
  refine ⟨fun h => (h1 h).trans ?_, fun h => h2 ?_⟩
  ·unfold yx; rw [if_pos (.inl h)]
  ·unfold yx; split
   ·exact h
   ·split
    ·exact .inr rfl
    ·exact h
end Go.Proofs.Ythebmoggbgldmaa
namespace Go.Proofs.Ythebmoggbgldmaa
structure ObjS where
 bank : Int
 addr : Int
 size : Int
def yp (p : yw) : Bool := decide (0 ≤ p.bank) && decide (p.bank < 64) && ((p.bank == 0 && decide (p.addr < 4096)) || (decide (4096 ≤ p.addr) && decide (p.addr < 8192)))
def nearS (a f : yw) : Bool := decide (f.addr < 4096) || (decide (4096 ≤ a.addr) && a.bank == f.bank)
def yW (op size : Int) : Int :=
 if xN op = false ∧ size = 2 then 128 else if xN op = false then 129 else if size = 2 ∧ 112 ≤ op then op - 16 else if size = 3 ∧ op < 112 then op + 16 else op
def yX (op : Int) : Int := if op = 146 ∨ op = 147 then 3 else 2
structure zL where
 ls : List zu
 pl : yw
 funcs : List yw
 data : List ObjS
def zL.fnOf (E : zL) (k : Int) : yw := E.funcs.getD k.toNat ⟨0, 0⟩
def zL.objOf (E : zL) (k : Int) : ObjS := E.data.getD k.toNat ⟨0, 0, 0⟩
def zL.callSz (E : zL) (fn : Int) : Int := if nearS E.pl (E.fnOf fn) then 3 else 4
def zL.szs (E : zL) : List Int := E.ls.map (sz0 E.callSz)
noncomputable def zL.sz (E : zL) : List Int := finS E.ls E.szs
noncomputable def zL.off (E : zL) (k : Nat) : Int := yM E.sz k
noncomputable def zL.lab (E : zL) (n : Int) : Int := E.off (labN E.ls n)
def z6 (i : Ins) : Ins := { i with size := zH (i.op % 256) }
def zL.immP (E : zL) (l : zu) : Int := if 0 ≤ l.obj then (l.ins.imm + (E.objOf l.obj).addr) % 65536 else l.ins.imm
noncomputable def zL.insL (E : zL) (n : Nat) (tabs : Int) (l : zu) : Ins :=
 if zK l.ins.op = 1 then { l.ins with imm := E.immP l }
 else if zK l.ins.op = 2 then ⟨yW l.ins.op (E.off (n + 1) - E.off n), 0, 0, (E.lab l.dest - E.off (n + 1)) % 65536, 0, 0, 0⟩
 else if zK l.ins.op = 4 then
  (if l.ins.op ≠ 131 ∧ nearS E.pl (E.fnOf l.fn) = true then ⟨130, 0, 0, ((E.fnOf l.fn).addr - E.pl.addr - E.off (n + 1)) % 65536, 0, 0, 0⟩
  else if l.ins.op = 131 then ⟨131, 0, 0, (E.fnOf l.fn).addr, 0, (E.fnOf l.fn).bank, zH 131⟩ else ⟨132, 0, 0, (E.fnOf l.fn).addr, 0, (E.fnOf l.fn).bank, zH 132⟩)
 else ⟨133, l.ins.d, 0, (E.lab l.dest - E.off (n + 1)) % 65536, (E.pl.addr + E.off E.ls.length + tabs) % 65536, l.tab.length, 0⟩
noncomputable def zL.lineB (E : zL) (n : Nat) (tabs : Int) (l : zu) : List Int := xl (z6 (E.insL n tabs l))
noncomputable def zL.cellT (E : zL) (t : Int) : List Int := [((E.pl.addr + E.lab t) % 65536) % 256, ((E.pl.addr + E.lab t) % 65536) / 256]
noncomputable def zL.tabB (E : zL) (l : zu) : List Int := if zK l.ins.op = 3 then l.tab.flatMap E.cellT else []
noncomputable def zL.posL (E : zL) (n : Nat) (l : zu) : List Int :=
 if zK l.ins.op = 1 ∧ 0 ≤ l.obj ∧ (E.objOf l.obj).bank = -1 ∧ (E.objOf l.obj).addr ≤ E.immP l ∧ E.immP l - (E.objOf l.obj).addr < (E.objOf l.obj).size then [E.off n + yX l.ins.op] else []
noncomputable def zL.tabsTo (E : zL) : Nat → List Int
 | 0 => []
 | k + 1 => E.tabsTo k ++ (match E.ls[k]? with | some l => E.tabB l | none => [])
noncomputable def zL.codeTo (E : zL) : Nat → List Int
 | 0 => []
 | k + 1 => E.codeTo k ++ (match E.ls[k]? with | some l => E.lineB k (E.tabsTo k).length l | none => [])
noncomputable def zL.posTo (E : zL) : Nat → List Int
 | 0 => []
 | k + 1 => E.posTo k ++ (match E.ls[k]? with | some l => E.posL k l | none => [])
noncomputable def zL.code (E : zL) : List Int := E.codeTo E.ls.length ++ E.tabsTo E.ls.length
noncomputable def zL.pos (E : zL) : List Int := E.posTo E.ls.length
theorem jT (E : zL) {k : Nat} (h : k < E.ls.length) : E.codeTo (k + 1) = E.codeTo k ++ E.lineB k (E.tabsTo k).length E.ls[k] := by
 show E.codeTo k ++ _ = _
 rw [List.getElem?_eq_getElem h]
theorem x6 (E : zL) {k : Nat} (h : k < E.ls.length) : E.tabsTo (k + 1) = E.tabsTo k ++ E.tabB E.ls[k] := by
 show E.tabsTo k ++ _ = _
 rw [List.getElem?_eq_getElem h]
theorem posTo_succ (E : zL) {k : Nat} (h : k < E.ls.length) : E.posTo (k + 1) = E.posTo k ++ E.posL k E.ls[k] := by
 show E.posTo k ++ _ = _
 rw [List.getElem?_eq_getElem h]
def zL.Right (E : zL) : Prop := xP E.ls E.funcs.length E.data.length ∧ yp E.pl = true ∧ ∀ p ∈ E.funcs, yp p = true
noncomputable def zL.fits (E : zL) : Bool := decide (E.pl.addr % 4096 + (E.code.length : Int) ≤ 4096)
end Go.Proofs.Ythebmoggbgldmaa
