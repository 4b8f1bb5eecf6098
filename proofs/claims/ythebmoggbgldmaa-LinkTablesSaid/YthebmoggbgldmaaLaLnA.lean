/- Chapter 19 in plain Lean: the code of a chunk is decoded line by line, branches reach their labels, tables hold the addresses of theirs. No condition beyond what each law states. -/
import Derived.Test.YthebmoggbgldmaaLaLkR
set_option linter.all false
namespace Go.Proofs.Ythebmoggbgldmaa
open Go Go.RowKit Go.Maps
structure MdE (E : zL) : Prop where
 ok : E.Ok
 chunk : xP E.ls 0 0
 made : ∀ (i : Nat) (l : zu), E.ls[i]? = some l → MadeOk E.ls.length 0 0 i l
 fs : E.funcs = []
 ds : E.data = []
 lo : 4096 ≤ E.pl.addr
 hi : E.pl.addr < 6096
 bk : 0 ≤ E.pl.bank ∧ E.pl.bank < 64
section
variable {E : zL} (h : MdE E)
include h
theorem MdE.cok : xP E.ls E.funcs.length E.data.length := by rw [h.fs, h.ds]; exact h.chunk
theorem MdE.fok : ∀ p ∈ E.funcs, yp p = true := fun p hp => by rw [h.fs] at hp; cases hp
theorem MdE.form {k : Nat} (hk : k < E.ls.length) : zK E.ls[k].ins.op ≠ 0 := xx (h.chunk.2 _ (List.getElem_mem hk))
theorem MdE.right : E.Right := ⟨h.cok, by unfold yp; have := h.lo; have := h.hi; have := h.bk; simp; omega, h.fok⟩
theorem MdE.line {k : Nat} (hk : k < E.ls.length) : zQ (z6 (E.insL k (E.tabsTo k).length E.ls[k])) = true ∧ (z6 (E.insL k (E.tabsTo k).length E.ls[k])).size = E.off (k + 1) - E.off k ∧ (z6 (E.insL k (E.tabsTo k).length E.ls[k])).Ok := by
 obtain ⟨h1, h2⟩ := line_valid h.ok h.cok h.fok hk (E.tabsTo k).length
 exact ⟨h1, h2, insL_ok h.ok (List.getElem?_eq_getElem hk) (h.form hk) _⟩
theorem MdE.step {k : Nat} (hk : k < E.ls.length) : E.off k < E.off (k + 1) ∧ E.off (k + 1) ≤ E.off k + 8 := by
 obtain ⟨h1, h2, h3⟩ := h.line hk
 obtain ⟨e1, -, e3⟩ := enc_valid _ h3 h1
 have h4 := sizeS_rng ((E.insL k (E.tabsTo k).length E.ls[k]).op % 256)
 have h5 : (z6 (E.insL k (E.tabsTo k).length E.ls[k])).size = zH ((E.insL k (E.tabsTo k).length E.ls[k]).op % 256) := rfl
 rw [e1] at e3
 simp only [List.length_cons] at e3
 omega
theorem MdE.mono {i j : Nat} (hij : i ≤ j) (hj : j ≤ E.ls.length) : E.off i ≤ E.off j := off_mono h.ok.zo hij (by rw [h.ok.zl]; exact hj)
theorem MdE.clen : ((E.codeTo E.ls.length).length : Int) = E.off E.ls.length := codeTo_len h.ok h.cok h.fok _ (zn _)
theorem MdE.len : (E.code.length : Int) = E.off E.ls.length + (E.tabsTo E.ls.length).length := by
 have := h.clen
 show ((E.codeTo E.ls.length ++ E.tabsTo E.ls.length).length : Int) = _
 rw [List.length_append]
 omega
theorem code_pre : ∀ (d k : Nat), k + d ≤ E.ls.length → ∃ r, E.codeTo (k + d) = E.codeTo k ++ r := by
 intro d
 induction d with
 | zero => intro k _; exact ⟨[], by simp⟩
 | succ d ih =>
  intro k hk
  obtain ⟨r, hr⟩ := ih k (by omega)
  exact ⟨r ++ E.lineB (k + d) (E.tabsTo (k + d)).length E.ls[k + d], by rw [show k + (d + 1) = (k + d) + 1 by omega, jT E (by omega), hr, List.append_assoc]⟩
theorem tabs_pre : ∀ (d k : Nat), k + d ≤ E.ls.length → ∃ r, E.tabsTo (k + d) = E.tabsTo k ++ r := by
 intro d
 induction d with
 | zero => intro k _; exact ⟨[], by simp⟩
 | succ d ih =>
  intro k hk
  obtain ⟨r, hr⟩ := ih k (by omega)
  exact ⟨r ++ E.tabB E.ls[k + d], by rw [show k + (d + 1) = (k + d) + 1 by omega, x6 E (by omega), hr, List.append_assoc]⟩
theorem MdE.drop {k : Nat} (hk : k < E.ls.length) : ∃ r, E.code.drop (E.off k).toNat = xl (z6 (E.insL k (E.tabsTo k).length E.ls[k])) ++ r := by
 obtain ⟨r, hr⟩ := code_pre h (E.ls.length - (k + 1)) (k + 1) (by omega)
 rw [show k + 1 + (E.ls.length - (k + 1)) = E.ls.length by omega, jT E hk] at hr
 have hl := codeTo_len h.ok h.cok h.fok k (by omega)
 refine ⟨r ++ E.tabsTo E.ls.length, ?_⟩
 unfold zL.code
 rw [hr, List.append_assoc, List.append_assoc, ← hl, Int.toNat_natCast, List.drop_left]
 show E.lineB k (E.tabsTo k).length E.ls[k] ++ _ = _
 unfold zL.lineB
 rfl
theorem MdE.dec {k : Nat} (hk : k < E.ls.length) : decE (zO (E.code.drop (E.off k).toNat)) = 0 ∧ decI (zO (E.code.drop (E.off k).toNat)) = z6 (E.insL k (E.tabsTo k).length E.ls[k]) := by
 obtain ⟨r, hr⟩ := h.drop hk
 obtain ⟨h1, h2, h3⟩ := h.line hk
 rw [hr, ← strOf_app]
 exact dec_enc _ h3 h1 _
theorem MdE.lab {t : Int} (ht : (yI E.ls t).isSome = true) : labN E.ls t = t.toNat ∧ 0 ≤ t ∧ t < E.ls.length := by
 have hl : ∀ (i : Nat) (l : zu), E.ls[i]? = some l → l.label = i := fun i l hl => (h.made i l hl).lab
 rw [labF_made hl t] at ht
 unfold labT at ht
 split at ht
 ·rename_i hr
  refine ⟨?_, hr⟩
  unfold labN
  rw [labF_made hl t]
  unfold labT
  rw [if_pos hr]
  rfl
 ·cases ht
theorem MdE.win (hf : E.fits = true) {k : Nat} (hk : k < E.ls.length) : 0 ≤ E.off k ∧ E.pl.addr + E.off k < 8192 := by
 have h1 := h.step hk
 have h2 := h.mono (show k + 1 ≤ E.ls.length by omega) (zn _)
 have h3 := h.len
 have h4 := (h.ok.off (show k ≤ E.ls.length by omega)).1
 have h5 := h.lo
 have h6 := h.hi
 unfold zL.fits at hf
 have hf := of_decide_eq_true hf
 refine ⟨h4, ?_⟩
 omega
theorem jump_rel {op : Int} (hf : zK op = 2) : relS (yW op 2) = true ∧ relS (yW op 3) = true := by
 have key : ∀ s : Int, (s = 2 ∨ s = 3) → relS (yW op s) = true := fun s hs => by
  unfold yW
  cases hc : xN op with
  | false => rcases hs with rfl | rfl <;> simp [relS]
  | true =>
   simp [xN] at hc
   rcases hs with rfl | rfl
   ·simp only [Bool.true_eq_false, false_and, if_false, true_and, reduceCtorEq, relS]
    by_cases h1 : 112 ≤ op
    ·rw [if_pos h1]; simp; omega
    ·rw [if_neg h1]; simp; omega
   ·simp only [Bool.true_eq_false, false_and, if_false, true_and, reduceCtorEq, relS]
    by_cases h1 : op < 112
    ·simp [h1]; omega
    ·simp [h1]; omega
 exact ⟨key 2 (.inl rfl), key 3 (.inr rfl)⟩
theorem MdE.goes (hf : E.fits = true) {k : Nat} (hk : k < E.ls.length) (hb : zK E.ls[k].ins.op = 2 ∨ zK E.ls[k].ins.op = 3) :
  ∃ j : Nat, E.ls[k].dest = j ∧ j < E.ls.length ∧ targetS (z6 (E.insL k (E.tabsTo k).length E.ls[k])) ⟨E.pl.bank, E.pl.addr + E.off k⟩ = (⟨E.pl.bank, E.pl.addr + E.off j⟩, true) := by
 obtain ⟨h1, h2, h3⟩ := h.line hk
 have hlb : (yI E.ls E.ls[k].dest).isSome = true := by
  rcases hb with hb | hb
  ·exact (h.ok.br k _ (List.getElem?_eq_getElem hk) hb).1
  ·exact (h.ok.tb _ (List.getElem_mem hk) hb).1
 obtain ⟨hln, hd0, hd1⟩ := h.lab hlb
 obtain ⟨j, hj⟩ := Int.eq_ofNat_of_zero_le hd0
 have hj' : E.ls[k].dest = j := hj
 have hjl : j < E.ls.length := by omega
 refine ⟨j, hj', hjl, ?_⟩
 have hlab : E.lab E.ls[k].dest = E.off j := by unfold zL.lab; rw [hln, hj']; rfl
 have hw1 := h.win hf hk
 have hw2 := h.win hf hjl
 have hlo := h.lo
 have himm : relS (z6 (E.insL k (E.tabsTo k).length E.ls[k])).op = true ∧ (z6 (E.insL k (E.tabsTo k).length E.ls[k])).imm = (E.off j - E.off (k + 1)) % 65536 := by
  rcases hb with hb | hb
  ·have e : E.insL k (E.tabsTo k).length E.ls[k] = ⟨yW E.ls[k].ins.op (E.off (k + 1) - E.off k), 0, 0, (E.lab E.ls[k].dest - E.off (k + 1)) % 65536, 0, 0, 0⟩ := by
    unfold zL.insL
    rw [if_neg (by omega), if_pos hb]
   rw [e, hlab]
   refine ⟨?_, rfl⟩
   show relS (yW E.ls[k].ins.op (E.off (k + 1) - E.off k)) = true
   rcases (h.ok.br k _ (List.getElem?_eq_getElem hk) hb).2 with e2 | e2
   ·rw [e2]; exact (jump_rel h hb).1
   ·rw [e2]; exact (jump_rel h hb).2
  ·have e : E.insL k (E.tabsTo k).length E.ls[k] = ⟨133, E.ls[k].ins.d, 0, (E.lab E.ls[k].dest - E.off (k + 1)) % 65536, (E.pl.addr + E.off E.ls.length + (E.tabsTo k).length) % 65536, E.ls[k].tab.length, 0⟩ := by
    unfold zL.insL
    rw [if_neg (by omega), if_neg (by omega), if_neg (by omega)]
   rw [e, hlab]
   exact ⟨rfl, rfl⟩
 unfold targetS
 have ht : tgt (z6 (E.insL k (E.tabsTo k).length E.ls[k])) ⟨E.pl.bank, E.pl.addr + E.off k⟩ = E.pl.addr + E.off j := by
  unfold tgt
  rw [h2, himm.2]
  show (E.pl.addr + E.off k + (E.off (k + 1) - E.off k) + (E.off j - E.off (k + 1)) % 65536) % 65536 = _
  omega
 rw [h1, himm.1, ht]
 have hwa : winS (E.pl.addr + E.off j) = true := by unfold winS; simp; omega
 have hwb : winS (E.pl.addr + E.off k) = true := by unfold winS; simp; omega
 simp only [if_true, hwa, hwb]
theorem MdE.small (hn : E.ls.length ≤ 20) : E.fits = true := by
 have hF : ∀ l ∈ E.ls, zK l.ins.op ≠ 0 := fun l hl => xx (h.chunk.2 l hl)
 have h1 := (codeTo_ok h.ok hF E.ls.length (zn _)).2
 have h2 : ∀ k, k ≤ E.ls.length → (E.tabsTo k).length ≤ 18 * k := by
  intro k
  induction k with
  | zero => intro _; exact zn _
  | succ k ih =>
   intro hk
   have := ih (by omega)
   rw [x6 E (by omega), List.length_append]
   have h3 := tabB_len E E.ls[k]
   have h4 := (h.made k _ (List.getElem?_eq_getElem (by omega))).tl
   omega
 have h3 := h2 E.ls.length (zn _)
 have h4 := h.lo
 have h5 := h.hi
 unfold zL.fits
 refine decide_eq_true ?_
 show E.pl.addr % 4096 + ((E.codeTo E.ls.length ++ E.tabsTo E.ls.length).length : Int) ≤ 4096
 rw [List.length_append]
 omega
theorem MdE.tab (hf : E.fits = true) {k : Nat} (hk : k < E.ls.length) (ht : 0 < E.ls[k].tab.length) :
  zK E.ls[k].ins.op = 3 ∧ (z6 (E.insL k (E.tabsTo k).length E.ls[k])).bank = E.ls[k].tab.length ∧ (z6 (E.insL k (E.tabsTo k).length E.ls[k])).aux = E.pl.addr + (E.off E.ls.length + (E.tabsTo k).length) ∧
  (E.tabsTo (k + 1)).length = (E.tabsTo k).length + 2 * E.ls[k].tab.length ∧ E.off E.ls.length + (E.tabsTo (k + 1)).length ≤ E.code.length ∧
  ∀ (m : Nat) (t : Int), E.ls[k].tab[m]? = some t → ∃ j : Nat, t = j ∧ j < E.ls.length ∧
   E.code[(E.off E.ls.length).toNat + (E.tabsTo k).length + 2 * m]? = some ((E.pl.addr + E.off j) % 256) ∧ E.code[(E.off E.ls.length).toNat + (E.tabsTo k).length + 2 * m + 1]? = some ((E.pl.addr + E.off j) / 256) := by
 have hform : zK E.ls[k].ins.op = 3 := by
  have h1 := h.chunk.2 _ (List.getElem_mem hk)
  rcases xL E.ls[k].ins.op with e | e | e | e | e
  all_goals first | exact e | (exfalso; unfold zY at h1; rw [e] at h1; simp at h1; done) | (exfalso; unfold zY at h1; rw [e] at h1; simp at h1; have h2 := h1.1; simp_all; done)
 have e : E.insL k (E.tabsTo k).length E.ls[k] = ⟨133, E.ls[k].ins.d, 0, (E.lab E.ls[k].dest - E.off (k + 1)) % 65536, (E.pl.addr + E.off E.ls.length + (E.tabsTo k).length) % 65536, E.ls[k].tab.length, 0⟩ := by
  unfold zL.insL
  rw [if_neg (by omega), if_neg (by omega), if_neg (by omega)]
 have hlen := h.len
 have hlo := h.lo
 have hhi := h.hi
 have hf' := hf
 unfold zL.fits at hf'
 have hf' := of_decide_eq_true hf'
 have ho := (h.ok.off (zn E.ls.length)).1
 obtain ⟨r, hr⟩ := tabs_pre h (E.ls.length - (k + 1)) (k + 1) (by omega)
 rw [show k + 1 + (E.ls.length - (k + 1)) = E.ls.length by omega] at hr
 have hr2 := hr
 rw [x6 E hk] at hr2
 have htb : E.tabB E.ls[k] = E.ls[k].tab.flatMap E.cellT := by unfold zL.tabB; rw [if_pos hform]
 have hfl : ∀ t : List Int, (t.flatMap E.cellT).length = 2 * t.length := fun t => by
  induction t with
  | nil => rfl
  | cons a t ih => rw [List.flatMap_cons, List.length_append, ih, List.length_cons]; show 2 + _ = _; omega
 have hl2 : (E.tabsTo (k + 1)).length = (E.tabsTo k).length + 2 * E.ls[k].tab.length := by rw [x6 E hk, List.length_append, htb, hfl]
 have hl3 : (E.tabsTo (k + 1)).length ≤ (E.tabsTo E.ls.length).length := by rw [hr, List.length_append]; omega
 refine ⟨hform, by rw [e]; first | done | rfl, ?_, hl2, by omega, fun m t hm => ?_⟩
 ·rw [e]
  show (E.pl.addr + E.off E.ls.length + (E.tabsTo k).length) % 65536 = _
  omega
 ·have hml := (List.getElem?_eq_some_iff.1 hm).1
  obtain ⟨hln, ht0, ht1⟩ := h.lab ((h.ok.tb _ (List.getElem_mem hk) hform).2 t (List.mem_of_getElem? hm))
  obtain ⟨j, hj⟩ := Int.eq_ofNat_of_zero_le ht0
  have hj' : t = j := hj
  have hjl : j < E.ls.length := by omega
  have hw := h.win hf hjl
  have hlab : E.lab t = E.off j := by unfold zL.lab; rw [hln, hj']; rfl
  have hget : ∀ (xs : List Int) (m : Nat) (t : Int), xs[m]? = some t → (xs.flatMap E.cellT)[2 * m]? = some (((E.pl.addr + E.lab t) % 65536) % 256) ∧ (xs.flatMap E.cellT)[2 * m + 1]? = some (((E.pl.addr + E.lab t) % 65536) / 256) := by
   intro xs
   induction xs with
   | nil => intro m t hm; simp at hm
   | cons a xs ih =>
    intro m t hm
    rw [List.flatMap_cons]
    have hc : (E.cellT a).length = 2 := rfl
    cases m with
    | zero =>
     simp at hm
     subst hm
     exact ⟨rfl, rfl⟩
    | succ m =>
     obtain ⟨i1, i2⟩ := ih m t (by simpa using hm)
     rw [List.getElem?_append_right (by omega), List.getElem?_append_right (by omega), hc]
     rw [show 2 * (m + 1) - 2 = 2 * m by omega, show 2 * (m + 1) + 1 - 2 = 2 * m + 1 by omega]
     exact ⟨i1, i2⟩
  obtain ⟨g1, g2⟩ := hget _ m t hm
  have hcl := h.clen
  have hE : ∀ (q : Nat) (x : Int), q < 2 * E.ls[k].tab.length → (E.ls[k].tab.flatMap E.cellT)[q]? = some x → E.code[(E.off E.ls.length).toNat + (E.tabsTo k).length + q]? = some x := fun q x hq hx => by
   unfold zL.code
   rw [List.getElem?_append_right (by omega), hr2, show (E.off E.ls.length).toNat + (E.tabsTo k).length + q - (E.codeTo E.ls.length).length = (E.tabsTo k).length + q by omega, List.append_assoc, List.getElem?_append_right (by omega), show (E.tabsTo k).length + q - (E.tabsTo k).length = q by omega, htb, List.getElem?_append_left (by rw [hfl]; omega)]
   exact hx
  refine ⟨j, hj', hjl, ?_, ?_⟩
  ·rw [hE _ _ (by omega) g1, hlab]
   congr 1
   omega
  ·rw [Nat.add_assoc, hE _ _ (by omega) g2, hlab]
   congr 1
   omega
end
end Go.Proofs.Ythebmoggbgldmaa
