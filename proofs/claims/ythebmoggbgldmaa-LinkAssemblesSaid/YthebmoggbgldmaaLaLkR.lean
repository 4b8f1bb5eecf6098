/- What the walks of LinkBranches and LinkTables share: the decoded instructions and the lines' addresses as rows; rows of the call's own, read. No condition beyond what each law states. (Printed by gen_lnb.py.) -/
import Derived.Test.YthebmoggbgldmaaLaLrF
set_option linter.all false
namespace Go.Proofs.Ythebmoggbgldmaa
open Go Go.RowKit Go.Maps
theorem fmt_br : ∀ n : Nat, n < 14 → zw (96 + n) = 10 ∧ zw (112 + n) = 11 ∧ zH (96 + n) = 2 ∧ zH (112 + n) = 3 := by decide +kernel
theorem fmt_j : zw 128 = 10 ∧ zw 129 = 11 ∧ zH 128 = 2 ∧ zH 129 = 3 ∧ zw 130 = 11 ∧ zH 130 = 3 ∧ zw 131 = 12 ∧ zH 131 = 4 ∧ zw 132 = 12 ∧ zH 132 = 4 ∧ zw 133 = 13 ∧ zH 133 = 7 := by decide +kernel
theorem fmt_wd : ∀ n : Nat, n < 256 → xR n = true → zw n = 6 ∨ zw n = 9 ∨ zw n = 14 ∨ zw n = 8 ∨ zw n = 13 ∨ zw n = 16 ∨ zw n = 17 := by decide +kernel
theorem br_short {op : Int} (h : 96 ≤ op ∧ op < 110) : zw op = 10 ∧ zH op = 2 := by
 obtain ⟨n, rfl⟩ : ∃ n : Nat, op = 96 + n := ⟨(op - 96).toNat, by omega⟩
 have := fmt_br n (by omega)
 exact ⟨this.1, this.2.2.1⟩
theorem br_long {op : Int} (h : 112 ≤ op ∧ op < 126) : zw op = 11 ∧ zH op = 3 := by
 obtain ⟨n, rfl⟩ : ∃ n : Nat, op = 112 + n := ⟨(op - 112).toNat, by omega⟩
 have := fmt_br n (by omega)
 exact ⟨this.2.1, this.2.2.2⟩
theorem rvb10 (i : Ins) (h1 : i.d = 0) (h2 : i.s = 0) (h3 : xt i.imm = true) (h4 : i.aux = 0) (h5 : i.bank = 0) : yi 10 i = true := by
 obtain ⟨op, d, s, imm, aux, bank, size⟩ := i
 dsimp only at h1 h2 h3 h4 h5
 subst h1 h2 h4 h5
 simp [yi, h3]
theorem rvb12 (i : Ins) (h1 : i.d = 0) (h2 : i.s = 0) (h4 : i.aux = 0) (h5 : 0 ≤ i.bank ∧ i.bank < 64) : yi 12 i = true := by
 obtain ⟨op, d, s, imm, aux, bank, size⟩ := i
 dsimp only at h1 h2 h4 h5
 subst h1 h2 h4
 simp [yi, h5]
theorem rvb13 (i : Ins) (h1 : 0 ≤ i.d ∧ i.d < 8) (h2 : i.s = 0) (h5 : 1 ≤ i.bank ∧ i.bank < 256) : yi 13 i = true := by
 obtain ⟨op, d, s, imm, aux, bank, size⟩ := i
 dsimp only at h1 h2 h5
 subst h2
 simp [yi, h5, yz, h1]
theorem rvb_imm {f : Int} (i j : Ins) (hf : f = 6 ∨ f = 9 ∨ f = 14 ∨ f = 8 ∨ f = 13 ∨ f = 16 ∨ f = 17) (h1 : j.d = i.d) (h2 : j.s = i.s) (h3 : j.aux = i.aux) (h4 : j.bank = i.bank) (h : yi f i = true) : yi f j = true := by
 obtain ⟨op, d, s, imm, aux, bank, size⟩ := i
 obtain ⟨op', d', s', imm', aux', bank', size'⟩ := j
 dsimp only at h1 h2 h3 h4
 subst h1 h2 h3 h4
 rcases hf with rfl | rfl | rfl | rfl | rfl | rfl | rfl <;> simpa [yi] using h
theorem val_at {i : Ins} (hi : (z6 i).Ok) (h0 : 0 ≤ i.op ∧ i.op < 256) (f : Int) (hf : zw i.op = f) (hne : f ≠ 0) (hb : yi f (z6 i) = true) : zQ (z6 i) = true ∧ (z6 i).size = zH i.op := by
 have hs : (z6 i).size = zH i.op := by
  show zH (i.op % 256) = _
  rw [Int.emod_eq_of_lt h0.1 h0.2]
 refine ⟨?_, hs⟩
 rw [yR _ hi]
 unfold zR
 have e : (z6 i).op = i.op := rfl
 rw [e, hs, hf, hb, ju]
 simp [hne]
theorem jump_short {op : Int} (h : zK op = 2) : (zw (yW op 2) = 10 ∧ zH (yW op 2) = 2) ∧ 0 ≤ yW op 2 ∧ yW op 2 < 256 := by
 unfold yW
 cases hc : xN op with
 | false => rw [if_pos ⟨rfl, rfl⟩]; exact ⟨⟨fmt_j.1, fmt_j.2.2.1⟩, by omega, by omega⟩
 | true =>
  rw [if_neg (by simp), if_neg (by simp)]
  simp [xN] at hc
  by_cases h1 : 112 ≤ op
  ·rw [if_pos ⟨rfl, h1⟩]
   exact ⟨br_short (by omega), by omega, by omega⟩
  ·rw [if_neg (fun h => h1 h.2), if_neg (by simp)]
   exact ⟨br_short (by omega), by omega, by omega⟩
theorem jump_long {op : Int} (h : zK op = 2) : (zw (yW op 3) = 11 ∧ zH (yW op 3) = 3) ∧ 0 ≤ yW op 3 ∧ yW op 3 < 256 := by
 unfold yW
 cases hc : xN op with
 | false => rw [if_neg (by simp), if_pos rfl]; exact ⟨⟨fmt_j.2.1, fmt_j.2.2.2.1⟩, by omega, by omega⟩
 | true =>
  rw [if_neg (by simp), if_neg (by simp), if_neg (by simp)]
  simp [xN] at hc
  by_cases h1 : op < 112
  ·rw [if_pos ⟨rfl, h1⟩]
   exact ⟨br_long (by omega), by omega, by omega⟩
  ·rw [if_neg (fun h => h1 h.2)]
   exact ⟨br_long (by omega), by omega, by omega⟩
section
variable {E : zL} (hE : E.Ok)
include hE
theorem sz_other {k : Nat} (hk : k < E.ls.length) (hf : zK E.ls[k].ins.op ≠ 2) : E.off (k + 1) - E.off k = sz0 E.callSz E.ls[k] := by
 obtain ⟨-, i, hi⟩ := fin_spec (ls := E.ls) (ja E)
 have h2 := (iter_get i (ja E) k hk).1 hf
 have h3 := offS_succ E.sz k (by rw [hE.zl]; exact hk)
 have h4 : E.sz[k]'(by rw [hE.zl]; exact hk) = (iterS E.ls i E.szs)[k]'(by rw [iter_len i (ja E)]; exact hk) := by
  unfold zL.sz
  simp only [hi]
 have h5 : E.szs[k]'(by rw [ja]; exact hk) = sz0 E.callSz E.ls[k] := by unfold zL.szs; rw [List.getElem_map]
 unfold zL.off
 rw [h3, h4, h2, h5]
 omega
theorem br_near {k : Nat} (hk : k < E.ls.length) (hf : zK E.ls[k].ins.op = 2) (h2 : E.off (k + 1) - E.off k = 2) : -128 ≤ E.lab E.ls[k].dest - E.off (k + 1) ∧ E.lab E.ls[k].dest - E.off (k + 1) ≤ 127 := by
 obtain ⟨hp, -⟩ := fin_spec (ls := E.ls) (ja E)
 have h3 := offS_succ E.sz k (by rw [hE.zl]; exact hk)
 have hz : E.sz[k]'(by rw [hE.zl]; exact hk) = 2 := by
  have : E.off (k + 1) = E.off k + E.sz[k]'(by rw [hE.zl]; exact hk) := h3
  omega
 have h4 := pass_get (ls := E.ls) (sz := E.sz) hE.zl k hk
 have h5 : (xr E.ls E.sz)[k]'(by rw [xa hE.zl]; exact hk) = E.sz[k]'(by rw [hE.zl]; exact hk) := by
  have : xr E.ls E.sz = E.sz := hp
  simp only [this]
 rw [h5, hz] at h4
 unfold yx at h4
 rw [if_neg (by rw [hf]; simp)] at h4
 split at h4
 ·omega
 ·rename_i hfar
  have : jP E.ls E.sz E.ls[k] k = false := by simpa using hfar
  unfold jP at this
  simp at this
  have e1 : E.lab E.ls[k].dest = yM E.sz (labN E.ls E.ls[k].dest) := rfl
  have e2 : E.off (k + 1) = yM E.sz (k + 1) := rfl
  rw [e1, e2]
  omega
theorem line_valid (hc : xP E.ls E.funcs.length E.data.length) (hfn : ∀ p ∈ E.funcs, yp p = true) {k : Nat} (hk : k < E.ls.length) (tabs : Int) : zQ (z6 (E.insL k tabs E.ls[k])) = true ∧ (z6 (E.insL k tabs E.ls[k])).size = E.off (k + 1) - E.off k := by
 have hl : E.ls[k]? = some E.ls[k] := List.getElem?_eq_getElem hk
 have hmem := List.getElem_mem hk
 have hlo := hc.2 _ hmem
 have hok := insL_ok hE hl (xx hlo) tabs
 obtain ⟨l, hle⟩ : ∃ l, E.ls[k] = l := ⟨_, rfl⟩
 have hsz := sz_other hE hk
 have hbn := br_near hE hk
 rw [hle] at hok hlo hsz hbn hl hmem ⊢
 rcases xL l.ins.op with e | e | e | e | e
 ·exact absurd e (xx hlo)
 ·have hop := form1_op e
  have hz := hsz (by omega)
  have hz0 : sz0 E.callSz l = zH l.ins.op := by
   unfold sz0
   rw [if_neg (by omega), if_neg (fun h => by omega), Int.emod_eq_of_lt hop.1 (by omega)]
  rw [hz, hz0]
  have hi : E.insL k tabs l = { l.ins with imm := E.immP l } := by unfold zL.insL; rw [if_pos e]
  rw [hi] at hok ⊢
  obtain ⟨hv, ho⟩ := lineOk_plain hlo e
  have hss : ∀ i : Ins, i.op = l.ins.op → z6 i = { i with size := zH l.ins.op } := fun i hi => by unfold z6; rw [hi, Int.emod_eq_of_lt hop.1 (by omega)]
  have hlok : ({ l.ins with size := zH l.ins.op } : Ins).Ok := by
   have h9 := (hE.ls.1 l hmem).ins
   exact ⟨h9.op, h9.d, h9.s, h9.imm, h9.aux, h9.bank, by have := sizeS_rng l.ins.op; exact ⟨by show _ ≤ zH l.ins.op; omega, by show zH l.ins.op ≤ _; omega⟩⟩
  rcases ho with ho | ⟨hw, -, -⟩
  ·have : E.immP l = l.ins.imm := by unfold zL.immP; rw [if_neg (by omega)]
   rw [this]
   rw [hss _ rfl]
   exact ⟨hv, rfl⟩
  ·rw [yR _ hlok] at hv
   unfold zR at hv
   simp only [Bool.and_eq_true, Bool.not_eq_true', beq_eq_false_iff_ne, beq_iff_eq] at hv
   obtain ⟨⟨h1, h2⟩, h3⟩ := hv
   refine val_at hok (by exact ⟨hop.1, by show l.ins.op < 256; omega⟩) (zw l.ins.op) rfl h1 ?_
   obtain ⟨n, hn⟩ : ∃ n : Nat, l.ins.op = n := ⟨l.ins.op.toNat, by omega⟩
   have h6 := fmt_wd n (by omega) (by rw [← hn]; exact hw)
   rw [← hn] at h6
   exact rvb_imm { l.ins with size := zH l.ins.op } _ h6 rfl rfl rfl rfl h3
 ·have hi : E.insL k tabs l = ⟨yW l.ins.op (E.off (k + 1) - E.off k), 0, 0, (E.lab l.dest - E.off (k + 1)) % 65536, 0, 0, 0⟩ := by unfold zL.insL; rw [if_neg (by omega), if_pos e]
  rw [hi] at hok ⊢
  rcases (hE.br k l hl e).2 with h2 | h2
  ·obtain ⟨⟨j1, j2⟩, j3⟩ := jump_short e
   have hn := hbn e h2
   rw [h2] at hok ⊢
   have h9 := val_at hok j3 10 j1 (by decide) (rvb10 _ rfl rfl (show xt ((E.lab l.dest - E.off (k + 1)) % 65536) = true by unfold xt; simp only [Bool.or_eq_true, decide_eq_true_eq]; omega) rfl rfl)
   exact ⟨h9.1, h9.2.trans j2⟩
  ·obtain ⟨⟨j1, j2⟩, j3⟩ := jump_long e
   rw [h2] at hok ⊢
   have h9 := val_at hok j3 11 j1 (by decide) (by simp [yi, z6])
   exact ⟨h9.1, h9.2.trans j2⟩
 ·have hz := hsz (by omega)
  have hop : l.ins.op = 133 := by
   unfold zK at e
   split at e
   ·omega
   ·split at e
    ·rename_i h; simpa using h
    ·split at e
     ·omega
     ·split at e <;> omega
  have hz0 : sz0 E.callSz l = 7 := by
   unfold sz0
   rw [if_neg (by omega), if_neg (fun h => by omega), hop]
   exact fmt_j.2.2.2.2.2.2.2.2.2.2.2
  rw [hz, hz0]
  have hi : E.insL k tabs l = ⟨133, l.ins.d, 0, (E.lab l.dest - E.off (k + 1)) % 65536, (E.pl.addr + E.off E.ls.length + tabs) % 65536, l.tab.length, 0⟩ := by unfold zL.insL; rw [if_neg (by omega), if_neg (by omega), if_neg (by omega)]
  rw [hi] at hok ⊢
  obtain ⟨t1, t2, -⟩ := lineOk_tab hlo e
  have h9 := val_at hok (by exact ⟨by show (0 : Int) ≤ 133; omega, by show (133 : Int) < 256; omega⟩) 13 fmt_j.2.2.2.2.2.2.2.2.2.2.1 (by decide) (rvb13 _ t1 rfl (show 1 ≤ (l.tab.length : Int) ∧ (l.tab.length : Int) < 256 by omega))
  exact ⟨h9.1, h9.2.trans fmt_j.2.2.2.2.2.2.2.2.2.2.2⟩
 ·have hz := hsz (by omega)
  have hz0 : sz0 E.callSz l = if l.ins.op ≠ 131 then E.callSz l.fn else 4 := by
   unfold sz0
   rw [if_neg (by omega)]
   by_cases h131 : l.ins.op = 131
   ·rw [if_neg (fun h => h.2 h131), if_neg (fun h => h h131), h131]; exact fmt_j.2.2.2.2.2.2.2.1
   ·rw [if_pos ⟨e, h131⟩, if_pos h131]
  rw [hz, hz0]
  obtain ⟨kf, hkf, hkl⟩ := hE.cl l hmem e
  have hp : E.fnOf l.fn ∈ E.funcs := by
   unfold zL.fnOf
   rw [hkf, Int.toNat_natCast, List.getD_eq_getElem?_getD, List.getElem?_eq_getElem hkl]
   exact List.getElem_mem _
  have hbk := hfn _ hp
  unfold yp at hbk
  simp at hbk
  have hi : E.insL k tabs l = if l.ins.op ≠ 131 ∧ nearS E.pl (E.fnOf l.fn) = true then ⟨130, 0, 0, ((E.fnOf l.fn).addr - E.pl.addr - E.off (k + 1)) % 65536, 0, 0, 0⟩
  else if l.ins.op = 131 then ⟨131, 0, 0, (E.fnOf l.fn).addr, 0, (E.fnOf l.fn).bank, zH 131⟩ else ⟨132, 0, 0, (E.fnOf l.fn).addr, 0, (E.fnOf l.fn).bank, zH 132⟩ := by
   unfold zL.insL; rw [if_neg (by omega), if_neg (by omega), if_pos e]
  rw [hi] at hok ⊢
  by_cases h131 : l.ins.op = 131
  ·rw [if_neg (fun h => h.1 h131), if_pos h131] at hok ⊢
   rw [if_neg (fun h => h h131)]
   have h9 := val_at hok (by exact ⟨by show (0 : Int) ≤ 131; omega, by show (131 : Int) < 256; omega⟩) 12 fmt_j.2.2.2.2.2.2.1 (by decide) (rvb12 _ rfl rfl rfl ⟨hbk.1.1, hbk.1.2⟩)
   exact ⟨h9.1, h9.2.trans fmt_j.2.2.2.2.2.2.2.1⟩
  ·rw [if_pos h131]
   cases hn : nearS E.pl (E.fnOf l.fn) with
   | true =>
    rw [hn] at hok
    rw [if_pos ⟨h131, rfl⟩] at hok ⊢
    have h9 := val_at hok (by exact ⟨by show (0 : Int) ≤ 130; omega, by show (130 : Int) < 256; omega⟩) 11 fmt_j.2.2.2.2.1 (by decide) (by simp [yi, z6])
    refine ⟨h9.1, h9.2.trans (fmt_j.2.2.2.2.2.1.trans ?_)⟩
    unfold zL.callSz; rw [hn]; rfl
   | false =>
    rw [hn] at hok
    rw [if_neg (fun h => by cases h.2), if_neg h131] at hok ⊢
    have h9 := val_at hok (by exact ⟨by show (0 : Int) ≤ 132; omega, by show (132 : Int) < 256; omega⟩) 12 fmt_j.2.2.2.2.2.2.2.2.1 (by decide) (rvb12 _ rfl rfl rfl ⟨hbk.1.1, hbk.1.2⟩)
    refine ⟨h9.1, h9.2.trans (fmt_j.2.2.2.2.2.2.2.2.2.1.trans ?_)⟩
    unfold zL.callSz; rw [hn]; rfl
theorem line_len (hc : xP E.ls E.funcs.length E.data.length) (hfn : ∀ p ∈ E.funcs, yp p = true) {k : Nat} (hk : k < E.ls.length) (tabs : Int) : ((E.lineB k tabs E.ls[k]).length : Int) = E.off (k + 1) - E.off k := by
 obtain ⟨h1, h2⟩ := line_valid hE hc hfn hk tabs
 rw [← h2]
 exact (enc_valid _ (insL_ok hE (List.getElem?_eq_getElem hk) (xx (hc.2 _ (List.getElem_mem hk))) tabs) h1).2.2
theorem codeTo_len (hc : xP E.ls E.funcs.length E.data.length) (hfn : ∀ p ∈ E.funcs, yp p = true) : ∀ k, k ≤ E.ls.length → ((E.codeTo k).length : Int) = E.off k := by
 intro k
 induction k with
 | zero => intro _; rfl
 | succ k ih =>
  intro h
  rw [jT E h, List.length_append]
  have h1 := ih (by omega)
  have h2 := line_len hE hc hfn h (E.tabsTo k).length
  omega
end
end Go.Proofs.Ythebmoggbgldmaa
namespace Go.Proofs.Ythebmoggbgldmaa
open Go Go.RowKit Go.Maps
noncomputable def insAt (E : zL) (k : Nat) : Ins := if h : k < E.ls.length then z6 (E.insL k (E.tabsTo k).length E.ls[k]) else ⟨0, 0, 0, 0, 0, 0, 0⟩
theorem jI {E : zL} {k : Nat} (h : k < E.ls.length) : insAt E k = z6 (E.insL k (E.tabsTo k).length E.ls[k]) := dif_pos h
def insV (i : Ins) : List Value := [.int .i64 i.op, .int .i64 i.d, .int .i64 i.s, .int .u16 i.imm, .int .u16 i.aux, .int .i64 i.bank, .int .i64 i.size]
noncomputable def insTo (E : zL) : Nat → List Value
 | 0 => []
 | k + 1 => insTo E k ++ insV (insAt E k)
noncomputable def adrTo (E : zL) : Nat → List Value
 | 0 => []
 | k + 1 => adrTo E k ++ [.int .u16 (E.pl.addr + E.off k)]
theorem insTo_len (E : zL) : ∀ k, (insTo E k).length = k * 7
 | 0 => rfl
 | k + 1 => by show (insTo E k ++ insV _).length = _; rw [List.length_append, insTo_len E k]; show _ + 7 = _; omega
theorem adrTo_len (E : zL) : ∀ k, (adrTo E k).length = k
 | 0 => rfl
 | k + 1 => by show (adrTo E k ++ [_]).length = _; rw [List.length_append, adrTo_len E k]; rfl
theorem insTo_get (E : zL) : ∀ (k j : Nat), j < k → ((insTo E k).drop (j * 7)).take 7 = insV (insAt E j)
 | 0, j, h => by omega
 | k + 1, j, h => by
  show ((insTo E k ++ insV _).drop _).take 7 = _
  have hl := insTo_len E k
  by_cases hj : j < k
  ·rw [List.drop_append_of_le_length (by rw [hl]; omega), List.take_append_of_le_length (by rw [List.length_drop, hl]; omega)]
   exact insTo_get E k j hj
  ·have : j = k := by omega
   subst this
   rw [← hl, List.drop_left]
   rfl
theorem adrTo_get (E : zL) : ∀ (k j : Nat), j < k → (adrTo E k)[j]? = some (.int .u16 (E.pl.addr + E.off j))
 | 0, j, h => by omega
 | k + 1, j, h => by
  show (adrTo E k ++ [_])[j]? = _
  have hl := adrTo_len E k
  by_cases hj : j < k
  ·rw [List.getElem?_append_left (by omega)]
   exact adrTo_get E k j hj
  ·have : j = k := by omega
   subst this
   rw [List.getElem?_append_right (by omega), hl, Nat.sub_self]
   rfl
theorem own_block {w : World} {B : Nat} {T : TypeId} {s : Nat} {v : Value} {n : Nat} {xs : List Value} (h : w.ownsRow B T s v n xs) (h0 : 0 < n) : ∃ g cp cur, v = .slice (some ⟨g, 0, none⟩) n cp ∧ B ≤ g ∧ n ≤ cp ∧ w.heap[g]? = some (.cells cur T (0, 0)) ∧ (∀ j, j < n * s → cur[j]? = xs[j]?) ∧ ∀ j, j < n → (cur.extract (j * s) (j * s + s)).toList = (xs.drop (j * s)).take s := by
 rcases h.2 with ⟨-, h9⟩ | ⟨g, cap, cur, he, hBg, hg, hnc, hcm, hcs, htk⟩
 ·omega
 ·refine ⟨g, cap, cur, he, hBg, hnc, hg, fun j hj => ?_, fun j hj => ?_⟩
  ·rw [← htk, List.getElem?_take, if_pos hj, Array.getElem?_toList]
  ·have h1 : j * s + s ≤ n * s := by rw [← Nat.succ_mul]; exact Nat.mul_le_mul_right _ hj
   rw [← htk, List.drop_take, List.take_take, Nat.min_eq_left (by omega), Array.toList_extract, List.extract_eq_drop_take]
   congr 1
   omega
theorem rowS_below {w W W' : World} {B s : Nat} {v : Value} {n : Nat} {xs : List Value} {T : TypeId} (hb : Below B w W) (hB : B ≤ W.heap.size) (ho : W.ownsRow B T s v n xs) (hg : W.grownBy W' v.ownBlock) : Below B w W' :=
 hb.trans (((zN.refl (fun k => v.ownBlock = some k) W).grown hg fun k hk _ => hk).toBelow hB fun k hk => (z7 ho k hk).1)
theorem rowS_kept {W W' : World} {B s : Nat} {v : Value} {n : Nat} {xs : List Value} {T U : TypeId} {b : Nat} {cs : Array Value} {fr : Nat × Nat} (ho : W.ownsRow B T s v n xs) (hg : W.grownBy W' v.ownBlock) (h : W.heap[b]? = some (.cells cs U fr)) (hT : U ≠ T) : W'.heap[b]? = some (.cells cs U fr) := by
 refine (hg.block b (Array.getElem?_eq_some_iff.1 h).1 fun e => ?_).trans h
 obtain ⟨-, cs', h8⟩ := z7 ho _ e.symm
 rw [h] at h8
 simp at h8
 exact hT h8.2.1
theorem rowS_row {W W' : World} {B B2 s s2 : Nat} {v v2 : Value} {n n2 : Nat} {xs xs2 : List Value} {T U : TypeId} (ho : W.ownsRow B T s v n xs) (hg : W.grownBy W' v.ownBlock) (h : W.ownsRow B2 U s2 v2 n2 xs2) (hT : U ≠ T) : W'.ownsRow B2 U s2 v2 n2 xs2 :=
 zZ h ((zN.refl (fun k => v.ownBlock = some k) W).grown hg fun k hk _ => hk) fun q hq e => by
  obtain ⟨-, cs', h8⟩ := z7 ho _ e
  obtain ⟨-, cs, h9⟩ := z7 h _ hq
  rw [h9] at h8
  simp at h8
  exact hT h8.2
theorem jq {c : Array Value} {o n r : Nat} {xs : List Value} (h : (c.extract o (o + n)).toList = xs) (hr : r < n) : c[o + r]? = xs[r]? := by
 rw [← h, Array.toList_extract, List.extract_eq_drop_take, List.getElem?_take, if_pos (by omega), List.getElem?_drop, Array.getElem?_toList]
theorem strOf_drop (l : List Int) (o : Nat) : (zO l).extract o (zO l).size = zO (l.drop o) := by
 apply ByteArray.ext
 apply Array.ext'
 rw [yo, ByteArray.data_extract]
 simp [zO, List.map_drop]
 exact List.take_of_length_le (by simp)
theorem infoU16 : (Try.prog.info? 35).map (fun i => (i.zero, i.size, i.bytes)) = some (some (.int .u16 0), 1, 2) := by kernel_rfl
theorem infoIns19 : (Try.prog.info? 53).map (fun i => (i.zero, i.size, i.bytes)) = some (some (.agg #[.int .i64 0, .int .i64 0, .int .i64 0, .int .u16 0, .int .u16 0, .int .i64 0, .int .i64 0]), 7, 48) := by kernel_rfl
end Go.Proofs.Ythebmoggbgldmaa
