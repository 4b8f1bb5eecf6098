/- The examples of chapter 19. No condition. (Printed by gen_lms.py.) -/
import Derived.Test.YthebmoggbgldmaaLaLrL
set_option linter.all false
namespace Go.Proofs.Ythebmoggbgldmaa
open Go Go.RowKit Go.Maps
def zL.insZ (E : zL) (z : List Int) (n : Nat) (tabs : Int) (l : zu) : Ins :=
 if zK l.ins.op = 1 then { l.ins with imm := E.immP l }
 else if zK l.ins.op = 2 then ⟨yW l.ins.op (yM z (n + 1) - yM z n), 0, 0, (yM z (labN E.ls l.dest) - yM z (n + 1)) % 65536, 0, 0, 0⟩
 else if zK l.ins.op = 4 then
  (if l.ins.op ≠ 131 ∧ nearS E.pl (E.fnOf l.fn) = true then ⟨130, 0, 0, ((E.fnOf l.fn).addr - E.pl.addr - yM z (n + 1)) % 65536, 0, 0, 0⟩
  else if l.ins.op = 131 then ⟨131, 0, 0, (E.fnOf l.fn).addr, 0, (E.fnOf l.fn).bank, zH 131⟩ else ⟨132, 0, 0, (E.fnOf l.fn).addr, 0, (E.fnOf l.fn).bank, zH 132⟩)
 else ⟨133, l.ins.d, 0, (yM z (labN E.ls l.dest) - yM z (n + 1)) % 65536, (E.pl.addr + yM z E.ls.length + tabs) % 65536, l.tab.length, 0⟩
def zL.cellZ (E : zL) (z : List Int) (t : Int) : List Int := [((E.pl.addr + yM z (labN E.ls t)) % 65536) % 256, ((E.pl.addr + yM z (labN E.ls t)) % 65536) / 256]
def zL.tabZ (E : zL) (z : List Int) (l : zu) : List Int := if zK l.ins.op = 3 then l.tab.flatMap (E.cellZ z) else []
def zL.posZ (E : zL) (z : List Int) (n : Nat) (l : zu) : List Int :=
 if zK l.ins.op = 1 ∧ 0 ≤ l.obj ∧ (E.objOf l.obj).bank = -1 ∧ (E.objOf l.obj).addr ≤ E.immP l ∧ E.immP l - (E.objOf l.obj).addr < (E.objOf l.obj).size then [yM z n + yX l.ins.op] else []
def zL.tabsToZ (E : zL) (z : List Int) : Nat → List Int
 | 0 => []
 | k + 1 => E.tabsToZ z k ++ (match E.ls[k]? with | some l => E.tabZ z l | none => [])
def zL.codeToZ (E : zL) (z : List Int) : Nat → List Int
 | 0 => []
 | k + 1 => E.codeToZ z k ++ (match E.ls[k]? with | some l => xl (z6 (E.insZ z k (E.tabsToZ z k).length l)) | none => [])
def zL.posToZ (E : zL) (z : List Int) : Nat → List Int
 | 0 => []
 | k + 1 => E.posToZ z k ++ (match E.ls[k]? with | some l => E.posZ z k l | none => [])
theorem tabsTo_z (E : zL) : ∀ k, E.tabsTo k = E.tabsToZ E.sz k
 | 0 => rfl
 | k + 1 => by
  show E.tabsTo k ++ _ = E.tabsToZ E.sz k ++ _
  rw [tabsTo_z E k]
  rfl
theorem codeTo_z (E : zL) : ∀ k, E.codeTo k = E.codeToZ E.sz k
 | 0 => rfl
 | k + 1 => by
  show E.codeTo k ++ _ = E.codeToZ E.sz k ++ _
  rw [codeTo_z E k, tabsTo_z E k]
  rfl
theorem posTo_z (E : zL) : ∀ k, E.posTo k = E.posToZ E.sz k
 | 0 => rfl
 | k + 1 => by
  show E.posTo k ++ _ = E.posToZ E.sz k ++ _
  rw [posTo_z E k]
  rfl
theorem ans_z (E : zL) (z s ps : List Int) (hls : yV E.ls) (hr : jy E.ls E.funcs.length E.data.length = true) (hp : yp E.pl = true) (hf : E.funcs.all yp = true) (hz : E.szs = z) (hx : xr E.ls z = z)
  (hs : E.codeToZ z E.ls.length ++ E.tabsToZ z E.ls.length = s) (hq : E.posToZ z E.ls.length = ps) (hfit : E.pl.addr % 4096 + (s.length : Int) ≤ 4096) : AnsE E s ps 0 := by
 have e : E.sz = z := fin_eq ⟨hx, 0, hz⟩
 have hc : E.code = s := by
  show E.codeTo E.ls.length ++ E.tabsTo E.ls.length = s
  rw [codeTo_z, tabsTo_z, e, hs]
 have hpp : E.pos = ps := by
  show E.posTo E.ls.length = ps
  rw [posTo_z, e, hq]
 refine .inr (.inr ⟨⟨(right_chunk2 E.ls hls _ _).1 hr, hp, fun p hpm => List.all_eq_true.1 hf p hpm⟩, ?_, hc.symm, hpp.symm, rfl⟩)
 unfold zL.fits
 rw [hc]
 exact decide_eq_true hfit
theorem okLine (l : zu) (h : (decide (-65536 ≤ l.label) && decide (l.label < 65536) && decide (-65536 ≤ l.ins.op) && decide (l.ins.op < 65536) && decide (-65536 ≤ l.ins.d) && decide (l.ins.d < 65536) && decide (-65536 ≤ l.ins.s) && decide (l.ins.s < 65536) && decide (0 ≤ l.ins.imm) && decide (l.ins.imm < 65536) && decide (0 ≤ l.ins.aux) && decide (l.ins.aux < 65536) && decide (-65536 ≤ l.ins.bank) && decide (l.ins.bank < 65536) && decide (-65536 ≤ l.ins.size) && decide (l.ins.size < 65536) && decide (-65536 ≤ l.dest) && decide (l.dest < 65536) && decide (-65536 ≤ l.fn) && decide (l.fn < 65536) && decide (-65536 ≤ l.obj) && decide (l.obj < 65536) && l.tab.all (fun t => decide (-65536 ≤ t) && decide (t < 65536)) && decide (l.tab.length ≤ 1000)) = true) : l.Ok := by
 simp only [Bool.and_eq_true, decide_eq_true_eq, List.all_eq_true] at h
 have sm : ∀ n : Int, -65536 ≤ n → n < 65536 → zX n := fun n h h' => ⟨by omega, by omega⟩
 obtain ⟨⟨⟨⟨⟨⟨⟨⟨⟨⟨⟨⟨⟨⟨⟨⟨⟨⟨⟨⟨⟨⟨⟨a1, a2⟩, a3⟩, a4⟩, a5⟩, a6⟩, a7⟩, a8⟩, a9⟩, a10⟩, a11⟩, a12⟩, a13⟩, a14⟩, a15⟩, a16⟩, a17⟩, a18⟩, a19⟩, a20⟩, a21⟩, a22⟩, a23⟩, a24⟩ := h
 exact ⟨⟨a1, a2⟩, ⟨sm _ a3 a4, sm _ a5 a6, sm _ a7 a8, ⟨a9, a10⟩, ⟨a11, a12⟩, sm _ a13 a14, sm _ a15 a16⟩, sm _ a17 a18, sm _ a19 a20, sm _ a21 a22, fun t ht => sm t (a23 t ht).1 (a23 t ht).2, a24⟩
theorem nilI (w : World) : xO w (.slice none 0 0) [] := ⟨none, 0, rfl, zn _, fun h => by cases h⟩
theorem nilP (w : World) : jj w (.slice none 0 0) [] := ⟨none, 0, rfl, zn _, fun h => by cases h⟩
theorem nilO (w : World) : jK w (.slice none 0 0) [] := ⟨none, 0, rfl, zn _, fun h => by cases h⟩
def TupS (s : ByteArray) (v : Value) (_ : World) : Prop := ∃ pv, v = .tuple #[.string s, pv, .int .i64 0]
def TupP (B : Nat) (s : ByteArray) (ps : List Int) (v : Value) (W : World) : Prop := ∃ pv, v = .tuple #[.string s, pv, .int .i64 0] ∧ W.ownsRow B 3 1 pv ps.length (ps.map (Value.int .i64))
def exL1 : List zu := [⟨1, ⟨4, 0, 0, 0, 0, 0, 0⟩, -1, -1, -1, []⟩, ⟨-1, ⟨128, 0, 0, 0, 0, 0, 0⟩, 1, -1, -1, []⟩]
def exE1 : zL := ⟨exL1, ⟨0, 256⟩, [], []⟩
theorem exOk1 : yV exL1 := ⟨fun l hl => okLine l (by revert l; decide +kernel), by decide⟩
theorem exAns1 : AnsE exE1 [4, 128, 253] [] 0 := ans_z exE1 [1, 2] _ _ exOk1 (by decide +kernel) (by decide +kernel) (by decide +kernel) (by decide +kernel) (by decide +kernel) (by decide +kernel) (by decide +kernel) (by decide +kernel)
theorem exNum1 : exE1.Num := ⟨exOk1, ⟨by decide, by decide, ⟨by decide, by decide⟩⟩, by simp only [zX]; decide +kernel, by simp only [zX]; decide +kernel, by decide, by decide⟩
set_option maxRecDepth 100000 in
theorem exAsm1 (W : World) (g : Nat) (hg : W.heap[g]? = some (.cells #[.int .i64 1, .int .i64 4, .int .i64 0, .int .i64 0, .int .u16 0, .int .u16 0, .int .i64 0, .int .i64 0, .int .i64 (-1), .int .i64 (-1), .int .i64 (-1), .slice none 0 0, .int .i64 (-1), .int .i64 128, .int .i64 0, .int .i64 0, .int .u16 0, .int .u16 0, .int .i64 0, .int .i64 0, .int .i64 1, .int .i64 (-1), .int .i64 (-1), .slice none 0 0] 58 (0, 0))) :
  Calls Try.prog 13 #[.agg #[.string ⟨#[]⟩, .slice (some ⟨g, 0, none⟩) 2 2], .agg #[.int .i64 0, .int .u16 256], .slice none 0 0, .slice none 0 0] W fun e w' => (∃ pv, e = .returned (.tuple #[.string ⟨#[4, 128, 253]⟩, pv, .int .i64 0]) ∧ w'.ownsRow W.heap.size 3 1 pv 0 (([] : List Int).map (Value.int .i64))) ∧ Below W.heap.size W w' := by
 have hL : yJ W (.slice (some ⟨g, 0, none⟩) 2 2) exE1.ls := ⟨_, 2, rfl, zn _, fun _ => ⟨g, 0, _, _, _, rfl, hg, fun i l hl => by
  rcases i with _ | _ | i
  ·simp [exE1, exL1] at hl; subst hl; exact ⟨.slice none 0 0, rfl, nilI W⟩
  ·simp [exE1, exL1] at hl; subst hl; exact ⟨.slice none 0 0, rfl, nilI W⟩
  ·simp [exE1, exL1] at hl⟩⟩
 refine (xv exE1 exNum1 ⟨#[]⟩ (some ⟨g, 0, none⟩) none none 2 0 0 W hL (nilP W) (nilO W)).mono ?_
 rintro e w' ⟨s, pv, ps, er, rfl, ho, hb, ha⟩
 obtain ⟨rfl, rfl, rfl⟩ := ha.uniq exAns1
 exact ⟨⟨pv, rfl, ho⟩, hb⟩
def exL2 : List zu := [⟨-1, ⟨64, 1, 0, 2, 0, 0, 0⟩, -1, -1, 0, []⟩, ⟨-1, ⟨1, 0, 0, 0, 0, 0, 0⟩, -1, -1, -1, []⟩]
def exE2 : zL := ⟨exL2, ⟨0, 256⟩, [], [⟨-1, 16400, 4⟩]⟩
theorem exOk2 : yV exL2 := ⟨fun l hl => okLine l (by revert l; decide +kernel), by decide⟩
theorem exAns2 : AnsE exE2 [64, 1, 18, 64, 1] [2] 0 := ans_z exE2 [4, 1] _ _ exOk2 (by decide +kernel) (by decide +kernel) (by decide +kernel) (by decide +kernel) (by decide +kernel) (by decide +kernel) (by decide +kernel) (by decide +kernel)
theorem exNum2 : exE2.Num := ⟨exOk2, ⟨by decide, by decide, ⟨by decide, by decide⟩⟩, by simp only [zX]; decide +kernel, by simp only [zX]; decide +kernel, by decide, by decide⟩
set_option maxRecDepth 100000 in
theorem exAsm2 (W : World) (g : Nat) (gd : Nat) (hg : W.heap[g]? = some (.cells #[.int .i64 (-1), .int .i64 64, .int .i64 1, .int .i64 0, .int .u16 2, .int .u16 0, .int .i64 0, .int .i64 0, .int .i64 (-1), .int .i64 (-1), .int .i64 0, .slice none 0 0, .int .i64 (-1), .int .i64 1, .int .i64 0, .int .i64 0, .int .u16 0, .int .u16 0, .int .i64 0, .int .i64 0, .int .i64 (-1), .int .i64 (-1), .int .i64 (-1), .slice none 0 0] 58 (0, 0))) (hd : W.heap[gd]? = some (.cells #[.int .i64 (-1), .int .u16 16400, .int .u16 4] 47 (0, 0))) :
  Calls Try.prog 13 #[.agg #[.string ⟨#[]⟩, .slice (some ⟨g, 0, none⟩) 2 2], .agg #[.int .i64 0, .int .u16 256], .slice none 0 0, .slice (some ⟨gd, 0, none⟩) 1 1] W fun e w' => (∃ pv, e = .returned (.tuple #[.string ⟨#[64, 1, 18, 64, 1]⟩, pv, .int .i64 0]) ∧ w'.ownsRow W.heap.size 3 1 pv 1 (([2] : List Int).map (Value.int .i64))) ∧ Below W.heap.size W w' := by
 have hL : yJ W (.slice (some ⟨g, 0, none⟩) 2 2) exE2.ls := ⟨_, 2, rfl, zn _, fun _ => ⟨g, 0, _, _, _, rfl, hg, fun i l hl => by
  rcases i with _ | _ | i
  ·simp [exE2, exL2] at hl; subst hl; exact ⟨.slice none 0 0, rfl, nilI W⟩
  ·simp [exE2, exL2] at hl; subst hl; exact ⟨.slice none 0 0, rfl, nilI W⟩
  ·simp [exE2, exL2] at hl⟩⟩
 refine (xv exE2 exNum2 ⟨#[]⟩ (some ⟨g, 0, none⟩) none (some ⟨gd, 0, none⟩) 2 0 1 W hL (nilP W) ⟨_, 1, rfl, zn _, fun _ => ⟨gd, 0, _, _, _, rfl, hd, fun i p hp => by rcases i with _ | i <;> (first | (simp [exE2] at hp; done) | (simp [exE2] at hp; subst hp; rfl))⟩⟩).mono ?_
 rintro e w' ⟨s, pv, ps, er, rfl, ho, hb, ha⟩
 obtain ⟨rfl, rfl, rfl⟩ := ha.uniq exAns2
 exact ⟨⟨pv, rfl, ho⟩, hb⟩
def exL3 : List zu := [⟨-1, ⟨132, 0, 0, 0, 0, 0, 0⟩, -1, 0, -1, []⟩, ⟨-1, ⟨130, 0, 0, 0, 0, 0, 0⟩, -1, 1, -1, []⟩]
def exE3 : zL := ⟨exL3, ⟨0, 256⟩, [⟨0, 512⟩, ⟨3, 4096⟩], []⟩
theorem exOk3 : yV exL3 := ⟨fun l hl => okLine l (by revert l; decide +kernel), by decide⟩
theorem exAns3 : AnsE exE3 [130, 253, 0, 132, 3, 0, 16] [] 0 := ans_z exE3 [3, 4] _ _ exOk3 (by decide +kernel) (by decide +kernel) (by decide +kernel) (by decide +kernel) (by decide +kernel) (by decide +kernel) (by decide +kernel) (by decide +kernel)
theorem exNum3 : exE3.Num := ⟨exOk3, ⟨by decide, by decide, ⟨by decide, by decide⟩⟩, by simp only [zX]; decide +kernel, by simp only [zX]; decide +kernel, by decide, by decide⟩
set_option maxRecDepth 100000 in
theorem exAsm3 (W : World) (g : Nat) (gf : Nat) (hg : W.heap[g]? = some (.cells #[.int .i64 (-1), .int .i64 132, .int .i64 0, .int .i64 0, .int .u16 0, .int .u16 0, .int .i64 0, .int .i64 0, .int .i64 (-1), .int .i64 0, .int .i64 (-1), .slice none 0 0, .int .i64 (-1), .int .i64 130, .int .i64 0, .int .i64 0, .int .u16 0, .int .u16 0, .int .i64 0, .int .i64 0, .int .i64 (-1), .int .i64 1, .int .i64 (-1), .slice none 0 0] 58 (0, 0))) (hf : W.heap[gf]? = some (.cells #[.int .i64 0, .int .u16 512, .int .i64 3, .int .u16 4096] 37 (0, 0))) :
  Calls Try.prog 13 #[.agg #[.string ⟨#[]⟩, .slice (some ⟨g, 0, none⟩) 2 2], .agg #[.int .i64 0, .int .u16 256], .slice (some ⟨gf, 0, none⟩) 2 2, .slice none 0 0] W fun e w' => (∃ pv, e = .returned (.tuple #[.string ⟨#[130, 253, 0, 132, 3, 0, 16]⟩, pv, .int .i64 0]) ∧ w'.ownsRow W.heap.size 3 1 pv 0 (([] : List Int).map (Value.int .i64))) ∧ Below W.heap.size W w' := by
 have hL : yJ W (.slice (some ⟨g, 0, none⟩) 2 2) exE3.ls := ⟨_, 2, rfl, zn _, fun _ => ⟨g, 0, _, _, _, rfl, hg, fun i l hl => by
  rcases i with _ | _ | i
  ·simp [exE3, exL3] at hl; subst hl; exact ⟨.slice none 0 0, rfl, nilI W⟩
  ·simp [exE3, exL3] at hl; subst hl; exact ⟨.slice none 0 0, rfl, nilI W⟩
  ·simp [exE3, exL3] at hl⟩⟩
 refine (xv exE3 exNum3 ⟨#[]⟩ (some ⟨g, 0, none⟩) (some ⟨gf, 0, none⟩) none 2 2 0 W hL ⟨_, 2, rfl, zn _, fun _ => ⟨gf, 0, _, _, _, rfl, hf, fun i p hp => by rcases i with _ | _ | i <;> (first | (simp [exE3] at hp; done) | (simp [exE3] at hp; subst hp; rfl))⟩⟩ (nilO W)).mono ?_
 rintro e w' ⟨s, pv, ps, er, rfl, ho, hb, ha⟩
 obtain ⟨rfl, rfl, rfl⟩ := ha.uniq exAns3
 exact ⟨⟨pv, rfl, ho⟩, hb⟩
def exL4 : List zu := [⟨-1, ⟨133, 2, 0, 0, 0, 0, 0⟩, 1, -1, -1, [1, 2]⟩, ⟨1, ⟨0, 0, 0, 0, 0, 0, 0⟩, -1, -1, -1, []⟩, ⟨2, ⟨1, 0, 0, 0, 0, 0, 0⟩, -1, -1, -1, []⟩]
def exE4 : zL := ⟨exL4, ⟨0, 256⟩, [], []⟩
theorem exOk4 : yV exL4 := ⟨fun l hl => okLine l (by revert l; decide +kernel), by decide⟩
theorem exAns4 : AnsE exE4 [133, 2, 2, 0, 0, 9, 1, 0, 1, 7, 1, 8, 1] [] 0 := ans_z exE4 [7, 1, 1] _ _ exOk4 (by decide +kernel) (by decide +kernel) (by decide +kernel) (by decide +kernel) (by decide +kernel) (by decide +kernel) (by decide +kernel) (by decide +kernel)
theorem exNum4 : exE4.Num := ⟨exOk4, ⟨by decide, by decide, ⟨by decide, by decide⟩⟩, by simp only [zX]; decide +kernel, by simp only [zX]; decide +kernel, by decide, by decide⟩
set_option maxRecDepth 100000 in
theorem exAsm4 (W : World) (g : Nat) (gt : Nat) (hg : W.heap[g]? = some (.cells #[.int .i64 (-1), .int .i64 133, .int .i64 2, .int .i64 0, .int .u16 0, .int .u16 0, .int .i64 0, .int .i64 0, .int .i64 1, .int .i64 (-1), .int .i64 (-1), .slice (some ⟨gt, 0, none⟩) 2 2, .int .i64 1, .int .i64 0, .int .i64 0, .int .i64 0, .int .u16 0, .int .u16 0, .int .i64 0, .int .i64 0, .int .i64 (-1), .int .i64 (-1), .int .i64 (-1), .slice none 0 0, .int .i64 2, .int .i64 1, .int .i64 0, .int .i64 0, .int .u16 0, .int .u16 0, .int .i64 0, .int .i64 0, .int .i64 (-1), .int .i64 (-1), .int .i64 (-1), .slice none 0 0] 58 (0, 0))) (ht : W.heap[gt]? = some (.cells #[.int .i64 1, .int .i64 2] 3 (0, 0))) :
  Calls Try.prog 13 #[.agg #[.string ⟨#[]⟩, .slice (some ⟨g, 0, none⟩) 3 3], .agg #[.int .i64 0, .int .u16 256], .slice none 0 0, .slice none 0 0] W fun e w' => (∃ pv, e = .returned (.tuple #[.string ⟨#[133, 2, 2, 0, 0, 9, 1, 0, 1, 7, 1, 8, 1]⟩, pv, .int .i64 0]) ∧ w'.ownsRow W.heap.size 3 1 pv 0 (([] : List Int).map (Value.int .i64))) ∧ Below W.heap.size W w' := by
 have hL : yJ W (.slice (some ⟨g, 0, none⟩) 3 3) exE4.ls := ⟨_, 3, rfl, zn _, fun _ => ⟨g, 0, _, _, _, rfl, hg, fun i l hl => by
  rcases i with _ | _ | _ | i
  ·simp [exE4, exL4] at hl; subst hl; exact ⟨.slice (some ⟨gt, 0, none⟩) 2 2, rfl, ⟨_, 2, rfl, zn _, fun _ => ⟨gt, 0, _, _, _, rfl, ht, fun j x hx => by rcases j with _ | _ | j <;> (first | (simp at hx; done) | (simp at hx; subst hx; rfl))⟩⟩⟩
  ·simp [exE4, exL4] at hl; subst hl; exact ⟨.slice none 0 0, rfl, nilI W⟩
  ·simp [exE4, exL4] at hl; subst hl; exact ⟨.slice none 0 0, rfl, nilI W⟩
  ·simp [exE4, exL4] at hl⟩⟩
 refine (xv exE4 exNum4 ⟨#[]⟩ (some ⟨g, 0, none⟩) none none 3 0 0 W hL (nilP W) (nilO W)).mono ?_
 rintro e w' ⟨s, pv, ps, er, rfl, ho, hb, ha⟩
 obtain ⟨rfl, rfl, rfl⟩ := ha.uniq exAns4
 exact ⟨⟨pv, rfl, ho⟩, hb⟩
def AgQ (C : Array Value) (k : Nat) (v : Value) (W : World) : Prop := ∃ g, v = .agg #[.string ⟨#[]⟩, .slice (some ⟨g, 0, none⟩) k k] ∧ W.heap[g]? = some (.cells C 58 (0, 0))
def PosQ (B : Nat) (ps : List Int) (v : Value) (W : World) : Prop := W.ownsRow B 3 1 v ps.length (ps.map (Value.int .i64))
set_option maxRecDepth 100000 in
set_option maxHeartbeats 8000000 in
theorem sanity_any (w : World) : Calls Try.prog 7 #[] w fun e w' => e = .returned (.bool true) ∧ Below w.heap.size w w' := by
 have HN1 := zh (show ∀ W, Calls Try.prog 20 #[.int .i64 (-1), .agg #[.int .i64 128, .int .i64 0, .int .i64 0, .int .u16 0, .int .u16 0, .int .i64 0, .int .i64 0]] W fun e w' => e = .returned (.agg #[.int .i64 (-1), .int .i64 128, .int .i64 0, .int .i64 0, .int .u16 0, .int .u16 0, .int .i64 0, .int .i64 0, .int .i64 (-1), .int .i64 (-1), .int .i64 (-1), .slice none 0 0]) ∧ Below W.heap.size W w' from fun W => none_any (-1) ⟨128, 0, 0, 0, 0, 0, 0⟩ W)
 have HN2 := zh (show ∀ W, Calls Try.prog 20 #[.int .i64 1, .agg #[.int .i64 4, .int .i64 0, .int .i64 0, .int .u16 0, .int .u16 0, .int .i64 0, .int .i64 0]] W fun e w' => e = .returned (.agg #[.int .i64 1, .int .i64 4, .int .i64 0, .int .i64 0, .int .u16 0, .int .u16 0, .int .i64 0, .int .i64 0, .int .i64 (-1), .int .i64 (-1), .int .i64 (-1), .slice none 0 0]) ∧ Below W.heap.size W w' from fun W => none_any (1) ⟨4, 0, 0, 0, 0, 0, 0⟩ W)
 have HN3 := zh (show ∀ W, Calls Try.prog 20 #[.int .i64 (-1), .agg #[.int .i64 64, .int .i64 1, .int .i64 0, .int .u16 2, .int .u16 0, .int .i64 0, .int .i64 0]] W fun e w' => e = .returned (.agg #[.int .i64 (-1), .int .i64 64, .int .i64 1, .int .i64 0, .int .u16 2, .int .u16 0, .int .i64 0, .int .i64 0, .int .i64 (-1), .int .i64 (-1), .int .i64 (-1), .slice none 0 0]) ∧ Below W.heap.size W w' from fun W => none_any (-1) ⟨64, 1, 0, 2, 0, 0, 0⟩ W)
 have HN4 := zh (show ∀ W, Calls Try.prog 20 #[.int .i64 (-1), .agg #[.int .i64 1, .int .i64 0, .int .i64 0, .int .u16 0, .int .u16 0, .int .i64 0, .int .i64 0]] W fun e w' => e = .returned (.agg #[.int .i64 (-1), .int .i64 1, .int .i64 0, .int .i64 0, .int .u16 0, .int .u16 0, .int .i64 0, .int .i64 0, .int .i64 (-1), .int .i64 (-1), .int .i64 (-1), .slice none 0 0]) ∧ Below W.heap.size W w' from fun W => none_any (-1) ⟨1, 0, 0, 0, 0, 0, 0⟩ W)
 have HN5 := zh (show ∀ W, Calls Try.prog 20 #[.int .i64 (-1), .agg #[.int .i64 132, .int .i64 0, .int .i64 0, .int .u16 0, .int .u16 0, .int .i64 0, .int .i64 0]] W fun e w' => e = .returned (.agg #[.int .i64 (-1), .int .i64 132, .int .i64 0, .int .i64 0, .int .u16 0, .int .u16 0, .int .i64 0, .int .i64 0, .int .i64 (-1), .int .i64 (-1), .int .i64 (-1), .slice none 0 0]) ∧ Below W.heap.size W w' from fun W => none_any (-1) ⟨132, 0, 0, 0, 0, 0, 0⟩ W)
 have HN6 := zh (show ∀ W, Calls Try.prog 20 #[.int .i64 (-1), .agg #[.int .i64 130, .int .i64 0, .int .i64 0, .int .u16 0, .int .u16 0, .int .i64 0, .int .i64 0]] W fun e w' => e = .returned (.agg #[.int .i64 (-1), .int .i64 130, .int .i64 0, .int .i64 0, .int .u16 0, .int .u16 0, .int .i64 0, .int .i64 0, .int .i64 (-1), .int .i64 (-1), .int .i64 (-1), .slice none 0 0]) ∧ Below W.heap.size W w' from fun W => none_any (-1) ⟨130, 0, 0, 0, 0, 0, 0⟩ W)
 have HN7 := zh (show ∀ W, Calls Try.prog 20 #[.int .i64 1, .agg #[.int .i64 0, .int .i64 0, .int .i64 0, .int .u16 0, .int .u16 0, .int .i64 0, .int .i64 0]] W fun e w' => e = .returned (.agg #[.int .i64 1, .int .i64 0, .int .i64 0, .int .i64 0, .int .u16 0, .int .u16 0, .int .i64 0, .int .i64 0, .int .i64 (-1), .int .i64 (-1), .int .i64 (-1), .slice none 0 0]) ∧ Below W.heap.size W w' from fun W => none_any (1) ⟨0, 0, 0, 0, 0, 0, 0⟩ W)
 have HN8 := zh (show ∀ W, Calls Try.prog 20 #[.int .i64 2, .agg #[.int .i64 1, .int .i64 0, .int .i64 0, .int .u16 0, .int .u16 0, .int .i64 0, .int .i64 0]] W fun e w' => e = .returned (.agg #[.int .i64 2, .int .i64 1, .int .i64 0, .int .i64 0, .int .u16 0, .int .u16 0, .int .i64 0, .int .i64 0, .int .i64 (-1), .int .i64 (-1), .int .i64 (-1), .slice none 0 0]) ∧ Below W.heap.size W w' from fun W => none_any (2) ⟨1, 0, 0, 0, 0, 0, 0⟩ W)
 have HA1 := zh exAsm1
 have HA2 := zh exAsm2
 have HA3 := zh exAsm3
 have HA4 := zh exAsm4
 go_enter Try.func7, Try.ntmps7
 go_upto_region 2 with (refine wpList_store_row rfl _ _ _ rfl _ _ rfl rfl _ _ (heap_alloc_new _ _) ?_ ?_ ?_ ?_; kernel_rfl; rfl; kernel_rfl; rw [World.setRow_alloc_new])
 have h1 := heap_alloc_new w (.cells #[.int .i64 0, .int .u16 256] 37)
 have hb1 := (Below.refl w.heap.size w).alloc (zn _) (.cells #[.int .i64 0, .int .u16 256] 37)
 obtain ⟨w1, hw1⟩ : ∃ w1 : World, w.alloc (.cells #[.int .i64 0, .int .u16 256] 37) = w1 := ⟨_, rfl⟩
 rw [hw1] at h1 hb1 ⊢
 have H1 := zh h1
 have HB := zh hb1
 clear hw1 h1 hb1
 obtain ⟨b1, hbe⟩ : ∃ b : Nat, w.heap.size = b := ⟨_, rfl⟩
 rw [hbe] at H1 ⊢
 have HBE := zh hbe
 clear hbe
 go_upto_region 3 with (first | (refine wpList_store_row rfl _ _ _ rfl _ _ rfl rfl _ _ (heap_alloc_new _ _) ?_ ?_ ?_ ?_; kernel_rfl; rfl; kernel_rfl; rw [World.setRow_alloc_new]) | (go_at_call 20; refine (HN1.out _).mono ?_; rintro e ww1 ⟨rfl, hhb2⟩))
 have hn := heap_alloc_new ww1 (.cells #[.int .i64 (-1), .int .i64 128, .int .i64 0, .int .i64 0, .int .u16 0, .int .u16 0, .int .i64 0, .int .i64 0, .int .i64 (-1), .int .i64 (-1), .int .i64 (-1), .slice none 0 0] 58)
 have hhb4 : Below w1.heap.size w1 (ww1.alloc (.cells #[.int .i64 (-1), .int .i64 128, .int .i64 0, .int .i64 0, .int .u16 0, .int .u16 0, .int .i64 0, .int .i64 0, .int .i64 (-1), .int .i64 (-1), .int .i64 (-1), .slice none 0 0] 58)) := hhb2.alloc hhb2.size _
 obtain ⟨ww3, hwb⟩ : ∃ W : World, ww1.alloc (.cells #[.int .i64 (-1), .int .i64 128, .int .i64 0, .int .i64 0, .int .u16 0, .int .u16 0, .int .i64 0, .int .i64 0, .int .i64 (-1), .int .i64 (-1), .int .i64 (-1), .slice none 0 0] 58) = W := ⟨_, rfl⟩
 obtain ⟨g1, hg⟩ : ∃ g : Nat, ww1.heap.size = g := ⟨_, rfl⟩
 have hge : w.heap.size ≤ g1 := by rw [← hg]; exact Nat.le_trans HB.out.size hhb2.size
 rw [hwb] at hn hhb4 ⊢
 rw [hg] at hn ⊢
 have HL1 := zh hn
 have HG := zh hge
 have HB := zh (HB.out.trans (hhb4.mono HB.out.size))
 have H1 := zh (zf hhb4 H1.out)
 clear hwb hg hn hge hhb2 hhb4
 try simp only [Act.put]
 go_upto_region 4 with (refine yP rfl _ _ _ rfl _ _ (by rfl) _ (by rfl) _ _ (HL1.out) _ (by rfl) ?_ ?_ ?_ (#[.int .i64 (-1), .int .i64 128, .int .i64 0, .int .i64 0, .int .u16 0, .int .u16 0, .int .i64 0, .int .i64 0, .int .i64 1, .int .i64 (-1), .int .i64 (-1), .slice none 0 0]) (by rfl) ?_; rfl; kernel_rfl; kernel_rfl)
 have H1 := zh ((setRow_other ww3 g1 b1 #[.int .i64 (-1), .int .i64 128, .int .i64 0, .int .i64 0, .int .u16 0, .int .u16 0, .int .i64 0, .int .i64 0, .int .i64 1, .int .i64 (-1), .int .i64 (-1), .slice none 0 0] (by have h8 := HL1.out; have h9 := H1.out; intro e; rw [e, h8] at h9; first | (simp at h9; done) | (have := HG2.out; omega))).trans H1.out)
 have HL1 := zh (setRow_heap ww3 g1 _ #[.int .i64 (-1), .int .i64 128, .int .i64 0, .int .i64 0, .int .u16 0, .int .u16 0, .int .i64 0, .int .i64 0, .int .i64 1, .int .i64 (-1), .int .i64 (-1), .slice none 0 0] _ _ HL1.out)
 have HB := zh (below_setRow HB.out HG.out #[.int .i64 (-1), .int .i64 128, .int .i64 0, .int .i64 0, .int .u16 0, .int .u16 0, .int .i64 0, .int .i64 0, .int .i64 1, .int .i64 (-1), .int .i64 (-1), .slice none 0 0])
 obtain ⟨ww5, hwc⟩ : ∃ W : World, ww3.setRow g1 #[.int .i64 (-1), .int .i64 128, .int .i64 0, .int .i64 0, .int .u16 0, .int .u16 0, .int .i64 0, .int .i64 0, .int .i64 1, .int .i64 (-1), .int .i64 (-1), .slice none 0 0] = W := ⟨_, rfl⟩
 rw [hwc] at HL1 HB H1 ⊢
 clear hwc
 try simp only [Act.put]
 refine zV [] 14 (z5 [isV (.agg #[.int .i64 4, .int .i64 0, .int .i64 0, .int .u16 0, .int .u16 0, .int .i64 0, .int .i64 0]), isV (.agg #[.int .i64 1, .int .i64 4, .int .i64 0, .int .i64 0, .int .u16 0, .int .u16 0, .int .i64 0, .int .i64 0, .int .i64 (-1), .int .i64 (-1), .int .i64 (-1), .slice none 0 0]), isV (.agg #[.int .i64 (-1), .int .i64 128, .int .i64 0, .int .i64 0, .int .u16 0, .int .u16 0, .int .i64 0, .int .i64 0, .int .i64 1, .int .i64 (-1), .int .i64 (-1), .slice none 0 0]), newS (ww5.heap.size) ((.cells #[.int .i64 1, .int .i64 4, .int .i64 0, .int .i64 0, .int .u16 0, .int .u16 0, .int .i64 0, .int .i64 0, .int .i64 (-1), .int .i64 (-1), .int .i64 (-1), .slice none 0 0, .int .i64 (-1), .int .i64 128, .int .i64 0, .int .i64 0, .int .u16 0, .int .u16 0, .int .i64 0, .int .i64 0, .int .i64 1, .int .i64 (-1), .int .i64 (-1), .slice none 0 0] 58 (0, 0))) 2, isVT ((fun _ => False)) (AgQ #[.int .i64 1, .int .i64 4, .int .i64 0, .int .i64 0, .int .u16 0, .int .u16 0, .int .i64 0, .int .i64 0, .int .i64 (-1), .int .i64 (-1), .int .i64 (-1), .slice none 0 0, .int .i64 (-1), .int .i64 128, .int .i64 0, .int .i64 0, .int .u16 0, .int .u16 0, .int .i64 0, .int .i64 0, .int .i64 1, .int .i64 (-1), .int .i64 (-1), .slice none 0 0] 2), isV (.agg #[.int .i64 0, .int .u16 256]), isVT ((fun _ => False)) (TupS ⟨#[4, 128, 253]⟩), isVT ((fun _ => False)) (TupS ⟨#[4, 128, 253]⟩), isV ((.string ⟨#[4, 128, 253]⟩)), anyV, isV ((.int .i64 0)), isV ((.string ⟨#[4, 128, 253]⟩)), anyV, isV ((.int .i64 0))]) (nth [[0], [1], [2], [3], [4], [5], [6], [7], [8], [9], [10], [11], [12], [13]]) (nth [[], [], [], [], [], [], [], [], [], [], [], [], [], []]) (nth [[], [0], [], [1, 2], [3], [], [4, 5, 1], [6], [7], [7], [7], [8], [], [10]]) [11, 13] (fun w5 => Below ww5.heap.size ww5 w5 ∧ True ∧ ww5.heap.size ≤ w5.heap.size ∧ True) (by kernel_rfl) (by kernel_rfl) (⟨(Below.refl _ _).drew, trivial, zn _, trivial⟩) (fun w w' h hb => ⟨h.1.trans (hb.mono h.1.size), trivial, Nat.le_trans h.2.2.1 hb.size, trivial⟩) (zG ((za (zc _)  (za (zc _)  (za (zc _)  (za (yZ _ _ _)  (za (yu _ _)  (za (zc _)  (za (yu _ _)  (za (yu _ _)  (za (zc _)  (za (zi.anyV)  (za (zc _)  (za (zc _)  (za (zi.anyV)  (za (zc _) zy)))))))))))))))) (fun f F hF => ?_)
 simp only [List.take_succ_cons, List.take_zero, yb, Act.put, zD, zE, zF, Nat.reduceAdd] at hF
 subst hF
 refine ⟨zd ?_ (zd ?_ (zd ?_ (zd ?_ (zd ?_ (zd ?_ (zd ?_ (zd ?_ (zd ?_ (zd ?_ (zd ?_ (zd ?_ (zd ?_ (zd ?_ (yd)))))))))))))), ?_⟩
 ·intro ww6 hS hF hD K hK
  rw [if_pos (by rfl)]
  exact svV hK rfl rfl rfl rfl (by first | rfl | kernel_rfl)  (by show _ = _; kernel_rfl)
 ·intro ww6 hS hF hD K hK
  obtain ⟨(e0 : f 0 = _), -⟩ := hF
  try simp only [e0]
  rw [if_pos (by rfl)]
  go_simp
  go_at_call 20; refine (HN2.out _).mono ?_; rintro e w3 ⟨rfl, hbelow⟩; go_simp
  refine hK.out _ _ rfl (zP rfl rfl rfl hbelow ?_)
  first | rfl | kernel_rfl
 ·intro ww6 hS hF hD K hK
  rw [if_pos (by rfl)]
  exact svR hK rfl rfl rfl rfl (by first | rfl | kernel_rfl)  rfl rfl (zf hS.1 HL1.out) (by kernel_rfl)
 ·intro ww6 hS hF hD K hK
  obtain ⟨(e1 : f 1 = _), (e2 : f 2 = _), -⟩ := hF
  try simp only [e1, e2]
  rw [if_pos (by rfl)]
  go_simp
  refine hK.out _ _ rfl (y0 rfl rfl rfl hS.2.2.1 ?_)
  first | rfl | kernel_rfl
 ·intro ww6 hS hF hD K hK
  obtain ⟨e3, -⟩ := hF
  obtain ⟨g3, e3, hB3, hg3⟩ := e3
  replace e3 : f 3 = _ := e3
  try simp only [e3]
  rw [if_pos (by rfl)]
  show Oper.wp _ _ _ _ _ _; go_simp
  exact hK.out _ _ rfl (yv rfl rfl rfl rfl (zn _) (hS) (zk (zk (zk (yq ((fun _ _ h => h)) (yc (by rfl) (zk (zU (zN.refl _ _) (zU (zN.refl _ _) (zk (xf (zk (zk (xf (zk ym)))))))))))))) (⟨_, rfl, hg3⟩))
 ·intro ww6 hS hF hD K hK
  rw [if_pos (by rfl)]
  exact svR hK rfl rfl rfl rfl (by first | rfl | kernel_rfl)  rfl rfl (zf hS.1 H1.out) (by kernel_rfl)
 ·intro ww6 hS hF hD K hK
  obtain ⟨e4, (e5 : f 5 = _), (e1 : f 1 = _), -⟩ := hF
  obtain ⟨y4, p4, t4⟩ := e4
  try simp only [e5, e1]
  rw [if_pos (by rfl)]
  obtain ⟨g4, hv4, hg4⟩ := p4; simp only [hv4]; show Oper.wp _ _ _ _ _ _; go_simp; go_at_call 13; refine (HA1.out _ g4 (t4.heap hg4 (fun h => h))).mono ?_; rintro e w9 ⟨⟨pv9, rfl, ho9⟩, hb9⟩; go_simp
  exact hK.out _ _ rfl (yv rfl rfl rfl rfl (hb9.size) (⟨hS.1.trans (hb9.mono hS.1.size), trivial, Nat.le_trans hS.2.2.1 hb9.size, trivial⟩) (zk (zk (zk (yq ((fun _ _ h => zf hb9 h)) (zU (zN.ofBelow hb9) (zk (yc (by rfl) (zU (zN.ofBelow hb9) (zk (xf (zk (zk (xf (zk ym)))))))))))))) (⟨_, rfl⟩))
 ·intro ww6 hS hF hD K hK
  obtain ⟨e6, -⟩ := hF
  obtain ⟨y6, p6, t6⟩ := e6
  rw [if_pos (by rfl)]
  show Oper.wp _ _ _ _ _ _; go_simp
  exact hK.out _ _ rfl (yv rfl rfl rfl rfl (zn _) (hS) (zk (zk (zk (yq ((fun _ _ h => h)) (zU (zN.refl _ _) (zk (zU (zN.refl _ _) (yc (by rfl) (zk (xf (zk (zk (xf (zk ym)))))))))))))) (p6))
 ·intro ww6 hS hF hD K hK
  obtain ⟨e7, -⟩ := hF
  obtain ⟨y7, p7, t7⟩ := e7
  rw [if_pos (by rfl)]
  obtain ⟨v1, hv1⟩ := p7; simp only [hv1]; show Oper.wp _ _ _ _ _ _; go_simp; refine hK.out _ _ rfl (zq rfl rfl rfl ?_); first | rfl | kernel_rfl
 ·intro ww6 hS hF hD K hK
  obtain ⟨e7, -⟩ := hF
  obtain ⟨y7, p7, t7⟩ := e7
  rw [if_pos (by rfl)]
  obtain ⟨v1, hv1⟩ := p7; simp only [hv1]; show Oper.wp _ _ _ _ _ _; go_simp; exact hK.out _ _ rfl (zr.any rfl rfl)
 ·intro ww6 hS hF hD K hK
  obtain ⟨e7, -⟩ := hF
  obtain ⟨y7, p7, t7⟩ := e7
  rw [if_pos (by rfl)]
  obtain ⟨v1, hv1⟩ := p7; simp only [hv1]; show Oper.wp _ _ _ _ _ _; go_simp; refine hK.out _ _ rfl (zq rfl rfl rfl ?_); first | rfl | kernel_rfl
 ·intro ww6 hS hF hD K hK
  obtain ⟨(e8 : f 8 = _), -⟩ := hF
  try simp only [e8]
  rw [if_pos (by rfl)]
  exact svV hK rfl rfl rfl rfl (by first | rfl | kernel_rfl)  (by show _ = _; kernel_rfl)
 ·intro ww6 hS hF hD K hK
  rw [if_pos (by rfl)]
  go_simp
  exact hK.out _ _ rfl (zr.any rfl rfl)
 ·intro ww6 hS hF hD K hK
  obtain ⟨(e10 : f 10 = _), -⟩ := hF
  try simp only [e10]
  rw [if_pos (by rfl)]
  exact svV hK rfl rfl rfl rfl (by first | rfl | kernel_rfl)  (by show _ = _; kernel_rfl)
 intro ww6 hS hF
 obtain ⟨(e11 : f 11 = _), (e13 : f 13 = _), -⟩ := hF
 try simp only [e11, e13]
 refine yN (by kernel_rfl) ?_
 have H1 := zh (zf hS.1 H1.out)
 have HB := zh (HB.out.trans (hS.1.mono HB.out.size))
 clear hS e11 e13 HL1 HG
 go_upto_region 6 with (first | (refine wpList_store_row rfl _ _ _ rfl _ _ rfl rfl _ _ (heap_alloc_new _ _) ?_ ?_ ?_ ?_; kernel_rfl; rfl; kernel_rfl; rw [World.setRow_alloc_new]) | (go_at_call 20; refine (HN3.out _).mono ?_; rintro e ww7 ⟨rfl, hhb8⟩))
 have hn := heap_alloc_new ww7 (.cells #[.int .i64 (-1), .int .i64 64, .int .i64 1, .int .i64 0, .int .u16 2, .int .u16 0, .int .i64 0, .int .i64 0, .int .i64 (-1), .int .i64 (-1), .int .i64 (-1), .slice none 0 0] 58)
 have hhb10 : Below ww6.heap.size ww6 (ww7.alloc (.cells #[.int .i64 (-1), .int .i64 64, .int .i64 1, .int .i64 0, .int .u16 2, .int .u16 0, .int .i64 0, .int .i64 0, .int .i64 (-1), .int .i64 (-1), .int .i64 (-1), .slice none 0 0] 58)) := hhb8.alloc hhb8.size _
 obtain ⟨ww9, hwb⟩ : ∃ W : World, ww7.alloc (.cells #[.int .i64 (-1), .int .i64 64, .int .i64 1, .int .i64 0, .int .u16 2, .int .u16 0, .int .i64 0, .int .i64 0, .int .i64 (-1), .int .i64 (-1), .int .i64 (-1), .slice none 0 0] 58) = W := ⟨_, rfl⟩
 obtain ⟨g2, hg⟩ : ∃ g : Nat, ww7.heap.size = g := ⟨_, rfl⟩
 have hge : w.heap.size ≤ g2 := by rw [← hg]; exact Nat.le_trans HB.out.size hhb8.size
 rw [hwb] at hn hhb10 ⊢
 rw [hg] at hn ⊢
 have HL1 := zh hn
 have HG := zh hge
 have HB := zh (HB.out.trans (hhb10.mono HB.out.size))
 have H1 := zh (zf hhb10 H1.out)
 clear hwb hg hn hge hhb8 hhb10
 try simp only [Act.put]
 go_upto_region 7 with (refine yP rfl _ _ _ rfl _ _ (by rfl) _ (by rfl) _ _ (HL1.out) _ (by rfl) ?_ ?_ ?_ (#[.int .i64 (-1), .int .i64 64, .int .i64 1, .int .i64 0, .int .u16 2, .int .u16 0, .int .i64 0, .int .i64 0, .int .i64 (-1), .int .i64 (-1), .int .i64 0, .slice none 0 0]) (by rfl) ?_; rfl; kernel_rfl; kernel_rfl)
 have H1 := zh ((setRow_other ww9 g2 b1 #[.int .i64 (-1), .int .i64 64, .int .i64 1, .int .i64 0, .int .u16 2, .int .u16 0, .int .i64 0, .int .i64 0, .int .i64 (-1), .int .i64 (-1), .int .i64 0, .slice none 0 0] (by have h8 := HL1.out; have h9 := H1.out; intro e; rw [e, h8] at h9; first | (simp at h9; done) | (have := HG2.out; omega))).trans H1.out)
 have HL1 := zh (setRow_heap ww9 g2 _ #[.int .i64 (-1), .int .i64 64, .int .i64 1, .int .i64 0, .int .u16 2, .int .u16 0, .int .i64 0, .int .i64 0, .int .i64 (-1), .int .i64 (-1), .int .i64 0, .slice none 0 0] _ _ HL1.out)
 have HB := zh (below_setRow HB.out HG.out #[.int .i64 (-1), .int .i64 64, .int .i64 1, .int .i64 0, .int .u16 2, .int .u16 0, .int .i64 0, .int .i64 0, .int .i64 (-1), .int .i64 (-1), .int .i64 0, .slice none 0 0])
 obtain ⟨ww11, hwc⟩ : ∃ W : World, ww9.setRow g2 #[.int .i64 (-1), .int .i64 64, .int .i64 1, .int .i64 0, .int .u16 2, .int .u16 0, .int .i64 0, .int .i64 0, .int .i64 (-1), .int .i64 (-1), .int .i64 0, .slice none 0 0] = W := ⟨_, rfl⟩
 rw [hwc] at HL1 HB H1 ⊢
 clear hwc
 try simp only [Act.put]
 refine zV [] 16 (z5 [isV (.agg #[.int .i64 (-1), .int .i64 64, .int .i64 1, .int .i64 0, .int .u16 2, .int .u16 0, .int .i64 0, .int .i64 0, .int .i64 (-1), .int .i64 (-1), .int .i64 0, .slice none 0 0]), isV (.agg #[.int .i64 1, .int .i64 0, .int .i64 0, .int .u16 0, .int .u16 0, .int .i64 0, .int .i64 0]), isV (.agg #[.int .i64 (-1), .int .i64 1, .int .i64 0, .int .i64 0, .int .u16 0, .int .u16 0, .int .i64 0, .int .i64 0, .int .i64 (-1), .int .i64 (-1), .int .i64 (-1), .slice none 0 0]), newS (ww11.heap.size) ((.cells #[.int .i64 (-1), .int .i64 64, .int .i64 1, .int .i64 0, .int .u16 2, .int .u16 0, .int .i64 0, .int .i64 0, .int .i64 (-1), .int .i64 (-1), .int .i64 0, .slice none 0 0, .int .i64 (-1), .int .i64 1, .int .i64 0, .int .i64 0, .int .u16 0, .int .u16 0, .int .i64 0, .int .i64 0, .int .i64 (-1), .int .i64 (-1), .int .i64 (-1), .slice none 0 0] 58 (0, 0))) 2, isVT ((fun _ => False)) (AgQ #[.int .i64 (-1), .int .i64 64, .int .i64 1, .int .i64 0, .int .u16 2, .int .u16 0, .int .i64 0, .int .i64 0, .int .i64 (-1), .int .i64 (-1), .int .i64 0, .slice none 0 0, .int .i64 (-1), .int .i64 1, .int .i64 0, .int .i64 0, .int .u16 0, .int .u16 0, .int .i64 0, .int .i64 0, .int .i64 (-1), .int .i64 (-1), .int .i64 (-1), .slice none 0 0] 2), isV (.agg #[.int .i64 0, .int .u16 256]), isV (.agg #[.int .i64 (-1), .int .u16 16400, .int .u16 4]), newS (ww11.heap.size) ((.cells #[.int .i64 (-1), .int .u16 16400, .int .u16 4] 47 (0, 0))) 1, isVT ((fun _ => False)) (TupP 0 ⟨#[64, 1, 18, 64, 1]⟩ [2]), isVT ((fun _ => False)) (TupP 0 ⟨#[64, 1, 18, 64, 1]⟩ [2]), isV ((.string ⟨#[64, 1, 18, 64, 1]⟩)), isVT ((fun _ => False)) (PosQ 0 [2]), isV ((.int .i64 0)), isV ((.string ⟨#[64, 1, 18, 64, 1]⟩)), isVT ((fun _ => False)) (PosQ 0 [2]), isV ((.int .i64 0))]) (nth [[0], [1], [2], [3], [4], [5], [6], [7], [8], [9], [10], [11], [12], [13], [14], [15]]) (nth [[], [], [], [], [], [], [], [], [], [], [], [], [], [], [], []]) (nth [[], [], [1], [0, 2], [3], [], [], [6], [4, 5, 7, 2], [8], [9], [9], [9], [10], [11], [12]]) [13, 14, 15] (fun w5 => Below ww11.heap.size ww11 w5 ∧ True ∧ ww11.heap.size ≤ w5.heap.size ∧ True) (by kernel_rfl) (by kernel_rfl) (⟨(Below.refl _ _).drew, trivial, zn _, trivial⟩) (fun w w' h hb => ⟨h.1.trans (hb.mono h.1.size), trivial, Nat.le_trans h.2.2.1 hb.size, trivial⟩) (zG ((za (zc _)  (za (zc _)  (za (zc _)  (za (yZ _ _ _)  (za (yu _ _)  (za (zc _)  (za (zc _)  (za (yZ _ _ _)  (za (yu _ _)  (za (yu _ _)  (za (zc _)  (za (yu _ _)  (za (zc _)  (za (zc _)  (za (yu _ _)  (za (zc _) zy)))))))))))))))))) (fun f F hF => ?_)
 simp only [List.take_succ_cons, List.take_zero, yb, Act.put, zD, zE, zF, Nat.reduceAdd] at hF
 subst hF
 refine ⟨zd ?_ (zd ?_ (zd ?_ (zd ?_ (zd ?_ (zd ?_ (zd ?_ (zd ?_ (zd ?_ (zd ?_ (zd ?_ (zd ?_ (zd ?_ (zd ?_ (zd ?_ (zd ?_ (yd)))))))))))))))), ?_⟩
 ·intro ww12 hS hF hD K hK
  rw [if_pos (by rfl)]
  exact svR hK rfl rfl rfl rfl (by first | rfl | kernel_rfl)  rfl rfl (zf hS.1 HL1.out) (by kernel_rfl)
 ·intro ww12 hS hF hD K hK
  rw [if_pos (by rfl)]
  exact svV hK rfl rfl rfl rfl (by first | rfl | kernel_rfl)  (by show _ = _; kernel_rfl)
 ·intro ww12 hS hF hD K hK
  obtain ⟨(e1 : f 1 = _), -⟩ := hF
  try simp only [e1]
  rw [if_pos (by rfl)]
  go_simp
  go_at_call 20; refine (HN4.out _).mono ?_; rintro e w3 ⟨rfl, hbelow⟩; go_simp
  refine hK.out _ _ rfl (zP rfl rfl rfl hbelow ?_)
  first | rfl | kernel_rfl
 ·intro ww12 hS hF hD K hK
  obtain ⟨(e0 : f 0 = _), (e2 : f 2 = _), -⟩ := hF
  try simp only [e0, e2]
  rw [if_pos (by rfl)]
  go_simp
  refine hK.out _ _ rfl (y0 rfl rfl rfl hS.2.2.1 ?_)
  first | rfl | kernel_rfl
 ·intro ww12 hS hF hD K hK
  obtain ⟨e3, -⟩ := hF
  obtain ⟨g3, e3, hB3, hg3⟩ := e3
  replace e3 : f 3 = _ := e3
  try simp only [e3]
  rw [if_pos (by rfl)]
  show Oper.wp _ _ _ _ _ _; go_simp
  exact hK.out _ _ rfl (yv rfl rfl rfl rfl (zn _) (hS) (zk (zk (zk (yq ((fun _ _ h => h)) (yc (by rfl) (zk (zk (yq ((fun _ _ h => h)) (zU (zN.refl _ _) (zU (zN.refl _ _) (zk (zU (zN.refl _ _) (zk (zk (zU (zN.refl _ _) (zk ym)))))))))))))))) (⟨_, rfl, hg3⟩))
 ·intro ww12 hS hF hD K hK
  rw [if_pos (by rfl)]
  exact svR hK rfl rfl rfl rfl (by first | rfl | kernel_rfl)  rfl rfl (zf hS.1 H1.out) (by kernel_rfl)
 ·intro ww12 hS hF hD K hK
  rw [if_pos (by rfl)]
  exact svV hK rfl rfl rfl rfl (by first | rfl | kernel_rfl)  (by show _ = _; kernel_rfl)
 ·intro ww12 hS hF hD K hK
  obtain ⟨(e6 : f 6 = _), -⟩ := hF
  try simp only [e6]
  rw [if_pos (by rfl)]
  go_simp
  refine hK.out _ _ rfl (y0 rfl rfl rfl hS.2.2.1 ?_)
  first | rfl | kernel_rfl
 ·intro ww12 hS hF hD K hK
  obtain ⟨e4, (e5 : f 5 = _), e7, (e2 : f 2 = _), -⟩ := hF
  obtain ⟨y4, p4, t4⟩ := e4
  obtain ⟨g7, e7, hB7, hg7⟩ := e7
  replace e7 : f 7 = _ := e7
  try simp only [e5, e7, e2]
  rw [if_pos (by rfl)]
  obtain ⟨g4, hv4, hg4⟩ := p4; simp only [hv4]; show Oper.wp _ _ _ _ _ _; go_simp; go_at_call 13; refine (HA2.out _ g4 g7 (t4.heap hg4 (fun h => h)) hg7).mono ?_; rintro e w9 ⟨⟨pv9, rfl, ho9⟩, hb9⟩; go_simp
  exact hK.out _ _ rfl (yv rfl rfl rfl rfl (hb9.size) (⟨hS.1.trans (hb9.mono hS.1.size), trivial, Nat.le_trans hS.2.2.1 hb9.size, trivial⟩) (zk (zk (zk (yq ((fun _ _ h => zf hb9 h)) (zU (zN.ofBelow hb9) (zk (zk (yq ((fun _ _ h => zf hb9 h)) (yc (by rfl) (zU (zN.ofBelow hb9) (zk (zU (zN.ofBelow hb9) (zk (zk (zU (zN.ofBelow hb9) (zk ym)))))))))))))))) (⟨_, rfl, own_base ho9 (Nat.zero_le _)⟩))
 ·intro ww12 hS hF hD K hK
  obtain ⟨e8, -⟩ := hF
  obtain ⟨y8, p8, t8⟩ := e8
  rw [if_pos (by rfl)]
  show Oper.wp _ _ _ _ _ _; go_simp
  exact hK.out _ _ rfl (yv rfl rfl rfl rfl (zn _) (hS) (zk (zk (zk (yq ((fun _ _ h => h)) (zU (zN.refl _ _) (zk (zk (yq ((fun _ _ h => h)) (zU (zN.refl _ _) (yc (by rfl) (zk (zU (zN.refl _ _) (zk (zk (zU (zN.refl _ _) (zk ym)))))))))))))))) ((by obtain ⟨v1, hv1, ho1⟩ := p8; exact ⟨v1, hv1, zZ ho1 t8 fun _ _ h => h⟩)))
 ·intro ww12 hS hF hD K hK
  obtain ⟨e9, -⟩ := hF
  obtain ⟨y9, p9, t9⟩ := e9
  rw [if_pos (by rfl)]
  obtain ⟨v1, hv1, -⟩ := p9; simp only [hv1]; show Oper.wp _ _ _ _ _ _; go_simp; refine hK.out _ _ rfl (zq rfl rfl rfl ?_); first | rfl | kernel_rfl
 ·intro ww12 hS hF hD K hK
  obtain ⟨e9, -⟩ := hF
  obtain ⟨y9, p9, t9⟩ := e9
  rw [if_pos (by rfl)]
  obtain ⟨v1, hv1, ho1⟩ := p9; simp only [hv1]; show Oper.wp _ _ _ _ _ _; go_simp
  exact hK.out _ _ rfl (yv rfl rfl rfl rfl (zn _) (hS) (zk (zk (zk (yq ((fun _ _ h => h)) (zU (zN.refl _ _) (zk (zk (yq ((fun _ _ h => h)) (zU (zN.refl _ _) (zU (zN.refl _ _) (zk (yc (by rfl) (zk (zk (zU (zN.refl _ _) (zk ym)))))))))))))))) ((zZ ho1 t9 fun _ _ h => h)))
 ·intro ww12 hS hF hD K hK
  obtain ⟨e9, -⟩ := hF
  obtain ⟨y9, p9, t9⟩ := e9
  rw [if_pos (by rfl)]
  obtain ⟨v1, hv1, -⟩ := p9; simp only [hv1]; show Oper.wp _ _ _ _ _ _; go_simp; refine hK.out _ _ rfl (zq rfl rfl rfl ?_); first | rfl | kernel_rfl
 ·intro ww12 hS hF hD K hK
  obtain ⟨(e10 : f 10 = _), -⟩ := hF
  try simp only [e10]
  rw [if_pos (by rfl)]
  exact svV hK rfl rfl rfl rfl (by first | rfl | kernel_rfl)  (by show _ = _; kernel_rfl)
 ·intro ww12 hS hF hD K hK
  obtain ⟨e11, -⟩ := hF
  obtain ⟨y11, p11, t11⟩ := e11
  rw [if_pos (by rfl)]
  show Oper.wp _ _ _ _ _ _; go_simp
  exact hK.out _ _ rfl (yv rfl rfl rfl rfl (zn _) (hS) (zk (zk (zk (yq ((fun _ _ h => h)) (zU (zN.refl _ _) (zk (zk (yq ((fun _ _ h => h)) (zU (zN.refl _ _) (zU (zN.refl _ _) (zk (zU (zN.refl _ _) (zk (zk (yc (by rfl) (zk ym)))))))))))))))) ((zZ p11 t11 fun _ _ h => h)))
 ·intro ww12 hS hF hD K hK
  obtain ⟨(e12 : f 12 = _), -⟩ := hF
  try simp only [e12]
  rw [if_pos (by rfl)]
  exact svV hK rfl rfl rfl rfl (by first | rfl | kernel_rfl)  (by show _ = _; kernel_rfl)
 intro ww12 hS hF
 obtain ⟨(e13 : f 13 = _), e14, (e15 : f 15 = _), -⟩ := hF
 obtain ⟨y14, p14, t14⟩ := e14
 try simp only [e13, e15]
 refine yN (by kernel_rfl) ?_
 have ho14 := zZ p14 t14 fun _ _ h => h
 obtain ⟨gp, cpp, e14, hgp, cup, hup, hcp⟩ := own_int_all (xs := [2]) ho14 (by decide)
 try simp only [e14]
 have HUP := zh hup
 have HCP := zh (hcp 0 2 rfl)
 have H1 := zh (zf hS.1 H1.out)
 have HB := zh (HB.out.trans (hS.1.mono HB.out.size))
 clear hS e13 e15 HL1 HG p14 t14 ho14 e14 hgp hup hcp
 go_upto_region 9 with (first | (refine wpList_store_row rfl _ _ _ rfl _ _ rfl rfl _ _ (heap_alloc_new _ _) ?_ ?_ ?_ ?_; kernel_rfl; rfl; kernel_rfl; rw [World.setRow_alloc_new]) | (go_at_call 20; refine (HN5.out _).mono ?_; rintro e ww13 ⟨rfl, hhb14⟩))
 have hn := heap_alloc_new ww13 (.cells #[.int .i64 (-1), .int .i64 132, .int .i64 0, .int .i64 0, .int .u16 0, .int .u16 0, .int .i64 0, .int .i64 0, .int .i64 (-1), .int .i64 (-1), .int .i64 (-1), .slice none 0 0] 58)
 have hhb16 : Below ww12.heap.size ww12 (ww13.alloc (.cells #[.int .i64 (-1), .int .i64 132, .int .i64 0, .int .i64 0, .int .u16 0, .int .u16 0, .int .i64 0, .int .i64 0, .int .i64 (-1), .int .i64 (-1), .int .i64 (-1), .slice none 0 0] 58)) := hhb14.alloc hhb14.size _
 obtain ⟨ww15, hwb⟩ : ∃ W : World, ww13.alloc (.cells #[.int .i64 (-1), .int .i64 132, .int .i64 0, .int .i64 0, .int .u16 0, .int .u16 0, .int .i64 0, .int .i64 0, .int .i64 (-1), .int .i64 (-1), .int .i64 (-1), .slice none 0 0] 58) = W := ⟨_, rfl⟩
 obtain ⟨g3, hg⟩ : ∃ g : Nat, ww13.heap.size = g := ⟨_, rfl⟩
 have hge : w.heap.size ≤ g3 := by rw [← hg]; exact Nat.le_trans HB.out.size hhb14.size
 rw [hwb] at hn hhb16 ⊢
 rw [hg] at hn ⊢
 have HL1 := zh hn
 have HG := zh hge
 have HB := zh (HB.out.trans (hhb16.mono HB.out.size))
 have H1 := zh (zf hhb16 H1.out)
 have HUP := zh (zf hhb16 HUP.out)
 clear hwb hg hn hge hhb14 hhb16
 try simp only [Act.put]
 go_upto_region 10 with (refine yP rfl _ _ _ rfl _ _ (by rfl) _ (by rfl) _ _ (HL1.out) _ (by rfl) ?_ ?_ ?_ (#[.int .i64 (-1), .int .i64 132, .int .i64 0, .int .i64 0, .int .u16 0, .int .u16 0, .int .i64 0, .int .i64 0, .int .i64 (-1), .int .i64 0, .int .i64 (-1), .slice none 0 0]) (by rfl) ?_; rfl; kernel_rfl; kernel_rfl)
 have H1 := zh ((setRow_other ww15 g3 b1 #[.int .i64 (-1), .int .i64 132, .int .i64 0, .int .i64 0, .int .u16 0, .int .u16 0, .int .i64 0, .int .i64 0, .int .i64 (-1), .int .i64 0, .int .i64 (-1), .slice none 0 0] (by have h8 := HL1.out; have h9 := H1.out; intro e; rw [e, h8] at h9; first | (simp at h9; done) | (have := HG2.out; omega))).trans H1.out)
 have HUP := zh ((setRow_other ww15 g3 gp #[.int .i64 (-1), .int .i64 132, .int .i64 0, .int .i64 0, .int .u16 0, .int .u16 0, .int .i64 0, .int .i64 0, .int .i64 (-1), .int .i64 0, .int .i64 (-1), .slice none 0 0] (by have h8 := HL1.out; have h9 := HUP.out; intro e; rw [e, h8] at h9; first | (simp at h9; done) | (have := HG2.out; omega))).trans HUP.out)
 have HL1 := zh (setRow_heap ww15 g3 _ #[.int .i64 (-1), .int .i64 132, .int .i64 0, .int .i64 0, .int .u16 0, .int .u16 0, .int .i64 0, .int .i64 0, .int .i64 (-1), .int .i64 0, .int .i64 (-1), .slice none 0 0] _ _ HL1.out)
 have HB := zh (below_setRow HB.out HG.out #[.int .i64 (-1), .int .i64 132, .int .i64 0, .int .i64 0, .int .u16 0, .int .u16 0, .int .i64 0, .int .i64 0, .int .i64 (-1), .int .i64 0, .int .i64 (-1), .slice none 0 0])
 obtain ⟨ww17, hwc⟩ : ∃ W : World, ww15.setRow g3 #[.int .i64 (-1), .int .i64 132, .int .i64 0, .int .i64 0, .int .u16 0, .int .u16 0, .int .i64 0, .int .i64 0, .int .i64 (-1), .int .i64 0, .int .i64 (-1), .slice none 0 0] = W := ⟨_, rfl⟩
 rw [hwc] at HL1 HB H1 HUP ⊢
 clear hwc
 try simp only [Act.put]
 have HG2 := zh (show g3 < ww17.heap.size from (Array.getElem?_eq_some_iff.1 HL1.out).1)
 go_upto_region 11 with (first | (refine wpList_store_row rfl _ _ _ rfl _ _ rfl rfl _ _ (heap_alloc_new _ _) ?_ ?_ ?_ ?_; kernel_rfl; rfl; kernel_rfl; rw [World.setRow_alloc_new]) | (go_at_call 20; refine (HN6.out _).mono ?_; rintro e ww18 ⟨rfl, hhb19⟩))
 have hn := heap_alloc_new ww18 (.cells #[.int .i64 (-1), .int .i64 130, .int .i64 0, .int .i64 0, .int .u16 0, .int .u16 0, .int .i64 0, .int .i64 0, .int .i64 (-1), .int .i64 (-1), .int .i64 (-1), .slice none 0 0] 58)
 have hhb21 : Below ww17.heap.size ww17 (ww18.alloc (.cells #[.int .i64 (-1), .int .i64 130, .int .i64 0, .int .i64 0, .int .u16 0, .int .u16 0, .int .i64 0, .int .i64 0, .int .i64 (-1), .int .i64 (-1), .int .i64 (-1), .slice none 0 0] 58)) := hhb19.alloc hhb19.size _
 obtain ⟨ww20, hwb⟩ : ∃ W : World, ww18.alloc (.cells #[.int .i64 (-1), .int .i64 130, .int .i64 0, .int .i64 0, .int .u16 0, .int .u16 0, .int .i64 0, .int .i64 0, .int .i64 (-1), .int .i64 (-1), .int .i64 (-1), .slice none 0 0] 58) = W := ⟨_, rfl⟩
 obtain ⟨g4, hg⟩ : ∃ g : Nat, ww18.heap.size = g := ⟨_, rfl⟩
 have hge : w.heap.size ≤ g4 := by rw [← hg]; exact Nat.le_trans HB.out.size hhb19.size
 rw [hwb] at hn hhb21 ⊢
 rw [hg] at hn ⊢
 have HL2 := zh hn
 have HG := zh hge
 have HB := zh (HB.out.trans (hhb21.mono HB.out.size))
 have H1 := zh (zf hhb21 H1.out)
 have HUP := zh (zf hhb21 HUP.out)
 have HL1 := zh (zf hhb21 HL1.out)
 try simp only [Act.put]
 go_upto_region 12 with (refine yP rfl _ _ _ rfl _ _ (by rfl) _ (by rfl) _ _ (HL2.out) _ (by rfl) ?_ ?_ ?_ (#[.int .i64 (-1), .int .i64 130, .int .i64 0, .int .i64 0, .int .u16 0, .int .u16 0, .int .i64 0, .int .i64 0, .int .i64 (-1), .int .i64 1, .int .i64 (-1), .slice none 0 0]) (by rfl) ?_; rfl; kernel_rfl; kernel_rfl)
 have H1 := zh ((setRow_other ww20 g4 b1 #[.int .i64 (-1), .int .i64 130, .int .i64 0, .int .i64 0, .int .u16 0, .int .u16 0, .int .i64 0, .int .i64 0, .int .i64 (-1), .int .i64 1, .int .i64 (-1), .slice none 0 0] (by have h8 := HL2.out; have h9 := H1.out; intro e; rw [e, h8] at h9; first | (simp at h9; done) | (have := HG2.out; omega))).trans H1.out)
 have HUP := zh ((setRow_other ww20 g4 gp #[.int .i64 (-1), .int .i64 130, .int .i64 0, .int .i64 0, .int .u16 0, .int .u16 0, .int .i64 0, .int .i64 0, .int .i64 (-1), .int .i64 1, .int .i64 (-1), .slice none 0 0] (by have h8 := HL2.out; have h9 := HUP.out; intro e; rw [e, h8] at h9; first | (simp at h9; done) | (have := HG2.out; omega))).trans HUP.out)
 have HL1 := zh ((setRow_other ww20 g4 g3 #[.int .i64 (-1), .int .i64 130, .int .i64 0, .int .i64 0, .int .u16 0, .int .u16 0, .int .i64 0, .int .i64 0, .int .i64 (-1), .int .i64 1, .int .i64 (-1), .slice none 0 0] (by have h8 := HL2.out; have h9 := HL1.out; intro e; rw [e, h8] at h9; first | (simp at h9; done) | (have := HG2.out; omega))).trans HL1.out)
 have HL2 := zh (setRow_heap ww20 g4 _ #[.int .i64 (-1), .int .i64 130, .int .i64 0, .int .i64 0, .int .u16 0, .int .u16 0, .int .i64 0, .int .i64 0, .int .i64 (-1), .int .i64 1, .int .i64 (-1), .slice none 0 0] _ _ HL2.out)
 have HB := zh (below_setRow HB.out HG.out #[.int .i64 (-1), .int .i64 130, .int .i64 0, .int .i64 0, .int .u16 0, .int .u16 0, .int .i64 0, .int .i64 0, .int .i64 (-1), .int .i64 1, .int .i64 (-1), .slice none 0 0])
 obtain ⟨ww22, hwc⟩ : ∃ W : World, ww20.setRow g4 #[.int .i64 (-1), .int .i64 130, .int .i64 0, .int .i64 0, .int .u16 0, .int .u16 0, .int .i64 0, .int .i64 0, .int .i64 (-1), .int .i64 1, .int .i64 (-1), .slice none 0 0] = W := ⟨_, rfl⟩
 rw [hwc] at HL2 HB H1 HUP HL1 ⊢
 clear hwc
 try simp only [Act.put]
 have hblt : b1 < ww22.heap.size := (Array.getElem?_eq_some_iff.1 H1.out).1
 go_upto_region 13 with (first | (refine zs _ _ rfl _ rfl _ _ _ (HL1.out) ?_ ?_ ?_; kernel_rfl; kernel_rfl) | (refine zs _ _ rfl _ rfl _ _ _ (HL2.out) ?_ ?_ ?_; kernel_rfl; kernel_rfl) | (refine zs _ _ rfl _ rfl _ _ _ ((heap_alloc_old _ _ hblt).trans H1.out) ?_ ?_ ?_; kernel_rfl; kernel_rfl) | (go_at_call 13; refine (HA3.out _ _ _ (show ((ww22.alloc (.cells #[.int .i64 (-1), .int .i64 132, .int .i64 0, .int .i64 0, .int .u16 0, .int .u16 0, .int .i64 0, .int .i64 0, .int .i64 (-1), .int .i64 0, .int .i64 (-1), .slice none 0 0, .int .i64 (-1), .int .i64 130, .int .i64 0, .int .i64 0, .int .u16 0, .int .u16 0, .int .i64 0, .int .i64 0, .int .i64 (-1), .int .i64 1, .int .i64 (-1), .slice none 0 0] 58)).alloc (.cells #[.int .i64 0, .int .u16 512, .int .i64 3, .int .u16 4096] 37)).heap[ww22.heap.size]? = _ from (yy _ _ _).1) (yy _ _ _).2).mono ?_; rintro e w90 ⟨⟨pv90, rfl, ho90⟩, hb90⟩))
 have hb91 : Below ww22.heap.size ww22 w90 := (((Below.refl _ _).alloc (zn _) _).alloc (by simp) _).trans (hb90.mono (by simp; omega))
 have H1 := zh (zf hb91 H1.out)
 have HUP := zh (zf hb91 HUP.out)
 have HB := zh (HB.out.trans (hb91.mono HB.out.size))
 clear hb90 hb91 ho90 HL1 HL2 HG HG2
 go_upto_region 14 with (refine wpList_store_row rfl _ _ _ rfl _ _ rfl rfl _ _ (heap_alloc_new _ _) ?_ ?_ ?_ ?_; kernel_rfl; rfl; kernel_rfl; rw [World.setRow_alloc_new])
 obtain ⟨ht1, hn⟩ := yy w90 (.cells #[.int .i64 1, .int .i64 2] 3) (.cells #[.int .i64 (-1), .int .i64 133, .int .i64 2, .int .i64 0, .int .u16 0, .int .u16 0, .int .i64 0, .int .i64 0, .int .i64 1, .int .i64 (-1), .int .i64 (-1), .slice (some ⟨w90.heap.size, 0, none⟩) 2 2] 58)
 have hbq : Below w90.heap.size w90 ((w90.alloc (.cells #[.int .i64 1, .int .i64 2] 3)).alloc (.cells #[.int .i64 (-1), .int .i64 133, .int .i64 2, .int .i64 0, .int .u16 0, .int .u16 0, .int .i64 0, .int .i64 0, .int .i64 1, .int .i64 (-1), .int .i64 (-1), .slice (some ⟨w90.heap.size, 0, none⟩) 2 2] 58)) := ((Below.refl _ _).alloc (zn _) _).alloc (by simp) _
 obtain ⟨w91, hw91⟩ : ∃ W : World, (w90.alloc (.cells #[.int .i64 1, .int .i64 2] 3)).alloc (.cells #[.int .i64 (-1), .int .i64 133, .int .i64 2, .int .i64 0, .int .u16 0, .int .u16 0, .int .i64 0, .int .i64 0, .int .i64 1, .int .i64 (-1), .int .i64 (-1), .slice (some ⟨w90.heap.size, 0, none⟩) 2 2] 58) = W := ⟨_, rfl⟩
 rw [hw91] at ht1 hn hbq ⊢
 have HTB := zh ht1
 have HL1 := zh hn
 have H1 := zh (zf hbq H1.out)
 have HUP := zh (zf hbq HUP.out)
 have HB := zh (HB.out.trans (hbq.mono HB.out.size))
 obtain ⟨gt, hgt⟩ : ∃ g : Nat, w90.heap.size = g := ⟨_, rfl⟩
 rw [hgt] at HTB HL1 ⊢
 clear hw91 ht1 hn hbq hgt
 try simp only [Act.put]
 refine zV [] 16 (z5 [isV (.agg #[.int .i64 (-1), .int .i64 133, .int .i64 2, .int .i64 0, .int .u16 0, .int .u16 0, .int .i64 0, .int .i64 0, .int .i64 1, .int .i64 (-1), .int .i64 (-1), .slice (some ⟨gt, 0, none⟩) 2 2]), isV (.agg #[.int .i64 0, .int .i64 0, .int .i64 0, .int .u16 0, .int .u16 0, .int .i64 0, .int .i64 0]), isV (.agg #[.int .i64 1, .int .i64 0, .int .i64 0, .int .i64 0, .int .u16 0, .int .u16 0, .int .i64 0, .int .i64 0, .int .i64 (-1), .int .i64 (-1), .int .i64 (-1), .slice none 0 0]), isV (.agg #[.int .i64 1, .int .i64 0, .int .i64 0, .int .u16 0, .int .u16 0, .int .i64 0, .int .i64 0]), isV (.agg #[.int .i64 2, .int .i64 1, .int .i64 0, .int .i64 0, .int .u16 0, .int .u16 0, .int .i64 0, .int .i64 0, .int .i64 (-1), .int .i64 (-1), .int .i64 (-1), .slice none 0 0]), newS (w91.heap.size) ((.cells #[.int .i64 (-1), .int .i64 133, .int .i64 2, .int .i64 0, .int .u16 0, .int .u16 0, .int .i64 0, .int .i64 0, .int .i64 1, .int .i64 (-1), .int .i64 (-1), .slice (some ⟨gt, 0, none⟩) 2 2, .int .i64 1, .int .i64 0, .int .i64 0, .int .i64 0, .int .u16 0, .int .u16 0, .int .i64 0, .int .i64 0, .int .i64 (-1), .int .i64 (-1), .int .i64 (-1), .slice none 0 0, .int .i64 2, .int .i64 1, .int .i64 0, .int .i64 0, .int .u16 0, .int .u16 0, .int .i64 0, .int .i64 0, .int .i64 (-1), .int .i64 (-1), .int .i64 (-1), .slice none 0 0] 58 (0, 0))) 3, isVT ((fun _ => False)) (AgQ #[.int .i64 (-1), .int .i64 133, .int .i64 2, .int .i64 0, .int .u16 0, .int .u16 0, .int .i64 0, .int .i64 0, .int .i64 1, .int .i64 (-1), .int .i64 (-1), .slice (some ⟨gt, 0, none⟩) 2 2, .int .i64 1, .int .i64 0, .int .i64 0, .int .i64 0, .int .u16 0, .int .u16 0, .int .i64 0, .int .i64 0, .int .i64 (-1), .int .i64 (-1), .int .i64 (-1), .slice none 0 0, .int .i64 2, .int .i64 1, .int .i64 0, .int .i64 0, .int .u16 0, .int .u16 0, .int .i64 0, .int .i64 0, .int .i64 (-1), .int .i64 (-1), .int .i64 (-1), .slice none 0 0] 3), isV (.agg #[.int .i64 0, .int .u16 256]), isVT ((fun _ => False)) (TupS ⟨#[133, 2, 2, 0, 0, 9, 1, 0, 1, 7, 1, 8, 1]⟩), isVT ((fun _ => False)) (TupS ⟨#[133, 2, 2, 0, 0, 9, 1, 0, 1, 7, 1, 8, 1]⟩), isV ((.string ⟨#[133, 2, 2, 0, 0, 9, 1, 0, 1, 7, 1, 8, 1]⟩)), anyV, isV ((.int .i64 0)), isV ((.string ⟨#[133, 2, 2, 0, 0, 9, 1, 0, 1, 7, 1, 8, 1]⟩)), anyV, isV ((.int .i64 0))]) (nth [[0], [1], [2], [3], [4], [5], [6], [7], [8], [9], [10], [11], [12], [13], [14], [15]]) (nth [[], [], [], [], [], [], [], [], [], [], [], [], [], [], [], []]) (nth [[], [], [1], [], [3, 2], [0, 2, 4], [5], [], [6, 7, 4], [8], [9], [9], [9], [10], [], [12]]) [13, 15] (fun w5 => Below w91.heap.size w91 w5 ∧ True ∧ w91.heap.size ≤ w5.heap.size ∧ True) (by kernel_rfl) (by kernel_rfl) (⟨(Below.refl _ _).drew, trivial, zn _, trivial⟩) (fun w w' h hb => ⟨h.1.trans (hb.mono h.1.size), trivial, Nat.le_trans h.2.2.1 hb.size, trivial⟩) (zG ((za (zc _)  (za (zc _)  (za (zc _)  (za (zc _)  (za (zc _)  (za (yZ _ _ _)  (za (yu _ _)  (za (zc _)  (za (yu _ _)  (za (yu _ _)  (za (zc _)  (za (zi.anyV)  (za (zc _)  (za (zc _)  (za (zi.anyV)  (za (zc _) zy)))))))))))))))))) (fun f F hF => ?_)
 simp only [List.take_succ_cons, List.take_zero, yb, Act.put, zD, zE, zF, Nat.reduceAdd] at hF
 subst hF
 refine ⟨zd ?_ (zd ?_ (zd ?_ (zd ?_ (zd ?_ (zd ?_ (zd ?_ (zd ?_ (zd ?_ (zd ?_ (zd ?_ (zd ?_ (zd ?_ (zd ?_ (zd ?_ (zd ?_ (yd)))))))))))))))), ?_⟩
 ·intro ww23 hS hF hD K hK
  rw [if_pos (by rfl)]
  exact svR hK rfl rfl rfl rfl (by first | rfl | kernel_rfl)  rfl rfl (zf hS.1 HL1.out) (by kernel_rfl)
 ·intro ww23 hS hF hD K hK
  rw [if_pos (by rfl)]
  exact svV hK rfl rfl rfl rfl (by first | rfl | kernel_rfl)  (by show _ = _; kernel_rfl)
 ·intro ww23 hS hF hD K hK
  obtain ⟨(e1 : f 1 = _), -⟩ := hF
  try simp only [e1]
  rw [if_pos (by rfl)]
  go_simp
  go_at_call 20; refine (HN7.out _).mono ?_; rintro e w3 ⟨rfl, hbelow⟩; go_simp
  refine hK.out _ _ rfl (zP rfl rfl rfl hbelow ?_)
  first | rfl | kernel_rfl
 ·intro ww23 hS hF hD K hK
  rw [if_pos (by rfl)]
  exact svV hK rfl rfl rfl rfl (by first | rfl | kernel_rfl)  (by show _ = _; kernel_rfl)
 ·intro ww23 hS hF hD K hK
  obtain ⟨(e3 : f 3 = _), (e2 : f 2 = _), -⟩ := hF
  try simp only [e3, e2]
  rw [if_pos (by rfl)]
  go_simp
  go_at_call 20; refine (HN8.out _).mono ?_; rintro e w3 ⟨rfl, hbelow⟩; go_simp
  refine hK.out _ _ rfl (zP rfl rfl rfl hbelow ?_)
  first | rfl | kernel_rfl
 ·intro ww23 hS hF hD K hK
  obtain ⟨(e0 : f 0 = _), (e2 : f 2 = _), (e4 : f 4 = _), -⟩ := hF
  try simp only [e0, e2, e4]
  rw [if_pos (by rfl)]
  go_simp
  refine hK.out _ _ rfl (y0 rfl rfl rfl hS.2.2.1 ?_)
  first | rfl | kernel_rfl
 ·intro ww23 hS hF hD K hK
  obtain ⟨e5, -⟩ := hF
  obtain ⟨g5, e5, hB5, hg5⟩ := e5
  replace e5 : f 5 = _ := e5
  try simp only [e5]
  rw [if_pos (by rfl)]
  show Oper.wp _ _ _ _ _ _; go_simp
  exact hK.out _ _ rfl (yv rfl rfl rfl rfl (zn _) (hS) (zk (zk (zk (zk (zk (yq ((fun _ _ h => h)) (yc (by rfl) (zk (zU (zN.refl _ _) (zU (zN.refl _ _) (zk (xf (zk (zk (xf (zk ym)))))))))))))))) (⟨_, rfl, hg5⟩))
 ·intro ww23 hS hF hD K hK
  rw [if_pos (by rfl)]
  exact svR hK rfl rfl rfl rfl (by first | rfl | kernel_rfl)  rfl rfl (zf hS.1 H1.out) (by kernel_rfl)
 ·intro ww23 hS hF hD K hK
  obtain ⟨e6, (e7 : f 7 = _), (e4 : f 4 = _), -⟩ := hF
  obtain ⟨y6, p6, t6⟩ := e6
  try simp only [e7, e4]
  rw [if_pos (by rfl)]
  obtain ⟨g4, hv4, hg4⟩ := p6; simp only [hv4]; show Oper.wp _ _ _ _ _ _; go_simp; go_at_call 13; refine (HA4.out _ g4 gt (t6.heap hg4 (fun h => h)) (zf hS.1 HTB.out)).mono ?_; rintro e w9 ⟨⟨pv9, rfl, ho9⟩, hb9⟩; go_simp
  exact hK.out _ _ rfl (yv rfl rfl rfl rfl (hb9.size) (⟨hS.1.trans (hb9.mono hS.1.size), trivial, Nat.le_trans hS.2.2.1 hb9.size, trivial⟩) (zk (zk (zk (zk (zk (yq ((fun _ _ h => zf hb9 h)) (zU (zN.ofBelow hb9) (zk (yc (by rfl) (zU (zN.ofBelow hb9) (zk (xf (zk (zk (xf (zk ym)))))))))))))))) (⟨_, rfl⟩))
 ·intro ww23 hS hF hD K hK
  obtain ⟨e8, -⟩ := hF
  obtain ⟨y8, p8, t8⟩ := e8
  rw [if_pos (by rfl)]
  show Oper.wp _ _ _ _ _ _; go_simp
  exact hK.out _ _ rfl (yv rfl rfl rfl rfl (zn _) (hS) (zk (zk (zk (zk (zk (yq ((fun _ _ h => h)) (zU (zN.refl _ _) (zk (zU (zN.refl _ _) (yc (by rfl) (zk (xf (zk (zk (xf (zk ym)))))))))))))))) (p8))
 ·intro ww23 hS hF hD K hK
  obtain ⟨e9, -⟩ := hF
  obtain ⟨y9, p9, t9⟩ := e9
  rw [if_pos (by rfl)]
  obtain ⟨v1, hv1⟩ := p9; simp only [hv1]; show Oper.wp _ _ _ _ _ _; go_simp; refine hK.out _ _ rfl (zq rfl rfl rfl ?_); first | rfl | kernel_rfl
 ·intro ww23 hS hF hD K hK
  obtain ⟨e9, -⟩ := hF
  obtain ⟨y9, p9, t9⟩ := e9
  rw [if_pos (by rfl)]
  obtain ⟨v1, hv1⟩ := p9; simp only [hv1]; show Oper.wp _ _ _ _ _ _; go_simp; exact hK.out _ _ rfl (zr.any rfl rfl)
 ·intro ww23 hS hF hD K hK
  obtain ⟨e9, -⟩ := hF
  obtain ⟨y9, p9, t9⟩ := e9
  rw [if_pos (by rfl)]
  obtain ⟨v1, hv1⟩ := p9; simp only [hv1]; show Oper.wp _ _ _ _ _ _; go_simp; refine hK.out _ _ rfl (zq rfl rfl rfl ?_); first | rfl | kernel_rfl
 ·intro ww23 hS hF hD K hK
  obtain ⟨(e10 : f 10 = _), -⟩ := hF
  try simp only [e10]
  rw [if_pos (by rfl)]
  exact svV hK rfl rfl rfl rfl (by first | rfl | kernel_rfl)  (by show _ = _; kernel_rfl)
 ·intro ww23 hS hF hD K hK
  rw [if_pos (by rfl)]
  go_simp
  exact hK.out _ _ rfl (zr.any rfl rfl)
 ·intro ww23 hS hF hD K hK
  obtain ⟨(e12 : f 12 = _), -⟩ := hF
  try simp only [e12]
  rw [if_pos (by rfl)]
  exact svV hK rfl rfl rfl rfl (by first | rfl | kernel_rfl)  (by show _ = _; kernel_rfl)
 intro ww23 hS hF
 obtain ⟨(e13 : f 13 = _), (e15 : f 15 = _), -⟩ := hF
 try simp only [e13, e15]
 refine yN (by kernel_rfl) ?_
 have HUP := zh (zf hS.1 HUP.out)
 have HB := zh (HB.out.trans (hS.1.mono HB.out.size))
 clear hS e13 e15
 have cpp0 : ww23.cell? ⟨gp, 0, none⟩ = some (.int .i64 2) := by rw [Lib.cell_of_heap HUP.out]; exact HCP.out
 go_wp2_with fail
 go_ret
 exact ⟨rfl, HB.out⟩
end Go.Proofs.Ythebmoggbgldmaa
