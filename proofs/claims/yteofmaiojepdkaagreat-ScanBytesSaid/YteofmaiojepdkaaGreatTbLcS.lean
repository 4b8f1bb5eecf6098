/- package image: ObjectAt; package scan: seen, decode, the classes without code. Condition: addresses are words; the image's banks have 4096 bytes. -/
import Derived.Test.YteofmaiojepdkaaGreatTbSkA
import Derived.ProofKit
import Derived.OpenShut
import Derived.ChangeOld
import Derived.Deep.Slices
import Derived.MapKept
import Derived.Maps.RangeRun
set_option linter.all false
namespace Go.Proofs.YteofmaiojepdkaaGreat
open Go.ChangeShapes Go.WideShapes Go.ChangeAt Go.RowKit Go.Deep
set_option maxRecDepth 100000
theorem cOwn : ownKnob Tryz.prog.godebug = none := by kernel_rfl
theorem cLaidOut : laidOutB Tryz.prog = true := by kernel_rfl
section
variable {H : Type} {enc : TypeId × Value → H}
theorem trodAll_below {P : Program} (hl : laidOutB P = true) {W W' : World} (hb : Below W.heap.size W W') (sp : Nat → Bool) :
  ∀ (ts : List TypeId) (_ : (ts.all fun t => P.readableRec t && decide (t < P.types.size)) = true) (vs : List Value) (ds : List (DataW H)) (ps : List MemPlace),
   DataW.TrodAll enc P W 0 (fun _ => true) true ts vs ds ps → (∀ p ∈ ps, p.block < W.heap.size) → (∀ p ∈ ps, sp p.block = true) → DataW.TrodAll enc P W' 0 sp true ts vs ds ps
 | [], _, vs, ds, ps, h, _, _ => by
  obtain ⟨rfl, rfl, rfl⟩ := trodAll_nil h
  exact rfl
 | t :: ts, hts, vs, ds, ps, h, hlt, hsp => by
  obtain ⟨v, vs', d, ds', p, q, rfl, rfl, rfl, h0, hr⟩ := trodAll_cons h
  simp only [List.all_cons, Bool.and_eq_true, decide_eq_true_eq] at hts
  refine trodAll_cons_mk (WideElems.Trod_stays hl hts.1.1 hts.1.2 h0 (fun x hx => hb.same (hlt x (List.mem_append_left _ hx))) (fun x hx => hsp x (List.mem_append_left _ hx))) ?_
  exact trodAll_below hl hb sp ts hts.2 vs' ds' q hr (fun x hx => hlt x (List.mem_append_right _ hx)) (fun x hx => hsp x (List.mem_append_right _ hx))
theorem post_law {P : Program} {f : Func} {s : ChangeSpec} {W W' : World} {args : Array Value} {ds gs : List (DataW H)} {before : List MemPlace} (hl : laidOutB P = true)
  (hts : (f.params.toList.all fun t => P.readableRec t && decide (t < P.types.size)) = true) (hv : s.vars = []) (tb : TypeId) (hres : f.resultTypes = #[tb]) (htb : P.underlying tb = some .bool)
  (hfn : s.fn H (ds ++ []) = { results := [.lit (.bool true)], args := ds })
  (hW : DataW.Whole enc P f.params.toList s.vars false W args.toList ds gs before) (hb : Below W.heap.size W W') :
  s.post enc P f false true false false W args (.bool true) W' := by
 have hlt : ∀ p ∈ before, p.block < W.heap.size := fun p hp => hW.lt p hp
 have hW' := hW
 obtain ⟨p, q, hA, hV, hpq, hz, hn⟩ := hW
 have hq : gs = [] ∧ q = [] := by
  rw [hv] at hV
  exact trodVars_none hV
 obtain ⟨rfl, rfl⟩ := hq
 have hpq' : before = p := by rw [hpq, List.append_nil]
 have e := hfn
 have hrs : (Value.bool true).resultList f.resultTypes.size = [.bool true] := by rw [hres]; rfl
 have hres' : ∀ (b : Nat) (sp : Nat → Bool) (hd : Bool), DataW.TrodAll enc P W' b sp hd f.resultTypes.toList ((Value.bool true).resultList f.resultTypes.size) (s.fn H (ds ++ [])).results [] := fun b sp hd => by
  rw [hrs, hres, e]
  exact trodAll_mk1 (shut_bool htb true)
 have hargs : ∀ sp : Nat → Bool, (∀ x ∈ before, sp x.block = true) → DataW.TrodAll enc P W' 0 sp true f.params.toList args.toList (s.fn H (ds ++ [])).args before := fun sp hsp => by
  rw [e]
  subst hpq'
  exact trodAll_below hl hb sp _ hts _ _ _ hA hlt hsp
 have hvars : ∀ sp : Nat → Bool, (∀ x ∈ before, sp x.block = true) → DataW.TrodVars enc P W' sp s.vars (s.fn H (ds ++ [])).vars [] := fun sp _ => by
  rw [e, hv]; exact rfl
 have hold : ∀ x ∈ before, (fun b => decide (b < W.heap.size)) x.block = true := fun x hx => by simpa using hlt x hx
 refine ⟨ds, [], before, [], before, [], hW', hres' _ _ _, hargs _ hold, hvars _ hold, World.keptBut_mono (fun x hx => ⟨hx, Or.inr (Or.inl hx)⟩) (hb.frame (· ∈ before)), fun _ => ?_⟩
 refine ⟨?_, _, _, ([] ++ before) ++ [], ⟨[] ++ before, [], trodAll_append (hargs _ (fun _ _ => rfl)) (hres' _ _ _), hvars _ (fun _ _ => rfl), rfl, ?_, ?_⟩, ?_⟩
 ·intro j t r hj hr
  rw [hrs] at hr
  rw [hres] at hj
  rcases j with _ | j
  ·simp at hj hr
   subst hj; subst hr
   exact okWide_bool_mk htb true
  ·simp at hr
 ·intro b off hp
  have hin : MemPlace.cell b off ∈ before := by simpa using hp
  rw [hb.frozen (hlt _ hin)]
  exact hz b off hin
 ·intro ha; cases ha
 ·intro x hx _
  simpa using hx
end
section
variable {P : Program} {w : World} {r : Reach} {base : Nat} {t : TypeId} {v : Value}
theorem cell_int {k : IntKind} (ht : P.underlying t = some (.int k)) (h : Cell.okWide P w r base t v) : ∃ n, v = .int k n ∧ k.has n := by
 unfold Cell.okWide at h
 rw [ht] at h
 cases v <;> simp [Cell.ok, ht] at h
 obtain ⟨rfl, h⟩ := h
 exact ⟨_, rfl, h⟩
theorem has_i64 {n : Int} (h : IntKind.i64.has n) : ja n := ⟨by have := h.1; simpa [IntKind.min, IntKind.signed, IntKind.bits] using this, by have := h.2; simpa [IntKind.max, IntKind.signed, IntKind.bits] using this⟩
theorem has_u16 {n : Int} (h : IntKind.u16.has n) : 0 ≤ n ∧ n < 65536 := by
 have h1 := h.1
 have h2 := h.2
 simp [IntKind.min, IntKind.max, IntKind.signed, IntKind.bits] at h1 h2
 omega
theorem value_int {k : IntKind} (ht : P.underlying t = some (.int k)) (h : Value.okWide P w r base t v) : ∃ n, v = .int k n ∧ k.has n := by
 unfold Value.okWide at h
 rw [ht] at h
 exact cell_int ht h
theorem value_flat {ts : List TypeId} (hu : (match P.underlying t with | some (.struct _) | some (.array _ _) => true | _ => false) = true) (hts : P.cellTypes P.depth t = some ts) (hc : P.cellsOf t = ts.length) (h : Value.okWide P w r base t v) :
  ∃ cs : Array Value, v = .agg cs ∧ cs.size = ts.length ∧ ∀ (i : Nat) x u, cs[i]? = some x → ts[i]? = some u → Cell.okWide P w r base u x := by
 have h' : ∃ cs, v = .agg cs ∧ cs.size = P.cellsOf t ∧ Row.okWide P w r base t cs := by
  unfold Value.okWide at h
  split at h
  ·exact h
  ·exact h
  ·rename_i h1 h2
   split at hu
   ·rename_i fs e; exact absurd e (h1 fs)
   ·rename_i n e' e; exact absurd e (h2 n e')
   ·cases hu
 obtain ⟨cs, rfl, hsz, ts', hts', _, hall⟩ := h'
 obtain rfl := Option.some.inj (hts.symm.trans hts')
 rw [hc] at hsz
 refine ⟨cs, rfl, hsz, fun i x u hx hu' => ?_⟩
 obtain ⟨u', hu1, hok⟩ := hall i x hx
 have hi : i < ts.length := (List.getElem?_eq_some_iff.1 hu').1
 rw [Nat.mod_eq_of_lt hi, hu'] at hu1
 obtain rfl := Option.some.inj hu1
 exact hok
end
theorem cell_lt {w : World} {a : Addr} {v : Value} (h : w.cell? a = some v) : a.block < w.heap.size ∧ a.spot = none := by
 unfold World.cell? at h
 cases hb : w.heap[a.block]? with
 | none => simp [hb] at h
 | some o =>
  refine ⟨(Array.getElem?_eq_some_iff.1 hb).1, ?_⟩
  rw [hb] at h
  cases o with
  | cells c t fr =>
   simp only at h
   cases hs : a.spot with
   | none => rfl
   | some s => simp [hs] at h
  | _ => simp at h
section
variable {H : Type} {enc : TypeId × Value → H} {P : Program} {w : World} {base : Nat} {spare : Nat → Bool} {held : Bool}
theorem open_int_arrays {t e q : TypeId} {m : Nat} {r : Reach} {b0 : Nat} {v : Value} {d : DataW H} {ps : List MemPlace} (hm0 : 0 < m) (ht : P.underlying t = some (.slice e)) (he : P.underlying e = some (.array m q)) (hq : P.underlying q = some (.int .i64)) (hce : P.cellsOf e = m) (hcq : P.cellsOf q = 1)
  (hval : Value.okWide P w r b0 t v) (hd : DataW.Trod enc P w base spare held t v d ps) :
  ∃ (p : Option Addr) (len cap b off : Nat) (Q : Nat → Nat → Int), v = .slice p len cap ∧ len ≤ cap ∧ cap ≤ maxLen ∧ (0 < len → p = some ⟨b, off, none⟩ ∧ b < w.heap.size) ∧ (∀ i, i < len → ∀ j, j < m → w.cell? ⟨b, off + i * m + j, none⟩ = some (.int .i64 (Q i j)) ∧ ja (Q i j)) ∧
   (len = 0 ∨ ∃ es sp, d = .slice es sp ∧ es.length = len) := by
 obtain ⟨p, len, cap, rfl⟩ := okWide_slice ht hval
 obtain ⟨fuel, hf⟩ := hd
 have hf' : DataW.trod enc P w base spare held fuel t [.slice p len cap] = some (d, ps) := hf
 rcases open_slice ht hf' with ⟨hcs, hx⟩ | ⟨a, len', cap', mm, n, D, Pl, hcs, hb, hl, hmx, hmm, hx, hi⟩
 ·simp only [List.cons.injEq, Value.slice.injEq, and_true] at hcs
  obtain ⟨rfl, rfl, rfl⟩ := hcs
  exact ⟨none, 0, 0, 0, 0, fun _ _ => 0, rfl, zn _, Nat.zero_le _, fun h => absurd h (by omega), fun i h => absurd h (by omega), .inl rfl⟩
 ·simp only [List.cons.injEq, Value.slice.injEq, and_true] at hcs
  obtain ⟨rfl, rfl, rfl⟩ := hcs
  have hlm : len ≤ mm := by rw [hmm]; split <;> omega
  have hcell : ∀ i, i < len → ∀ j, j < m → ∃ z, w.cell? (a.add (i * m + j)) = some (.int .i64 z) ∧ ja z := fun i hil j hj => by
   obtain ⟨cs', hc, htr⟩ := hi i (by omega)
   rw [hce] at hc
   obtain ⟨-, hlen, hat⟩ := World.cells?_some hc
   obtain ⟨xs, n', -, -, -, hxl, hel⟩ := DataW.trod_array he htr
   have h1 := hel j hj
   rw [hcq, Nat.mul_one] at h1
   have hxj : xs[j]? = some (xs[j]'(by omega)) := List.getElem?_eq_getElem (by omega)
   rw [hxj] at h1
   obtain ⟨z, hz, -, hwf⟩ := DataW.trod_int hq h1
   have hcj : cs'[j]? = some (.int .i64 z) := by
    have := congrArg (fun l : List Value => l[0]?) hz
    simpa [List.getElem?_take, List.getElem?_drop] using this
   refine ⟨z, ?_, ?_⟩
   ·have := hat j hj
    rw [add_add] at this
    rw [this, hcj]
   ·simp only [Lit.wf, Bool.and_eq_true, decide_eq_true_eq] at hwf
    exact has_i64 ⟨hwf.1, hwf.2⟩
  refine ⟨some a, len, cap, a.block, a.off, fun i j => match w.cell? (a.add (i * m + j)) with | some (.int _ z) => z | _ => 0, rfl, hl, hmx, fun h0 => ?_, fun i hil j hj => ?_, .inr ⟨_, _, (congrArg Prod.fst hx), by simp⟩⟩
  ·obtain ⟨z, hz, -⟩ := hcell 0 h0 0 hm0
   have h0' : a.add (0 * m + 0) = a := by simp [Addr.add]
   rw [h0'] at hz
   obtain ⟨hlt, hsp⟩ := cell_lt hz
   exact ⟨by obtain ⟨b, o, s⟩ := a; simp only at hsp; rw [hsp], hlt⟩
  ·obtain ⟨z, hz, hzok⟩ := hcell i hil j hj
   obtain ⟨z0, hz0, -⟩ := hcell 0 (by omega) 0 hm0
   have h0' : a.add (0 * m + 0) = a := by simp [Addr.add]
   rw [h0'] at hz0
   obtain ⟨-, hsp⟩ := cell_lt hz0
   have haddr : a.add (i * m + j) = ⟨a.block, a.off + i * m + j, none⟩ := by
    obtain ⟨b, o, s⟩ := a
    simp only at hsp
    subst hsp
    unfold Addr.add
    split
    ·rename_i h; simp [h]; omega
    ·simp [Nat.add_assoc]
   rw [← haddr]
   refine ⟨?_, ?_⟩
   ·simp only [hz]
   ·simp only [hz]; exact hzok
end
theorem cell_block {w : World} {b o : Nat} {v : Value} (h : w.cell? ⟨b, o, none⟩ = some v) : ∃ c t fr, w.heap[b]? = some (.cells c t fr) ∧ c[o]? = some v := by
 unfold World.cell? at h
 cases hb : w.heap[b]? with
 | none => simp [hb] at h
 | some ob =>
  rw [hb] at h
  cases ob with
  | cells c t fr => exact ⟨c, t, fr, rfl, by simpa using h⟩
  | _ => simp at h
end Go.Proofs.YteofmaiojepdkaaGreat
namespace Go.Proofs.YteofmaiojepdkaaGreat
open Go Go.RowKit
section
variable {κ : Type} [DecidableEq κ]
def xr (enc : κ → Value) : Nat → List (κ × Value) → List MapEntry
 | _, [] => []
 | i, p :: l => ⟨enc p.1, p.2, i⟩ :: xr enc (i + 1) l
def yc (enc : κ → Value) (l : List (κ × Value)) : Obj := .map (xr enc 0 l).toArray l.length
def findL (k : κ) : Nat → List (κ × Value) → Option (Nat × Value)
 | _, [] => none
 | i, p :: l => if k = p.1 then some (i, p.2) else findL k (i + 1) l
def yT (k : κ) : List (κ × Value) → Option Value
 | [] => none
 | p :: l => if k = p.1 then some p.2 else yT k l
def xG (k : κ) (v : Value) : List (κ × Value) → List (κ × Value)
 | [] => [(k, v)]
 | p :: l => if k = p.1 then (p.1, v) :: l else p :: xG k v l
theorem x7 (enc : κ → Value) : ∀ (i : Nat) (l : List (κ × Value)), (xr enc i l).length = l.length
 | _, [] => rfl
 | i, _ :: l => by simp [xr, x7 enc (i + 1) l]
theorem xl (enc : κ → Value) : ∀ (i : Nat) (l : List (κ × Value)) (j : Nat), (xr enc i l)[j]? = l[j]?.map fun p => ⟨enc p.1, p.2, i + j⟩
 | _, [], j => by simp [xr]
 | i, p :: l, 0 => by simp [xr]
 | i, p :: l, j + 1 => by simp [xr, xl enc (i + 1) l j, Nat.add_comm, Nat.add_left_comm]
theorem mesF_append (enc : κ → Value) : ∀ (i : Nat) (l m : List (κ × Value)), xr enc i (l ++ m) = xr enc i l ++ xr enc (i + l.length) m
 | _, [], _ => by simp [xr]
 | i, p :: l, m => by simp [xr, mesF_append enc (i + 1) l m, Nat.add_comm, Nat.add_left_comm]
theorem findL_get (k : κ) : ∀ (i : Nat) (l : List (κ × Value)), (findL k i l).map (·.2) = yT k l
 | _, [] => rfl
 | i, p :: l => by
  unfold findL yT
  split
  ·rfl
  ·exact findL_get k (i + 1) l
theorem findL_none {k : κ} : ∀ {i : Nat} {l : List (κ × Value)}, findL k i l = none → k ∉ l.map (·.1)
 | _, [], _ => by simp
 | i, p :: l, h => by
  unfold findL at h
  split at h
  ·cases h
  ·rename_i hne
   have := findL_none h
   simp only [List.map_cons, List.mem_cons, not_or]
   exact ⟨hne, this⟩
theorem findL_some {k : κ} : ∀ {i : Nat} {l : List (κ × Value)} {j : Nat} {v : Value}, findL k i l = some (j, v) → i ≤ j ∧ l[j - i]? = some (k, v) ∧ ∀ v', xG k v' l = l.set (j - i) (k, v')
 | _, [], _, _, h => by cases h
 | i, p :: l, j, v, h => by
  unfold findL at h
  split at h
  ·rename_i he
   simp only [Option.some.injEq, Prod.mk.injEq] at h
   obtain ⟨rfl, rfl⟩ := h
   refine ⟨zn _, by simp [he], fun v' => ?_⟩
   unfold xG
   rw [if_pos he, Nat.sub_self, List.set_cons_zero, ← he]
  ·rename_i hne
   obtain ⟨h1, h2, h3⟩ := findL_some h
   have e : j - i = (j - (i + 1)) + 1 := by omega
   refine ⟨by omega, by rw [e]; simpa using h2, fun v' => ?_⟩
   unfold xG
   rw [if_neg hne, h3 v', e, List.set_cons_succ]
theorem putL_new {k : κ} {v : Value} : ∀ {l : List (κ × Value)}, k ∉ l.map (·.1) → xG k v l = l ++ [(k, v)]
 | [], _ => rfl
 | p :: l, h => by
  simp only [List.map_cons, List.mem_cons, not_or] at h
  unfold xG
  rw [if_neg h.1, putL_new h.2]
  rfl
theorem getL_none {k : κ} {l : List (κ × Value)} : yT k l = none ↔ k ∉ l.map (·.1) := by
 induction l with
 | nil => simp [yT]
 | cons p l ih =>
  unfold yT
  split
  ·rename_i he; simp [he]
  ·rename_i hne; simp [ih, hne]
theorem getL_mem {k : κ} {v : Value} {l : List (κ × Value)} (h : yT k l = some v) : (k, v) ∈ l := by
 induction l with
 | nil => cases h
 | cons p l ih =>
  unfold yT at h
  split at h
  ·rename_i he
   injection h with h
   subst he; subst h
   simp
  ·simp [ih h]
theorem getL_of_mem {k : κ} {v : Value} : ∀ {l : List (κ × Value)}, (l.map (·.1)).Nodup → (k, v) ∈ l → yT k l = some v
 | p :: l, hn, h => by
  simp only [List.map_cons, List.nodup_cons] at hn
  unfold yT
  rcases List.mem_cons.1 h with rfl | h'
  ·simp
  ·rw [if_neg (fun e => hn.1 (by rw [← e]; exact List.mem_map.2 ⟨_, h', rfl⟩))]
   exact getL_of_mem hn.2 h'
theorem getL_put_same (k : κ) (v : Value) (l : List (κ × Value)) : yT k (xG k v l) = some v := by
 induction l with
 | nil => simp [xG, yT]
 | cons p l ih =>
  unfold xG
  split
  ·rename_i he; simp [yT, he]
  ·rename_i hne; simp [yT, hne, ih]
theorem getL_put_ne {k j : κ} (h : j ≠ k) (v : Value) (l : List (κ × Value)) : yT j (xG k v l) = yT j l := by
 induction l with
 | nil => simp [xG, yT, h]
 | cons p l ih =>
  unfold xG
  split
  ·rename_i he; simp only [yT, if_neg (show ¬ j = p.1 from fun e => h (e.trans he.symm))]
  ·simp only [yT, ih]
theorem keys_put (k : κ) (v : Value) (l : List (κ × Value)) : (xG k v l).map (·.1) = if k ∈ l.map (·.1) then l.map (·.1) else l.map (·.1) ++ [k] := by
 induction l with
 | nil => simp [xG]
 | cons p l ih =>
  unfold xG
  by_cases he : k = p.1
  ·simp [he]
  ·rw [if_neg he]
   simp only [List.map_cons, ih, List.mem_cons, he, false_or]
   split <;> simp
theorem nodup_put {k : κ} {v : Value} {l : List (κ × Value)} (h : (l.map (·.1)).Nodup) : ((xG k v l).map (·.1)).Nodup := by
 rw [keys_put]
 split
 ·exact h
 ·rename_i hn
  exact List.nodup_append.2 ⟨h, by simp, fun a ha b hb => by
   simp only [List.mem_singleton] at hb
   rintro rfl
   subst hb
   exact hn ha⟩
structure KeyOk (P : Program) (K : TypeId) (enc : κ → Value) : Prop where
 und : ∃ d, P.underlying K = some d ∧ ∀ a b, Instr.sameNow d (enc a) (enc b) = none ∨ Instr.sameNow d (enc a) (enc b) = some (decide (a = b))
 eql : ∀ a b w, (Op.equal K (enc a) (enc b)).run P w = .ok (decide (a = b)) w
 chk : ∀ e a w, (Instr.checkKey e 10000 K (enc a)).run P w = .ok () w
 bits : ∀ a, Instr.sameBits 10000 (enc a) (enc a) = true
variable {P : Program} {K : TypeId} {enc : κ → Value}
theorem findNow_or {d : TypeDesc} (hd : ∀ a b, Instr.sameNow d (enc a) (enc b) = none ∨ Instr.sameNow d (enc a) (enc b) = some (decide (a = b))) (k : κ) : ∀ (l : List (κ × Value)) (j i : Nat), Instr.findNow d (enc k) (xr enc j l) i = none ∨ Instr.findNow d (enc k) (xr enc j l) i = some (findL k i l)
 | [], _, _ => .inr rfl
 | p :: l, j, i => by
  unfold xr Instr.findNow findL
  rcases hd k p.1 with h | h
  ·exact .inl (by simp only [h])
  ·by_cases he : k = p.1
   ·rw [decide_eq_true he] at h
    refine .inr ?_
    rw [if_pos he]
    simp only [h]
   ·rw [decide_eq_false he] at h
    rw [if_neg he]
    simp only [h]
    exact findNow_or hd k l (j + 1) (i + 1)
theorem run_findAsking (hk : KeyOk P K enc) (k : κ) (w : World) : ∀ (l : List (κ × Value)) (j i : Nat), (Instr.findAsking K (enc k) (xr enc j l) i).run P w = .ok (findL k i l) w
 | [], _, _ => by simp [xr, Instr.findAsking, findL]
 | p :: l, j, i => by
  unfold xr Instr.findAsking findL
  simp only [Sem.run_bind, hk.eql, Result.andThen_ok]
  by_cases he : k = p.1
  ·simp [he]
  ·simp only [he, decide_false, if_false, Bool.false_eq_true]
   exact run_findAsking hk k w l (j + 1) (i + 1)
theorem run_findL (hk : KeyOk P K enc) (k : κ) (l : List (κ × Value)) (w : World) : (Instr.findKey K (enc k) (xr enc 0 l)).run P w = .ok (findL k 0 l) w := by
 obtain ⟨d, hd, hn⟩ := hk.und
 unfold Instr.findKey
 simp only [Sem.run_bind, run_underlying hd, Result.andThen_ok]
 rcases findNow_or hn k l 0 0 with h | h
 ·simp only [h]
  exact run_findAsking hk k w l 0 0
 ·simp only [h, Sem.run_pure]
section
variable {w : World} {g : Nat} {l : List (κ × Value)} {t e : TypeId} (hk : KeyOk P K enc) (ht : P.underlying t = some (.map K e)) (hg : w.heap[g]? = some (yc enc l))
include hk ht hg
theorem run_lookupL (k : κ) {z : Value} (hz : (zeroValue e).run P w = .ok z w) (ok : Bool) : (Instr.lookup t (.map (some g)) (enc k) ok).run P w = .ok (if ok then .tuple #[(yT k l).getD z, .bool (yT k l).isSome] else (yT k l).getD z) w := by
 unfold Instr.lookup
 simp only [Sem.run_bind, run_underlying ht, Result.andThen_ok, MapKept.run_getObj_map (P := P) hg, hk.chk, run_findL hk, Sem.run_pure]
 rw [← findL_get k 0 l]
 cases h : findL k 0 l with
 | none => simp only [Sem.run_bind, hz, Result.andThen_ok, Sem.run_pure]; rfl
 | some p => simp only [Sem.run_pure, Result.andThen_ok]; rfl
theorem run_updateL (k : κ) (v : Value) : (Instr.mapUpdate t (.map (some g)) (enc k) v).run P w = .ok () { w with heap := w.heap.setIfInBounds g (yc enc (xG k v l)) } := by
 unfold Instr.mapUpdate
 simp only [Sem.run_bind, run_underlying ht, Result.andThen_ok, MapKept.run_getObj_map (P := P) hg, hk.chk, run_findL hk]
 cases h : findL k 0 l with
 | none =>
  rw [putL_new (findL_none h)]
  have e1 : yc enc (l ++ [(k, v)]) = .map ((xr enc 0 l).toArray.push ⟨enc k, v, l.length⟩) (l.length + 1) := by
   unfold yc
   rw [mesF_append]
   simp [xr]
  rw [e1]
  simp only [MapKept.run_setObj_map _ hg]
 | some p =>
  obtain ⟨j, u⟩ := p
  obtain ⟨-, h2, h3⟩ := findL_some h
  have hj : (xr enc 0 l).toArray[j]? = some ⟨enc k, u, j⟩ := by
   rw [List.getElem?_toArray, xl]
   rw [Nat.sub_zero] at h2
   simp [h2]
  have hb : (Instr.keyThatStays (enc k) (enc k)).run P w = .ok (enc k) w := by simp [Instr.keyThatStays, hk.bits]
  have e1 : yc enc (xG k v l) = .map ((xr enc 0 l).toArray.modify j fun e => { e with key := enc k, val := v }) l.length := by
   unfold yc
   rw [h3 v, Nat.sub_zero]
   simp only [List.length_set]
   congr 1
   apply Array.ext_getElem?
   intro i
   rw [List.getElem?_toArray, xl, Array.getElem?_modify, List.getElem?_toArray, xl, List.getElem?_set]
   by_cases hij : j = i
   ·subst hij
    have hlt : j < l.length := by
     rw [Nat.sub_zero] at h2
     exact (List.getElem?_eq_some_iff.1 h2).1
    rw [Nat.sub_zero] at h2
    simp [hlt]
   ·simp [hij]
  rw [e1]
  simp only [hj, Option.map_some, Option.getD_some, hb, Sem.run_bind, Result.andThen_ok, MapKept.run_setObj_map _ hg]
end
theorem grown_setH {w : World} {g : Nat} (o : Obj) : w.grownBy { w with heap := w.heap.setIfInBounds g o } (some g) :=
 ⟨rfl, rfl, rfl, by simp, fun j _ hj => by simp [show g ≠ j from fun e => hj (by rw [e])]⟩
theorem same_setH {w : World} {g : Nat} {o' : Obj} (o : Obj) (h : w.heap[g]? = some o') : ({ w with heap := w.heap.setIfInBounds g o } : World).heap[g]? = some o := by
 have := (Array.getElem?_eq_some_iff.1 h).1
 simp [this]
section
variable {w : World} {g : Nat} {l : List (κ × Value)} {t e : TypeId} {ops : Array Oper} {rest : List Oper} {o : Oper} {a : Act} {Q : Exit → Act → World → Prop} (hk : KeyOk P K enc) (ht : P.underlying t = some (.map K e)) (hg : w.heap[g]? = some (yc enc l))
include hk ht hg
theorem exec_lookupL (m x : Operand) (ok : Bool) (hop : o.op = Op.lookup t m x ok) (hm : a.eval m = .map (some g)) (k : κ) (hx : a.eval x = enc k) {z : Value} (hz : (zeroValue e).run P w = .ok z w) :
  (execOp a.eval o).run P w = .ok (.value (if ok then .tuple #[(yT k l).getD z, .bool (yT k l).isSome] else (yT k l).getD z)) w := by
 unfold execOp
 simp [hop, hm, hx, run_lookupL hk ht hg k hz ok, Result.andThen]
theorem yq (hgd : o.guard = none) (m x : Operand) (hop : o.op = Op.lookup t m x false) (hm : a.eval m = .map (some g)) (k : κ) (hx : a.eval x = enc k) {z : Value} (hz : (zeroValue e).run P w = .ok z w)
  (hK : wpList P ops Q rest (a.put o.dst ((yT k l).getD z)) w) : wpList P ops Q (o :: rest) a w :=
 wpList_val (by simp [Region.wanted, hgd]) (exec_lookupL hk ht hg m x false hop hm k hx hz) hK
theorem zZ (hgd : o.guard = none) (m x y : Operand) (hop : o.op = Op.mapUpdate t m x y) (hm : a.eval m = .map (some g)) (k : κ) (hx : a.eval x = enc k) (v : Value) (hy : a.eval y = v)
  (hK : ∀ w', w'.heap[g]? = some (yc enc (xG k v l)) → w.grownBy w' (some g) → w'.heap.size = w.heap.size → wpList P ops Q rest (a.put o.dst undef) w') : wpList P ops Q (o :: rest) a w := by
 refine wpList_plain hgd fun K' hK' => ?_
 unfold Oper.wp execOp
 simp [hop, hm, hx, hy, run_updateL hk ht hg k v, Result.andThen]
 exact hK' _ _ (hK _ (same_setH _ hg) (grown_setH _) (by simp))
end
def je (g n : Nat) (seen : List Nat) : Obj := .mapIter (some g) n seen.toArray n
theorem born_lt {l : List (κ × Value)} : ∀ x ∈ (xr enc 0 l).toArray.toList, x.born < l.length := fun x hx => by
 obtain ⟨j, hj⟩ := List.mem_iff_getElem?.1 hx
 rw [xl] at hj
 cases hl : l[j]? with
 | none => rw [hl] at hj; cases hj
 | some p =>
  rw [hl] at hj
  simp only [Option.map_some, Option.some.injEq] at hj
  subst hj
  have := (List.getElem?_eq_some_iff.1 hl).1
  simpa using this
theorem left_mem {l : List (κ × Value)} {seen : List Nat} {x : MapEntry} : x ∈ (leftOf (xr enc 0 l).toArray seen.toArray).toList ↔ ∃ j p, l[j]? = some p ∧ j ∉ seen ∧ x = ⟨enc p.1, p.2, j⟩ := by
 unfold leftOf
 rw [Array.toList_filter, List.mem_filter]
 constructor
 ·rintro ⟨h1, h2⟩
  obtain ⟨j, hj⟩ := List.mem_iff_getElem?.1 h1
  rw [xl] at hj
  cases hl : l[j]? with
  | none => rw [hl] at hj; cases hj
  | some p =>
   rw [hl] at hj
   simp only [Option.map_some, Option.some.injEq, Nat.zero_add] at hj
   subst hj
   exact ⟨j, p, hl, by simpa using h2, rfl⟩
 ·rintro ⟨j, p, hl, hn, rfl⟩
  refine ⟨List.mem_iff_getElem?.2 ⟨j, ?_⟩, by simpa using hn⟩
  rw [xl, hl]
  simp
theorem run_rangeL {w : World} {g : Nat} {l : List (κ × Value)} {t e : TypeId} (ht : P.underlying t = some (.map K e)) (hg : w.heap[g]? = some (yc enc l)) :
  (Instr.range t (.map (some g))).run P w = .ok (.pointer (some ⟨w.heap.size, 0, none⟩)) (w.alloc (je g l.length [])) := by
 unfold Instr.range
 simp only [Sem.run_bind, run_underlying ht, Result.andThen_ok, MapKept.run_getObj_map (P := P) hg, Sem.run_pure]
 rfl
theorem run_nextL {w : World} {g r : Nat} {l : List (κ × Value)} {seen : List Nat} (ty : TypeId) (hr : w.heap[r]? = some (je g l.length seen)) (hg : w.heap[g]? = some (yc enc l)) :
  ((∀ j, j < l.length → j ∈ seen) ∧ (Instr.next (.pointer (some ⟨r, 0, none⟩)) false ty).run P w = .ok (.tuple #[.bool false]) w) ∨
  ∃ j p w', l[j]? = some p ∧ j ∉ seen ∧ (Instr.next (.pointer (some ⟨r, 0, none⟩)) false ty).run P w = .ok (.tuple #[.bool true, enc p.1, p.2]) w' ∧ w'.heap[r]? = some (je g l.length (seen ++ [j])) ∧ w.grownBy w' (some r) ∧ w'.heap.size = w.heap.size := by
 rcases run_next_at (P := P) w ty r g l.length l.length seen.toArray (xr enc 0 l).toArray l.length hr hg born_lt (zn _) with ⟨h0, h1⟩ | ⟨e, he, w1, hw1, hrun⟩
 ·refine .inl ⟨fun j hj => Classical.byContradiction fun hn => ?_, h1⟩
  have : (⟨enc (l[j]).1, (l[j]).2, j⟩ : MapEntry) ∈ (leftOf (xr enc 0 l).toArray seen.toArray).toList := left_mem.2 ⟨j, l[j], by simp, hn, rfl⟩
  rw [Array.eq_empty_of_size_eq_zero h0] at this
  simp at this
 ·obtain ⟨j, p, hl, hn, rfl⟩ := left_mem.1 he
  have hh : w1.heap = w.heap := by rcases hw1 with rfl | rfl <;> rfl
  have h1 : w1.os = w.os ∧ w1.tape = w.tape ∧ w1.output = w.output := by rcases hw1 with rfl | rfl <;> exact ⟨rfl, rfl, rfl⟩
  have hlt := (Array.getElem?_eq_some_iff.1 hr).1
  refine .inr ⟨j, p, _, hl, hn, hrun, ?_, ⟨h1.1, h1.2.1, h1.2.2, ?_, fun k _ hk => ?_⟩, ?_⟩
  ·simp [Go.ChangeMaps.setBlock, hh, hlt, je]
  ·simp [Go.ChangeMaps.setBlock, hh]
  ·simp [Go.ChangeMaps.setBlock, hh, show r ≠ k from fun e => hk (by rw [e])]
  ·simp [Go.ChangeMaps.setBlock, hh]
theorem born_nodup (l : List (κ × Value)) : ∀ i, ((xr enc i l).map (·.born)) = List.range' i l.length := by
 induction l with
 | nil => intro i; rfl
 | cons p l ih => intro i; simp [xr, ih (i + 1), List.range'_succ]
theorem run_entryL {w : World} {g r : Nat} {l : List (κ × Value)} {seen : List Nat} {j : Nat} {p : κ × Value} (hr : w.heap[r]? = some (je g l.length (seen ++ [j]))) (hg : w.heap[g]? = some (yc enc l)) (hl : l[j]? = some p) :
  (Instr.entry (.pointer (some ⟨r, 0, none⟩))).run P w = .ok (.tuple #[enc p.1, p.2]) w := by
 refine run_entry_at w r g l.length seen.toArray (xr enc 0 l).toArray l.length ⟨enc p.1, p.2, j⟩ (by rw [hr]; simp [je]) hg ?_ ?_
 ·refine List.mem_iff_getElem?.2 ⟨j, ?_⟩
  rw [xl, hl]
  simp
 ·show ((xr enc 0 l).map (·.born)).Nodup
  rw [born_nodup]
  exact List.nodup_range' (step := 1) (by decide)
section
variable {w : World} {g r : Nat} {l : List (κ × Value)} {seen : List Nat} {t e : TypeId} {ops : Array Oper} {rest : List Oper} {o : Oper} {a : Act} {Q : Exit → Act → World → Prop}
theorem wpList_rangeL (hgd : o.guard = none) (m : Operand) (hop : o.op = Op.range t m) (ht : P.underlying t = some (.map K e)) (hm : a.eval m = .map (some g)) (hg : w.heap[g]? = some (yc enc l))
  (hK : wpList P ops Q rest (a.put o.dst (.pointer (some ⟨w.heap.size, 0, none⟩))) (w.alloc (je g l.length []))) : wpList P ops Q (o :: rest) a w := by
 refine wpList_plain hgd fun K' hK' => ?_
 unfold Oper.wp execOp
 simp [hop, hm, run_rangeL ht hg, Result.andThen]
 exact hK' _ _ hK
theorem wpList_nextL (hgd : o.guard = none) (it : Operand) (hop : o.op = Op.next it false) (hit : a.eval it = .pointer (some ⟨r, 0, none⟩)) (hr : w.heap[r]? = some (je g l.length seen)) (hg : w.heap[g]? = some (yc enc l))
  (hDone : (∀ j, j < l.length → j ∈ seen) → wpList P ops Q rest (a.put o.dst (.tuple #[.bool false])) w)
  (hMore : ∀ j p w', l[j]? = some p → j ∉ seen → w'.heap[r]? = some (je g l.length (seen ++ [j])) → w.grownBy w' (some r) → w'.heap.size = w.heap.size → wpList P ops Q rest (a.put o.dst (.tuple #[.bool true, enc p.1, p.2])) w') : wpList P ops Q (o :: rest) a w := by
 refine wpList_plain hgd fun K' hK' => ?_
 unfold Oper.wp execOp
 rcases run_nextL (P := P) o.type hr hg with ⟨h0, hrun⟩ | ⟨j, p, w', hl, hn, hrun, h1, h2, h3⟩
 ·simp [hop, hit, hrun, Result.andThen]
  exact hK' _ _ (hDone h0)
 ·simp [hop, hit, hrun, Result.andThen]
  exact hK' _ _ (hMore j p w' hl hn h1 h2 h3)
end
theorem seen_perm {n : Nat} {seen : List Nat} (hn : seen.Nodup) (hl : ∀ j ∈ seen, j < n) (hall : ∀ j, j < n → j ∈ seen) : seen.Perm (List.range n) :=
 (List.perm_ext_iff_of_nodup hn List.nodup_range).2 fun j => by rw [List.mem_range]; exact ⟨hl j, hall j⟩
end
end Go.Proofs.YteofmaiojepdkaaGreat
namespace Go.Proofs.YteofmaiojepdkaaGreat
open Go Go.RowKit Go.Maps
def ObjPost (b : Bool) (w : World) (e : Ending) (w' : World) : Prop := ∃ x y : Int, e = .returned (.tuple #[.int .i64 x, .int .u16 y, .bool b]) ∧ Below w.heap.size w w'
def hitO (b a : Int) (o : ObjI) : Bool := decide (o.bank = b) && decide (o.addr ≤ a) && decide (a < o.addr + o.size)
theorem any_take {α : Type} (p : α → Bool) (l : List α) (k : Nat) (x : α) (h : l[k]? = some x) : (l.take (k + 1)).any p = ((l.take k).any p || p x) := by
 rw [List.take_succ, h]
 simp
set_option maxRecDepth 100000 in
set_option maxHeartbeats 1000000 in
theorem iobj_any (I : zk) (hI : I.Ok) (ba : Option Addr) (bc : Nat) (da : Option Addr) (dc : Nat) (b a : Int) (a0 : 0 ≤ a) (a1 : a < 65536) (w : World) (hV : yG w I ba bc da dc) :
  Calls Tryz.prog 69 #[.slice da I.data.length dc, .int .i64 b, .int .u16 a] w (ObjPost (inObj I b a) w) := by
 have hlen := hI.od
 have hob := hI.ob
 have hV' := hV.dt
 have hin : inObj I b a = I.data.any (hitO b a) := rfl
 rw [hin]
 obtain ⟨D, hD⟩ : ∃ D, I.data = D := ⟨_, rfl⟩
 rw [hD] at hlen hob hV' ⊢
 have HV := zh hV'
 have HOB := zh hob
 clear hin hV hV' hob hI hD
 have hle : D.length ≤ dc := HV.out.le
 go_enter Tryz.func69, Tryz.ntmps69
 go_wp2
 go_loopw [13] (fun i wr => ∃ k : Nat, k ≤ D.length ∧ i = .int .i64 k ∧ (D.take k).any (hitO b a) = false ∧ Below w.heap.size w wr) (fun i _ => D.length - (intOf i).toNat)
 case atStart => exact ⟨0, Nat.zero_le _, rfl, rfl, Below.refl _ _⟩
 case round =>
  obtain ⟨k, hk, rfl, hno, hb⟩ := hrel
  by_cases hlt : k < D.length
  ·obtain ⟨o, ho⟩ : ∃ o, D[k]? = some o := ⟨_, List.getElem?_eq_getElem hlt⟩
   have hom := HOB.out o (List.mem_of_getElem? ho)
   obtain ⟨⟨c0, c1⟩, ⟨x0, x1⟩, ⟨y0, y1⟩⟩ := hom
   have hrow := (HV.out.below hb).row hlt
   rw [xT objL 3 (fun _ => rfl) D k o ho] at hrow
   obtain ⟨g, off, cur, T, fr, rfl, hg, hex, -, -⟩ := hrow
   have HG := zh hg
   have HEX := zh hex
   have HNO := zh hno
   have HO := zh ho
   have HB := zh hb
   have hend := fun W => iend_any o ⟨x0, x1⟩ ⟨y0, y1⟩ W
   have HEND := zh hend
   clear hg hex hno ho hb hend
   by_cases h1 : o.bank = b
   ·subst h1
    by_cases h2 : o.addr ≤ a
    ·by_cases h3 : a < o.addr + o.size
     ·go_wp2_with (first
       | (refine lmT 137 ([.int .i64 o.bank, .int .u16 o.addr, .int .u16 o.size]) (HG.out) (HEX.out) ?_)
       | (refine stN ?_)
       | (refine ldT 137 (heap_alloc_new _ _) ?_)
       | (go_at_call 92; refine (HEND.out _).mono ?_; rintro e w1 ⟨rfl, hb1⟩; have HB1 := zh hb1; have hc1 := fun o => cell_of_row w1 wr.heap.size o _ _ _ (za hb1 (heap_alloc_new _ _)); clear hb1))
      have HANY := zh (show D.any (hitO o.bank a) = true from List.any_eq_true.2 ⟨o, List.mem_of_getElem? HO.out, by simp [hitO, h2, h3]⟩)
      go_quiet (fail)
      go_wp2
      go_ret3
      refine ⟨k, a - o.addr, ?_, below_drewN ((HB.out.alloc HB.out.size _).trans (HB1.out.mono (by have := HB.out.size; simp; omega))) _⟩
      rw [HANY.out]
      rfl
     ·have h4 : o.addr + o.size ≤ a := by omega
      go_wp2_with (first
       | (refine lmT 137 ([.int .i64 o.bank, .int .u16 o.addr, .int .u16 o.size]) (HG.out) (HEX.out) ?_)
       | (refine stN ?_)
       | (refine ldT 137 (heap_alloc_new _ _) ?_)
       | (go_at_call 92; refine (HEND.out _).mono ?_; rintro e w1 ⟨rfl, hb1⟩; have HB1 := zh hb1; have hc1 := fun o => cell_of_row w1 wr.heap.size o _ _ _ (za hb1 (heap_alloc_new _ _)); clear hb1))
      go_roundw
      case rel => exact ⟨k + 1, by omega, by go_num, by rw [any_take _ _ _ _ HO.out, HNO.out, Bool.false_or]; unfold hitO; simp [h3], (HB.out.alloc HB.out.size _).trans (HB1.out.mono (by have := HB.out.size; simp; omega))⟩
      case measure => simp [intOf]; omega
    ·have h4 : a < o.addr := by omega
     go_wp2_with (first
       | (refine lmT 137 ([.int .i64 o.bank, .int .u16 o.addr, .int .u16 o.size]) (HG.out) (HEX.out) ?_)
       | (refine stN ?_)
       | (refine ldT 137 (heap_alloc_new _ _) ?_)
       | (go_at_call 92; refine (HEND.out _).mono ?_; rintro e w1 ⟨rfl, hb1⟩; have HB1 := zh hb1; have hc1 := fun o => cell_of_row w1 wr.heap.size o _ _ _ (za hb1 (heap_alloc_new _ _)); clear hb1))
     go_roundw
     case rel => exact ⟨k + 1, by omega, by go_num, by rw [any_take _ _ _ _ HO.out, HNO.out, Bool.false_or]; unfold hitO; simp [h2], HB.out.alloc HB.out.size _⟩
     case measure => simp [intOf]; omega
   ·have e1 : (o.bank == b) = false := by simp [h1]
    go_wp2_with (first
       | (refine lmT 137 ([.int .i64 o.bank, .int .u16 o.addr, .int .u16 o.size]) (HG.out) (HEX.out) ?_)
       | (refine stN ?_)
       | (refine ldT 137 (heap_alloc_new _ _) ?_)
       | (go_at_call 92; refine (HEND.out _).mono ?_; rintro e w1 ⟨rfl, hb1⟩; have HB1 := zh hb1; have hc1 := fun o => cell_of_row w1 wr.heap.size o _ _ _ (za hb1 (heap_alloc_new _ _)); clear hb1))
    go_roundw
    case rel => exact ⟨k + 1, by omega, by go_num, by rw [any_take _ _ _ _ HO.out, HNO.out, Bool.false_or]; unfold hitO; simp [h1], HB.out.alloc HB.out.size _⟩
    case measure => simp [intOf]; omega
  ·obtain rfl : k = D.length := by omega
   rw [List.take_of_length_le (zn _)] at hno
   go_wp2
   go_ret3
   exact ⟨0, 0, by rw [hno]; rfl, hb⟩
end Go.Proofs.YteofmaiojepdkaaGreat
