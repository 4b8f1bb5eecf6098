/- window, relative, Falls, Target of package isa: walked. -/
import Derived.Test.YteofmaiojepdkaaGreatTbPlc
set_option linter.all false
namespace Go.Proofs.YteofmaiojepdkaaGreat
open Go Go.RowKit
section
variable {P : Program} {ops : Array Oper} {Q : Exit → Act → World → Prop} {S : World → Prop} {zs : List Nat}
def xX (P : Program) (ops : Array Oper) (Q : Exit → Act → World → Prop) (S : World → Prop) (zs : List Nat) : Nat → Array Bool → Act → World → Prop
 | 0, L, a, w => Region.ready .any ops L = [] ∧ Q .normal a w
 | fuel + 1, L, a, w =>
  (Region.ready .any ops L = [] → Q .normal a w) ∧
  ∀ i ∈ Region.ready .any ops L, wpOp P ops Q i (fun a' w' => (zs.contains i = true ∨ S w') ∧ xX P ops Q S zs fuel (L.setIfInBounds i true) a' w') a w
theorem wpAny_of_Z : ∀ (fuel : Nat) (L : Array Bool) (a : Act) (w : World), xX P ops Q S zs fuel L a w → wpAny P .any ops Q fuel L a w
 | 0, _, _, _, h => h
 | fuel + 1, _, _, _, h => ⟨h.1, fun i hi => wpOp_mono (fun a' w' h' => wpAny_of_Z fuel _ a' w' h'.2) (h.2 i hi)⟩
def waitJ (ops : Array Oper) (i : Nat) : Nat → Nat → Bool
 | 0, _ => false
 | f + 1, z => match ops[z]? with
  | some o => (o.after.toList.any fun e => Region.binds .any e && Nat.beq e.on i) || (o.after.toList.any fun e => Region.binds .any e && waitJ ops i f e.on)
  | none => false
def waitZ (ops : Array Oper) (zs : List Nat) (i : Nat) : Bool := zs.all (waitJ ops i 7)
def shutZ (ops : Array Oper) (L : Array Bool) : Bool := (List.range ops.size).all fun j => !(L.getD j true) || (match ops[j]? with
 | some o => o.after.toList.all fun e => !(Region.binds .any e) || L.getD e.on false
 | none => true)
theorem shutZ_spec {L : Array Bool} (h : shutZ ops L = true) {j : Nat} {o : Oper} (ho : ops[j]? = some o) (hj : L.getD j true = true) : ∀ e ∈ o.after, Region.binds .any e = true → L.getD e.on false = true := fun e he hb => by
 have h1 := List.all_eq_true.1 h j (List.mem_range.2 (Array.getElem?_eq_some_iff.1 ho).1)
 rw [hj, ho] at h1
 rw [Bool.not_true, Bool.false_or] at h1
 have h2 := List.all_eq_true.1 h1 e (by simpa using he)
 rwa [hb, Bool.not_true, Bool.false_or] at h2
theorem getD_both {L : Array Bool} {j : Nat} (h : L.getD j false = true) : L.getD j true = true := by
 by_cases h' : j < L.size
 ·simp [h'] at h ⊢; exact h
 ·simp [h'] at h
theorem getD_set_mono {L : Array Bool} {i j : Nat} (h : L.getD j false = true) : (L.setIfInBounds i true).getD j false = true := by
 by_cases h' : j < L.size
 ·by_cases hij : i = j
  ·subst hij; simp [h']
  ·simp [h', Array.getElem_setIfInBounds_ne, hij] at h ⊢; exact h
 ·simp [h'] at h
theorem shutZ_step {L : Array Bool} (h : shutZ ops L = true) {i : Nat} (hi : i ∈ Region.ready .any ops L) : shutZ ops (L.setIfInBounds i true) = true := by
 refine List.all_eq_true.2 fun j hj => ?_
 have hjs := List.mem_range.1 hj
 rw [Array.getElem?_eq_getElem hjs]
 dsimp only
 rw [Bool.or_eq_true]
 cases hd : (L.setIfInBounds i true).getD j true with
 | false => exact .inl rfl
 | true =>
  refine .inr (List.all_eq_true.2 fun e he => ?_)
  cases hb : Region.binds .any e with
  | false => rfl
  | true =>
   show (L.setIfInBounds i true).getD e.on false = true
   refine getD_set_mono ?_
   by_cases hij : i = j
   ·subst hij
    obtain ⟨-, o, ho, hall⟩ := mem_ready.1 hi
    rw [Array.getElem?_eq_getElem hjs] at ho
    injection ho with ho
    exact hall e (by rw [← ho]; simpa using he) hb
   ·rw [getD_set_ne true hij] at hd
    exact shutZ_spec h (Array.getElem?_eq_getElem hjs) hd e (by simpa using he) hb
theorem waitJ_done {L : Array Bool} (hL : shutZ ops L = true) {i : Nat} : ∀ (f z : Nat), waitJ ops i f z = true → (∀ o, ops[z]? = some o → ∀ e ∈ o.after, Region.binds .any e = true → L.getD e.on false = true) → L.getD i false = true
 | 0, _, h, _ => by cases h
 | f + 1, z, h, hp => by
  unfold waitJ at h
  cases ho : ops[z]? with
  | none => rw [ho] at h; cases h
  | some o =>
   rw [ho] at h
   dsimp only at h
   rw [Bool.or_eq_true] at h
   rcases h with h | h
   ·obtain ⟨e, he, h2⟩ := List.any_eq_true.1 h
    rw [Bool.and_eq_true] at h2
    have h3 := hp o ho e (by simpa using he) h2.1
    rwa [Nat.eq_of_beq_eq_true h2.2] at h3
   ·obtain ⟨e, he, h2⟩ := List.any_eq_true.1 h
    rw [Bool.and_eq_true] at h2
    have h3 := hp o ho e (by simpa using he) h2.1
    exact waitJ_done hL f e.on h2.2 fun o' ho' => shutZ_spec hL ho' (getD_both h3)
theorem waitZ_not {L : Array Bool} {i z : Nat} (hL : shutZ ops L = true) (h : waitZ ops zs i = true) (hi : i ∈ Region.ready .any ops L) (hz : zs.contains z = true) : z ∉ Region.ready .any ops L := fun hr => by
 obtain ⟨-, o, ho, hall⟩ := mem_ready.1 hr
 have h1 := List.all_eq_true.1 h z (by simpa using hz)
 have h2 := waitJ_done hL 7 z h1 fun o' ho' e he hb => by
  rw [ho] at ho'
  injection ho' with ho'
  exact hall e (by rw [ho']; exact he) hb
 have h0 := (mem_ready.1 hi).1
 rcases Nat.lt_or_ge i L.size with h' | h'
 ·simp [h'] at h0 h2; rw [h0] at h2; cases h2
 ·simp [Array.getElem?_eq_none h'] at h0
theorem wpAnyZ_first {i : Nat} {oi : Oper} {v : Value} (hi : ops[i]? = some oi) (hsel : ∀ (j : Nat) (o : Oper) cs b, ops[j]? = some o → o.op ≠ .select cs b)
  (hQ : ∀ c a w, Q (.panic c) (a.put oi.dst v) w → Q (.panic c) a w) (hz : waitZ ops zs i = true) :
  ∀ (fuel : Nat) (L : Array Bool) (a : Act) (w : World), shutZ ops L = true →
   (∀ j oj, ops[j]? = some oj → j ≠ i → L.getD j true = false → (∀ e ∈ oj.after, Region.binds .any e = true → e.on ≠ i) → oi.apart ops oj = true) →
   i ∈ Region.ready .any ops L → YieldsIf P ops S oi v a → S w →
   xX P ops Q S zs fuel (L.setIfInBounds i true) (a.put oi.dst v) w → xX P ops Q S zs (fuel + 1) L a w := by
 intro fuel
 induction fuel with
 | zero =>
  intro L a w _ _ hr hy hS H
  refine ⟨fun h => (by rw [h] at hr; cases hr), fun j hj => ?_⟩
  by_cases hji : j = i
  ·subst hji; exact hy.wpOp hi hS ⟨.inr hS, H⟩
  ·have := ready_mono hj hji
   rw [H.1] at this
   cases this
 | succ fuel ih =>
  intro L a w hsh hfree hr hy hS H
  refine ⟨fun h => (by rw [h] at hr; cases hr), fun j hj => ?_⟩
  by_cases hji : j = i
  ·subst hji; exact hy.wpOp hi hS ⟨.inr hS, H⟩
  ·have h1 := H.2 j (ready_mono hj hji)
   obtain ⟨hjun, oj, hoj, hall⟩ := mem_ready.1 hj
   have hnz : ¬ zs.contains j = true := fun e => waitZ_not hsh hz hr e hj
   have hnot : ∀ e ∈ oj.after, Region.binds .any e = true → e.on ≠ i := fun e he hb heq => by
    have h1 := hall e he hb
    have h0 := (mem_ready.1 hr).1
    rw [heq] at h1
    rcases Nat.lt_or_ge i L.size with h' | h'
    ·simp [h'] at h0 h1; rw [h0] at h1; cases h1
    ·simp [Array.getElem?_eq_none h'] at h1
   have h2 := wpOp_putIf hoj (hfree j oj hoj hji hjun hnot) (fun cs b => hsel i oi cs b hi) (fun cs b => hsel j oj cs b hoj) hQ hy h1
   have hfree' : ∀ k ok, ops[k]? = some ok → k ≠ i → (L.setIfInBounds j true).getD k true = false →
     (∀ e ∈ ok.after, Region.binds .any e = true → e.on ≠ i) → oi.apart ops ok = true := fun k ok hk hki hun hno => by
    refine hfree k ok hk hki ?_ hno
    by_cases hjk : j = k
    ·subst hjk; exact hjun
    ·rw [getD_set_ne true hjk] at hun; exact hun
   refine wpOp_mono (fun a' w' h3 => ?_) h2
   have hSw : S w' := h3.2.1.resolve_left hnz
   refine ⟨.inr hSw, ih (L.setIfInBounds j true) a' w' (shutZ_step hsh hj) hfree' (ready_mono hr (Ne.symm hji)) h3.1 hSw ?_⟩
   rw [Array.setIfInBounds_comm _ _ hji]
   exact h3.2.2
theorem tkZ (i : Nat) {oi : Oper} {v : Value} {fuel : Nat} {L : Array Bool} {a : Act} {w : World} (hi : ops[i]? = some oi) (hS : S w)
  (hy : ∀ w, S w → (execOp a.eval oi).run P w = .ok (.value v) w) (h : xX P ops Q S zs fuel (L.setIfInBounds i true) (a.put oi.dst v) w)
  (hs : Region.noSelect ops = true := by kernel_rfl) (hf : Region.free .any ops L i = true := by kernel_rfl) (hr : (Region.ready .any ops L).contains i = true := by kernel_rfl) (hz : waitZ ops zs i = true := by kernel_rfl) (hc : shutZ ops L = true := by kernel_rfl)
  (hQ : ∀ c a w, Q (.panic c) (a.put oi.dst v) w → Q (.panic c) a w := by exact fun _ _ _ h => h) (hw : Region.wanted oi (yielded ops a.tmps) = true := by rfl) : xX P ops Q S zs (fuel + 1) L a w :=
 wpAnyZ_first hi (Region.noSelect_spec hs) hQ hz fuel L a w hc (Region.free_spec hi hf) (by simpa using hr) (.inl ⟨hw, hy⟩) hS h
theorem tkP {i : Nat} (_ : MPar i) {oi : Oper} {v : Value} {fuel : Nat} {L : Array Bool} {a : Act} {w : World} (hi : ops[i]? = some oi) (hS : S w)
  (hy : ∀ w, S w → (execOp a.eval oi).run P w = .ok (.value v) w) (h : xX P ops Q S zs fuel (L.setIfInBounds i true) (a.put oi.dst v) w)
  (hs : Region.noSelect ops = true := by kernel_rfl) (hf : Region.free .any ops L i = true := by kernel_rfl) (hr : (Region.ready .any ops L).contains i = true := by kernel_rfl) (hz : waitZ ops zs i = true := by kernel_rfl) (hc : shutZ ops L = true := by kernel_rfl)
  (hQ : ∀ c a w, Q (.panic c) (a.put oi.dst v) w → Q (.panic c) a w := by exact fun _ _ _ h => h) (hw : Region.wanted oi (yielded ops a.tmps) = true := by rfl) : xX P ops Q S zs (fuel + 1) L a w :=
 tkZ i hi hS hy h hs hf hr hz hc hQ hw
theorem tz (i : Nat) {p q : Prop} (hq : q) (h : MPar i → MBox q → p := by
  intro hi hb
  refine tkP hi (v := ?_) rfl (by assumption) ?_ ?_
  rotate_left
  (focus (intro w hSw; (try dsimp only at hSw); go_simp; try with_reducible rfl))
  (try simp only [List.getElem_toArray, List.getElem_cons_succ, List.getElem_cons_zero, Act.put, List.setIfInBounds_toArray, List.set_cons_zero, List.set_cons_succ])
  exact hb.out) : p := h trivial ⟨hq⟩
theorem yx (i : Nat) {o : Oper} {fuel : Nat} {L : Array Bool} {a : Act} {w : World} (hi : ops[i]? = some o)
  (h : ∀ K : Act → World → Prop, Shut (∀ a' w', (zs.contains i = true ∨ S w') → xX P ops Q S zs fuel (L.setIfInBounds i true) a' w' → K a' w') → o.wp P a w K Q)
  (hr : Region.ready .any ops L = [i] := by kernel_rfl) (hw : Region.wanted o (yielded ops a.tmps) = true := by rfl) : xX P ops Q S zs (fuel + 1) L a w := by
 refine ⟨fun h0 => (by rw [hr] at h0; cases h0), fun j hj => ?_⟩
 rw [hr] at hj
 obtain rfl := List.mem_singleton.1 hj
 exact wpOp_step hi fun K hK => by rw [if_pos hw]; exact h K fun a' w' h1 h2 => hK a' w' ⟨h1, h2⟩
def forcedZ (ops : Array Oper) (zs : List Nat) : Array Bool → List Nat → Bool
 | L, [] => (Region.ready .any ops L).isEmpty
 | L, j :: js => (match Region.ready .any ops L with | [i] => Nat.beq i j | _ => false) && zs.contains j && forcedZ ops zs (L.setIfInBounds j true) js
theorem listZ : ∀ (js : List Nat) {os : List Oper} {fuel : Nat} {L : Array Bool} {a : Act} {w : World}, forcedZ ops zs L js = true → js.map (ops[·]?) = os.map some → js.length ≤ fuel → wpList P ops Q os a w → xX P ops Q S zs fuel L a w
 | [], os, fuel, L, a, w, hf, ho, _, h => by
  have hos : os = [] := by cases os with
   | nil => rfl
   | cons x y => simp at ho
  subst hos
  have hr : Region.ready .any ops L = [] := by simpa [forcedZ] using hf
  cases fuel with
  | zero => exact ⟨hr, h⟩
  | succ n => exact ⟨fun _ => h, by rw [hr]; simp⟩
 | j :: js, os, 0, _, _, _, _, _, hl, _ => by simp at hl
 | j :: js, os, fuel + 1, L, a, w, hf, ho, hl, h => by
  cases os with
  | nil => simp at ho
  | cons o os =>
   simp only [List.map_cons, List.cons.injEq] at ho
   unfold forcedZ at hf
   rw [Bool.and_eq_true, Bool.and_eq_true] at hf
   obtain ⟨⟨h1, h2⟩, h3⟩ := hf
   have hr : Region.ready .any ops L = [j] := by
    split at h1
    ·rename_i i hi
     rw [hi, Nat.eq_of_beq_eq_true h1]
    ·cases h1
   refine ⟨fun h0 => (by rw [hr] at h0; cases h0), fun i hi => ?_⟩
   rw [hr] at hi
   obtain rfl := List.mem_singleton.1 hi
   have hwo : wpOp P ops Q i (wpList P ops Q os) a w := by unfold wpOp; rw [ho.1]; exact h
   exact wpOp_mono (fun a' w' h' => ⟨.inl h2, listZ js h3 ho.2 (by simpa using hl) h'⟩) hwo
theorem drop_map (l : List Oper) (k : Nat) : (List.range' k (l.length - k)).map (fun j => l[j]?) = (l.drop k).map some := by
 apply List.ext_getElem?
 intro i
 rw [List.getElem?_map, List.getElem?_map, List.getElem?_drop]
 by_cases h : i < l.length - k
 ·rw [List.getElem?_range' h, Option.map_some, Nat.one_mul, List.getElem?_eq_getElem (show k + i < l.length by omega)]
  rfl
 ·rw [List.getElem?_eq_none (show (List.range' k (l.length - k)).length ≤ i by rw [List.length_range']; omega), List.getElem?_eq_none (show l.length ≤ k + i by omega)]
  rfl
theorem z8 (k : Nat) {fuel : Nat} {L : Array Bool} {a : Act} {w : World} (h : wpList P ops Q (ops.toList.drop k) a w)
  (hf : forcedZ ops zs L (List.range' k (ops.toList.length - k)) = true := by kernel_rfl) (hl : Nat.ble (ops.toList.length - k) fuel = true := by kernel_rfl) : xX P ops Q S zs fuel L a w :=
 listZ _ hf (by rw [← drop_map]; simp only [Array.getElem?_toList]) (by rw [List.length_range']; exact Nat.le_of_ble_eq_true hl) h
theorem zr {id : Nat} {a : Act} {w : World} (S : World → Prop) (zs : List Nat) (hm : P.follows .mixedOrders = true) (hS : S w.drew)
  (h : S w.drew → xX P ops Q S zs ops.size (Array.replicate ops.size false) a w.drew) : (Code.region id ops true).wp P Q a w :=
 wp_region_any hm (wpAny_of_Z _ _ _ _ (h hS))
end
end Go.Proofs.YteofmaiojepdkaaGreat
namespace Go.Proofs.YteofmaiojepdkaaGreat
open Go.RowKit
theorem xJ (a : Int) (w : World) :
  Calls Tryz.prog 121 #[.int .u16 a] w fun e w' => e = .returned (.bool (x4 a)) ∧ w = w' := by
 unfold x4
 by_cases h1 : 4096 ≤ a
 ·by_cases h2 : a < 8192
  ·rw [decide_eq_true h1, decide_eq_true h2]
   go_enter Tryz.func121, Tryz.ntmps121
   go_wp2
   go_ret
   exact ⟨rfl, rfl⟩
  ·rw [decide_eq_false h2, Bool.and_false]
   have h3 : 8192 ≤ a := by omega
   go_enter Tryz.func121, Tryz.ntmps121
   go_wp2
   go_ret
   exact ⟨rfl, rfl⟩
 ·rw [decide_eq_false h1, Bool.false_and]
  have h3 : a < 4096 := by omega
  go_enter Tryz.func121, Tryz.ntmps121
  go_wp2
  go_ret
  exact ⟨rfl, rfl⟩
theorem yZ (op : Int) (w : World) :
  Calls Tryz.prog 120 #[.int .i64 op] w fun e w' => e = .returned (.bool (relS op)) ∧ w = w' := by
 by_cases h : 96 ≤ op ∧ op ≤ 130
 ·have e1 : relS op = true := by unfold relS; rw [decide_eq_true h.1, decide_eq_true h.2]; rfl
  rw [e1]
  obtain ⟨a, b⟩ := h
  clear e1
  go_enter Tryz.func120, Tryz.ntmps120
  go_wp2
  go_ret
  exact ⟨rfl, rfl⟩
 by_cases h2 : op = 133
 ·subst h2
  go_enter Tryz.func120, Tryz.ntmps120
  go_wp2
  go_ret
  exact ⟨rfl, rfl⟩
 ·have e1 : relS op = false := by unfold relS; simp only [Bool.or_eq_false_iff, Bool.and_eq_false_iff, decide_eq_false_iff_not, beq_eq_false_iff_ne]; exact ⟨by omega, h2⟩
  rw [e1]
  clear e1
  have hb : (op == 133) = false := by simp [h2]
  by_cases h3 : op < 96
  ·go_enter Tryz.func120, Tryz.ntmps120
   go_wp2
   go_ret
   exact ⟨by first | (simp [h2]; done) | (simp [h2]; omega), rfl⟩
  ·have h4 : 130 < op := by omega
   go_enter Tryz.func120, Tryz.ntmps120
   go_wp2
   go_ret
   exact ⟨by first | (simp [h2]; done) | (simp [h2]; omega), rfl⟩
theorem falls_stop (i : Ins) (h : stopS i.op = true) (w : World) :
  Calls Tryz.prog 109 #[.agg #[.int .i64 (i).op, .int .i64 (i).d, .int .i64 (i).s, .int .u16 (i).imm, .int .u16 (i).aux, .int .i64 (i).bank, .int .i64 (i).size]] w fun e w' => e = .returned (.bool (xZ i)) ∧ Below w.heap.size w w' := by
 have e1 : xZ i = false := by unfold xZ; rw [h]; rfl
 rw [e1]
 clear e1
 unfold stopS at h
 simp only [Bool.or_eq_true, beq_iff_eq, or_assoc] at h
 obtain ⟨op, d, s, imm, aux, bank, size⟩ := i
 rcases h with h | h | h | h | h | h | h | h <;> subst h
 ·go_enter Tryz.func109, Tryz.ntmps109
  go_wp2
  go_ret
  exact ⟨rfl, (Below.refl _ _).alloc (zn _) _⟩
 ·go_enter Tryz.func109, Tryz.ntmps109
  go_wp2
  go_ret
  exact ⟨rfl, (Below.refl _ _).alloc (zn _) _⟩
 ·go_enter Tryz.func109, Tryz.ntmps109
  go_wp2
  go_ret
  exact ⟨rfl, (Below.refl _ _).alloc (zn _) _⟩
 ·go_enter Tryz.func109, Tryz.ntmps109
  go_wp2
  go_ret
  exact ⟨rfl, (Below.refl _ _).alloc (zn _) _⟩
 ·go_enter Tryz.func109, Tryz.ntmps109
  go_wp2
  go_ret
  exact ⟨rfl, (Below.refl _ _).alloc (zn _) _⟩
 ·go_enter Tryz.func109, Tryz.ntmps109
  go_wp2
  go_ret
  exact ⟨rfl, (Below.refl _ _).alloc (zn _) _⟩
 ·go_enter Tryz.func109, Tryz.ntmps109
  go_wp2
  go_ret
  exact ⟨rfl, (Below.refl _ _).alloc (zn _) _⟩
 ·go_enter Tryz.func109, Tryz.ntmps109
  go_wp2
  go_ret
  exact ⟨rfl, (Below.refl _ _).alloc (zn _) _⟩
theorem falls_any (i : Ins) (hi : i.Ok) (w : World) :
  Calls Tryz.prog 109 #[.agg #[.int .i64 (i).op, .int .i64 (i).d, .int .i64 (i).s, .int .u16 (i).imm, .int .u16 (i).aux, .int .i64 (i).bank, .int .i64 (i).size]] w fun e w' => e = .returned (.bool (xZ i)) ∧ Below w.heap.size w w' := by
 cases h : stopS i.op with
 | true => exact falls_stop i h w
 | false =>
  have e1 : xZ i = zy i := by unfold xZ; rw [h]; rfl
  rw [e1]
  clear e1
  unfold stopS at h
  simp only [Bool.or_eq_false_iff, beq_eq_false_iff_ne, and_assoc] at h
  obtain ⟨h1, h2, h3, h4, h5, h6, h7, h8⟩ := h
  have HB := zh (heap_alloc_new w (.cells #[.int .i64 i.op, .int .i64 i.d, .int .i64 i.s, .int .u16 i.imm, .int .u16 i.aux, .int .i64 i.bank, .int .i64 i.size] 53))
  go_enter Tryz.func109, Tryz.ntmps109
  go_wp2_with (first
   | (refine wpList_load_row rfl _ (.tmp 1) rfl _ rfl _ _ _ _ HB.out Tryz.underlying53 rfl ?_ ?_; kernel_rfl)
   | (go_at_call 119; refine (xd i hi _).mono ?_; rintro e w2 ⟨rfl, hb2⟩))
  go_ret
  exact ⟨rfl, ((Below.refl _ _).alloc (zn _) _).trans (hb2.mono (by simp))⟩
set_option maxRecDepth 100000 in
set_option maxHeartbeats 1000000 in
theorem target_bad (i : Ins) (hi : i.Ok) (p : zb) (hv : zy i = false) (w : World) :
  Calls Tryz.prog 94 #[.agg #[.int .i64 (i).op, .int .i64 (i).d, .int .i64 (i).s, .int .u16 (i).imm, .int .u16 (i).aux, .int .i64 (i).bank, .int .i64 (i).size], .agg #[.int .i64 p.bank, .int .u16 p.addr]] w fun e w' => e = .returned (.tuple #[.agg #[.int .i64 (0), .int .u16 (0)], .bool false]) ∧ Below w.heap.size w w' := by
 have HH := zh (THeld.first i p w)
 have HV := zh hv
 clear hv
 go_enter Tryz.func94, Tryz.ntmps94
 go_wp2_with (first
  | (refine wpList_load_row rfl _ (.tmp 2) rfl _ rfl _ _ _ _ HH.out.b0 Tryz.underlying53 rfl ?_ ?_; kernel_rfl)
  | (go_at_call 119; refine (xd i hi _).mono ?_; rintro e w2 ⟨rfl, hb2⟩; rw [HV.out]; have HH := zh (HH.out.stay hb2); have hci := HH.out.ci; have hcp := HH.out.cp; clear hb2)
  | (go_at_call 120; refine (yZ _ _).mono ?_; rintro e w3 ⟨rfl, rfl⟩; rw [HR.out])
  | (go_at_call 121; refine (xJ _ _).mono ?_; rintro e w3 ⟨rfl, rfl⟩; first
    | rw [HA.out]
    | rw [HP.out]
    | rw [HM.out])
  | (refine wpList_store_row rfl _ (.tmp 4) _ rfl _ _ rfl rfl _ _ HH.out.br ?_ ?_ ?_ ?_; kernel_rfl; rfl; kernel_rfl))
 refine bodyPost_ret (zd (cs := #[.int .i64 (0), .int .u16 (0)]) (fr := (0, 0)) Tryz.results94 _ _ (w.heap.size + 2) 47 _ ?_ (setRow_heap _ _ _ _ _ _ HH.out.br) Tryz.underlying47 rfl (by kernel_rfl)) rfl ⟨rfl, below_setRow HH.out.bb (by omega) _⟩
 rfl
set_option maxRecDepth 100000 in
set_option maxHeartbeats 1000000 in
theorem target_rel0 (i : Ins) (hi : i.Ok) (p : zb) (hv : zy i = true) (hr : relS i.op = true) (ha : x4 (tgt i p) = false) (w : World) :
  Calls Tryz.prog 94 #[.agg #[.int .i64 (i).op, .int .i64 (i).d, .int .i64 (i).s, .int .u16 (i).imm, .int .u16 (i).aux, .int .i64 (i).bank, .int .i64 (i).size], .agg #[.int .i64 p.bank, .int .u16 p.addr]] w fun e w' => e = .returned (.tuple #[.agg #[.int .i64 (0), .int .u16 (tgt i p)], .bool true]) ∧ Below w.heap.size w w' := by
 have HH := zh (THeld.first i p w)
 obtain ⟨s0, s1⟩ := xV hi hv
 rw [← tgt_eq i p] at ha ⊢
 have HV := zh hv
 have HR := zh hr
 have HA := zh ha
 clear hv hr ha
 go_enter Tryz.func94, Tryz.ntmps94
 go_wp2_with (first
  | (refine wpList_load_row rfl _ (.tmp 2) rfl _ rfl _ _ _ _ HH.out.b0 Tryz.underlying53 rfl ?_ ?_; kernel_rfl)
  | (go_at_call 119; refine (xd i hi _).mono ?_; rintro e w2 ⟨rfl, hb2⟩; rw [HV.out]; have HH := zh (HH.out.stay hb2); have hci := HH.out.ci; have hcp := HH.out.cp; clear hb2)
  | (go_at_call 120; refine (yZ _ _).mono ?_; rintro e w3 ⟨rfl, rfl⟩; rw [HR.out])
  | (go_at_call 121; refine (xJ _ _).mono ?_; rintro e w3 ⟨rfl, rfl⟩; first
    | rw [HA.out]
    | rw [HP.out]
    | rw [HM.out])
  | (refine wpList_store_row rfl _ (.tmp 4) _ rfl _ _ rfl rfl _ _ HH.out.br ?_ ?_ ?_ ?_; kernel_rfl; rfl; kernel_rfl))
 refine bodyPost_ret (zd (cs := #[.int .i64 (0), .int .u16 (IntKind.u16.wrap (IntKind.u16.wrap (p.addr + i.size) + i.imm))]) (fr := (0, 0)) Tryz.results94 _ _ (w.heap.size + 2) 47 _ ?_ (setRow_heap _ _ _ _ _ _ HH.out.br) Tryz.underlying47 rfl (by kernel_rfl)) rfl ⟨rfl, below_setRow HH.out.bb (by omega) _⟩
 rfl
set_option maxRecDepth 100000 in
set_option maxHeartbeats 1000000 in
theorem target_rel1 (i : Ins) (hi : i.Ok) (p : zb) (hv : zy i = true) (hr : relS i.op = true) (ha : x4 (tgt i p) = true) (hp : x4 p.addr = false) (w : World) :
  Calls Tryz.prog 94 #[.agg #[.int .i64 (i).op, .int .i64 (i).d, .int .i64 (i).s, .int .u16 (i).imm, .int .u16 (i).aux, .int .i64 (i).bank, .int .i64 (i).size], .agg #[.int .i64 p.bank, .int .u16 p.addr]] w fun e w' => e = .returned (.tuple #[.agg #[.int .i64 (0), .int .u16 (0)], .bool false]) ∧ Below w.heap.size w w' := by
 have HH := zh (THeld.first i p w)
 obtain ⟨s0, s1⟩ := xV hi hv
 rw [← tgt_eq i p] at ha
 have HV := zh hv
 have HR := zh hr
 have HA := zh ha
 have HP := zh hp
 clear hv hr ha hp
 go_enter Tryz.func94, Tryz.ntmps94
 go_wp2_with (first
  | (refine wpList_load_row rfl _ (.tmp 2) rfl _ rfl _ _ _ _ HH.out.b0 Tryz.underlying53 rfl ?_ ?_; kernel_rfl)
  | (go_at_call 119; refine (xd i hi _).mono ?_; rintro e w2 ⟨rfl, hb2⟩; rw [HV.out]; have HH := zh (HH.out.stay hb2); have hci := HH.out.ci; have hcp := HH.out.cp; clear hb2)
  | (go_at_call 120; refine (yZ _ _).mono ?_; rintro e w3 ⟨rfl, rfl⟩; rw [HR.out])
  | (go_at_call 121; refine (xJ _ _).mono ?_; rintro e w3 ⟨rfl, rfl⟩; first
    | rw [HA.out]
    | rw [HP.out]
    | rw [HM.out])
  | (refine wpList_store_row rfl _ (.tmp 4) _ rfl _ _ rfl rfl _ _ HH.out.br ?_ ?_ ?_ ?_; kernel_rfl; rfl; kernel_rfl))
 refine bodyPost_ret (zd (cs := #[.int .i64 (0), .int .u16 (0)]) (fr := (0, 0)) Tryz.results94 _ _ (w.heap.size + 2) 47 _ ?_ (setRow_heap _ _ _ _ _ _ HH.out.br) Tryz.underlying47 rfl (by kernel_rfl)) rfl ⟨rfl, below_setRow HH.out.bb (by omega) _⟩
 rfl
set_option maxRecDepth 100000 in
set_option maxHeartbeats 1000000 in
theorem target_rel2 (i : Ins) (hi : i.Ok) (p : zb) (hv : zy i = true) (hr : relS i.op = true) (ha : x4 (tgt i p) = true) (hp : x4 p.addr = true) (w : World) :
  Calls Tryz.prog 94 #[.agg #[.int .i64 (i).op, .int .i64 (i).d, .int .i64 (i).s, .int .u16 (i).imm, .int .u16 (i).aux, .int .i64 (i).bank, .int .i64 (i).size], .agg #[.int .i64 p.bank, .int .u16 p.addr]] w fun e w' => e = .returned (.tuple #[.agg #[.int .i64 (p.bank), .int .u16 (tgt i p)], .bool true]) ∧ Below w.heap.size w w' := by
 have HH := zh (THeld.first i p w)
 obtain ⟨s0, s1⟩ := xV hi hv
 rw [← tgt_eq i p] at ha ⊢
 have HV := zh hv
 have HR := zh hr
 have HA := zh ha
 have HP := zh hp
 clear hv hr ha hp
 go_enter Tryz.func94, Tryz.ntmps94
 go_wp2_with (first
  | (refine wpList_load_row rfl _ (.tmp 2) rfl _ rfl _ _ _ _ HH.out.b0 Tryz.underlying53 rfl ?_ ?_; kernel_rfl)
  | (go_at_call 119; refine (xd i hi _).mono ?_; rintro e w2 ⟨rfl, hb2⟩; rw [HV.out]; have HH := zh (HH.out.stay hb2); have hci := HH.out.ci; have hcp := HH.out.cp; clear hb2)
  | (go_at_call 120; refine (yZ _ _).mono ?_; rintro e w3 ⟨rfl, rfl⟩; rw [HR.out])
  | (go_at_call 121; refine (xJ _ _).mono ?_; rintro e w3 ⟨rfl, rfl⟩; first
    | rw [HA.out]
    | rw [HP.out]
    | rw [HM.out])
  | (refine wpList_store_row rfl _ (.tmp 4) _ rfl _ _ rfl rfl _ _ HH.out.br ?_ ?_ ?_ ?_; kernel_rfl; rfl; kernel_rfl))
 refine bodyPost_ret (zd (cs := #[.int .i64 (p.bank), .int .u16 (IntKind.u16.wrap (IntKind.u16.wrap (p.addr + i.size) + i.imm))]) (fr := (0, 0)) Tryz.results94 _ _ (w.heap.size + 2) 47 _ ?_ (setRow_heap _ _ _ _ _ _ HH.out.br) Tryz.underlying47 rfl (by kernel_rfl)) rfl ⟨rfl, below_setRow HH.out.bb (by omega) _⟩
 rfl
set_option maxRecDepth 100000 in
set_option maxHeartbeats 1000000 in
theorem target_far0 (i : Ins) (hi : i.Ok) (p : zb) (hv : zy i = true) (hr : relS i.op = false) (hf : farS i.op = true) (hm : x4 i.imm = false) (w : World) :
  Calls Tryz.prog 94 #[.agg #[.int .i64 (i).op, .int .i64 (i).d, .int .i64 (i).s, .int .u16 (i).imm, .int .u16 (i).aux, .int .i64 (i).bank, .int .i64 (i).size], .agg #[.int .i64 p.bank, .int .u16 p.addr]] w fun e w' => e = .returned (.tuple #[.agg #[.int .i64 (0), .int .u16 (i.imm)], .bool true]) ∧ Below w.heap.size w w' := by
 have HH := zh (THeld.first i p w)
 have HV := zh hv
 have HR := zh hr
 have HM := zh hm
 clear hv hr hm
 unfold farS at hf
 simp only [Bool.or_eq_true, beq_iff_eq] at hf
 obtain ⟨op, d, s, imm, aux, bank, size⟩ := i
 dsimp only at hf HR HM ⊢
 rcases hf with n1 | n1 <;> subst n1
 ·go_enter Tryz.func94, Tryz.ntmps94
  go_wp2_with (first
   | (refine wpList_load_row rfl _ (.tmp 2) rfl _ rfl _ _ _ _ HH.out.b0 Tryz.underlying53 rfl ?_ ?_; kernel_rfl)
   | (go_at_call 119; refine (xd ⟨131, d, s, imm, aux, bank, size⟩ hi _).mono ?_; rintro e w2 ⟨rfl, hb2⟩; rw [HV.out]; have HH := zh (HH.out.stay hb2); have hci := HH.out.ci; have hcp := HH.out.cp; clear hb2)
   | (go_at_call 120; refine (yZ _ _).mono ?_; rintro e w3 ⟨rfl, rfl⟩; rw [HR.out])
   | (go_at_call 121; refine (xJ _ _).mono ?_; rintro e w3 ⟨rfl, rfl⟩; first
     | rw [HA.out]
     | rw [HP.out]
     | rw [HM.out])
   | (refine wpList_store_row rfl _ (.tmp 4) _ rfl _ _ rfl rfl _ _ HH.out.br ?_ ?_ ?_ ?_; kernel_rfl; rfl; kernel_rfl))
  refine bodyPost_ret (zd (cs := #[.int .i64 (0), .int .u16 (imm)]) (fr := (0, 0)) Tryz.results94 _ _ (w.heap.size + 2) 47 _ ?_ (setRow_heap _ _ _ _ _ _ HH.out.br) Tryz.underlying47 rfl (by kernel_rfl)) rfl ⟨rfl, below_setRow HH.out.bb (by omega) _⟩
  rfl
 ·go_enter Tryz.func94, Tryz.ntmps94
  go_wp2_with (first
   | (refine wpList_load_row rfl _ (.tmp 2) rfl _ rfl _ _ _ _ HH.out.b0 Tryz.underlying53 rfl ?_ ?_; kernel_rfl)
   | (go_at_call 119; refine (xd ⟨132, d, s, imm, aux, bank, size⟩ hi _).mono ?_; rintro e w2 ⟨rfl, hb2⟩; rw [HV.out]; have HH := zh (HH.out.stay hb2); have hci := HH.out.ci; have hcp := HH.out.cp; clear hb2)
   | (go_at_call 120; refine (yZ _ _).mono ?_; rintro e w3 ⟨rfl, rfl⟩; rw [HR.out])
   | (go_at_call 121; refine (xJ _ _).mono ?_; rintro e w3 ⟨rfl, rfl⟩; first
     | rw [HA.out]
     | rw [HP.out]
     | rw [HM.out])
   | (refine wpList_store_row rfl _ (.tmp 4) _ rfl _ _ rfl rfl _ _ HH.out.br ?_ ?_ ?_ ?_; kernel_rfl; rfl; kernel_rfl))
  refine bodyPost_ret (zd (cs := #[.int .i64 (0), .int .u16 (imm)]) (fr := (0, 0)) Tryz.results94 _ _ (w.heap.size + 2) 47 _ ?_ (setRow_heap _ _ _ _ _ _ HH.out.br) Tryz.underlying47 rfl (by kernel_rfl)) rfl ⟨rfl, below_setRow HH.out.bb (by omega) _⟩
  rfl
set_option maxRecDepth 100000 in
set_option maxHeartbeats 1000000 in
theorem target_far1 (i : Ins) (hi : i.Ok) (p : zb) (hv : zy i = true) (hr : relS i.op = false) (hf : farS i.op = true) (hm : x4 i.imm = true) (w : World) :
  Calls Tryz.prog 94 #[.agg #[.int .i64 (i).op, .int .i64 (i).d, .int .i64 (i).s, .int .u16 (i).imm, .int .u16 (i).aux, .int .i64 (i).bank, .int .i64 (i).size], .agg #[.int .i64 p.bank, .int .u16 p.addr]] w fun e w' => e = .returned (.tuple #[.agg #[.int .i64 (i.bank), .int .u16 (i.imm)], .bool true]) ∧ Below w.heap.size w w' := by
 have HH := zh (THeld.first i p w)
 have HV := zh hv
 have HR := zh hr
 have HM := zh hm
 clear hv hr hm
 unfold farS at hf
 simp only [Bool.or_eq_true, beq_iff_eq] at hf
 obtain ⟨op, d, s, imm, aux, bank, size⟩ := i
 dsimp only at hf HR HM ⊢
 rcases hf with n1 | n1 <;> subst n1
 ·go_enter Tryz.func94, Tryz.ntmps94
  go_wp2_with (first
   | (refine wpList_load_row rfl _ (.tmp 2) rfl _ rfl _ _ _ _ HH.out.b0 Tryz.underlying53 rfl ?_ ?_; kernel_rfl)
   | (go_at_call 119; refine (xd ⟨131, d, s, imm, aux, bank, size⟩ hi _).mono ?_; rintro e w2 ⟨rfl, hb2⟩; rw [HV.out]; have HH := zh (HH.out.stay hb2); have hci := HH.out.ci; have hcp := HH.out.cp; clear hb2)
   | (go_at_call 120; refine (yZ _ _).mono ?_; rintro e w3 ⟨rfl, rfl⟩; rw [HR.out])
   | (go_at_call 121; refine (xJ _ _).mono ?_; rintro e w3 ⟨rfl, rfl⟩; first
     | rw [HA.out]
     | rw [HP.out]
     | rw [HM.out])
   | (refine wpList_store_row rfl _ (.tmp 4) _ rfl _ _ rfl rfl _ _ HH.out.br ?_ ?_ ?_ ?_; kernel_rfl; rfl; kernel_rfl))
  refine bodyPost_ret (zd (cs := #[.int .i64 (bank), .int .u16 (imm)]) (fr := (0, 0)) Tryz.results94 _ _ (w.heap.size + 2) 47 _ ?_ (setRow_heap _ _ _ _ _ _ HH.out.br) Tryz.underlying47 rfl (by kernel_rfl)) rfl ⟨rfl, below_setRow HH.out.bb (by omega) _⟩
  rfl
 ·go_enter Tryz.func94, Tryz.ntmps94
  go_wp2_with (first
   | (refine wpList_load_row rfl _ (.tmp 2) rfl _ rfl _ _ _ _ HH.out.b0 Tryz.underlying53 rfl ?_ ?_; kernel_rfl)
   | (go_at_call 119; refine (xd ⟨132, d, s, imm, aux, bank, size⟩ hi _).mono ?_; rintro e w2 ⟨rfl, hb2⟩; rw [HV.out]; have HH := zh (HH.out.stay hb2); have hci := HH.out.ci; have hcp := HH.out.cp; clear hb2)
   | (go_at_call 120; refine (yZ _ _).mono ?_; rintro e w3 ⟨rfl, rfl⟩; rw [HR.out])
   | (go_at_call 121; refine (xJ _ _).mono ?_; rintro e w3 ⟨rfl, rfl⟩; first
     | rw [HA.out]
     | rw [HP.out]
     | rw [HM.out])
   | (refine wpList_store_row rfl _ (.tmp 4) _ rfl _ _ rfl rfl _ _ HH.out.br ?_ ?_ ?_ ?_; kernel_rfl; rfl; kernel_rfl))
  refine bodyPost_ret (zd (cs := #[.int .i64 (bank), .int .u16 (imm)]) (fr := (0, 0)) Tryz.results94 _ _ (w.heap.size + 2) 47 _ ?_ (setRow_heap _ _ _ _ _ _ HH.out.br) Tryz.underlying47 rfl (by kernel_rfl)) rfl ⟨rfl, below_setRow HH.out.bb (by omega) _⟩
  rfl
set_option maxRecDepth 100000 in
set_option maxHeartbeats 1000000 in
theorem target_none (i : Ins) (hi : i.Ok) (p : zb) (hv : zy i = true) (hr : relS i.op = false) (hf : farS i.op = false) (w : World) :
  Calls Tryz.prog 94 #[.agg #[.int .i64 (i).op, .int .i64 (i).d, .int .i64 (i).s, .int .u16 (i).imm, .int .u16 (i).aux, .int .i64 (i).bank, .int .i64 (i).size], .agg #[.int .i64 p.bank, .int .u16 p.addr]] w fun e w' => e = .returned (.tuple #[.agg #[.int .i64 (0), .int .u16 (0)], .bool false]) ∧ Below w.heap.size w w' := by
 have HH := zh (THeld.first i p w)
 have HV := zh hv
 have HR := zh hr
 clear hv hr
 unfold farS at hf
 simp only [Bool.or_eq_false_iff] at hf
 obtain ⟨n2, n3⟩ := hf
 have n1 : ¬((i.op == 131) = true ∨ (i.op == 132) = true) := by rw [n2, n3]; simp
 go_enter Tryz.func94, Tryz.ntmps94
 go_wp2_with (first
  | (refine wpList_load_row rfl _ (.tmp 2) rfl _ rfl _ _ _ _ HH.out.b0 Tryz.underlying53 rfl ?_ ?_; kernel_rfl)
  | (go_at_call 119; refine (xd i hi _).mono ?_; rintro e w2 ⟨rfl, hb2⟩; rw [HV.out]; have HH := zh (HH.out.stay hb2); have hci := HH.out.ci; have hcp := HH.out.cp; clear hb2)
  | (go_at_call 120; refine (yZ _ _).mono ?_; rintro e w3 ⟨rfl, rfl⟩; rw [HR.out])
  | (go_at_call 121; refine (xJ _ _).mono ?_; rintro e w3 ⟨rfl, rfl⟩; first
    | rw [HA.out]
    | rw [HP.out]
    | rw [HM.out])
  | (refine wpList_store_row rfl _ (.tmp 4) _ rfl _ _ rfl rfl _ _ HH.out.br ?_ ?_ ?_ ?_; kernel_rfl; rfl; kernel_rfl))
 refine bodyPost_ret (zd (cs := #[.int .i64 (0), .int .u16 (0)]) (fr := (0, 0)) Tryz.results94 _ _ (w.heap.size + 2) 47 _ ?_ (setRow_heap _ _ _ _ _ _ HH.out.br) Tryz.underlying47 rfl (by kernel_rfl)) rfl ⟨rfl, below_setRow HH.out.bb (by omega) _⟩
 rfl
theorem target_any (i : Ins) (hi : i.Ok) (p : zb) (w : World) :
  Calls Tryz.prog 94 #[.agg #[.int .i64 (i).op, .int .i64 (i).d, .int .i64 (i).s, .int .u16 (i).imm, .int .u16 (i).aux, .int .i64 (i).bank, .int .i64 (i).size], .agg #[.int .i64 p.bank, .int .u16 p.addr]] w fun e w' => e = .returned (.tuple #[.agg #[.int .i64 (zU i p).1.bank, .int .u16 (zU i p).1.addr], .bool (zU i p).2]) ∧ Below w.heap.size w w' := by
 unfold zU
 cases hv : zy i with
 | false => exact target_bad i hi p hv w
 | true =>
  cases hr : relS i.op with
  | true =>
   cases ha : x4 (tgt i p) with
   | false => exact target_rel0 i hi p hv hr ha w
   | true =>
    cases hp : x4 p.addr with
    | false => exact target_rel1 i hi p hv hr ha hp w
    | true => exact target_rel2 i hi p hv hr ha hp w
  | false =>
   cases hf : farS i.op with
   | false => exact target_none i hi p hv hr hf w
   | true =>
    cases hm : x4 i.imm with
    | false => exact target_far0 i hi p hv hr hf hm w
    | true => exact target_far1 i hi p hv hr hf hm w
end Go.Proofs.YteofmaiojepdkaaGreat
