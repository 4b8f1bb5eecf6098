/- package scan: Resolve, walked. Condition: what the listing reads as. -/
import Derived.Test.YteofmaiojepdkaaGreatTeREnc3
import Derived.Test.YteofmaiojepdkaaGreatTeScB
import Derived.ChangeSlices
import Derived.KernelRfl
set_option linter.all false
namespace Go.Proofs.YteofmaiojepdkaaGreat
open Go.RowKit
theorem validS_parts {i : Ins} (h : zw i = true) : (∃ k, fOf i.op = some k) ∧ zR i (zY i.op) 4 = true ∧ yp (zt i (zY i.op) 4) (zY i.op) = i := by
 unfold zw at h
 simp only [Bool.and_eq_true, decide_eq_true_eq] at h
 obtain ⟨⟨h1, h2⟩, h3⟩ := h
 exact ⟨Option.isSome_iff_exists.1 h1, h2, h3⟩
end Go.Proofs.YteofmaiojepdkaaGreat
namespace Go.Proofs.YteofmaiojepdkaaGreat
open Go.RowKit
theorem rdF_congr (f : Int) (b b' : Nat → Int) (op sz : Int) (hf : 1 ≤ f ∧ f ≤ 18) (h : ∀ k : Nat, (k : Int) < yL.getD f.toNat 0 → b k = b' k) : rdF f b op sz = rdF f b' op sz := by
 have h18 : f = 1 ∨ f = 2 ∨ f = 3 ∨ f = 4 ∨ f = 5 ∨ f = 6 ∨ f = 7 ∨ f = 8 ∨ f = 9 ∨ f = 10 ∨ f = 11 ∨ f = 12 ∨ f = 13 ∨ f = 14 ∨ f = 15 ∨ f = 16 ∨ f = 17 ∨ f = 18 := by omega
 rcases h18 with e | e | e | e | e | e | e | e | e | e | e | e | e | e | e | e | e | e <;> subst e
 ·rfl
 ·have h1 := h 1 (by decide); simp [rdF, h1]
 ·have h1 := h 1 (by decide); simp [rdF, h1]
 ·have h1 := h 1 (by decide); simp [rdF, h1]
 ·have h1 := h 1 (by decide); have h2 := h 2 (by decide); simp [rdF, h1, h2]
 ·have h1 := h 1 (by decide); have h2 := h 2 (by decide); have h3 := h 3 (by decide); simp [rdF, h1, h2, h3]
 ·have h1 := h 1 (by decide); have h2 := h 2 (by decide); simp [rdF, h1, h2]
 ·have h1 := h 1 (by decide); have h2 := h 2 (by decide); have h3 := h 3 (by decide); simp [rdF, h1, h2, h3]
 ·have h1 := h 1 (by decide); have h2 := h 2 (by decide); have h3 := h 3 (by decide); simp [rdF, h1, h2, h3]
 ·have h1 := h 1 (by decide); simp [rdF, h1]
 ·have h1 := h 1 (by decide); have h2 := h 2 (by decide); simp [rdF, h1, h2]
 ·have h1 := h 1 (by decide); have h2 := h 2 (by decide); have h3 := h 3 (by decide); simp [rdF, h1, h2, h3]
 ·have h1 := h 1 (by decide); have h2 := h 2 (by decide); have h3 := h 3 (by decide); have h4 := h 4 (by decide); have h5 := h 5 (by decide); have h6 := h 6 (by decide); simp [rdF, h1, h2, h3, h4, h5, h6]
 ·have h1 := h 1 (by decide); have h2 := h 2 (by decide); have h3 := h 3 (by decide); simp [rdF, h1, h2, h3]
 ·have h1 := h 1 (by decide); have h2 := h 2 (by decide); simp [rdF, h1, h2]
 ·have h1 := h 1 (by decide); have h2 := h 2 (by decide); have h3 := h 3 (by decide); have h4 := h 4 (by decide); simp [rdF, h1, h2, h3, h4]
 ·have h1 := h 1 (by decide); have h2 := h 2 (by decide); have h3 := h 3 (by decide); have h4 := h 4 (by decide); have h5 := h 5 (by decide); simp [rdF, h1, h2, h3, h4, h5]
 ·have h1 := h 1 (by decide); have h2 := h 2 (by decide); simp [rdF, h1, h2]
theorem readL_eq (i : Ins) (hi : i.Ok) (hv : zw i = true) : rdF (ze i.op) (byt (xu (encB i))) i.op i.size = i := by
 obtain ⟨h0, h1, -, -, -, hz⟩ := yS i hi hv
 obtain ⟨e1, -, -⟩ := enc_valid i hi hv
 obtain ⟨-, -, hr⟩ := validS_parts hv
 have hb : zt i (zY i.op) 4 = encB i := by rw [e1]; exact bytes_tail i h0
 have hop : byt (xu (encB i)) 0 = i.op := byt_in _ 0 _ (by rw [e1]; rfl) (by omega) (by omega)
 have : yG (xu (encB i)) = i := by
  have e2 : yG (xu (encB i)) = yp (zt i (zY i.op) 4) (zY i.op) := by
   unfold yG yp; rw [hop, hb]
  rw [e2, hr]
 rw [readB_eq _ (by rw [hop]; exact h0), hop] at this
 rw [hz]; exact this
theorem dec_enc (i : Ins) (hi : i.Ok) (hv : zw i = true) (more : ByteArray) : xo (xu (encB i) ++ more) = 0 ∧ yQ (xu (encB i) ++ more) = i := by
 obtain ⟨h0, h1, -, -, -, hz⟩ := yS i hi hv
 obtain ⟨e1, -, hl⟩ := enc_valid i hi hv
 have hop : byt (xu (encB i)) 0 = i.op := byt_in _ 0 _ (by rw [e1]; rfl) (by omega) (by omega)
 have hsz : (xu (encB i)).size = (encB i).length := strOf_size _
 have hpos : 0 < (encB i).length := by rw [e1]; simp
 have hop' : byt (xu (encB i) ++ more) 0 = i.op := by rw [byt_append _ _ 0 (by omega), hop]
 have hrd : yG (xu (encB i) ++ more) = i := by
  rw [readB_eq _ (by rw [hop']; exact h0), hop', ← hz]
  have hr := readL_eq i hi hv
  rw [rdF_congr _ (byt (xu (encB i) ++ more)) (byt (xu (encB i))) _ _ (fmt_rng h0) (fun k hk => byt_append _ _ k (by
   have : yL.getD (ze i.op).toNat 0 = i.size := by rw [hz]; rfl
   omega))]
  exact hr
 have hsize : (xu (encB i) ++ more).size = (encB i).length + more.size := by rw [ByteArray.size_append, hsz]
 have hE : xo (xu (encB i) ++ more) = 0 := by
  unfold xo
  rw [if_neg (by omega), hop', (fOf_some h0).1, hrd, hv, size_eq, ← hz]
  rw [if_pos rfl, if_neg (by omega), if_pos rfl]
 exact ⟨hE, by unfold yQ; rw [if_pos hE]; exact hrd⟩
end Go.Proofs.YteofmaiojepdkaaGreat
namespace Go.Proofs.YteofmaiojepdkaaGreat
open Go
def findR (rs : List xp) (p : zb) : Option xp := rs.find? fun r => decide (r.entry = p)
def resS (rs : List xp) : Nat → zb → Option zb
 | 0, _ => none
 | k + 1, p => match findR rs p with
  | none => none
  | some r => if r.thunk then resS rs k r.dest else some p
theorem findR_some {rs : List xp} (hn : (rs.map (·.entry)).Nodup) {r : xp} (h : r ∈ rs) : findR rs r.entry = some r := by
 induction rs with
 | nil => cases h
 | cons x l ih =>
  rw [List.map_cons, List.nodup_cons] at hn
  unfold findR
  rw [List.find?_cons]
  rcases List.mem_cons.1 h with rfl | h
  ·simp
  ·have hx : ¬ x.entry = r.entry := fun e => hn.1 (by rw [e]; exact List.mem_map.2 ⟨r, h, rfl⟩)
   rw [decide_eq_false hx]
   exact ih hn.2 h
theorem findR_none {rs : List xp} {p : zb} (h : p ∉ rs.map (·.entry)) : findR rs p = none := by
 unfold findR
 rw [List.find?_eq_none]
 intro x hx e
 exact h (List.mem_map.2 ⟨x, hx, of_decide_eq_true e⟩)
def jmI (a b : Int) : Ins := ⟨131, 0, 0, a, 0, b, 4⟩
def thD (m : Nat) (c : Bool) (b k : Nat) : zb := if k + 1 = m then (if c then ⟨0, 0⟩ else ⟨((1 + b : Nat) : Int), 4105⟩) else ⟨0, ((4 * (k + 1) : Nat) : Int)⟩
def thC (m : Nat) (c : Bool) (b k : Nat) : ByteArray := xu (encB (jmI (thD m c b k).addr (thD m c b k).bank))
def thS (m : Nat) (c : Bool) (b : Nat) : Nat → ByteArray
 | 0 => ⟨#[]⟩
 | k + 1 => thS m c b k ++ thC m c b k
def thI (m : Nat) (c : Bool) (b : Nat) : zp := ⟨[yW (xj 0 (thS m c b m)), yW (xj 9 ⟨#[1]⟩), yW (xj 9 ⟨#[1]⟩)], 0, 0, []⟩
theorem th_cases (m : Nat) (c : Bool) (b k : Nat) (hm : m ≤ 20) (hk : k < m) (hb : b ≤ 1) : (∃ j : Nat, j ≤ 20 ∧ thD m c b k = ⟨0, ((4 * j : Nat) : Int)⟩) ∨ (∃ j : Nat, j ≤ 2 ∧ thD m c b k = ⟨(j : Int), 4105⟩) := by
 unfold thD
 split
 ·split
  ·exact .inl ⟨0, by omega, rfl⟩
  ·exact .inr ⟨1 + b, by omega, rfl⟩
 ·exact .inl ⟨k + 1, by omega, rfl⟩
theorem jm_facts : (∀ j : _root_.Fin 21, zw (jmI ((4 * j.val : Nat) : Int) 0) = true) ∧ ∀ j : _root_.Fin 3, zw (jmI 4105 (j.val : Int)) = true := by constructor <;> decide +kernel
theorem sz131 : zr 131 = 4 := by decide +kernel
section
variable {m : Nat} {c : Bool} {b : Nat} (hm : m ≤ 20) (hb : b ≤ 1)
include hm hb
theorem th_valid {k : Nat} (hk : k < m) : zw (jmI (thD m c b k).addr (thD m c b k).bank) = true ∧ (jmI (thD m c b k).addr (thD m c b k).bank).Ok := by
 rcases th_cases m c b k hm hk hb with ⟨j, hj, e⟩ | ⟨j, hj, e⟩
 ·rw [e]
  refine ⟨jm_facts.1 ⟨j, by omega⟩, ?_⟩
  refine ⟨?_, ?_, ?_, ?_, ?_, ?_, ?_⟩ <;> (unfold jmI; dsimp only; first | (unfold yX; omega) | omega)
 ·rw [e]
  refine ⟨jm_facts.2 ⟨j, by omega⟩, ?_⟩
  refine ⟨?_, ?_, ?_, ?_, ?_, ?_, ?_⟩ <;> (unfold jmI; dsimp only; first | (unfold yX; omega) | omega)
theorem thC_size {k : Nat} (hk : k < m) : (thC m c b k).size = 4 ∧ byt (thC m c b k) 0 = 131 := by
 obtain ⟨h1, h2⟩ := th_valid (c := c) hm hb hk
 obtain ⟨h3, -, h4⟩ := enc_valid _ h2 h1
 unfold thC
 have h5 : (jmI (thD m c b k).addr (thD m c b k).bank).size = 4 := rfl
 refine ⟨by rw [strOf_size]; omega, ?_⟩
 refine byt_in _ 0 131 ?_ (by omega) (by omega)
 rw [h3]
 rfl
theorem thS_size : ∀ {k : Nat}, k ≤ m → (thS m c b k).size = 4 * k
 | 0, _ => rfl
 | k + 1, h => by
  show (thS m c b k ++ thC m c b k).size = _
  rw [ByteArray.size_append, thS_size (by omega), (thC_size hm hb (by omega)).1]
  omega
omit hm hb in
theorem byt_app (s t : ByteArray) (j : Nat) : byt (s ++ t) (s.size + j) = byt t j := by
 unfold byt
 rw [ByteArray.data_append, Array.toList_append, List.getD_eq_getElem?_getD, List.getD_eq_getElem?_getD, List.getElem?_append_right (by show s.data.toList.length ≤ _; rw [Array.length_toList]; exact Nat.le_add_right _ _)]
 congr 4
 rw [Array.length_toList]
 show s.size + j - s.size = j
 omega
theorem thS_byt : ∀ {k j i : Nat}, k ≤ m → j < k → i < 4 → byt (thS m c b k) (4 * j + i) = byt (thC m c b j) i
 | 0, _, _, _, h, _ => absurd h (Nat.not_lt_zero _)
 | k + 1, j, i, h, hj, hi => by
  have hs := thS_size (c := c) hm hb (show k ≤ m by omega)
  show byt (thS m c b k ++ thC m c b k) _ = _
  by_cases e : j = k
  ·rw [e, show 4 * k + i = (thS m c b k).size + i by omega, byt_app]
  ·rw [byt_append _ _ _ (by omega), thS_byt (by omega) (by omega) hi]
omit hm hb in
theorem nums_byt (s : ByteArray) : strOfNums ((List.range s.size).map fun j => byt s j) = s := by
 apply ByteArray.ext
 apply Array.toList_inj.1
 rw [strOfNums_data, List.map_map]
 apply List.ext_getElem?
 intro i
 rw [List.getElem?_map]
 have hl : s.data.toList.length = s.size := Array.length_toList
 by_cases h : i < s.size
 ·rw [List.getElem?_range h, Option.map_some, List.getElem?_eq_getElem (by omega)]
  simp only [Function.comp_apply, byt, Int.toNat_natCast, List.getD_eq_getElem?_getD]
  rw [List.getElem?_eq_getElem (by omega), Option.getD_some, UInt8.ofNat_toNat]
 ·rw [List.getElem?_eq_none (by simp; omega), List.getElem?_eq_none (by omega)]
  rfl
omit hm hb in
theorem thI_ok : (thI m c b).Ok := by
 refine ⟨show 1 ≤ 3 by decide, show 3 ≤ 64 by decide, fun t ht => ?_, show (0 : Int) ≤ 0 ∧ (0 : Int) < 65536 by decide, show (0 : Int) ≤ 0 ∧ (0 : Int) < 65536 by decide, fun o ho => (by cases ho), Nat.zero_le _⟩
 have h1 : t ∈ [yW (xj 0 (thS m c b m)), yW (xj 9 ⟨#[1]⟩), yW (xj 9 ⟨#[1]⟩)] := ht
 simp only [List.mem_cons, List.not_mem_nil, or_false] at h1
 rcases h1 with rfl | rfl | rfl <;> exact filB_size _
theorem th_at {k : Nat} (hk : k < m) : atI (thI m c b) ⟨0, ((4 * k : Nat) : Int)⟩ = (jmI (thD m c b k).addr (thD m c b k).bank, 0) := by
 have ho : zx ⟨0, ((4 * k : Nat) : Int)⟩ = 4 * k := by unfold zx; dsimp only; omega
 have hs := thS_size (c := c) hm hb (Nat.le_refl m)
 obtain ⟨hz, h0⟩ := thC_size (c := c) hm hb hk
 obtain ⟨hv, hok⟩ := th_valid (c := c) hm hb hk
 have hf : ∀ i, i < 4 → xj 0 (thS m c b m) (4 * k + i) = byt (thC m c b k) i := fun i hi => by
  unfold xj pageT
  rw [if_pos (by omega), Nat.sub_zero, thS_byt hm hb (Nat.le_refl m) hk hi]
 rw [at_fil (f := xj 0 (thS m c b m)) rfl (by unfold inI z6 thI; simp; omega) (pageF_bd _ _), ho]
 have hf0 : xj 0 (thS m c b m) (4 * k) = 131 := by have := hf 0 (by omega); rw [Nat.add_zero] at this; rw [this, h0]
 have hw : winB (xj 0 (thS m c b m)) (4 * k) (4 : Int).toNat = thC m c b k := by
  unfold winB
  have h1 := nums_byt (thC m c b k)
  rw [hz] at h1
  rw [← h1]
  exact congrArg strOfNums (List.map_congr_left fun j hj => by
   have hj4 := List.mem_range.1 hj
   exact hf j hj4)
 unfold atF
 rw [hf0, sz131, if_neg (by decide), if_neg (by show ¬ 4096 < 4 * k + 4; omega), hw]
 obtain ⟨hd, hi⟩ := dec_enc _ hok hv ⟨#[]⟩
 have he : xu (encB (jmI (thD m c b k).addr (thD m c b k).bank)) ++ (⟨#[]⟩ : ByteArray) = thC m c b k := by
  unfold thC
  apply ByteArray.ext
  rw [ByteArray.data_append]
  exact Array.append_empty
 rw [he] at hd hi
 rw [if_pos hd, hi]
theorem th_thunk {k : Nat} (hk : k < m) : yK (thI m c b) ⟨0, ((4 * k : Nat) : Int)⟩ ∧ (yd (atI (thI m c b) ⟨0, ((4 * k : Nat) : Int)⟩).1 ⟨0, ((4 * k : Nat) : Int)⟩).1 = thD m c b k := by
 have ha := th_at (c := c) hm hb hk
 obtain ⟨hv, -⟩ := th_valid (c := c) hm hb hk
 refine ⟨⟨okOf ha, by rw [ha]; rfl⟩, ?_⟩
 rw [ha]
 show (yd (jmI _ _) _).1 = _
 unfold yd
 rw [if_pos hv, if_neg (show ¬ (relS (jmI (thD m c b k).addr (thD m c b k).bank).op = true) from (by decide : ¬ (relS 131 = true))), if_pos (show farS (jmI (thD m c b k).addr (thD m c b k).bank).op = true from (by decide : farS 131 = true))]
 rcases th_cases m c b k hm hk hb with ⟨j, hj, e⟩ | ⟨j, hj, e⟩
 ·rw [e]
  have hw : winS (jmI ((4 * j : Nat) : Int) 0).imm = false := by
   show winS ((4 * j : Nat) : Int) = false
   unfold winS
   rw [decide_eq_false (by omega), Bool.false_and]
  dsimp only
  rw [if_neg (by rw [hw]; decide)]
  rfl
 ·rw [e]
  have hw : winS (jmI 4105 (j : Int)).imm = true := by show winS 4105 = true; decide
  dsimp only
  rw [if_pos hw]
  rfl
def enP (b : Nat) : zb := ⟨((1 + b : Nat) : Int), 4105⟩
theorem en_at : atI (thI m c b) (enP b) = (⟨1, 0, 0, 0, 0, 0, 1⟩, 0) := by
 have ho : zx (enP b) = 9 := show ((4105 : Int) % 4096).toNat = 9 by decide
 have hbk : (thI m c b).banks[(enP b).bank.toNat]? = some (yW (xj 9 ⟨#[1]⟩)) := by
  have : b = 0 ∨ b = 1 := by omega
  rcases this with rfl | rfl <;> rfl
 rw [at_fil (f := xj 9 ⟨#[1]⟩) hbk (by
  have : b = 0 ∨ b = 1 := by omega
  rcases this with rfl | rfl <;> (unfold inI z6 thI enP; simp)) (pageF_bd _ _), ho]
 decide +kernel
theorem en_fl : fl (thI m c b) (enP b) = ⟨[], [], [], false, false, false⟩ := by
 unfold fl
 rw [en_at hm hb]
 kernel_rfl
theorem en_rtn : yt (thI m c b) (enP b) ⟨enP b, false, ⟨0, 0⟩, [enP b], [], []⟩ := by
 have h1 : RtI (thI m c b) (enP b) [enP b] [] := (RtI.start (thI m c b) (enP b)).next (by simp) (en_at hm hb) (en_fl hm hb)
 refine yt.allOk h1 (notThunk (en_at hm hb) (by decide)) (fun p hp => ?_) (fun p hp => ?_) (List.pairwise_singleton _ _) (fun p => Iff.rfl) .nil (fun q => ⟨fun h => by (cases h), fun ⟨p, hp, hq⟩ => ?_⟩)
 ·rw [List.mem_singleton.1 hp]; exact okOf (en_at hm hb)
 ·rw [List.mem_singleton.1 hp, en_fl hm hb]; rfl
 ·rw [List.mem_singleton.1 hp, en_fl hm hb] at hq; exact hq
omit hm hb in
def thR (m : Nat) (c : Bool) (b k : Nat) : xp := ⟨⟨0, ((4 * k : Nat) : Int)⟩, true, thD m c b k, [⟨0, ((4 * k : Nat) : Int)⟩], [], []⟩
theorem th_rtn {k : Nat} (hk : k < m) : yt (thI m c b) ⟨0, ((4 * k : Nat) : Int)⟩ (thR m c b k) := by
 obtain ⟨h1, h2⟩ := th_thunk (c := c) hm hb hk
 exact ⟨rfl, by rw [decide_eq_true h1]; rfl, fun _ => ⟨h2.symm, rfl, rfl, rfl⟩, fun h => absurd h1 h, List.pairwise_singleton _ _, .nil, .nil, fun h => absurd h1 h, fun h => absurd h1 h, fun h => absurd h1 h⟩
def thL (m : Nat) (c : Bool) (b : Nat) : List xp := (List.range m).map (thR m c b) ++ if c then [] else [⟨enP b, false, ⟨0, 0⟩, [enP b], [], []⟩]
omit hm hb in
theorem thL_mem {r : xp} : r ∈ thL m c b ↔ (∃ k, k < m ∧ r = thR m c b k) ∨ (c = false ∧ r = ⟨enP b, false, ⟨0, 0⟩, [enP b], [], []⟩) := by
 unfold thL
 rw [List.mem_append, List.mem_map]
 refine or_congr ⟨fun ⟨k, h1, h2⟩ => ⟨k, List.mem_range.1 h1, h2.symm⟩, fun ⟨k, h1, h2⟩ => ⟨k, List.mem_range.2 h1, h2.symm⟩⟩ ?_
 cases c <;> simp
theorem th_ent : ∀ {k : Nat}, k < m → Ent (thI m c b) [] ⟨0, ((4 * k : Nat) : Int)⟩
 | 0, _ => .first
 | k + 1, h => by
  obtain ⟨h1, h2⟩ := th_thunk (c := c) hm hb (show k < m by omega)
  have h3 := Ent.thunk (th_ent (show k < m by omega)) h1
  rw [h2] at h3
  unfold thD at h3
  rwa [if_neg (by omega)] at h3
theorem th_rts (h1 : 1 ≤ m) : yR (thI m c b) [] (some (thL m c b)) := by
 have hme : ∀ k, k < m → (⟨0, ((4 * k : Nat) : Int)⟩ : zb) ∈ (thL m c b).map (·.entry) := fun k hk => List.mem_map.2 ⟨_, thL_mem.2 (.inl ⟨k, hk, rfl⟩), rfl⟩
 refine yR.given ?_ ?_ (fun r hr => ?_) (hme 0 (by omega)) (fun h => absurd rfl h) (by simp) (fun r hr q hq => ?_) (fun r hr ht => ?_) (fun p hp => ?_)
 ·unfold thL
  rw [List.map_append, List.pairwise_append, List.map_map]
  refine ⟨?_, by cases c <;> simp, fun x hx y hy => ?_⟩
  ·rw [List.pairwise_map]
   exact List.pairwise_lt_range.imp fun {a b} h => .inr ⟨rfl, by unfold thR; dsimp only [Function.comp_apply]; omega⟩
  ·obtain ⟨k, hk, rfl⟩ := List.mem_map.1 hx
   cases c with
   | true => cases hy
   | false =>
    have hy : y ∈ [enP b] := hy
    rw [List.mem_singleton.1 hy]
    exact .inl (show (0 : Int) < ((1 + b : Nat) : Int) by omega)
 ·unfold thL
  rw [List.length_append, List.length_map, List.length_range]
  cases c <;> simp <;> omega
 ·rcases thL_mem.1 hr with ⟨k, hk, rfl⟩ | ⟨-, rfl⟩
  ·exact th_rtn hm hb hk
  ·exact en_rtn hm hb
 ·rcases thL_mem.1 hr with ⟨k, hk, rfl⟩ | ⟨-, rfl⟩ <;> cases hq
 ·rcases thL_mem.1 hr with ⟨k, hk, rfl⟩ | ⟨-, rfl⟩
  ·show thD m c b k ∈ _
   unfold thD
   split
   ·cases c with
    | true => exact hme 0 (by omega)
    | false => exact List.mem_map.2 ⟨_, thL_mem.2 (.inr ⟨rfl, rfl⟩), rfl⟩
   ·exact hme (k + 1) (by omega)
  ·cases ht
 ·obtain ⟨r, hr, rfl⟩ := List.mem_map.1 hp
  rcases thL_mem.1 hr with ⟨k, hk, rfl⟩ | ⟨hc, rfl⟩
  ·exact th_ent hm hb hk
  ·subst hc
   obtain ⟨h2, h3⟩ := th_thunk (c := false) hm hb (show m - 1 < m by omega)
   have h4 := Ent.thunk (th_ent (c := false) hm hb (show m - 1 < m by omega)) h2
   rw [h3] at h4
   unfold thD at h4
   rw [if_pos (by omega)] at h4
   exact h4
theorem th_lst (h1 : 1 ≤ m) {L : LstS} (h : IsLst (thI m c b) [] L) : L.rts = thL m c b := by
 have hrs := th_rts (c := c) hm hb h1
 have hi : ∃ its, IsItems (thL m c b) its ∧ its.length ≤ 20000 := by
  refine ⟨(thL m c b).map (·.entry), ⟨hrs.1, fun p => ?_⟩, ?_⟩
  ·rw [List.mem_map]
   constructor
   ·rintro ⟨r, hr, rfl⟩
    refine ⟨r, hr, ?_⟩
    rcases thL_mem.1 hr with ⟨k, hk, rfl⟩ | ⟨-, rfl⟩ <;> exact List.mem_singleton.2 rfl
   ·rintro ⟨r, hr, hp⟩
    refine ⟨r, hr, ?_⟩
    rcases thL_mem.1 hr with ⟨k, hk, rfl⟩ | ⟨-, rfl⟩ <;> exact (List.mem_singleton.1 hp).symm
  ·rw [List.length_map]
   have := hrs.2.1
   omega
 obtain ⟨its, h2, h3⟩ := hi
 rw [h.uniq (.inr ⟨_, its, hrs, h2, .inr ⟨h3, rfl⟩⟩)]
 rfl
omit hm hb in
theorem thL_len : (thL m c b).length = if c then m else m + 1 := by
 unfold thL
 rw [List.length_append, List.length_map, List.length_range]
 cases c <;> simp
theorem th_find (h1 : 1 ≤ m) {k : Nat} (hk : k < m) : findR (thL m c b) ⟨0, ((4 * k : Nat) : Int)⟩ = some (thR m c b k) :=
 findR_some (xy zO.irr (th_rts (c := c) hm hb h1).1) (r := thR m c b k) (thL_mem.2 (.inl ⟨k, hk, rfl⟩))
theorem res_step (h1 : 1 ≤ m) {k f : Nat} (hk : k < m) : resS (thL m c b) (f + 1) ⟨0, ((4 * k : Nat) : Int)⟩ = resS (thL m c b) f (thD m c b k) := by
 show (match findR (thL m c b) ⟨0, ((4 * k : Nat) : Int)⟩ with | none => none | some r => if r.thunk then resS (thL m c b) f r.dest else some _) = _
 rw [th_find hm hb h1 hk]
 rfl
theorem res_circle (h1 : 1 ≤ m) : ∀ (f k : Nat), k < m → resS (thL m true b) f ⟨0, ((4 * k : Nat) : Int)⟩ = none
 | 0, _, _ => rfl
 | f + 1, k, h => by
  rw [res_step hm hb h1 h]
  unfold thD
  split
  ·exact res_circle h1 f 0 (by omega)
  ·exact res_circle h1 f (k + 1) (by omega)
theorem res_self (h1 : 1 ≤ m) (f : Nat) : resS (thL m false b) (f + 1) (enP b) = some (enP b) := by
 show (match findR (thL m false b) (enP b) with | none => none | some r => if r.thunk then resS (thL m false b) f r.dest else some _) = _
 rw [findR_some (xy zO.irr (th_rts (c := false) hm hb h1).1) (r := ⟨enP b, false, ⟨0, 0⟩, [enP b], [], []⟩) (thL_mem.2 (.inr ⟨rfl, rfl⟩))]
 rfl
theorem res_end (h1 : 1 ≤ m) : ∀ (f k : Nat), k < m → m - k < f → resS (thL m false b) f ⟨0, ((4 * k : Nat) : Int)⟩ = some (enP b)
 | 0, _, _, h => absurd h (Nat.not_lt_zero _)
 | f + 1, k, h, hf => by
  rw [res_step hm hb h1 h]
  unfold thD
  split
  ·obtain ⟨f', rfl⟩ : ∃ f', f = f' + 1 := ⟨f - 1, by omega⟩
   exact res_self hm hb h1 f'
  ·exact res_end h1 f (k + 1) (by omega) (by omega)
theorem res_none (f : Nat) (h1 : 1 ≤ m) : resS (thL m c b) f ⟨0, 2⟩ = none := by
 cases f with
 | zero => rfl
 | succ f =>
  show (match findR (thL m c b) ⟨0, 2⟩ with | none => none | some r => if r.thunk then resS (thL m c b) f r.dest else some _) = _
  rw [findR_none]
  intro h
  obtain ⟨r, hr, e⟩ := List.mem_map.1 h
  rcases thL_mem.1 hr with ⟨k, hk, rfl⟩ | ⟨-, rfl⟩
  ·have h2 : ((4 * k : Nat) : Int) = 2 := congrArg zb.addr e
   omega
  ·have h2 : ((1 + b : Nat) : Int) = 0 := congrArg zb.bank e
   omega
end
end Go.Proofs.YteofmaiojepdkaaGreat
namespace Go.Proofs.YteofmaiojepdkaaGreat
open Go Go.RowKit Go.Maps Go.Sort
def idxS (rs : List xp) (q : zb) : Option Nat := rs.findIdx? fun r => decide (r.entry = q)
def idxI (o : Option Nat) : Int := match o with | some k => k | none => -1
theorem idx_some {rs : List xp} {q : zb} {k : Nat} {r : xp} (hr : rs[k]? = some r) (he : r.entry = q) (hb : ∀ j x, j < k → rs[j]? = some x → x.entry ≠ q) : idxS rs q = some k ∧ findR rs q = some r := by
 induction rs generalizing k with
 | nil => cases hr
 | cons a l ih =>
  cases k with
  | zero =>
   have ha : a = r := by injection hr
   subst ha
   refine ⟨?_, ?_⟩
   ·unfold idxS
    rw [List.findIdx?_cons, decide_eq_true he]
    rfl
   ·unfold findR
    rw [List.find?_cons, decide_eq_true he]
  | succ k =>
   have ha : ¬ a.entry = q := hb 0 a (Nat.succ_pos k) rfl
   obtain ⟨h1, h2⟩ := ih (k := k) hr (fun j x hj hx => hb (j + 1) x (Nat.succ_lt_succ hj) hx)
   refine ⟨?_, ?_⟩
   ·unfold idxS at h1 ⊢
    rw [List.findIdx?_cons, decide_eq_false ha, h1]
    rfl
   ·unfold findR at h2 ⊢
    rw [List.find?_cons, decide_eq_false ha]
    exact h2
theorem idx_none {rs : List xp} {q : zb} (h : ∀ x ∈ rs, x.entry ≠ q) : idxS rs q = none ∧ findR rs q = none := by
 refine ⟨?_, ?_⟩
 ·unfold idxS
  rw [List.findIdx?_eq_none_iff]
  exact fun x hx => decide_eq_false (h x hx)
 ·exact findR_none fun hm => by
   obtain ⟨x, hx, e⟩ := List.mem_map.1 hm
   exact h x hx e
set_option maxRecDepth 100000 in
set_option maxHeartbeats 1000000 in
theorem res1_any (g : Nat) (q : zb) (w : World) (hp : w.heap[g]? = some (zI q)) (r : xp) (A1 A2 A3 : Option Addr) (n1 n2 n3 k1 k2 k3 : Nat) :
  Calls Tryz.prog 63 #[.agg #[.int .i64 r.entry.bank, .int .u16 r.entry.addr, .bool r.thunk, .int .i64 r.dest.bank, .int .u16 r.dest.addr, .slice A1 n1 k1, .slice A2 n2 k2, .slice A3 n3 k3], .pointer (some ⟨g, 0, none⟩)] w fun e w' => e = .returned (.bool (decide (r.entry = q))) ∧ Below w.heap.size w w' := by
 obtain ⟨eb, th, db, code, calls, iss⟩ := r
 have hx := Bx.one w (.cells #[.int .i64 eb.bank, .int .u16 eb.addr, .bool th, .int .i64 db.bank, .int .u16 db.addr, .slice A1 n1 k1, .slice A2 n2 k2, .slice A3 n3 k3] 50)
 have HX := Lib.hid hx
 have HP := Lib.hid (za hx.bb hp)
 dsimp only
 obtain ⟨bq, hbq⟩ : ∃ b, decide (eb = q) = b := ⟨_, rfl⟩
 rw [hbq]
 have HBQ := Lib.hid hbq
 clear hx hp hbq
 go_enter Tryz.func63, Tryz.ntmps63
 go_upto_region 1 with fail
 obtain ⟨w1, hw1⟩ : ∃ w1, w.alloc (.cells #[.int .i64 eb.bank, .int .u16 eb.addr, .bool th, .int .i64 db.bank, .int .u16 db.addr, .slice A1 n1 k1, .slice A2 n2 k2, .slice A3 n3 k3] 50) = w1 := ⟨_, rfl⟩
 rw [hw1] at HX HP ⊢
 clear hw1
 by_cases h : eb = q
 ·have e1 : eb.bank = q.bank := by rw [h]
  have e2 : eb.addr = q.addr := by rw [h]
  have HT := Lib.hid (show bq = true by rw [← HBQ.out]; exact decide_eq_true h)
  clear h
  go_wp2_with (first
   | (refine xY 47 _ rfl _ _ rfl _ _ _ (HX.out.b0) ([.int .i64 eb.bank, .int .u16 eb.addr]) ((by kernel_rfl)) ?_ ?_ ?_; kernel_rfl; kernel_rfl)
   | (refine ldT 47 (HP.out) ?_))
  all_goals (go_ret; exact ⟨by rw [HT.out]; rfl, HX.out.bb⟩)
 ·have h2 : ¬ (eb.bank = q.bank ∧ eb.addr = q.addr) := fun e => h (zb.ext' e.1 e.2)
  have HT := Lib.hid (show bq = false by rw [← HBQ.out]; exact decide_eq_false h)
  clear h
  go_wp2_with (first
   | (refine xY 47 _ rfl _ _ rfl _ _ _ (HX.out.b0) ([.int .i64 eb.bank, .int .u16 eb.addr]) ((by kernel_rfl)) ?_ ?_ ?_; kernel_rfl; kernel_rfl)
   | (refine ldT 47 (HP.out) ?_))
  all_goals (go_ret; exact ⟨by rw [HT.out]; rfl, HX.out.bb⟩)
theorem idxR_any {I : zp} {R : List RtR} {A : Option Addr} {cap : Nat} (g : Nat) (q : zb) (w : World) (hR : RnsD I R A cap w) (hp : w.heap[g]? = some (zI q)) :
  Calls Tryz.prog 62 #[.slice A R.length cap, .func (.func 63) #[] #[.pointer (some ⟨g, 0, none⟩)]] w fun e w' => e = .returned (.int .i64 (idxI (idxS (R.map (·.1)) q))) ∧ Below w.heap.size w w' := by
 have HR := Lib.hid hR
 have HP := Lib.hid hp
 have hln := hR.le
 have hle := hR.rd.le
 have HC := Lib.hid (fun W hq r A1 A2 A3 n1 n2 n3 k1 k2 k3 => res1_any g q W hq r A1 A2 A3 n1 n2 n3 k1 k2 k3)
 obtain ⟨ix, hix⟩ : ∃ ix, idxI (idxS (R.map (·.1)) q) = ix := ⟨_, rfl⟩
 rw [hix]
 have HIX := Lib.hid hix
 clear hR hp hix
 go_enter Tryz.func62, Tryz.ntmps62
 go_wp2_with fail
 go_loopw [8] (fun i wr => ∃ k : Nat, k ≤ R.length ∧ i = .int .i64 k ∧ Hid (∀ j x, j < k → R[j]? = some x → x.1.entry ≠ q) ∧ Hid (Below w.heap.size w wr)) (fun i _ => R.length - (intOf i).toNat)
 case atStart => exact ⟨0, Nat.zero_le _, rfl, Lib.hid (fun j x h => absurd h (Nat.not_lt_zero _)), Lib.hid (Below.refl _ _)⟩
 case round =>
  obtain ⟨k, hk, rfl, HN, HB⟩ := hrel
  by_cases hlt : k < R.length
  ·obtain ⟨x, hx⟩ : ∃ x, R[k]? = some x := ⟨_, List.getElem?_eq_getElem hlt⟩
   have hrt := (HR.out.below HB.out).rt x (List.mem_of_getElem? hx)
   obtain ⟨gr, ro, cur, T, fr, rfl, hg, hex⟩ := RdS.elt (f := rtvL) (fun _ => rfl) (HR.out.below HB.out).rd hx
   have HXX := Lib.hid hx
   obtain ⟨r, v1, v2, v3⟩ := x
   obtain ⟨⟨A1, k1, e1, -, -⟩, ⟨A2, k2, e2, -, -⟩, ⟨A3, k3, e3, -, -⟩⟩ := hrt
   dsimp only at e1 e2 e3
   subst e1 e2 e3
   have HG := Lib.hid hg
   have HEX := Lib.hid hex
   have HLT := Lib.hid hlt
   have HPR := Lib.hid (za HB.out HP.out)
   clear hg hex hx
   by_cases hq : r.entry = q
   ·have HF := Lib.hid (show ix = (k : Int) by
     rw [← HIX.out, (idx_some (rs := R.map (·.1)) (k := k) (r := r) (by rw [List.getElem?_map, HXX.out]; rfl) hq (fun j y hj hy => by
      rw [List.getElem?_map] at hy
      obtain ⟨z, hz, rfl⟩ := Option.map_eq_some_iff.1 hy
      exact HN.out j z hj hz)).1]
     rfl)
    have HDQ := Lib.hid (decide_eq_true hq)
    clear hq
    go_wp2_with (first
     | (refine lmT 50 ([.int .i64 r.entry.bank, .int .u16 r.entry.addr, .bool r.thunk, .int .i64 r.dest.bank, .int .u16 r.dest.addr, .slice A1 r.code.length k1, .slice A2 r.calls.length k2, .slice A3 r.iss.length k3]) (HG.out) (HEX.out) ?_)
     | (go_at_call 63; (with_reducible refine (HC.out _ HPR.out r A1 A2 A3 _ _ _ k1 k2 k3).mono ?_); rintro e3 w3 ⟨rfl, hb3⟩; rw [HDQ.out]; have HB3 := Lib.hid (HB.out.trans (hb3.mono HB.out.size)); clear hb3))
    go_ret
    exact ⟨by rw [HF.out]; rfl, HB3.out⟩
   ·have HDQ := Lib.hid (decide_eq_false hq)
    have HN2 := Lib.hid (show ∀ j x, j < k + 1 → R[j]? = some x → x.1.entry ≠ q from fun j y hj hy => by
     by_cases e : j = k
     ·rw [e, HXX.out] at hy
      injection hy with hy
      rw [← hy]
      exact hq
     ·exact HN.out j y (by omega) hy)
    clear hq
    go_wp2_with (first
     | (refine lmT 50 ([.int .i64 r.entry.bank, .int .u16 r.entry.addr, .bool r.thunk, .int .i64 r.dest.bank, .int .u16 r.dest.addr, .slice A1 r.code.length k1, .slice A2 r.calls.length k2, .slice A3 r.iss.length k3]) (HG.out) (HEX.out) ?_)
     | (go_at_call 63; (with_reducible refine (HC.out _ HPR.out r A1 A2 A3 _ _ _ k1 k2 k3).mono ?_); rintro e3 w3 ⟨rfl, hb3⟩; rw [HDQ.out]; have HB3 := Lib.hid (HB.out.trans (hb3.mono HB.out.size)); clear hb3))
    go_roundw
    case rel => exact ⟨k + 1, HLT.out, by go_num, HN2, HB3⟩
    case measure => have h1 := HLT.out; simp [intOf]; omega
  ·obtain rfl : k = R.length := by omega
   have HF := Lib.hid (show ix = -1 by
    rw [← HIX.out, (idx_none (rs := R.map (·.1)) (q := q) (fun y hy => by
     obtain ⟨z, hz, rfl⟩ := List.mem_map.1 hy
     obtain ⟨j, hj, he⟩ := List.getElem_of_mem hz
     exact HN.out j z hj (by rw [List.getElem?_eq_getElem hj, he]))).1]
    rfl)
   go_wp2_with fail
   go_ret
   exact ⟨by rw [HF.out]; rfl, HB.out⟩
end Go.Proofs.YteofmaiojepdkaaGreat
namespace Go.Proofs.YteofmaiojepdkaaGreat
open Go Go.RowKit Go.Maps Go.Sort
abbrev lsB (a b c : Value) : Obj := .cells #[a, b, c] 38
end Go.Proofs.YteofmaiojepdkaaGreat
namespace Go.Proofs.YteofmaiojepdkaaGreat
open Go Go.RowKit Go.Maps Go.Sort
theorem idx_cases (rs : List xp) (q : zb) : (idxS rs q = none ∧ findR rs q = none) ∨ ∃ j r, idxS rs q = some j ∧ rs[j]? = some r ∧ findR rs q = some r := by
 induction rs with
 | nil => exact .inl ⟨rfl, rfl⟩
 | cons a l ih =>
  by_cases h : a.entry = q
  ·refine .inr ⟨0, a, ?_, rfl, ?_⟩
   ·unfold idxS
    rw [List.findIdx?_cons, decide_eq_true h]
    rfl
   ·unfold findR
    rw [List.find?_cons, decide_eq_true h]
  ·have e1 : idxS (a :: l) q = (idxS l q).map (· + 1) := by
    unfold idxS
    rw [List.findIdx?_cons, decide_eq_false h]
    rfl
   have e2 : findR (a :: l) q = findR l q := by
    unfold findR
    rw [List.find?_cons, decide_eq_false h]
   rcases ih with ⟨h1, h2⟩ | ⟨j, r, h1, h2, h3⟩
   ·exact .inl ⟨by rw [e1, h1]; rfl, by rw [e2, h2]⟩
   ·exact .inr ⟨j + 1, r, by rw [e1, h1]; rfl, h2, by rw [e2, h3]⟩
def plcO (o : Option zb) : Value := match o with
 | some q => .agg #[.int .i64 q.bank, .int .u16 q.addr]
 | none => .agg #[.int .i64 0, .int .u16 0]
def ReP (o : Option zb) (w : World) (e : Ending) (w' : World) : Prop := e = .returned (.tuple #[plcO o, .bool o.isSome]) ∧ Below w.heap.size w w'
set_option maxRecDepth 100000 in
set_option maxHeartbeats 4000000 in
theorem resolve_any {I : zp} {nb : Nat} {c : Nat → Nat → Int} {rs : List xp} {iss : List yl} {a0 a1 a2 : Value} (p : zb) (w : World) (h : LstD I nb c rs iss a0 a1 a2 w) (hl : rs.length ≤ 1000000) :
  Calls Tryz.prog 33 #[.agg #[a0, a1, a2], .agg #[.int .i64 p.bank, .int .u16 p.addr]] w (ReP (resS rs (rs.length + 1) p) w) := by
 obtain ⟨A0, k0, rfl, -⟩ := h.cls
 obtain ⟨R, A, cap, rfl, hR, hRs⟩ := h.rts
 obtain ⟨A2, k2, rfl, -⟩ := h.iss
 have hn : R.length = rs.length := by rw [← hRs, List.length_map]
 have hle := hR.le
 have hcp := hR.rd.le
 have HR := Lib.hid hR
 have HRS := Lib.hid hRs
 obtain ⟨o, ho⟩ : ∃ o, resS rs (rs.length + 1) p = o := ⟨_, rfl⟩
 rw [ho]
 have HO := Lib.hid (show resS rs (R.length + 1) p = o by rw [hn]; exact ho)
 have HX := Lib.hid (Bx.three w (lsB (.slice A0 nb k0) (.slice A R.length cap) (.slice A2 iss.length k2)) (zI p) (zI ⟨0, 0⟩))
 have hmx : R.length ≤ 1000000 := by omega
 clear h hR hRs ho hn hl hle
 go_enter Tryz.func33, Tryz.ntmps33
 go_upto_region 1 with fail
 obtain ⟨w3, hw3⟩ : ∃ W, ((w.alloc (lsB (.slice A0 nb k0) (.slice A R.length cap) (.slice A2 iss.length k2))).alloc (zI p)).alloc (zI ⟨0, 0⟩) = W := ⟨_, rfl⟩
 rw [hw3] at HX ⊢
 clear hw3
 have hcl := fun o => cell_of_row w3 w.heap.size o _ _ _ HX.out.b0
 go_upto_region 2 with fail
 clear hcl
 go_loopw [11] (fun i wr => ∃ (k : Nat) (q : zb), k ≤ R.length + 1 ∧ i = .int .i64 k ∧ Hid (resS rs (R.length + 1 - k) q = o) ∧ Hid (wr.heap[w.heap.size + 1]? = some (zI q)) ∧ Hid (zm (fun j => j = w.heap.size + 1) w3 wr)) (fun i _ => R.length + 1 - (intOf i).toNat)
 case atStart => exact ⟨0, p, Nat.zero_le _, rfl, HO, Lib.hid HX.out.b1, Lib.hid (zm.refl _ _)⟩
 case round =>
  obtain ⟨k, q, hk, rfl, HQ, HP, HT⟩ := hrel
  have HBW := Lib.hid (show Below w.heap.size w wr from HX.out.bb.trans (HT.out.toBelow HX.out.bb.size (fun j e => by have e2 : j = w.heap.size + 1 := e; omega)))
  have HLB := Lib.hid (HT.out.heap HX.out.b0 (fun e => by omega))
  have HZB := Lib.hid (HT.out.heap HX.out.b2 (fun e => by omega))
  by_cases hlt : k < R.length + 1
  ·have HLT := Lib.hid hlt
   have HID := Lib.hid (idxR_any (w.heap.size + 1) q wr (HR.out.below HBW.out) HP.out)
   have hcl := fun o => cell_of_row wr w.heap.size o _ _ _ HLB.out
   have hlti : (k : Int) < (R.length : Int) + 1 := by omega
   have HIC := Lib.hid (idx_cases rs q)
   go_upto_region 4 with (go_at_call 62; (with_reducible refine HID.out.mono ?_); rintro e4 w4 ⟨rfl, hb4⟩; have HB4 := Lib.hid hb4; clear hb4)
   clear hcl
   have HB4w := Lib.hid (HBW.out.trans (HB4.out.mono HBW.out.size))
   rw [HRS.out]
   rcases HIC.out with ⟨hi, hf⟩ | ⟨j, r, hi, hj, hf⟩
   ·have HF := Lib.hid (show o = none by
     rw [← HQ.out, show R.length + 1 - k = (R.length - k) + 1 by omega]
     show (match findR rs q with | none => none | some r => if r.thunk then resS rs (R.length - k) r.dest else some q) = none
     rw [hf])
    rw [hi]
    have HZ4 := Lib.hid (za HB4.out HZB.out)
    simp only [idxI]
    clear hi hf hlti
    go_wp2_with (first | (refine stR (HZ4.out) ?_))
    refine bodyPost_ret (zg (cs := #[.int .i64 0, .int .u16 0]) (fr := (0, 0)) Tryz.results33 _ _ (w.heap.size + 1 + 1) 47 _ ?_ (setRow_heap _ _ _ _ _ _ HZ4.out) Tryz.underlying47 rfl (by kernel_rfl)) rfl ⟨by rw [HF.out]; rfl, below_setRow HB4w.out (by omega) _⟩
    rfl
   ·obtain ⟨x, hx, hxr⟩ : ∃ x, R[j]? = some x ∧ x.1 = r := by
     rw [← HRS.out, List.getElem?_map] at hj
     exact Option.map_eq_some_iff.1 hj
    have hjl := (List.getElem?_eq_some_iff.1 hx).1
    obtain ⟨gr, ro, cur, T, fr, rfl, hg, hexd, -, hcc⟩ := RdS.eltPart (f := rtvL) (fun _ => rfl) (HR.out.below HB4w.out).rd hx (a := 3) (m := 2) (by omega) (L := x7 x.1.dest) rfl
    obtain ⟨gr', ro', cur', T', fr', hA, hg', -, -, hct⟩ := RdS.eltPart (f := rtvL) (fun _ => rfl) (HR.out.below HB4w.out).rd hx (a := 2) (m := 1) (by omega) (L := [.bool x.1.thunk]) rfl
    injection hA with hA
    injection hA with hA1 hA2
    subst hA1 hA2
    have hth : w4.cell? ⟨gr, ro + j * 8 + 2, none⟩ = some (.bool x.1.thunk) := hct 0 (by omega)
    rw [hxr] at hexd hth
    have HG := Lib.hid hg
    have HEX := Lib.hid hexd
    have HP4 := Lib.hid (za HB4.out HP.out)
    have HZ4 := Lib.hid (za HB4.out HZB.out)
    have hl4 := za HB4.out HLB.out
    have hcl := fun o => cell_of_row w4 w.heap.size o _ _ _ hl4
    have HS := Lib.hid (show resS rs (R.length + 1 - k) q = if r.thunk then resS rs (R.length - k) r.dest else some q by
     rw [show R.length + 1 - k = (R.length - k) + 1 by omega]
     show (match findR rs q with | none => none | some r => if r.thunk then resS rs (R.length - k) r.dest else some q) = _
     rw [hf])
    rw [hi]
    simp only [idxI]
    clear hi hf hlti hj hx hxr hg hexd hcc hg' hct hl4
    cases ht : r.thunk with
    | false =>
     rw [ht] at hth
     have HF := Lib.hid (show o = some q by rw [← HQ.out, HS.out, ht]; rfl)
     clear ht
     go_wp2_with (first
      | (refine ldT 47 (HP4.out) ?_)
      | (refine stR (HZ4.out) ?_))
     refine bodyPost_ret (zg (cs := #[.int .i64 q.bank, .int .u16 q.addr]) (fr := (0, 0)) Tryz.results33 _ _ (w.heap.size + 1 + 1) 47 _ ?_ (setRow_heap _ _ _ _ _ _ HZ4.out) Tryz.underlying47 rfl (by kernel_rfl)) rfl ⟨by rw [HF.out]; rfl, below_setRow HB4w.out (by omega) _⟩
     rfl
    | true =>
     rw [ht] at hth
     have HF := Lib.hid (show resS rs (R.length + 1 - (k + 1)) r.dest = o by rw [← HQ.out, HS.out, ht, show R.length + 1 - (k + 1) = R.length - k by omega]; rfl)
     clear ht
     go_wp2_with (first
      | (refine lmT 47 ([.int .i64 r.dest.bank, .int .u16 r.dest.addr]) (HG.out) (HEX.out) ?_)
      | (refine stR (HP4.out) ?_))
     go_roundw
     case rel => exact ⟨k + 1, r.dest, HLT.out, by go_num, HF, Lib.hid (setRow_heap _ _ _ _ _ _ HP4.out), Lib.hid ((HT.out.trans (zm.ofBelow (bs := fun _ => False) HB4.out) (fun _ _ e => e.elim)).trans ((zm.refl (fun j => j = w.heap.size + 1) w4).setRow _ (fun _ => rfl)) (fun _ _ e => e))⟩
     case measure => have h1 := HLT.out; simp [intOf]; omega
  ·obtain rfl : k = R.length + 1 := by omega
   have HF := Lib.hid (show o = none by rw [← HQ.out, Nat.sub_self]; rfl)
   go_wp2_with (first | (refine stR (HZB.out) ?_))
   refine bodyPost_ret (zg (cs := #[.int .i64 0, .int .u16 0]) (fr := (0, 0)) Tryz.results33 _ _ (w.heap.size + 1 + 1) 47 _ ?_ (setRow_heap _ _ _ _ _ _ HZB.out) Tryz.underlying47 rfl (by kernel_rfl)) rfl ⟨by rw [HF.out]; rfl, below_setRow HBW.out (by omega) _⟩
   rfl
end Go.Proofs.YteofmaiojepdkaaGreat
