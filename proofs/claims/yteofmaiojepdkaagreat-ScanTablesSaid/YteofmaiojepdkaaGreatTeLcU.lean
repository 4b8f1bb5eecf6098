/- The law ScanMany, walked. Condition: the number lies in its type's range. -/
import Derived.Test.YteofmaiojepdkaaGreatTeScB
import Derived.ChangeSlices
set_option linter.all false
namespace Go.Proofs.YteofmaiojepdkaaGreat
open Go Go.ChangeShapes Go.WideShapes Go.ChangeAt Go.RowKit
section
variable {H : Type} {enc : TypeId × Value → H} {P : Program} {w : World} {base : Nat} {spare : Nat → Bool} {held : Bool}
theorem open_u8s {t e : TypeId} {r : Reach} {b0 : Nat} {v : Value} {d : DataW H} {ps : List MemPlace} (ht : P.underlying t = some (.slice e)) (he : P.underlying e = some (.int .u8)) (hc : P.cellsOf e = 1)
  (hval : Value.okWide P w r b0 t v) (hd : DataW.Trod enc P w base spare held t v d ps) :
  ∃ (p : Option Addr) (len cap : Nat) (V : Nat → Int), v = .slice p len cap ∧ len ≤ 9223372036854775807 ∧ (∀ i, 0 ≤ V i ∧ V i < 256) ∧ RdS w 1 p len cap ((List.range len).map fun i => .int .u8 (V i)) := by
 obtain ⟨a1, len, cap, rfl⟩ := okWide_slice ht hval
 obtain ⟨fuel, hf⟩ := hd
 rcases open_ints ht he hc hf with ⟨hcs, -⟩ | ⟨a, len', cap', zs, hcs, -, hl, hm, hz, -, hcell, hwz⟩
 ·simp [Value.cells] at hcs
  obtain ⟨rfl, rfl, rfl⟩ := hcs
  exact ⟨none, 0, 0, fun _ => 0, rfl, by omega, fun _ => (show (0 : Int) ≤ 0 ∧ (0 : Int) < 256 by decide), zn _, rfl, fun h => absurd h (Nat.lt_irrefl 0)⟩
 ·simp [Value.cells] at hcs
  obtain ⟨rfl, rfl, rfl⟩ := hcs
  have hzl : len ≤ zs.length := by rw [hz]; split <;> omega
  have hb : ∀ i, 0 ≤ zs.getD i 0 ∧ zs.getD i 0 < 256 := fun i => by
   rw [List.getD_eq_getElem?_getD]
   cases h : zs[i]? with
   | none => simp
   | some n =>
    have h2 := hwz n (List.mem_of_getElem? h)
    simp only [Lit.wf, Bool.and_eq_true, decide_eq_true_eq] at h2
    exact has_u8 ⟨h2.1, h2.2⟩
  refine ⟨some a, len, cap, fun i => zs.getD i 0, rfl, by unfold maxLen at hm; omega, hb, hl, by simp, fun h0 => ?_⟩
  obtain ⟨ab, ao, spot⟩ := a
  have hspot : spot = none := by simpa [Addr.add] using World.cell?_spot (hcell 0 (by omega))
  subst hspot
  obtain ⟨c, T, fr, hg, hc0⟩ := cell_block (by have := hcell 0 (by omega); rwa [Addr.add_lit] at this)
  refine ⟨ab, ao, c, T, fr, rfl, hg, fun j hj => ?_⟩
  rw [List.length_map, List.length_range] at hj
  have hcj := hcell j (by omega)
  rw [Addr.add_lit, cell_of_row _ _ _ _ _ _ hg] at hcj
  rw [hcj, List.getElem?_map, List.getElem?_range hj]
  rfl
end
end Go.Proofs.YteofmaiojepdkaaGreat
namespace Go.Proofs.YteofmaiojepdkaaGreat
open Go
def insR : Ins := ⟨2, 0, 0, 0, 0, 0, 1⟩
end Go.Proofs.YteofmaiojepdkaaGreat
namespace Go.Proofs.YteofmaiojepdkaaGreat
open Go
def jtI (n : Nat) : Ins := ⟨133, 1, 0, 0, 2000, n, 7⟩
def jtC (n : Nat) : ByteArray := xu (encB (jtI n)) ++ ⟨#[2]⟩
def jtF (n : Nat) (A : Nat → Nat) (o : Nat) : Int :=
 if 2000 ≤ o ∧ o < 2080 then (if (o - 2000) % 2 = 0 then ((A ((o - 2000) / 2) % 256 : Nat) : Int) else ((A ((o - 2000) / 2) / 256 : Nat) : Int))
 else if 1000 ≤ o ∧ o < 1100 then 2
 else xj 0 (jtC n) o
def jtM (n : Nat) (A : Nat → Nat) : zp := ⟨[yW (jtF n A)], 0, 0, []⟩
section
variable {n : Nat} {A : Nat → Nat} (hn : 1 ≤ n) (hn' : n ≤ 40) (hA : ∀ k, 1000 ≤ A k ∧ A k < 1100)
include hA
theorem jtF_bd (o : Nat) : 0 ≤ jtF n A o ∧ jtF n A o < 256 := by
 unfold jtF
 have h := hA ((o - 2000) / 2)
 split
 ·split <;> omega
 ·split
  ·omega
  ·exact pageF_bd _ _ _
theorem jtM_ok : (jtM n A).Ok := by
 refine ⟨zn 1, show 1 ≤ 64 by decide, fun t ht => ?_, show (0 : Int) ≤ 0 ∧ (0 : Int) < 65536 by decide, show (0 : Int) ≤ 0 ∧ (0 : Int) < 65536 by decide, fun o ho => ?_, Nat.zero_le _⟩
 ·rw [List.mem_singleton.1 ht]; exact filB_size _
 ·cases ho
theorem jtM_at (o : Nat) (ho : o < 4096) : atI (jtM n A) ⟨0, o⟩ = atF (jtF n A) o := by
 have h : zx ⟨0, o⟩ = o := by unfold zx; dsimp only; omega
 rw [at_fil (f := jtF n A) rfl (by unfold inI z6 jtM; simp; omega) (jtF_bd hA), h]
theorem jtM_code (o : Nat) (ho : o < 4096) : zz (jtM n A) ⟨0, o⟩ 1 = winB (jtF n A) o 1 := by
 have h : zx ⟨0, o⟩ = o := by unfold zx; dsimp only; omega
 unfold zz
 rw [if_pos ⟨by unfold inI z6 jtM; simp; omega, by omega⟩, h]
 exact fil_extract _ o 1 (by omega)
end
theorem atF_congr {f g : Nat → Int} {o : Nat} (h : ∀ j, j < 8 → f (o + j) = g (o + j)) (hs : (zr (g o)).toNat ≤ 8) : atF f o = atF g o := by
 have h0 : f o = g o := h 0 (by omega)
 have hw : winB f o (zr (g o)).toNat = winB g o (zr (g o)).toNat := by
  unfold winB
  congr 1
  exact List.map_congr_left fun j hj => h j (by have := List.mem_range.1 hj; omega)
 unfold atF
 rw [h0, hw]
theorem jt_tgt : ∀ m : _root_.Fin 40, optT (yd (jtI (m.val + 1)) ⟨0, 0⟩) = some ⟨0, 7⟩ := by decide +kernel
theorem jt_front : ∀ m : _root_.Fin 40, atF (xj 0 (jtC (m.val + 1))) 0 = (jtI (m.val + 1), 0) ∧ atF (xj 0 (jtC (m.val + 1))) 7 = (insR, 0) ∧ (zr (xj 0 (jtC (m.val + 1)) 0)).toNat ≤ 8 ∧ (zr (xj 0 (jtC (m.val + 1)) 7)).toNat ≤ 8 := by decide +kernel
section
variable {n : Nat} {A : Nat → Nat} (hn : 1 ≤ n) (hn' : n ≤ 40) (hA : ∀ k, 1000 ≤ A k ∧ A k < 1100)
include hn hn' hA
theorem jt_at0 : atI (jtM n A) ⟨0, 0⟩ = (jtI n, 0) ∧ atI (jtM n A) ⟨0, 7⟩ = (insR, 0) := by
 have h := jt_front ⟨n - 1, by omega⟩
 have e : n - 1 + 1 = n := by omega
 dsimp only at h
 rw [e] at h
 have hf : ∀ o, o < 1000 → jtF n A o = xj 0 (jtC n) o := fun o ho => by
  unfold jtF
  rw [if_neg (by omega), if_neg (by omega)]
 refine ⟨?_, ?_⟩
 ·rw [show (⟨0, 0⟩ : zb) = ⟨0, ((0 : Nat) : Int)⟩ from rfl, jtM_at hA 0 (by omega), atF_congr (g := xj 0 (jtC n)) (fun j hj => hf _ (by omega)) h.2.2.1]
  exact h.1
 ·rw [show (⟨0, 7⟩ : zb) = ⟨0, ((7 : Nat) : Int)⟩ from rfl, jtM_at hA 7 (by omega), atF_congr (g := xj 0 (jtC n)) (fun j hj => hf _ (by omega)) h.2.2.2]
  exact h.2.1
omit hn hn' in
theorem jt_atA {a : Nat} (h1 : 1000 ≤ a) (h2 : a < 1100) : atI (jtM n A) ⟨0, a⟩ = (insR, 0) := by
 have hf : jtF n A a = 2 := by unfold jtF; rw [if_neg (by omega), if_pos ⟨h1, h2⟩]
 rw [jtM_at hA a (by omega)]
 unfold atF
 have hs : zr 2 = 1 := by decide +kernel
 rw [hf, hs, if_neg (by omega), if_neg (by omega)]
 have hw : winB (jtF n A) a (1 : Int).toNat = ⟨#[2]⟩ := by
  unfold winB
  show strOfNums [jtF n A (a + 0)] = _
  rw [Nat.add_zero, hf]
  rfl
 rw [hw, if_pos (by decide +kernel)]
 exact congrArg (fun x => (x, (0 : Int))) (show yQ ⟨#[2]⟩ = insR by decide +kernel)
def jtT (A : Nat → Nat) (k : Nat) : List zb := (List.range k).map fun j => ⟨0, ((A j : Nat) : Int)⟩
def jtB (k : Nat) : List zb := (List.range (2 * k)).map fun j => ⟨0, ((2000 + j : Nat) : Int)⟩
omit hn hn' in
theorem jt_ent (k : Nat) (hk : k < 40) (f : zX) : entF (jtM n A) ⟨0, 0⟩ f ((2000 + 2 * k) % 65536) = { f with nx := f.nx ++ [⟨0, ((A k : Nat) : Int)⟩], tb := f.tb ++ [⟨0, ((2000 + 2 * k : Nat) : Int)⟩, ⟨0, ((2000 + 2 * k + 1 : Nat) : Int)⟩] } := by
 have hb := hA k
 have e1 : ((2000 : Int) + 2 * (k : Int)) % 65536 = ((2000 + 2 * k : Nat) : Int) := by omega
 have e2 : (((2000 + 2 * k : Nat) : Int) + 1) % 65536 = ((2000 + 2 * k + 1 : Nat) : Int) := by omega
 have w : ∀ a : Int, a < 4096 → xg a ⟨0, 0⟩ = some ⟨0, a⟩ := fun a ha => by
  unfold xg winS
  rw [decide_eq_false (show ¬ 4096 ≤ a by omega), Bool.false_and]
  rfl
 unfold entF
 rw [e1, e2, w _ (by omega), w _ (by omega)]
 dsimp only
 rw [jtM_code hA _ (by omega), jtM_code hA _ (by omega), winB_size, winB_size, if_neg (by omega)]
 have b1 : byt (winB (jtF n A) (2000 + 2 * k) 1) 0 = ((A k % 256 : Nat) : Int) := by
  rw [win_byt _ _ _ _ (by omega) (jtF_bd hA _)]
  unfold jtF
  rw [if_pos (by omega), if_pos (by omega), show (2000 + 2 * k + 0 - 2000) / 2 = k by omega]
 have b2 : byt (winB (jtF n A) (2000 + 2 * k + 1) 1) 0 = ((A k / 256 : Nat) : Int) := by
  rw [win_byt _ _ _ _ (by omega) (jtF_bd hA _)]
  unfold jtF
  rw [if_pos (by omega), if_neg (by omega), show (2000 + 2 * k + 1 + 0 - 2000) / 2 = k by omega]
 rw [b1, b2, show ((A k % 256 : Nat) : Int) + 256 * ((A k / 256 : Nat) : Int) = ((A k : Nat) : Int) by omega, w _ (by omega)]
 rfl
omit hn hn' in
theorem jt_tab (f : zX) : ∀ k, k ≤ 40 → tabF (jtM n A) (jtI n) ⟨0, 0⟩ f k = { f with nx := f.nx ++ jtT A k, tb := f.tb ++ jtB k }
 | 0, _ => by
  show f = _
  simp [jtT, jtB]
 | k + 1, h => by
  have ih := jt_tab f k (by omega)
  show entF (jtM n A) ⟨0, 0⟩ (tabF (jtM n A) (jtI n) ⟨0, 0⟩ f k) (((2000 : Int) + 2 * (k : Int)) % 65536) = _
  rw [ih, jt_ent hA k (by omega)]
  have e1 : jtT A (k + 1) = jtT A k ++ [⟨0, ((A k : Nat) : Int)⟩] := by unfold jtT; rw [List.range_succ, List.map_append]; rfl
  have e2 : jtB (k + 1) = jtB k ++ [⟨0, ((2000 + 2 * k : Nat) : Int)⟩, ⟨0, ((2000 + 2 * k + 1 : Nat) : Int)⟩] := by
   unfold jtB
   rw [show 2 * (k + 1) = 2 * k + 1 + 1 by omega, List.range_succ, List.range_succ, List.map_append, List.map_append, List.append_assoc]
   rfl
  rw [e1, e2]
  simp only [List.append_assoc]
omit hA in
theorem jt_base : toF (yc (jtI n) ⟨0, 0⟩) (optT (yd (jtI n) ⟨0, 0⟩)) = ⟨[⟨0, 7⟩], [], [], false, false, false⟩ := by
 have h := jt_tgt ⟨n - 1, by omega⟩
 dsimp only at h
 rw [show n - 1 + 1 = n by omega] at h
 rw [h]
 show toF (yc (jtI n) ⟨0, 0⟩) (some ⟨0, 7⟩) = _
 kernel_rfl
theorem jt_fl0 : fl (jtM n A) ⟨0, 0⟩ = ⟨[⟨0, 7⟩] ++ jtT A n, [], jtB n, false, false, false⟩ := by
 unfold fl
 rw [(jt_at0 hn hn' hA).1]
 show xM (jtM n A) (jtI n) ⟨0, 0⟩ = _
 unfold xM
 rw [if_neg (show ¬ ((jtI n).op = 130 ∨ (jtI n).op = 132) from (by decide : ¬ ((133 : Int) = 130 ∨ (133 : Int) = 132))), if_neg (show ¬ ((96 ≤ (jtI n).op ∧ (jtI n).op ≤ 129) ∨ (jtI n).op = 131) from (by decide : ¬ (((96 : Int) ≤ 133 ∧ (133 : Int) ≤ 129) ∨ (133 : Int) = 131))), if_pos (by rfl), jt_base hn hn', jt_tab hA _ _ (by show ((n : Nat) : Int).toNat ≤ 40; omega)]
 rfl
theorem jt_fl7 : fl (jtM n A) ⟨0, 7⟩ = ⟨[], [], [], false, false, false⟩ := by
 unfold fl
 rw [(jt_at0 hn hn' hA).2]
 kernel_rfl
omit hn hn' in
theorem jt_flA {a : Nat} (h1 : 1000 ≤ a) (h2 : a < 1100) : fl (jtM n A) ⟨0, a⟩ = ⟨[], [], [], false, false, false⟩ := by
 unfold fl
 rw [jt_atA hA h1 h2]
 kernel_rfl
def jtP (n : Nat) (A : Nat → Nat) (p : zb) : Prop := p = ⟨0, 0⟩ ∨ p = ⟨0, 7⟩ ∨ ∃ k, k < n ∧ p = ⟨0, ((A k : Nat) : Int)⟩
theorem jt_ok {p : zb} (h : jtP n A p) : okI (jtM n A) p := by
 rcases h with rfl | rfl | ⟨k, hk, rfl⟩
 ·exact okOf (jt_at0 hn hn' hA).1
 ·exact okOf (jt_at0 hn hn' hA).2
 ·exact okOf (jt_atA hA (hA k).1 (hA k).2)
theorem jt_flow {p : zb} (h : jtP n A p) : (fl (jtM n A) p).cl = [] ∧ (fl (jtM n A) p).iss = [] ∧ (∀ q ∈ (fl (jtM n A) p).nx, jtP n A q) ∧ ((fl (jtM n A) p).tb = if p = ⟨0, 0⟩ then jtB n else []) := by
 rcases h with rfl | rfl | ⟨k, hk, rfl⟩
 ·rw [jt_fl0 hn hn' hA]
  refine ⟨rfl, rfl, fun q hq => ?_, by rw [if_pos rfl]⟩
  have h1 : q ∈ [⟨0, 7⟩] ++ jtT A n := hq
  rw [List.mem_append] at h1
  rcases h1 with h1 | h1
  ·exact .inr (.inl (List.mem_singleton.1 h1))
  ·obtain ⟨j, hj, rfl⟩ := List.mem_map.1 h1
   exact .inr (.inr ⟨j, List.mem_range.1 hj, rfl⟩)
 ·rw [jt_fl7 hn hn' hA]
  exact ⟨rfl, rfl, fun q hq => (by cases hq), by rw [if_neg (by decide)]⟩
 ·have hb := hA k
  rw [jt_flA hA hb.1 hb.2]
  refine ⟨rfl, rfl, fun q hq => (by cases hq), ?_⟩
  rw [if_neg]
  intro e
  have h1 : ((A k : Nat) : Int) = 0 := congrArg zb.addr e
  omega
theorem jt_rch (p : zb) : Rch (jtM n A) ⟨0, 0⟩ p ↔ jtP n A p := by
 constructor
 ·intro h
  induction h with
  | start => exact .inl rfl
  | step h1 h2 h3 ih => exact (jt_flow hn hn' hA ih).2.2.1 _ h3
 ·have h0 : ∀ q ∈ (fl (jtM n A) ⟨0, 0⟩).nx, Rch (jtM n A) ⟨0, 0⟩ q := fun q hq => .step .start (okOf (jt_at0 hn hn' hA).1) hq
  rw [jt_fl0 hn hn' hA] at h0
  rintro (rfl | rfl | ⟨k, hk, rfl⟩)
  ·exact .start
  ·exact h0 _ (by simp)
  ·exact h0 _ (List.mem_append.2 (.inr (List.mem_map.2 ⟨k, List.mem_range.2 hk, rfl⟩)))
theorem jt_nt : ¬ yK (jtM n A) ⟨0, 0⟩ := notThunk (jt_at0 hn hn' hA).1 (show (133 : Int) ≠ 131 by decide)
theorem jt_rtn {C : List zb} (hC : C.Pairwise zO) (hm : ∀ p, p ∈ C ↔ jtP n A p) : yt (jtM n A) ⟨0, 0⟩ ⟨⟨0, 0⟩, false, ⟨0, 0⟩, C, [], []⟩ := by
 have ht := jt_nt hn hn' hA
 refine ⟨rfl, by rw [decide_eq_false ht], fun h => absurd h ht, fun _ => rfl, hC, .nil, .nil, fun _ p => ?_, fun _ q => ⟨fun h => (by cases h), fun ⟨p, h1, _, h2⟩ => ?_⟩, fun _ x => ⟨fun h => (by cases h), fun ⟨h1, h2⟩ => ?_⟩⟩
 ·rw [hm, jt_rch hn hn' hA]
  exact ⟨fun h => ⟨h, jt_ok hn hn' hA h⟩, fun h => h.1⟩
 ·rw [(jt_flow hn hn' hA ((jt_rch hn hn' hA p).1 h1)).1] at h2
  cases h2
 ·have h3 := (jt_rch hn hn' hA _).1 h1
  rcases h2 with ⟨h2, -⟩ | ⟨-, h2⟩
  ·exact absurd (jt_ok hn hn' hA h3) h2
  ·rw [(jt_flow hn hn' hA h3).2.1] at h2
   cases h2
theorem jt_len {C : List zb} (hC : C.Pairwise zO) (hm : ∀ p, p ∈ C ↔ jtP n A p) : C.length ≤ 42 := by
 have h := ym (m := [⟨0, 0⟩, ⟨0, 7⟩] ++ jtT A n) (xy zO.irr hC) fun p hp => by
  rcases (hm p).1 hp with rfl | rfl | ⟨k, hk, rfl⟩
  ·simp
  ·simp
  ·exact List.mem_append.2 (.inr (List.mem_map.2 ⟨k, List.mem_range.2 hk, rfl⟩))
 rw [List.length_append] at h
 unfold jtT at h
 rw [List.length_map, List.length_range] at h
 have : ([⟨0, 0⟩, ⟨0, 7⟩] : List zb).length = 2 := rfl
 omega
theorem jt_lst {C : List zb} (hC : C.Pairwise zO) (hm : ∀ p, p ∈ C ↔ jtP n A p) {L : LstS} (h : IsLst (jtM n A) [] L) : L = fullL (jtM n A) [⟨⟨0, 0⟩, false, ⟨0, 0⟩, C, [], []⟩] C := by
 have hr := jt_rtn hn hn' hA hC hm
 have hrs : yR (jtM n A) [] (some [⟨⟨0, 0⟩, false, ⟨0, 0⟩, C, [], []⟩]) := yR.given (by simp) (by simp) (fun r h => by rw [List.mem_singleton.1 h]; exact hr) (by simp [jtM]) (fun h => absurd rfl h) (by simp) (fun r h => by rw [List.mem_singleton.1 h]; simp) (fun r h => by rw [List.mem_singleton.1 h]; simp) (fun p hp => by
  simp only [List.map_cons, List.map_nil, List.mem_singleton] at hp
  rw [hp]
  exact .first)
 have hl := jt_len hn hn' hA hC hm
 exact h.uniq (.inr ⟨_, C, hrs, ⟨hC, fun p => by simp⟩, .inr ⟨by omega, rfl⟩⟩)
theorem jt_cls {C : List zb} (hm : ∀ p, p ∈ C ↔ jtP n A p) {j : Nat} (hj : j < 80) : clOf (jtM n A) C 0 (2000 + j) = if j < 2 * n then 4 else 0 := by
 have hc : yM (jtM n A) C 0 (2000 + j) = 0 := by
  unfold yM
  rw [List.countP_eq_zero]
  intro p hp hcv
  unfold covP at hcv
  simp only [Bool.and_eq_true, decide_eq_true_eq] at hcv
  rcases (hm p).1 hp with rfl | rfl | ⟨k, hk, rfl⟩
  ·have hz : szI (jtM n A) ⟨0, 0⟩ = 7 := by unfold szI; rw [(jt_at0 hn hn' hA).1]; rfl
   rw [hz] at hcv
   have h1 : zx ⟨0, 0⟩ = 0 := rfl
   omega
  ·have hz : szI (jtM n A) ⟨0, 7⟩ = 1 := by unfold szI; rw [(jt_at0 hn hn' hA).2]; rfl
   rw [hz] at hcv
   have h1 : zx ⟨0, 7⟩ = 7 := rfl
   omega
  ·have hb := hA k
   have hz : szI (jtM n A) ⟨0, ((A k : Nat) : Int)⟩ = 1 := by unfold szI; rw [jt_atA hA hb.1 hb.2]; rfl
   rw [hz] at hcv
   have h1 : zx ⟨0, ((A k : Nat) : Int)⟩ = A k := by unfold zx; dsimp only; omega
   omega
 have ht : inTab (jtM n A) C 0 (2000 + j) = decide (j < 2 * n) := by
  unfold inTab
  rw [Bool.eq_iff_iff, List.any_eq_true, decide_eq_true_eq]
  constructor
  ·rintro ⟨p, hp, h⟩
   obtain ⟨q, hq, h⟩ := List.any_eq_true.1 h
   simp only [Bool.and_eq_true, decide_eq_true_eq] at h
   rw [(jt_flow hn hn' hA ((hm p).1 hp)).2.2.2] at hq
   split at hq
   ·obtain ⟨i, hi, rfl⟩ := List.mem_map.1 hq
    have h1 := List.mem_range.1 hi
    have h2 : zx ⟨0, ((2000 + i : Nat) : Int)⟩ = 2000 + i := by unfold zx; dsimp only; omega
    omega
   ·cases hq
  ·intro h
   refine ⟨⟨0, 0⟩, (hm _).2 (.inl rfl), List.any_eq_true.2 ⟨⟨0, ((2000 + j : Nat) : Int)⟩, ?_, ?_⟩⟩
   ·rw [(jt_flow hn hn' hA (.inl rfl)).2.2.2, if_pos rfl]
    exact List.mem_map.2 ⟨j, List.mem_range.2 h, rfl⟩
   ·have h2 : zx ⟨0, ((2000 + j : Nat) : Int)⟩ = 2000 + j := by unfold zx; dsimp only; omega
    rw [h2, decide_eq_true rfl]
    rfl
 unfold clOf
 rw [if_pos hc, ht]
 by_cases h : j < 2 * n
 ·rw [if_pos h, decide_eq_true h, if_pos rfl]
 ·rw [if_neg h, decide_eq_false h, if_neg (by decide)]
  rfl
end
theorem strN_append (l m : List Int) : strOfNums l ++ strOfNums m = strOfNums (l ++ m) := by
 apply ByteArray.ext
 apply Array.toList_inj.1
 rw [ByteArray.data_append, Array.toList_append, strOfNums_data, strOfNums_data, strOfNums_data, List.map_append]
theorem map_split {α : Type} (g : Nat → α) (a b : Nat) : (List.range (a + b)).map g = (List.range a).map g ++ (List.range b).map fun j => g (a + j) := by
 rw [List.range_add, List.map_append, List.map_map]
 rfl
def tabS (A : Nat → Nat) (k : Nat) : ByteArray := strOfNums ((List.range (2 * k)).map fun j => if j % 2 = 0 then ((A (j / 2) % 256 : Nat) : Int) else ((A (j / 2) / 256 : Nat) : Int))
theorem tabS_size (A : Nat → Nat) (k : Nat) : (tabS A k).size = 2 * k := by unfold tabS; rw [strOfNums_size]; simp
theorem tabS_snoc (A : Nat → Nat) (k : Nat) : tabS A k ++ strOfNums [((A k % 256 : Nat) : Int), ((A k / 256 : Nat) : Int)] = tabS A (k + 1) := by
 unfold tabS
 rw [strN_append, show 2 * (k + 1) = 2 * k + 1 + 1 by omega, List.range_succ, List.range_succ, List.map_append, List.map_append, List.append_assoc]
 congr 2
 simp only [List.map_cons, List.map_nil, List.cons_append, List.nil_append]
 rw [if_pos (by omega), if_neg (by omega), show 2 * k / 2 = k by omega, show (2 * k + 1) / 2 = k by omega]
theorem fil_ext (f : Nat → Int) (a n b : Nat) (hb : a + n = b) (h : b ≤ 4096) : (yW f).extract a b = winB f a n := by
 subst hb
 exact fil_extract f a n h
theorem map_five {α : Type} (g : Nat → α) (a b c d e N : Nat) (h : a + b + c + d + e = N) : (List.range N).map g = (List.range a).map g ++ (List.range b).map (fun j => g (a + j)) ++ (List.range c).map (fun j => g (a + b + j)) ++ (List.range d).map (fun j => g (a + b + c + j)) ++ (List.range e).map (fun j => g (a + b + c + d + j)) := by
 subst h
 rw [map_split, map_split, map_split, map_split]
theorem jt_cat (n : Nat) (A : Nat → Nat) (f : Nat → Int) (hf : f = xj 0 (jtC n)) : (yW f).extract 0 1000 ++ strOfNums (List.replicate 100 2) ++ (yW f).extract 1100 2000 ++ tabS A 40 ++ (yW f).extract 2080 4096 = yW (jtF n A) := by
 subst hf
 rw [fil_ext _ 0 1000 _ (by omega) (by omega), fil_ext _ 1100 900 _ (by omega) (by omega), fil_ext _ 2080 2016 _ (by omega) (by omega)]
 have e1 : (List.range 1000).map (fun j => xj 0 (jtC n) (0 + j)) = (List.range 1000).map (jtF n A) := List.map_congr_left fun j hj => by
  have := List.mem_range.1 hj
  unfold jtF
  rw [if_neg (by omega), if_neg (by omega), Nat.zero_add]
 have e2 : List.replicate 100 (2 : Int) = (List.range 100).map fun j => jtF n A (1000 + j) := by
  symm
  refine List.eq_replicate_iff.2 ⟨by rw [List.length_map, List.length_range], fun x hx => ?_⟩
  obtain ⟨j, hj, rfl⟩ := List.mem_map.1 hx
  have := List.mem_range.1 hj
  unfold jtF
  rw [if_neg (by omega), if_pos (by omega)]
 have e3 : (List.range 900).map (fun j => xj 0 (jtC n) (1100 + j)) = (List.range 900).map fun j => jtF n A (1000 + 100 + j) := List.map_congr_left fun j hj => by
  have := List.mem_range.1 hj
  unfold jtF
  rw [if_neg (by omega), if_neg (by omega)]
 have e4 : ((List.range (2 * 40)).map fun j => if j % 2 = 0 then ((A (j / 2) % 256 : Nat) : Int) else ((A (j / 2) / 256 : Nat) : Int)) = (List.range (2 * 40)).map fun j => jtF n A (1000 + 100 + 900 + j) := List.map_congr_left fun j hj => by
  have := List.mem_range.1 hj
  rw [show jtF n A (1000 + 100 + 900 + j) = _ from if_pos (by omega), show 1000 + 100 + 900 + j - 2000 = j by omega]
 have e5 : (List.range 2016).map (fun j => xj 0 (jtC n) (2080 + j)) = (List.range 2016).map fun j => jtF n A (1000 + 100 + 900 + 2 * 40 + j) := List.map_congr_left fun j hj => by
  have := List.mem_range.1 hj
  unfold jtF
  rw [if_neg (by omega), if_neg (by omega)]
 unfold winB tabS yW
 rw [e1, e2, e3, e4, e5, strN_append, strN_append, strN_append, strN_append, map_five (jtF n A) 1000 100 900 (2 * 40) 2016 4096 (by omega)]
end Go.Proofs.YteofmaiojepdkaaGreat
namespace Go.Proofs.YteofmaiojepdkaaGreat
open Go Go.RowKit Go.Maps Go.Sort
def hltB (m : Nat) : ByteArray := ⟨(List.replicate m 2).toArray⟩
theorem hltB_size (m : Nat) : (hltB m).size = m := by show (List.replicate m (2 : UInt8)).toArray.size = m; simp
theorem hltB_snoc (m : Nat) : hltB m ++ ⟨#[2]⟩ = hltB (m + 1) := by
 apply ByteArray.ext
 apply Array.toList_inj.1
 rw [ByteArray.data_append, Array.toList_append]
 show List.replicate m 2 ++ [2] = List.replicate (m + 1) 2
 rw [List.replicate_succ']
set_option maxRecDepth 100000 in
set_option maxHeartbeats 4000000 in
theorem hlts_any (n : Nat) (hn : n ≤ 100000) (w : World) : Calls Tryz.prog 30 #[.int .i64 n] w fun e w' => e = .returned (.string (hltB n)) ∧ Below w.heap.size w w' := by
 go_enter Tryz.func30, Tryz.ntmps30
 go_wp2_with fail
 go_loopw [3, 4] (fun s i wr => ∃ m : Nat, m ≤ n ∧ s = .string (hltB m) ∧ i = .int .i64 m ∧ Hid (Below w.heap.size w wr)) (fun s i _ => n - (intOf i).toNat)
 case atStart => exact ⟨0, Nat.zero_le _, rfl, rfl, zh (Below.refl _ _)⟩
 case round =>
  obtain ⟨m, hm, rfl, rfl, HB⟩ := hrel
  by_cases hlt : m < n
  ·have hs := hltB_size m
   have h2 := hltB_snoc m
   have HLT := zh hlt
   have HS2 := zh h2
   go_wp2_with fail
   go_roundw
   case rel => exact ⟨m + 1, HLT.out, rfl, by go_num, HB⟩
   case measure => have h1 := HLT.out; simp [intOf]; omega
  ·obtain rfl : m = n := by omega
   go_wp2_with fail
   go_ret
   exact ⟨rfl, HB.out⟩
end Go.Proofs.YteofmaiojepdkaaGreat
