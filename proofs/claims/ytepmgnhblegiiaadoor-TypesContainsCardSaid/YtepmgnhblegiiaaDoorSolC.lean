/- The solver in memory: its partition, its classes, the maps of their fields; how they change. No condition. -/
import Derived.Test.YtepmgnhblegiiaaDoorMapW
import Derived.Test.YtepmgnhblegiiaaDoorPlE
import Derived.StillTailTactics
set_option linter.all false
namespace Go.Proofs.YtepmgnhblegiiaaDoor
open Go Go.RowKit Go.Maps

theorem hI3 : Tryd.prog.underlying 3 = some (.int .i64) := Tryd.underlying3
theorem hM : Tryd.prog.underlying 69 = some (.map 3 3) := Tryd.underlying69
theorem zeroInt (w : World) : (zeroValue 3).run Tryd.prog w = .ok (.int .i64 0) w := by kernel_rfl
def Mw (g : Nat) (F : Int → Option Int) (w : World) : Prop := MapW Tryd.prog 3 g F w
def Rw (g r : Nat) (F : Int → Option Int) (left : Int → Bool) (cnt : Nat) (w : World) : Prop := RangeW Tryd.prog 3 g r F left cnt w

/-- Where a solver lies. -/
structure Lay where
  n : Nat
  gs : Nat
  gu : Nat
  go : Nat
  cu : Nat
  co : Nat
  gm : Nat → Nat
  lim : n ≤ 2000
  su : gs ≠ gu
  so : gs ≠ go
  uo : gu ≠ go
  inj : ∀ u v, u < n → v < n → gm u = gm v → u = v

def Lay.own (L : Lay) (k : Nat) : Prop := k = L.gs ∨ k = L.gu ∨ k = L.go ∨ ∃ v, v < L.n ∧ k = L.gm v

/-- up leads to the roots rt. -/
structure Forest (n : Nat) (up : Nat → Nat) (rt : Int → Int) : Prop where
  le : ∀ v, v < n → up v ≤ v
  par : ∀ v, v < n → rt (up v) = rt v
  top : ∀ v, v < n → up v = v → rt v = v

def setN (up : Nat → Nat) (v x u : Nat) : Nat := if u = v then x else up u
theorem Forest.half {n : Nat} {up : Nat → Nat} {rt : Int → Int} (h : Forest n up rt) {v : Nat} (hv : v < n) : Forest n (setN up v (up (up v))) rt := by
  have h1 := h.le v hv
  have h2 := h.le (up v) (by omega)
  refine ⟨fun u hu => ?_, fun u hu => ?_, fun u hu e => ?_⟩
  · unfold setN; split
    · omega
    · exact h.le u hu
  · unfold setN; split
    · rename_i e; subst e; rw [h.par _ (by omega), h.par _ hv]
    · exact h.par u hu
  · unfold setN at e; split at e
    · rename_i e'; subst e'; exact h.top _ hu (by omega)
    · exact h.top u hu e
theorem Forest.join {n : Nat} {up : Nat → Nat} {rt : Int → Int} (h : Forest n up rt) {lo hi : Nat} (hlo : rt lo = lo) (hhi : rt hi = hi) (hlt : lo < hi) : Forest n (setN up hi lo) (joinRt rt lo hi) := by
  have e1 : joinRt rt lo hi lo = lo := by unfold joinRt; rw [hlo, if_neg (by omega)]
  have e2 : joinRt rt lo hi hi = lo := by unfold joinRt; rw [if_pos hhi]
  refine ⟨fun u hu => ?_, fun u hu => ?_, fun u hu e => ?_⟩
  · unfold setN; split
    · omega
    · exact h.le u hu
  · unfold setN; split
    · rename_i e; subst e; rw [e1, e2]
    · unfold joinRt; rw [h.par u hu]
  · unfold setN at e; split at e
    · omega
    · have := h.top u hu e
      unfold joinRt; rw [if_neg]
      · exact this
      · omega

def clsCells (k : Cls) (g : Nat) : Array Value := #[.int .i64 k.size, .int .i64 k.sign, .int .i64 k.ptr, .int .i64 k.elem, .int .i64 k.count, .map (some g)]
def solCells (L : Lay) (clash : Bool) : Array Value := #[.slice (some ⟨L.gu, 0, none⟩) L.n L.cu, .slice (some ⟨L.go, 0, none⟩) L.n L.co, .bool clash]

structure SolW (L : Lay) (rt : Int → Int) (of : Int → Cls) (clash : Bool) (w : World) : Prop where
  s : w.heap[L.gs]? = some (.cells (solCells L clash) 68 (0, 0))
  u : ∃ (c : Array Value) (up : Nat → Nat), w.heap[L.gu]? = some (.cells c 3 (0, 0)) ∧ Forest L.n up rt ∧ ∀ v, v < L.n → c[v]? = some (.int .i64 (up v))
  o : ∃ c : Array Value, w.heap[L.go]? = some (.cells c 71 (0, 0)) ∧ ∀ v, v < L.n → ∀ j, j < 6 → c[v * 6 + j]? = (clsCells (of v) (L.gm v))[j]?
  m : ∀ v, v < L.n → Mw (L.gm v) (of v).fields w

section
variable {L : Lay} {rt : Int → Int} {of : Int → Cls} {clash : Bool} {w : World}
theorem SolW.turn (h : SolW L rt of clash w) {bs : Nat → Prop} {w' : World} (ht : Turn bs w w') (hb : ∀ k, bs k → ¬ L.own k) : SolW L rt of clash w' := by
  have key : ∀ k, L.own k → k < w.heap.size → w'.heap[k]? = w.heap[k]? := fun k hk hlt => ht.block k hlt fun e => hb k e hk
  have hlt : ∀ {k : Nat} {o : Obj}, w.heap[k]? = some o → k < w.heap.size := fun h => (Array.getElem?_eq_some_iff.1 h).1
  refine ⟨?_, ?_, ?_, fun v hv => ?_⟩
  · rw [key _ (.inl rfl) (hlt h.s)]; exact h.s
  · obtain ⟨c, up, h1, h2⟩ := h.u
    exact ⟨c, up, by rw [key _ (.inr (.inl rfl)) (hlt h1)]; exact h1, h2⟩
  · obtain ⟨c, h1, h2⟩ := h.o
    exact ⟨c, by rw [key _ (.inr (.inr (.inl rfl))) (hlt h1)]; exact h1, h2⟩
  · exact (h.m v hv).same (key _ (.inr (.inr (.inr ⟨v, hv, rfl⟩))) (h.m v hv).lt)
theorem SolW.grow (w w' : World) (h : SolW L rt of clash w) (hb : Below w.heap.size w w') : SolW L rt of clash w' := h.turn (Turn.ofBelow (bs := fun _ => False) hb) (fun _ h => h.elim)
theorem SolW.drew (h : SolW L rt of clash w) : SolW L rt of clash w.drew := h.turn (bs := fun _ => False) ((Turn.refl _ _).drew) (fun _ h => h.elim)
theorem SolW.drewN (h : SolW L rt of clash w) (n : Nat) : SolW L rt of clash (w.drewN n) := h.turn (bs := fun _ => False) ⟨rfl, rfl, rfl, Nat.le_refl _, fun _ _ _ => rfl⟩ (fun _ h => h.elim)
theorem SolW.alloc (h : SolW L rt of clash w) (o : Obj) : SolW L rt of clash (w.alloc o) := h.turn (bs := fun _ => False) ((Turn.refl _ _).alloc o) (fun _ h => h.elim)
theorem Lay.gm_ne (L : Lay) (h : SolW L rt of clash w) {v : Nat} (hv : v < L.n) : L.gm v ≠ L.gs ∧ L.gm v ≠ L.gu ∧ L.gm v ≠ L.go := by
  obtain ⟨es, clock, hm⟩ := (h.m v hv).obj
  obtain ⟨c, up, h1, -⟩ := h.u
  obtain ⟨c', h2, -⟩ := h.o
  refine ⟨fun e => ?_, fun e => ?_, fun e => ?_⟩
  · rw [e, h.s] at hm; cases hm
  · rw [e, h1] at hm; cases hm
  · rw [e, h2] at hm; cases hm
/-- The cells that a walk reads. -/
theorem SolW.s0 (h : SolW L rt of clash w) : w.cell? ⟨L.gs, 0, none⟩ = some (.slice (some ⟨L.gu, 0, none⟩) L.n L.cu) := by rw [cell_of_row w _ _ _ _ _ h.s]; rfl
theorem SolW.s1 (h : SolW L rt of clash w) : w.cell? ⟨L.gs, 1, none⟩ = some (.slice (some ⟨L.go, 0, none⟩) L.n L.co) := by rw [cell_of_row w _ _ _ _ _ h.s]; rfl
theorem SolW.s2 (h : SolW L rt of clash w) : w.cell? ⟨L.gs, 2, none⟩ = some (.bool clash) := by rw [cell_of_row w _ _ _ _ _ h.s]; rfl
theorem SolW.o_at (h : SolW L rt of clash w) {v j : Nat} (hv : v < L.n) (hj : j < 6) : w.cell? ⟨L.go, v * 6 + j, none⟩ = (clsCells (of v) (L.gm v))[j]? ∧ w.frozen? ⟨L.go, v * 6 + j, none⟩ = false := by
  obtain ⟨c, h1, h2⟩ := h.o
  exact ⟨by rw [cell_of_row w _ _ _ _ _ h1]; exact h2 v hv j hj, frozen_of_row _ _ _ _ _ h1⟩
theorem SolW.lt (h : SolW L rt of clash w) {k : Nat} (hk : L.own k) : k < w.heap.size := by
  have hlt : ∀ {k : Nat} {o : Obj}, w.heap[k]? = some o → k < w.heap.size := fun h => (Array.getElem?_eq_some_iff.1 h).1
  rcases hk with rfl | rfl | rfl | ⟨v, hv, rfl⟩
  · exact hlt h.s
  · obtain ⟨c, up, h1, h2⟩ := h.u; exact hlt h1
  · obtain ⟨c, h1, h2⟩ := h.o; exact hlt h1
  · exact (h.m v hv).lt

/-- A store into the partition. -/
theorem SolW.setU (h : SolW L rt of clash w) {c : Array Value} {up : Nat → Nat} (h1 : w.heap[L.gu]? = some (.cells c 3 (0, 0))) (h2 : ∀ v, v < L.n → c[v]? = some (.int .i64 (up v))) {v x : Nat} (hv : v < L.n) {rt' : Int → Int} (hf : Forest L.n (setN up v x) rt') :
    SolW L rt' of clash (w.setCell ⟨L.gu, v, none⟩ (.int .i64 x)) := by
  refine ⟨?_, ⟨_, _, heap_setCell_same h1 _, hf, fun u hu => ?_⟩, ?_, fun u hu => ?_⟩
  · rw [heap_setCell_other L.su]; exact h.s
  · have hs : v < c.size := (Array.getElem?_eq_some_iff.1 (h2 v hv)).1
    by_cases e : u = v
    · subst e; simp [setN, hs]
    · rw [Array.getElem?_setIfInBounds_ne (Ne.symm e), h2 u hu]; simp [setN, e]
  · obtain ⟨c', h3, h4⟩ := h.o
    exact ⟨c', by rw [heap_setCell_other L.uo.symm]; exact h3, h4⟩
  · exact (h.m u hu).same (heap_setCell_other (L.gm_ne h hu).2.1 _)
/-- A store into a class. -/
theorem SolW.setO (h : SolW L rt of clash w) {v j : Nat} (hv : v < L.n) (hj : j < 6) {x : Value} {k : Cls} (hk : ∀ i, i < 6 → (clsCells k (L.gm v))[i]? = if i = j then some x else (clsCells (of v) (L.gm v))[i]?) (hF : k.fields = (of v).fields) :
    SolW L rt (setCls of v k) clash (w.setCell ⟨L.go, v * 6 + j, none⟩ x) := by
  obtain ⟨c, h1, h2⟩ := h.o
  obtain ⟨cu, up, h3, h4⟩ := h.u
  refine ⟨?_, ⟨cu, up, ?_, h4⟩, ⟨_, heap_setCell_same h1 _, fun u hu i hi => ?_⟩, fun u hu => ?_⟩
  · rw [heap_setCell_other L.so]; exact h.s
  · rw [heap_setCell_other L.uo]; exact h3
  · have hc : v * 6 + j < c.size := by
      have := h2 v hv j hj
      have hs : j < (clsCells (of v) (L.gm v)).size := hj
      rw [Array.getElem?_eq_getElem hs] at this
      exact (Array.getElem?_eq_some_iff.1 this).1
    by_cases e : u = v
    · subst e
      have e1 : setCls of u k u = k := by simp [setCls]
      rw [e1, hk i hi]
      by_cases e' : i = j
      · subst e'; simp [hc]
      · rw [if_neg e', Array.getElem?_setIfInBounds_ne (by omega)]; exact h2 u hu i hi
    · have e1 : setCls of v k u = of u := by simp [setCls]; omega
      rw [e1, Array.getElem?_setIfInBounds_ne (by omega)]; exact h2 u hu i hi
  · have e1 : (setCls of v k u).fields = (of u).fields := by
      unfold setCls; split
      · rename_i e; have e : u = v := by omega
        subst e; exact hF
      · rfl
    rw [e1]
    exact (h.m u hu).same (heap_setCell_other (L.gm_ne h hu).2.2 _)
/-- A store into the mark of a contradiction. -/
theorem SolW.setC (h : SolW L rt of clash w) (b : Bool) : SolW L rt of b (w.setCell ⟨L.gs, 2, none⟩ (.bool b)) := by
  obtain ⟨c, h1, h2⟩ := h.o
  obtain ⟨cu, up, h3, h4⟩ := h.u
  refine ⟨?_, ⟨cu, up, ?_, h4⟩, ⟨c, ?_, h2⟩, fun u hu => ?_⟩
  · rw [heap_setCell_same h.s]; rfl
  · rw [heap_setCell_other L.su.symm]; exact h3
  · rw [heap_setCell_other L.so.symm]; exact h1
  · exact (h.m u hu).same (heap_setCell_other (L.gm_ne h hu).1 _)
/-- A store into a map of fields. -/
theorem SolW.setM (h : SolW L rt of clash w) {v : Nat} (hv : v < L.n) {F : Int → Option Int} {w' : World} (hg : w.grownBy w' (some (L.gm v))) (hm : Mw (L.gm v) F w') : SolW L rt (setCls of v { of v with fields := F }) clash w' := by
  have hne := L.gm_ne h hv
  have key : ∀ {k : Nat}, L.own k → k ≠ L.gm v → w'.heap[k]? = w.heap[k]? := fun {k} hk hk' => hg.block k (h.lt hk) (by simpa using hk')
  obtain ⟨c, h1, h2⟩ := h.o
  obtain ⟨cu, up, h3, h4⟩ := h.u
  refine ⟨?_, ⟨cu, up, ?_, h4⟩, ⟨c, ?_, fun u hu i hi => ?_⟩, fun u hu => ?_⟩
  · rw [key (.inl rfl) hne.1.symm]; exact h.s
  · rw [key (.inr (.inl rfl)) hne.2.1.symm]; exact h3
  · rw [key (.inr (.inr (.inl rfl))) hne.2.2.symm]; exact h1
  · rw [h2 u hu i hi]
    unfold setCls; split
    · rename_i e; have e : u = v := by omega
      subst e; rfl
    · rfl
  · by_cases e : u = v
    · subst e
      have e1 : setCls of u { of u with fields := F } u = { of u with fields := F } := by simp [setCls]
      rw [e1]; exact hm
    · have e1 : setCls of v { of v with fields := F } u = of u := by simp [setCls]; omega
      rw [e1]
      exact (h.m u hu).same (key (.inr (.inr (.inr ⟨u, hu, rfl⟩))) (fun q => e (L.inj u v hu hv q)))
end
end Go.Proofs.YtepmgnhblegiiaaDoor

/- find, agree, refer of the solver of type constraints. No condition beyond what each states. -/
namespace Go.Proofs.YtepmgnhblegiiaaDoor
open Go Go.RowKit Go.Maps

/-- A variable, or none. -/
def rootOr (rt : Int → Int) (v : Int) : Int := if v = -1 then -1 else rt v

set_option maxRecDepth 100000 in
set_option maxHeartbeats 1000000 in
theorem find_any (L : Lay) {rt : Int → Int} {of : Int → Cls} {clash : Bool} (w : World) (h : SolW L rt of clash w) (v : Nat) (hv : v < L.n) :
    Calls Tryd.prog 42 #[.pointer (some ⟨L.gs, 0, none⟩), .int .i64 v] w fun e w' => e = .returned (.int .i64 (rt v)) ∧ SolW L rt of clash w' ∧ Turn (fun k => k = L.gu) w w' := by
  have hlim := L.lim
  have hne : ((v : Int) == -1) = false := by simp
  have H := Lib.hid h
  clear h
  go_enter Tryd.func42, Tryd.ntmps42
  go_wp2
  go_loopw [1] (fun t1 wr => ∃ u : Nat, u < L.n ∧ t1 = .int .i64 u ∧ Hid (rt u = rt v) ∧ Hid (SolW L rt of clash wr) ∧ Hid (Turn (fun k => k = L.gu) w wr) ) (fun t1 _ => (intOf t1).toNat)
  case atStart => exact ⟨v, hv, rfl, Lib.hid rfl, H, Lib.hid (Turn.refl _ _)⟩
  case round =>
    obtain ⟨u, hu, rfl, HR, HS, HT⟩ := hrel
    obtain ⟨c, up, hc, hf, hcu⟩ := HS.out.u
    have c0 := HS.out.s0
    have hle := hf.le u hu
    have c1 : wr.cell? ⟨L.gu, u, none⟩ = some (.int .i64 (up u)) := by rw [cell_of_row wr _ _ _ _ _ hc]; exact hcu u hu
    have HF := Lib.hid hf
    have HCU := Lib.hid hcu
    have HC := Lib.hid hc
    clear hf hcu hc
    by_cases e : up u = u
    · have HE := Lib.hid e
      have hb : ((up u : Int) != (u : Int)) = false := by simp [e]
      have htop := Lib.hid (HF.out.top u hu e)
      clear e
      go_wp2
      go_ret
      refine ⟨?_, HS.out, HT.out⟩
      rw [← HR.out, htop.out]
      rfl
    · have hlt : up u < u := by omega
      have hup : up u < L.n := by omega
      have c2 : wr.cell? ⟨L.gu, up u, none⟩ = some (.int .i64 (up (up u))) := by rw [cell_of_row wr _ _ _ _ _ HC.out]; exact HCU.out _ (by omega)
      have fz : ∀ i, wr.frozen? ⟨L.gu, i, none⟩ = false := fun i => frozen_of_row _ _ _ _ _ HC.out
      have fz1 := fz u
      have c4 : (wr.setCell ⟨L.gu, u, none⟩ (.int .i64 (up (up u)))).cell? ⟨L.gu, u, none⟩ = some (.int .i64 (up (up u))) := World.cell?_setCell_same _ _ _ c1
      have hsu : L.gs ≠ L.gu := L.su
      clear fz
      go_wp2
      go_still_tail 18, (by kernel_rfl)
      change wpList _ _ _ _ _ wr.drew
      go_wp2
      go_roundw
      case rel => exact ⟨up (up u), by have := HF.out.le (up u) (by omega); omega, rfl, Lib.hid (by rw [HF.out.par _ (by omega), HF.out.par _ hu]; exact HR.out), Lib.hid (HS.out.drew.setU (c := c) HC.out HCU.out hu (HF.out.half hu)), Lib.hid ((HT.out.drew).setCell _ (fun _ => rfl))⟩
      case measure => have := HF.out.le (up u) (by omega); simp [intOf]; omega

set_option maxHeartbeats 1000000 in
theorem find_none (L : Lay) (w : World) : Calls Tryd.prog 42 #[.pointer (some ⟨L.gs, 0, none⟩), .int .i64 (-1)] w fun e w' => e = .returned (.int .i64 (-1)) ∧ w = w' := by
  go_enter Tryd.func42, Tryd.ntmps42
  go_wp2
  go_ret
  exact ⟨rfl, rfl⟩

set_option maxHeartbeats 1000000 in
theorem or_any (w : World) (g : Nat) (a b : Int) (h : w.heap[g]? = some (.cells #[.int .i64 a, .int .i64 b] 3 (0, 0))) :
    Calls Tryd.prog 69 #[.slice (some ⟨g, 0, none⟩) 2 2] w fun e w' => e = .returned (.int .i64 (agreeV a b)) ∧ w = w' := by
  have c0 : w.cell? ⟨g, 0, none⟩ = some (.int .i64 a) := by rw [cell_of_row w _ _ _ _ _ h]; rfl
  have c1 : w.cell? ⟨g, 1, none⟩ = some (.int .i64 b) := by rw [cell_of_row w _ _ _ _ _ h]; rfl
  clear h
  go_enter Tryd.func69, Tryd.ntmps69
  go_wp2
  go_loop [8] (fun x => ∃ k : Nat, k ≤ 2 ∧ x = .int .i64 k ∧ Hid ((0 < k → a = 0) ∧ (1 < k → b = 0))) (fun x => 2 - (intOf x).toNat)
  case atStart => exact ⟨0, by omega, rfl, Lib.hid (by omega)⟩
  case round =>
    obtain ⟨k, hk, rfl, H⟩ := hrel
    rcases (show k = 0 ∨ k = 1 ∨ k = 2 by omega) with rfl | rfl | rfl
    · by_cases e : a = 0
      · have E := Lib.hid e
        have eb : (a != 0) = false := by simp [e]
        clear e
        go_wp2
        go_round
        case rel => exact ⟨1, by omega, rfl, Lib.hid ⟨fun _ => E.out, by omega⟩⟩
        case measure => simp [intOf]
      · have eb : (a != 0) = true := by simp [e]
        go_wp2
        go_ret
        refine ⟨?_, rfl⟩
        unfold agreeV; rw [if_neg e]; rfl
    · by_cases e : b = 0
      · have E := Lib.hid e
        have eb : (b != 0) = false := by simp [e]
        clear e
        go_wp2
        go_round
        case rel => exact ⟨2, by omega, rfl, Lib.hid ⟨fun _ => H.out.1 (by omega), fun _ => E.out⟩⟩
        case measure => simp [intOf]
      · have eb : (b != 0) = true := by simp [e]
        go_wp2
        go_ret
        refine ⟨?_, rfl⟩
        unfold agreeV; rw [if_pos (H.out.1 (by omega))]; rfl
    · go_wp2
      go_ret
      refine ⟨?_, rfl⟩
      unfold agreeV; rw [if_pos (H.out.1 (by omega)), H.out.2 (by omega)]; rfl

set_option maxHeartbeats 1000000 in
theorem agree_any (L : Lay) {rt : Int → Int} {of : Int → Cls} {clash : Bool} (w : World) (h : SolW L rt of clash w) (a b : Int) :
    Calls Tryd.prog 57 #[.pointer (some ⟨L.gs, 0, none⟩), .int .i64 a, .int .i64 b] w fun e w' => e = .returned (.int .i64 (agreeV a b)) ∧ SolW L rt of (agreeC clash a b) w' ∧ Turn (fun k => k = L.gs) w w' := by
  have c2 := h.s2
  have f2 : w.frozen? ⟨L.gs, 2, none⟩ = false := frozen_of_row _ _ _ _ _ h.s
  have hlt := h.lt (.inl rfl)
  have H := Lib.hid h
  clear h
  have c2' : ∀ x : Bool, (w.setCell ⟨L.gs, 2, none⟩ (.bool x)).heap.size = w.heap.size := fun x => by simp [World.setCell]
  have HB : ∀ x : Bool, Hid (((w.setCell ⟨L.gs, 2, none⟩ (.bool x)).alloc (.cells #[.int .i64 a, .int .i64 b] 3 (0, 0))).heap[w.heap.size]? = some (.cells #[.int .i64 a, .int .i64 b] 3 (0, 0))) := fun x => by
    have := heap_alloc_new (w.setCell ⟨L.gs, 2, none⟩ (.bool x)) (.cells #[.int .i64 a, .int .i64 b] 3 (0, 0))
    rw [c2' x] at this
    exact Lib.hid this
  have fin : ∀ x : Bool, agreeC clash a b = x → SolW L rt of (agreeC clash a b) ((w.setCell ⟨L.gs, 2, none⟩ (.bool x)).alloc (.cells #[.int .i64 a, .int .i64 b] 3 (0, 0))) ∧ Turn (fun k => k = L.gs) w ((w.setCell ⟨L.gs, 2, none⟩ (.bool x)).alloc (.cells #[.int .i64 a, .int .i64 b] 3 (0, 0))) := fun x hx => by
    rw [hx]
    exact ⟨(H.out.setC x).alloc _, ((Turn.refl (fun k => k = L.gs) w).setCell _ (fun _ => rfl)).alloc _⟩
  clear c2'
  have FIN := Lib.hid fin
  clear fin
  cases clash with
  | true =>
    have hb := Lib.hid (HB true)
    clear HB
    go_enter Tryd.func57, Tryd.ntmps57
    go_wp2_with (go_at_call 69; refine (or_any _ _ a b hb.out.out).mono ?_; rintro e ww ⟨rfl, rfl⟩)
    go_ret
    exact ⟨rfl, FIN.out true (by simp [agreeC])⟩
  | false =>
    by_cases ea : a = 0
    · have e1 : (a != 0) = false := by simp [ea]
      have hb := Lib.hid (HB false)
      have hx := Lib.hid (FIN.out false (by simp [agreeC, ea]))
      clear HB FIN ea
      go_enter Tryd.func57, Tryd.ntmps57
      go_wp2_with (go_at_call 69; refine (or_any _ _ a b hb.out.out).mono ?_; rintro e ww ⟨rfl, rfl⟩)
      go_ret
      exact ⟨rfl, hx.out⟩
    · have e1 : (a != 0) = true := by simp [ea]
      by_cases eb : b = 0
      · have e2 : (b != 0) = false := by simp [eb]
        have hb := Lib.hid (HB false)
        have hx := Lib.hid (FIN.out false (by simp [agreeC, eb]))
        clear HB FIN ea eb
        go_enter Tryd.func57, Tryd.ntmps57
        go_wp2_with (go_at_call 69; refine (or_any _ _ a b hb.out.out).mono ?_; rintro e ww ⟨rfl, rfl⟩)
        go_ret
        exact ⟨rfl, hx.out⟩
      · have e2 : (b != 0) = true := by simp [eb]
        by_cases ec : a = b
        · have e3 : (a != b) = false := by simp [ec]
          have hb := Lib.hid (HB false)
          have hx := Lib.hid (FIN.out false (by simp [agreeC, ec]))
          clear HB FIN ea eb ec
          go_enter Tryd.func57, Tryd.ntmps57
          go_wp2_with (go_at_call 69; refine (or_any _ _ a b hb.out.out).mono ?_; rintro e ww ⟨rfl, rfl⟩)
          go_ret
          exact ⟨rfl, hx.out⟩
        · have e3 : (a != b) = true := by simp [ec]
          have hb := Lib.hid (HB true)
          have hx := Lib.hid (FIN.out true (by simp [agreeC, ea, eb, ec]))
          clear HB FIN ea eb ec
          go_enter Tryd.func57, Tryd.ntmps57
          go_wp2_with (go_at_call 69; refine (or_any _ _ a b hb.out.out).mono ?_; rintro e ww ⟨rfl, rfl⟩)
          go_ret
          exact ⟨rfl, hx.out⟩
end Go.Proofs.YtepmgnhblegiiaaDoor

/- refer of the solver: what is still to be united. No condition beyond what each states. -/
namespace Go.Proofs.YtepmgnhblegiiaaDoor
open Go Go.RowKit Go.Maps

theorem infoPair : (Tryd.prog.info? 102).map (fun i => (i.zero, i.size, i.bytes)) = some (some (.agg #[.int .i64 0, .int .i64 0]), 2, 16) := by kernel_rfl

def pairsV (qs : List (Int × Int)) : List Value := qs.flatMap fun p => [.int .i64 p.1, .int .i64 p.2]
theorem pairsV_len (qs : List (Int × Int)) : (pairsV qs).length = qs.length * 2 := by
  induction qs with
  | nil => rfl
  | cons p qs ih => simp [pairsV] at ih ⊢; omega
theorem pairsV_app (qs rs : List (Int × Int)) : pairsV (qs ++ rs) = pairsV qs ++ pairsV rs := by simp [pairsV]
/-- Block gt holds the slice of the pairs qs. -/
def TodoW (B gt : Nat) (qs : List (Int × Int)) (w : World) : Prop :=
  ∃ v, w.heap[gt]? = some (.cells #[v] 100 (0, 0)) ∧ w.ownsRow B 102 2 v qs.length (pairsV qs)
/-- A row of pairs of the call's own, or the block gt. -/
def todoB (B gt : Nat) (w : World) (k : Nat) : Prop := k = gt ∨ (B ≤ k ∧ ∃ cs, w.heap[k]? = some (.cells cs 102 (0, 0)))
theorem todoB_back {B gt : Nat} {a b : World} {bs : Nat → Prop} (h : Turn bs a b) (hb : ∀ k, k < a.heap.size → todoB B gt a k → bs k) : ∀ x, x < a.heap.size → todoB B gt b x → bs x := fun x hx ht => by
  refine Classical.byContradiction fun hn => hn (hb x hx ?_)
  rcases ht with e | ⟨h1, cs, h2⟩
  · exact .inl e
  · exact .inr ⟨h1, cs, by rw [← h.block x hx hn]; exact h2⟩

theorem own_pair {B : Nat} {v : Value} {n : Nat} {xs : List Value} {w : World} (h : w.ownsRow B 102 2 v n xs) : ∀ k, v.ownBlock = some k → B ≤ k ∧ ∃ cs, w.heap[k]? = some (.cells cs 102 (0, 0)) := fun k hk => by
  rcases h.2 with ⟨rfl, -⟩ | ⟨g, cap, cur, rfl, hb, hg, -⟩
  · cases hk
  · simp only [Value.ownBlock, Option.some.injEq] at hk
    subst hk
    exact ⟨hb, cur, hg⟩
theorem TodoW.lt {B gt : Nat} {qs : List (Int × Int)} {w : World} (h : TodoW B gt qs w) : gt < w.heap.size := by
  obtain ⟨v, h1, -⟩ := h
  exact (Array.getElem?_eq_some_iff.1 h1).1
theorem TodoW.keep {B gt : Nat} {qs : List (Int × Int)} {w w' : World} (h : TodoW B gt qs w) {bs : Nat → Prop} (ht : Turn bs w w') (hb : ∀ k, bs k → ¬ todoB B gt w k) : TodoW B gt qs w' := by
  obtain ⟨v, h1, h2, h3⟩ := h
  refine ⟨v, ht.heap h1 fun e => hb _ e (.inl rfl), h2, ?_⟩
  rcases h3 with h3 | ⟨g, cap, cur, rfl, hB, hg, r⟩
  · exact .inl h3
  · exact .inr ⟨g, cap, cur, rfl, hB, ht.heap hg fun e => hb _ e (.inr ⟨hB, cur, hg⟩), r⟩

/-- The pair of two references. -/
def pairOf (x y : Int) : List (Int × Int) := if x ≠ -1 ∧ y ≠ -1 then [(x, y)] else []

theorem cells_new (w : World) (c : Array Value) (t : TypeId) (l : List Value) (hl : c.toList = l) : ∀ j u, l[j]? = some u → (w.alloc (.cells c t)).cell? ((⟨w.heap.size, 0, none⟩ : Addr).add j) = some u := by
  intro j u hj
  have e : (⟨w.heap.size, 0, none⟩ : Addr).add j = ⟨w.heap.size, j, none⟩ := by unfold Addr.add; split <;> simp_all
  rw [e, cell_of_row _ _ _ _ _ _ (heap_alloc_new w (.cells c t))]
  subst hl
  simpa using hj
theorem alloc_other (w : World) (o : Obj) {k : Nat} (h : k < w.heap.size) : (w.alloc o).heap[k]? = w.heap[k]? := Below.heap_alloc w o k h
theorem own_shape {w : World} {B : Nat} {e : TypeId} {size : Nat} {v : Value} {n : Nat} {xs : List Value} (h : w.ownsRow B e size v (n + 1) xs) : ∃ g cap, v = .slice (some ⟨g, 0, none⟩) (n + 1) cap := by
  rcases h.2 with ⟨-, h0⟩ | ⟨g, cap, cur, rfl, -⟩
  · omega
  · exact ⟨g, cap, rfl⟩
theorem ret_int {k : IntKind} {a b : Int} (h : a = b) : Ending.returned (.int k a) = .returned (.int k b) := by rw [h]

set_option maxRecDepth 100000 in
set_option maxHeartbeats 1000000 in
theorem refer_any (B gt : Nat) (qs : List (Int × Int)) (w : World) (h : TodoW B gt qs w) (hB : B ≤ w.heap.size) (hq : qs.length ≤ 1000000000) (x y : Int) :
    Calls Tryd.prog 67 #[.int .i64 x, .int .i64 y, .pointer (some ⟨gt, 0, none⟩)] w fun e w' => e = .returned (.int .i64 (max x y)) ∧ TodoW B gt (qs ++ pairOf x y) w' ∧ Turn (todoB B gt w) w w' := by
  by_cases hx : x = -1
  · have e1 : (x != -1) = false := by simp [hx]
    have e2 : pairOf x y = [] := by simp [pairOf, hx]
    rw [e2, List.append_nil]
    have H := Lib.hid h
    clear h e2 hx
    go_enter Tryd.func67, Tryd.ntmps67
    go_wp2
    all_goals
      go_ret
      exact ⟨ret_int (by omega), H.out, Turn.refl _ _⟩
  · have e1 : (x != -1) = true := by simp [hx]
    by_cases hy : y = -1
    · have e3 : (y != -1) = false := by simp [hy]
      have e2 : pairOf x y = [] := by simp [pairOf, hy]
      rw [e2, List.append_nil]
      have H := Lib.hid h
      clear h e2 hx hy
      go_enter Tryd.func67, Tryd.ntmps67
      go_wp2
      all_goals
        go_ret
        exact ⟨ret_int (by omega), H.out, Turn.refl _ _⟩
    · have e3 : (y != -1) = true := by simp [hy]
      have e2 := Lib.hid (show pairOf x y = [(x, y)] by simp [pairOf, hx, hy])
      obtain ⟨v, hg, hown⟩ := h
      have hgl := (Array.getElem?_eq_some_iff.1 hg).1
      have hl := Lib.hid (pairsV_len qs)
      have hob := Lib.hid (own_pair hown)
      obtain ⟨i0, hi, hz0, hz1, hz2⟩ := info_parts infoPair
      have c0 : w.cell? ⟨gt, 0, none⟩ = some v := cell_of_one hg
      have H := Lib.hid hg
      have HO := Lib.hid hown
      clear hg hown hx hy
      go_enter Tryd.func67, Tryd.ntmps67
      go_wp2_with (at_builtin; refine wpList_append_own _ rfl _ _ 100 rfl B 102 i0 (.agg #[.int .i64 0, .int .i64 0]) 2 16 Tryd.underlying100 hi hz0 hz1 hz2 rfl (by decide) _ _ _ rfl (HO.out.alloc _) ⟨w.heap.size, 0, none⟩ 1 1 [.int .i64 x, .int .i64 y] rfl rfl (cells_new _ _ _ _ rfl) (by intro u hu; simp at hu; rcases hu with rfl | rfl <;> rfl) (by unfold maxLen; omega) (by omega) (Nat.le_trans hB (by simp)) ?_; intro v' w1 hown1 hgrow1 _; have c1 : w1.cell? ⟨gt, 0, none⟩ = some v := cell_of_one ((hgrow1.block gt (Nat.lt_of_lt_of_le hgl (by simp)) (fun e => by obtain ⟨_, cs, h2⟩ := hob.out gt e.symm; rw [H.out] at h2; simp at h2)).trans ((alloc_other _ _ hgl).trans H.out)); have f1 : w1.frozen? ⟨gt, 0, none⟩ = false := free_of_one ((hgrow1.block gt (Nat.lt_of_lt_of_le hgl (by simp)) (fun e => by obtain ⟨_, cs, h2⟩ := hob.out gt e.symm; rw [H.out] at h2; simp at h2)).trans ((alloc_other _ _ hgl).trans H.out)); obtain ⟨g', cap', rfl⟩ := own_shape hown1)
      all_goals
        go_ret
        refine ⟨ret_int (by omega), ?_, ?_⟩
        · have hb1 := (hgrow1.block gt (Nat.lt_of_lt_of_le hgl (by simp)) (fun e => by obtain ⟨_, cs, h2⟩ := hob.out gt e.symm; rw [H.out] at h2; simp at h2)).trans ((alloc_other _ _ hgl).trans H.out)
          refine ⟨_, one_setCell hb1, ?_⟩
          have hlen : (qs ++ pairOf x y).length = qs.length + 1 := by rw [e2.out]; simp
          have hpv : pairsV (qs ++ pairOf x y) = pairsV qs ++ [.int .i64 x, .int .i64 y] := by rw [e2.out, pairsV_app]; rfl
          rw [hlen, hpv]
          exact ownsRow_setCell_other hown1 (fun e => by obtain ⟨_, cs, h2⟩ := own_pair hown1 gt e; rw [hb1] at h2; simp at h2) _
        · exact ((((Turn.refl (todoB B gt w) w).alloc _).grown hgrow1 (fun k hk _ => .inr (hob.out k hk)))).setCell (g := gt) _ (fun _ => .inl rfl)
end Go.Proofs.YtepmgnhblegiiaaDoor
