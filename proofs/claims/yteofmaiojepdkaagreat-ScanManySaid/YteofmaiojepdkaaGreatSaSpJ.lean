/- Chapter 05 in plain Lean: the image whose bytes all return, and many entries. No condition. -/
import Derived.Test.YteofmaiojepdkaaGreatSaSpI
set_option linter.all false
namespace Go.Proofs.YteofmaiojepdkaaGreat
open Go
/-- A routine all of whose places bear instructions without issues. -/
theorem zW.allOk {I : zj} {e : zc} {D C L : List zc} (h : RtI I e D []) (ht : ¬ yc I e) (hok : ∀ p ∈ D, okI I p) (hi : ∀ p ∈ D, (fl I p).iss = []) (sc : C.Pairwise zU) (hC : ∀ p, p ∈ C ↔ p ∈ D) (sl : L.Pairwise zU) (hL : ∀ q, q ∈ L ↔ ∃ p, p ∈ D ∧ q ∈ (fl I p).cl) : zW I e ⟨e, false, ⟨0, 0⟩, C, L, []⟩ :=
  zW.ofDone ht h.done sc sl .nil (fun p => by rw [hC]; exact ⟨fun hp => ⟨hp, hok p hp⟩, fun hp => hp.1⟩)
    (fun q => by rw [hL]; exact ⟨fun ⟨p, h1, h2⟩ => ⟨p, h1, hok p h1, h2⟩, fun ⟨p, h1, _, h2⟩ => ⟨p, h1, h2⟩⟩)
    (fun x => ⟨fun hx => by simp at hx, fun ⟨h1, h2⟩ => by
      rcases h2 with ⟨h2, -⟩ | ⟨-, h2⟩
      · exact absurd (hok _ h1) h2
      · rw [hi _ h1] at h2; cases h2⟩)
/-- All routines, as they are given. -/
theorem ye.given {I : zj} {more : List zc} {R : List yT} (hs : (R.map (·.entry)).Pairwise zU) (hn : R.length ≤ 2000) (hr : ∀ r ∈ R, zW I r.entry r)
    (h0 : (⟨0, I.entry⟩ : zc) ∈ R.map (·.entry)) (hv : I.vector ≠ 0 → (⟨0, I.vector⟩ : zc) ∈ R.map (·.entry)) (hm : ∀ p ∈ more, p ∈ R.map (·.entry)) (hc : ∀ r ∈ R, ∀ q ∈ r.calls, q ∈ R.map (·.entry))
    (ht : ∀ r ∈ R, r.thunk = true → r.dest ∈ R.map (·.entry)) (he : ∀ p ∈ R.map (·.entry), Ent I more p) : ye I more (some R) :=
  (⟨h0, hv, hm, he, hr, sorted_nodup zU.irr hs, fun r hr => List.mem_map.2 ⟨r, hr, rfl⟩, hc, ht⟩ : EntI I more (R.map (·.entry)) R).rtns (fun p hp => hp) hn hs (fun r => Iff.rfl)
theorem clsL_eq {I : zj} {c c' : Nat → Nat → Int} (h : clsL I c = clsL I c') {b o : Nat} (hb : b < I.banks.length) (ho : o < 4096) : c b o = c' b o := by
  have h1 := congrArg (fun l => (l[b]?).map fun r : List Int => r[o]?) h
  unfold clsL at h1
  simp only [List.getElem?_map, List.getElem?_range hb, Option.map_some, List.getElem?_range ho, Option.some.injEq] at h1
  exact h1
theorem oneI_ok (s : ByteArray) : (zZ s).Ok := by
  refine ⟨zn 1, show 1 ≤ 64 by decide, fun t ht => ?_, show (0 : Int) ≤ 0 ∧ (0 : Int) < 65536 by decide, show (0 : Int) ≤ 0 ∧ (0 : Int) < 65536 by decide, fun o ho => ?_, Nat.zero_le _⟩
  · rw [List.mem_singleton.1 ht]; exact filB_size _
  · cases ho
theorem oneI_at (s : ByteArray) (o : Nat) (ho : o < 4096) : atI (zZ s) ⟨0, o⟩ = atF (pageF 0 s) o := by
  have h : zw ⟨0, o⟩ = o := by unfold zw; dsimp only; omega
  rw [at_fil (f := pageF 0 s) rfl (by unfold inI ym zZ; simp; omega) (pageF_bd 0 s), h]
/-! ### The first example -/
def exA : ByteArray := ⟨#[96, 1, 2, 48, 0, 7, 2]⟩
theorem aA0 : atI (zZ exA) ⟨0, 0⟩ = (⟨96, 0, 0, 1, 0, 0, 2⟩, 0) := (oneI_at exA 0 (by decide)).trans (by decide +kernel)
theorem aA2 : atI (zZ exA) ⟨0, 2⟩ = (⟨2, 0, 0, 0, 0, 0, 1⟩, 0) := (oneI_at exA 2 (by decide)).trans (by decide +kernel)
theorem aA3 : atI (zZ exA) ⟨0, 3⟩ = (⟨48, 0, 0, 7, 0, 0, 3⟩, 0) := (oneI_at exA 3 (by decide)).trans (by decide +kernel)
theorem aA6 : atI (zZ exA) ⟨0, 6⟩ = (⟨2, 0, 0, 0, 0, 0, 1⟩, 0) := (oneI_at exA 6 (by decide)).trans (by decide +kernel)
theorem fA0 : fl (zZ exA) ⟨0, 0⟩ = ⟨[⟨0, 2⟩, ⟨0, 3⟩], [], [], false, false, false⟩ := by unfold fl; rw [aA0]; kernel_rfl
theorem fA2 : fl (zZ exA) ⟨0, 2⟩ = ⟨[], [], [], false, false, false⟩ := by unfold fl; rw [aA2]; kernel_rfl
theorem fA3 : fl (zZ exA) ⟨0, 3⟩ = ⟨[⟨0, 6⟩], [], [], false, false, false⟩ := by unfold fl; rw [aA3]; kernel_rfl
theorem fA6 : fl (zZ exA) ⟨0, 6⟩ = ⟨[], [], [], false, false, false⟩ := by unfold fl; rw [aA6]; kernel_rfl
theorem okOf {I : zj} {p : zc} {x : Ins} (h : atI I p = (x, 0)) : okI I p := by unfold okI; rw [h]
theorem RtI.next {I : zj} {e p : zc} {D Q : List zc} {x : Ins} {f : zN} (h : RtI I e D (p :: Q)) (hp : p ∉ D) (ha : atI I p = (x, 0)) (hf : fl I p = f) : RtI I e (D ++ [p]) (Q ++ f.nx) := h.visit hp (fun _ => by rw [hf]) (fun n => absurd (okOf ha) n)
theorem notThunk {I : zj} {p : zc} {x : Ins} {k : Int} (h : atI I p = (x, k)) (hx : x.op ≠ 131) : ¬ yc I p := fun ht => hx (by have := ht.2; rw [h] at this; exact this)
def rtA : yT := ⟨⟨0, 0⟩, false, ⟨0, 0⟩, [⟨0, 0⟩, ⟨0, 2⟩, ⟨0, 3⟩, ⟨0, 6⟩], [], []⟩
theorem isA : zW (zZ exA) ⟨0, 0⟩ rtA := by
  have h0 := RtI.start (zZ exA) ⟨0, 0⟩
  have h1 := h0.next (by simp) aA0 fA0
  have h2 : RtI (zZ exA) ⟨0, 0⟩ [⟨0, 0⟩, ⟨0, 2⟩] [⟨0, 3⟩] := h1.next (by decide) aA2 fA2
  have h3 : RtI (zZ exA) ⟨0, 0⟩ [⟨0, 0⟩, ⟨0, 2⟩, ⟨0, 3⟩] [⟨0, 6⟩] := h2.next (by decide) aA3 fA3
  have h4 : RtI (zZ exA) ⟨0, 0⟩ [⟨0, 0⟩, ⟨0, 2⟩, ⟨0, 3⟩, ⟨0, 6⟩] [] := h3.next (by decide) aA6 fA6
  refine zW.allOk h4 (notThunk aA0 (by decide)) (fun p hp => ?_) (fun p hp => ?_) (by decide) (fun p => Iff.rfl) .nil (fun q => ⟨fun h => by (cases h), fun ⟨p, hp, hq⟩ => ?_⟩)
  · simp only [List.mem_cons, List.not_mem_nil, or_false] at hp
    rcases hp with rfl | rfl | rfl | rfl
    · exact okOf aA0
    · exact okOf aA2
    · exact okOf aA3
    · exact okOf aA6
  · simp only [List.mem_cons, List.not_mem_nil, or_false] at hp
    rcases hp with rfl | rfl | rfl | rfl
    · rw [fA0]; rfl
    · rw [fA2]; rfl
    · rw [fA3]; rfl
    · rw [fA6]; rfl
  · simp only [List.mem_cons, List.not_mem_nil, or_false] at hp
    rcases hp with rfl | rfl | rfl | rfl
    · rw [fA0] at hq; exact hq
    · rw [fA2] at hq; exact hq
    · rw [fA3] at hq; exact hq
    · rw [fA6] at hq; exact hq
theorem rtsA : ye (zZ exA) [] (some [rtA]) := ye.given (by simp [rtA]) (by simp) (fun r hr => by rw [List.mem_singleton.1 hr]; exact isA) (by simp [rtA, zZ]) (fun h => absurd rfl h) (by simp) (fun r hr => by rw [List.mem_singleton.1 hr]; simp [rtA]) (fun r hr => by rw [List.mem_singleton.1 hr]; simp [rtA]) (fun p hp => by
  simp only [List.map_cons, List.map_nil, List.mem_singleton] at hp
  rw [hp]
  exact .first)
theorem lstA {L : LstS} (h : IsLst (zZ exA) [] L) : L = fullL (zZ exA) [rtA] rtA.code :=
  h.uniq (.inr ⟨_, rtA.code, rtsA, ⟨by decide, fun p => by simp⟩, .inr ⟨by decide, rfl⟩⟩)
theorem clA (o : Nat) (ho : o < 8) : clOf (zZ exA) rtA.code 0 o = [1, 2, 1, 1, 2, 2, 1, 0].getD o 0 := by
  have hz : yP (zZ exA) 0 o = 0 := rfl
  have ht : inTab (zZ exA) rtA.code 0 o = false := by
    unfold inTab rtA
    simp [fA0, fA2, fA3, fA6]
  unfold clOf yp
  rw [ht, hz]
  have s0 : szI (zZ exA) ⟨0, 0⟩ = 2 := by unfold szI; rw [aA0]; rfl
  have s2 : szI (zZ exA) ⟨0, 2⟩ = 1 := by unfold szI; rw [aA2]; rfl
  have s3 : szI (zZ exA) ⟨0, 3⟩ = 3 := by unfold szI; rw [aA3]; rfl
  have s6 : szI (zZ exA) ⟨0, 6⟩ = 1 := by unfold szI; rw [aA6]; rfl
  unfold covP rtA
  simp only [List.countP_cons, List.countP_nil, List.any_cons, List.any_nil, s0, s2, s3, s6]
  rcases o with _ | _ | _ | _ | _ | _ | _ | _ | o
  all_goals first | decide +kernel | omega
/-! ### The second -/
def exB : ByteArray := ⟨#[130, 1, 0, 2, 1]⟩
theorem aB0 : atI (zZ exB) ⟨0, 0⟩ = (⟨130, 0, 0, 1, 0, 0, 3⟩, 0) := (oneI_at exB 0 (by decide)).trans (by decide +kernel)
theorem aB3 : atI (zZ exB) ⟨0, 3⟩ = (⟨2, 0, 0, 0, 0, 0, 1⟩, 0) := (oneI_at exB 3 (by decide)).trans (by decide +kernel)
theorem aB4 : atI (zZ exB) ⟨0, 4⟩ = (⟨1, 0, 0, 0, 0, 0, 1⟩, 0) := (oneI_at exB 4 (by decide)).trans (by decide +kernel)
theorem fB0 : fl (zZ exB) ⟨0, 0⟩ = ⟨[⟨0, 3⟩], [⟨0, 4⟩], [], false, false, false⟩ := by unfold fl; rw [aB0]; kernel_rfl
theorem fB3 : fl (zZ exB) ⟨0, 3⟩ = ⟨[], [], [], false, false, false⟩ := by unfold fl; rw [aB3]; kernel_rfl
theorem fB4 : fl (zZ exB) ⟨0, 4⟩ = ⟨[], [], [], false, false, false⟩ := by unfold fl; rw [aB4]; kernel_rfl
def rtB0 : yT := ⟨⟨0, 0⟩, false, ⟨0, 0⟩, [⟨0, 0⟩, ⟨0, 3⟩], [⟨0, 4⟩], []⟩
def rtB4 : yT := ⟨⟨0, 4⟩, false, ⟨0, 0⟩, [⟨0, 4⟩], [], []⟩
theorem isB0 : zW (zZ exB) ⟨0, 0⟩ rtB0 := by
  have h0 := RtI.start (zZ exB) ⟨0, 0⟩
  have h1 := h0.next (by simp) aB0 fB0
  have h2 : RtI (zZ exB) ⟨0, 0⟩ [⟨0, 0⟩, ⟨0, 3⟩] [] := h1.next (by decide) aB3 fB3
  refine zW.allOk h2 (notThunk aB0 (by decide)) (fun p hp => ?_) (fun p hp => ?_) (by decide) (fun p => Iff.rfl) (by decide) (fun q => ⟨fun h => ⟨⟨0, 0⟩, by simp, by rw [fB0]; exact h⟩, fun ⟨p, hp, hq⟩ => ?_⟩)
  · simp only [List.mem_cons, List.not_mem_nil, or_false] at hp
    rcases hp with rfl | rfl
    · exact okOf aB0
    · exact okOf aB3
  · simp only [List.mem_cons, List.not_mem_nil, or_false] at hp
    rcases hp with rfl | rfl
    · rw [fB0]; rfl
    · rw [fB3]; rfl
  · simp only [List.mem_cons, List.not_mem_nil, or_false] at hp
    rcases hp with rfl | rfl
    · rw [fB0] at hq; exact hq
    · rw [fB3] at hq; cases hq
theorem isB4 : zW (zZ exB) ⟨0, 4⟩ rtB4 := by
  have h0 := RtI.start (zZ exB) ⟨0, 4⟩
  have h1 : RtI (zZ exB) ⟨0, 4⟩ [⟨0, 4⟩] [] := h0.next (by simp) aB4 fB4
  refine zW.allOk h1 (notThunk aB4 (by decide)) (fun p hp => ?_) (fun p hp => ?_) (by decide) (fun p => Iff.rfl) .nil (fun q => ⟨fun h => by (cases h), fun ⟨p, hp, hq⟩ => ?_⟩)
  · rw [List.mem_singleton.1 hp]; exact okOf aB4
  · rw [List.mem_singleton.1 hp, fB4]; rfl
  · rw [List.mem_singleton.1 hp, fB4] at hq; exact hq
theorem rtsB : ye (zZ exB) [] (some [rtB0, rtB4]) := by
  have h0 : zW (zZ exB) rtB0.entry rtB0 := isB0
  have h4 : zW (zZ exB) rtB4.entry rtB4 := isB4
  refine ye.given (by decide) (by decide) (fun r hr => ?_) (by decide) (fun h => absurd rfl h) (by simp) (fun r hr => ?_) (fun r hr => ?_) (fun p hp => ?_)
  · simp only [List.mem_cons, List.not_mem_nil, or_false] at hr
    rcases hr with rfl | rfl
    · exact h0
    · exact h4
  · simp only [List.mem_cons, List.not_mem_nil, or_false] at hr
    rcases hr with rfl | rfl
    · decide
    · decide
  · simp only [List.mem_cons, List.not_mem_nil, or_false] at hr
    rcases hr with rfl | rfl <;> simp [rtB0, rtB4]
  · simp only [List.map_cons, List.map_nil, List.mem_cons, List.not_mem_nil, or_false] at hp
    rcases hp with rfl | rfl
    · exact .first
    · exact .call (e := ⟨0, 0⟩) .first isB0 (by decide)
theorem lstB {L : LstS} (h : IsLst (zZ exB) [] L) : L.rts = [rtB0, rtB4] := by
  rw [h.uniq (.inr ⟨_, [⟨0, 0⟩, ⟨0, 3⟩, ⟨0, 4⟩], rtsB, ⟨by decide, fun p => by simp [rtB0, rtB4, or_assoc]⟩, .inr ⟨by decide, rfl⟩⟩)]
  rfl
/-! ### The third -/
def exC : ByteArray := ⟨#[255]⟩
theorem aC0 : atI (zZ exC) ⟨0, 0⟩ = (ya, 11) := (oneI_at exC 0 (by decide)).trans (by decide +kernel)
def rtC : yT := ⟨⟨0, 0⟩, false, ⟨0, 0⟩, [], [], [⟨11, ⟨0, 0⟩⟩]⟩
theorem noC : ¬ okI (zZ exC) ⟨0, 0⟩ := by unfold okI; rw [aC0]; decide
theorem isC : zW (zZ exC) ⟨0, 0⟩ rtC := by
  have h0 := RtI.start (zZ exC) ⟨0, 0⟩
  have h1 : RtI (zZ exC) ⟨0, 0⟩ [⟨0, 0⟩] [] := h0.visit (N := []) (by simp) (fun n => absurd n noC) (fun _ => rfl)
  refine zW.ofDone (notThunk aC0 (by decide)) h1.done .nil .nil (by simp) (fun p => ⟨fun h => by (cases h), fun ⟨hp, hk⟩ => ?_⟩) (fun q => ⟨fun h => by (cases h), fun ⟨p, hp, hk, _⟩ => ?_⟩) (fun x => ⟨fun h => ?_, fun ⟨hp, hk⟩ => ?_⟩)
  · rw [List.mem_singleton.1 hp] at hk; exact absurd hk noC
  · rw [List.mem_singleton.1 hp] at hk; exact absurd hk noC
  · rw [List.mem_singleton.1 h]
    exact ⟨by simp, .inl ⟨noC, by rw [aC0]⟩⟩
  · have h2 := List.mem_singleton.1 hp
    rw [h2] at hk
    rcases hk with ⟨-, hk⟩ | ⟨hk, -⟩
    · rw [aC0] at hk
      exact List.mem_singleton.2 (zP.ext' hk h2)
    · exact absurd hk noC
theorem rtsC : ye (zZ exC) [] (some [rtC]) := ye.given (by simp [rtC]) (by simp) (fun r hr => by rw [List.mem_singleton.1 hr]; exact isC) (by simp [rtC, zZ]) (fun h => absurd rfl h) (by simp) (fun r hr => by rw [List.mem_singleton.1 hr]; simp [rtC]) (fun r hr => by rw [List.mem_singleton.1 hr]; simp [rtC]) (fun p hp => by
  simp only [List.map_cons, List.map_nil, List.mem_singleton] at hp
  rw [hp]
  exact .first)
theorem lstC {L : LstS} (h : IsLst (zZ exC) [] L) : L.rts = [rtC] := by
  rw [h.uniq (.inr ⟨_, [], rtsC, ⟨.nil, fun p => by simp [rtC]⟩, .inr ⟨by decide, rfl⟩⟩)]
  rfl
end Go.Proofs.YteofmaiojepdkaaGreat
namespace Go.Proofs.YteofmaiojepdkaaGreat
open Go
def retI : zj := ⟨[filB fun _ => 2], 0, 0, []⟩
theorem retI_ok : retI.Ok := by
  refine ⟨zn 1, show 1 ≤ 64 by decide, fun t ht => ?_, show (0 : Int) ≤ 0 ∧ (0 : Int) < 65536 by decide, show (0 : Int) ≤ 0 ∧ (0 : Int) < 65536 by decide, fun o ho => ?_, Nat.zero_le _⟩
  · rw [List.mem_singleton.1 ht]; exact filB_size _
  · cases ho
def plN (k : Nat) : zc := ⟨0, k⟩
def insR : Ins := ⟨2, 0, 0, 0, 0, 0, 1⟩
theorem retI_at {k : Nat} (hk : k < 4096) : atI retI (plN k) = (insR, 0) := by
  have h : zw (plN k) = k := by unfold zw plN; dsimp only; omega
  rw [at_fil (f := fun _ => 2) rfl (by unfold inI ym retI plN; simp; omega) (fun _ => by omega), h]
  unfold atF
  have hs : zm 2 = 1 := by decide +kernel
  rw [hs, if_neg (by omega), if_neg (by omega)]
  have hw : winB (fun _ => 2) k (1 : Int).toNat = ⟨#[2]⟩ := rfl
  rw [hw, if_pos (by decide +kernel)]
  exact congrArg (fun x => (x, (0 : Int))) (show decI ⟨#[2]⟩ = insR by decide +kernel)
theorem retI_fl {k : Nat} (hk : k < 4096) : fl retI (plN k) = ⟨[], [], [], false, false, false⟩ := by
  unfold fl
  rw [retI_at hk]
  kernel_rfl
def rtR (k : Nat) : yT := ⟨plN k, false, ⟨0, 0⟩, [plN k], [], []⟩
theorem retI_rt {k : Nat} (hk : k < 4096) : zW retI (plN k) (rtR k) := by
  have h1 : RtI retI (plN k) [plN k] [] := (RtI.start retI (plN k)).next (by simp) (retI_at hk) (retI_fl hk)
  refine zW.allOk h1 (notThunk (retI_at hk) (by decide)) (fun p hp => ?_) (fun p hp => ?_) (List.pairwise_singleton _ _) (fun p => Iff.rfl) .nil (fun q => ⟨fun h => by (cases h), fun ⟨p, hp, hq⟩ => ?_⟩)
  · rw [List.mem_singleton.1 hp]; exact okOf (retI_at hk)
  · rw [List.mem_singleton.1 hp, retI_fl hk]; rfl
  · rw [List.mem_singleton.1 hp, retI_fl hk] at hq; exact hq
def yJ (n : Nat) : List zc := (List.range n).map plN
theorem moreN_mem {n : Nat} {p : zc} : p ∈ yJ n ↔ ∃ k, k < n ∧ p = plN k := by
  unfold yJ
  simp only [List.mem_map, List.mem_range]
  exact ⟨fun ⟨k, h1, h2⟩ => ⟨k, h1, h2.symm⟩, fun ⟨k, h1, h2⟩ => ⟨k, h1, h2.symm⟩⟩
theorem moreN_so (n : Nat) : (yJ n).Pairwise zU := by
  unfold yJ
  rw [List.pairwise_map]
  exact List.pairwise_lt_range.imp fun {a b} h => .inr ⟨rfl, by unfold plN; dsimp only; omega⟩
theorem moreN_len (n : Nat) : (yJ n).length = n := by unfold yJ; simp
def rtsN (n : Nat) : List yT := (List.range n).map rtR
theorem rtsN_en (n : Nat) : (rtsN n).map (·.entry) = yJ n := by unfold rtsN yJ; rw [List.map_map]; rfl
theorem rtsN_mem {n : Nat} {r : yT} : r ∈ rtsN n ↔ ∃ k, k < n ∧ r = rtR k := by
  unfold rtsN
  simp only [List.mem_map, List.mem_range]
  exact ⟨fun ⟨k, h1, h2⟩ => ⟨k, h1, h2.symm⟩, fun ⟨k, h1, h2⟩ => ⟨k, h1, h2.symm⟩⟩
theorem retI_few {n : Nat} (h1 : 1 ≤ n) (h2 : n ≤ 2000) {L : LstS} (h : IsLst retI (yJ n) L) : L.rts.length = n ∧ L.iss = [] := by
  have hr : ye retI (yJ n) (some (rtsN n)) := by
    refine ye.given (by rw [rtsN_en]; exact moreN_so n) (by unfold rtsN; simp; omega) (fun r hr => ?_) ?_ (fun h => absurd rfl h) (fun p hp => by rw [rtsN_en]; exact hp) (fun r hr q hq => ?_) (fun r hr ht => ?_) (fun p hp => ?_)
    · obtain ⟨k, hk, rfl⟩ := rtsN_mem.1 hr
      exact retI_rt (by omega)
    · rw [rtsN_en]; exact moreN_mem.2 ⟨0, h1, rfl⟩
    · obtain ⟨k, hk, rfl⟩ := rtsN_mem.1 hr
      cases hq
    · obtain ⟨k, hk, rfl⟩ := rtsN_mem.1 hr
      cases ht
    · rw [rtsN_en] at hp; exact .more hp
  have hi : IsItems (rtsN n) (yJ n) := ⟨moreN_so n, fun p => by
    rw [moreN_mem]
    constructor
    · rintro ⟨k, hk, rfl⟩; exact ⟨rtR k, rtsN_mem.2 ⟨k, hk, rfl⟩, by simp [rtR]⟩
    · rintro ⟨r, hr, hp⟩
      obtain ⟨k, hk, rfl⟩ := rtsN_mem.1 hr
      exact ⟨k, hk, List.mem_singleton.1 hp⟩⟩
  rw [h.uniq (.inr ⟨_, _, hr, hi, .inr ⟨by rw [moreN_len]; omega, rfl⟩⟩)]
  refine ⟨by show (rtsN n).length = n; unfold rtsN; simp, ?_⟩
  show ((yJ n).filter (z8 retI (yJ n))).map _ = []
  rw [List.filter_eq_nil_iff.2, List.map_nil]
  intro p hp
  obtain ⟨k, hk, rfl⟩ := moreN_mem.1 hp
  unfold z8
  have hz : szI retI (plN k) = 1 := by unfold szI; rw [retI_at (by omega)]; rfl
  rw [hz]
  have hc : yp retI (yJ n) (plN k).bank.toNat (zw (plN k) + 0) ≤ 1 := by
    unfold yp yJ
    rw [List.countP_map]
    have h1 : (List.range n).countP (covP retI (plN k).bank.toNat (zw (plN k) + 0) ∘ plN) ≤ (List.range n).countP (fun j => decide (j = k)) := List.countP_mono_left fun j hj hcv => by
      have hj2 := List.mem_range.1 hj
      simp only [Function.comp_apply, covP, Bool.and_eq_true, decide_eq_true_eq] at hcv
      have hzj : szI retI (plN j) = 1 := by unfold szI; rw [retI_at (by omega)]; rfl
      have oj : zw (plN j) = j := by unfold zw plN; dsimp only; omega
      have ok : zw (plN k) = k := by unfold zw plN; dsimp only; omega
      rw [hzj, oj, ok] at hcv
      exact decide_eq_true (by omega)
    have h3 := List.nodup_iff_count.1 (List.nodup_range (n := n)) k
    refine Nat.le_trans h1 (Nat.le_trans (Nat.le_of_eq ?_) h3)
    unfold List.count
    congr 1
  simp only [List.range_one, List.any_cons, List.any_nil, Bool.or_false, decide_eq_true_eq]
  omega
theorem retI_many {n : Nat} (h1 : 2000 < n) {L : LstS} (h : IsLst retI (yJ n) L) : L.rts = [] ∧ L.iss = [⟨2, ⟨0, 0⟩⟩] := by
  have hr : ye retI (yJ n) none := ⟨yJ n, sorted_nodup zU.irr (moreN_so n), fun p hp => .more hp, by rw [moreN_len]; exact h1⟩
  rw [h.uniq (.inl ⟨hr, rfl⟩)]
  exact ⟨rfl, rfl⟩
end Go.Proofs.YteofmaiojepdkaaGreat
