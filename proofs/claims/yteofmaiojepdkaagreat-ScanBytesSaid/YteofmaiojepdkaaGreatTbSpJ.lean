/- The law ScanClosed, walked. Condition: the numbers lie in their types' ranges. -/
import Derived.Test.YteofmaiojepdkaaGreatTbRfD
set_option linter.all false
namespace Go.Proofs.YteofmaiojepdkaaGreat
open Go
theorem yu.allOk {I : zk} {e : zb} {D C L : List zb} (h : RtI I e D []) (ht : ¬ yS I e) (hok : ∀ p ∈ D, okI I p) (hi : ∀ p ∈ D, (fl I p).iss = []) (sc : C.Pairwise zP) (hC : ∀ p, p ∈ C ↔ p ∈ D) (sl : L.Pairwise zP) (hL : ∀ q, q ∈ L ↔ ∃ p, p ∈ D ∧ q ∈ (fl I p).cl) : yu I e ⟨e, false, ⟨0, 0⟩, C, L, []⟩ :=
 yu.ofDone ht h.done sc sl .nil (fun p => by rw [hC]; exact ⟨fun hp => ⟨hp, hok p hp⟩, fun hp => hp.1⟩)
  (fun q => by rw [hL]; exact ⟨fun ⟨p, h1, h2⟩ => ⟨p, h1, hok p h1, h2⟩, fun ⟨p, h1, _, h2⟩ => ⟨p, h1, h2⟩⟩)
  (fun x => ⟨fun hx => by simp at hx, fun ⟨h1, h2⟩ => by
   rcases h2 with ⟨h2, -⟩ | ⟨-, h2⟩
   ·exact absurd (hok _ h1) h2
   ·rw [hi _ h1] at h2; cases h2⟩)
theorem yz.given {I : zk} {more : List zb} {R : List xc} (hs : (R.map (·.entry)).Pairwise zP) (hn : R.length ≤ 2000) (hr : ∀ r ∈ R, yu I r.entry r)
  (h0 : (⟨0, I.entry⟩ : zb) ∈ R.map (·.entry)) (hv : I.vector ≠ 0 → (⟨0, I.vector⟩ : zb) ∈ R.map (·.entry)) (hm : ∀ p ∈ more, p ∈ R.map (·.entry)) (hc : ∀ r ∈ R, ∀ q ∈ r.calls, q ∈ R.map (·.entry))
  (ht : ∀ r ∈ R, r.thunk = true → r.dest ∈ R.map (·.entry)) (he : ∀ p ∈ R.map (·.entry), Ent I more p) : yz I more (some R) :=
 (⟨h0, hv, hm, he, hr, xf zP.irr hs, fun r hr => List.mem_map.2 ⟨r, hr, rfl⟩, hc, ht⟩ : EntI I more (R.map (·.entry)) R).rtns (fun p hp => hp) hn hs (fun r => Iff.rfl)
theorem clsL_eq {I : zk} {c c' : Nat → Nat → Int} (h : clsL I c = clsL I c') {b o : Nat} (hb : b < I.banks.length) (ho : o < 4096) : c b o = c' b o := by
 have h1 := congrArg (fun l => (l[b]?).map fun r : List Int => r[o]?) h
 unfold clsL at h1
 simp only [List.getElem?_map, List.getElem?_range hb, Option.map_some, List.getElem?_range ho, Option.some.injEq] at h1
 exact h1
theorem oneI_ok (s : ByteArray) : (yJ s).Ok := by
 refine ⟨zn 1, show 1 ≤ 64 by decide, fun t ht => ?_, show (0 : Int) ≤ 0 ∧ (0 : Int) < 65536 by decide, show (0 : Int) ≤ 0 ∧ (0 : Int) < 65536 by decide, fun o ho => ?_, Nat.zero_le _⟩
 ·rw [List.mem_singleton.1 ht]; exact filB_size _
 ·cases ho
theorem oneI_at (s : ByteArray) (o : Nat) (ho : o < 4096) : atI (yJ s) ⟨0, o⟩ = atF (pageF 0 s) o := by
 have h : zI ⟨0, o⟩ = o := by unfold zI; dsimp only; omega
 rw [at_fil (f := pageF 0 s) rfl (by unfold inI yg yJ; simp; omega) (pageF_bd 0 s), h]
def exA : ByteArray := ⟨#[96, 1, 2, 48, 0, 7, 2]⟩
theorem aA0 : atI (yJ exA) ⟨0, 0⟩ = (⟨96, 0, 0, 1, 0, 0, 2⟩, 0) := (oneI_at exA 0 (by decide)).trans (by decide +kernel)
theorem aA2 : atI (yJ exA) ⟨0, 2⟩ = (⟨2, 0, 0, 0, 0, 0, 1⟩, 0) := (oneI_at exA 2 (by decide)).trans (by decide +kernel)
theorem aA3 : atI (yJ exA) ⟨0, 3⟩ = (⟨48, 0, 0, 7, 0, 0, 3⟩, 0) := (oneI_at exA 3 (by decide)).trans (by decide +kernel)
theorem aA6 : atI (yJ exA) ⟨0, 6⟩ = (⟨2, 0, 0, 0, 0, 0, 1⟩, 0) := (oneI_at exA 6 (by decide)).trans (by decide +kernel)
theorem fA0 : fl (yJ exA) ⟨0, 0⟩ = ⟨[⟨0, 2⟩, ⟨0, 3⟩], [], [], false, false, false⟩ := by unfold fl; rw [aA0]; kernel_rfl
theorem fA2 : fl (yJ exA) ⟨0, 2⟩ = ⟨[], [], [], false, false, false⟩ := by unfold fl; rw [aA2]; kernel_rfl
theorem fA3 : fl (yJ exA) ⟨0, 3⟩ = ⟨[⟨0, 6⟩], [], [], false, false, false⟩ := by unfold fl; rw [aA3]; kernel_rfl
theorem fA6 : fl (yJ exA) ⟨0, 6⟩ = ⟨[], [], [], false, false, false⟩ := by unfold fl; rw [aA6]; kernel_rfl
theorem okOf {I : zk} {p : zb} {x : Ins} (h : atI I p = (x, 0)) : okI I p := by unfold okI; rw [h]
theorem RtI.next {I : zk} {e p : zb} {D Q : List zb} {x : Ins} {f : zO} (h : RtI I e D (p :: Q)) (hp : p ∉ D) (ha : atI I p = (x, 0)) (hf : fl I p = f) : RtI I e (D ++ [p]) (Q ++ f.nx) := h.visit hp (fun _ => by rw [hf]) (fun n => absurd (okOf ha) n)
theorem notThunk {I : zk} {p : zb} {x : Ins} {k : Int} (h : atI I p = (x, k)) (hx : x.op ≠ 131) : ¬ yS I p := fun ht => hx (by have := ht.2; rw [h] at this; exact this)
def rtA : xc := ⟨⟨0, 0⟩, false, ⟨0, 0⟩, [⟨0, 0⟩, ⟨0, 2⟩, ⟨0, 3⟩, ⟨0, 6⟩], [], []⟩
theorem isA : yu (yJ exA) ⟨0, 0⟩ rtA := by
 have h0 := RtI.start (yJ exA) ⟨0, 0⟩
 have h1 := h0.next (by simp) aA0 fA0
 have h2 : RtI (yJ exA) ⟨0, 0⟩ [⟨0, 0⟩, ⟨0, 2⟩] [⟨0, 3⟩] := h1.next (by decide) aA2 fA2
 have h3 : RtI (yJ exA) ⟨0, 0⟩ [⟨0, 0⟩, ⟨0, 2⟩, ⟨0, 3⟩] [⟨0, 6⟩] := h2.next (by decide) aA3 fA3
 have h4 : RtI (yJ exA) ⟨0, 0⟩ [⟨0, 0⟩, ⟨0, 2⟩, ⟨0, 3⟩, ⟨0, 6⟩] [] := h3.next (by decide) aA6 fA6
 refine yu.allOk h4 (notThunk aA0 (by decide)) (fun p hp => ?_) (fun p hp => ?_) (by decide) (fun p => Iff.rfl) .nil (fun q => ⟨fun h => by (cases h), fun ⟨p, hp, hq⟩ => ?_⟩)
 ·simp only [List.mem_cons, List.not_mem_nil, or_false] at hp
  rcases hp with rfl | rfl | rfl | rfl
  ·exact okOf aA0
  ·exact okOf aA2
  ·exact okOf aA3
  ·exact okOf aA6
 ·simp only [List.mem_cons, List.not_mem_nil, or_false] at hp
  rcases hp with rfl | rfl | rfl | rfl
  ·rw [fA0]; rfl
  ·rw [fA2]; rfl
  ·rw [fA3]; rfl
  ·rw [fA6]; rfl
 ·simp only [List.mem_cons, List.not_mem_nil, or_false] at hp
  rcases hp with rfl | rfl | rfl | rfl
  ·rw [fA0] at hq; exact hq
  ·rw [fA2] at hq; exact hq
  ·rw [fA3] at hq; exact hq
  ·rw [fA6] at hq; exact hq
theorem rtsA : yz (yJ exA) [] (some [rtA]) := yz.given (by simp [rtA]) (by simp) (fun r hr => by rw [List.mem_singleton.1 hr]; exact isA) (by simp [rtA, yJ]) (fun h => absurd rfl h) (by simp) (fun r hr => by rw [List.mem_singleton.1 hr]; simp [rtA]) (fun r hr => by rw [List.mem_singleton.1 hr]; simp [rtA]) (fun p hp => by
 simp only [List.map_cons, List.map_nil, List.mem_singleton] at hp
 rw [hp]
 exact .first)
theorem lstA {L : LstS} (h : IsLst (yJ exA) [] L) : L = fullL (yJ exA) [rtA] rtA.code :=
 h.uniq (.inr ⟨_, rtA.code, rtsA, ⟨by decide, fun p => by simp⟩, .inr ⟨by decide, rfl⟩⟩)
theorem clA (o : Nat) (ho : o < 8) : clOf (yJ exA) rtA.code 0 o = [1, 2, 1, 1, 2, 2, 1, 0].getD o 0 := by
 have hz : yj (yJ exA) 0 o = 0 := rfl
 have ht : inTab (yJ exA) rtA.code 0 o = false := by
  unfold inTab rtA
  simp [fA0, fA2, fA3, fA6]
 unfold clOf yX
 rw [ht, hz]
 have s0 : szI (yJ exA) ⟨0, 0⟩ = 2 := by unfold szI; rw [aA0]; rfl
 have s2 : szI (yJ exA) ⟨0, 2⟩ = 1 := by unfold szI; rw [aA2]; rfl
 have s3 : szI (yJ exA) ⟨0, 3⟩ = 3 := by unfold szI; rw [aA3]; rfl
 have s6 : szI (yJ exA) ⟨0, 6⟩ = 1 := by unfold szI; rw [aA6]; rfl
 unfold covP rtA
 simp only [List.countP_cons, List.countP_nil, List.any_cons, List.any_nil, s0, s2, s3, s6]
 rcases o with _ | _ | _ | _ | _ | _ | _ | _ | o
 all_goals first | decide +kernel | omega
def exB : ByteArray := ⟨#[130, 1, 0, 2, 1]⟩
theorem aB0 : atI (yJ exB) ⟨0, 0⟩ = (⟨130, 0, 0, 1, 0, 0, 3⟩, 0) := (oneI_at exB 0 (by decide)).trans (by decide +kernel)
theorem aB3 : atI (yJ exB) ⟨0, 3⟩ = (⟨2, 0, 0, 0, 0, 0, 1⟩, 0) := (oneI_at exB 3 (by decide)).trans (by decide +kernel)
theorem aB4 : atI (yJ exB) ⟨0, 4⟩ = (⟨1, 0, 0, 0, 0, 0, 1⟩, 0) := (oneI_at exB 4 (by decide)).trans (by decide +kernel)
theorem fB0 : fl (yJ exB) ⟨0, 0⟩ = ⟨[⟨0, 3⟩], [⟨0, 4⟩], [], false, false, false⟩ := by unfold fl; rw [aB0]; kernel_rfl
theorem fB3 : fl (yJ exB) ⟨0, 3⟩ = ⟨[], [], [], false, false, false⟩ := by unfold fl; rw [aB3]; kernel_rfl
theorem fB4 : fl (yJ exB) ⟨0, 4⟩ = ⟨[], [], [], false, false, false⟩ := by unfold fl; rw [aB4]; kernel_rfl
def rtB0 : xc := ⟨⟨0, 0⟩, false, ⟨0, 0⟩, [⟨0, 0⟩, ⟨0, 3⟩], [⟨0, 4⟩], []⟩
def rtB4 : xc := ⟨⟨0, 4⟩, false, ⟨0, 0⟩, [⟨0, 4⟩], [], []⟩
theorem isB0 : yu (yJ exB) ⟨0, 0⟩ rtB0 := by
 have h0 := RtI.start (yJ exB) ⟨0, 0⟩
 have h1 := h0.next (by simp) aB0 fB0
 have h2 : RtI (yJ exB) ⟨0, 0⟩ [⟨0, 0⟩, ⟨0, 3⟩] [] := h1.next (by decide) aB3 fB3
 refine yu.allOk h2 (notThunk aB0 (by decide)) (fun p hp => ?_) (fun p hp => ?_) (by decide) (fun p => Iff.rfl) (by decide) (fun q => ⟨fun h => ⟨⟨0, 0⟩, by simp, by rw [fB0]; exact h⟩, fun ⟨p, hp, hq⟩ => ?_⟩)
 ·simp only [List.mem_cons, List.not_mem_nil, or_false] at hp
  rcases hp with rfl | rfl
  ·exact okOf aB0
  ·exact okOf aB3
 ·simp only [List.mem_cons, List.not_mem_nil, or_false] at hp
  rcases hp with rfl | rfl
  ·rw [fB0]; rfl
  ·rw [fB3]; rfl
 ·simp only [List.mem_cons, List.not_mem_nil, or_false] at hp
  rcases hp with rfl | rfl
  ·rw [fB0] at hq; exact hq
  ·rw [fB3] at hq; cases hq
theorem isB4 : yu (yJ exB) ⟨0, 4⟩ rtB4 := by
 have h0 := RtI.start (yJ exB) ⟨0, 4⟩
 have h1 : RtI (yJ exB) ⟨0, 4⟩ [⟨0, 4⟩] [] := h0.next (by simp) aB4 fB4
 refine yu.allOk h1 (notThunk aB4 (by decide)) (fun p hp => ?_) (fun p hp => ?_) (by decide) (fun p => Iff.rfl) .nil (fun q => ⟨fun h => by (cases h), fun ⟨p, hp, hq⟩ => ?_⟩)
 ·rw [List.mem_singleton.1 hp]; exact okOf aB4
 ·rw [List.mem_singleton.1 hp, fB4]; rfl
 ·rw [List.mem_singleton.1 hp, fB4] at hq; exact hq
theorem rtsB : yz (yJ exB) [] (some [rtB0, rtB4]) := by
 have h0 : yu (yJ exB) rtB0.entry rtB0 := isB0
 have h4 : yu (yJ exB) rtB4.entry rtB4 := isB4
 refine yz.given (by decide) (by decide) (fun r hr => ?_) (by decide) (fun h => absurd rfl h) (by simp) (fun r hr => ?_) (fun r hr => ?_) (fun p hp => ?_)
 ·simp only [List.mem_cons, List.not_mem_nil, or_false] at hr
  rcases hr with rfl | rfl
  ·exact h0
  ·exact h4
 ·simp only [List.mem_cons, List.not_mem_nil, or_false] at hr
  rcases hr with rfl | rfl
  ·decide
  ·decide
 ·simp only [List.mem_cons, List.not_mem_nil, or_false] at hr
  rcases hr with rfl | rfl <;> simp [rtB0, rtB4]
 ·simp only [List.map_cons, List.map_nil, List.mem_cons, List.not_mem_nil, or_false] at hp
  rcases hp with rfl | rfl
  ·exact .first
  ·exact .call (e := ⟨0, 0⟩) .first isB0 (by decide)
theorem lstB {L : LstS} (h : IsLst (yJ exB) [] L) : L.rts = [rtB0, rtB4] := by
 rw [h.uniq (.inr ⟨_, [⟨0, 0⟩, ⟨0, 3⟩, ⟨0, 4⟩], rtsB, ⟨by decide, fun p => by simp [rtB0, rtB4, or_assoc]⟩, .inr ⟨by decide, rfl⟩⟩)]
 rfl
def exC : ByteArray := ⟨#[255]⟩
theorem aC0 : atI (yJ exC) ⟨0, 0⟩ = (yr, 11) := (oneI_at exC 0 (by decide)).trans (by decide +kernel)
def rtC : xc := ⟨⟨0, 0⟩, false, ⟨0, 0⟩, [], [], [⟨11, ⟨0, 0⟩⟩]⟩
theorem noC : ¬ okI (yJ exC) ⟨0, 0⟩ := by unfold okI; rw [aC0]; decide
theorem isC : yu (yJ exC) ⟨0, 0⟩ rtC := by
 have h0 := RtI.start (yJ exC) ⟨0, 0⟩
 have h1 : RtI (yJ exC) ⟨0, 0⟩ [⟨0, 0⟩] [] := h0.visit (N := []) (by simp) (fun n => absurd n noC) (fun _ => rfl)
 refine yu.ofDone (notThunk aC0 (by decide)) h1.done .nil .nil (by simp) (fun p => ⟨fun h => by (cases h), fun ⟨hp, hk⟩ => ?_⟩) (fun q => ⟨fun h => by (cases h), fun ⟨p, hp, hk, _⟩ => ?_⟩) (fun x => ⟨fun h => ?_, fun ⟨hp, hk⟩ => ?_⟩)
 ·rw [List.mem_singleton.1 hp] at hk; exact absurd hk noC
 ·rw [List.mem_singleton.1 hp] at hk; exact absurd hk noC
 ·rw [List.mem_singleton.1 h]
  exact ⟨by simp, .inl ⟨noC, by rw [aC0]⟩⟩
 ·have h2 := List.mem_singleton.1 hp
  rw [h2] at hk
  rcases hk with ⟨-, hk⟩ | ⟨hk, -⟩
  ·rw [aC0] at hk
   exact List.mem_singleton.2 (zM.ext' hk h2)
  ·exact absurd hk noC
theorem rtsC : yz (yJ exC) [] (some [rtC]) := yz.given (by simp [rtC]) (by simp) (fun r hr => by rw [List.mem_singleton.1 hr]; exact isC) (by simp [rtC, yJ]) (fun h => absurd rfl h) (by simp) (fun r hr => by rw [List.mem_singleton.1 hr]; simp [rtC]) (fun r hr => by rw [List.mem_singleton.1 hr]; simp [rtC]) (fun p hp => by
 simp only [List.map_cons, List.map_nil, List.mem_singleton] at hp
 rw [hp]
 exact .first)
theorem lstC {L : LstS} (h : IsLst (yJ exC) [] L) : L.rts = [rtC] := by
 rw [h.uniq (.inr ⟨_, [], rtsC, ⟨.nil, fun p => by simp [rtC]⟩, .inr ⟨by decide, rfl⟩⟩)]
 rfl
end Go.Proofs.YteofmaiojepdkaaGreat
namespace Go.Proofs.YteofmaiojepdkaaGreat
open Go Go.RowKit Go.Maps Go.Sort
theorem own_at {w : World} {B s n : Nat} {T : TypeId} {v : Value} {xs : List Value} (h : w.ownsRow B T s v n xs) (hn : 0 < n) : ∃ g cap, v = .slice (some ⟨g, 0, none⟩) n cap ∧ n ≤ cap ∧ ∀ k, k < xs.length → w.cell? ⟨g, k, none⟩ = xs[k]? := by
 obtain ⟨A, cap, rfl, -, -⟩ := zt h
 have hr := yd h
 obtain ⟨hl, h⟩ := h
 rcases h with ⟨-, h0⟩ | ⟨g, cap, cur, he, hB, hg, -⟩
 ·omega
 ·simp only [Value.slice.injEq, true_and] at he
  obtain ⟨rfl, rfl⟩ := he
  refine ⟨g, cap, rfl, hr.le, fun k hk => ?_⟩
  obtain ⟨g2, off, cur2, T2, fr2, e2, hg2, hc2⟩ := hr.at_ hn
  simp only [Option.some.injEq, Addr.mk.injEq, and_true] at e2
  obtain ⟨rfl, rfl⟩ := e2
  rw [cell_of_row _ _ _ _ _ _ hg2, ← hc2 k hk, Nat.zero_add]
theorem one_snd {R : List RtR} {r : xc} (h : [r] = R.map (·.1)) : ∃ a b c, R = [(r, a, b, c)] := by
 match R, h with
 | [(r', a, b, c)], h =>
  simp only [List.map_cons, List.map_nil, List.cons.injEq, and_true] at h
  exact ⟨a, b, c, by rw [h]⟩
 | [], h => cases h
 | _ :: _ :: _, h => simp at h
theorem two_snd {R : List RtR} {r s : xc} (h : [r, s] = R.map (·.1)) : ∃ a b c d e f, R = [(r, a, b, c), (s, d, e, f)] := by
 match R, h with
 | [(r', a, b, c), (s', d, e, f)], h =>
  simp only [List.map_cons, List.map_nil, List.cons.injEq, and_true] at h
  obtain ⟨rfl, rfl⟩ := h
  exact ⟨a, b, c, d, e, f, rfl⟩
 | [], h => cases h
 | [_], h => simp at h
 | _ :: _ :: _ :: _, h => simp at h
theorem xW {w wx : World} {a : Addr} {v : Value} (hb : Below w.heap.size w wx) (h : w.cell? a = some v) : wx.cell? a = some v := (hb.cell (World.block_lt_of_cell? _ _ h)).trans h
def bytA : List Int := [1, 2, 1, 1, 2, 2, 1, 0]
structure ExA (gc g0 gr : Nat) (A : Option Addr) (c : Nat) (W : World) : Prop where
 cd : W.cell? ⟨gr, 5, none⟩ = some (.slice A 4 c)
 cl : W.cell? ⟨gc, 0, none⟩ = some (.slice (some ⟨g0, 0, none⟩) 4096 4096)
 by_ : ∀ i, i < 8 → W.cell? ⟨g0, i, none⟩ = some (.int .u8 (bytA.getD i 0))
theorem ExA.below {gc g0 gr : Nat} {A : Option Addr} {c : Nat} {W W' : World} (h : ExA gc g0 gr A c W) (hb : Below W.heap.size W W') : ExA gc g0 gr A c W' := ⟨xW hb h.cd, xW hb h.cl, fun i hi => xW hb (h.by_ i hi)⟩
theorem scanA (g : Nat) (w : World) (hV : yG w (yJ exA) (some ⟨g, 0, none⟩) 1 none 0) :
  Calls Tryz.prog 17 #[.agg #[.slice (some ⟨g, 0, none⟩) 1 1, .int .u16 0, .int .u16 0, .slice none 0 0, .slice none 0 0], .slice none 0 0] w fun e w' => (∃ gc cc gr cr ia ni ic g0 A c, e = .returned (.agg #[.slice (some ⟨gc, 0, none⟩) 1 cc, .slice (some ⟨gr, 0, none⟩) 1 cr, .slice ia ni ic]) ∧ 1 ≤ cc ∧ 1 ≤ cr ∧ ExA gc g0 gr A c w') ∧ Below w.heap.size w w' := by
 refine (scan_any (yJ exA) (oneI_ok _) (some ⟨g, 0, none⟩) 1 none 0 none 0 0 [] (by simp) (by simp) none 0 w hV ⟨zn _, rfl, fun h => absurd h (by decide)⟩ (fun _ _ h => by cases h)).mono ?_
 rintro e w' ⟨L, vc, vr, vi, rfl, hL, ⟨⟨gs, c, hgl, hc, hcl⟩, ⟨R, hR, hrt⟩, hi⟩, hb⟩
 have hE := lstA hL
 rw [hE] at hcl hrt
 obtain ⟨v1, v2, v3, rfl⟩ := one_snd hrt
 have hgl1 : gs.length = 1 := hgl
 obtain ⟨g0, rfl⟩ : ∃ g0, gs = [g0] := by
  match gs, hgl1 with
  | [g0], _ => exact ⟨g0, rfl⟩
 obtain ⟨gc, cc, rfl, hcc, hcx⟩ := own_at hc.own (Nat.zero_lt_one)
 obtain ⟨gr, cr, rfl, hcr, hrx⟩ := own_at hR.own (Nat.zero_lt_succ _)
 have hx := hR.rv (rtA, v1, v2, v3) (by simp)
 obtain ⟨A, ca, he, -, -⟩ := zt hx.oc
 dsimp only at he
 subst he
 obtain ⟨ia, ic, rfl, -, -⟩ := zt hi
 refine ⟨⟨gc, cc, gr, cr, ia, _, ic, g0, A, ca, rfl, hcc, hcr, ?_, ?_, fun i hi => ?_⟩, hb⟩
 ·rw [hrx 5 (by simp [x6])]; rfl
 ·rw [hcx 0 (by simp)]; rfl
 ·rw [cell_of_row _ _ _ _ _ _ (hc.row 0 g0 rfl), yM _ (by omega), ← clsL_eq hcl (by decide) (by omega), clA i hi]; rfl
structure ExB (gr gl : Nat) (cl : Nat) (W : World) : Prop where
 cl : W.cell? ⟨gr, 6, none⟩ = some (.slice (some ⟨gl, 0, none⟩) 1 cl)
 l0 : W.cell? ⟨gl, 0, none⟩ = some (.int .i64 0)
 l1 : W.cell? ⟨gl, 1, none⟩ = some (.int .u16 4)
 e0 : W.cell? ⟨gr, 8, none⟩ = some (.int .i64 0)
 e1 : W.cell? ⟨gr, 9, none⟩ = some (.int .u16 4)
theorem ExB.below {gr gl cl : Nat} {W W' : World} (h : ExB gr gl cl W) (hb : Below W.heap.size W W') : ExB gr gl cl W' := ⟨xW hb h.cl, xW hb h.l0, xW hb h.l1, xW hb h.e0, xW hb h.e1⟩
theorem scanB (g : Nat) (w : World) (hV : yG w (yJ exB) (some ⟨g, 0, none⟩) 1 none 0) :
  Calls Tryz.prog 17 #[.agg #[.slice (some ⟨g, 0, none⟩) 1 1, .int .u16 0, .int .u16 0, .slice none 0 0, .slice none 0 0], .slice none 0 0] w fun e w' => (∃ va vn vk gr cr ia ni ic gl cl, e = .returned (.agg #[.slice va vn vk, .slice (some ⟨gr, 0, none⟩) 2 cr, .slice ia ni ic]) ∧ 2 ≤ cr ∧ 1 ≤ cl ∧ ExB gr gl cl w') ∧ Below w.heap.size w w' := by
 refine (scan_any (yJ exB) (oneI_ok _) (some ⟨g, 0, none⟩) 1 none 0 none 0 0 [] (by simp) (by simp) none 0 w hV ⟨zn _, rfl, fun h => absurd h (by decide)⟩ (fun _ _ h => by cases h)).mono ?_
 rintro e w' ⟨L, vc, vr, vi, rfl, hL, ⟨⟨gs, c, -, hc, -⟩, ⟨R, hR, hrt⟩, hi⟩, hb⟩
 obtain ⟨va, vk, rfl, -, -⟩ := zt hc.own
 obtain ⟨ia, ic, rfl, -, -⟩ := zt hi
 rw [lstB hL] at hrt
 obtain ⟨v1, v2, v3, v4, v5, v6, rfl⟩ := two_snd hrt
 obtain ⟨gr, cr, rfl, hcr, hrx⟩ := own_at hR.own (Nat.zero_lt_succ _)
 have hx := hR.rv (rtB0, v1, v2, v3) (by simp)
 obtain ⟨gl, cl, he, hcl, hlx⟩ := own_at hx.ol (Nat.zero_lt_succ 0)
 dsimp only at he
 subst he
 refine ⟨⟨va, _, vk, gr, cr, ia, _, ic, gl, cl, rfl, hcr, hcl, ?_, ?_, ?_, ?_, ?_⟩, hb⟩
 ·rw [hrx 6 (by simp [x6])]; rfl
 ·rw [hlx 0 (show 0 < 2 by decide)]; rfl
 ·rw [hlx 1 (show 1 < 2 by decide)]; rfl
 ·rw [hrx 8 (by simp [x6])]; rfl
 ·rw [hrx 9 (by simp [x6])]; rfl
structure ExC (gr : Nat) (A : Option Addr) (c : Nat) (Ai : Option Addr) (ci : Nat) (W : World) : Prop where
 cd : W.cell? ⟨gr, 5, none⟩ = some (.slice A 0 c)
 is_ : W.cell? ⟨gr, 7, none⟩ = some (.slice Ai 1 ci)
 ri : RdS W 3 Ai 1 ci (yf [⟨11, ⟨0, 0⟩⟩])
theorem ExC.below {gr : Nat} {A : Option Addr} {c : Nat} {Ai : Option Addr} {ci : Nat} {W W' : World} (h : ExC gr A c Ai ci W) (hb : Below W.heap.size W W') : ExC gr A c Ai ci W' := ⟨xW hb h.cd, xW hb h.is_, h.ri.below hb⟩
theorem scanC (g : Nat) (w : World) (hV : yG w (yJ exC) (some ⟨g, 0, none⟩) 1 none 0) :
  Calls Tryz.prog 17 #[.agg #[.slice (some ⟨g, 0, none⟩) 1 1, .int .u16 0, .int .u16 0, .slice none 0 0, .slice none 0 0], .slice none 0 0] w fun e w' => (∃ va vn vk gr cr ia ni ic A c Ai ci, e = .returned (.agg #[.slice va vn vk, .slice (some ⟨gr, 0, none⟩) 1 cr, .slice ia ni ic]) ∧ 1 ≤ cr ∧ ExC gr A c Ai ci w') ∧ Below w.heap.size w w' := by
 refine (scan_any (yJ exC) (oneI_ok _) (some ⟨g, 0, none⟩) 1 none 0 none 0 0 [] (by simp) (by simp) none 0 w hV ⟨zn _, rfl, fun h => absurd h (by decide)⟩ (fun _ _ h => by cases h)).mono ?_
 rintro e w' ⟨L, vc, vr, vi, rfl, hL, ⟨⟨gs, c, -, hc, -⟩, ⟨R, hR, hrt⟩, hi⟩, hb⟩
 obtain ⟨va, vk, rfl, -, -⟩ := zt hc.own
 obtain ⟨ia, ic, rfl, -, -⟩ := zt hi
 rw [lstC hL] at hrt
 obtain ⟨v1, v2, v3, rfl⟩ := one_snd hrt
 obtain ⟨gr, cr, rfl, hcr, hrx⟩ := own_at hR.own (Nat.zero_lt_succ _)
 have hx := hR.rv (rtC, v1, v2, v3) (by simp)
 obtain ⟨A, c, he, -, -⟩ := zt hx.oc
 obtain ⟨Ai, ci, he2, -, -⟩ := zt hx.oi
 have hoi := hx.oi
 dsimp only at he he2 hoi
 subst he he2
 refine ⟨⟨va, _, vk, gr, cr, ia, _, ic, A, c, Ai, ci, rfl, hcr, ?_, ?_, yd hoi⟩, hb⟩
 ·rw [hrx 5 (by simp [x6])]; rfl
 ·rw [hrx 7 (by simp [x6])]; rfl
set_option maxRecDepth 100000 in
set_option maxHeartbeats 8000000 in
theorem sane_any (w : World) : Calls Tryz.prog 14 #[] w fun e w' => e = .returned (.bool true) ∧ Below w.heap.size w w' := by
 have HIA := zh (fun W => show Calls Tryz.prog 36 #[.string ⟨#[96, 1, 2, 48, 0, 7, 2]⟩] W fun e w' => (∃ g, e = .returned (.agg #[.slice (some ⟨g, 0, none⟩) 1 1, .int .u16 0, .int .u16 0, .slice none 0 0, .slice none 0 0]) ∧ yG w' (yJ exA) (some ⟨g, 0, none⟩) 1 none 0) ∧ Below W.heap.size W w' from image_any exA (by decide) W)
 have HIB := zh (fun W => show Calls Tryz.prog 36 #[.string ⟨#[130, 1, 0, 2, 1]⟩] W fun e w' => (∃ g, e = .returned (.agg #[.slice (some ⟨g, 0, none⟩) 1 1, .int .u16 0, .int .u16 0, .slice none 0 0, .slice none 0 0]) ∧ yG w' (yJ exB) (some ⟨g, 0, none⟩) 1 none 0) ∧ Below W.heap.size W w' from image_any exB (by decide) W)
 have HIC := zh (fun W => show Calls Tryz.prog 36 #[.string ⟨#[255]⟩] W fun e w' => (∃ g, e = .returned (.agg #[.slice (some ⟨g, 0, none⟩) 1 1, .int .u16 0, .int .u16 0, .slice none 0 0, .slice none 0 0]) ∧ yG w' (yJ exC) (some ⟨g, 0, none⟩) 1 none 0) ∧ Below W.heap.size W w' from image_any exC (by decide) W)
 go_enter Tryz.func14, Tryz.ntmps14
 have HB0 := zh (Below.refl w.heap.size w)
 go_upto_region 2 with (first
  | (go_at_call 36; (with_reducible refine (HIA.out _).mono ?_); rintro e3 w3A ⟨⟨ga, rfl, hva⟩, hb3⟩; have HV3 := zh hva; have HB3 := zh hb3; clear hb3 hva)
  | (refine stN ?_))
 have hq : Below w3A.heap.size w3A (w3A.alloc (.cells #[.slice (some ⟨ga, 0, none⟩) 1 1, .int .u16 0, .int .u16 0, .slice none 0 0, .slice none 0 0] 31)) := (Below.refl _ _).alloc (zn _) _
 have hi4 := heap_alloc_new w3A (.cells #[.slice (some ⟨ga, 0, none⟩) 1 1, .int .u16 0, .int .u16 0, .slice none 0 0, .slice none 0 0] 31)
 have hbb := HB3.out.trans (hq.mono HB3.out.size)
 have HV4 := zh (HV3.out.below hq)
 have HB0 := zh (HB0.out.trans (hbb.mono HB0.out.size))
 obtain ⟨w4A, hw4⟩ : ∃ w4, w3A.alloc (.cells #[.slice (some ⟨ga, 0, none⟩) 1 1, .int .u16 0, .int .u16 0, .slice none 0 0, .slice none 0 0] 31) = w4 := ⟨_, rfl⟩
 rw [hw4] at hq hi4 hbb HV4 HB0 ⊢
 have HI4 := zh hi4
 have HS4 := zh (scanA ga w4A HV4.out)
 clear hw4 hq hi4 hbb HB3 HV3 HV4
 go_upto_region 3 with (first
  | (refine ldT 31 (HI4.out) ?_)
  | (go_at_call 17; (with_reducible refine HS4.out.mono ?_); rintro e5 w5A ⟨⟨gc, cc, gr, cr, iaA, niA, icA, g0, A, c, rfl, hcc, hcr, hex⟩, hb⟩; have HE5 := zh hex; have HB5 := zh hb; clear hex hb)
  | (refine stN ?_))
 have hq : Below w5A.heap.size w5A (w5A.alloc (.cells #[.slice (some ⟨gc, 0, none⟩) 1 cc, .slice (some ⟨gr, 0, none⟩) 1 cr, .slice iaA niA icA] 38)) := (Below.refl _ _).alloc (zn _) _
 have hl6 := heap_alloc_new w5A (.cells #[.slice (some ⟨gc, 0, none⟩) 1 cc, .slice (some ⟨gr, 0, none⟩) 1 cr, .slice iaA niA icA] 38)
 have hbb := HB5.out.trans (hq.mono HB5.out.size)
 have XA := zh (HE5.out.below hq)
 have HB0 := zh (HB0.out.trans (hbb.mono HB0.out.size))
 obtain ⟨w6A, hw6⟩ : ∃ w6, w5A.alloc (.cells #[.slice (some ⟨gc, 0, none⟩) 1 cc, .slice (some ⟨gr, 0, none⟩) 1 cr, .slice iaA niA icA] 38) = w6 := ⟨_, rfl⟩
 rw [hw6] at hq hl6 hbb XA HB0 ⊢
 have LA := zh hl6
 clear hw6 hq hl6 hbb HB5 HE5 HI4 HS4
 go_upto_region 4 with (first
  | (go_at_call 36; (with_reducible refine (HIB.out _).mono ?_); rintro e3 w3B ⟨⟨gb, rfl, hva⟩, hb3⟩; have HV3 := zh hva; have HB3 := zh hb3; clear hb3 hva)
  | (refine stN ?_))
 have hq : Below w3B.heap.size w3B (w3B.alloc (.cells #[.slice (some ⟨gb, 0, none⟩) 1 1, .int .u16 0, .int .u16 0, .slice none 0 0, .slice none 0 0] 31)) := (Below.refl _ _).alloc (zn _) _
 have hi4 := heap_alloc_new w3B (.cells #[.slice (some ⟨gb, 0, none⟩) 1 1, .int .u16 0, .int .u16 0, .slice none 0 0, .slice none 0 0] 31)
 have hbb := HB3.out.trans (hq.mono HB3.out.size)
 have XA := zh (XA.out.below hbb)
 have LA := zh (za hbb LA.out)
 have HV4 := zh (HV3.out.below hq)
 have HB0 := zh (HB0.out.trans (hbb.mono HB0.out.size))
 obtain ⟨w4B, hw4⟩ : ∃ w4, w3B.alloc (.cells #[.slice (some ⟨gb, 0, none⟩) 1 1, .int .u16 0, .int .u16 0, .slice none 0 0, .slice none 0 0] 31) = w4 := ⟨_, rfl⟩
 rw [hw4] at hq hi4 hbb HV4 HB0 ⊢
 rw [hw4] at XA LA
 have HI4 := zh hi4
 have HS4 := zh (scanB gb w4B HV4.out)
 clear hw4 hq hi4 hbb HB3 HV3 HV4
 go_upto_region 5 with (first
  | (refine ldT 31 (HI4.out) ?_)
  | (go_at_call 17; (with_reducible refine HS4.out.mono ?_); rintro e5 w5B ⟨⟨vaB, vnB, vkB, grB, crB, iaB, niB, icB, glB, clB, rfl, hcrB, hclB, hex⟩, hb⟩; have HE5 := zh hex; have HB5 := zh hb; clear hex hb)
  | (refine stN ?_))
 have hq : Below w5B.heap.size w5B (w5B.alloc (.cells #[.slice vaB vnB vkB, .slice (some ⟨grB, 0, none⟩) 2 crB, .slice iaB niB icB] 38)) := (Below.refl _ _).alloc (zn _) _
 have hl6 := heap_alloc_new w5B (.cells #[.slice vaB vnB vkB, .slice (some ⟨grB, 0, none⟩) 2 crB, .slice iaB niB icB] 38)
 have hbb := HB5.out.trans (hq.mono HB5.out.size)
 have XA := zh (XA.out.below hbb)
 have LA := zh (za hbb LA.out)
 have XB := zh (HE5.out.below hq)
 have HB0 := zh (HB0.out.trans (hbb.mono HB0.out.size))
 obtain ⟨w6B, hw6⟩ : ∃ w6, w5B.alloc (.cells #[.slice vaB vnB vkB, .slice (some ⟨grB, 0, none⟩) 2 crB, .slice iaB niB icB] 38) = w6 := ⟨_, rfl⟩
 rw [hw6] at hq hl6 hbb XB HB0 ⊢
 rw [hw6] at XA LA
 have LB := zh hl6
 clear hw6 hq hl6 hbb HB5 HE5 HI4 HS4
 go_upto_region 6 with (first
  | (go_at_call 36; (with_reducible refine (HIC.out _).mono ?_); rintro e3 w3C ⟨⟨gd, rfl, hva⟩, hb3⟩; have HV3 := zh hva; have HB3 := zh hb3; clear hb3 hva)
  | (refine stN ?_))
 have hq : Below w3C.heap.size w3C (w3C.alloc (.cells #[.slice (some ⟨gd, 0, none⟩) 1 1, .int .u16 0, .int .u16 0, .slice none 0 0, .slice none 0 0] 31)) := (Below.refl _ _).alloc (zn _) _
 have hi4 := heap_alloc_new w3C (.cells #[.slice (some ⟨gd, 0, none⟩) 1 1, .int .u16 0, .int .u16 0, .slice none 0 0, .slice none 0 0] 31)
 have hbb := HB3.out.trans (hq.mono HB3.out.size)
 have XA := zh (XA.out.below hbb)
 have LA := zh (za hbb LA.out)
 have XB := zh (XB.out.below hbb)
 have LB := zh (za hbb LB.out)
 have HV4 := zh (HV3.out.below hq)
 have HB0 := zh (HB0.out.trans (hbb.mono HB0.out.size))
 obtain ⟨w4C, hw4⟩ : ∃ w4, w3C.alloc (.cells #[.slice (some ⟨gd, 0, none⟩) 1 1, .int .u16 0, .int .u16 0, .slice none 0 0, .slice none 0 0] 31) = w4 := ⟨_, rfl⟩
 rw [hw4] at hq hi4 hbb HV4 HB0 ⊢
 rw [hw4] at XA LA XB LB
 have HI4 := zh hi4
 have HS4 := zh (scanC gd w4C HV4.out)
 clear hw4 hq hi4 hbb HB3 HV3 HV4
 go_upto_region 7 with (first
  | (refine ldT 31 (HI4.out) ?_)
  | (go_at_call 17; (with_reducible refine HS4.out.mono ?_); rintro e5 w5C ⟨⟨vaC, vnC, vkC, grC, crC, iaC, niC, icC, AC, cC, AiC, ciC, rfl, hcrC, hex⟩, hb⟩; have HE5 := zh hex; have HB5 := zh hb; clear hex hb)
  | (refine stN ?_))
 have hq : Below w5C.heap.size w5C (w5C.alloc (.cells #[.slice vaC vnC vkC, .slice (some ⟨grC, 0, none⟩) 1 crC, .slice iaC niC icC] 38)) := (Below.refl _ _).alloc (zn _) _
 have hl6 := heap_alloc_new w5C (.cells #[.slice vaC vnC vkC, .slice (some ⟨grC, 0, none⟩) 1 crC, .slice iaC niC icC] 38)
 have hbb := HB5.out.trans (hq.mono HB5.out.size)
 have XA := zh (XA.out.below hbb)
 have LA := zh (za hbb LA.out)
 have XB := zh (XB.out.below hbb)
 have LB := zh (za hbb LB.out)
 have XC := zh (HE5.out.below hq)
 have HB0 := zh (HB0.out.trans (hbb.mono HB0.out.size))
 obtain ⟨w6C, hw6⟩ : ∃ w6, w5C.alloc (.cells #[.slice vaC vnC vkC, .slice (some ⟨grC, 0, none⟩) 1 crC, .slice iaC niC icC] 38) = w6 := ⟨_, rfl⟩
 rw [hw6] at hq hl6 hbb XC HB0 ⊢
 rw [hw6] at XA LA XB LB
 have LC := zh hl6
 clear hw6 hq hl6 hbb HB5 HE5 HI4 HS4
 clear HIA HIB HIC
 have hcA := fun o => cell_of_row w6C w5A.heap.size o _ _ _ LA.out
 have hg0 := XA.out.cl
 have hg5 := XA.out.cd
 have hcv : (convert 73 9 (.slice (some ⟨g0, 0, none⟩) 8 4096)).run Tryz.prog w6C = .ok (.string ⟨#[1, 2, 1, 1, 2, 2, 1, 0]⟩) w6C := by
  rw [run_convert_bytes_arg w6C _ _ Tryz.underlying73 Tryz.underlying5 g0 0 8 4096 bytA rfl (fun i hi => by rw [Nat.zero_add]; exact XA.out.by_ i hi) _ Tryz.underlying9]
  rfl
 go_upto_if 51 with fail
 clear hcA hg0 hg5 hcv
 have hcB := fun o => cell_of_row w6C w5B.heap.size o _ _ _ LB.out
 have h1 := XB.out.cl
 have h2 := XB.out.l0
 have h3 := XB.out.l1
 have h4 := XB.out.e0
 have h5 := XB.out.e1
 go_upto_if 84 with fail
 clear hcB h1 h2 h3 h4 h5
 have hcC := fun o => cell_of_row w6C w5C.heap.size o _ _ _ LC.out
 have h1 := XC.out.cd
 have h2 := XC.out.is_
 have HB4 := zh (show Below w6C.heap.size w6C (w6C.alloc (y8 ⟨11, ⟨0, 0⟩⟩)) from (Below.refl _ _).alloc (zn _) _)
 have HIS := zh (show Calls Tryz.prog 32 #[.slice AiC 1 ciC, .slice (some ⟨w6C.heap.size, 0, none⟩) 1 1] (w6C.alloc (y8 ⟨11, ⟨0, 0⟩⟩)) fun e w' => e = .returned (.bool true) ∧ Below (w6C.alloc (y8 ⟨11, ⟨0, 0⟩⟩)).heap.size (w6C.alloc (y8 ⟨11, ⟨0, 0⟩⟩)) w' from
  issues_any [⟨11, ⟨0, 0⟩⟩] [⟨11, ⟨0, 0⟩⟩] AiC (some ⟨w6C.heap.size, 0, none⟩) ciC 1 _ (XC.out.ri.below HB4.out) ⟨zn _, rfl, fun _ => ⟨w6C.heap.size, 0, _, _, _, rfl, heap_alloc_new w6C _, fun j hj => by
   match j, hj with
   | 0, _ => rfl
   | 1, _ => rfl
   | 2, _ => rfl⟩⟩ (by decide) (by decide))
 go_wp2_with (first
  | (go_at_call 32; (with_reducible refine HIS.out.mono ?_); rintro e9 w9 ⟨rfl, hb9⟩; have HB9 := zh hb9; clear hb9))
 go_ret
 exact ⟨rfl, HB0.out.trans ((HB4.out.trans (HB9.out.mono HB4.out.size)).mono HB0.out.size)⟩
end Go.Proofs.YteofmaiojepdkaaGreat
namespace Go.Proofs.YteofmaiojepdkaaGreat
open Go Go.RowKit Go.Maps Go.Sort
theorem rd_ptr {w : World} {B s n : Nat} {T : TypeId} {A : Option Addr} {c : Nat} {xs : List Value} (h : w.ownsRow B T s (.slice A n c) n xs) : ∀ g off, A = some ⟨g, off, none⟩ → g < w.heap.size := fun g off e => by
 subst e
 exact (h.lt g rfl).2
end Go.Proofs.YteofmaiojepdkaaGreat
namespace Go.Proofs.YteofmaiojepdkaaGreat
open Go Go.RowKit Go.Maps Go.Sort
theorem routine5_in {R : List RtR} {p : zb} {A : Option Addr} {c : Nat} {w : World} (h : RdS w 8 A R.length c (R.flatMap x6)) (hl : R.length ≤ 9223372036854775807) (hp : p ∈ yy R) :
  Calls Tryz.prog 21 #[.slice A R.length c, .agg #[.int .i64 p.bank, .int .u16 p.addr]] w fun e w' => (∃ k : Nat, e = .returned (.int .i64 k)) ∧ Below w.heap.size w w' :=
 (routine5_any R p A c w h hl).mono fun e w' ⟨h, hb⟩ => by
  rcases h with ⟨k, x, -, -, rfl⟩ | ⟨h, -⟩
  ·exact ⟨⟨k, rfl⟩, hb⟩
  ·exact absurd hp h
end Go.Proofs.YteofmaiojepdkaaGreat
