/- The reference of chapter 05: what routines holds in memory. No condition beyond what each states. -/
import Derived.Test.YteofmaiojepdkaaGreatTbRpE
import Derived.Test.YteofmaiojepdkaaGreatTbSpJ
set_option linter.all false
namespace Go.Proofs.YteofmaiojepdkaaGreat
open Go Go.RowKit Go.Maps Go.Sort
theorem routine5_at {R : List RtR} {p : zb} {A : Option Addr} {c : Nat} {w : World} (h : RdS w 8 A R.length c (R.flatMap x6)) (hl : R.length ≤ 9223372036854775807) (hp : p ∈ yy R) :
  Calls Tryz.prog 21 #[.slice A R.length c, .agg #[.int .i64 p.bank, .int .u16 p.addr]] w fun e w' => (∃ (k : Nat) (x : RtR), R[k]? = some x ∧ x.1.entry = p ∧ e = .returned (.int .i64 k)) ∧ Below w.heap.size w w' :=
 (routine5_any R p A c w h hl).mono fun e w' ⟨h, hb⟩ => by
  rcases h with h | ⟨h, -⟩
  ·exact ⟨h, hb⟩
  ·exact absurd hp h
def SrP (I : zk) (B : Nat) (R : List RtR) (E : List zb) (w : World) (e : Ending) (w' : World) : Prop := ∃ S A c, e = .returned (.slice A S.length c) ∧ RnsV I B S (.slice A S.length c) w' ∧ yy S = E ∧ (∀ x ∈ S, x ∈ R) ∧ Below w.heap.size w w'
theorem rts_snoc (S : List RtR) (x : RtR) : S.flatMap x6 ++ x6 x = (S ++ [x]).flatMap x6 := by rw [List.flatMap_append]; simp
theorem rtvL_one {I : zk} {x : RtR} {w : World} (h : RtD I x.1 x.2.1 x.2.2.1 x.2.2.2 w) : ((x6 x).toArray).toList.all (·.oneCell') = true := by
 obtain ⟨⟨A1, k1, e1, -⟩, ⟨A2, k2, e2, -⟩, ⟨A3, k3, e3, -⟩⟩ := h
 unfold x6
 rw [e1, e2, e3]
 rfl
theorem sorted5_many (A1 : Option Addr) (n1 c1 : Nat) (A2 : Option Addr) (n2 c2 : Nat) (h : 2000 < n2) (w : World) :
  Calls Tryz.prog 81 #[.slice A1 n1 c1, .slice A2 n2 c2] w fun e w' => e = .returned (.slice none 0 0) ∧ w' = w := by
 have h1 : (2000 : Int) < (n2 : Int) := by omega
 go_enter Tryz.func81, Tryz.ntmps81
 go_wp2_with fail
 go_ret
 exact ⟨rfl, rfl⟩
set_option maxRecDepth 100000 in
set_option maxHeartbeats 4000000 in
theorem sorted5_any (I : zk) (R : List RtR) (E : List zb) (A1 : Option Addr) (c1 : Nat) (A2 : Option Addr) (c2 : Nat) (w : World) (B : Nat) (hB : B ≤ w.heap.size) (hv : RnsV I B R (.slice A1 R.length c1) w) (hE : RdS w 2 A2 E.length c2 (zp E)) (hl : E.length ≤ 2000) (hin : ∀ p ∈ E, p ∈ yy R) :
  Calls Tryz.prog 81 #[.slice A1 R.length c1, .slice A2 E.length c2] w (SrP I B R E w) := by
 have h : RnsD I R A1 c1 w := ⟨yd hv.own, own_max hv.own, fun x hx => (hv.rv x hx).read⟩
 have HRV := zh hv
 have HR := zh h
 have HE := zh hE
 have HIN := zh hin
 have hle := hE.le
 have hlr := h.le
 have hcr := h.rd.le
 clear h hv hE hin
 have hl2 : ¬ (2000 : Int) < (E.length : Int) := by omega
 go_enter Tryz.func81, Tryz.ntmps81
 go_wp2_with fail
 clear hl2
 go_loopw [5, 6] (fun vo i wr => ∃ (m : Nat) (S : List RtR) (A : Option Addr) (c : Nat), m ≤ E.length ∧ i = .int .i64 m ∧ vo = .slice A m c ∧ Hid (wr.ownsRow w.heap.size 50 8 (.slice A m c) m (S.flatMap x6)) ∧ Hid (yy S = E.take m ∧ ∀ x ∈ S, x ∈ R) ∧ Hid (Below w.heap.size w wr)) (fun _ i _ => E.length - (intOf i).toNat)
 case atStart => exact ⟨0, [], none, 0, Nat.zero_le _, rfl, rfl, zh (World.ownsRow_nil _ _ _ _), zh ⟨rfl, fun x hx => by cases hx⟩, zh (Below.refl _ _)⟩
 case round =>
  obtain ⟨m, S, A, c, hm, rfl, rfl, HO, HS, HB⟩ := hrel
  by_cases hlt : m < E.length
  ·obtain ⟨p, hp⟩ : ∃ p, E[m]? = some p := ⟨_, List.getElem?_eq_getElem hlt⟩
   have hpe := HIN.out p (List.mem_of_getElem? hp)
   have hr0 : 0 < R.length := by
    obtain ⟨x, hx, -⟩ := List.mem_map.1 hpe
    exact List.length_pos_of_mem hx
   obtain ⟨gr, ro, cur, T, fr, rfl, hg, -⟩ := HR.out.rd.at_ hr0
   obtain ⟨g5, o5, c5, T5, f5, rfl, hg5, hex5⟩ := RdS.elt (f := yQ) (fun _ => rfl) HE.out hp
   have HG := zh hg
   have HG5 := zh (za HB.out hg5)
   have HE5 := zh hex5
   have HLT := zh hlt
   have HPP := zh hp
   have HRO := zh (routine5_at (HR.out.below HB.out).rd hlr hpe)
   clear hg hg5 hex5 hpe hp
   go_wp2_with (first
    | (refine lmT 47 ([.int .i64 p.bank, .int .u16 p.addr]) (HG5.out) (HE5.out) ?_)
    | (go_at_call 21; (with_reducible refine HRO.out.mono ?_); rintro e7 w7 ⟨⟨k2, x, hx, hxe, rfl⟩, hb7⟩
       have hk2 : k2 < R.length := (List.getElem?_eq_some_iff.1 hx).1
       have HB7 := zh (HB.out.trans (hb7.mono HB.out.size))
       have HO7 := zh (zi HO.out (zg.ofBelow (bs := fun _ => False) hb7) (fun _ _ e => e))
       have HXX := zh (And.intro hx hxe)
       obtain ⟨gr', ro', cur', T', fr', e7, hg7, hex7⟩ := RdS.elt (f := x6) (fun _ => rfl) (HR.out.below HB7.out).rd hx
       injection e7 with e7
       injection e7 with e71 e72
       subst e71 e72
       have HG7 := zh hg7
       have HE7 := zh hex7
       have HON := zh (rtvL_one (HR.out.rt x (List.mem_of_getElem? hx)))
       clear hx hxe hb7 hg7 hex7)
    | (refine lmT 50 ([.int .i64 x.1.entry.bank, .int .u16 x.1.entry.addr, .bool x.1.thunk, .int .i64 x.1.dest.bank, .int .u16 x.1.dest.addr, x.2.1, x.2.2.1, x.2.2.2]) (HG7.out) (HE7.out) ?_)
    | (at_builtin; go_must
     (refine zJ (.tmp 16) (.tmp 26) 35 50 rfl 8 112 _ infoRtn Tryz.underlying35 rfl (by decide) (by decide) w.heap.size (Nat.le_trans HB7.out.size (by simp)) (.slice A m c) m (S.flatMap x6) rfl (HO7.out.alloc _) (by omega) w7.heap.size 1 _ _ _ rfl (heap_alloc_new w7 _) rfl HON.out (by decide) (by decide) rfl ?_
      intro ga cp w8 ho8 hg8 hv8
      have HO8 := zh ho8
      have HB8 := zh (HB7.out.trans ((((Below.refl w7.heap.size w7).alloc (zn _) _).mono HB7.out.size).grown hg8 (Nat.le_trans HB7.out.size (by simp)) (fun k hk => (HO7.out.lt k hk).1)))
      clear ho8 hg8 hv8)))
   go_roundw
   case rel =>
    refine ⟨m + 1, S ++ [x], _, _, HLT.out, by go_num, rfl, by rw [← rts_snoc]; exact HO8, zh ⟨?_, fun y hy => ?_⟩, HB8⟩
    ·have h1 := HS.out.1
     unfold yy at h1 ⊢
     rw [List.map_append, h1, List.take_succ, HPP.out, ← HXX.out.2]
     rfl
    ·rcases List.mem_append.1 hy with h | h
     ·exact HS.out.2 y h
     ·rw [List.mem_singleton.1 h]; exact List.mem_of_getElem? HXX.out.1
   case measure => have h1 := HLT.out; simp [intOf]; omega
  ·obtain rfl : m = E.length := by omega
   have hSl : S.length = E.length := by
    have h1 := congrArg List.length HS.out.1
    unfold yy at h1
    rwa [List.length_map, List.take_of_length_le (zn _)] at h1
   have HSL := zh hSl
   clear hSl
   go_wp2_with fail
   go_ret
   refine ⟨S, A, c, by rw [HSL.out]; rfl, ⟨by rw [HSL.out]; exact HO.out.mono hB, fun x hx => (HRV.out.rv x (HS.out.2 x hx)).below HB.out⟩, by have h1 := HS.out.1; rwa [List.take_of_length_le (zn _)] at h1, HS.out.2, HB.out⟩
end Go.Proofs.YteofmaiojepdkaaGreat
namespace Go.Proofs.YteofmaiojepdkaaGreat
open Go Go.RowKit Go.Maps Go.Sort
theorem ents_le {I : zk} (hI : I.Ok) {more : List zb} (hm : ∀ p ∈ more, yO p) {V : List zb} (hn : V.Nodup) (hE : ∀ p ∈ V, Ent I more p) : V.length ≤ more.length + 16777220 := by
 have h := yw (m := univ ⟨0, I.entry⟩ ++ (⟨0, I.vector⟩ :: more)) hn fun p hp => by
  rw [List.mem_append, List.mem_cons]
  cases hE p hp with
  | first => exact .inl (mem_univ (.inl rfl))
  | vec _ => exact .inr (.inl rfl)
  | more h => exact .inr (.inr h)
  | call h1 h2 h3 => exact .inl (mem_univ (.inr (h2.calls_inU (h1.plOk hI hm) _ h3)))
  | thunk h1 h2 => exact .inl (mem_univ (.inr (tgt_inU h2.1)))
 rw [List.length_append, univ_len, List.length_cons] at h
 omega
theorem put_own (V : List zb) (p : zb) (A : Option Addr) (c B : Nat) (W : World) (ho : W.ownsRow B 47 2 (.slice A V.length c) V.length (zp V)) (hB : B ≤ W.heap.size) (hl : V.length ≤ 1000000000) :
  Calls Tryz.prog 26 #[.slice A V.length c, .agg #[.int .i64 p.bank, .int .u16 p.addr]] W fun e W' => (∃ A' c', e = .returned (.slice A' (insP V p).length c') ∧ W'.ownsRow B 47 2 (.slice A' (insP V p).length c') (insP V p).length (zp (insP V p))) ∧ Below W.heap.size W W' :=
 (put5_any V p A c W (yd ho) hl).mono fun e W' ⟨A', c', he, _, hx, hb⟩ => by
  refine ⟨⟨A', c', he, ?_⟩, hb⟩
  rcases hx with ⟨rfl, rfl, h⟩ | h
  ·rw [h]
   exact zV ho hb
  ·exact h.mono hB
def EnV (B : Nat) (L : zb → Prop) (n : Nat) (v : Value) (W : World) : Prop := ∃ (V : List zb) (A : Option Addr) (c : Nat), v = .slice A V.length c ∧ W.ownsRow B 47 2 (.slice A V.length c) V.length (zp V) ∧ V.Pairwise zP ∧ V.length ≤ n ∧ ∀ p, p ∈ V ↔ L p
theorem EnV.same {B n n' : Nat} {L L' : zb → Prop} {v : Value} {W : World} (h : EnV B L n v W) (hn : n ≤ n') (hL : ∀ p, L p ↔ L' p) : EnV B L' n' v W := by
 obtain ⟨V, A, c, h1, h2, h3, h4, h5⟩ := h
 exact ⟨V, A, c, h1, h2, h3, Nat.le_trans h4 hn, fun p => (h5 p).trans (hL p)⟩
theorem put_env {B n : Nat} {L : zb → Prop} {v : Value} {W : World} (h : EnV B L n v W) (hB : B ≤ W.heap.size) (hn : n ≤ 1000000000) (p : zb) :
  Calls Tryz.prog 26 #[v, .agg #[.int .i64 p.bank, .int .u16 p.addr]] W fun e W' => (∃ v', e = .returned v' ∧ EnV B (fun q => L q ∨ q = p) (n + 1) v' W') ∧ Below W.heap.size W W' := by
 obtain ⟨V, A, c, rfl, h2, h3, h4, h5⟩ := h
 refine (put_own V p A c B W h2 hB (by omega)).mono fun e W' ⟨⟨A', c', he, ho⟩, hb⟩ => ?_
 refine ⟨⟨_, he, insP V p, A', c', rfl, ho, insP_so h3 p, by have := insP_len h3 p; omega, fun q => ?_⟩, hb⟩
 rw [insP_me h3, h5 q, or_comm]
theorem RnsV.add {I : zk} {B : Nat} {R : List RtR} {v v' : Value} {W W' : World} (h : RnsV I B R v W) {x : RtR} (hx : RtV I B x.1 x.2.1 x.2.2.1 x.2.2.2 W) (ho : W'.ownsRow B 50 8 v' (R.length + 1) (R.flatMap x6 ++ x6 x)) (hg : W.grownBy W' v.ownBlock) : RnsV I B (R ++ [x]) v' W' := by
 have hk : ∀ {y : RtR}, RtV I B y.1 y.2.1 y.2.2.1 y.2.2.2 W → RtV I B y.1 y.2.1 y.2.2.1 y.2.2.2 W' := fun hy =>
  ⟨hy.oc.kept hg (xw hy.oc h.own (by decide)), hy.ol.kept hg (xw hy.ol h.own (by decide)), hy.oi.kept hg (xw hy.oi h.own (by decide))⟩
 refine ⟨by rw [List.length_append, ← rts_snoc]; exact ho, fun y hy => ?_⟩
 rcases List.mem_append.1 hy with hy | hy
 ·exact hk (h.rv y hy)
 ·rw [List.mem_singleton.1 hy]; exact hk hx
theorem RnsV.readD {I : zk} {B : Nat} {R : List RtR} {A : Option Addr} {c : Nat} {W : World} (h : RnsV I B R (.slice A R.length c) W) : RnsD I R A c W := ⟨yd h.own, own_max h.own, fun x hx => (h.rv x hx).read⟩
theorem RtV.turnR {I : zk} {B : Nat} {r : xc} {c l s : Value} {W W' : World} (h : RtV I B r c l s W) {g : Nat} {cs : Array Value} {fr : Nat × Nat} (hg : W.heap[g]? = some (.cells cs 50 fr)) (t : zg (fun k => k = g) W W') : RtV I B r c l s W' :=
 ⟨zi h.oc t (ye h.oc hg (fun _ _ => zm (by decide))), zi h.ol t (ye h.ol hg (fun _ _ => zm (by decide))), zi h.oi t (ye h.oi hg (fun _ _ => zm (by decide)))⟩
theorem rt_kept {I : zk} {w W W' : World} {im : Obj} {V X : List zb} {v5 v8 : Value} {R : List RtR} {v7 : Value} (hx : Bx [im] w W) (hov : W.ownsRow (w.heap.size + 1) 47 2 v5 V.length (zp V)) (hox : W.ownsRow (w.heap.size + 1) 47 2 v8 X.length (zp X)) (hrn : RnsV I (w.heap.size + 1) R v7 W) (hg : W.grownBy W' v7.ownBlock) :
  Bx [im] w W' ∧ W'.ownsRow (w.heap.size + 1) 47 2 v5 V.length (zp V) ∧ W'.ownsRow (w.heap.size + 1) 47 2 v8 X.length (zp X) :=
 ⟨hx.keep (((Below.refl _ W).mono hx.z).grown hg hx.z (fun k hk => (hrn.own.lt k hk).1)), hov.kept hg (xw hov hrn.own (by decide)), hox.kept hg (xw hox hrn.own (by decide))⟩
def RtL (I : zk) (more : List zb) (w : World) (im : Obj) (k : Nat) (v5 v7 : Value) (W : World) : Prop := ∃ (V : List zb) (R : List RtR) (A A' : Option Addr) (c c' : Nat), v5 = .slice A V.length c ∧ v7 = .slice A' R.length c' ∧ 2001 ≤ R.length + k ∧ V.Pairwise zP ∧ EntI I more V (R.map (·.1)) ∧ Bx [im] w W ∧ W.ownsRow (w.heap.size + 1) 47 2 (.slice A V.length c) V.length (zp V) ∧ RnsV I (w.heap.size + 1) R (.slice A' R.length c') W
def RtM (I : zk) (more : List zb) (w : World) (im : Obj) (R0 : List RtR) (X : List zb) (v8 : Value) (m : Nat) (v5 v7 : Value) (W : World) : Prop := ∃ (V : List zb) (R : List RtR) (A A' : Option Addr) (c c' : Nat), v5 = .slice A V.length c ∧ v7 = .slice A' R.length c' ∧ yy R = yy R0 ++ X.take m ∧ (∀ p ∈ X, p ∈ V) ∧ V.Pairwise zP ∧ EntI I more V (R.map (·.1)) ∧ Bx [im] w W ∧ W.ownsRow (w.heap.size + 1) 47 2 (.slice A V.length c) V.length (zp V) ∧ W.ownsRow (w.heap.size + 1) 47 2 v8 X.length (zp X) ∧ RnsV I (w.heap.size + 1) R (.slice A' R.length c') W
def RoP (I : zk) (more : List zb) (w : World) (e : Ending) (w' : World) : Prop := ∃ (S : List RtR) (A : Option Addr) (c : Nat), e = .returned (.slice A S.length c) ∧ RnsV I w.heap.size S (.slice A S.length c) w' ∧ ((yz I more none ∧ S = []) ∨ yz I more (some (S.map (·.1)))) ∧ Below w.heap.size w w'
def newP (E : List zb) (V : List zb) : List zb := V.filter fun p => decide (p ∉ E)
theorem newP_snoc {E V : List zb} {k : Nat} {p : zb} (hp : V[k]? = some p) : newP E (V.take (k + 1)) = if p ∈ E then newP E (V.take k) else newP E (V.take k) ++ [p] := by
 unfold newP
 rw [List.take_succ, hp, List.filter_append]
 by_cases h : p ∈ E <;> simp [h]
theorem newP_len (E V : List zb) : (newP E V).length ≤ V.length := List.length_filter_le _ _
def L0 (I : zk) (q : zb) : Prop := q = ⟨0, I.entry⟩ ∨ (I.vector ≠ 0 ∧ q = ⟨0, I.vector⟩)
def L1 (I : zk) (more : List zb) (k : Nat) (q : zb) : Prop := L0 I q ∨ q ∈ more.take k
def LC (V l : List zb) (j : Nat) (q : zb) : Prop := q ∈ V ∨ q ∈ l.take j
theorem L1_succ {I : zk} {more : List zb} {k : Nat} {p : zb} (hp : more[k]? = some p) (q : zb) : (L1 I more k q ∨ q = p) ↔ L1 I more (k + 1) q := by
 unfold L1
 rw [y2 hp, or_assoc]
theorem LC_succ {V l : List zb} {k : Nat} {p : zb} (hp : l[k]? = some p) (q : zb) : (LC V l k q ∨ q = p) ↔ LC V l (k + 1) q := by
 unfold LC
 rw [y2 hp, or_assoc]
def NxL (w0 : World) (V E : List zb) (j : Nat) (v8 : Value) (W : World) : Prop := ∃ (A : Option Addr) (c : Nat), v8 = .slice A (newP E (V.take j)).length c ∧ W.ownsRow w0.heap.size 47 2 (.slice A (newP E (V.take j)).length c) (newP E (V.take j)).length (zp (newP E (V.take j))) ∧ Below w0.heap.size w0 W
theorem routine5_out {R : List RtR} {p : zb} {A : Option Addr} {c : Nat} {w : World} (h : RdS w 8 A R.length c (R.flatMap x6)) (hl : R.length ≤ 9223372036854775807) (hp : p ∉ yy R) :
  Calls Tryz.prog 21 #[.slice A R.length c, .agg #[.int .i64 p.bank, .int .u16 p.addr]] w fun e w' => e = .returned (.int .i64 (-1)) ∧ Below w.heap.size w w' :=
 (routine5_any R p A c w h hl).mono fun e w' ⟨h, hb⟩ => by
  rcases h with ⟨k, x, h1, h2, -⟩ | ⟨-, he⟩
  ·exact absurd (List.mem_map.2 ⟨x, List.mem_of_getElem? h1, h2⟩) hp
  ·exact ⟨he, hb⟩
theorem nodup_take {α : Type} {l : List α} (h : l.Nodup) {m : Nat} {x : α} (hx : l[m]? = some x) : x ∉ l.take m := fun hm => by
 obtain ⟨i, hi, he⟩ := List.mem_iff_getElem.1 hm
 rw [List.length_take] at hi
 rw [List.getElem_take] at he
 obtain ⟨h1, h2⟩ := List.getElem?_eq_some_iff.1 hx
 have h3 : l[i]? = l[m]? := by rw [hx, List.getElem?_eq_getElem (by omega), he]
 have h4 := (List.getElem?_inj (by omega) h).1 h3
 omega
theorem newP_nil {E V : List zb} (h : (newP E V).length = 0) : ∀ p ∈ V, p ∈ E := fun p hp => by
 have h1 : newP E V = [] := List.eq_nil_of_length_eq_zero h
 unfold newP at h1
 rw [List.filter_eq_nil_iff] at h1
 have h2 := h1 p hp
 simpa using h2
theorem newP_mem {E V : List zb} {p : zb} : p ∈ newP E V ↔ p ∈ V ∧ p ∉ E := by unfold newP; simp
theorem newP_nodup {E V : List zb} (h : V.Nodup) : (newP E V).Nodup := h.filter _
theorem EntI.sorted {I : zk} {more V : List zb} {R S : List RtR} (h : EntI I more V (R.map (·.1))) (hV : V.Pairwise zP) (hd : ∀ p ∈ V, p ∈ yy R) (h2 : V.length ≤ 2000) (hS : yy S = V) (hm : ∀ x ∈ S, x ∈ R) : yz I more (some (S.map (·.1))) := by
 have hd' : ∀ p ∈ V, p ∈ (R.map (·.1)).map (·.entry) := fun p hp => by rw [entL_map]; exact hd p hp
 have hl : (R.map (·.1)).length ≤ 2000 := by
  have h3 := yw h.rn fun p hp => by
   obtain ⟨r, hr, rfl⟩ := List.mem_map.1 hp
   exact h.rv r hr
  rw [List.length_map] at h3
  omega
 refine h.rtns hd' hl (by rw [entL_map, hS]; exact hV) fun r => ⟨fun hr => ?_, fun hr => ?_⟩
 ·obtain ⟨x, hx, rfl⟩ := List.mem_map.1 hr
  exact List.mem_map.2 ⟨x, hm x hx, rfl⟩
 ·have h3 := h.rv r hr
  rw [← hS] at h3
  obtain ⟨x, hx, he⟩ := List.mem_map.1 h3
  have h4 := h.rt x.1 (List.mem_map.2 ⟨x, hm x hx, rfl⟩)
  have h5 := h.rt r hr
  have he' : x.1.entry = r.entry := he
  rw [he'] at h4
  rw [← h4.uniq h5]
  exact List.mem_map.2 ⟨x, hx, rfl⟩
end Go.Proofs.YteofmaiojepdkaaGreat
