/- slices.SortFunc at a slice of one's own: what it holds behind the call. No condition beyond what each states. -/
import Derived.Test.YteofmaiojepdkaaGreatTbShS
import Derived.Test.YteofmaiojepdkaaGreatTbSkO
import Derived.Deep.Onto
import Derived.Shelf.SlSortCmp.WholeK
import Derived.Shelf.SlSortCmp.NoneTotal
set_option linter.all false
namespace Go.Proofs.YteofmaiojepdkaaGreat
open Go Go.RowKit Go.Maps Go.Sort Go.Shelf
section
variable {α : Type} [Inhabited α] {enc : α → List Value} {k : Nat}
theorem flatK_get (hk : ∀ x, (enc x).length = k) (k0 : 0 < k) : ∀ (l : List α) (t : Nat), t < l.length * k → (l.flatMap enc)[t]? = some ((enc l[t / k]!)[t % k]!)
 | [], t, h => by simp at h
 | x :: l, t, h => by
  rw [List.flatMap_cons]
  by_cases ht : t < k
  ·rw [List.getElem?_append_left (by rw [hk]; exact ht), Nat.div_eq_of_lt ht, Nat.mod_eq_of_lt ht, List.getElem?_eq_getElem (by rw [hk]; exact ht)]
   show some ((enc x)[t]'_) = some ((enc x)[t]!)
   rw [getElem!_pos (enc x) t (by rw [hk]; exact ht)]
  ·rw [List.length_cons, Nat.succ_mul] at h
   have e1 : t / k = (t - k) / k + 1 := Nat.div_eq_sub_div k0 (by omega)
   have e2 : t % k = (t - k) % k := Nat.mod_eq_sub_mod (by omega)
   rw [List.getElem?_append_right (by rw [hk]; omega), hk, flatK_get hk k0 l (t - k) (by omega), e1, e2]
   rfl
theorem flatK_len (hk : ∀ x, (enc x).length = k) : ∀ (l : List α), (l.flatMap enc).length = l.length * k
 | [] => by simp
 | x :: l => by rw [List.flatMap_cons, List.length_append, hk, flatK_len hk l, List.length_cons, Nat.succ_mul]; omega
theorem arr_get! (l : List α) (i : Nat) : l.toArray[i]! = l[i]! := by simp
theorem holds_flat {w : World} {g : Nat} {cur : Array Value} {T : TypeId} {l : List α} (hk : ∀ x, (enc x).length = k) (k0 : 0 < k) (hb : w.heap[g]? = some (.cells cur T (0, 0))) (ht : cur.toList.take (l.length * k) = l.flatMap enc) : HoldsK enc k w g 0 l.toArray := by
 intro j hj
 have hj' : j < l.length * k := by simpa using hj
 rw [cell_of_row _ _ _ _ _ _ hb]
 refine ⟨?_, frozen_of_row _ _ _ _ _ hb⟩
 have h1 := flatK_get hk k0 l j hj'
 rw [← ht, List.getElem?_take_of_lt hj', Array.getElem?_toList] at h1
 rw [Nat.zero_add, h1, get_flatK _ _ _ _ (by simpa using hj'), arr_get!]
 rfl
theorem heap_sortK {w : World} {g n : Nat} {os : Array Obj} {cur : Array Value} {T : TypeId} {fr : Nat × Nat} (d : Array α) (hb : w.heap[g]? = some (.cells cur T fr)) :
  (sortWorldK enc k w g 0 n d os).heap[g]? = some (.cells (putCells id 0 (flatK enc k d) cur) T fr) := by
 have hg : g < w.heap.size := (Array.getElem?_eq_some_iff.1 hb).1
 unfold sortWorldK putRowK
 rw [heap_grow_old _ _ (by simpa using hg)]
 simp [putRow, mapBlock, Sort.ahead, Array.getElem?_modify, hb, onCells]
theorem grown_sortK {w : World} {g n : Nat} {os : Array Obj} (d : Array α) : w.grownBy (sortWorldK enc k w g 0 n d os) (some g) := by
 unfold sortWorldK putRowK
 refine ⟨rfl, rfl, rfl, by simp, fun j hj hne => ?_⟩
 rw [heap_grow_old _ _ (by simpa using hj)]
 have : g ≠ j := fun e => hne (by rw [e])
 simp [putRow, mapBlock, Sort.ahead, Array.getElem?_modify, this]
theorem take_flat (hk : ∀ x, (enc x).length = k) (k0 : 0 < k) (cur : Array Value) (l : List α) (h : l.length * k ≤ cur.size) : (putCells id 0 (flatK enc k l.toArray) cur).toList.take (l.length * k) = l.flatMap enc := by
 apply List.ext_getElem?
 intro j
 by_cases hj : j < l.length * k
 ·rw [List.getElem?_take_of_lt hj, Array.getElem?_toList, flatK_get hk k0 l j hj]
  have hs : (flatK enc k l.toArray).size = l.length * k := by simp
  have h1 : (putCells id 0 (flatK enc k l.toArray) cur)[j]? = some ((flatK enc k l.toArray)[j]!) := by
   unfold putCells
   rw [Array.getElem?_mapIdx, Array.getElem?_eq_getElem (show j < cur.size by omega)]
   simp only [Option.map_some]
   rw [if_pos ⟨Nat.zero_le _, by rw [hs]; omega⟩]
   rfl
  rw [h1, get_flatK _ _ _ _ (by simpa using hj), arr_get!]
 ·rw [List.getElem?_take_eq_none (by omega), List.getElem?_eq_none (by rw [flatK_len hk]; omega)]
theorem sort_own {P : Program} {ρ : Ren} (L : SlLaysF0.n6 P ρ) (aE : ∀ w, (isAgg (ρ.t 24)).run P w = .ok true w) (zE : ∀ w, (Go.sizeOf (ρ.t 24)).run P w = .ok k w) (hk : ∀ x, (enc x).length = k) (k0 : 0 < k) (h1 : ∀ x, ∀ v ∈ enc x, v.oneCell' = true)
  (cf : α → α → Int) (bef : α → α → Prop) [∀ a b, Decidable (bef a b)] (hb : ∀ x y, cf x y < 0 ↔ bef x y) (irr : ∀ a, ¬ bef a a) (tr : ∀ a b c, bef a b → bef b c → bef a c) (tri : ∀ a b, bef a b ∨ a = b ∨ bef b a)
  (g : Nat) (cb : Array Value) (eg : ∀ args w, (callFunc g args).run P w = .ok (.enter g args) w) (hcmp : ∀ W x y, Calls P g (#[.agg (enc x).toArray, .agg (enc y).toArray] ++ cb) W fun e w' => e = .returned (.int .i64 (cf x y)) ∧ Grw W w')
  (B : Nat) (T : TypeId) (v : Value) (l : List α) (hnd : l.Nodup) (hsz : l.length < 4611686018427387904) (w : World) (own : w.ownsRow B T k v l.length (l.flatMap enc)) :
  Calls P (ρ.f 6) #[v, .func (.func g) #[] cb] w fun e w' => e = .returned (.tuple #[]) ∧ ∃ l' : List α, l'.Perm l ∧ l'.Pairwise bef ∧ w'.ownsRow B T k v l'.length (l'.flatMap enc) ∧ zg (fun j => v.ownBlock = some j) w w' := by
 rcases own.2 with ⟨rfl, h0⟩ | ⟨g0, cap, cur, rfl, hB, hg, hnc, hcm, hcs, ht⟩
 ·have hl : l = [] := List.eq_nil_of_length_eq_zero h0
  subst hl
  refine (AnyF.slices_SortFunc_none L none 0 (.func (.func g) #[] cb) w).mono ?_
  rintro e w' ⟨rfl, rfl⟩
  exact ⟨rfl, [], List.Perm.refl _, .nil, own, zg.refl _ _⟩
 ·have hlt : ∀ x y, ltOf cf x y = decide (bef x y) := fun x y => by
   unfold ltOf
   exact decide_eq_decide.2 (hb x y)
  have hO : SWO (ltOf cf) := ⟨fun x => by rw [hlt]; simp [irr x], fun x y z h1 h2 => by rw [hlt] at *; simp only [decide_eq_true_eq] at *; exact tr _ _ _ h1 h2, fun x y z h1 h2 => by
   rw [hlt] at *
   simp only [decide_eq_false_iff_not] at *
   intro h3
   rcases tri x y with h | h | h
   ·exact h1 h
   ·subst h; exact h2 h3
   ·exact h2 (tr _ _ _ h h3)⟩
  have hcon := AnyQ.slices_SortFunc L k aE zE enc hk h1 cf hO g cb g0 0 cap l.toArray w eg (fun m os dk _ x y => hcmp _ x y) (holds_flat hk k0 hg ht) (Array.getElem?_eq_some_iff.1 hg).1 (by simpa using hsz)
  rw [show l.toArray.size = l.length by simp] at hcon
  refine hcon.mono ?_
  rintro e w' ⟨rfl, d', n, os, ⟨hs, -, hp⟩, hsd, rfl⟩
  obtain ⟨l', rfl⟩ : ∃ l', d' = List.toArray l' := ⟨d'.toList, by simp⟩
  have hll : l'.length = l.length := by simpa using hs
  have hperm : l'.Perm l := by
   have e1 : l'.toArray.extract 0 l.length = l'.toArray := by rw [← hll]; simp
   have e2 : l.toArray.extract 0 l.length = l.toArray := by simp
   rw [e1, e2] at hp
   exact hp
  have hnd' : l'.Nodup := hperm.nodup_iff.2 hnd
  refine ⟨rfl, l', hperm, ?_, ?_, ?_⟩
  ·rw [List.pairwise_iff_getElem]
   intro i j hi hj hij
   have h2 := hsd i j (Nat.zero_le _) hij (by omega)
   rw [hlt, arr_get!, arr_get!, getElem!_pos l' i hi, getElem!_pos l' j hj] at h2
   simp only [decide_eq_false_iff_not] at h2
   rcases tri l'[i] l'[j] with h | h | h
   ·exact h
   ·exact absurd ((List.getElem_inj hnd').1 h) (by omega)
   ·exact absurd h h2
  ·refine ⟨flatK_len hk l', .inr ⟨g0, cap, _, by rw [hll], hB, heap_sortK _ hg, by omega, hcm, by simp [putCells, hcs], take_flat hk k0 cur l' ?_⟩⟩
   rw [hcs, hll]
   exact Nat.mul_le_mul_right _ hnc
  ·exact (zg.refl _ w).grown (grown_sortK _) (fun j e _ => by injection e with e; rw [← e]; rfl)
end
theorem lt_cmpP (x y : zb) : cmpP x y < 0 ↔ zP x y := by
 unfold cmpP orS Lib.compareInt zP
 by_cases h1 : x.bank < y.bank
 ·simp [h1]
 ·by_cases h2 : x.bank > y.bank
  ·simp [h1, h2]; omega
  ·have h3 : x.bank = y.bank := by omega
   by_cases h4 : x.addr < y.addr
   ·simp [h3, h4]
   ·by_cases h5 : x.addr > y.addr
    ·simp [h3, h4, h5]
    ·simp [h3, h4, h5]
theorem cmpP_zero (x y : zb) : cmpP x y = 0 ↔ x = y := by
 unfold cmpP orS Lib.compareInt
 by_cases h1 : x.bank < y.bank
 ·simp [h1]; intro h; rw [h] at h1; omega
 ·by_cases h2 : x.bank > y.bank
  ·simp [h1, h2]; intro h; rw [h] at h2; omega
  ·have h3 : x.bank = y.bank := by omega
   by_cases h4 : x.addr < y.addr
   ·simp [h3, h4]; intro h; rw [h] at h4; omega
   ·by_cases h5 : x.addr > y.addr
    ·simp [h3, h4, h5]; intro h; rw [h] at h5; omega
    ·simp [h3, h4, h5]
     exact zb.ext' h3 (by omega)
theorem lt_cmpI (x y : zM) : cmpI x y < 0 ↔ yR x y := by
 unfold cmpI
 have e1 : orS (cmpP x.at_ y.at_) (Lib.compareInt x.kind y.kind) < 0 ↔ cmpP x.at_ y.at_ < 0 ∨ (cmpP x.at_ y.at_ = 0 ∧ x.kind < y.kind) := by
  unfold orS
  by_cases h : cmpP x.at_ y.at_ = 0
  ·rw [if_pos h, h]
   unfold Lib.compareInt
   by_cases h1 : x.kind < y.kind
   ·simp [h1]
   ·by_cases h2 : x.kind > y.kind
    ·simp [h1, h2]
    ·simp [h1, h2]
  ·rw [if_neg h]
   simp [h]
 rw [e1, lt_cmpP, cmpP_zero]
 rfl
theorem isAggItm (w : World) : (isAgg 55).run Tryz.prog w = .ok true w := by kernel_rfl
theorem isAggIss (w : World) : (isAgg 58).run Tryz.prog w = .ok true w := by kernel_rfl
theorem isAggPlc (w : World) : (isAgg 47).run Tryz.prog w = .ok true w := by kernel_rfl
theorem sizeOfItm (w : World) : (Go.sizeOf 55).run Tryz.prog w = .ok 9 w := by kernel_rfl
theorem sizeOfIss (w : World) : (Go.sizeOf 58).run Tryz.prog w = .ok 3 w := by kernel_rfl
theorem sizeOfPlc (w : World) : (Go.sizeOf 47).run Tryz.prog w = .ok 2 w := by kernel_rfl
instance : Inhabited zb := ⟨⟨0, 0⟩⟩
instance : Inhabited zM := ⟨⟨0, ⟨0, 0⟩⟩⟩
theorem itmL_one (I : zk) (p : zb) : ∀ v ∈ itmL I p, v.oneCell' = true := fun v hv => by
 simp [itmL] at hv
 rcases hv with rfl | rfl | rfl | rfl | rfl | rfl | rfl | rfl | rfl <;> rfl
theorem issL_one (x : zM) : ∀ v ∈ issL x, v.oneCell' = true := fun v hv => by
 simp [issL] at hv
 rcases hv with rfl | rfl | rfl <;> rfl
theorem sortItm_any (I : zk) (B : Nat) (v : Value) (l : List zb) (hnd : l.Nodup) (hsz : l.length < 4611686018427387904) (w : World) (own : w.ownsRow B 55 9 v l.length (x9 I l)) :
  Calls Tryz.prog 96 #[v, .func (.func 97) #[] #[]] w fun e w' => e = .returned (.tuple #[]) ∧ ∃ l' : List zb, l'.Perm l ∧ l'.Pairwise zP ∧ w'.ownsRow B 55 9 v l'.length (x9 I l') ∧ zg (fun j => v.ownBlock = some j) w w' :=
 sort_own Tryz.sortItm isAggItm sizeOfItm (fun _ => rfl) (by decide) (itmL_one I) cmpP zP lt_cmpP zP.irr zP.tr zP.tri 97 #[] (enters_of Tryz.func97 (by kernel_rfl) rfl) (fun W x y => cmpItem_any x y (atI I x).1 (atI I y).1 W) B _ v l hnd hsz w own
theorem sortIss_any (B : Nat) (v : Value) (l : List zM) (hnd : l.Nodup) (hsz : l.length < 4611686018427387904) (w : World) (own : w.ownsRow B 58 3 v l.length (yf l)) :
  Calls Tryz.prog 98 #[v, .func (.func 99) #[] #[]] w fun e w' => e = .returned (.tuple #[]) ∧ ∃ l' : List zM, l'.Perm l ∧ l'.Pairwise yR ∧ w'.ownsRow B 58 3 v l'.length (yf l') ∧ zg (fun j => v.ownBlock = some j) w w' :=
 sort_own Tryz.sortIss isAggIss sizeOfIss (fun _ => rfl) (by decide) issL_one cmpI yR lt_cmpI yR.irr yR.tr yR.tri 99 #[] (enters_of Tryz.func99 (by kernel_rfl) rfl) (fun W x y => cmpIssue_any x y W) B _ v l hnd hsz w own
theorem sortPlc_any (B : Nat) (v : Value) (l : List zb) (hnd : l.Nodup) (hsz : l.length < 4611686018427387904) (w : World) (own : w.ownsRow B 47 2 v l.length (zp l)) :
  Calls Tryz.prog 104 #[v, .func (.func 74) #[] #[]] w fun e w' => e = .returned (.tuple #[]) ∧ ∃ l' : List zb, l'.Perm l ∧ l'.Pairwise zP ∧ w'.ownsRow B 47 2 v l'.length (zp l') ∧ zg (fun j => v.ownBlock = some j) w w' :=
 sort_own Tryz.sortPlc isAggPlc sizeOfPlc (fun _ => rfl) (by decide) plcL_one cmpP zP lt_cmpP zP.irr zP.tr zP.tri 74 #[] (enters_of Tryz.func74 (by kernel_rfl) rfl) (fun W x y => compare_any x y W) B _ v l hnd hsz w own
set_option maxRecDepth 100000 in
theorem sortedFunc_any (g : Nat) (lb : Array Value) (eg : ∀ args w, (callFunc g args).run Tryz.prog w = .ok (.enter g args) w) (S : List zb → Prop) (N : Nat) (hN : N ≤ 1000000000) (hS : ∀ ss, S ss → ss.Nodup ∧ ss.length ≤ N) (w : World) (hseq : SeqStopsK Fence.wide 4 Tryz.prog g lb (fun p => #[yL p]) KeepsWalks S (fun _ => True) N w) :
  Calls Tryz.prog 72 #[.func (.func g) #[] lb, .func (.func 74) #[] #[]] w fun e w' => ∃ v ss, e = .returned v ∧ (∃ s0, S s0 ∧ ss.Perm s0) ∧ ss.Pairwise zP ∧ w'.ownsRow w.heap.size 47 2 v ss.length (zp ss) ∧ Below w.heap.size w w' := by
 have HA := zh (collect_any g lb eg S N hN w hseq)
 have HS := zh hS
 clear hseq hS
 go_enter Tryz.func72, Tryz.ntmps72
 go_wp2_with (first
  | (go_at_call 103; refine HA.out.mono ?_; rintro e w1 ⟨v, ss, rfl, hS, ho, hb⟩; have H1 := zh hS; have H2 := zh ho; have H3 := zh hb; have HT := zh (sortPlc_any w.heap.size v ss (HS.out ss hS).1 (by have := (HS.out ss hS).2; omega) w1 ho); clear hS ho hb)
  | (go_at_call 104; refine HT.out.mono ?_; rintro e w2 ⟨rfl, l', hp, hs, ho2, ht⟩; have H4 := zh hp; have H5 := zh hs; have H6 := zh ho2; have H7 := zh ht; clear hp hs ho2 ht))
 go_ret
 exact ⟨v, l', rfl, ⟨ss, H1.out, H4.out⟩, H5.out, H6.out, H3.out.trans (H7.out.toBelow H3.out.size (fun k hk => (H2.out.lt k hk).1))⟩
theorem sortedKeysB (g : Nat) (l : List (zb × Value)) (w : World) (hg : w.heap[g]? = some (yc yL l)) (hnd : (l.map (·.1)).Nodup) (hN : l.length ≤ 1000000000) :
  Calls Tryz.prog 72 #[.func (.func 126) #[] #[.pointer (some ⟨w.heap.size, 0, none⟩)], .func (.func 74) #[] #[]] (w.alloc (.cells #[.map (some g)] 141)) fun e w' => ∃ v ss, e = .returned v ∧ ss.Perm (l.map (·.1)) ∧ ss.Pairwise zP ∧ w'.ownsRow w.heap.size 47 2 v ss.length (zp ss) ∧ Below w.heap.size w w' := by
 have hb : Below w.heap.size w (w.alloc (.cells #[.map (some g)] 141)) := (Below.refl _ w).alloc (zn _) _
 refine (sortedFunc_any 126 #[.pointer (some ⟨w.heap.size, 0, none⟩)] (enters_of Tryz.func126 (by kernel_rfl) rfl) (fun ss => ss.Perm (l.map (·.1))) l.length hN (fun ss hs => ⟨hs.nodup_iff.2 hnd, by rw [hs.length_eq, List.length_map]; exact zn _⟩) _ (keysB_stops 4 w.heap.size g l _ _ (heap_alloc_new _ _) (za hb hg))).mono ?_
 rintro e w' ⟨v, ss, rfl, ⟨s0, h1, h2⟩, h3, h4, h5⟩
 exact ⟨v, ss, rfl, h2.trans h1, h3, h4.mono hb.size, hb.trans (h5.mono hb.size)⟩
theorem sortedKeysR (g : Nat) (l : List (zb × Value)) (w : World) (hg : w.heap[g]? = some (yc yL l)) (hnd : (l.map (·.1)).Nodup) (hN : l.length ≤ 1000000000) :
  Calls Tryz.prog 72 #[.func (.func 105) #[] #[.pointer (some ⟨w.heap.size, 0, none⟩)], .func (.func 74) #[] #[]] (w.alloc (.cells #[.map (some g)] 140)) fun e w' => ∃ v ss, e = .returned v ∧ ss.Perm (l.map (·.1)) ∧ ss.Pairwise zP ∧ w'.ownsRow w.heap.size 47 2 v ss.length (zp ss) ∧ Below w.heap.size w w' := by
 have hb : Below w.heap.size w (w.alloc (.cells #[.map (some g)] 140)) := (Below.refl _ w).alloc (zn _) _
 refine (sortedFunc_any 105 #[.pointer (some ⟨w.heap.size, 0, none⟩)] (enters_of Tryz.func105 (by kernel_rfl) rfl) (fun ss => ss.Perm (l.map (·.1))) l.length hN (fun ss hs => ⟨hs.nodup_iff.2 hnd, by rw [hs.length_eq, List.length_map]; exact zn _⟩) _ (keysR_stops 4 w.heap.size g l _ _ (heap_alloc_new _ _) (za hb hg))).mono ?_
 rintro e w' ⟨v, ss, rfl, ⟨s0, h1, h2⟩, h3, h4, h5⟩
 exact ⟨v, ss, rfl, h2.trans h1, h3, h4.mono hb.size, hb.trans (h5.mono hb.size)⟩
theorem sortedKeysI (g : Nat) (l : List (zb × Value)) (w : World) (hg : w.heap[g]? = some (yc yL l)) (hnd : (l.map (·.1)).Nodup) (hN : l.length ≤ 1000000000) :
  Calls Tryz.prog 72 #[.func (.func 108) #[] #[.pointer (some ⟨w.heap.size, 0, none⟩)], .func (.func 74) #[] #[]] (w.alloc (.cells #[.map (some g)] 100)) fun e w' => ∃ v ss, e = .returned v ∧ ss.Perm (l.map (·.1)) ∧ ss.Pairwise zP ∧ w'.ownsRow w.heap.size 47 2 v ss.length (zp ss) ∧ Below w.heap.size w w' := by
 have hb : Below w.heap.size w (w.alloc (.cells #[.map (some g)] 100)) := (Below.refl _ w).alloc (zn _) _
 refine (sortedFunc_any 108 #[.pointer (some ⟨w.heap.size, 0, none⟩)] (enters_of Tryz.func108 (by kernel_rfl) rfl) (fun ss => ss.Perm (l.map (·.1))) l.length hN (fun ss hs => ⟨hs.nodup_iff.2 hnd, by rw [hs.length_eq, List.length_map]; exact zn _⟩) _ (keysI_stops 4 w.heap.size g l _ _ (heap_alloc_new _ _) (za hb hg))).mono ?_
 rintro e w' ⟨v, ss, rfl, ⟨s0, h1, h2⟩, h3, h4, h5⟩
 exact ⟨v, ss, rfl, h2.trans h1, h3, h4.mono hb.size, hb.trans (h5.mono hb.size)⟩
end Go.Proofs.YteofmaiojepdkaaGreat
