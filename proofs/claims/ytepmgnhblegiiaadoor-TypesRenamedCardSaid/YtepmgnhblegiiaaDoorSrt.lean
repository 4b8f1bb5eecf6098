/- sorted, and the description of a field: the members of a class in the order of their offsets. No condition beyond what each states. -/
import Derived.Test.YtepmgnhblegiiaaDoorInn
import Derived.Test.YtepmgnhblegiiaaDoorShelf
import Derived.Sort.OwnSortedInts
import Derived.Maps.AppendAt
import Derived.Deep.DeepCutAuto
set_option linter.all false
namespace Go.Proofs.YtepmgnhblegiiaaDoor
open Go Go.RowKit Go.Maps

theorem infoMem : (Tryd.prog.info? 46).map (fun i => (i.zero, i.size, i.bytes)) = some (some (.agg #[.int .i64 0, .int .i64 0]), 2, 16) := by kernel_rfl
/-- The cells of members. -/
def mv (l : List (Int × Int)) : List Value := l.flatMap fun p => [.int .i64 p.1, .int .i64 p.2]
theorem mv_len (l : List (Int × Int)) : (mv l).length = l.length * 2 := by
  induction l with
  | nil => rfl
  | cons p l ih => show (([.int .i64 p.1, .int .i64 p.2] : List Value) ++ mv l).length = _
                   rw [List.length_append, ih]; simp; omega
theorem mv_snoc (l : List (Int × Int)) (p : Int × Int) : mv (l ++ [p]) = mv l ++ [.int .i64 p.1, .int .i64 p.2] := by simp [mv]
theorem iv_len (l : List Int) : (iv l).length = l.length := by simp [iv]
/-- The keys in order. -/
def inOrder (l : List Int) : List Int := l.mergeSort fun x y => decide (x ≤ y)
theorem inOrder_mem {l : List Int} {x : Int} : x ∈ inOrder l ↔ x ∈ l := (List.mergeSort_perm l _).mem_iff
theorem inOrder_len (l : List Int) : (inOrder l).length = l.length := (List.mergeSort_perm l _).length_eq
theorem inOrder_lt {l : List Int} (h : l.Nodup) : (inOrder l).Pairwise (· < ·) := by
  have h1 := List.pairwise_mergeSort (le := fun x y : Int => decide (x ≤ y)) (fun a b c h1 h2 => by simp at *; omega) (fun a b => by simp; omega) l
  have h2 : (inOrder l).Nodup := (List.mergeSort_perm l _).nodup_iff.2 h
  unfold inOrder at h2 ⊢
  refine (h1.and h2).imp fun {a b} hab => ?_
  have := hab.1
  simp at this
  have := hab.2
  omega

def MemPost (L : Lay) (rt : Int → Int) (of : Int → Cls) (clash : Bool) (o f : Int) (w : World) (e : Ending) (w' : World) : Prop :=
  e = .returned (.agg #[.int .i64 o, .int .i64 (rt f)]) ∧ SolW L rt of clash w' ∧ Turn (fun k => k = L.gu) w w'

theorem member_any (L : Lay) {rt : Int → Int} {of : Int → Cls} {clash : Bool} (w : World) (h : SolW L rt of clash w) (gb : Nat) (T : TypeId) (hb : w.heap[gb]? = some (.cells #[.pointer (some ⟨L.gs, 0, none⟩)] T (0, 0))) (o : Int) (fn : Nat) (hf : fn < L.n) :
    Calls Tryd.prog 45 #[.int .i64 o, .int .i64 fn, .pointer (some ⟨gb, 0, none⟩)] w (MemPost L rt of clash o fn w) := by
  have c0 : w.cell? ⟨gb, 0, none⟩ = some (.pointer (some ⟨L.gs, 0, none⟩)) := by rw [cell_of_row _ _ _ _ _ _ hb]; rfl
  have H := Lib.hid h
  have HB := Lib.hid hb
  have hbl : gb < w.heap.size := (Array.getElem?_eq_some_iff.1 hb).1
  clear h hb
  have c1 : ∀ x, (w.alloc x).cell? ⟨gb, 0, none⟩ = some (.pointer (some ⟨L.gs, 0, none⟩)) := fun x => by rw [cell_of_row _ _ _ _ _ _ ((alloc_other _ _ hbl).trans HB.out)]; rfl
  have HFD := Lib.hid (fun W (hs : SolW L rt of clash W) => find_any L W hs fn hf)
  have HNE := Lib.hid (show ¬ w.heap.size = L.gu from fun e => by have := H.out.lt (.inr (.inl rfl)); omega)
  go_enter Tryd.func45, Tryd.ntmps45
  go_wp2_with (first | (refine wpList_store_row rfl _ _ _ rfl _ _ rfl rfl _ _ (HT4.out.heap (heap_alloc_new w _) HNE.out) ?_ ?_ ?_ ?_; kernel_rfl; rfl; kernel_rfl) | (refine wpList_store_row rfl _ _ _ rfl _ _ rfl rfl _ _ (heap_alloc_new _ _) ?_ ?_ ?_ ?_; kernel_rfl; rfl; kernel_rfl; rw [World.setRow_alloc_new]) | (go_at_call 42; refine (HFD.out _ (H.out.alloc _)).mono ?_; rintro e w4 ⟨rfl, hs4, ht4⟩; have HS4 := Lib.hid hs4; have HT4 := Lib.hid ht4; clear hs4 ht4))
  have hh := HT4.out.heap (heap_alloc_new w _) HNE.out
  refine bodyPost_ret (results_cell_row (cs := #[.int .i64 o, .int .i64 (rt fn)]) (fr := (0, 0)) Tryd.results45 _ _ w.heap.size 46 _ rfl (setRow_heap _ _ _ _ _ _ hh) Tryd.underlying46 rfl (by kernel_rfl)) rfl ⟨rfl, ?_, ?_⟩
  · exact HS4.out.turn ((Turn.refl (fun k => k = w.heap.size) _).setRow _ (fun _ => rfl)) (fun k hk ho => by have := H.out.lt ho; omega)
  · exact (((Turn.refl (fun k => k = L.gu) w).alloc _).trans HT4.out (fun _ _ e => e)).setRow _ (fun hk => absurd hk (by omega))

def SrtPost (L : Lay) (rt : Int → Int) (of : Int → Cls) (clash : Bool) (v : Nat) (w : World) (e : Ending) (w' : World) : Prop :=
  ∃ val ms, e = .returned val ∧ SolW L rt of clash w' ∧ Turn (fun k => k = L.gu) w w' ∧ w'.ownsRow w.heap.size 46 2 val ms.length (mv ms) ∧ ms.length ≤ 65536 ∧ ms.Pairwise (fun x y => x.1 < y.1) ∧ ∀ o f, (o, f) ∈ ms ↔ ∃ g, (of v).fields o = some g ∧ f = rt g

/-- The members of the keys. -/
def memsOf (rt : Int → Int) (F : Int → Option Int) (l : List Int) : List (Int × Int) := l.map fun o => (o, rt ((F o).getD 0))
theorem memsOf_len (rt : Int → Int) (F : Int → Option Int) (l : List Int) : (memsOf rt F l).length = l.length := by simp [memsOf]
theorem memsOf_take (rt : Int → Int) (F : Int → Option Int) {l : List Int} {k : Nat} {o : Int} (h : l[k]? = some o) : memsOf rt F (l.take (k + 1)) = memsOf rt F (l.take k) ++ [(o, rt ((F o).getD 0))] := by
  rw [List.take_add_one, h]; simp [memsOf]
theorem memsOf_done {rt : Int → Int} {F : Int → Option Int} {l : List Int} (hl : l.Pairwise (· < ·)) (hF : ∀ o, o ∈ l ↔ F o ≠ none) : (memsOf rt F l).Pairwise (fun x y => x.1 < y.1) ∧ ∀ o f, (o, f) ∈ memsOf rt F l ↔ ∃ g, F o = some g ∧ f = rt g := by
  refine ⟨List.pairwise_map.2 hl, fun o f => ?_⟩
  unfold memsOf
  rw [List.mem_map]
  constructor
  · rintro ⟨q, h1, h2⟩
    have e := Prod.mk.inj h2
    have e1 := e.1
    subst e1
    have e2 := e.2
    subst e2
    have := (hF q).1 h1
    cases hf : F q with
    | none => exact absurd hf this
    | some g => exact ⟨g, rfl, by simp⟩
  · rintro ⟨g, h1, rfl⟩
    exact ⟨o, (hF o).2 (by rw [h1]; simp), by rw [h1]; rfl⟩
theorem few_keys {l : List Int} (h : l.Nodup) (hl : ∀ o ∈ l, 0 ≤ o ∧ o < 65536) : l.length ≤ 65536 := by
  have h1 : (l.map Int.toNat).Nodup := by
    refine List.Pairwise.map _ ?_ (h.imp_of_mem (S := fun a b => 0 ≤ a ∧ 0 ≤ b ∧ a ≠ b) fun {a b} ha hb hab => ⟨(hl a ha).1, (hl b hb).1, hab⟩)
    rintro a b ⟨ha, hb, hab⟩ e
    omega
  have h2 : (l.map Int.toNat) ⊆ List.range 65536 := fun x hx => by
    obtain ⟨o, ho, rfl⟩ := List.mem_map.1 hx
    have := hl o ho
    rw [List.mem_range]; omega
  have := h1.length_le_of_subset h2
  simpa using this

theorem flat_at' {c : Array Value} {xs : List Value} {m k : Nat} (h : c.toList.take m = xs) (hk : k < m) : c[k]? = xs[k]? := by
  rw [← h, List.getElem?_take, if_pos hk, Array.getElem?_toList]
/-- A row of the call's own under a slice that has elements. -/
theorem own_some {w : World} {B : Nat} {e : TypeId} {s : Nat} {p : Option Addr} {n cap : Nat} {xs : List Value} (h : w.ownsRow B e s (.slice p n cap) n xs) (hn : 0 < n) : ∃ g, p = some ⟨g, 0, none⟩ ∧ B ≤ g ∧ ∃ cur, w.heap[g]? = some (.cells cur e (0, 0)) ∧ cur.toList.take (n * s) = xs := by
  rcases h.2 with ⟨-, h0⟩ | ⟨g, c, cur, e, hB, hg, -, -, -, ht⟩
  · omega
  · simp only [Value.slice.injEq] at e
    exact ⟨g, e.1, hB, cur, hg, ht⟩
theorem own_slice {w : World} {B : Nat} {e : TypeId} {s : Nat} {v : Value} {n : Nat} {xs : List Value} (h : w.ownsRow B e s v n xs) : ∃ p cap, v = .slice p n cap := by
  rcases h.2 with ⟨rfl, rfl⟩ | ⟨g, c, cur, e, -⟩
  · exact ⟨_, _, rfl⟩
  · exact ⟨_, _, e⟩
theorem lookup_one_some {w : World} {ops : Array Oper} {rest : List Oper} {o : Oper} {a : Act} {Q : Exit → Act → World → Prop} {g : Nat} {F : Int → Option Int} (hgd : o.guard = none) (m x : Operand) (t : TypeId) (hop : o.op = Op.lookup t m x false) (ht : Tryd.prog.underlying t = some (.map 3 3)) (hm : a.eval m = .map (some g)) (h : Mw g F w) (k c : Int) (hx : a.eval x = .int .i64 k) (hk : i64ok k) (hF : F k = some c)
    (hK : wpList Tryd.prog ops Q rest (a.put o.dst (.int .i64 c)) w) : wpList Tryd.prog ops Q (o :: rest) a w :=
  wpList_lookup_one hI3 hgd m x t hop ht (zeroInt _) hm h k hx hk (by rw [hF]; exact hK)

set_option maxRecDepth 100000 in
set_option maxHeartbeats 2000000 in
theorem sorted_any (L : Lay) (rt : Int → Int) (of : Int → Cls) (clash : Bool) (w : World) (v : Nat) (hv : v < L.n) (h : SolW L rt of clash w) (hF : ∀ o f, (of v).fields o = some f → (0 ≤ o ∧ o < 65536) ∧ (0 ≤ f ∧ f < L.n)) (gb : Nat) (T : TypeId) (hgb : w.heap[gb]? = some (.cells #[.pointer (some ⟨L.gs, 0, none⟩)] T (0, 0))) :
    Calls Tryd.prog 44 #[.map (some (L.gm v)), .func (.func 45) #[] #[.pointer (some ⟨gb, 0, none⟩)]] w (SrtPost L rt of clash v w) := by
  have hlim := L.lim
  have hown : ∀ k, L.own k → k < w.heap.size := fun k hk => h.lt hk
  have hgbu : gb ≠ L.gu := fun e => by
    obtain ⟨c, up, hc, -, hcv⟩ := h.u
    rw [e, hc] at hgb
    have h0 := hcv 0 (by omega)
    simp only [Option.some.injEq, Obj.cells.injEq] at hgb
    rw [hgb.1] at h0
    cases h0
  have hgbl : gb < w.heap.size := (Array.getElem?_eq_some_iff.1 hgb).1
  have hFk : ∀ o, (of v).fields o ≠ none → 0 ≤ o ∧ o < 65536 := fun o ho => by
    cases hf : (of v).fields o with
    | none => exact absurd hf ho
    | some f => exact (hF o f hf).1
  have HFK := Lib.hid hFk
  have HM1 := Lib.hid (h.m v hv)
  have H := Lib.hid h
  have HF := Lib.hid hF
  have HOWN := Lib.hid hown
  have HGB := Lib.hid hgb
  clear h hF hown hgb hFk
  obtain ⟨i0, hi, hz0, hz1, hz2⟩ := info_parts infoInt
  obtain ⟨j0, hj, hy0, hy1, hy2⟩ := info_parts infoMem
  go_enter Tryd.func44, Tryd.ntmps44
  go_upto_block 0 with (at_range; refine wpList_range_ii hI3 rfl _ _ rfl hM (zeroInt _) rfl HM1.out HFK.out ?_; intro w0 cnt hrg0 hcnt hg0 hs0)
  go_frame
  obtain ⟨R, hRR⟩ : ∃ R, R = w.heap.size := ⟨_, rfl⟩
  rw [← hRR] at hrg0
  rw [← hRR]
  have hgB : Turn (fun k => w.heap.size ≤ k) w w0 := (Turn.refl _ _).grown hg0 (fun k e => by cases e)
  have HS2 := Lib.hid (H.out.new HOWN.out hgB)
  have HT2 := Lib.hid ((Turn.refl (fun k => k = L.gu) w).grown hg0 (fun k e => by cases e))
  have hRw : w.heap.size ≤ R := by omega
  have HRG := Lib.hid hrg0
  clear hrg0 hg0 hs0 hRR hgB HM1
  go_cut [5] (fun s5 wx => ∃ xs : List Int, Hid (SolW L rt of clash wx) ∧ Hid (Turn (fun k => k = L.gu) w wx) ∧ Hid (wx.ownsRow w.heap.size 3 1 s5 xs.length (iv xs)) ∧ xs.length ≤ 65536 ∧ Hid xs.Nodup ∧ Hid (∀ o, o ∈ xs ↔ (of v).fields o ≠ none))
  case first =>
    go_wp2_with fail
    go_loopg [5] cnt (fun k s5 wr => ∃ (left : Int → Bool) (xs : List Int), Hid (Rw (L.gm v) R (of v).fields left k wr) ∧ Hid (SolW L rt of clash wr) ∧ Hid (Turn (fun k => k = L.gu) w wr) ∧ Hid (wr.ownsRow w.heap.size 3 1 s5 xs.length (iv xs)) ∧ Hid xs.Nodup ∧ Hid (∀ o, o ∈ xs ↔ left o = false ∧ (of v).fields o ≠ none))
    case atStart =>
      refine ⟨_, [], HRG, HS2, HT2, Lib.hid ⟨rfl, .inl ⟨rfl, rfl⟩⟩, Lib.hid List.nodup_nil, Lib.hid fun o => ?_⟩
      cases (of v).fields o <;> simp
    case round =>
      obtain ⟨left, xs, HRW, HSW, HTW, HOW, HND, HXW⟩ := hrel
      go_upto_region 4 with (at_next; refine wpList_next_ii hI3 rfl _ rfl hM (zeroInt _) rfl HRW.out (fun hl0 => ?_) (fun x c w1 cnt1 hx hc hlx hFx hrg1 hlt1 hg1 hs1 hen => ?_))
      · go_meet
        case rel =>
          refine ⟨xs, HSW, HTW, HOW, few_keys HND.out (fun o ho => HFK.out o ((HXW.out o).1 ho).2), HND, Lib.hid fun o => ?_⟩
          rw [HXW.out o]
          exact ⟨fun h => h.2, fun h => ⟨hl0 o, h⟩⟩
      · obtain ⟨oa, ob, oc, od, hobj⟩ := RangeW.obj HRW.out
        have hno := own_iter HSW.out hobj
        have hgR : Turn (fun k => k = R) wr w1 := (Turn.refl _ _).grown hg1 (fun k e _ => by cases e; rfl)
        have HS3 := Lib.hid (HSW.out.turn hgR (fun k e h => hno (e ▸ h)))
        have HT3 := Lib.hid (HTW.out.trans hgR (cs := fun k => k = R) (fun k hk e => absurd hk (by omega)))
        have HO3 := Lib.hid (own_turn HOW.out hgR (fun k hk e => by
          obtain ⟨_, cs, hcs⟩ := own_cells HOW.out k hk
          rw [e, hobj] at hcs; simp at hcs))
        have HFx := Lib.hid hFx
        have HLX := Lib.hid hlx
        have HRG1 := Lib.hid hrg1
        have hB1 : w.heap.size ≤ w1.heap.size := HT3.out.size
        have HLN := Lib.hid (few_keys HND.out (fun o ho => HFK.out o ((HXW.out o).1 ho).2))
        have hln := HLN.out
        have HIV := Lib.hid (iv_len xs)
        clear hobj hno hgR hFx hlx hrg1 hg1 hs1 hc
        go_wp2_with (at_builtin; refine wpList_append_own _ rfl _ _ 47 rfl w.heap.size 3 i0 (.int .i64 0) 1 8 Tryd.underlying47 hi hz0 hz1 hz2 rfl (by decide) _ xs.length (iv xs) rfl (own_turn HO3.out ((Turn.refl (fun _ => False) _).alloc _) (fun _ _ h => h)) ⟨w1.heap.size, 0, none⟩ 1 1 [.int .i64 x] rfl rfl (cells_new _ _ _ _ rfl) (by intro u hu; simp at hu; rcases hu with rfl; rfl) (by unfold maxLen; omega) (by omega) (Nat.le_trans hB1 (by simp)) ?_; intro v5 w5 hown5 hgrow5 _)
        go_roundg cnt1
        case measure => exact hlt1
        case rel =>
          have hgB : Turn (fun k => w.heap.size ≤ k) w1 w5 := ((Turn.refl _ _).alloc _).grown hgrow5 (fun k e _ => (own_cells HO3.out k e).1)
          obtain ⟨oa, ob, oc, od, hobj⟩ := RangeW.obj HRG1.out
          have hlR := RangeW.lt HRG1.out
          have hob5 : w5.heap[R]? = w1.heap[R]? := (hgrow5.block R (Nat.lt_of_lt_of_le hlR (by simp)) (fun e => by
            obtain ⟨_, cs, hcs⟩ := own_cells HO3.out R e.symm
            rw [hobj] at hcs; simp at hcs)).trans (alloc_other _ _ hlR)
          have hgl := HS3.out.lt (.inr (.inr (.inr ⟨v, hv, rfl⟩)))
          have hgm5 : w5.heap[L.gm v]? = w1.heap[L.gm v]? := hgB.block _ hgl (fun e => by have := HOWN.out _ (.inr (.inr (.inr ⟨v, hv, rfl⟩))); omega)
          have hxn : x ∉ xs := fun e => by have := ((HXW.out x).1 e).1; rw [HLX.out] at this; cases this
          refine ⟨fun z => left z && z != x, xs ++ [x], Lib.hid (RangeW.same HRG1.out hgm5 hob5), Lib.hid (HS3.out.new HOWN.out hgB), Lib.hid (HT3.out.trans hgB (fun k hk hb => absurd hb (by omega))), Lib.hid ?_, Lib.hid ?_, Lib.hid fun o => ?_⟩
          · have : iv (xs ++ [x]) = iv xs ++ [.int .i64 x] := by simp [iv]
            rw [this, List.length_append]; exact hown5
          · rw [List.nodup_append]
            exact ⟨HND.out, by simp, fun a ha b hb => by simp at hb; subst hb; rintro rfl; exact hxn ha⟩
          · rw [List.mem_append, HXW.out o]
            by_cases ho : o = x
            · subst ho
              rw [HFx.out]; simp
            · simp [ho]
  case rest =>
    obtain ⟨xs, HS5, HT5, HO5, hl5, HND, HX5⟩ := hcut
    go_upto_region 6 with fail
    go_cut [5] (fun s5 wx => Hid (SolW L rt of clash wx) ∧ Hid (Turn (fun k => k = L.gu) w wx) ∧ Hid (wx.ownsRow w.heap.size 3 1 s5 xs.length (iv (inOrder xs))))
    case first =>
      rcases HO5.out.2 with ⟨rfl, h0⟩ | ⟨g, cap, cur, rfl, hbg, hg, hn, hcm, hcs, htk⟩
      · have hx0 : xs = [] := List.eq_nil_of_length_eq_zero h0
        subst hx0
        have HNO := Lib.hid (Tryd.slices_Sort_int_none none 0 wc)
        clear h0
        go_wp2_with (go_at_call 62; refine (HNO.out).mono ?_; rintro e w6 ⟨rfl, rfl⟩)
        go_meet
        case rel => exact ⟨HS5, HT5, Lib.hid (by rw [show inOrder [] = [] by simp [inOrder]]; exact HO5.out)⟩
      · rw [Nat.mul_one] at htk
        have hgl : g < wc.heap.size := (Array.getElem?_eq_some_iff.1 hg).1
        have HSO := Lib.hid (Tryd.slices_Sort_int g 0 cap xs wc (holds_of_blockI hg htk) hgl (by omega))
        have HG := Lib.hid (And.intro hg (And.intro hn (And.intro hcm (And.intro hcs (And.intro hbg htk)))))
        clear hg hn hcm hcs htk
        go_wp2_with (go_at_call 62; refine (HSO.out).mono ?_; rintro e w6 ⟨rfl, n, os, hw6⟩; have ho6 : w6.ownsRow w.heap.size 3 1 (.slice (some ⟨g, 0, none⟩) xs.length cap) xs.length (iv (inOrder xs)) := (by rw [hw6]; exact ownsRow_sortedI (inOrder_len xs) HG.out.2.2.2.2.1 HG.out.1 HG.out.2.1 HG.out.2.2.1 HG.out.2.2.2.1); have hg6 : wc.grownBy w6 (some g) := (by rw [hw6]; exact grownBy_sortedI _); clear hw6)
        go_meet
        case rel =>
          have hgB : Turn (fun k => w.heap.size ≤ k) wc w6 := (Turn.refl _ _).grown hg6 (fun k e _ => by cases e; exact hbg)
          exact ⟨Lib.hid (HS5.out.new HOWN.out hgB), Lib.hid (HT5.out.trans hgB (fun k hk hb => absurd hb (by omega))), Lib.hid ho6⟩
    case rest =>
      clear HS5 HT5 HO5
      obtain ⟨HS6, HT6, HO6⟩ := hcut
      obtain ⟨p, cap, rfl⟩ := own_slice HO6.out
      have hkl := inOrder_len xs
      have HND2 := Lib.hid (inOrder_lt HND.out)
      have HMK := Lib.hid (fun o => (inOrder_mem (l := xs) (x := o)).trans (HX5.out o))
      generalize inOrder xs = ks at HND2 HMK hkl HO6
      clear HND HX5 HRG HS2 HT2
      go_wp2_with fail
      go_loopw [7, 24] (fun s7 s24 wr => ∃ k : Nat, k ≤ xs.length ∧ s24 = .int .i64 k ∧ Hid (SolW L rt of clash wr) ∧ Hid (Turn (fun k => k = L.gu) w wr) ∧ Hid (wr.ownsRow w.heap.size 3 1 (.slice p xs.length cap) xs.length (iv ks)) ∧ Hid (wr.ownsRow w.heap.size 46 2 s7 k (mv (memsOf rt (of v).fields (ks.take k))))) (fun _ s24 _ => xs.length - (intOf s24).toNat)
      case atStart => exact ⟨0, Nat.zero_le _, rfl, HS6, HT6, HO6, Lib.hid ⟨rfl, .inl ⟨rfl, rfl⟩⟩⟩
      case round =>
        obtain ⟨k, hk, rfl, HSR, HTR, HOR, HMR⟩ := hrel
        by_cases hlt : k < xs.length
        · obtain ⟨g, rfl, hgB, cur, hg, htk⟩ := own_some HOR.out (by omega)
          obtain ⟨o, ho⟩ : ∃ o, ks[k]? = some o := ⟨ks[k]'(by omega), by simp [hkl, hlt]⟩
          have hom : o ∈ ks := List.mem_of_getElem? ho
          have hon := (HMK.out o).1 hom
          obtain ⟨f0, hf0⟩ : ∃ f, (of v).fields o = some f := by
            cases hf : (of v).fields o with
            | none => exact absurd hf hon
            | some f => exact ⟨f, rfl⟩
          have hfr := HF.out o f0 hf0
          obtain ⟨fn, rfl⟩ := Int.eq_ofNat_of_zero_le hfr.2.1
          have hfl : fn < L.n := by have := hfr.2.2; omega
          have hok : i64ok o := by unfold i64ok; have := hfr.1; omega
          have cg : wr.cell? ⟨g, k, none⟩ = some (.int .i64 o) := by
            rw [cell_of_row _ _ _ _ _ _ hg, flat_at' htk (by omega)]
            simp [iv, ho]
          have HGW := Lib.hid (HTR.out.heap HGB.out hgbu)
          have HMG := Lib.hid (HSR.out.m v hv)
          have HFD := Lib.hid (member_any L wr HSR.out gb T HGW.out o fn hfl)
          have HO := Lib.hid (And.intro ho (And.intro hf0 hok))
          have hB1 : w.heap.size ≤ wr.heap.size := HTR.out.size
          have HML := Lib.hid (mv_len (memsOf rt (of v).fields (ks.take k)))
          have hl5' := hl5
          clear hg htk ho hom hon hf0 hfr hok
          go_wp2_with (first | (at_lookup; refine lookup_one_some rfl _ _ _ rfl hM rfl HMG.out o fn rfl HO.out.2.2 HO.out.2.1 ?_) | (go_at_call 45; refine (HFD.out).mono ?_; rintro e w4 ⟨rfl, hs4, ht4⟩; have HS4 := Lib.hid hs4; have HT4 := Lib.hid ht4; have hB4 := ht4.size; have HO4 := Lib.hid (own_turn HMR.out ht4 (fun k hk e => by have h8 := (own_cells HMR.out k hk).1; have h9 := HOWN.out _ (.inr (.inl rfl)); omega)); clear hs4 ht4) | (at_builtin; refine wpList_append_own _ rfl _ _ 42 rfl w.heap.size 46 j0 (.agg #[.int .i64 0, .int .i64 0]) 2 16 Tryd.underlying42 hj hy0 hy1 hy2 rfl (by decide) _ k (mv (memsOf rt (of v).fields (ks.take k))) rfl (own_turn HO4.out ((Turn.refl (fun _ => False) _).alloc _) (fun _ _ h => h)) ⟨w4.heap.size, 0, none⟩ 1 1 [.int .i64 o, .int .i64 (rt fn)] rfl rfl (cells_new _ _ _ _ rfl) (by intro u hu; simp at hu; rcases hu with rfl | rfl <;> rfl) (by unfold maxLen; omega) (by omega) (Nat.le_trans hB1 (Nat.le_trans hB4 (by simp))) ?_; intro v5 w5 hown5 hgrow5 _))
          have hgB : Turn (fun k => w.heap.size ≤ k) w4 w5 := ((Turn.refl _ _).alloc _).grown hgrow5 (fun k e _ => (own_cells HO4.out k e).1)
          have ho4 := own_turn HOR.out HT4.out (fun x hx e => by have h8 := (own_cells HOR.out x hx).1; have h9 := HOWN.out _ (.inr (.inl rfl)); omega)
          have ho5 := own_turn ho4 ((((Turn.refl _ _).alloc _).grown hgrow5 (fun x e _ => e))) (fun x hx e => by
            obtain ⟨_, c1, hc1⟩ := own_cells ho4 x hx
            obtain ⟨_, c2, hc2⟩ := own_cells HO4.out x e
            rw [hc1] at hc2; simp at hc2)
          refine ⟨⟨k + 1, by omega, by go_num, Lib.hid (HS4.out.new HOWN.out hgB), Lib.hid ((HTR.out.trans HT4.out (fun _ _ e => e)).trans hgB (fun k hk hb => absurd hb (by omega))), Lib.hid ho5, Lib.hid ?_⟩, by simp [intOf]; omega⟩
          rw [memsOf_take rt _ HO.out.1, mv_snoc, HO.out.2.1]
          exact hown5
        · have : k = xs.length := by omega
          subst this
          go_wp2_with fail
          go_ret
          have h9 := memsOf_done (rt := rt) HND2.out HMK.out
          have e9 : ks.take xs.length = ks := by rw [← hkl]; exact List.take_length
          refine ⟨_, memsOf rt (of v).fields ks, rfl, HSR.out, HTR.out, ?_, by rw [memsOf_len, hkl]; exact hl5, h9.1, h9.2⟩
          have h8 := HMR.out
          rw [e9] at h8
          rw [memsOf_len, hkl]
          exact h8
end Go.Proofs.YtepmgnhblegiiaaDoor
