/- inner of the solver: the classes of the fields and the element. No condition beyond what each states. -/
import Derived.Test.YtepmgnhblegiiaaDoorSolD
import Derived.Maps.AppendAt
import Derived.Deep.DeepCutAuto
set_option linter.all false
namespace Go.Proofs.YtepmgnhblegiiaaDoor
open Go Go.RowKit Go.Maps

theorem infoInt : (Tryd.prog.info? 3).map (fun i => (i.zero, i.size, i.bytes)) = some (some (.int .i64 0), 1, 8) := by kernel_rfl
def iv (l : List Int) : List Value := l.map (Value.int .i64)
theorem own_turn {B : Nat} {e : TypeId} {s : Nat} {v : Value} {n : Nat} {xs : List Value} {w w' : World} {bs : Nat → Prop} (h : w.ownsRow B e s v n xs) (t : Turn bs w w') (hb : ∀ k, v.ownBlock = some k → ¬ bs k) : w'.ownsRow B e s v n xs := by
  obtain ⟨h1, h2⟩ := h
  refine ⟨h1, ?_⟩
  rcases h2 with h2 | ⟨g, cap, cur, rfl, hB, hg, r⟩
  · exact .inl h2
  · exact .inr ⟨g, cap, cur, rfl, hB, t.heap hg (hb g rfl), r⟩
theorem own_cells {B : Nat} {e : TypeId} {s : Nat} {v : Value} {n : Nat} {xs : List Value} {w : World} (h : w.ownsRow B e s v n xs) : ∀ k, v.ownBlock = some k → B ≤ k ∧ ∃ cs, w.heap[k]? = some (.cells cs e (0, 0)) := fun k hk => by
  rcases h.2 with ⟨rfl, -⟩ | ⟨g, cap, cur, rfl, hb, hg, -⟩
  · cases hk
  · simp only [Value.ownBlock, Option.some.injEq] at hk
    subst hk
    exact ⟨hb, cur, hg⟩

/-- What the solver's blocks and a row of the call's own have to do with each other. -/
theorem SolW.new {L : Lay} {rt : Int → Int} {of : Int → Cls} {clash : Bool} {w w' : World} {B : Nat} (h : SolW L rt of clash w) (hB : ∀ k, L.own k → k < B) (t : Turn (fun k => B ≤ k) w w') : SolW L rt of clash w' := h.turn t fun k hk ho => by have := hB k ho; omega

set_option maxRecDepth 100000 in
set_option maxHeartbeats 2000000 in
theorem inner_any (L : Lay) (rt : Int → Int) (of : Int → Cls) (clash : Bool) (w : World) (v : Nat) (hv : v < L.n) (h : SolW L rt of clash w) (hrt : ∀ u, 0 ≤ u → 0 ≤ rt u ∧ rt u ≤ u) (he : (of v).elem = -1 ∨ (0 ≤ (of v).elem ∧ (of v).elem < L.n)) (hF : ∀ o f, (of v).fields o = some f → (0 ≤ o ∧ o < 65536) ∧ (0 ≤ f ∧ f < L.n)) :
    Calls Tryd.prog 60 #[.pointer (some ⟨L.gs, 0, none⟩), .int .i64 v] w fun e w' => ∃ val xs, e = .returned val ∧ SolW L rt of clash w' ∧ Turn (fun k => k = L.gu) w w' ∧ w'.ownsRow w.heap.size 3 1 val xs.length (iv xs) ∧ xs.length ≤ 65537 ∧ ∀ y, y ∈ xs ↔ Edge rt of v y := by
  have hlim := L.lim
  have hcls := h.cls hv
  have c0 := h.s1
  have c3 := hcls.2.2.2.1
  have c5 := hcls.2.2.2.2.2
  have hown : ∀ k, L.own k → k < w.heap.size := fun k hk => h.lt hk
  have H := Lib.hid h
  have HRT := Lib.hid hrt
  have HF := Lib.hid hF
  have HOWN := Lib.hid hown
  clear h hrt hF hown hcls
  obtain ⟨i0, hi, hz0, hz1, hz2⟩ := info_parts infoInt
  go_enter Tryd.func60, Tryd.ntmps60
  go_upto_if 18 with (fail)
  go_cut [5] (fun s5 wx => ∃ xs : List Int, Hid (SolW L rt of clash wx) ∧ Hid (Turn (fun k => k = L.gu) w wx) ∧ Hid (wx.ownsRow w.heap.size 3 1 s5 xs.length (iv xs)) ∧ xs.length ≤ 1 ∧ Hid (∀ y, y ∈ xs ↔ (of v).elem ≠ -1 ∧ y = rt (of v).elem))
  case first =>
    by_cases hel : (of v).elem = -1
    · have e1 : ((of v).elem != -1) = false := by simp [hel]
      have HEL := Lib.hid hel
      clear hel he
      go_wp2
      go_meet
      case rel => exact ⟨[], H, Lib.hid (Turn.refl _ _), Lib.hid ⟨rfl, .inl ⟨rfl, rfl⟩⟩, by simp, Lib.hid (fun y => by simp [HEL.out])⟩
    · have e1 : ((of v).elem != -1) = true := by simp [hel]
      obtain ⟨en, hen⟩ := Int.eq_ofNat_of_zero_le (he.resolve_left hel).1
      have henl : en < L.n := by have := (he.resolve_left hel).2; omega
      have HFD := Lib.hid (find_any L w H.out en henl)
      rw [hen] at c3
      rw [← hen] at HFD
      have HEL := Lib.hid hel
      have HEN := Lib.hid hen
      clear hel he hen
      go_wp2_with (first | (go_at_call 42; refine (HFD.out).mono ?_; rintro e w1 ⟨rfl, hs1, ht1⟩; have HS1 := Lib.hid hs1; have HT1 := Lib.hid ht1; clear hs1 ht1) | (at_builtin; refine wpList_append_own _ rfl _ _ 47 rfl w.heap.size 3 i0 (.int .i64 0) 1 8 Tryd.underlying47 hi hz0 hz1 hz2 rfl (by decide) (.slice none 0 0) 0 [] rfl ⟨rfl, .inl ⟨rfl, rfl⟩⟩ ⟨w1.heap.size, 0, none⟩ 1 1 [.int .i64 (rt (of v).elem)] rfl rfl (cells_new _ _ _ _ rfl) (by intro u hu; simp at hu; rcases hu with rfl; rfl) (by unfold maxLen; omega) (by omega) (Nat.le_trans HT1.out.size (by simp)) ?_; intro v' w2 hown2 hgrow2 _))
      go_meet
      case rel =>
        have hgB : Turn (fun k => w.heap.size ≤ k) w1 w2 := ((Turn.refl _ _).alloc _).grown hgrow2 (fun k e _ => by simp [Value.ownBlock] at e)
        refine ⟨[rt (of v).elem], Lib.hid (HS1.out.new HOWN.out hgB), Lib.hid (HT1.out.trans hgB (fun x hx hb => absurd hb (by omega))), Lib.hid ?_, by simp, Lib.hid (fun y => ?_)⟩
        · exact hown2
        · simp [HEL.out]
  case rest =>
    obtain ⟨xs0, HS1, HT1, HO1, hx0, HX0⟩ := hcut
    have hFk : ∀ o, (of v).fields o ≠ none → 0 ≤ o ∧ o < 65536 := fun o ho => by
      cases hf : (of v).fields o with
      | none => exact absurd hf ho
      | some f => exact (HF.out o f hf).1
    have HFK := Lib.hid hFk
    have s1 := HS1.out.s1
    have x5 := (HS1.out.cls hv).2.2.2.2.2
    have HM1 := Lib.hid (HS1.out.m v hv)
    clear hFk c0 c3 c5
    go_upto_block 0 with (at_range; refine wpList_range_ii hI3 rfl _ _ rfl hM (zeroInt _) rfl HM1.out HFK.out ?_; intro w0 cnt hrg0 hcnt hg0 hs0)
    go_frame
    obtain ⟨R, hRR⟩ : ∃ R, R = wc.heap.size := ⟨_, rfl⟩
    rw [← hRR] at hrg0
    rw [← hRR]
    have hgB : Turn (fun k => w.heap.size ≤ k) wc w0 := (Turn.refl _ _).grown hg0 (fun k e => by cases e)
    have HS2 := Lib.hid (HS1.out.new HOWN.out hgB)
    have HT2 := Lib.hid (HT1.out.grown hg0 (fun k e => by cases e))
    have HO2 := Lib.hid (own_turn HO1.out ((Turn.refl (fun _ => False) _).grown hg0 (fun k e => by cases e)) (fun _ _ h => h))
    have hRw : w.heap.size ≤ R := by rw [hRR]; exact HT1.out.size
    have HRG := Lib.hid hrg0
    clear hrg0 hg0 hs0 hRR hgB HS1 HT1 HO1 HM1 x5 s1
    go_cut [5] (fun s5 wx => ∃ xs : List Int, Hid (SolW L rt of clash wx) ∧ Hid (Turn (fun k => k = L.gu) w wx) ∧ Hid (wx.ownsRow w.heap.size 3 1 s5 xs.length (iv xs)) ∧ xs.length ≤ 65537 ∧ Hid (∀ y, y ∈ xs ↔ Edge rt of v y))
    case first =>
      go_wp2_with fail
      go_loopg [5] cnt (fun k s5 wr => ∃ (left : Int → Bool) (xs : List Int), Hid (Rw (L.gm v) R (of v).fields left k wr) ∧ Hid (SolW L rt of clash wr) ∧ Hid (Turn (fun k => k = L.gu) w wr) ∧ Hid (wr.ownsRow w.heap.size 3 1 s5 xs.length (iv xs)) ∧ xs.length + k ≤ 65537 ∧ Hid (∀ y, y ∈ xs ↔ ((of v).elem ≠ -1 ∧ y = rt (of v).elem) ∨ ∃ o f, left o = false ∧ (of v).fields o = some f ∧ y = rt f))
      case atStart =>
        refine ⟨_, xs0, HRG, HS2, HT2, HO2, by omega, Lib.hid fun y => ?_⟩
        rw [HX0.out y]
        refine ⟨.inl, ?_⟩
        rintro (h | ⟨o, f, h1, h2, _⟩)
        · exact h
        · rw [h2] at h1; simp at h1
      case round =>
        obtain ⟨left, xs, HRW, HSW, HTW, HOW, hlen, HXW⟩ := hrel
        go_upto_region 7 with (at_next; refine wpList_next_ii hI3 rfl _ rfl hM (zeroInt _) rfl HRW.out (fun hl0 => ?_) (fun x c w1 cnt1 hx hc hlx hFx hrg1 hlt1 hg1 hs1 hen => ?_))
        · go_meet
          case rel =>
            refine ⟨xs, HSW, HTW, HOW, by omega, Lib.hid fun y => ?_⟩
            rw [HXW.out y]
            constructor
            · rintro (h | ⟨o, f, _, h2, h3⟩)
              · exact .inl h
              · exact .inr ⟨o, f, h2, h3⟩
            · rintro (h | ⟨o, f, h2, h3⟩)
              · exact .inl h
              · exact .inr ⟨o, f, hl0 o, h2, h3⟩
        · obtain ⟨oa, ob, oc, od, hobj⟩ := RangeW.obj HRW.out
          have hno := own_iter HSW.out hobj
          have hgR : Turn (fun k => k = R) wr w1 := (Turn.refl _ _).grown hg1 (fun k e _ => by cases e; rfl)
          have HS3 := Lib.hid (HSW.out.turn hgR (fun k e h => hno (e ▸ h)))
          have HT3 := Lib.hid (HTW.out.trans hgR (cs := fun k => k = R) (fun k hk e => absurd hk (by omega)))
          have HO3 := Lib.hid (own_turn HOW.out hgR (fun k hk e => by
            obtain ⟨_, cs, hcs⟩ := own_cells HOW.out k hk
            rw [e, hobj] at hcs; simp at hcs))
          have hcf := (HF.out x c hFx).2
          obtain ⟨fn, hfn⟩ := Int.eq_ofNat_of_zero_le hcf.1
          subst hfn
          have hfl : fn < L.n := by omega
          have HFD := Lib.hid (find_any L w1 HS3.out fn hfl)
          have HFx := Lib.hid hFx
          have HLX := Lib.hid hlx
          have HRG1 := Lib.hid hrg1
          have hB1 : w.heap.size ≤ w1.heap.size := HT3.out.size
          have hivl : (iv xs).length = xs.length := by simp [iv]
          have HIV := Lib.hid hivl
          clear hobj hno hgR hFx hlx hrg1 hg1 hs1 hcf hivl hc
          go_wp2_with (first | (go_at_call 42; refine (HFD.out).mono ?_; rintro e w4 ⟨rfl, hs4, ht4⟩; have HS4 := Lib.hid hs4; have HT4 := Lib.hid ht4; have hB4 := ht4.size; have HO4 := Lib.hid (own_turn HO3.out ht4 (fun k hk e => by have h8 := (own_cells HO3.out k hk).1; have h9 := HOWN.out _ (.inr (.inl rfl)); omega)); clear hs4 ht4) | (at_builtin; refine wpList_append_own _ rfl _ _ 47 rfl w.heap.size 3 i0 (.int .i64 0) 1 8 Tryd.underlying47 hi hz0 hz1 hz2 rfl (by decide) _ xs.length (iv xs) rfl (HO4.out.alloc _) ⟨w4.heap.size, 0, none⟩ 1 1 [.int .i64 (rt fn)] rfl rfl (cells_new _ _ _ _ rfl) (by intro u hu; simp at hu; rcases hu with rfl; rfl) (by unfold maxLen; omega) (by omega) (Nat.le_trans hB1 (Nat.le_trans hB4 (by simp))) ?_; intro v' w5 hown5 hgrow5 _))
          go_roundg cnt1
          case measure => exact hlt1
          case rel =>
            have hgB : Turn (fun k => w.heap.size ≤ k) w4 w5 := ((Turn.refl _ _).alloc _).grown hgrow5 (fun k e _ => (own_cells HO4.out k e).1)
            obtain ⟨oa, ob, oc, od, hobj⟩ := RangeW.obj HRG1.out
            have hlR := RangeW.lt HRG1.out
            have hRu : R ≠ L.gu := fun e => by have := HOWN.out _ (.inr (.inl rfl)); omega
            have hob4 : w4.heap[R]? = w1.heap[R]? := HT4.out.block R hlR hRu
            have hR4 := Nat.lt_of_lt_of_le hlR HT4.out.size
            have hob5 : w5.heap[R]? = w4.heap[R]? := (hgrow5.block R (Nat.lt_of_lt_of_le hR4 (by simp)) (fun e => by
              obtain ⟨_, cs, hcs⟩ := own_cells HO4.out R e.symm
              rw [hob4, hobj] at hcs; simp at hcs)).trans (alloc_other _ _ hR4)
            have hgl := HS3.out.lt (.inr (.inr (.inr ⟨v, hv, rfl⟩)))
            have hgn := L.gm_ne HS3.out hv
            have hgm4 : w4.heap[L.gm v]? = w1.heap[L.gm v]? := HT4.out.block _ hgl hgn.2.1
            have hgm5 : w5.heap[L.gm v]? = w4.heap[L.gm v]? := hgB.block _ (Nat.lt_of_lt_of_le hgl HT4.out.size) (fun e => by have := HOWN.out _ (.inr (.inr (.inr ⟨v, hv, rfl⟩))); omega)
            refine ⟨fun z => left z && z != x, xs ++ [rt fn], Lib.hid (RangeW.same HRG1.out (hgm5.trans hgm4) (hob5.trans hob4)), Lib.hid (HS4.out.new HOWN.out hgB), Lib.hid ((HT3.out.trans HT4.out (fun _ _ e => e)).trans hgB (fun k hk hb => absurd hb (by omega))), Lib.hid ?_, by simp; omega, Lib.hid fun y => ?_⟩
            · have : iv (xs ++ [rt fn]) = iv xs ++ [.int .i64 (rt fn)] := by simp [iv]
              rw [this, List.length_append]; exact hown5
            · rw [List.mem_append, HXW.out y]
              constructor
              · rintro ((h | ⟨o, f, h1, h2, h3⟩) | h)
                · exact .inl h
                · exact .inr ⟨o, f, by simp [h1], h2, h3⟩
                · exact .inr ⟨x, fn, by simp, HFx.out, by simpa using h⟩
              · rintro (h | ⟨o, f, h1, h2, h3⟩)
                · exact .inl (.inl h)
                · by_cases ho : o = x
                  · subst ho
                    rw [HFx.out] at h2
                    cases h2
                    right; simp [h3]
                  · have hb : (o != x) = true := by simpa using ho
                    simp only [hb, Bool.and_true] at h1
                    exact .inl (.inr ⟨o, f, h1, h2, h3⟩)
    case rest =>
      obtain ⟨xs, HS5, HT5, HO5, hl5, HX5⟩ := hcut
      go_wp2
      go_ret
      exact ⟨_, xs, rfl, HS5.out, HT5.out, HO5.out, hl5, HX5.out⟩
end Go.Proofs.YtepmgnhblegiiaaDoor
