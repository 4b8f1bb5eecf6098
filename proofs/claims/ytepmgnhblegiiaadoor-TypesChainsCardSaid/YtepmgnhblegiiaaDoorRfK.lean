/- The reference: contains. No condition beyond what each states. -/
import Derived.Test.YtepmgnhblegiiaaDoorRfD
set_option linter.all false
namespace Go.Proofs.YtepmgnhblegiiaaDoor
open Go Go.RowKit Go.Maps

/-- A row of marks. -/
def SeeW (g n : Nat) (seen : Nat → Bool) (w : World) : Prop := ∃ c : Array Value, w.heap[g]? = some (.cells c 4 (0, 0)) ∧ ∀ v, v < n → c[v]? = some (.bool (seen v))
theorem SeeW.turn {g n : Nat} {seen : Nat → Bool} {w w' : World} {bs : Nat → Prop} (h : SeeW g n seen w) (t : Turn bs w w') (hb : ¬ bs g) : SeeW g n seen w' := by
  obtain ⟨c, hg, hc⟩ := h
  exact ⟨c, t.heap hg hb, hc⟩
theorem SeeW.at {g n : Nat} {seen : Nat → Bool} {w : World} (h : SeeW g n seen w) {v : Nat} (hv : v < n) : w.cell? ⟨g, v, none⟩ = some (.bool (seen v)) ∧ w.frozen? ⟨g, v, none⟩ = false := by
  obtain ⟨c, hg, hc⟩ := h
  exact ⟨by rw [cell_of_row _ _ _ _ _ _ hg]; exact hc v hv, frozen_of_row _ _ _ _ _ hg⟩
theorem SeeW.lt {g n : Nat} {seen : Nat → Bool} {w : World} (h : SeeW g n seen w) : g < w.heap.size := by
  obtain ⟨c, hg, -⟩ := h
  exact (Array.getElem?_eq_some_iff.1 hg).1
theorem SeeW.set {g n : Nat} {seen : Nat → Bool} {w : World} (h : SeeW g n seen w) {v : Nat} (hv : v < n) : SeeW g n (setB seen v) (w.setCell ⟨g, v, none⟩ (.bool true)) := by
  obtain ⟨c, hg, hc⟩ := h
  refine ⟨_, heap_setCell_same hg _, fun u hu => ?_⟩
  have hs : v < c.size := (Array.getElem?_eq_some_iff.1 (hc v hv)).1
  by_cases e : u = v
  · subst e; simp [setB, hs]
  · rw [Array.getElem?_setIfInBounds_ne (Ne.symm e), hc u hu]; simp [setB, e]
theorem infoBool : (Tryd.prog.info? 4).map (fun i => (i.zero, i.size, i.bytes)) = some (some (.bool false), 1, 1) := by kernel_rfl
def nv (l : List Nat) : List Value := l.map fun n : Nat => .int .i64 (n : Int)
theorem nv_len (l : List Nat) : (nv l).length = l.length * 1 := by simp [nv]
theorem nv_snoc (l : List Nat) (x : Nat) : nv (l ++ [x]) = nv l ++ [.int .i64 (x : Int)] := by simp [nv]
theorem nv_take (l : List Nat) (k : Nat) : (nv l).take (k * 1) = nv (l.take k) := by simp [nv, List.map_take]
theorem iv_snoc (l : List Int) (x : Int) : iv (l ++ [x]) = iv l ++ [.int .i64 x] := by simp [iv]
/-- The rows as the rest of a walk reads them. -/
structure ViewW (g n : Nat) (rw : Nat → Row) (fv : Nat → Value) (w : World) : Prop where
  cel : CelW g n rw fv w
  mem : ∀ v, v < n → MemsV w (fv v) (rw v).fields
theorem DesW.view {B g n : Nat} {rw : Nat → Row} {fv : Nat → Value} {w : World} (h : DesW B g n rw fv w) : ViewW g n rw fv w := ⟨h.cel, fun v hv => own_view_mems (h.own v hv)⟩
theorem ViewW.keep {g n : Nat} {rw : Nat → Row} {fv : Nat → Value} {w w' : World} (h : ViewW g n rw fv w) (hb : Below w.heap.size w w') : ViewW g n rw fv w' :=
  ⟨h.cel.turn (Turn.ofBelow (bs := fun _ => False) hb) (fun h => h), fun v hv => (h.mem v hv).below hb⟩
/-- What a search may rely on of the rows: each is its class's own (by cl). -/
structure RowsI (n : Nat) (cl : Nat → Int) (rw rs : Nat → Row) : Prop where
  same : ∀ v, v < n → cl v = v → rs v = rw v
theorem RowsI.of (n : Nat) {cs : List Con} {cl : Nat → Int} (_h : ClaI n cs cl) (rw : Nat → Row) : RowsI n cl rw (fun v => rw (cl v).toNat) := ⟨fun v hv e => by simp only [e]; simp⟩
def HasPost (n : Nat) (cl : Nat → Int) (rw : Nat → Row) (a z : Nat) (w : World) (e : Ending) (w' : World) : Prop :=
  ∃ b : Bool, e = .returned (.bool b) ∧ Below w.heap.size w w' ∧ (b = true ↔ Path (rtK n cl) (ofK n rw) a z)
theorem DesI.path_root {n : Nat} {cs ps : List Con} {cl : Nat → Int} {rw : Nat → Row} {ok : Bool} (h : DesI n cs ps cl rw ok) {u v : Int} (hp : Path (rtK n cl) (ofK n rw) u v) : ∀ x : Nat, u = x → x < n → RootN n cl v := by
  induction hp with
  | one e =>
    rintro x rfl hx
    exact h.outs_root hx ((h.edge hx).1 e)
  | more e _ ih =>
    rintro x rfl hx
    obtain ⟨p, hp, he, -⟩ := h.outs_root hx ((h.edge hx).1 e)
    exact ih p he hp
theorem SeaI.root {n : Nat} {cs ps : List Con} {cl : Nat → Int} {rw : Nat → Row} {ok : Bool} {a z : Nat} {seen : Nat → Bool} {todo : List Nat} {pend : List Int} (hd : DesI n cs ps cl rw ok) (h : SeaI n cl rw a z seen todo pend) (ha : a < n) (hra : cl a = a) {x : Nat} (hx : x ∈ todo) : x < n ∧ cl x = x := by
  obtain ⟨h1, h2⟩ := h.tv x hx
  refine ⟨h1, ?_⟩
  rcases h2 with rfl | hp
  · exact hra
  · obtain ⟨p, -, he, hc⟩ := hd.path_root hp a rfl ha
    have : x = p := by omega
    rw [this]; exact hc
theorem outs_len (r : Row) (h : r.fields.length ≤ 65536) : (outs r).length ≤ 65537 := by
  unfold outs
  rw [List.length_append, List.length_map]
  split <;> simp <;> omega

set_option maxRecDepth 100000 in
set_option maxHeartbeats 4000000 in
theorem rcontains_any (n : Nat) (hn2 : n ≤ 2000) (cs ps : List Con) (cl : Nat → Int) (rw rs : Nat → Row) (ok : Bool) (hd : DesI n cs ps cl rw ok) (hrs : RowsI n cl rw rs) (fv : Nat → Value) (g cap : Nat) (hcap : n ≤ cap) (a z : Nat) (ha : a < n) (hra : cl a = a) (w : World) (h : ViewW g n rs fv w) :
    Calls Tryd.prog 66 #[.slice (some ⟨g, 0, none⟩) n cap, .int .i64 a, .int .i64 z] w (HasPost n cl rw a z w) := by
  have HD := Lib.hid hd
  have HRS := Lib.hid hrs
  have H := Lib.hid h
  have HRA := Lib.hid hra
  clear hd hrs h hra
  obtain ⟨i0, hi, hz0, hz1, hz2⟩ := info_parts infoInt
  obtain ⟨i1, hi1, hz01, hz11, hz21⟩ := info_parts infoBool
  go_enter Tryd.func66, Tryd.ntmps66
  go_upto_region 2 with (refine wpList_make_full _ rfl _ _ 95 rfl w.heap.size 4 i1 (.bool false) 1 Tryd.underlying95 hi1 hz01 hz11 .i64 .i64 (n : Int) (n : Int) n rfl rfl rfl rfl (by rw [hz21]; omega) (by unfold maxLen; omega) (Nat.le_refl _) ?_; intro w1 hown1 hgrow1)
  have hsee : SeeW w.heap.size n (fun _ => false) w1 := by
    rcases hown1.2 with ⟨e, -⟩ | ⟨g, cap, cur, e, hB, hgc, h1, h2, h3, h4⟩
    · cases e
    · simp only [Value.slice.injEq, Option.some.injEq, Addr.mk.injEq, and_true, true_and] at e
      obtain ⟨rfl, rfl⟩ := e
      refine ⟨cur, hgc, fun u hu => ?_⟩
      have hc : (madeCells #[Value.bool false] (n * 1)).toList[u]? = some (.bool false) := by simp [madeCells, hu, Nat.mod_one]
      have h5 : (cur.toList.take (n * 1))[u]? = cur.toList[u]? := by rw [List.getElem?_take, if_pos (by omega)]
      rw [h4] at h5
      rw [← Array.getElem?_toList, ← h5]
      exact hc
  have hbl1 : Below w.heap.size w w1 := ((Turn.refl (fun _ => False) w).grown hgrow1 (fun k e => by cases e)).toBelow (Nat.le_refl _) (fun _ h => h.elim)
  have HSEE := Lib.hid hsee
  have HB1 := Lib.hid hbl1
  have hs1 : w.heap.size + 1 ≤ w1.heap.size := hsee.lt
  clear hown1 hgrow1 hsee hbl1
  go_wp2_with fail
  have hunle := unN_le (fun _ => false) n
  go_loopg [8] (2 * n + 1) (fun m s8 wr => ∃ (v8 : Value) (seen : Nat → Bool) (todo : List Nat), s8 = v8 ∧ 2 * unN seen n + todo.length ≤ m ∧ todo.length + unN seen n ≤ n + 1 ∧ Hid (wr.ownsRow (w.heap.size + 1) 3 1 v8 todo.length (nv todo)) ∧ Hid (SeeW w.heap.size n seen wr) ∧ Hid (SeaI n cl rw a z seen todo []) ∧ Hid (Below w.heap.size w wr))
  case atStart => exact ⟨_, _, [a], rfl, by simp; omega, by simp; omega, Lib.hid (own_mono (World.ownsRow_lit (base := w1.heap.size) (size := 1) (e := 3) w1 #[.int .i64 (a : Int)] 1 (Nat.le_refl _) (by decide) rfl) hs1), Lib.hid (HSEE.out.turn ((Turn.refl (fun _ => False) _).alloc _) (fun h => h)), Lib.hid (SeaI.start ha), Lib.hid (HB1.out.alloc HB1.out.size _)⟩
  case round =>
    clear HSEE HB1 hunle
    obtain ⟨v8, seen, todo, h8, hm, hcnt, HOT, HSE, HSI, HB⟩ := hrel
    have h8' := h8.symm
    subst h8'
    have hunn := unN_le seen n
    obtain ⟨sp, sc, h9⟩ := own_slice HOT.out
    subst h9
    rcases List.eq_nil_or_concat todo with rfl | ⟨td, x, hq⟩
    · go_wp2_with fail
      go_ret
      exact ⟨false, rfl, HB.out, ⟨fun h => (by cases h), fun h => absurd h (SeaI.none HD.out ha HSI.out)⟩⟩
    · rw [List.concat_eq_append] at hq
      subst hq
      have hlen : (td ++ [x]).length = td.length + 1 := by simp
      rw [hlen] at HOT hm hcnt
      obtain ⟨M, hMe, hMm⟩ : ∃ M, 2 * unN seen n + (td.length + 1) = M ∧ M ≤ _ := ⟨_, rfl, hm⟩
      have hM : 2 * unN seen n + (td.length + 1) ≤ M := by omega
      clear hMe hm
      obtain ⟨hxn, hxr⟩ := HSI.out.root HD.out ha HRA.out (x := x) (by simp)
      have hrx := HRS.out.same x hxn hxr
      have hvw := H.out.keep HB.out
      obtain ⟨c, hg, hc⟩ := hvw.cel.c
      have hmx := hvw.mem x hxn
      rw [hrx] at hmx
      obtain ⟨am, cm0, hfv, hmc⟩ := hmx
      have HEX := Lib.hid (show (c.extract (x * 7) (x * 7 + (rowCells (rw x) (.slice am (rw x).fields.length cm0)).length)).toList = rowCells (rw x) (.slice am (rw x).fields.length cm0) from ext_at (fun j hj => by rw [hc x hxn j hj, hrx, hfv]))
      have HG := Lib.hid hg
      have HMC := Lib.hid hmc
      obtain ⟨gt, curt, hsp, hBt, hgt, hcurt⟩ := own_ptr HOT.out (by omega)
      subst hsp
      have HGT := Lib.hid hgt
      have hct : wr.cell? ⟨gt, td.length, none⟩ = some (.int .i64 (x : Int)) := by
        rw [cell_of_row _ _ _ _ _ _ hgt, hcurt _ (by omega)]; simp [nv]
      have hcap9 := own_cap HOT.out
      have hc9 : td.length + 1 ≤ sc := hcap9.1
      have HPOP := Lib.hid (SeaI.pop HD.out HSI.out)
      have hrow := HD.out.rows x hxn
      have hfew := hrow.few
      have hel : (rw x).elem = -1 ∨ 0 ≤ (rw x).elem := by rcases hrow.elem with e | ⟨p, _, e, _⟩ <;> omega
      have HROOT := Lib.hid (fun y hy => HD.out.outs_root (x := x) hxn (y := y) hy)
      have holen := outs_len (rw x) hfew
      have hgtl : gt < wr.heap.size := (Array.getElem?_eq_some_iff.1 hgt).1
      clear hg hc hmc hgt hcurt hvw hrx hfv hrow hcap9 hlen h8
      go_upto_region 5 with (first | (refine wpList_val (by rfl) (exec_load_midB 44 _ rfl g (x * 7) rfl c 44 (0, 0) HG.out (rowCells (rw x) (.slice am (rw x).fields.length cm0)) HEX.out (by kernel_rfl)) ?_) | (refine wpList_store_row rfl _ _ _ rfl _ _ rfl rfl _ _ (heap_alloc_new _ _) ?_ ?_ ?_ ?_; kernel_rfl; rfl; kernel_rfl; rw [World.setRow_alloc_new]))
      obtain ⟨W, hW⟩ : ∃ W, W = wr.alloc (.cells #[.int .i64 (rw x).cls, .int .i64 (rw x).size, .int .i64 (rw x).sign, .int .i64 (rw x).ptr, .int .i64 (rw x).elem, .int .i64 (rw x).count, .slice am (rw x).fields.length cm0] 44) := ⟨_, rfl⟩
      change Code.wp _ _ _ _ (wr.alloc (.cells #[.int .i64 (rw x).cls, .int .i64 (rw x).size, .int .i64 (rw x).sign, .int .i64 (rw x).ptr, .int .i64 (rw x).elem, .int .i64 (rw x).count, .slice am (rw x).fields.length cm0] 44))
      rw [← hW]
      have htw : Turn (fun _ => False) wr W := by rw [hW]; exact (Turn.refl _ _).alloc _
      have hbx : W.heap[wr.heap.size]? = some (.cells #[.int .i64 (rw x).cls, .int .i64 (rw x).size, .int .i64 (rw x).sign, .int .i64 (rw x).ptr, .int .i64 (rw x).elem, .int .i64 (rw x).count, .slice am (rw x).fields.length cm0] 44 (0, 0)) := by rw [hW]; exact heap_alloc_new _ _
      have k4 : W.cell? ⟨wr.heap.size, 4, none⟩ = some (.int .i64 (rw x).elem) := by rw [cell_of_row _ _ _ _ _ _ hbx]; rfl
      have hszW : wr.heap.size ≤ W.heap.size := htw.size
      have hszw : w.heap.size ≤ wr.heap.size := HB.out.size
      have HBX := Lib.hid hbx
      have HTW := Lib.hid htw
      have HTD := Lib.hid (show W.ownsRow (w.heap.size + 1) 3 1 (.slice (some ⟨gt, 0, none⟩) td.length sc) td.length (nv td) by
        have h9 := own_cut (own_turn HOT.out htw (fun _ _ h => h)) (k := td.length) (by omega)
        rw [nv_take] at h9
        simpa using h9)
      have HSW := Lib.hid (HSE.out.turn htw (fun h => h))
      have HBW := Lib.hid (HB.out.trans (htw.toBelow hszw (fun _ h => h.elim)))
      have HMW := Lib.hid (show 0 < (rw x).fields.length → ∃ g off c T, am = some ⟨g, off, none⟩ ∧ W.heap[g]? = some (.cells c T (0, 0)) ∧ ∀ i p, (rw x).fields[i]? = some p → c[off + i * 2]? = some (.int .i64 p.1) ∧ c[off + (i * 2 + 1)]? = some (.int .i64 p.2) from fun h0 => by
        obtain ⟨g, off, c, T, e, hg, hc⟩ := HMC.out h0
        exact ⟨g, off, c, T, e, htw.heap hg (fun h => h), hc⟩)
      clear hW htw hbx HMC hct HOT HSE HB HEX HG HGT
      have hgtb : w.heap.size + 1 ≤ gt := hBt
      generalize hbxe : wr.heap.size = bx at *
      have HBE := Lib.hid hbxe
      clear hbxe
      go_upto_if 37 with fail
      go_cut [10] (fun s10 wx => ∃ v10, s10 = v10 ∧ Hid (wx.ownsRow W.heap.size 3 1 v10 (if (rw x).elem = -1 then [] else [(rw x).elem]).length (iv (if (rw x).elem = -1 then [] else [(rw x).elem]))) ∧ Hid (Turn (fun _ => False) W wx))
      case first =>
        by_cases he : (rw x).elem = -1
        · have hlt : ¬ (rw x).elem ≥ 0 := by omega
          have HE := Lib.hid he
          clear he hel
          go_wp2_with fail
          go_meet
          case rel => exact ⟨_, rfl, Lib.hid (by rw [if_pos HE.out]; exact ⟨rfl, .inl ⟨rfl, rfl⟩⟩), Lib.hid (Turn.refl _ _)⟩
        · have hlt : (rw x).elem ≥ 0 := by omega
          have HE := Lib.hid he
          clear he hel
          go_wp2_with (at_builtin; refine wpList_append_own _ rfl _ _ 47 rfl W.heap.size 3 i0 (.int .i64 0) 1 8 Tryd.underlying47 hi hz0 hz1 hz2 rfl (by decide) (.slice none 0 0) 0 [] rfl ⟨rfl, .inl ⟨rfl, rfl⟩⟩ ⟨W.heap.size, 0, none⟩ 1 1 [.int .i64 (rw x).elem] rfl rfl (cells_new _ _ _ _ rfl) (by intro u hu; simp at hu; rcases hu with rfl; rfl) (by unfold maxLen; omega) (by omega) (by simp) ?_; intro v5 w5 hown5 hgrow5 _)
          go_meet
          case rel => exact ⟨_, rfl, Lib.hid (by rw [if_neg HE.out]; exact hown5), Lib.hid (((Turn.refl (fun _ => False) W).alloc _).grown hgrow5 (fun k e => by cases e))⟩
      case rest =>
        obtain ⟨v10, h10, HO10, HT10⟩ := hcut
        have h10' := h10.symm
        subst h10'
        have HSL := Lib.hid (And.intro trivial trivial)
        obtain ⟨e0, he0⟩ : ∃ e0, e0 = (if (rw x).elem = -1 then [] else [(rw x).elem]) := ⟨_, rfl⟩
        rw [← he0] at HO10
        have hel0 : e0.length ≤ 1 := by rw [he0]; split <;> simp
        have HE0 := Lib.hid he0
        clear he0 hel k4 h10
        go_upto_block 2 with fail
        go_cut [10] (fun s10 wx => ∃ v10, s10 = v10 ∧ Hid (wx.ownsRow W.heap.size 3 1 v10 (outs (rw x)).length (iv (outs (rw x)))) ∧ Hid (Turn (fun _ => False) W wx))
        case first =>
          go_wp2_with fail
          go_loopw [10, 11] (fun s10 s11 wr => ∃ (k : Nat) (v10 : Value), s10 = v10 ∧ k ≤ (rw x).fields.length ∧ s11 = .int .i64 k ∧ Hid (wr.ownsRow W.heap.size 3 1 v10 (e0 ++ ((rw x).fields.take k).map (·.2)).length (iv (e0 ++ ((rw x).fields.take k).map (·.2)))) ∧ Hid (Turn (fun _ => False) W wr)) (fun _ s11 _ => (rw x).fields.length - (intOf s11).toNat)
          case atStart => exact ⟨0, _, rfl, Nat.zero_le _, rfl, Lib.hid (by simpa using HO10.out), HT10⟩
          case round =>
            clear HO10 HT10
            obtain ⟨k, v10, h10, hk, rfl, HOV, HTV⟩ := hrel
            have h10' := h10.symm
            subst h10'
            have k6 : wr.cell? ⟨bx, 6, none⟩ = some (.slice am (rw x).fields.length cm0) := by rw [cell_of_row _ _ _ _ _ _ (HTV.out.heap HBX.out (fun h => h))]; rfl
            have hszv : W.heap.size ≤ wr.heap.size := HTV.out.size
            by_cases hlt : k < (rw x).fields.length
            · obtain ⟨gm, om, cmm, Tm, rfl, hgm, hcm⟩ := HMW.out (by omega)
              obtain ⟨p, hp⟩ : ∃ p, (rw x).fields[k]? = some p := ⟨(rw x).fields[k], by simp [hlt]⟩
              have km : wr.cell? ⟨gm, om + k * 2 + 1, none⟩ = some (.int .i64 p.2) := by rw [cell_of_row _ _ _ _ _ _ (HTV.out.heap hgm (fun h => h)), Nat.add_assoc]; exact (hcm k p hp).2
              have HTK := Lib.hid (show e0 ++ ((rw x).fields.take (k + 1)).map (·.2) = (e0 ++ ((rw x).fields.take k).map (·.2)) ++ [p.2] by rw [List.take_add_one, hp]; simp)
              have hll : (e0 ++ ((rw x).fields.take k).map (·.2)).length ≤ 65538 := by rw [List.length_append, List.length_map, List.length_take]; omega
              have HLL := Lib.hid (iv_len (e0 ++ ((rw x).fields.take k).map (·.2)))
              clear hgm hcm hp
              generalize e0 ++ ((rw x).fields.take k).map (·.2) = ll at *
              go_wp2_with (at_builtin; refine wpList_append_own _ rfl _ _ 47 rfl W.heap.size 3 i0 (.int .i64 0) 1 8 Tryd.underlying47 hi hz0 hz1 hz2 rfl (by decide) _ ll.length (iv ll) rfl (own_turn HOV.out ((Turn.refl (fun _ => False) _).alloc _) (fun _ _ h => h)) ⟨wr.heap.size, 0, none⟩ 1 1 [.int .i64 p.2] rfl rfl (cells_new _ _ _ _ rfl) (by intro u hu; simp at hu; rcases hu with rfl; rfl) (by unfold maxLen; omega) (by omega) (Nat.le_trans hszv (by simp)) ?_; intro v5 w5 hown5 hgrow5 _)
              go_roundw
              case rel => exact ⟨k + 1, _, rfl, by omega, by go_num, Lib.hid (by rw [HTK.out, iv_snoc, List.length_append]; exact hown5), Lib.hid (HTV.out.trans (((Turn.refl (fun k => W.heap.size ≤ k) wr).alloc _).grown hgrow5 (fun k e _ => (own_cells HOV.out k e).1)) (fun k hk h => by omega))⟩
              case measure => simp [intOf]; omega
            · have hkn : k = (rw x).fields.length := by omega
              subst hkn
              go_wp2_with fail
              go_meet
              case rel => exact ⟨_, rfl, Lib.hid (by have h9 := HOV.out; rw [List.take_length, HE0.out] at h9; exact h9), HTV⟩
        case rest =>
          clear HO10 HT10
          obtain ⟨v10, h10, HO10, HT10⟩ := hcut
          have h10' := h10.symm
          subst h10'
          clear h10
          generalize outs (rw x) = os at *
          have hszc : W.heap.size ≤ wc.heap.size := HT10.out.size
          obtain ⟨np, nc, hnv⟩ := own_slice HO10.out
          subst hnv
          have HTC := Lib.hid (own_turn HTD.out HT10.out (fun _ _ h => h))
          have HSC := Lib.hid (HSW.out.turn HT10.out (fun h => h))
          have HBC := Lib.hid (HBW.out.trans (HT10.out.toBelow (Nat.le_trans hszw hszW) (fun _ h => h.elim)))
          clear HTD HSW HBW HT10 HTW HBX HMW
          go_wp2_with fail
          go_loopw [8, 12] (fun s8 s12 wr => ∃ (k : Nat) (v8 : Value) (seen' : Nat → Bool) (td : List Nat), s8 = v8 ∧ k ≤ os.length ∧ s12 = .int .i64 k ∧ 2 * unN seen' n + td.length + 1 ≤ M ∧ td.length + unN seen' n ≤ n ∧ Hid (wr.ownsRow (w.heap.size + 1) 3 1 v8 td.length (nv td)) ∧ Hid (∀ q, v8.ownBlock = some q → (Value.slice np os.length nc).ownBlock ≠ some q) ∧ Hid (SeeW w.heap.size n seen' wr) ∧ Hid (SeaI n cl rw a z seen' td (os.drop k)) ∧ Hid (wr.ownsRow W.heap.size 3 1 (.slice np os.length nc) os.length (iv os)) ∧ Hid (Below w.heap.size w wr)) (fun _ s12 _ => os.length - (intOf s12).toNat)
          case atStart => exact ⟨0, _, seen, td, rfl, Nat.zero_le _, rfl, by omega, by omega, HTC, Lib.hid (fun q hq e => by have h8 := (own_cells HO10.out q e).1; have h7 := (HTC.out.lt q hq).2; simp only [Value.ownBlock, Option.some.injEq] at hq; omega), HSC, HPOP, HO10, HBC⟩
          case round =>
            clear HTC HSC HBC HPOP HO10 hcnt hM hunn
            obtain ⟨k, v8, seen', td', h8, hk, rfl, hm, hcnt, HTC, HAP, HSC, HSI2, HO10, HBC⟩ := hrel
            have h8' := h8.symm
            subst h8'
            clear h8
            by_cases hlt : k < os.length
            · obtain ⟨y, hy⟩ : ∃ y, os[k]? = some y := ⟨os[k], by simp [hlt]⟩
              have hdr : os.drop k = y :: os.drop (k + 1) := by rw [List.drop_eq_getElem_cons hlt]; congr 1; exact Option.some.inj (by rw [← hy]; simp [hlt])
              have hyr := HROOT.out y (List.mem_of_getElem? hy)
              obtain ⟨yn, hyn, rfl, hyc⟩ := hyr
              have HSI3 := Lib.hid (by have h9 := HSI2.out; rw [hdr] at h9; exact h9)
              obtain ⟨gn, curn, hnp, hBn, hgn, hcurn⟩ := own_ptr HO10.out (by omega)
              subst hnp
              have kn : wr.cell? ⟨gn, k, none⟩ = some (.int .i64 (yn : Int)) := by rw [cell_of_row _ _ _ _ _ _ hgn, hcurn _ (by omega)]; simp [iv, hy]
              have HGN := Lib.hid (And.intro hgn (And.intro hBn (show curn[k]? = some (.int .i64 (yn : Int)) by rw [hcurn _ (by omega)]; simp [iv, hy])))
              have ks := (HSC.out.at hyn).1
              have fs := (HSC.out.at hyn).2
              clear hdr hyc hgn hcurn hy
              by_cases hyz : yn = z
              · have hpth := (HSI3.out.pv (yn : Int) (by simp)).2
                have HPT := Lib.hid hpth
                subst hyz
                clear hpth
                go_wp2_with fail
                go_ret
                exact ⟨true, rfl, HBC.out, ⟨fun _ => HPT.out, fun _ => rfl⟩⟩
              · have hyz2 : ((yn : Int) == (z : Int)) = false := by simp; omega
                have HYZ := Lib.hid hyz
                clear hyz
                cases hsn : seen' yn
                · rw [hsn] at ks
                  have hun := unN_set (n := n) hsn hyn
                  have HSN := Lib.hid hsn
                  have HS2 := Lib.hid (HSC.out.set hyn)
                  have hgl := HSC.out.lt
                  have hne : gn ≠ w.heap.size := by omega
                  have HNV := Lib.hid (nv_len td')
                  have hszv : w.heap.size ≤ wr.heap.size := HBC.out.size
                  obtain ⟨tp, tc, htv⟩ := own_slice HTC.out
                  subst htv
                  have HTC2 := Lib.hid (own_turn HTC.out ((Turn.refl (fun k => k = w.heap.size) wr).setCell (g := w.heap.size) (i := yn) (.bool true) (fun _ => rfl)) (fun q hq e => by have h9 := (own_cells HTC.out q hq).1; omega))
                  have kn2 : (wr.setCell ⟨w.heap.size, yn, none⟩ (.bool true)).cell? ⟨gn, k, none⟩ = some (.int .i64 (yn : Int)) := by rw [cell_of_row _ _ _ _ _ _ ((heap_setCell_other hne _).trans HGN.out.1)]; exact HGN.out.2.2
                  clear hsn
                  go_wp2_with (at_builtin; go_loud (refine wpList_append_src _ rfl _ _ 47 rfl (w.heap.size + 1) 3 i0 (.int .i64 0) 1 8 Tryd.underlying47 hi hz0 hz1 hz2 rfl (by decide) (.slice tp td'.length tc) td'.length (nv td') rfl (own_turn HTC2.out ((Turn.refl (fun _ => False) _).alloc _) (fun _ _ h => h)) (some ⟨wr.heap.size, 0, none⟩) 1 1 (fun h => by cases h) [.int .i64 (yn : Int)] (by first | rfl | (simp; done)) ⟨rfl, fun _ => ⟨_, rfl, by have h9 := cells_new (wr.setCell ⟨w.heap.size, yn, none⟩ (.bool true)) #[.int .i64 (yn : Int)] 3 [.int .i64 (yn : Int)] rfl; first | exact h9 | simpa using h9⟩⟩ (by intro u hu; simp at hu; rcases hu with rfl; rfl) (by unfold maxLen; omega) (by omega) (by simp; omega) ?_; intro v5 w5 hown5 hgrow5 hat5))
                  have hat : ∀ q, v5.ownBlock = some q → (Value.slice tp td'.length tc).ownBlock = some q ∨ wr.heap.size ≤ q := fun q hq => by
                    rcases hat5 with e | e
                    · exact .inl (e.symm.trans hq)
                    · rw [e] at hq; simp at hq; right; omega
                  have hT5 : Turn (fun q => (Value.slice tp td'.length tc).ownBlock = some q) (wr.setCell ⟨w.heap.size, yn, none⟩ (.bool true)) w5 := ((Turn.refl _ _).alloc _).grown hgrow5 (fun q e _ => e)
                  have hT6 : Turn (fun q => q = w.heap.size ∨ (Value.slice tp td'.length tc).ownBlock = some q) wr w5 := ((Turn.refl (fun q => q = w.heap.size) wr).setCell (.bool true) (fun _ => rfl)).mono (fun _ _ h => Or.inl h) |>.trans hT5 (fun _ _ h => .inr h)
                  refine ⟨⟨k + 1, v5, setB seen' yn, td' ++ [yn], rfl, by omega, by go_num, by simp; omega, by simp; omega, Lib.hid (by rw [nv_snoc, List.length_append]; exact hown5), Lib.hid (fun q hq e => ?_), Lib.hid (HS2.out.turn hT5 (fun e => by have := (own_cells HTC.out _ e).1; omega)), Lib.hid (HSI3.out.push hyn HYZ.out), Lib.hid (own_turn HO10.out hT6 (fun q hq h => ?_)), Lib.hid (HBC.out.trans (hT6.toBelow hszv (fun q h => ?_)))⟩, by simp [intOf]; omega⟩
                  · rcases hat q hq with h | h
                    · exact HAP.out q h e
                    · have := (HO10.out.lt q e).2; omega
                  · rcases h with h | h
                    · have := (own_cells HO10.out q hq).1; omega
                    · exact HAP.out q h hq
                  · rcases h with h | h
                    · omega
                    · have := (own_cells HTC.out q h).1; omega
                · rw [hsn] at ks
                  have HSN := Lib.hid hsn
                  clear hsn
                  go_wp2_with fail
                  exact ⟨⟨k + 1, _, seen', td', rfl, by omega, by go_num, hm, hcnt, HTC, HAP, HSC, Lib.hid (HSI3.out.skip HSN.out), HO10, HBC⟩, by simp [intOf]; omega⟩
            · have hkn : k = os.length := by omega
              subst hkn
              go_wp2_with fail
              go_roundg (2 * unN seen' n + td'.length)
              case measure => omega
              case rel => exact ⟨_, seen', td', rfl, Nat.le_refl _, by omega, HTC, HSC, Lib.hid (by have h9 := HSI2.out; rw [List.drop_length] at h9; exact h9), HBC⟩
end Go.Proofs.YtepmgnhblegiiaaDoor
