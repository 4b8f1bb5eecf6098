/- TypesOrder walked. Condition: the table of powers of ten reads as the text lays it. -/
import Derived.Test.YtepmgnhblegiiaaDoorCnv
import Derived.Test.YtepmgnhblegiiaaDoorPlK
set_option linter.all false
namespace Go.Proofs.YtepmgnhblegiiaaDoor
open Go Go.RowKit Go.Maps

def swapC (l : List Con) (i k : Nat) (x y : Con) : List Con := (l.set i y).set k x
theorem swap_mem {l : List Con} {i k : Nat} {x y : Con} (hx : l[i]? = some x) (hy : l[k]? = some y) : SameC l (swapC l i k x y) := by
  have hi : i < l.length := (List.getElem?_eq_some_iff.1 hx).1
  have hk : k < l.length := (List.getElem?_eq_some_iff.1 hy).1
  have key : ∀ j, (swapC l i k x y)[j]? = if j = k then some x else if j = i then some y else l[j]? := fun j => by
    unfold swapC
    rw [List.getElem?_set]
    by_cases h1 : k = j
    · subst h1; rw [if_pos rfl, if_pos rfl, if_pos (by simpa using hk)]
    · rw [if_neg h1, if_neg (Ne.symm h1), List.getElem?_set]
      by_cases h2 : i = j
      · subst h2; rw [if_pos rfl, if_pos rfl, if_pos hi]
      · rw [if_neg h2, if_neg (Ne.symm h2)]
  have hlen : (swapC l i k x y).length = l.length := by simp [swapC]
  intro c
  constructor
  · intro hc
    obtain ⟨j, hj, rfl⟩ := List.mem_iff_getElem.1 hc
    by_cases h1 : j = i
    · subst h1
      have := key k
      rw [if_pos rfl] at this
      have e : l[j] = x := Option.some.inj (by rw [← hx]; simp [hj])
      rw [e]; exact List.mem_of_getElem? this
    · by_cases h2 : j = k
      · subst h2
        have e : l[j] = y := Option.some.inj (by rw [← hy]; simp [hj])
        have := key i
        by_cases h3 : i = j
        · exact absurd h3.symm h1
        · rw [if_neg h3, if_pos rfl] at this
          rw [e]; exact List.mem_of_getElem? this
      · have := key j
        rw [if_neg h2, if_neg h1] at this
        exact List.mem_of_getElem? (this.trans (by simp [hj]))
  · intro hc
    obtain ⟨j, hj, hjc⟩ := List.mem_iff_getElem.1 hc
    have := key j
    rw [List.getElem?_eq_getElem hj, hjc] at this
    by_cases h2 : j = k
    · rw [if_pos h2] at this; cases this; exact List.mem_of_getElem? hx
    · rw [if_neg h2] at this
      by_cases h1 : j = i
      · rw [if_pos h1] at this; cases this; exact List.mem_of_getElem? hy
      · rw [if_neg h1] at this; exact List.mem_of_getElem? this.symm
theorem swap_len (l : List Con) (i k : Nat) (x y : Con) : (swapC l i k x y).length = l.length := by simp [swapC]

set_option maxRecDepth 100000 in
set_option maxHeartbeats 4000000 in
theorem typesOrder_any (z : Int) (hz : i64ok z) (ao : Option Addr) (len cap : Nat) (hlen : len ≤ 9223372036854775807) (sd : Int) (hsd : i64ok sd) (w : World) (h : ArrW ao len w) (hT : TabP w) :
    Calls Tryd.prog 6 #[.int .i64 z, .slice ao len cap, .int .i64 sd] w fun e w' => e = .returned (.bool true) ∧ Below w.heap.size w w' := by
  have HSN := Lib.hid (sanity_any w hT)
  have H := Lib.hid h
  have HSZ := Lib.hid (fun W => size_any z hz W)
  obtain ⟨n, hn⟩ := Int.eq_ofNat_of_zero_le (show 0 ≤ 1 + z % 14 by have := Int.emod_nonneg z (show (14 : Int) ≠ 0 by omega); omega)
  have hn1 : 0 < n := by have := Int.emod_nonneg z (show (14 : Int) ≠ 0 by omega); omega
  have hn2 : n ≤ 2000 := by have := Int.emod_lt_of_pos z (show (0 : Int) < 14 by omega); omega
  rw [hn] at HSZ
  obtain ⟨j0, hj0, hy0, hy1, hy2⟩ := info_parts infoCon
  clear hn h hT
  go_enter Tryd.func6, Tryd.ntmps6
  go_upto_region 2 with (go_at_call 14; refine (HSN.out).mono ?_; rintro e w1 ⟨rfl, hb1⟩)
  have HB1 := Lib.hid hb1
  have HMD := Lib.hid (made_any n hn1 hn2 w1 ao len cap hlen (H.out.below hb1))
  clear hb1
  go_upto_region 3 with (first | (go_at_call 16; refine (HSZ.out _).mono ?_; rintro e wz ⟨rfl, rfl⟩) | (go_at_call 15; refine (HMD.out).mono ?_; rintro e w2 ⟨v, cs0, rfl, hown, hR, hl, hb2⟩; obtain ⟨co, cp, rfl, hcp, hcw⟩ := made_own (n := n) hown; have HB2 := Lib.hid (HB1.out.trans (hb2.mono HB1.out.size)); have HCW := Lib.hid (And.intro hcw hown); have HR := Lib.hid hR; have HPF := Lib.hid (prefix_any n hn1 hn2 cs0 hR (by omega) w2 co cp hcp hcw); clear hown hR hb2 hcw) | (go_at_call 18; refine (HPF.out).mono ?_; rintro e w3 ⟨m, hm, rfl, hnc, hb3⟩))
  have hown : w3.ownsRow w1.heap.size 37 4 (.slice co m cp) m (consV (cs0.take m)) := by
    have h9 := own_cut (own_turn HCW.out.2 (Turn.ofBelow (bs := fun _ => False) hb3) (fun _ _ h => h)) hm
    have e : (consV cs0).take (m * 4) = consV (cs0.take m) := by
      have hm' : ∀ (l : List Con) (k : Nat), (consV l).take (k * 4) = consV (l.take k) := by
        intro l
        induction l with
        | nil => intro k; simp [consV]
        | cons c l ih =>
          intro k
          cases k with
          | zero => simp [consV]
          | succ k =>
            show ((conCells c).toList ++ consV l).take ((k + 1) * 4) = (conCells c).toList ++ consV (l.take k)
            rw [← ih k, List.take_append, List.take_of_length_le (by show 4 ≤ _; omega), show (k + 1) * 4 - (conCells c).toList.length = k * 4 from by show (k + 1) * 4 - 4 = k * 4; omega]
      exact hm' cs0 m
    rw [e] at h9; exact h9
  have hlm : (cs0.take m).length = m := by rw [List.length_take]; omega
  have HOW := Lib.hid hown
  have HNC := Lib.hid hnc
  have HB3 := Lib.hid (HB2.out.trans (hb3.mono HB2.out.size))
  have HCS := Lib.hid (show ∀ c ∈ cs0.take m, rightS n c = true from fun c hc => HR.out c (List.mem_of_mem_take hc))
  have hm60 : m ≤ 60 := by omega
  clear hb3 hown hnc HCW HPF HMD HR
  generalize cs0.take m = cs at *
  subst hlm
  obtain ⟨hmc1, hmc2⟩ := own_cap HOW.out
  have hc0 : co = none → cp = 0 := fun e => by
    rcases own_form HOW.out with ⟨-, h, -⟩ | ⟨g, h, -⟩
    · exact h
    · rw [e] at h; cases h
  have HC0 := Lib.hid hc0
  clear hc0 hmc2
  have HOE := Lib.hid (own_empty w3 w3.heap.size 37 4 (Nat.le_refl _))
  have HSC := Lib.hid ((own_src HOW.out).turn ((Turn.refl (fun _ => False) w3).alloc (.cells #[] 37)) (fun _ _ h => h))
  go_upto_region 4 with (at_builtin; refine wpList_append_src _ rfl (.tmp 28) (.tmp 29) 24 rfl w3.heap.size 37 j0 (.agg #[.int .i64 0, .int .i64 0, .int .i64 0, .int .i64 0]) 4 32 Tryd.underlying24 hj0 hy0 hy1 hy2 rfl (by decide) (.slice (some ⟨w3.heap.size, 0, none⟩) 0 0) 0 [] rfl HOE.out co cs.length cp HC0.out (consV cs) rfl HSC.out (consV_one _) (by unfold maxLen; omega) (by omega) (by simp) ?_; intro v4 w4 hown4 hgrow4 hat4)
  rw [Nat.zero_add, List.nil_append] at hown4
  obtain ⟨oo, oc, rfl⟩ := own_slice hown4
  have HT4 := Lib.hid (((Turn.refl (fun q => w3.heap.size ≤ q) w3).alloc (.cells #[] 37)).grown hgrow4 (fun q e _ => by cases e; exact Nat.le_refl _))
  have HO4 := Lib.hid hown4
  clear hown4 hgrow4 hat4 HOE HSC
  go_upto_block 0 with fail
  have HWR := Lib.hid i64_wrap64
  go_cut [2, 10, 11, 12] (fun _ _ _ _ wx => ∃ ds : List Con, ds.length = cs.length ∧ Hid (SameC cs ds) ∧ Hid (wx.ownsRow w3.heap.size 37 4 (.slice oo cs.length oc) cs.length (consV ds)) ∧ Hid (Turn (fun q => w3.heap.size ≤ q) w3 wx))
  case first =>
    go_wp2_with fail
    go_loopw [2, 10, 11, 12] (fun s2 s10 _ _ wr => ∃ (sd : Int) (i : Int) (ds : List Con), i64ok sd ∧ -1 ≤ i ∧ i < cs.length ∧ s2 = .int .i64 sd ∧ s10 = .int .i64 i ∧ ds.length = cs.length ∧ Hid (SameC cs ds) ∧ Hid (wr.ownsRow w3.heap.size 37 4 (.slice oo cs.length oc) cs.length (consV ds)) ∧ Hid (Turn (fun q => w3.heap.size ≤ q) w3 wr)) (fun _ s10 _ _ _ => (intOf s10 + 1).toNat)
    case atStart => exact ⟨_, _, cs, hsd, by omega, by omega, rfl, rfl, rfl, Lib.hid (fun _ => Iff.rfl), HO4, HT4⟩
    case round =>
      obtain ⟨sd, i, ds, hsd, hi0, hil, rfl, rfl, hdl, HSM, HOW9, HT9⟩ := hrel
      by_cases hgt : 0 < i
      · obtain ⟨ii, rfl⟩ := Int.eq_ofNat_of_zero_le (show 0 ≤ i by omega)
        have hil : ii < ds.length := by omega
        obtain ⟨x, hx⟩ : ∃ x, ds[ii]? = some x := ⟨ds[ii], by simp [hil]⟩
        have hkb := Int.emod_nonneg sd (show ((ii : Int) + 1) ≠ 0 by omega)
        have hkl := Int.emod_lt_of_pos sd (show (0 : Int) < (ii : Int) + 1 by omega)
        have HMD2 := Lib.hid (fun W => mod_any sd ((ii : Int) + 1) hsd (by omega) W)
        obtain ⟨k, hk⟩ := Int.eq_ofNat_of_zero_le hkb
        rw [hk] at HMD2 hkl
        have hkl2 : k < ds.length := by omega
        obtain ⟨y, hy⟩ : ∃ y, ds[k]? = some y := ⟨ds[k], by simp [hkl2]⟩
        have HXY := Lib.hid (And.intro hx hy)
        obtain ⟨g, cur, hoo, hBg, hg, hcur⟩ := own_ptr HOW9.out (by omega)
        subst hoo
        have HEX := Lib.hid (con_extract (c := cur) (i := ii) (k := x) (fun j hj => by rw [hcur _ (by omega)]; exact consV_at hx hj))
        have HG := Lib.hid hg
        have hgz : g < wr.heap.size := (Array.getElem?_eq_some_iff.1 hg).1
        unfold i64ok at hsd
        clear hx hy hg hk hkb
        go_upto_region 9 with (go_at_call 20; (with_reducible refine (HMD2.out _).mono ?_); rintro e w5 ⟨rfl, rfl⟩)
        go_upto_region 10 with (first | (refine wpList_val (by rfl) (exec_load_midB 37 _ rfl g (ii * 4) rfl cur 37 (0, 0) HG.out (conCells x).toList HEX.out (by kernel_rfl)) ?_) | (refine wpList_store_row rfl _ _ _ rfl _ _ rfl rfl _ _ (heap_alloc_new _ _) ?_ ?_ ?_ ?_; kernel_rfl; rfl; kernel_rfl; rw [World.setRow_alloc_new]))
        have hA := heap_alloc_new wr (.cells #[.int .i64 x.kind, .int .i64 x.a, .int .i64 x.b, .int .i64 x.n] 37)
        obtain ⟨W1, hW1⟩ : ∃ W1, W1 = wr.alloc (.cells #[.int .i64 x.kind, .int .i64 x.a, .int .i64 x.b, .int .i64 x.n] 37) := ⟨_, rfl⟩
        change Code.wp _ _ _ _ (wr.alloc (.cells #[.int .i64 x.kind, .int .i64 x.a, .int .i64 x.b, .int .i64 x.n] 37))
        rw [← hW1] at hA ⊢
        have t1 : Turn (fun _ => False) wr W1 := by rw [hW1]; exact (Turn.refl _ _).alloc _
        clear hW1
        have HO1 := Lib.hid (own_turn HOW9.out t1 (fun _ _ h => h))
        obtain ⟨cur1, hg1, hble1, HO2⟩ := own_setC HO1.out hdl.symm (i := ii) (by omega) y
        have hcur1 : cur1 = cur := by have h9 := t1.heap HG.out (fun h => h); rw [hg1] at h9; simpa using h9
        subst hcur1
        have HEY := Lib.hid (con_extract (c := cur1) (i := k) (k := y) (fun j hj => by rw [hcur _ (by omega)]; exact consV_at HXY.out.2 hj))
        have HG1 := Lib.hid hg1
        have HBL1 := Lib.hid hble1
        go_upto_region 11 with (first | (refine wpList_val (by rfl) (exec_load_midB 37 _ rfl g (k * 4) rfl cur1 37 (0, 0) HG1.out (conCells y).toList HEY.out (by kernel_rfl)) ?_) | (refine wpList_store_at rfl _ _ _ rfl g (ii * 4) (by rfl) (.agg (conCells y)) (by rfl) cur1 _ HG1.out (conCells y).toList (by rfl) HBL1.out (by kernel_rfl) (by rfl) _ rfl ?_))
        obtain ⟨W2, hW2⟩ : ∃ W2, W2 = W1.setRow g (cur1.toList.take (ii * 4) ++ (conCells y).toList ++ cur1.toList.drop (ii * 4 + (conCells y).toList.length)).toArray := ⟨_, rfl⟩
        have t2 : Turn (fun q => q = g) W1 W2 := by rw [hW2]; exact (Turn.refl _ _).setRow _ (fun _ => rfl)
        rw [← hW2] at HO2 ⊢
        have hA2 := t2.heap hA (fun h => by omega)
        obtain ⟨cur2, hg2, hble2, HO3⟩ := own_setC HO2 (by rw [List.length_set]; exact hdl.symm) (i := k) (by omega) x
        have HG2 := Lib.hid hg2
        have HBL2 := Lib.hid hble2
        have HA2 := Lib.hid hA2
        clear HG1 HBL1 hg1 hble1 hg2 hble2 hA hA2 HO2 hW2
        go_upto_region 6 with (first | (refine wpList_load_row rfl _ _ rfl _ rfl _ _ _ _ (HA2.out) rfl rfl ?_ ?_; kernel_rfl) | (refine wpList_store_at rfl _ _ _ rfl g (k * 4) (by rfl) (.agg (conCells x)) (by rfl) cur2 _ HG2.out (conCells x).toList (by rfl) HBL2.out (by kernel_rfl) (by rfl) _ rfl ?_))
        obtain ⟨W3, hW3⟩ : ∃ W3, W3 = W2.setRow g (cur2.toList.take (k * 4) ++ (conCells x).toList ++ cur2.toList.drop (k * 4 + (conCells x).toList.length)).toArray := ⟨_, rfl⟩
        have t3 : Turn (fun q => q = g) W2 W3 := by rw [hW3]; exact (Turn.refl _ _).setRow _ (fun _ => rfl)
        rw [← hW3] at HO3 ⊢
        have HT3 := Lib.hid (HT9.out.trans ((t1.mono (cs := fun q => q = g) (fun _ _ h => False.elim h)).trans (t2.trans t3 (fun _ _ h => h)) (fun _ _ h => h)) (fun q h1 h => by have h : q = g := h; omega))
        have HO4 := Lib.hid HO3
        have HSM2 := Lib.hid (show SameC cs (swapC ds ii k x y) from fun c => (HSM.out c).trans (swap_mem HXY.out.1 HXY.out.2 c))
        have hdl2 : (swapC ds ii k x y).length = cs.length := by rw [swap_len]; exact hdl
        clear hW3 HO3 HA2 HG2 HBL2
        go_wp2_with fail
        refine ⟨⟨_, (ii : Int) - 1, _, HWR.out _, by omega, by omega, rfl, by go_num, hdl2, HSM2, HO4, HT3⟩, by simp [intOf]⟩
      · have hgt2 : i ≤ 0 := by omega
        go_wp2_with fail
        go_meet
        case rel => exact ⟨ds, hdl, HSM, HOW9, HT9⟩
  case rest =>
    obtain ⟨ds, hdl, HSM, HOW9, HT9⟩ := hcut
    have hszc : w3.heap.size ≤ wc.heap.size := HT9.out.size
    have HBC := Lib.hid (HT9.out.toBelow (Nat.le_refl _) (fun _ h => h))
    have hk2 : (cs.length : Int).tdiv 2 = ((cs.length / 2 : Nat) : Int) := by rw [Int.tdiv_eq_ediv_of_nonneg (by omega)]; omega
    have hkl : cs.length / 2 ≤ cs.length := by omega
    have hkc : cs.length / 2 ≤ cp := by omega
    have HSC := Lib.hid (own_front HOW.out hkl HBC.out)
    generalize hkk : cs.length / 2 = kk at *
    go_upto_region 13 with (at_builtin; refine wpList_append_src _ rfl (.tmp 62) (.tmp 67) 24 rfl w3.heap.size 37 j0 (.agg #[.int .i64 0, .int .i64 0, .int .i64 0, .int .i64 0]) 4 32 Tryd.underlying24 hj0 hy0 hy1 hy2 rfl (by decide) (.slice oo cs.length oc) cs.length (consV ds) rfl HOW9.out co kk cp HC0.out (consV (cs.take kk)) rfl HSC.out (consV_one _) (by unfold maxLen; omega) (by omega) hszc ?_; intro v12 w12 hown12 hgrow12 _)
    rw [← consV_append] at hown12
    have hT12 := HT9.out.trans ((Turn.refl (fun q => w3.heap.size ≤ q) wc).grown hgrow12 (fun q e _ => (own_cells HOW9.out q e).1)) (fun q _ h => h)
    have hB12 : Below w3.heap.size w3 w12 := hT12.toBelow (Nat.le_refl _) (fun _ h => h)
    have hdsl : (ds ++ cs.take kk).length = cs.length + kk := by rw [List.length_append, hdl, List.length_take]; omega
    obtain ⟨ox, cx, rfl⟩ := own_slice hown12
    have hcx := (own_cap hown12).1
    have HCX := Lib.hid (own_cons hown12).2
    have HSM3 := Lib.hid (HSM.out.more kk)
    have HS1 := Lib.hid (solve_any n cs (by omega) w12 co cp hmc1 ((own_cons HOW.out).2.below hB12))
    have HS2 := Lib.hid (fun W (hb : Below w12.heap.size w12 W) => by
      have h9 := solve_any n (ds ++ cs.take kk) (by omega) W ox cx (by rw [hdsl]; exact hcx) (HCX.out.below hb)
      rw [hdsl] at h9; exact h9)
    have HB12 := Lib.hid (HB3.out.trans (hB12.mono HB3.out.size))
    clear hown12 hgrow12 hT12 hB12 HSC HOW9 HT9 HBC
    go_upto_region 14 with (first | (go_at_call 16; refine (HSZ.out _).mono ?_; rintro e wz ⟨rfl, rfl⟩) | (go_at_call 19; refine (HS1.out).mono ?_; rintro e w13 ⟨va, ra, ka, ea, rfl, hsa, hba, hra⟩))
    have HBA := Lib.hid hba
    have HVA := Lib.hid hra.view
    have HDA := Lib.hid (hsa.ok_rows hn2 (by omega) HCS.out HNC.out)
    obtain ⟨rfl, -⟩ := HDA.out
    clear hba hra hsa HS1
    go_upto_region 15 with (first | (go_at_call 16; refine (HSZ.out _).mono ?_; rintro e wz ⟨rfl, rfl⟩) | (go_at_call 19; refine (HS2.out _ HBA.out).mono ?_; rintro e w14 ⟨vb, rb, kb, eb, rfl, hsb, hbb, hrb⟩))
    have HBB := Lib.hid (HBA.out.trans (hbb.mono HBA.out.size))
    have hal : Alike cs (ds ++ cs.take kk) := HSM3.out.alike
    have hdb := hsb.ok_rows hn2 (by rw [hdsl]; omega) (fun c hc => HCS.out c ((HSM3.out c).2 hc)) (fun h => HNC.out (hal.clash h))
    obtain ⟨rfl, hlb, hdb⟩ := hdb
    have hrr := rows_same hal HNC.out HDA.out.2.1 hlb HDA.out.2.2 hdb
    have HRR := Lib.hid hrr
    have HSA := Lib.hid (rsame_any ra rb va vb w14 (HVA.out.below hbb) hrb.view (by have := HDA.out.2.1; omega) (by omega))
    clear hbb hsb hrb hdb hrr hlb hal HS2
    go_upto_region 16 with (go_at_call 22; refine (HSA.out).mono ?_; rintro e w15 ⟨b, rfl, hb15, hbt⟩)
    have hbt : b = true := hbt.2 HRR.out
    subst hbt
    have HB15 := Lib.hid (HBB.out.trans (hb15.mono HBB.out.size))
    clear hb15
    go_wp2_with fail
    go_ret
    exact ⟨rfl, HB12.out.trans (HB15.out.mono HB12.out.size)⟩
end Go.Proofs.YtepmgnhblegiiaaDoor
