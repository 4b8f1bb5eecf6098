/- TypesGrow walked. Condition: the table of powers of ten reads as the text lays it. -/
import Derived.Test.YtepmgnhblegiiaaDoorLImp
import Derived.Test.YtepmgnhblegiiaaDoorPlL
set_option linter.all false
namespace Go.Proofs.YtepmgnhblegiiaaDoor
open Go Go.RowKit Go.Maps

/-- What the law compares. -/
structure GrowS (rb : List Row) (r y : Row) : Prop where
  cls : ∀ z, rb[r.cls.toNat]? = some z → z.cls = y.cls
  size : r.size ≠ 0 → r.size = y.size
  sign : r.sign ≠ 0 → r.sign = y.sign
  count : r.count ≤ y.count
  len : r.fields.length ≤ y.fields.length
  ptr : 0 ≤ r.ptr → ∀ z, rb[r.ptr.toNat]? = some z → z.cls = y.ptr
  elem : 0 ≤ r.elem → ∀ z, rb[r.elem.toNat]? = some z → z.cls = y.elem
theorem grow_law {n : Nat} {cs ds : List Con} (hs : Sub cs ds) (hC : ¬ Clash ds) (hR : ∀ c ∈ ds, rightS n c = true) {ra rb : List Row} (hla : ra.length = n) (hlb : rb.length = n) (hA : ∀ (v : Nat) (r : Row), ra[v]? = some r → Desc cs v r) (hB : ∀ (v : Nat) (r : Row), rb[v]? = some r → Desc ds v r) {v : Nat} {r y : Row} (hr : ra[v]? = some r) (hy : rb[v]? = some y) : GrowS rb r y := by
  have hv : v < n := by have := (List.getElem?_eq_some_iff.1 hr).1; omega
  have dr := hA v r hr
  have dy := hB v y hy
  have hb : ∀ {u : Int} {z : Row}, 0 ≤ u → rb[u.toNat]? = some z → Desc ds u z := fun {u z} h0 h => by
    have := hB _ _ h
    rwa [Int.toNat_of_nonneg h0] at this
  refine ⟨fun z hz => ?_, fun h0 => ?_, fun h0 => ?_, ?_, ?_, fun h0 z hz => ?_, fun h0 z hz => ?_⟩
  · exact Desc.grow_cls (u := 0) hs hC dr dy (hb dr.cls.2.1 hz)
  · exact Desc.grow_size hs hC dr dy h0
  · exact Desc.grow_sign hs hC dr dy h0
  · exact Desc.grow_count hs dr dy (fun c hc hk => by
      have := hR c hc
      simp only [rightS, Bool.and_eq_true, Bool.or_eq_true, decide_eq_true_eq] at this
      omega)
  · exact Desc.grow_len hs hR dr dy (fun u _ => rep_exists ds (by omega))
  · exact (Desc.grow_ptr hs dr dy (hb h0 hz) (by omega)).symm
  · exact (Desc.grow_elem hs dr dy (hb h0 hz) (by omega)).symm

set_option maxRecDepth 100000 in
set_option maxHeartbeats 4000000 in
theorem typesGrow_any (z : Int) (hz : i64ok z) (ao : Option Addr) (len cap : Nat) (hlen : len ≤ 9223372036854775807) (ls : Int) (hls : i64ok ls) (w : World) (h : ArrW ao len w) (hT : TabP w) :
    Calls Tryd.prog 8 #[.int .i64 z, .slice ao len cap, .int .i64 ls] w fun e w' => e = .returned (.bool true) ∧ Below w.heap.size w w' := by
  have HSN := Lib.hid (sanity_any w hT)
  have H := Lib.hid h
  have HSZ := Lib.hid (fun W => size_any z hz W)
  obtain ⟨n, hn⟩ := Int.eq_ofNat_of_zero_le (show 0 ≤ 1 + z % 14 by have := Int.emod_nonneg z (show (14 : Int) ≠ 0 by omega); omega)
  have hn1 : 0 < n := by have := Int.emod_nonneg z (show (14 : Int) ≠ 0 by omega); omega
  have hn2 : n ≤ 14 := by have := Int.emod_lt_of_pos z (show (0 : Int) < 14 by omega); omega
  rw [hn] at HSZ
  obtain ⟨j0, hj0, hy0, hy1, hy2⟩ := info_parts infoCon
  clear hn h hT
  go_enter Tryd.func8, Tryd.ntmps8
  go_upto_region 2 with (go_at_call 14; refine (HSN.out).mono ?_; rintro e w1 ⟨rfl, hb1⟩)
  have HB1 := Lib.hid hb1
  have HMD := Lib.hid (made_any n hn1 (by omega) w1 ao len cap hlen (H.out.below hb1))
  clear hb1
  go_upto_region 4 with (first | (go_at_call 16; refine (HSZ.out _).mono ?_; rintro e wz ⟨rfl, rfl⟩) | (go_at_call 15; refine (HMD.out).mono ?_; rintro e w2 ⟨v, cs0, rfl, hown, hR, hl, hb2⟩; obtain ⟨co, cp, rfl, hcp, hcw⟩ := made_own (n := n) hown; have HB2 := Lib.hid (HB1.out.trans (hb2.mono HB1.out.size)); have HCW := Lib.hid (And.intro hcw hown); have HR := Lib.hid hR; have HPF := Lib.hid (prefix_any n hn1 (by omega) cs0 hR (by omega) w2 co cp hcp hcw); clear hown hR hb2 hcw) | (go_at_call 18; refine (HPF.out).mono ?_; rintro e w3 ⟨m, hm, rfl, hnc, hb3⟩))
  have hown : w3.ownsRow w1.heap.size 37 4 (.slice co m cp) m (consV (cs0.take m)) := by
    have h9 := own_cut (own_turn HCW.out.2 (Turn.ofBelow (bs := fun _ => False) hb3) (fun _ _ h => h)) hm
    rw [consV_take] at h9; exact h9
  have hlm : (cs0.take m).length = m := by rw [List.length_take]; omega
  have HOW := Lib.hid hown
  have HNC := Lib.hid hnc
  have HB3 := Lib.hid (HB2.out.trans (hb3.mono HB2.out.size))
  have HCS := Lib.hid (show ∀ c ∈ cs0.take m, rightS n c = true from fun c hc => HR.out c (List.mem_of_mem_take hc))
  have hm60 : m ≤ 60 := by omega
  clear hb3 hown hnc HCW HPF HMD HR
  generalize cs0.take m = cs at *
  subst hlm
  obtain ⟨hmc1, hmc2⟩ := own_cap HOW.out
  have hc0 : co = none → cp = 0 := fun e => by
    rcases own_form HOW.out with ⟨-, h, -⟩ | ⟨g, h, -⟩
    · exact h
    · rw [e] at h; cases h
  have HC0 := Lib.hid hc0
  clear hc0 hmc2
  have HMD := Lib.hid (fun W => mod_any ls ((cs.length : Int) + 1) hls (by omega) W)
  obtain ⟨m, hm⟩ := Int.eq_ofNat_of_zero_le (Int.emod_nonneg ls (show ((cs.length : Int) + 1) ≠ 0 by omega))
  have hml : m ≤ cs.length := by have := Int.emod_lt_of_pos ls (show (0 : Int) < (cs.length : Int) + 1 by omega); omega
  rw [hm] at HMD
  obtain ⟨j, hj⟩ : ∃ j, j = cs.length - m := ⟨_, rfl⟩
  have hjl : j ≤ cs.length := by omega
  have hjc : j ≤ cp := by omega
  have hjj : IntKind.i64.wrap ((cs.length : Int) - (m : Int)) = (j : Int) := by rw [show (cs.length : Int) - (m : Int) = (j : Int) by omega]; exact IntWalk.i64_in _ (by omega)
  have hj2 : (cs.length : Int) - (m : Int) = (j : Int) := by omega
  have hwl : IntKind.i64.wrap ((cs.length : Int) + 1) = (cs.length : Int) + 1 := IntWalk.i64_in _ (by omega)
  have HCN := Lib.hid (own_cons HOW.out).2
  have HS1 := Lib.hid (by
    have h9 := solve_any n (cs.take j) (by omega) w3 co cp (by rw [List.length_take]; omega) (HCN.out.take j)
    rw [List.length_take, Nat.min_eq_left hjl] at h9
    exact h9)
  have HS2 := Lib.hid (fun W (hb : Below w3.heap.size w3 W) => solve_any n cs (by omega) W co cp hmc1 (HCN.out.below hb))
  clear hm hj
  go_upto_region 5 with (first | (go_at_call 20; (with_reducible refine (HMD.out _).mono ?_); rintro e w2 ⟨rfl, rfl⟩) | (go_at_call 19; refine (HS1.out).mono ?_; rintro e w4 ⟨va, ra, ka, ea, rfl, hsa, hba, hra⟩))
  clear hjj hj2 hwl
  have HDA := Lib.hid (hsa.ok_rows (by omega) (by rw [List.length_take]; omega) (fun c hc => HCS.out c (List.mem_of_mem_take hc)) (fun q => HNC.out (q.mono (Sub.take_all _ _))))
  obtain ⟨rfl, hla, -⟩ := HDA.out
  have HBA := Lib.hid hba
  have HVA := Lib.hid hra.view
  clear hsa hba hra HS1
  go_upto_region 6 with (go_at_call 19; refine (HS2.out _ HBA.out).mono ?_; rintro e w5 ⟨vb, rb, kb, eb, rfl, hsb, hbb, hrb⟩)
  have HDB := Lib.hid (hsb.ok_rows (by omega) (by omega) HCS.out HNC.out)
  obtain ⟨rfl, hlb, -⟩ := HDB.out
  have HB5 := Lib.hid (HBA.out.trans (hbb.mono HBA.out.size))
  obtain ⟨aa, ca, rfl, hcaa, hga⟩ := HVA.out.below hbb
  obtain ⟨ga, oa, cca, rfl, hgh, hgc⟩ := hga (by omega)
  obtain ⟨ab, cb, rfl, hcab, hgb⟩ := hrb.view
  obtain ⟨gb, ob, ccb, rfl, hbh, hbc⟩ := hgb (by omega)
  have HGA := Lib.hid (And.intro hgh hgc)
  have HGB := Lib.hid (And.intro hbh hbc)
  have HL := Lib.hid (And.intro hla hlb)
  rw [hla] at hcaa ⊢
  rw [hlb] at hcab ⊢
  have hgl : ga < w5.heap.size := (Array.getElem?_eq_some_iff.1 hgh).1
  have hbl : gb < w5.heap.size := (Array.getElem?_eq_some_iff.1 hbh).1
  clear hsb hbb hrb hga hgb hgh hgc hbh hbc hla hlb HVA HS2 HBA
  go_upto_block 0 with fail
  go_wp2_with fail
  go_loopw [16, 17, 18] (fun s16 _ _ wr => ∃ k : Nat, s16 = .int .i64 k ∧ k ≤ n ∧ Hid (Turn (fun _ => False) w5 wr)) (fun s16 _ _ _ => n - (intOf s16).toNat)
  case atStart => exact ⟨0, rfl, Nat.zero_le _, Lib.hid (Turn.refl _ _)⟩
  case round =>
    obtain ⟨k, rfl, hk, HT9⟩ := hrel
    by_cases hlt : k < n
    · obtain ⟨hla, hlb⟩ := HL.out
      obtain ⟨r, hr⟩ : ∃ r, ra[k]? = some r := ⟨ra[k]'(by omega), List.getElem?_eq_getElem (by omega)⟩
      obtain ⟨y, hy⟩ : ∃ y, rb[k]? = some y := ⟨rb[k]'(by omega), List.getElem?_eq_getElem (by omega)⟩
      have hG := grow_law (Sub.take_all _ _) HNC.out HCS.out hla hlb HDA.out.2.2 HDB.out.2.2 hr hy
      have hsm := Desc.small (fun c hc => HCS.out c (List.mem_of_mem_take hc)) hlt (HDA.out.2.2 k r hr)
      obtain ⟨am, cm, hmA, hfA, hxA, hcA⟩ := rows_row HGA.out.2 hr
      obtain ⟨bm, dm, hmB, hfB, hxB, hcB⟩ := rows_row HGB.out.2 hy
      have hgh := HT9.out.heap HGA.out.1 (fun h => h)
      have hbh := HT9.out.heap HGB.out.1 (fun h => h)
      obtain ⟨⟨hc0, hc1⟩, hp, he⟩ := hsm
      obtain ⟨cn, hcn⟩ := Int.eq_ofNat_of_zero_le hc0
      obtain ⟨zc, hzc⟩ : ∃ q, rb[cn]? = some q := ⟨rb[cn]'(by omega), List.getElem?_eq_getElem (by omega)⟩
      have hcc := hG.cls zc (by rw [hcn]; exact hzc)
      have HXA := Lib.hid hxA
      have HXB := Lib.hid hxB
      have HGH := Lib.hid hgh
      have HBH := Lib.hid hbh
      have HR := Lib.hid (And.intro hcn hcc)
      have HGG := Lib.hid hG
      have HCC := Lib.hid (show ccb[ob + cn * 7]? = some (.int .i64 zc.cls) by obtain ⟨_, _, -, -, -, h4⟩ := rows_row HGB.out.2 hzc; exact h4 0 (by omega))
      have hcnn : cn < n := by omega
      clear hr hy hG hmA hxA hcA hmB hxB hcB hgh hbh hzc hcc hcn hla hlb
      obtain ⟨rc, rs, rg, rp, re, rn, rf⟩ := r
      obtain ⟨yc, ys, yg, yp, ye, yn, yf⟩ := y
      simp only at hc0 hc1 hp he
      have hp1 : rp < n := by omega
      have he1 : re < n := by omega
      have hp2 : ¬ rp ≥ n := by omega
      have he2 : ¬ re ≥ n := by omega
      go_upto_region 12 with (first | (refine wpList_val (by rfl) (exec_load_midB 44 _ rfl ga (oa + k * 7) rfl cca 44 (0, 0) HGH.out (rowCells ⟨rc, rs, rg, rp, re, rn, rf⟩ (.slice am rf.length cm)) HXA.out (by kernel_rfl)) ?_) | (refine wpList_store_row rfl _ _ _ rfl _ _ rfl rfl _ _ (heap_alloc_new _ _) ?_ ?_ ?_ ?_; kernel_rfl; rfl; kernel_rfl; rw [World.setRow_alloc_new]))
      obtain ⟨W, hW⟩ : ∃ W, W = wr.alloc (.cells #[.int .i64 rc, .int .i64 rs, .int .i64 rg, .int .i64 rp, .int .i64 re, .int .i64 rn, .slice am rf.length cm] 44) := ⟨_, rfl⟩
      change Code.wp _ _ _ _ (wr.alloc (.cells #[.int .i64 rc, .int .i64 rs, .int .i64 rg, .int .i64 rp, .int .i64 re, .int .i64 rn, .slice am rf.length cm] 44))
      rw [← hW]
      have t1 : Turn (fun _ => False) wr W := by rw [hW]; exact (Turn.refl _ _).alloc _
      have hbx : W.heap[wr.heap.size]? = some (.cells #[.int .i64 rc, .int .i64 rs, .int .i64 rg, .int .i64 rp, .int .i64 re, .int .i64 rn, .slice am rf.length cm] 44 (0, 0)) := by rw [hW]; exact heap_alloc_new _ _
      have hws : wr.heap.size < W.heap.size := by rw [hW]; simp
      have HBX := Lib.hid hbx
      have HT1 := Lib.hid t1
      have HBH1 := Lib.hid (t1.heap HBH.out (fun h => h))
      have x0 : W.cell? ⟨wr.heap.size, 0, none⟩ = some (.int .i64 rc) := by rw [cell_of_row _ _ _ _ _ _ hbx]; rfl
      have x3 : W.cell? ⟨wr.heap.size, 3, none⟩ = some (.int .i64 rp) := by rw [cell_of_row _ _ _ _ _ _ hbx]; rfl
      have x4 : W.cell? ⟨wr.heap.size, 4, none⟩ = some (.int .i64 re) := by rw [cell_of_row _ _ _ _ _ _ hbx]; rfl
      clear hW hbx t1
      go_upto_region 15 with (first | (refine wpList_val (by rfl) (exec_load_midB 44 _ rfl gb (ob + k * 7) rfl ccb 44 (0, 0) HBH1.out (rowCells ⟨yc, ys, yg, yp, ye, yn, yf⟩ (.slice bm yf.length dm)) HXB.out (by kernel_rfl)) ?_) | (refine wpList_store_row rfl _ _ _ rfl _ _ rfl rfl _ _ (heap_alloc_new _ _) ?_ ?_ ?_ ?_; kernel_rfl; rfl; kernel_rfl; rw [World.setRow_alloc_new]))
      obtain ⟨W2, hW2⟩ : ∃ W2, W2 = W.alloc (.cells #[.int .i64 yc, .int .i64 ys, .int .i64 yg, .int .i64 yp, .int .i64 ye, .int .i64 yn, .slice bm yf.length dm] 44) := ⟨_, rfl⟩
      change Code.wp _ _ _ _ (W.alloc (.cells #[.int .i64 yc, .int .i64 ys, .int .i64 yg, .int .i64 yp, .int .i64 ye, .int .i64 yn, .slice bm yf.length dm] 44))
      rw [← hW2]
      have t2 : Turn (fun _ => False) W W2 := by rw [hW2]; exact (Turn.refl _ _).alloc _
      have hby : W2.heap[W.heap.size]? = some (.cells #[.int .i64 yc, .int .i64 ys, .int .i64 yg, .int .i64 yp, .int .i64 ye, .int .i64 yn, .slice bm yf.length dm] 44 (0, 0)) := by rw [hW2]; exact heap_alloc_new _ _
      have hbx := t2.heap HBX.out (fun h => h)
      have hbc := t2.heap HBH1.out (fun h => h)
      have HT2 := Lib.hid (HT1.out.trans t2 (fun _ _ h => h))
      clear hW2 t2 x0 x3 x4
      obtain ⟨hcn, hcc⟩ := HR.out
      have HG := Lib.hid HGG.out
      have hcnt : rn ≤ yn := HGG.out.count
      have hlen : rf.length ≤ yf.length := HGG.out.len
      have hcnt2 : ¬ (yn < rn) := by omega
      have hlen2 : ¬ (yf.length < rf.length) := by omega
      have HBB := Lib.hid (And.intro hbx (And.intro hby hbc))
      clear hbx hby hbc hcn hcc HBX HBH1 HT1 HGH HBH HXA HXB hp he
      have HX0 := Lib.hid (show (#[.int .i64 rc, .int .i64 rs, .int .i64 rg, .int .i64 rp, .int .i64 re, .int .i64 rn, .slice am rf.length cm] : Array Value)[0]? = some (.int .i64 (cn : Int)) by rw [← HR.out.1]; rfl)
      have HCC2 := Lib.hid (show ccb[ob + cn * 7]? = some (.int .i64 yc) by rw [HCC.out, HR.out.2])
      simp only [Act.put]
      go_cut [150] (fun s150 wx => s150 = .bool false ∧ Hid (Turn (fun _ => False) W2 wx))
      case first =>
        by_cases hs : rs = 0
        · have e1 : (rs == 0) = true := by simpa using hs
          have e1b : (rs != 0) = false := by simpa using hs
          clear hs
          by_cases hg : rg = 0
          · have e2 : (rg == 0) = true := by simpa using hg
            have e2b : (rg != 0) = false := by simpa using hg
            clear hg
            refine wp_region_relyT [] 49 (factOf [isV ((.slice (some ⟨gb, ob, none⟩) n cb)), isV ((.pointer (some ⟨wr.heap.size, 0, none⟩))), isV ((.int .i64 (cn : Int))), isV ((.pointer (some ⟨gb, ob + cn * 7, none⟩))), isV ((.pointer (some ⟨gb, ob + cn * 7, none⟩))), isV ((.int .i64 (yc))), isV ((.pointer (some ⟨W.heap.size, 0, none⟩))), isV ((.int .i64 (yc))), isV ((.bool false)), isV ((.bool false)), isV ((.pointer (some ⟨wr.heap.size, 1, none⟩))), isV ((.int .i64 (rs))), isV ((.bool false)), isV ((.bool false)), isV undef, isV undef, isV undef, isV undef, isV undef, isV ((.bool false)), isV ((.bool false)), isV ((.bool false)), isV ((.pointer (some ⟨wr.heap.size, 2, none⟩))), isV ((.int .i64 (rg))), isV ((.bool false)), isV ((.bool false)), isV undef, isV undef, isV undef, isV undef, isV undef, isV ((.bool false)), isV ((.bool false)), isV ((.bool false)), isV ((.pointer (some ⟨wr.heap.size, 5, none⟩))), isV ((.int .i64 (rn))), isV ((.pointer (some ⟨W.heap.size, 5, none⟩))), isV ((.int .i64 (yn))), isV ((.bool false)), isV ((.bool false)), isV ((.bool false)), isV ((.pointer (some ⟨wr.heap.size, 6, none⟩))), isV ((.slice am rf.length cm)), isV ((.int .i64 (rf.length))), isV ((.pointer (some ⟨W.heap.size, 6, none⟩))), isV ((.slice bm yf.length dm)), isV ((.int .i64 (yf.length))), isV ((.bool false)), isV ((.bool false))]) (nth [[0], [1], [2], [3], [4], [5], [6], [7], [8], [9], [10], [11], [12], [13], [14], [15], [16], [17], [18], [19], [20], [21], [22], [23], [24], [25], [26], [27], [28], [29], [30], [31], [32], [33], [34], [35], [36], [37], [38], [39], [40], [41], [42], [43], [44], [45], [46], [47], [48]]) (nth [[], [], [], [], [], [], [], [], [], [], [], [], [], [], [], [], [], [], [], [], [], [], [], [], [], [], [], [], [], [], [], [], [], [], [], [], [], [], [], [], [], [], [], [], [], [], [], [], []]) (nth [[], [], [1], [0, 2], [3], [4], [], [6], [5, 7], [8], [9], [10, 9], [11, 9], [12, 9], [13], [14, 13], [13], [16, 13], [15, 17, 13], [13, 18, 9], [9, 19], [20, 13], [21], [22, 21], [23, 21], [24, 21], [25], [26, 25], [25], [28, 25], [27, 29, 25], [25, 30, 21], [21, 31], [32, 25], [33], [34, 33], [33], [36, 33], [35, 37, 33], [33, 38], [39, 33], [40], [41, 40], [42, 40], [40], [44, 40], [45, 40], [43, 46, 40], [40, 47]]) [48] (fun w5 => Turn (fun _ => False) W2 w5) (by kernel_rfl) (by kernel_rfl) ((Turn.refl _ _).drew) (fun w w' h hb => h.trans (Turn.ofBelow (bs := fun _ => False) hb) (fun _ _ h => h.elim)) (GrowsAll.of ((GrowsAll.cons (Grows.isV _)  (GrowsAll.cons (Grows.isV _)  (GrowsAll.cons (Grows.isV _)  (GrowsAll.cons (Grows.isV _)  (GrowsAll.cons (Grows.isV _)  (GrowsAll.cons (Grows.isV _)  (GrowsAll.cons (Grows.isV _)  (GrowsAll.cons (Grows.isV _)  (GrowsAll.cons (Grows.isV _)  (GrowsAll.cons (Grows.isV _)  (GrowsAll.cons (Grows.isV _)  (GrowsAll.cons (Grows.isV _)  (GrowsAll.cons (Grows.isV _)  (GrowsAll.cons (Grows.isV _)  (GrowsAll.cons (Grows.isV _)  (GrowsAll.cons (Grows.isV _)  (GrowsAll.cons (Grows.isV _)  (GrowsAll.cons (Grows.isV _)  (GrowsAll.cons (Grows.isV _)  (GrowsAll.cons (Grows.isV _)  (GrowsAll.cons (Grows.isV _)  (GrowsAll.cons (Grows.isV _)  (GrowsAll.cons (Grows.isV _)  (GrowsAll.cons (Grows.isV _)  (GrowsAll.cons (Grows.isV _)  (GrowsAll.cons (Grows.isV _)  (GrowsAll.cons (Grows.isV _)  (GrowsAll.cons (Grows.isV _)  (GrowsAll.cons (Grows.isV _)  (GrowsAll.cons (Grows.isV _)  (GrowsAll.cons (Grows.isV _)  (GrowsAll.cons (Grows.isV _)  (GrowsAll.cons (Grows.isV _)  (GrowsAll.cons (Grows.isV _)  (GrowsAll.cons (Grows.isV _)  (GrowsAll.cons (Grows.isV _)  (GrowsAll.cons (Grows.isV _)  (GrowsAll.cons (Grows.isV _)  (GrowsAll.cons (Grows.isV _)  (GrowsAll.cons (Grows.isV _)  (GrowsAll.cons (Grows.isV _)  (GrowsAll.cons (Grows.isV _)  (GrowsAll.cons (Grows.isV _)  (GrowsAll.cons (Grows.isV _)  (GrowsAll.cons (Grows.isV _)  (GrowsAll.cons (Grows.isV _)  (GrowsAll.cons (Grows.isV _)  (GrowsAll.cons (Grows.isV _)  (GrowsAll.cons (Grows.isV _) GrowsAll.nil))))))))))))))))))))))))))))))))))))))))))))))))))) (fun f F hF => ?_)
            simp only [List.take_succ_cons, List.take_zero, fullGo, Act.put, List.setIfInBounds_toArray, List.set_cons_zero, List.set_cons_succ, Nat.reduceAdd] at hF
            subst hF
            refine ⟨StepObsF.cons ?_ (StepObsF.cons ?_ (StepObsF.cons ?_ (StepObsF.cons ?_ (StepObsF.cons ?_ (StepObsF.cons ?_ (StepObsF.cons ?_ (StepObsF.cons ?_ (StepObsF.cons ?_ (StepObsF.cons ?_ (StepObsF.cons ?_ (StepObsF.cons ?_ (StepObsF.cons ?_ (StepObsF.cons ?_ (StepObsF.cons ?_ (StepObsF.cons ?_ (StepObsF.cons ?_ (StepObsF.cons ?_ (StepObsF.cons ?_ (StepObsF.cons ?_ (StepObsF.cons ?_ (StepObsF.cons ?_ (StepObsF.cons ?_ (StepObsF.cons ?_ (StepObsF.cons ?_ (StepObsF.cons ?_ (StepObsF.cons ?_ (StepObsF.cons ?_ (StepObsF.cons ?_ (StepObsF.cons ?_ (StepObsF.cons ?_ (StepObsF.cons ?_ (StepObsF.cons ?_ (StepObsF.cons ?_ (StepObsF.cons ?_ (StepObsF.cons ?_ (StepObsF.cons ?_ (StepObsF.cons ?_ (StepObsF.cons ?_ (StepObsF.cons ?_ (StepObsF.cons ?_ (StepObsF.cons ?_ (StepObsF.cons ?_ (StepObsF.cons ?_ (StepObsF.cons ?_ (StepObsF.cons ?_ (StepObsF.cons ?_ (StepObsF.cons ?_ (StepObsF.cons ?_ (StepObsF.nil))))))))))))))))))))))))))))))))))))))))))))))))), ?_⟩
            · intro w5 hS hF hD K hK
              rw [if_pos (by rfl)]
              refine wp_of_quiet (v := (.slice (some ⟨gb, ob, none⟩) n cb)) (by (show _ = _); kernel_rfl) (hK.out _ _ rfl (After.lit rfl rfl rfl ?_))
              first | rfl | kernel_rfl
            · intro w5 hS hF hD K hK
              rw [if_pos (by rfl)]
              refine wp_of_quiet (v := (.pointer (some ⟨wr.heap.size, 0, none⟩))) (by (show _ = _); kernel_rfl) (hK.out _ _ rfl (After.lit rfl rfl rfl ?_))
              first | rfl | kernel_rfl
            · intro w5 hS hF hD K hK
              obtain ⟨e1, -⟩ := hF
              replace e1 : f 1 = _ := e1
              try simp only [e1]
              rw [if_pos (by rfl)]
              exact wp_of_quiet (exec_load_at _ _ rfl _ _ rfl _ _ _ (hS.heap HBB.out.1 (fun h => h)) ((.int .i64 (cn : Int))) (HX0.out) (fun _ => by kernel_rfl)) (hK.out _ _ rfl (After.lit rfl rfl rfl (by first | rfl | kernel_rfl)))
            · intro w5 hS hF hD K hK
              obtain ⟨e0, e2, -⟩ := hF
              replace e0 : f 0 = _ := e0
              replace e2 : f 2 = _ := e2
              try simp only [e0, e2]
              rw [if_pos (by rfl)]
              go_simp
              refine hK.out _ _ rfl (After.lit rfl rfl rfl ?_)
              first | rfl | kernel_rfl
            · intro w5 hS hF hD K hK
              obtain ⟨e3, -⟩ := hF
              replace e3 : f 3 = _ := e3
              try simp only [e3]
              rw [if_pos (by rfl)]
              refine wp_of_quiet (v := (.pointer (some ⟨gb, ob + cn * 7, none⟩))) (by (show _ = _); kernel_rfl) (hK.out _ _ rfl (After.lit rfl rfl rfl ?_))
              first | rfl | kernel_rfl
            · intro w5 hS hF hD K hK
              obtain ⟨e4, -⟩ := hF
              replace e4 : f 4 = _ := e4
              try simp only [e4]
              rw [if_pos (by rfl)]
              exact wp_of_quiet (exec_load_at _ _ rfl _ _ rfl _ _ _ (hS.heap HBB.out.2.2 (fun h => h)) ((.int .i64 (yc))) (HCC2.out) (fun _ => by kernel_rfl)) (hK.out _ _ rfl (After.lit rfl rfl rfl (by first | rfl | kernel_rfl)))
            · intro w5 hS hF hD K hK
              rw [if_pos (by rfl)]
              refine wp_of_quiet (v := (.pointer (some ⟨W.heap.size, 0, none⟩))) (by (show _ = _); kernel_rfl) (hK.out _ _ rfl (After.lit rfl rfl rfl ?_))
              first | rfl | kernel_rfl
            · intro w5 hS hF hD K hK
              obtain ⟨e6, -⟩ := hF
              replace e6 : f 6 = _ := e6
              try simp only [e6]
              rw [if_pos (by rfl)]
              exact wp_of_quiet (exec_load_at _ _ rfl _ _ rfl _ _ _ (hS.heap HBB.out.2.1 (fun h => h)) ((.int .i64 (yc))) (by kernel_rfl) (fun _ => by kernel_rfl)) (hK.out _ _ rfl (After.lit rfl rfl rfl (by first | rfl | kernel_rfl)))
            · intro w5 hS hF hD K hK
              obtain ⟨e5, e7, -⟩ := hF
              replace e5 : f 5 = _ := e5
              replace e7 : f 7 = _ := e7
              try simp only [e5, e7]
              rw [if_pos (by rfl)]
              go_simp
              refine hK.out _ _ rfl (After.lit rfl rfl rfl ?_)
              first | rfl | kernel_rfl
            · intro w5 hS hF hD K hK
              obtain ⟨e8, -⟩ := hF
              replace e8 : f 8 = _ := e8
              try simp only [e8]
              rw [if_pos (by rfl)]
              refine wp_of_quiet (v := (.bool false)) (by (show _ = _); kernel_rfl) (hK.out _ _ rfl (After.lit rfl rfl rfl ?_))
              first | rfl | kernel_rfl
            · intro w5 hS hF hD K hK
              obtain ⟨e9, -⟩ := hF
              replace e9 : f 9 = _ := e9
              try simp only [e9]
              rw [if_pos (by rfl)]
              refine wp_of_quiet (v := (.pointer (some ⟨wr.heap.size, 1, none⟩))) (by (show _ = _); kernel_rfl) (hK.out _ _ rfl (After.lit rfl rfl rfl ?_))
              first | rfl | kernel_rfl
            · intro w5 hS hF hD K hK
              obtain ⟨e10, e9, -⟩ := hF
              replace e10 : f 10 = _ := e10
              replace e9 : f 9 = _ := e9
              try simp only [e10, e9]
              rw [if_pos (by rfl)]
              exact wp_of_quiet (exec_load_at _ _ rfl _ _ rfl _ _ _ (hS.heap HBB.out.1 (fun h => h)) ((.int .i64 (rs))) (by kernel_rfl) (fun _ => by kernel_rfl)) (hK.out _ _ rfl (After.lit rfl rfl rfl (by first | rfl | kernel_rfl)))
            · intro w5 hS hF hD K hK
              obtain ⟨e11, e9, -⟩ := hF
              replace e11 : f 11 = _ := e11
              replace e9 : f 9 = _ := e9
              try simp only [e11, e9]
              rw [if_pos (by rfl)]
              go_simp
              refine hK.out _ _ rfl (After.lit rfl rfl rfl ?_)
              first | rfl | kernel_rfl
            · intro w5 hS hF hD K hK
              obtain ⟨e12, e9, -⟩ := hF
              replace e12 : f 12 = _ := e12
              replace e9 : f 9 = _ := e9
              try simp only [e12, e9]
              rw [if_pos (by rfl)]
              refine wp_of_quiet (v := (.bool false)) (by (show _ = _); kernel_rfl) (hK.out _ _ rfl (After.lit rfl rfl rfl ?_))
              first | rfl | kernel_rfl
            · intro w5 hS hF hD K hK
              obtain ⟨e13, -⟩ := hF
              replace e13 : f 13 = _ := e13
              try simp only [e13]
              rw [if_neg (by (show ¬ (false = true)); exact Bool.false_ne_true)]
              exact hK.out _ _ rfl (After.lit rfl rfl rfl (by first | rfl | kernel_rfl))
            · intro w5 hS hF hD K hK
              obtain ⟨e14, e13, -⟩ := hF
              replace e14 : f 14 = _ := e14
              replace e13 : f 13 = _ := e13
              try simp only [e14, e13]
              rw [if_neg (by (show ¬ (false = true)); exact Bool.false_ne_true)]
              exact hK.out _ _ rfl (After.lit rfl rfl rfl (by first | rfl | kernel_rfl))
            · intro w5 hS hF hD K hK
              obtain ⟨e13, -⟩ := hF
              replace e13 : f 13 = _ := e13
              try simp only [e13]
              rw [if_neg (by (show ¬ (false = true)); exact Bool.false_ne_true)]
              exact hK.out _ _ rfl (After.lit rfl rfl rfl (by first | rfl | kernel_rfl))
            · intro w5 hS hF hD K hK
              obtain ⟨e16, e13, -⟩ := hF
              replace e16 : f 16 = _ := e16
              replace e13 : f 13 = _ := e13
              try simp only [e16, e13]
              rw [if_neg (by (show ¬ (false = true)); exact Bool.false_ne_true)]
              exact hK.out _ _ rfl (After.lit rfl rfl rfl (by first | rfl | kernel_rfl))
            · intro w5 hS hF hD K hK
              obtain ⟨e15, e17, e13, -⟩ := hF
              replace e15 : f 15 = _ := e15
              replace e17 : f 17 = _ := e17
              replace e13 : f 13 = _ := e13
              try simp only [e15, e17, e13]
              rw [if_neg (by (show ¬ (false = true)); exact Bool.false_ne_true)]
              exact hK.out _ _ rfl (After.lit rfl rfl rfl (by first | rfl | kernel_rfl))
            · intro w5 hS hF hD K hK
              obtain ⟨e13, e18, e9, -⟩ := hF
              replace e13 : f 13 = _ := e13
              replace e18 : f 18 = _ := e18
              replace e9 : f 9 = _ := e9
              try simp only [e13, e18, e9]
              rw [if_pos (by rfl)]
              refine wp_of_quiet (v := (.bool false)) (by (show _ = _); kernel_rfl) (hK.out _ _ rfl (After.lit rfl rfl rfl ?_))
              first | rfl | kernel_rfl
            · intro w5 hS hF hD K hK
              obtain ⟨e9, e19, -⟩ := hF
              replace e9 : f 9 = _ := e9
              replace e19 : f 19 = _ := e19
              try simp only [e9, e19]
              rw [if_pos (by rfl)]
              refine wp_of_quiet (v := (.bool false)) (by (show _ = _); kernel_rfl) (hK.out _ _ rfl (After.lit rfl rfl rfl ?_))
              first | rfl | kernel_rfl
            · intro w5 hS hF hD K hK
              obtain ⟨e20, e13, -⟩ := hF
              replace e20 : f 20 = _ := e20
              replace e13 : f 13 = _ := e13
              try simp only [e20, e13]
              rw [if_pos (by rfl)]
              refine wp_of_quiet (v := (.bool false)) (by (show _ = _); kernel_rfl) (hK.out _ _ rfl (After.lit rfl rfl rfl ?_))
              first | rfl | kernel_rfl
            · intro w5 hS hF hD K hK
              obtain ⟨e21, -⟩ := hF
              replace e21 : f 21 = _ := e21
              try simp only [e21]
              rw [if_pos (by rfl)]
              refine wp_of_quiet (v := (.pointer (some ⟨wr.heap.size, 2, none⟩))) (by (show _ = _); kernel_rfl) (hK.out _ _ rfl (After.lit rfl rfl rfl ?_))
              first | rfl | kernel_rfl
            · intro w5 hS hF hD K hK
              obtain ⟨e22, e21, -⟩ := hF
              replace e22 : f 22 = _ := e22
              replace e21 : f 21 = _ := e21
              try simp only [e22, e21]
              rw [if_pos (by rfl)]
              exact wp_of_quiet (exec_load_at _ _ rfl _ _ rfl _ _ _ (hS.heap HBB.out.1 (fun h => h)) ((.int .i64 (rg))) (by kernel_rfl) (fun _ => by kernel_rfl)) (hK.out _ _ rfl (After.lit rfl rfl rfl (by first | rfl | kernel_rfl)))
            · intro w5 hS hF hD K hK
              obtain ⟨e23, e21, -⟩ := hF
              replace e23 : f 23 = _ := e23
              replace e21 : f 21 = _ := e21
              try simp only [e23, e21]
              rw [if_pos (by rfl)]
              go_simp
              refine hK.out _ _ rfl (After.lit rfl rfl rfl ?_)
              first | rfl | kernel_rfl
            · intro w5 hS hF hD K hK
              obtain ⟨e24, e21, -⟩ := hF
              replace e24 : f 24 = _ := e24
              replace e21 : f 21 = _ := e21
              try simp only [e24, e21]
              rw [if_pos (by rfl)]
              refine wp_of_quiet (v := (.bool false)) (by (show _ = _); kernel_rfl) (hK.out _ _ rfl (After.lit rfl rfl rfl ?_))
              first | rfl | kernel_rfl
            · intro w5 hS hF hD K hK
              obtain ⟨e25, -⟩ := hF
              replace e25 : f 25 = _ := e25
              try simp only [e25]
              rw [if_neg (by (show ¬ (false = true)); exact Bool.false_ne_true)]
              exact hK.out _ _ rfl (After.lit rfl rfl rfl (by first | rfl | kernel_rfl))
            · intro w5 hS hF hD K hK
              obtain ⟨e26, e25, -⟩ := hF
              replace e26 : f 26 = _ := e26
              replace e25 : f 25 = _ := e25
              try simp only [e26, e25]
              rw [if_neg (by (show ¬ (false = true)); exact Bool.false_ne_true)]
              exact hK.out _ _ rfl (After.lit rfl rfl rfl (by first | rfl | kernel_rfl))
            · intro w5 hS hF hD K hK
              obtain ⟨e25, -⟩ := hF
              replace e25 : f 25 = _ := e25
              try simp only [e25]
              rw [if_neg (by (show ¬ (false = true)); exact Bool.false_ne_true)]
              exact hK.out _ _ rfl (After.lit rfl rfl rfl (by first | rfl | kernel_rfl))
            · intro w5 hS hF hD K hK
              obtain ⟨e28, e25, -⟩ := hF
              replace e28 : f 28 = _ := e28
              replace e25 : f 25 = _ := e25
              try simp only [e28, e25]
              rw [if_neg (by (show ¬ (false = true)); exact Bool.false_ne_true)]
              exact hK.out _ _ rfl (After.lit rfl rfl rfl (by first | rfl | kernel_rfl))
            · intro w5 hS hF hD K hK
              obtain ⟨e27, e29, e25, -⟩ := hF
              replace e27 : f 27 = _ := e27
              replace e29 : f 29 = _ := e29
              replace e25 : f 25 = _ := e25
              try simp only [e27, e29, e25]
              rw [if_neg (by (show ¬ (false = true)); exact Bool.false_ne_true)]
              exact hK.out _ _ rfl (After.lit rfl rfl rfl (by first | rfl | kernel_rfl))
            · intro w5 hS hF hD K hK
              obtain ⟨e25, e30, e21, -⟩ := hF
              replace e25 : f 25 = _ := e25
              replace e30 : f 30 = _ := e30
              replace e21 : f 21 = _ := e21
              try simp only [e25, e30, e21]
              rw [if_pos (by rfl)]
              refine wp_of_quiet (v := (.bool false)) (by (show _ = _); kernel_rfl) (hK.out _ _ rfl (After.lit rfl rfl rfl ?_))
              first | rfl | kernel_rfl
            · intro w5 hS hF hD K hK
              obtain ⟨e21, e31, -⟩ := hF
              replace e21 : f 21 = _ := e21
              replace e31 : f 31 = _ := e31
              try simp only [e21, e31]
              rw [if_pos (by rfl)]
              refine wp_of_quiet (v := (.bool false)) (by (show _ = _); kernel_rfl) (hK.out _ _ rfl (After.lit rfl rfl rfl ?_))
              first | rfl | kernel_rfl
            · intro w5 hS hF hD K hK
              obtain ⟨e32, e25, -⟩ := hF
              replace e32 : f 32 = _ := e32
              replace e25 : f 25 = _ := e25
              try simp only [e32, e25]
              rw [if_pos (by rfl)]
              refine wp_of_quiet (v := (.bool false)) (by (show _ = _); kernel_rfl) (hK.out _ _ rfl (After.lit rfl rfl rfl ?_))
              first | rfl | kernel_rfl
            · intro w5 hS hF hD K hK
              obtain ⟨e33, -⟩ := hF
              replace e33 : f 33 = _ := e33
              try simp only [e33]
              rw [if_pos (by rfl)]
              refine wp_of_quiet (v := (.pointer (some ⟨wr.heap.size, 5, none⟩))) (by (show _ = _); kernel_rfl) (hK.out _ _ rfl (After.lit rfl rfl rfl ?_))
              first | rfl | kernel_rfl
            · intro w5 hS hF hD K hK
              obtain ⟨e34, e33, -⟩ := hF
              replace e34 : f 34 = _ := e34
              replace e33 : f 33 = _ := e33
              try simp only [e34, e33]
              rw [if_pos (by rfl)]
              exact wp_of_quiet (exec_load_at _ _ rfl _ _ rfl _ _ _ (hS.heap HBB.out.1 (fun h => h)) ((.int .i64 (rn))) (by kernel_rfl) (fun _ => by kernel_rfl)) (hK.out _ _ rfl (After.lit rfl rfl rfl (by first | rfl | kernel_rfl)))
            · intro w5 hS hF hD K hK
              obtain ⟨e33, -⟩ := hF
              replace e33 : f 33 = _ := e33
              try simp only [e33]
              rw [if_pos (by rfl)]
              refine wp_of_quiet (v := (.pointer (some ⟨W.heap.size, 5, none⟩))) (by (show _ = _); kernel_rfl) (hK.out _ _ rfl (After.lit rfl rfl rfl ?_))
              first | rfl | kernel_rfl
            · intro w5 hS hF hD K hK
              obtain ⟨e36, e33, -⟩ := hF
              replace e36 : f 36 = _ := e36
              replace e33 : f 33 = _ := e33
              try simp only [e36, e33]
              rw [if_pos (by rfl)]
              exact wp_of_quiet (exec_load_at _ _ rfl _ _ rfl _ _ _ (hS.heap HBB.out.2.1 (fun h => h)) ((.int .i64 (yn))) (by kernel_rfl) (fun _ => by kernel_rfl)) (hK.out _ _ rfl (After.lit rfl rfl rfl (by first | rfl | kernel_rfl)))
            · intro w5 hS hF hD K hK
              obtain ⟨e35, e37, e33, -⟩ := hF
              replace e35 : f 35 = _ := e35
              replace e37 : f 37 = _ := e37
              replace e33 : f 33 = _ := e33
              try simp only [e35, e37, e33]
              rw [if_pos (by rfl)]
              go_simp
              refine hK.out _ _ rfl (After.lit rfl rfl rfl ?_)
              first | rfl | kernel_rfl
            · intro w5 hS hF hD K hK
              obtain ⟨e33, e38, -⟩ := hF
              replace e33 : f 33 = _ := e33
              replace e38 : f 38 = _ := e38
              try simp only [e33, e38]
              rw [if_pos (by rfl)]
              refine wp_of_quiet (v := (.bool false)) (by (show _ = _); kernel_rfl) (hK.out _ _ rfl (After.lit rfl rfl rfl ?_))
              first | rfl | kernel_rfl
            · intro w5 hS hF hD K hK
              obtain ⟨e39, e33, -⟩ := hF
              replace e39 : f 39 = _ := e39
              replace e33 : f 33 = _ := e33
              try simp only [e39, e33]
              rw [if_pos (by rfl)]
              refine wp_of_quiet (v := (.bool false)) (by (show _ = _); kernel_rfl) (hK.out _ _ rfl (After.lit rfl rfl rfl ?_))
              first | rfl | kernel_rfl
            · intro w5 hS hF hD K hK
              obtain ⟨e40, -⟩ := hF
              replace e40 : f 40 = _ := e40
              try simp only [e40]
              rw [if_pos (by rfl)]
              refine wp_of_quiet (v := (.pointer (some ⟨wr.heap.size, 6, none⟩))) (by (show _ = _); kernel_rfl) (hK.out _ _ rfl (After.lit rfl rfl rfl ?_))
              first | rfl | kernel_rfl
            · intro w5 hS hF hD K hK
              obtain ⟨e41, e40, -⟩ := hF
              replace e41 : f 41 = _ := e41
              replace e40 : f 40 = _ := e40
              try simp only [e41, e40]
              rw [if_pos (by rfl)]
              exact wp_of_quiet (exec_load_at _ _ rfl _ _ rfl _ _ _ (hS.heap HBB.out.1 (fun h => h)) ((.slice am rf.length cm)) (by kernel_rfl) (fun _ => by kernel_rfl)) (hK.out _ _ rfl (After.lit rfl rfl rfl (by first | rfl | kernel_rfl)))
            · intro w5 hS hF hD K hK
              obtain ⟨e42, e40, -⟩ := hF
              replace e42 : f 42 = _ := e42
              replace e40 : f 40 = _ := e40
              try simp only [e42, e40]
              rw [if_pos (by rfl)]
              go_simp
              refine hK.out _ _ rfl (After.lit rfl rfl rfl ?_)
              first | rfl | kernel_rfl
            · intro w5 hS hF hD K hK
              obtain ⟨e40, -⟩ := hF
              replace e40 : f 40 = _ := e40
              try simp only [e40]
              rw [if_pos (by rfl)]
              refine wp_of_quiet (v := (.pointer (some ⟨W.heap.size, 6, none⟩))) (by (show _ = _); kernel_rfl) (hK.out _ _ rfl (After.lit rfl rfl rfl ?_))
              first | rfl | kernel_rfl
            · intro w5 hS hF hD K hK
              obtain ⟨e44, e40, -⟩ := hF
              replace e44 : f 44 = _ := e44
              replace e40 : f 40 = _ := e40
              try simp only [e44, e40]
              rw [if_pos (by rfl)]
              exact wp_of_quiet (exec_load_at _ _ rfl _ _ rfl _ _ _ (hS.heap HBB.out.2.1 (fun h => h)) ((.slice bm yf.length dm)) (by kernel_rfl) (fun _ => by kernel_rfl)) (hK.out _ _ rfl (After.lit rfl rfl rfl (by first | rfl | kernel_rfl)))
            · intro w5 hS hF hD K hK
              obtain ⟨e45, e40, -⟩ := hF
              replace e45 : f 45 = _ := e45
              replace e40 : f 40 = _ := e40
              try simp only [e45, e40]
              rw [if_pos (by rfl)]
              go_simp
              refine hK.out _ _ rfl (After.lit rfl rfl rfl ?_)
              first | rfl | kernel_rfl
            · intro w5 hS hF hD K hK
              obtain ⟨e43, e46, e40, -⟩ := hF
              replace e43 : f 43 = _ := e43
              replace e46 : f 46 = _ := e46
              replace e40 : f 40 = _ := e40
              try simp only [e43, e46, e40]
              rw [if_pos (by rfl)]
              go_simp
              refine hK.out _ _ rfl (After.lit rfl rfl rfl ?_)
              first | rfl | kernel_rfl
            · intro w5 hS hF hD K hK
              obtain ⟨e40, e47, -⟩ := hF
              replace e40 : f 40 = _ := e40
              replace e47 : f 47 = _ := e47
              try simp only [e40, e47]
              rw [if_pos (by rfl)]
              refine wp_of_quiet (v := (.bool false)) (by (show _ = _); kernel_rfl) (hK.out _ _ rfl (After.lit rfl rfl rfl ?_))
              first | rfl | kernel_rfl
            intro w5 hS hF
            obtain ⟨e48, -⟩ := hF
            replace e48 : f 48 = _ := e48
            try simp only [e48]
            simp only [List.drop_succ_cons, List.drop_zero]
            have HS := Lib.hid hS
            clear hS
            go_wp2_with fail
            go_meet
            case rel => exact ⟨rfl, HS⟩
          · have e2 : (rg == 0) = false := by simpa using hg
            have e2b : (rg != 0) = true := by simpa using hg
            have e3 : (rg == yg) = true := by simpa using HGG.out.sign hg
            have e3b : (rg != yg) = false := by simpa using HGG.out.sign hg
            clear hg
            refine wp_region_relyT [] 49 (factOf [isV ((.slice (some ⟨gb, ob, none⟩) n cb)), isV ((.pointer (some ⟨wr.heap.size, 0, none⟩))), isV ((.int .i64 (cn : Int))), isV ((.pointer (some ⟨gb, ob + cn * 7, none⟩))), isV ((.pointer (some ⟨gb, ob + cn * 7, none⟩))), isV ((.int .i64 (yc))), isV ((.pointer (some ⟨W.heap.size, 0, none⟩))), isV ((.int .i64 (yc))), isV ((.bool false)), isV ((.bool false)), isV ((.pointer (some ⟨wr.heap.size, 1, none⟩))), isV ((.int .i64 (rs))), isV ((.bool false)), isV ((.bool false)), isV undef, isV undef, isV undef, isV undef, isV undef, isV ((.bool false)), isV ((.bool false)), isV ((.bool false)), isV ((.pointer (some ⟨wr.heap.size, 2, none⟩))), isV ((.int .i64 (rg))), isV ((.bool true)), isV ((.bool true)), isV ((.pointer (some ⟨wr.heap.size, 2, none⟩))), isV ((.int .i64 (rg))), isV ((.pointer (some ⟨W.heap.size, 2, none⟩))), isV ((.int .i64 (yg))), isV ((.bool false)), isV ((.bool false)), isV ((.bool false)), isV ((.bool false)), isV ((.pointer (some ⟨wr.heap.size, 5, none⟩))), isV ((.int .i64 (rn))), isV ((.pointer (some ⟨W.heap.size, 5, none⟩))), isV ((.int .i64 (yn))), isV ((.bool false)), isV ((.bool false)), isV ((.bool false)), isV ((.pointer (some ⟨wr.heap.size, 6, none⟩))), isV ((.slice am rf.length cm)), isV ((.int .i64 (rf.length))), isV ((.pointer (some ⟨W.heap.size, 6, none⟩))), isV ((.slice bm yf.length dm)), isV ((.int .i64 (yf.length))), isV ((.bool false)), isV ((.bool false))]) (nth [[0], [1], [2], [3], [4], [5], [6], [7], [8], [9], [10], [11], [12], [13], [14], [15], [16], [17], [18], [19], [20], [21], [22], [23], [24], [25], [26], [27], [28], [29], [30], [31], [32], [33], [34], [35], [36], [37], [38], [39], [40], [41], [42], [43], [44], [45], [46], [47], [48]]) (nth [[], [], [], [], [], [], [], [], [], [], [], [], [], [], [], [], [], [], [], [], [], [], [], [], [], [], [], [], [], [], [], [], [], [], [], [], [], [], [], [], [], [], [], [], [], [], [], [], []]) (nth [[], [], [1], [0, 2], [3], [4], [], [6], [5, 7], [8], [9], [10, 9], [11, 9], [12, 9], [13], [14, 13], [13], [16, 13], [15, 17, 13], [13, 18, 9], [9, 19], [20, 13], [21], [22, 21], [23, 21], [24, 21], [25], [26, 25], [25], [28, 25], [27, 29, 25], [25, 30, 21], [21, 31], [32, 25], [33], [34, 33], [33], [36, 33], [35, 37, 33], [33, 38], [39, 33], [40], [41, 40], [42, 40], [40], [44, 40], [45, 40], [43, 46, 40], [40, 47]]) [48] (fun w5 => Turn (fun _ => False) W2 w5) (by kernel_rfl) (by kernel_rfl) ((Turn.refl _ _).drew) (fun w w' h hb => h.trans (Turn.ofBelow (bs := fun _ => False) hb) (fun _ _ h => h.elim)) (GrowsAll.of ((GrowsAll.cons (Grows.isV _)  (GrowsAll.cons (Grows.isV _)  (GrowsAll.cons (Grows.isV _)  (GrowsAll.cons (Grows.isV _)  (GrowsAll.cons (Grows.isV _)  (GrowsAll.cons (Grows.isV _)  (GrowsAll.cons (Grows.isV _)  (GrowsAll.cons (Grows.isV _)  (GrowsAll.cons (Grows.isV _)  (GrowsAll.cons (Grows.isV _)  (GrowsAll.cons (Grows.isV _)  (GrowsAll.cons (Grows.isV _)  (GrowsAll.cons (Grows.isV _)  (GrowsAll.cons (Grows.isV _)  (GrowsAll.cons (Grows.isV _)  (GrowsAll.cons (Grows.isV _)  (GrowsAll.cons (Grows.isV _)  (GrowsAll.cons (Grows.isV _)  (GrowsAll.cons (Grows.isV _)  (GrowsAll.cons (Grows.isV _)  (GrowsAll.cons (Grows.isV _)  (GrowsAll.cons (Grows.isV _)  (GrowsAll.cons (Grows.isV _)  (GrowsAll.cons (Grows.isV _)  (GrowsAll.cons (Grows.isV _)  (GrowsAll.cons (Grows.isV _)  (GrowsAll.cons (Grows.isV _)  (GrowsAll.cons (Grows.isV _)  (GrowsAll.cons (Grows.isV _)  (GrowsAll.cons (Grows.isV _)  (GrowsAll.cons (Grows.isV _)  (GrowsAll.cons (Grows.isV _)  (GrowsAll.cons (Grows.isV _)  (GrowsAll.cons (Grows.isV _)  (GrowsAll.cons (Grows.isV _)  (GrowsAll.cons (Grows.isV _)  (GrowsAll.cons (Grows.isV _)  (GrowsAll.cons (Grows.isV _)  (GrowsAll.cons (Grows.isV _)  (GrowsAll.cons (Grows.isV _)  (GrowsAll.cons (Grows.isV _)  (GrowsAll.cons (Grows.isV _)  (GrowsAll.cons (Grows.isV _)  (GrowsAll.cons (Grows.isV _)  (GrowsAll.cons (Grows.isV _)  (GrowsAll.cons (Grows.isV _)  (GrowsAll.cons (Grows.isV _)  (GrowsAll.cons (Grows.isV _)  (GrowsAll.cons (Grows.isV _) GrowsAll.nil))))))))))))))))))))))))))))))))))))))))))))))))))) (fun f F hF => ?_)
            simp only [List.take_succ_cons, List.take_zero, fullGo, Act.put, List.setIfInBounds_toArray, List.set_cons_zero, List.set_cons_succ, Nat.reduceAdd] at hF
            subst hF
            refine ⟨StepObsF.cons ?_ (StepObsF.cons ?_ (StepObsF.cons ?_ (StepObsF.cons ?_ (StepObsF.cons ?_ (StepObsF.cons ?_ (StepObsF.cons ?_ (StepObsF.cons ?_ (StepObsF.cons ?_ (StepObsF.cons ?_ (StepObsF.cons ?_ (StepObsF.cons ?_ (StepObsF.cons ?_ (StepObsF.cons ?_ (StepObsF.cons ?_ (StepObsF.cons ?_ (StepObsF.cons ?_ (StepObsF.cons ?_ (StepObsF.cons ?_ (StepObsF.cons ?_ (StepObsF.cons ?_ (StepObsF.cons ?_ (StepObsF.cons ?_ (StepObsF.cons ?_ (StepObsF.cons ?_ (StepObsF.cons ?_ (StepObsF.cons ?_ (StepObsF.cons ?_ (StepObsF.cons ?_ (StepObsF.cons ?_ (StepObsF.cons ?_ (StepObsF.cons ?_ (StepObsF.cons ?_ (StepObsF.cons ?_ (StepObsF.cons ?_ (StepObsF.cons ?_ (StepObsF.cons ?_ (StepObsF.cons ?_ (StepObsF.cons ?_ (StepObsF.cons ?_ (StepObsF.cons ?_ (StepObsF.cons ?_ (StepObsF.cons ?_ (StepObsF.cons ?_ (StepObsF.cons ?_ (StepObsF.cons ?_ (StepObsF.cons ?_ (StepObsF.cons ?_ (StepObsF.cons ?_ (StepObsF.nil))))))))))))))))))))))))))))))))))))))))))))))))), ?_⟩
            · intro w5 hS hF hD K hK
              rw [if_pos (by rfl)]
              refine wp_of_quiet (v := (.slice (some ⟨gb, ob, none⟩) n cb)) (by (show _ = _); kernel_rfl) (hK.out _ _ rfl (After.lit rfl rfl rfl ?_))
              first | rfl | kernel_rfl
            · intro w5 hS hF hD K hK
              rw [if_pos (by rfl)]
              refine wp_of_quiet (v := (.pointer (some ⟨wr.heap.size, 0, none⟩))) (by (show _ = _); kernel_rfl) (hK.out _ _ rfl (After.lit rfl rfl rfl ?_))
              first | rfl | kernel_rfl
            · intro w5 hS hF hD K hK
              obtain ⟨e1, -⟩ := hF
              replace e1 : f 1 = _ := e1
              try simp only [e1]
              rw [if_pos (by rfl)]
              exact wp_of_quiet (exec_load_at _ _ rfl _ _ rfl _ _ _ (hS.heap HBB.out.1 (fun h => h)) ((.int .i64 (cn : Int))) (HX0.out) (fun _ => by kernel_rfl)) (hK.out _ _ rfl (After.lit rfl rfl rfl (by first | rfl | kernel_rfl)))
            · intro w5 hS hF hD K hK
              obtain ⟨e0, e2, -⟩ := hF
              replace e0 : f 0 = _ := e0
              replace e2 : f 2 = _ := e2
              try simp only [e0, e2]
              rw [if_pos (by rfl)]
              go_simp
              refine hK.out _ _ rfl (After.lit rfl rfl rfl ?_)
              first | rfl | kernel_rfl
            · intro w5 hS hF hD K hK
              obtain ⟨e3, -⟩ := hF
              replace e3 : f 3 = _ := e3
              try simp only [e3]
              rw [if_pos (by rfl)]
              refine wp_of_quiet (v := (.pointer (some ⟨gb, ob + cn * 7, none⟩))) (by (show _ = _); kernel_rfl) (hK.out _ _ rfl (After.lit rfl rfl rfl ?_))
              first | rfl | kernel_rfl
            · intro w5 hS hF hD K hK
              obtain ⟨e4, -⟩ := hF
              replace e4 : f 4 = _ := e4
              try simp only [e4]
              rw [if_pos (by rfl)]
              exact wp_of_quiet (exec_load_at _ _ rfl _ _ rfl _ _ _ (hS.heap HBB.out.2.2 (fun h => h)) ((.int .i64 (yc))) (HCC2.out) (fun _ => by kernel_rfl)) (hK.out _ _ rfl (After.lit rfl rfl rfl (by first | rfl | kernel_rfl)))
            · intro w5 hS hF hD K hK
              rw [if_pos (by rfl)]
              refine wp_of_quiet (v := (.pointer (some ⟨W.heap.size, 0, none⟩))) (by (show _ = _); kernel_rfl) (hK.out _ _ rfl (After.lit rfl rfl rfl ?_))
              first | rfl | kernel_rfl
            · intro w5 hS hF hD K hK
              obtain ⟨e6, -⟩ := hF
              replace e6 : f 6 = _ := e6
              try simp only [e6]
              rw [if_pos (by rfl)]
              exact wp_of_quiet (exec_load_at _ _ rfl _ _ rfl _ _ _ (hS.heap HBB.out.2.1 (fun h => h)) ((.int .i64 (yc))) (by kernel_rfl) (fun _ => by kernel_rfl)) (hK.out _ _ rfl (After.lit rfl rfl rfl (by first | rfl | kernel_rfl)))
            · intro w5 hS hF hD K hK
              obtain ⟨e5, e7, -⟩ := hF
              replace e5 : f 5 = _ := e5
              replace e7 : f 7 = _ := e7
              try simp only [e5, e7]
              rw [if_pos (by rfl)]
              go_simp
              refine hK.out _ _ rfl (After.lit rfl rfl rfl ?_)
              first | rfl | kernel_rfl
            · intro w5 hS hF hD K hK
              obtain ⟨e8, -⟩ := hF
              replace e8 : f 8 = _ := e8
              try simp only [e8]
              rw [if_pos (by rfl)]
              refine wp_of_quiet (v := (.bool false)) (by (show _ = _); kernel_rfl) (hK.out _ _ rfl (After.lit rfl rfl rfl ?_))
              first | rfl | kernel_rfl
            · intro w5 hS hF hD K hK
              obtain ⟨e9, -⟩ := hF
              replace e9 : f 9 = _ := e9
              try simp only [e9]
              rw [if_pos (by rfl)]
              refine wp_of_quiet (v := (.pointer (some ⟨wr.heap.size, 1, none⟩))) (by (show _ = _); kernel_rfl) (hK.out _ _ rfl (After.lit rfl rfl rfl ?_))
              first | rfl | kernel_rfl
            · intro w5 hS hF hD K hK
              obtain ⟨e10, e9, -⟩ := hF
              replace e10 : f 10 = _ := e10
              replace e9 : f 9 = _ := e9
              try simp only [e10, e9]
              rw [if_pos (by rfl)]
              exact wp_of_quiet (exec_load_at _ _ rfl _ _ rfl _ _ _ (hS.heap HBB.out.1 (fun h => h)) ((.int .i64 (rs))) (by kernel_rfl) (fun _ => by kernel_rfl)) (hK.out _ _ rfl (After.lit rfl rfl rfl (by first | rfl | kernel_rfl)))
            · intro w5 hS hF hD K hK
              obtain ⟨e11, e9, -⟩ := hF
              replace e11 : f 11 = _ := e11
              replace e9 : f 9 = _ := e9
              try simp only [e11, e9]
              rw [if_pos (by rfl)]
              go_simp
              refine hK.out _ _ rfl (After.lit rfl rfl rfl ?_)
              first | rfl | kernel_rfl
            · intro w5 hS hF hD K hK
              obtain ⟨e12, e9, -⟩ := hF
              replace e12 : f 12 = _ := e12
              replace e9 : f 9 = _ := e9
              try simp only [e12, e9]
              rw [if_pos (by rfl)]
              refine wp_of_quiet (v := (.bool false)) (by (show _ = _); kernel_rfl) (hK.out _ _ rfl (After.lit rfl rfl rfl ?_))
              first | rfl | kernel_rfl
            · intro w5 hS hF hD K hK
              obtain ⟨e13, -⟩ := hF
              replace e13 : f 13 = _ := e13
              try simp only [e13]
              rw [if_neg (by (show ¬ (false = true)); exact Bool.false_ne_true)]
              exact hK.out _ _ rfl (After.lit rfl rfl rfl (by first | rfl | kernel_rfl))
            · intro w5 hS hF hD K hK
              obtain ⟨e14, e13, -⟩ := hF
              replace e14 : f 14 = _ := e14
              replace e13 : f 13 = _ := e13
              try simp only [e14, e13]
              rw [if_neg (by (show ¬ (false = true)); exact Bool.false_ne_true)]
              exact hK.out _ _ rfl (After.lit rfl rfl rfl (by first | rfl | kernel_rfl))
            · intro w5 hS hF hD K hK
              obtain ⟨e13, -⟩ := hF
              replace e13 : f 13 = _ := e13
              try simp only [e13]
              rw [if_neg (by (show ¬ (false = true)); exact Bool.false_ne_true)]
              exact hK.out _ _ rfl (After.lit rfl rfl rfl (by first | rfl | kernel_rfl))
            · intro w5 hS hF hD K hK
              obtain ⟨e16, e13, -⟩ := hF
              replace e16 : f 16 = _ := e16
              replace e13 : f 13 = _ := e13
              try simp only [e16, e13]
              rw [if_neg (by (show ¬ (false = true)); exact Bool.false_ne_true)]
              exact hK.out _ _ rfl (After.lit rfl rfl rfl (by first | rfl | kernel_rfl))
            · intro w5 hS hF hD K hK
              obtain ⟨e15, e17, e13, -⟩ := hF
              replace e15 : f 15 = _ := e15
              replace e17 : f 17 = _ := e17
              replace e13 : f 13 = _ := e13
              try simp only [e15, e17, e13]
              rw [if_neg (by (show ¬ (false = true)); exact Bool.false_ne_true)]
              exact hK.out _ _ rfl (After.lit rfl rfl rfl (by first | rfl | kernel_rfl))
            · intro w5 hS hF hD K hK
              obtain ⟨e13, e18, e9, -⟩ := hF
              replace e13 : f 13 = _ := e13
              replace e18 : f 18 = _ := e18
              replace e9 : f 9 = _ := e9
              try simp only [e13, e18, e9]
              rw [if_pos (by rfl)]
              refine wp_of_quiet (v := (.bool false)) (by (show _ = _); kernel_rfl) (hK.out _ _ rfl (After.lit rfl rfl rfl ?_))
              first | rfl | kernel_rfl
            · intro w5 hS hF hD K hK
              obtain ⟨e9, e19, -⟩ := hF
              replace e9 : f 9 = _ := e9
              replace e19 : f 19 = _ := e19
              try simp only [e9, e19]
              rw [if_pos (by rfl)]
              refine wp_of_quiet (v := (.bool false)) (by (show _ = _); kernel_rfl) (hK.out _ _ rfl (After.lit rfl rfl rfl ?_))
              first | rfl | kernel_rfl
            · intro w5 hS hF hD K hK
              obtain ⟨e20, e13, -⟩ := hF
              replace e20 : f 20 = _ := e20
              replace e13 : f 13 = _ := e13
              try simp only [e20, e13]
              rw [if_pos (by rfl)]
              refine wp_of_quiet (v := (.bool false)) (by (show _ = _); kernel_rfl) (hK.out _ _ rfl (After.lit rfl rfl rfl ?_))
              first | rfl | kernel_rfl
            · intro w5 hS hF hD K hK
              obtain ⟨e21, -⟩ := hF
              replace e21 : f 21 = _ := e21
              try simp only [e21]
              rw [if_pos (by rfl)]
              refine wp_of_quiet (v := (.pointer (some ⟨wr.heap.size, 2, none⟩))) (by (show _ = _); kernel_rfl) (hK.out _ _ rfl (After.lit rfl rfl rfl ?_))
              first | rfl | kernel_rfl
            · intro w5 hS hF hD K hK
              obtain ⟨e22, e21, -⟩ := hF
              replace e22 : f 22 = _ := e22
              replace e21 : f 21 = _ := e21
              try simp only [e22, e21]
              rw [if_pos (by rfl)]
              exact wp_of_quiet (exec_load_at _ _ rfl _ _ rfl _ _ _ (hS.heap HBB.out.1 (fun h => h)) ((.int .i64 (rg))) (by kernel_rfl) (fun _ => by kernel_rfl)) (hK.out _ _ rfl (After.lit rfl rfl rfl (by first | rfl | kernel_rfl)))
            · intro w5 hS hF hD K hK
              obtain ⟨e23, e21, -⟩ := hF
              replace e23 : f 23 = _ := e23
              replace e21 : f 21 = _ := e21
              try simp only [e23, e21]
              rw [if_pos (by rfl)]
              go_simp
              refine hK.out _ _ rfl (After.lit rfl rfl rfl ?_)
              first | rfl | kernel_rfl
            · intro w5 hS hF hD K hK
              obtain ⟨e24, e21, -⟩ := hF
              replace e24 : f 24 = _ := e24
              replace e21 : f 21 = _ := e21
              try simp only [e24, e21]
              rw [if_pos (by rfl)]
              refine wp_of_quiet (v := (.bool true)) (by (show _ = _); kernel_rfl) (hK.out _ _ rfl (After.lit rfl rfl rfl ?_))
              first | rfl | kernel_rfl
            · intro w5 hS hF hD K hK
              obtain ⟨e25, -⟩ := hF
              replace e25 : f 25 = _ := e25
              try simp only [e25]
              rw [if_pos (by rfl)]
              refine wp_of_quiet (v := (.pointer (some ⟨wr.heap.size, 2, none⟩))) (by (show _ = _); kernel_rfl) (hK.out _ _ rfl (After.lit rfl rfl rfl ?_))
              first | rfl | kernel_rfl
            · intro w5 hS hF hD K hK
              obtain ⟨e26, e25, -⟩ := hF
              replace e26 : f 26 = _ := e26
              replace e25 : f 25 = _ := e25
              try simp only [e26, e25]
              rw [if_pos (by rfl)]
              exact wp_of_quiet (exec_load_at _ _ rfl _ _ rfl _ _ _ (hS.heap HBB.out.1 (fun h => h)) ((.int .i64 (rg))) (by kernel_rfl) (fun _ => by kernel_rfl)) (hK.out _ _ rfl (After.lit rfl rfl rfl (by first | rfl | kernel_rfl)))
            · intro w5 hS hF hD K hK
              obtain ⟨e25, -⟩ := hF
              replace e25 : f 25 = _ := e25
              try simp only [e25]
              rw [if_pos (by rfl)]
              refine wp_of_quiet (v := (.pointer (some ⟨W.heap.size, 2, none⟩))) (by (show _ = _); kernel_rfl) (hK.out _ _ rfl (After.lit rfl rfl rfl ?_))
              first | rfl | kernel_rfl
            · intro w5 hS hF hD K hK
              obtain ⟨e28, e25, -⟩ := hF
              replace e28 : f 28 = _ := e28
              replace e25 : f 25 = _ := e25
              try simp only [e28, e25]
              rw [if_pos (by rfl)]
              exact wp_of_quiet (exec_load_at _ _ rfl _ _ rfl _ _ _ (hS.heap HBB.out.2.1 (fun h => h)) ((.int .i64 (yg))) (by kernel_rfl) (fun _ => by kernel_rfl)) (hK.out _ _ rfl (After.lit rfl rfl rfl (by first | rfl | kernel_rfl)))
            · intro w5 hS hF hD K hK
              obtain ⟨e27, e29, e25, -⟩ := hF
              replace e27 : f 27 = _ := e27
              replace e29 : f 29 = _ := e29
              replace e25 : f 25 = _ := e25
              try simp only [e27, e29, e25]
              rw [if_pos (by rfl)]
              go_simp
              refine hK.out _ _ rfl (After.lit rfl rfl rfl ?_)
              first | rfl | kernel_rfl
            · intro w5 hS hF hD K hK
              obtain ⟨e25, e30, e21, -⟩ := hF
              replace e25 : f 25 = _ := e25
              replace e30 : f 30 = _ := e30
              replace e21 : f 21 = _ := e21
              try simp only [e25, e30, e21]
              rw [if_pos (by rfl)]
              refine wp_of_quiet (v := (.bool false)) (by (show _ = _); kernel_rfl) (hK.out _ _ rfl (After.lit rfl rfl rfl ?_))
              first | rfl | kernel_rfl
            · intro w5 hS hF hD K hK
              obtain ⟨e21, e31, -⟩ := hF
              replace e21 : f 21 = _ := e21
              replace e31 : f 31 = _ := e31
              try simp only [e21, e31]
              rw [if_pos (by rfl)]
              refine wp_of_quiet (v := (.bool false)) (by (show _ = _); kernel_rfl) (hK.out _ _ rfl (After.lit rfl rfl rfl ?_))
              first | rfl | kernel_rfl
            · intro w5 hS hF hD K hK
              obtain ⟨e32, e25, -⟩ := hF
              replace e32 : f 32 = _ := e32
              replace e25 : f 25 = _ := e25
              try simp only [e32, e25]
              rw [if_pos (by rfl)]
              refine wp_of_quiet (v := (.bool false)) (by (show _ = _); kernel_rfl) (hK.out _ _ rfl (After.lit rfl rfl rfl ?_))
              first | rfl | kernel_rfl
            · intro w5 hS hF hD K hK
              obtain ⟨e33, -⟩ := hF
              replace e33 : f 33 = _ := e33
              try simp only [e33]
              rw [if_pos (by rfl)]
              refine wp_of_quiet (v := (.pointer (some ⟨wr.heap.size, 5, none⟩))) (by (show _ = _); kernel_rfl) (hK.out _ _ rfl (After.lit rfl rfl rfl ?_))
              first | rfl | kernel_rfl
            · intro w5 hS hF hD K hK
              obtain ⟨e34, e33, -⟩ := hF
              replace e34 : f 34 = _ := e34
              replace e33 : f 33 = _ := e33
              try simp only [e34, e33]
              rw [if_pos (by rfl)]
              exact wp_of_quiet (exec_load_at _ _ rfl _ _ rfl _ _ _ (hS.heap HBB.out.1 (fun h => h)) ((.int .i64 (rn))) (by kernel_rfl) (fun _ => by kernel_rfl)) (hK.out _ _ rfl (After.lit rfl rfl rfl (by first | rfl | kernel_rfl)))
            · intro w5 hS hF hD K hK
              obtain ⟨e33, -⟩ := hF
              replace e33 : f 33 = _ := e33
              try simp only [e33]
              rw [if_pos (by rfl)]
              refine wp_of_quiet (v := (.pointer (some ⟨W.heap.size, 5, none⟩))) (by (show _ = _); kernel_rfl) (hK.out _ _ rfl (After.lit rfl rfl rfl ?_))
              first | rfl | kernel_rfl
            · intro w5 hS hF hD K hK
              obtain ⟨e36, e33, -⟩ := hF
              replace e36 : f 36 = _ := e36
              replace e33 : f 33 = _ := e33
              try simp only [e36, e33]
              rw [if_pos (by rfl)]
              exact wp_of_quiet (exec_load_at _ _ rfl _ _ rfl _ _ _ (hS.heap HBB.out.2.1 (fun h => h)) ((.int .i64 (yn))) (by kernel_rfl) (fun _ => by kernel_rfl)) (hK.out _ _ rfl (After.lit rfl rfl rfl (by first | rfl | kernel_rfl)))
            · intro w5 hS hF hD K hK
              obtain ⟨e35, e37, e33, -⟩ := hF
              replace e35 : f 35 = _ := e35
              replace e37 : f 37 = _ := e37
              replace e33 : f 33 = _ := e33
              try simp only [e35, e37, e33]
              rw [if_pos (by rfl)]
              go_simp
              refine hK.out _ _ rfl (After.lit rfl rfl rfl ?_)
              first | rfl | kernel_rfl
            · intro w5 hS hF hD K hK
              obtain ⟨e33, e38, -⟩ := hF
              replace e33 : f 33 = _ := e33
              replace e38 : f 38 = _ := e38
              try simp only [e33, e38]
              rw [if_pos (by rfl)]
              refine wp_of_quiet (v := (.bool false)) (by (show _ = _); kernel_rfl) (hK.out _ _ rfl (After.lit rfl rfl rfl ?_))
              first | rfl | kernel_rfl
            · intro w5 hS hF hD K hK
              obtain ⟨e39, e33, -⟩ := hF
              replace e39 : f 39 = _ := e39
              replace e33 : f 33 = _ := e33
              try simp only [e39, e33]
              rw [if_pos (by rfl)]
              refine wp_of_quiet (v := (.bool false)) (by (show _ = _); kernel_rfl) (hK.out _ _ rfl (After.lit rfl rfl rfl ?_))
              first | rfl | kernel_rfl
            · intro w5 hS hF hD K hK
              obtain ⟨e40, -⟩ := hF
              replace e40 : f 40 = _ := e40
              try simp only [e40]
              rw [if_pos (by rfl)]
              refine wp_of_quiet (v := (.pointer (some ⟨wr.heap.size, 6, none⟩))) (by (show _ = _); kernel_rfl) (hK.out _ _ rfl (After.lit rfl rfl rfl ?_))
              first | rfl | kernel_rfl
            · intro w5 hS hF hD K hK
              obtain ⟨e41, e40, -⟩ := hF
              replace e41 : f 41 = _ := e41
              replace e40 : f 40 = _ := e40
              try simp only [e41, e40]
              rw [if_pos (by rfl)]
              exact wp_of_quiet (exec_load_at _ _ rfl _ _ rfl _ _ _ (hS.heap HBB.out.1 (fun h => h)) ((.slice am rf.length cm)) (by kernel_rfl) (fun _ => by kernel_rfl)) (hK.out _ _ rfl (After.lit rfl rfl rfl (by first | rfl | kernel_rfl)))
            · intro w5 hS hF hD K hK
              obtain ⟨e42, e40, -⟩ := hF
              replace e42 : f 42 = _ := e42
              replace e40 : f 40 = _ := e40
              try simp only [e42, e40]
              rw [if_pos (by rfl)]
              go_simp
              refine hK.out _ _ rfl (After.lit rfl rfl rfl ?_)
              first | rfl | kernel_rfl
            · intro w5 hS hF hD K hK
              obtain ⟨e40, -⟩ := hF
              replace e40 : f 40 = _ := e40
              try simp only [e40]
              rw [if_pos (by rfl)]
              refine wp_of_quiet (v := (.pointer (some ⟨W.heap.size, 6, none⟩))) (by (show _ = _); kernel_rfl) (hK.out _ _ rfl (After.lit rfl rfl rfl ?_))
              first | rfl | kernel_rfl
            · intro w5 hS hF hD K hK
              obtain ⟨e44, e40, -⟩ := hF
              replace e44 : f 44 = _ := e44
              replace e40 : f 40 = _ := e40
              try simp only [e44, e40]
              rw [if_pos (by rfl)]
              exact wp_of_quiet (exec_load_at _ _ rfl _ _ rfl _ _ _ (hS.heap HBB.out.2.1 (fun h => h)) ((.slice bm yf.length dm)) (by kernel_rfl) (fun _ => by kernel_rfl)) (hK.out _ _ rfl (After.lit rfl rfl rfl (by first | rfl | kernel_rfl)))
            · intro w5 hS hF hD K hK
              obtain ⟨e45, e40, -⟩ := hF
              replace e45 : f 45 = _ := e45
              replace e40 : f 40 = _ := e40
              try simp only [e45, e40]
              rw [if_pos (by rfl)]
              go_simp
              refine hK.out _ _ rfl (After.lit rfl rfl rfl ?_)
              first | rfl | kernel_rfl
            · intro w5 hS hF hD K hK
              obtain ⟨e43, e46, e40, -⟩ := hF
              replace e43 : f 43 = _ := e43
              replace e46 : f 46 = _ := e46
              replace e40 : f 40 = _ := e40
              try simp only [e43, e46, e40]
              rw [if_pos (by rfl)]
              go_simp
              refine hK.out _ _ rfl (After.lit rfl rfl rfl ?_)
              first | rfl | kernel_rfl
            · intro w5 hS hF hD K hK
              obtain ⟨e40, e47, -⟩ := hF
              replace e40 : f 40 = _ := e40
              replace e47 : f 47 = _ := e47
              try simp only [e40, e47]
              rw [if_pos (by rfl)]
              refine wp_of_quiet (v := (.bool false)) (by (show _ = _); kernel_rfl) (hK.out _ _ rfl (After.lit rfl rfl rfl ?_))
              first | rfl | kernel_rfl
            intro w5 hS hF
            obtain ⟨e48, -⟩ := hF
            replace e48 : f 48 = _ := e48
            try simp only [e48]
            simp only [List.drop_succ_cons, List.drop_zero]
            have HS := Lib.hid hS
            clear hS
            go_wp2_with fail
            go_meet
            case rel => exact ⟨rfl, HS⟩
        · have e1 : (rs == 0) = false := by simpa using hs
          have e4 : (rs == ys) = true := by simpa using HGG.out.size hs
          have e4b : (rs != ys) = false := by simpa using HGG.out.size hs
          have e1b : (rs != 0) = true := by simpa using hs
          clear hs
          by_cases hg : rg = 0
          · have e2 : (rg == 0) = true := by simpa using hg
            have e2b : (rg != 0) = false := by simpa using hg
            clear hg
            refine wp_region_relyT [] 49 (factOf [isV ((.slice (some ⟨gb, ob, none⟩) n cb)), isV ((.pointer (some ⟨wr.heap.size, 0, none⟩))), isV ((.int .i64 (cn : Int))), isV ((.pointer (some ⟨gb, ob + cn * 7, none⟩))), isV ((.pointer (some ⟨gb, ob + cn * 7, none⟩))), isV ((.int .i64 (yc))), isV ((.pointer (some ⟨W.heap.size, 0, none⟩))), isV ((.int .i64 (yc))), isV ((.bool false)), isV ((.bool false)), isV ((.pointer (some ⟨wr.heap.size, 1, none⟩))), isV ((.int .i64 (rs))), isV ((.bool true)), isV ((.bool true)), isV ((.pointer (some ⟨wr.heap.size, 1, none⟩))), isV ((.int .i64 (rs))), isV ((.pointer (some ⟨W.heap.size, 1, none⟩))), isV ((.int .i64 (ys))), isV ((.bool false)), isV ((.bool false)), isV ((.bool false)), isV ((.bool false)), isV ((.pointer (some ⟨wr.heap.size, 2, none⟩))), isV ((.int .i64 (rg))), isV ((.bool false)), isV ((.bool false)), isV undef, isV undef, isV undef, isV undef, isV undef, isV ((.bool false)), isV ((.bool false)), isV ((.bool false)), isV ((.pointer (some ⟨wr.heap.size, 5, none⟩))), isV ((.int .i64 (rn))), isV ((.pointer (some ⟨W.heap.size, 5, none⟩))), isV ((.int .i64 (yn))), isV ((.bool false)), isV ((.bool false)), isV ((.bool false)), isV ((.pointer (some ⟨wr.heap.size, 6, none⟩))), isV ((.slice am rf.length cm)), isV ((.int .i64 (rf.length))), isV ((.pointer (some ⟨W.heap.size, 6, none⟩))), isV ((.slice bm yf.length dm)), isV ((.int .i64 (yf.length))), isV ((.bool false)), isV ((.bool false))]) (nth [[0], [1], [2], [3], [4], [5], [6], [7], [8], [9], [10], [11], [12], [13], [14], [15], [16], [17], [18], [19], [20], [21], [22], [23], [24], [25], [26], [27], [28], [29], [30], [31], [32], [33], [34], [35], [36], [37], [38], [39], [40], [41], [42], [43], [44], [45], [46], [47], [48]]) (nth [[], [], [], [], [], [], [], [], [], [], [], [], [], [], [], [], [], [], [], [], [], [], [], [], [], [], [], [], [], [], [], [], [], [], [], [], [], [], [], [], [], [], [], [], [], [], [], [], []]) (nth [[], [], [1], [0, 2], [3], [4], [], [6], [5, 7], [8], [9], [10, 9], [11, 9], [12, 9], [13], [14, 13], [13], [16, 13], [15, 17, 13], [13, 18, 9], [9, 19], [20, 13], [21], [22, 21], [23, 21], [24, 21], [25], [26, 25], [25], [28, 25], [27, 29, 25], [25, 30, 21], [21, 31], [32, 25], [33], [34, 33], [33], [36, 33], [35, 37, 33], [33, 38], [39, 33], [40], [41, 40], [42, 40], [40], [44, 40], [45, 40], [43, 46, 40], [40, 47]]) [48] (fun w5 => Turn (fun _ => False) W2 w5) (by kernel_rfl) (by kernel_rfl) ((Turn.refl _ _).drew) (fun w w' h hb => h.trans (Turn.ofBelow (bs := fun _ => False) hb) (fun _ _ h => h.elim)) (GrowsAll.of ((GrowsAll.cons (Grows.isV _)  (GrowsAll.cons (Grows.isV _)  (GrowsAll.cons (Grows.isV _)  (GrowsAll.cons (Grows.isV _)  (GrowsAll.cons (Grows.isV _)  (GrowsAll.cons (Grows.isV _)  (GrowsAll.cons (Grows.isV _)  (GrowsAll.cons (Grows.isV _)  (GrowsAll.cons (Grows.isV _)  (GrowsAll.cons (Grows.isV _)  (GrowsAll.cons (Grows.isV _)  (GrowsAll.cons (Grows.isV _)  (GrowsAll.cons (Grows.isV _)  (GrowsAll.cons (Grows.isV _)  (GrowsAll.cons (Grows.isV _)  (GrowsAll.cons (Grows.isV _)  (GrowsAll.cons (Grows.isV _)  (GrowsAll.cons (Grows.isV _)  (GrowsAll.cons (Grows.isV _)  (GrowsAll.cons (Grows.isV _)  (GrowsAll.cons (Grows.isV _)  (GrowsAll.cons (Grows.isV _)  (GrowsAll.cons (Grows.isV _)  (GrowsAll.cons (Grows.isV _)  (GrowsAll.cons (Grows.isV _)  (GrowsAll.cons (Grows.isV _)  (GrowsAll.cons (Grows.isV _)  (GrowsAll.cons (Grows.isV _)  (GrowsAll.cons (Grows.isV _)  (GrowsAll.cons (Grows.isV _)  (GrowsAll.cons (Grows.isV _)  (GrowsAll.cons (Grows.isV _)  (GrowsAll.cons (Grows.isV _)  (GrowsAll.cons (Grows.isV _)  (GrowsAll.cons (Grows.isV _)  (GrowsAll.cons (Grows.isV _)  (GrowsAll.cons (Grows.isV _)  (GrowsAll.cons (Grows.isV _)  (GrowsAll.cons (Grows.isV _)  (GrowsAll.cons (Grows.isV _)  (GrowsAll.cons (Grows.isV _)  (GrowsAll.cons (Grows.isV _)  (GrowsAll.cons (Grows.isV _)  (GrowsAll.cons (Grows.isV _)  (GrowsAll.cons (Grows.isV _)  (GrowsAll.cons (Grows.isV _)  (GrowsAll.cons (Grows.isV _)  (GrowsAll.cons (Grows.isV _)  (GrowsAll.cons (Grows.isV _) GrowsAll.nil))))))))))))))))))))))))))))))))))))))))))))))))))) (fun f F hF => ?_)
            simp only [List.take_succ_cons, List.take_zero, fullGo, Act.put, List.setIfInBounds_toArray, List.set_cons_zero, List.set_cons_succ, Nat.reduceAdd] at hF
            subst hF
            refine ⟨StepObsF.cons ?_ (StepObsF.cons ?_ (StepObsF.cons ?_ (StepObsF.cons ?_ (StepObsF.cons ?_ (StepObsF.cons ?_ (StepObsF.cons ?_ (StepObsF.cons ?_ (StepObsF.cons ?_ (StepObsF.cons ?_ (StepObsF.cons ?_ (StepObsF.cons ?_ (StepObsF.cons ?_ (StepObsF.cons ?_ (StepObsF.cons ?_ (StepObsF.cons ?_ (StepObsF.cons ?_ (StepObsF.cons ?_ (StepObsF.cons ?_ (StepObsF.cons ?_ (StepObsF.cons ?_ (StepObsF.cons ?_ (StepObsF.cons ?_ (StepObsF.cons ?_ (StepObsF.cons ?_ (StepObsF.cons ?_ (StepObsF.cons ?_ (StepObsF.cons ?_ (StepObsF.cons ?_ (StepObsF.cons ?_ (StepObsF.cons ?_ (StepObsF.cons ?_ (StepObsF.cons ?_ (StepObsF.cons ?_ (StepObsF.cons ?_ (StepObsF.cons ?_ (StepObsF.cons ?_ (StepObsF.cons ?_ (StepObsF.cons ?_ (StepObsF.cons ?_ (StepObsF.cons ?_ (StepObsF.cons ?_ (StepObsF.cons ?_ (StepObsF.cons ?_ (StepObsF.cons ?_ (StepObsF.cons ?_ (StepObsF.cons ?_ (StepObsF.cons ?_ (StepObsF.cons ?_ (StepObsF.nil))))))))))))))))))))))))))))))))))))))))))))))))), ?_⟩
            · intro w5 hS hF hD K hK
              rw [if_pos (by rfl)]
              refine wp_of_quiet (v := (.slice (some ⟨gb, ob, none⟩) n cb)) (by (show _ = _); kernel_rfl) (hK.out _ _ rfl (After.lit rfl rfl rfl ?_))
              first | rfl | kernel_rfl
            · intro w5 hS hF hD K hK
              rw [if_pos (by rfl)]
              refine wp_of_quiet (v := (.pointer (some ⟨wr.heap.size, 0, none⟩))) (by (show _ = _); kernel_rfl) (hK.out _ _ rfl (After.lit rfl rfl rfl ?_))
              first | rfl | kernel_rfl
            · intro w5 hS hF hD K hK
              obtain ⟨e1, -⟩ := hF
              replace e1 : f 1 = _ := e1
              try simp only [e1]
              rw [if_pos (by rfl)]
              exact wp_of_quiet (exec_load_at _ _ rfl _ _ rfl _ _ _ (hS.heap HBB.out.1 (fun h => h)) ((.int .i64 (cn : Int))) (HX0.out) (fun _ => by kernel_rfl)) (hK.out _ _ rfl (After.lit rfl rfl rfl (by first | rfl | kernel_rfl)))
            · intro w5 hS hF hD K hK
              obtain ⟨e0, e2, -⟩ := hF
              replace e0 : f 0 = _ := e0
              replace e2 : f 2 = _ := e2
              try simp only [e0, e2]
              rw [if_pos (by rfl)]
              go_simp
              refine hK.out _ _ rfl (After.lit rfl rfl rfl ?_)
              first | rfl | kernel_rfl
            · intro w5 hS hF hD K hK
              obtain ⟨e3, -⟩ := hF
              replace e3 : f 3 = _ := e3
              try simp only [e3]
              rw [if_pos (by rfl)]
              refine wp_of_quiet (v := (.pointer (some ⟨gb, ob + cn * 7, none⟩))) (by (show _ = _); kernel_rfl) (hK.out _ _ rfl (After.lit rfl rfl rfl ?_))
              first | rfl | kernel_rfl
            · intro w5 hS hF hD K hK
              obtain ⟨e4, -⟩ := hF
              replace e4 : f 4 = _ := e4
              try simp only [e4]
              rw [if_pos (by rfl)]
              exact wp_of_quiet (exec_load_at _ _ rfl _ _ rfl _ _ _ (hS.heap HBB.out.2.2 (fun h => h)) ((.int .i64 (yc))) (HCC2.out) (fun _ => by kernel_rfl)) (hK.out _ _ rfl (After.lit rfl rfl rfl (by first | rfl | kernel_rfl)))
            · intro w5 hS hF hD K hK
              rw [if_pos (by rfl)]
              refine wp_of_quiet (v := (.pointer (some ⟨W.heap.size, 0, none⟩))) (by (show _ = _); kernel_rfl) (hK.out _ _ rfl (After.lit rfl rfl rfl ?_))
              first | rfl | kernel_rfl
            · intro w5 hS hF hD K hK
              obtain ⟨e6, -⟩ := hF
              replace e6 : f 6 = _ := e6
              try simp only [e6]
              rw [if_pos (by rfl)]
              exact wp_of_quiet (exec_load_at _ _ rfl _ _ rfl _ _ _ (hS.heap HBB.out.2.1 (fun h => h)) ((.int .i64 (yc))) (by kernel_rfl) (fun _ => by kernel_rfl)) (hK.out _ _ rfl (After.lit rfl rfl rfl (by first | rfl | kernel_rfl)))
            · intro w5 hS hF hD K hK
              obtain ⟨e5, e7, -⟩ := hF
              replace e5 : f 5 = _ := e5
              replace e7 : f 7 = _ := e7
              try simp only [e5, e7]
              rw [if_pos (by rfl)]
              go_simp
              refine hK.out _ _ rfl (After.lit rfl rfl rfl ?_)
              first | rfl | kernel_rfl
            · intro w5 hS hF hD K hK
              obtain ⟨e8, -⟩ := hF
              replace e8 : f 8 = _ := e8
              try simp only [e8]
              rw [if_pos (by rfl)]
              refine wp_of_quiet (v := (.bool false)) (by (show _ = _); kernel_rfl) (hK.out _ _ rfl (After.lit rfl rfl rfl ?_))
              first | rfl | kernel_rfl
            · intro w5 hS hF hD K hK
              obtain ⟨e9, -⟩ := hF
              replace e9 : f 9 = _ := e9
              try simp only [e9]
              rw [if_pos (by rfl)]
              refine wp_of_quiet (v := (.pointer (some ⟨wr.heap.size, 1, none⟩))) (by (show _ = _); kernel_rfl) (hK.out _ _ rfl (After.lit rfl rfl rfl ?_))
              first | rfl | kernel_rfl
            · intro w5 hS hF hD K hK
              obtain ⟨e10, e9, -⟩ := hF
              replace e10 : f 10 = _ := e10
              replace e9 : f 9 = _ := e9
              try simp only [e10, e9]
              rw [if_pos (by rfl)]
              exact wp_of_quiet (exec_load_at _ _ rfl _ _ rfl _ _ _ (hS.heap HBB.out.1 (fun h => h)) ((.int .i64 (rs))) (by kernel_rfl) (fun _ => by kernel_rfl)) (hK.out _ _ rfl (After.lit rfl rfl rfl (by first | rfl | kernel_rfl)))
            · intro w5 hS hF hD K hK
              obtain ⟨e11, e9, -⟩ := hF
              replace e11 : f 11 = _ := e11
              replace e9 : f 9 = _ := e9
              try simp only [e11, e9]
              rw [if_pos (by rfl)]
              go_simp
              refine hK.out _ _ rfl (After.lit rfl rfl rfl ?_)
              first | rfl | kernel_rfl
            · intro w5 hS hF hD K hK
              obtain ⟨e12, e9, -⟩ := hF
              replace e12 : f 12 = _ := e12
              replace e9 : f 9 = _ := e9
              try simp only [e12, e9]
              rw [if_pos (by rfl)]
              refine wp_of_quiet (v := (.bool true)) (by (show _ = _); kernel_rfl) (hK.out _ _ rfl (After.lit rfl rfl rfl ?_))
              first | rfl | kernel_rfl
            · intro w5 hS hF hD K hK
              obtain ⟨e13, -⟩ := hF
              replace e13 : f 13 = _ := e13
              try simp only [e13]
              rw [if_pos (by rfl)]
              refine wp_of_quiet (v := (.pointer (some ⟨wr.heap.size, 1, none⟩))) (by (show _ = _); kernel_rfl) (hK.out _ _ rfl (After.lit rfl rfl rfl ?_))
              first | rfl | kernel_rfl
            · intro w5 hS hF hD K hK
              obtain ⟨e14, e13, -⟩ := hF
              replace e14 : f 14 = _ := e14
              replace e13 : f 13 = _ := e13
              try simp only [e14, e13]
              rw [if_pos (by rfl)]
              exact wp_of_quiet (exec_load_at _ _ rfl _ _ rfl _ _ _ (hS.heap HBB.out.1 (fun h => h)) ((.int .i64 (rs))) (by kernel_rfl) (fun _ => by kernel_rfl)) (hK.out _ _ rfl (After.lit rfl rfl rfl (by first | rfl | kernel_rfl)))
            · intro w5 hS hF hD K hK
              obtain ⟨e13, -⟩ := hF
              replace e13 : f 13 = _ := e13
              try simp only [e13]
              rw [if_pos (by rfl)]
              refine wp_of_quiet (v := (.pointer (some ⟨W.heap.size, 1, none⟩))) (by (show _ = _); kernel_rfl) (hK.out _ _ rfl (After.lit rfl rfl rfl ?_))
              first | rfl | kernel_rfl
            · intro w5 hS hF hD K hK
              obtain ⟨e16, e13, -⟩ := hF
              replace e16 : f 16 = _ := e16
              replace e13 : f 13 = _ := e13
              try simp only [e16, e13]
              rw [if_pos (by rfl)]
              exact wp_of_quiet (exec_load_at _ _ rfl _ _ rfl _ _ _ (hS.heap HBB.out.2.1 (fun h => h)) ((.int .i64 (ys))) (by kernel_rfl) (fun _ => by kernel_rfl)) (hK.out _ _ rfl (After.lit rfl rfl rfl (by first | rfl | kernel_rfl)))
            · intro w5 hS hF hD K hK
              obtain ⟨e15, e17, e13, -⟩ := hF
              replace e15 : f 15 = _ := e15
              replace e17 : f 17 = _ := e17
              replace e13 : f 13 = _ := e13
              try simp only [e15, e17, e13]
              rw [if_pos (by rfl)]
              go_simp
              refine hK.out _ _ rfl (After.lit rfl rfl rfl ?_)
              first | rfl | kernel_rfl
            · intro w5 hS hF hD K hK
              obtain ⟨e13, e18, e9, -⟩ := hF
              replace e13 : f 13 = _ := e13
              replace e18 : f 18 = _ := e18
              replace e9 : f 9 = _ := e9
              try simp only [e13, e18, e9]
              rw [if_pos (by rfl)]
              refine wp_of_quiet (v := (.bool false)) (by (show _ = _); kernel_rfl) (hK.out _ _ rfl (After.lit rfl rfl rfl ?_))
              first | rfl | kernel_rfl
            · intro w5 hS hF hD K hK
              obtain ⟨e9, e19, -⟩ := hF
              replace e9 : f 9 = _ := e9
              replace e19 : f 19 = _ := e19
              try simp only [e9, e19]
              rw [if_pos (by rfl)]
              refine wp_of_quiet (v := (.bool false)) (by (show _ = _); kernel_rfl) (hK.out _ _ rfl (After.lit rfl rfl rfl ?_))
              first | rfl | kernel_rfl
            · intro w5 hS hF hD K hK
              obtain ⟨e20, e13, -⟩ := hF
              replace e20 : f 20 = _ := e20
              replace e13 : f 13 = _ := e13
              try simp only [e20, e13]
              rw [if_pos (by rfl)]
              refine wp_of_quiet (v := (.bool false)) (by (show _ = _); kernel_rfl) (hK.out _ _ rfl (After.lit rfl rfl rfl ?_))
              first | rfl | kernel_rfl
            · intro w5 hS hF hD K hK
              obtain ⟨e21, -⟩ := hF
              replace e21 : f 21 = _ := e21
              try simp only [e21]
              rw [if_pos (by rfl)]
              refine wp_of_quiet (v := (.pointer (some ⟨wr.heap.size, 2, none⟩))) (by (show _ = _); kernel_rfl) (hK.out _ _ rfl (After.lit rfl rfl rfl ?_))
              first | rfl | kernel_rfl
            · intro w5 hS hF hD K hK
              obtain ⟨e22, e21, -⟩ := hF
              replace e22 : f 22 = _ := e22
              replace e21 : f 21 = _ := e21
              try simp only [e22, e21]
              rw [if_pos (by rfl)]
              exact wp_of_quiet (exec_load_at _ _ rfl _ _ rfl _ _ _ (hS.heap HBB.out.1 (fun h => h)) ((.int .i64 (rg))) (by kernel_rfl) (fun _ => by kernel_rfl)) (hK.out _ _ rfl (After.lit rfl rfl rfl (by first | rfl | kernel_rfl)))
            · intro w5 hS hF hD K hK
              obtain ⟨e23, e21, -⟩ := hF
              replace e23 : f 23 = _ := e23
              replace e21 : f 21 = _ := e21
              try simp only [e23, e21]
              rw [if_pos (by rfl)]
              go_simp
              refine hK.out _ _ rfl (After.lit rfl rfl rfl ?_)
              first | rfl | kernel_rfl
            · intro w5 hS hF hD K hK
              obtain ⟨e24, e21, -⟩ := hF
              replace e24 : f 24 = _ := e24
              replace e21 : f 21 = _ := e21
              try simp only [e24, e21]
              rw [if_pos (by rfl)]
              refine wp_of_quiet (v := (.bool false)) (by (show _ = _); kernel_rfl) (hK.out _ _ rfl (After.lit rfl rfl rfl ?_))
              first | rfl | kernel_rfl
            · intro w5 hS hF hD K hK
              obtain ⟨e25, -⟩ := hF
              replace e25 : f 25 = _ := e25
              try simp only [e25]
              rw [if_neg (by (show ¬ (false = true)); exact Bool.false_ne_true)]
              exact hK.out _ _ rfl (After.lit rfl rfl rfl (by first | rfl | kernel_rfl))
            · intro w5 hS hF hD K hK
              obtain ⟨e26, e25, -⟩ := hF
              replace e26 : f 26 = _ := e26
              replace e25 : f 25 = _ := e25
              try simp only [e26, e25]
              rw [if_neg (by (show ¬ (false = true)); exact Bool.false_ne_true)]
              exact hK.out _ _ rfl (After.lit rfl rfl rfl (by first | rfl | kernel_rfl))
            · intro w5 hS hF hD K hK
              obtain ⟨e25, -⟩ := hF
              replace e25 : f 25 = _ := e25
              try simp only [e25]
              rw [if_neg (by (show ¬ (false = true)); exact Bool.false_ne_true)]
              exact hK.out _ _ rfl (After.lit rfl rfl rfl (by first | rfl | kernel_rfl))
            · intro w5 hS hF hD K hK
              obtain ⟨e28, e25, -⟩ := hF
              replace e28 : f 28 = _ := e28
              replace e25 : f 25 = _ := e25
              try simp only [e28, e25]
              rw [if_neg (by (show ¬ (false = true)); exact Bool.false_ne_true)]
              exact hK.out _ _ rfl (After.lit rfl rfl rfl (by first | rfl | kernel_rfl))
            · intro w5 hS hF hD K hK
              obtain ⟨e27, e29, e25, -⟩ := hF
              replace e27 : f 27 = _ := e27
              replace e29 : f 29 = _ := e29
              replace e25 : f 25 = _ := e25
              try simp only [e27, e29, e25]
              rw [if_neg (by (show ¬ (false = true)); exact Bool.false_ne_true)]
              exact hK.out _ _ rfl (After.lit rfl rfl rfl (by first | rfl | kernel_rfl))
            · intro w5 hS hF hD K hK
              obtain ⟨e25, e30, e21, -⟩ := hF
              replace e25 : f 25 = _ := e25
              replace e30 : f 30 = _ := e30
              replace e21 : f 21 = _ := e21
              try simp only [e25, e30, e21]
              rw [if_pos (by rfl)]
              refine wp_of_quiet (v := (.bool false)) (by (show _ = _); kernel_rfl) (hK.out _ _ rfl (After.lit rfl rfl rfl ?_))
              first | rfl | kernel_rfl
            · intro w5 hS hF hD K hK
              obtain ⟨e21, e31, -⟩ := hF
              replace e21 : f 21 = _ := e21
              replace e31 : f 31 = _ := e31
              try simp only [e21, e31]
              rw [if_pos (by rfl)]
              refine wp_of_quiet (v := (.bool false)) (by (show _ = _); kernel_rfl) (hK.out _ _ rfl (After.lit rfl rfl rfl ?_))
              first | rfl | kernel_rfl
            · intro w5 hS hF hD K hK
              obtain ⟨e32, e25, -⟩ := hF
              replace e32 : f 32 = _ := e32
              replace e25 : f 25 = _ := e25
              try simp only [e32, e25]
              rw [if_pos (by rfl)]
              refine wp_of_quiet (v := (.bool false)) (by (show _ = _); kernel_rfl) (hK.out _ _ rfl (After.lit rfl rfl rfl ?_))
              first | rfl | kernel_rfl
            · intro w5 hS hF hD K hK
              obtain ⟨e33, -⟩ := hF
              replace e33 : f 33 = _ := e33
              try simp only [e33]
              rw [if_pos (by rfl)]
              refine wp_of_quiet (v := (.pointer (some ⟨wr.heap.size, 5, none⟩))) (by (show _ = _); kernel_rfl) (hK.out _ _ rfl (After.lit rfl rfl rfl ?_))
              first | rfl | kernel_rfl
            · intro w5 hS hF hD K hK
              obtain ⟨e34, e33, -⟩ := hF
              replace e34 : f 34 = _ := e34
              replace e33 : f 33 = _ := e33
              try simp only [e34, e33]
              rw [if_pos (by rfl)]
              exact wp_of_quiet (exec_load_at _ _ rfl _ _ rfl _ _ _ (hS.heap HBB.out.1 (fun h => h)) ((.int .i64 (rn))) (by kernel_rfl) (fun _ => by kernel_rfl)) (hK.out _ _ rfl (After.lit rfl rfl rfl (by first | rfl | kernel_rfl)))
            · intro w5 hS hF hD K hK
              obtain ⟨e33, -⟩ := hF
              replace e33 : f 33 = _ := e33
              try simp only [e33]
              rw [if_pos (by rfl)]
              refine wp_of_quiet (v := (.pointer (some ⟨W.heap.size, 5, none⟩))) (by (show _ = _); kernel_rfl) (hK.out _ _ rfl (After.lit rfl rfl rfl ?_))
              first | rfl | kernel_rfl
            · intro w5 hS hF hD K hK
              obtain ⟨e36, e33, -⟩ := hF
              replace e36 : f 36 = _ := e36
              replace e33 : f 33 = _ := e33
              try simp only [e36, e33]
              rw [if_pos (by rfl)]
              exact wp_of_quiet (exec_load_at _ _ rfl _ _ rfl _ _ _ (hS.heap HBB.out.2.1 (fun h => h)) ((.int .i64 (yn))) (by kernel_rfl) (fun _ => by kernel_rfl)) (hK.out _ _ rfl (After.lit rfl rfl rfl (by first | rfl | kernel_rfl)))
            · intro w5 hS hF hD K hK
              obtain ⟨e35, e37, e33, -⟩ := hF
              replace e35 : f 35 = _ := e35
              replace e37 : f 37 = _ := e37
              replace e33 : f 33 = _ := e33
              try simp only [e35, e37, e33]
              rw [if_pos (by rfl)]
              go_simp
              refine hK.out _ _ rfl (After.lit rfl rfl rfl ?_)
              first | rfl | kernel_rfl
            · intro w5 hS hF hD K hK
              obtain ⟨e33, e38, -⟩ := hF
              replace e33 : f 33 = _ := e33
              replace e38 : f 38 = _ := e38
              try simp only [e33, e38]
              rw [if_pos (by rfl)]
              refine wp_of_quiet (v := (.bool false)) (by (show _ = _); kernel_rfl) (hK.out _ _ rfl (After.lit rfl rfl rfl ?_))
              first | rfl | kernel_rfl
            · intro w5 hS hF hD K hK
              obtain ⟨e39, e33, -⟩ := hF
              replace e39 : f 39 = _ := e39
              replace e33 : f 33 = _ := e33
              try simp only [e39, e33]
              rw [if_pos (by rfl)]
              refine wp_of_quiet (v := (.bool false)) (by (show _ = _); kernel_rfl) (hK.out _ _ rfl (After.lit rfl rfl rfl ?_))
              first | rfl | kernel_rfl
            · intro w5 hS hF hD K hK
              obtain ⟨e40, -⟩ := hF
              replace e40 : f 40 = _ := e40
              try simp only [e40]
              rw [if_pos (by rfl)]
              refine wp_of_quiet (v := (.pointer (some ⟨wr.heap.size, 6, none⟩))) (by (show _ = _); kernel_rfl) (hK.out _ _ rfl (After.lit rfl rfl rfl ?_))
              first | rfl | kernel_rfl
            · intro w5 hS hF hD K hK
              obtain ⟨e41, e40, -⟩ := hF
              replace e41 : f 41 = _ := e41
              replace e40 : f 40 = _ := e40
              try simp only [e41, e40]
              rw [if_pos (by rfl)]
              exact wp_of_quiet (exec_load_at _ _ rfl _ _ rfl _ _ _ (hS.heap HBB.out.1 (fun h => h)) ((.slice am rf.length cm)) (by kernel_rfl) (fun _ => by kernel_rfl)) (hK.out _ _ rfl (After.lit rfl rfl rfl (by first | rfl | kernel_rfl)))
            · intro w5 hS hF hD K hK
              obtain ⟨e42, e40, -⟩ := hF
              replace e42 : f 42 = _ := e42
              replace e40 : f 40 = _ := e40
              try simp only [e42, e40]
              rw [if_pos (by rfl)]
              go_simp
              refine hK.out _ _ rfl (After.lit rfl rfl rfl ?_)
              first | rfl | kernel_rfl
            · intro w5 hS hF hD K hK
              obtain ⟨e40, -⟩ := hF
              replace e40 : f 40 = _ := e40
              try simp only [e40]
              rw [if_pos (by rfl)]
              refine wp_of_quiet (v := (.pointer (some ⟨W.heap.size, 6, none⟩))) (by (show _ = _); kernel_rfl) (hK.out _ _ rfl (After.lit rfl rfl rfl ?_))
              first | rfl | kernel_rfl
            · intro w5 hS hF hD K hK
              obtain ⟨e44, e40, -⟩ := hF
              replace e44 : f 44 = _ := e44
              replace e40 : f 40 = _ := e40
              try simp only [e44, e40]
              rw [if_pos (by rfl)]
              exact wp_of_quiet (exec_load_at _ _ rfl _ _ rfl _ _ _ (hS.heap HBB.out.2.1 (fun h => h)) ((.slice bm yf.length dm)) (by kernel_rfl) (fun _ => by kernel_rfl)) (hK.out _ _ rfl (After.lit rfl rfl rfl (by first | rfl | kernel_rfl)))
            · intro w5 hS hF hD K hK
              obtain ⟨e45, e40, -⟩ := hF
              replace e45 : f 45 = _ := e45
              replace e40 : f 40 = _ := e40
              try simp only [e45, e40]
              rw [if_pos (by rfl)]
              go_simp
              refine hK.out _ _ rfl (After.lit rfl rfl rfl ?_)
              first | rfl | kernel_rfl
            · intro w5 hS hF hD K hK
              obtain ⟨e43, e46, e40, -⟩ := hF
              replace e43 : f 43 = _ := e43
              replace e46 : f 46 = _ := e46
              replace e40 : f 40 = _ := e40
              try simp only [e43, e46, e40]
              rw [if_pos (by rfl)]
              go_simp
              refine hK.out _ _ rfl (After.lit rfl rfl rfl ?_)
              first | rfl | kernel_rfl
            · intro w5 hS hF hD K hK
              obtain ⟨e40, e47, -⟩ := hF
              replace e40 : f 40 = _ := e40
              replace e47 : f 47 = _ := e47
              try simp only [e40, e47]
              rw [if_pos (by rfl)]
              refine wp_of_quiet (v := (.bool false)) (by (show _ = _); kernel_rfl) (hK.out _ _ rfl (After.lit rfl rfl rfl ?_))
              first | rfl | kernel_rfl
            intro w5 hS hF
            obtain ⟨e48, -⟩ := hF
            replace e48 : f 48 = _ := e48
            try simp only [e48]
            simp only [List.drop_succ_cons, List.drop_zero]
            have HS := Lib.hid hS
            clear hS
            go_wp2_with fail
            go_meet
            case rel => exact ⟨rfl, HS⟩
          · have e2 : (rg == 0) = false := by simpa using hg
            have e2b : (rg != 0) = true := by simpa using hg
            have e3 : (rg == yg) = true := by simpa using HGG.out.sign hg
            have e3b : (rg != yg) = false := by simpa using HGG.out.sign hg
            clear hg
            refine wp_region_relyT [] 49 (factOf [isV ((.slice (some ⟨gb, ob, none⟩) n cb)), isV ((.pointer (some ⟨wr.heap.size, 0, none⟩))), isV ((.int .i64 (cn : Int))), isV ((.pointer (some ⟨gb, ob + cn * 7, none⟩))), isV ((.pointer (some ⟨gb, ob + cn * 7, none⟩))), isV ((.int .i64 (yc))), isV ((.pointer (some ⟨W.heap.size, 0, none⟩))), isV ((.int .i64 (yc))), isV ((.bool false)), isV ((.bool false)), isV ((.pointer (some ⟨wr.heap.size, 1, none⟩))), isV ((.int .i64 (rs))), isV ((.bool true)), isV ((.bool true)), isV ((.pointer (some ⟨wr.heap.size, 1, none⟩))), isV ((.int .i64 (rs))), isV ((.pointer (some ⟨W.heap.size, 1, none⟩))), isV ((.int .i64 (ys))), isV ((.bool false)), isV ((.bool false)), isV ((.bool false)), isV ((.bool false)), isV ((.pointer (some ⟨wr.heap.size, 2, none⟩))), isV ((.int .i64 (rg))), isV ((.bool true)), isV ((.bool true)), isV ((.pointer (some ⟨wr.heap.size, 2, none⟩))), isV ((.int .i64 (rg))), isV ((.pointer (some ⟨W.heap.size, 2, none⟩))), isV ((.int .i64 (yg))), isV ((.bool false)), isV ((.bool false)), isV ((.bool false)), isV ((.bool false)), isV ((.pointer (some ⟨wr.heap.size, 5, none⟩))), isV ((.int .i64 (rn))), isV ((.pointer (some ⟨W.heap.size, 5, none⟩))), isV ((.int .i64 (yn))), isV ((.bool false)), isV ((.bool false)), isV ((.bool false)), isV ((.pointer (some ⟨wr.heap.size, 6, none⟩))), isV ((.slice am rf.length cm)), isV ((.int .i64 (rf.length))), isV ((.pointer (some ⟨W.heap.size, 6, none⟩))), isV ((.slice bm yf.length dm)), isV ((.int .i64 (yf.length))), isV ((.bool false)), isV ((.bool false))]) (nth [[0], [1], [2], [3], [4], [5], [6], [7], [8], [9], [10], [11], [12], [13], [14], [15], [16], [17], [18], [19], [20], [21], [22], [23], [24], [25], [26], [27], [28], [29], [30], [31], [32], [33], [34], [35], [36], [37], [38], [39], [40], [41], [42], [43], [44], [45], [46], [47], [48]]) (nth [[], [], [], [], [], [], [], [], [], [], [], [], [], [], [], [], [], [], [], [], [], [], [], [], [], [], [], [], [], [], [], [], [], [], [], [], [], [], [], [], [], [], [], [], [], [], [], [], []]) (nth [[], [], [1], [0, 2], [3], [4], [], [6], [5, 7], [8], [9], [10, 9], [11, 9], [12, 9], [13], [14, 13], [13], [16, 13], [15, 17, 13], [13, 18, 9], [9, 19], [20, 13], [21], [22, 21], [23, 21], [24, 21], [25], [26, 25], [25], [28, 25], [27, 29, 25], [25, 30, 21], [21, 31], [32, 25], [33], [34, 33], [33], [36, 33], [35, 37, 33], [33, 38], [39, 33], [40], [41, 40], [42, 40], [40], [44, 40], [45, 40], [43, 46, 40], [40, 47]]) [48] (fun w5 => Turn (fun _ => False) W2 w5) (by kernel_rfl) (by kernel_rfl) ((Turn.refl _ _).drew) (fun w w' h hb => h.trans (Turn.ofBelow (bs := fun _ => False) hb) (fun _ _ h => h.elim)) (GrowsAll.of ((GrowsAll.cons (Grows.isV _)  (GrowsAll.cons (Grows.isV _)  (GrowsAll.cons (Grows.isV _)  (GrowsAll.cons (Grows.isV _)  (GrowsAll.cons (Grows.isV _)  (GrowsAll.cons (Grows.isV _)  (GrowsAll.cons (Grows.isV _)  (GrowsAll.cons (Grows.isV _)  (GrowsAll.cons (Grows.isV _)  (GrowsAll.cons (Grows.isV _)  (GrowsAll.cons (Grows.isV _)  (GrowsAll.cons (Grows.isV _)  (GrowsAll.cons (Grows.isV _)  (GrowsAll.cons (Grows.isV _)  (GrowsAll.cons (Grows.isV _)  (GrowsAll.cons (Grows.isV _)  (GrowsAll.cons (Grows.isV _)  (GrowsAll.cons (Grows.isV _)  (GrowsAll.cons (Grows.isV _)  (GrowsAll.cons (Grows.isV _)  (GrowsAll.cons (Grows.isV _)  (GrowsAll.cons (Grows.isV _)  (GrowsAll.cons (Grows.isV _)  (GrowsAll.cons (Grows.isV _)  (GrowsAll.cons (Grows.isV _)  (GrowsAll.cons (Grows.isV _)  (GrowsAll.cons (Grows.isV _)  (GrowsAll.cons (Grows.isV _)  (GrowsAll.cons (Grows.isV _)  (GrowsAll.cons (Grows.isV _)  (GrowsAll.cons (Grows.isV _)  (GrowsAll.cons (Grows.isV _)  (GrowsAll.cons (Grows.isV _)  (GrowsAll.cons (Grows.isV _)  (GrowsAll.cons (Grows.isV _)  (GrowsAll.cons (Grows.isV _)  (GrowsAll.cons (Grows.isV _)  (GrowsAll.cons (Grows.isV _)  (GrowsAll.cons (Grows.isV _)  (GrowsAll.cons (Grows.isV _)  (GrowsAll.cons (Grows.isV _)  (GrowsAll.cons (Grows.isV _)  (GrowsAll.cons (Grows.isV _)  (GrowsAll.cons (Grows.isV _)  (GrowsAll.cons (Grows.isV _)  (GrowsAll.cons (Grows.isV _)  (GrowsAll.cons (Grows.isV _)  (GrowsAll.cons (Grows.isV _)  (GrowsAll.cons (Grows.isV _) GrowsAll.nil))))))))))))))))))))))))))))))))))))))))))))))))))) (fun f F hF => ?_)
            simp only [List.take_succ_cons, List.take_zero, fullGo, Act.put, List.setIfInBounds_toArray, List.set_cons_zero, List.set_cons_succ, Nat.reduceAdd] at hF
            subst hF
            refine ⟨StepObsF.cons ?_ (StepObsF.cons ?_ (StepObsF.cons ?_ (StepObsF.cons ?_ (StepObsF.cons ?_ (StepObsF.cons ?_ (StepObsF.cons ?_ (StepObsF.cons ?_ (StepObsF.cons ?_ (StepObsF.cons ?_ (StepObsF.cons ?_ (StepObsF.cons ?_ (StepObsF.cons ?_ (StepObsF.cons ?_ (StepObsF.cons ?_ (StepObsF.cons ?_ (StepObsF.cons ?_ (StepObsF.cons ?_ (StepObsF.cons ?_ (StepObsF.cons ?_ (StepObsF.cons ?_ (StepObsF.cons ?_ (StepObsF.cons ?_ (StepObsF.cons ?_ (StepObsF.cons ?_ (StepObsF.cons ?_ (StepObsF.cons ?_ (StepObsF.cons ?_ (StepObsF.cons ?_ (StepObsF.cons ?_ (StepObsF.cons ?_ (StepObsF.cons ?_ (StepObsF.cons ?_ (StepObsF.cons ?_ (StepObsF.cons ?_ (StepObsF.cons ?_ (StepObsF.cons ?_ (StepObsF.cons ?_ (StepObsF.cons ?_ (StepObsF.cons ?_ (StepObsF.cons ?_ (StepObsF.cons ?_ (StepObsF.cons ?_ (StepObsF.cons ?_ (StepObsF.cons ?_ (StepObsF.cons ?_ (StepObsF.cons ?_ (StepObsF.cons ?_ (StepObsF.cons ?_ (StepObsF.nil))))))))))))))))))))))))))))))))))))))))))))))))), ?_⟩
            · intro w5 hS hF hD K hK
              rw [if_pos (by rfl)]
              refine wp_of_quiet (v := (.slice (some ⟨gb, ob, none⟩) n cb)) (by (show _ = _); kernel_rfl) (hK.out _ _ rfl (After.lit rfl rfl rfl ?_))
              first | rfl | kernel_rfl
            · intro w5 hS hF hD K hK
              rw [if_pos (by rfl)]
              refine wp_of_quiet (v := (.pointer (some ⟨wr.heap.size, 0, none⟩))) (by (show _ = _); kernel_rfl) (hK.out _ _ rfl (After.lit rfl rfl rfl ?_))
              first | rfl | kernel_rfl
            · intro w5 hS hF hD K hK
              obtain ⟨e1, -⟩ := hF
              replace e1 : f 1 = _ := e1
              try simp only [e1]
              rw [if_pos (by rfl)]
              exact wp_of_quiet (exec_load_at _ _ rfl _ _ rfl _ _ _ (hS.heap HBB.out.1 (fun h => h)) ((.int .i64 (cn : Int))) (HX0.out) (fun _ => by kernel_rfl)) (hK.out _ _ rfl (After.lit rfl rfl rfl (by first | rfl | kernel_rfl)))
            · intro w5 hS hF hD K hK
              obtain ⟨e0, e2, -⟩ := hF
              replace e0 : f 0 = _ := e0
              replace e2 : f 2 = _ := e2
              try simp only [e0, e2]
              rw [if_pos (by rfl)]
              go_simp
              refine hK.out _ _ rfl (After.lit rfl rfl rfl ?_)
              first | rfl | kernel_rfl
            · intro w5 hS hF hD K hK
              obtain ⟨e3, -⟩ := hF
              replace e3 : f 3 = _ := e3
              try simp only [e3]
              rw [if_pos (by rfl)]
              refine wp_of_quiet (v := (.pointer (some ⟨gb, ob + cn * 7, none⟩))) (by (show _ = _); kernel_rfl) (hK.out _ _ rfl (After.lit rfl rfl rfl ?_))
              first | rfl | kernel_rfl
            · intro w5 hS hF hD K hK
              obtain ⟨e4, -⟩ := hF
              replace e4 : f 4 = _ := e4
              try simp only [e4]
              rw [if_pos (by rfl)]
              exact wp_of_quiet (exec_load_at _ _ rfl _ _ rfl _ _ _ (hS.heap HBB.out.2.2 (fun h => h)) ((.int .i64 (yc))) (HCC2.out) (fun _ => by kernel_rfl)) (hK.out _ _ rfl (After.lit rfl rfl rfl (by first | rfl | kernel_rfl)))
            · intro w5 hS hF hD K hK
              rw [if_pos (by rfl)]
              refine wp_of_quiet (v := (.pointer (some ⟨W.heap.size, 0, none⟩))) (by (show _ = _); kernel_rfl) (hK.out _ _ rfl (After.lit rfl rfl rfl ?_))
              first | rfl | kernel_rfl
            · intro w5 hS hF hD K hK
              obtain ⟨e6, -⟩ := hF
              replace e6 : f 6 = _ := e6
              try simp only [e6]
              rw [if_pos (by rfl)]
              exact wp_of_quiet (exec_load_at _ _ rfl _ _ rfl _ _ _ (hS.heap HBB.out.2.1 (fun h => h)) ((.int .i64 (yc))) (by kernel_rfl) (fun _ => by kernel_rfl)) (hK.out _ _ rfl (After.lit rfl rfl rfl (by first | rfl | kernel_rfl)))
            · intro w5 hS hF hD K hK
              obtain ⟨e5, e7, -⟩ := hF
              replace e5 : f 5 = _ := e5
              replace e7 : f 7 = _ := e7
              try simp only [e5, e7]
              rw [if_pos (by rfl)]
              go_simp
              refine hK.out _ _ rfl (After.lit rfl rfl rfl ?_)
              first | rfl | kernel_rfl
            · intro w5 hS hF hD K hK
              obtain ⟨e8, -⟩ := hF
              replace e8 : f 8 = _ := e8
              try simp only [e8]
              rw [if_pos (by rfl)]
              refine wp_of_quiet (v := (.bool false)) (by (show _ = _); kernel_rfl) (hK.out _ _ rfl (After.lit rfl rfl rfl ?_))
              first | rfl | kernel_rfl
            · intro w5 hS hF hD K hK
              obtain ⟨e9, -⟩ := hF
              replace e9 : f 9 = _ := e9
              try simp only [e9]
              rw [if_pos (by rfl)]
              refine wp_of_quiet (v := (.pointer (some ⟨wr.heap.size, 1, none⟩))) (by (show _ = _); kernel_rfl) (hK.out _ _ rfl (After.lit rfl rfl rfl ?_))
              first | rfl | kernel_rfl
            · intro w5 hS hF hD K hK
              obtain ⟨e10, e9, -⟩ := hF
              replace e10 : f 10 = _ := e10
              replace e9 : f 9 = _ := e9
              try simp only [e10, e9]
              rw [if_pos (by rfl)]
              exact wp_of_quiet (exec_load_at _ _ rfl _ _ rfl _ _ _ (hS.heap HBB.out.1 (fun h => h)) ((.int .i64 (rs))) (by kernel_rfl) (fun _ => by kernel_rfl)) (hK.out _ _ rfl (After.lit rfl rfl rfl (by first | rfl | kernel_rfl)))
            · intro w5 hS hF hD K hK
              obtain ⟨e11, e9, -⟩ := hF
              replace e11 : f 11 = _ := e11
              replace e9 : f 9 = _ := e9
              try simp only [e11, e9]
              rw [if_pos (by rfl)]
              go_simp
              refine hK.out _ _ rfl (After.lit rfl rfl rfl ?_)
              first | rfl | kernel_rfl
            · intro w5 hS hF hD K hK
              obtain ⟨e12, e9, -⟩ := hF
              replace e12 : f 12 = _ := e12
              replace e9 : f 9 = _ := e9
              try simp only [e12, e9]
              rw [if_pos (by rfl)]
              refine wp_of_quiet (v := (.bool true)) (by (show _ = _); kernel_rfl) (hK.out _ _ rfl (After.lit rfl rfl rfl ?_))
              first | rfl | kernel_rfl
            · intro w5 hS hF hD K hK
              obtain ⟨e13, -⟩ := hF
              replace e13 : f 13 = _ := e13
              try simp only [e13]
              rw [if_pos (by rfl)]
              refine wp_of_quiet (v := (.pointer (some ⟨wr.heap.size, 1, none⟩))) (by (show _ = _); kernel_rfl) (hK.out _ _ rfl (After.lit rfl rfl rfl ?_))
              first | rfl | kernel_rfl
            · intro w5 hS hF hD K hK
              obtain ⟨e14, e13, -⟩ := hF
              replace e14 : f 14 = _ := e14
              replace e13 : f 13 = _ := e13
              try simp only [e14, e13]
              rw [if_pos (by rfl)]
              exact wp_of_quiet (exec_load_at _ _ rfl _ _ rfl _ _ _ (hS.heap HBB.out.1 (fun h => h)) ((.int .i64 (rs))) (by kernel_rfl) (fun _ => by kernel_rfl)) (hK.out _ _ rfl (After.lit rfl rfl rfl (by first | rfl | kernel_rfl)))
            · intro w5 hS hF hD K hK
              obtain ⟨e13, -⟩ := hF
              replace e13 : f 13 = _ := e13
              try simp only [e13]
              rw [if_pos (by rfl)]
              refine wp_of_quiet (v := (.pointer (some ⟨W.heap.size, 1, none⟩))) (by (show _ = _); kernel_rfl) (hK.out _ _ rfl (After.lit rfl rfl rfl ?_))
              first | rfl | kernel_rfl
            · intro w5 hS hF hD K hK
              obtain ⟨e16, e13, -⟩ := hF
              replace e16 : f 16 = _ := e16
              replace e13 : f 13 = _ := e13
              try simp only [e16, e13]
              rw [if_pos (by rfl)]
              exact wp_of_quiet (exec_load_at _ _ rfl _ _ rfl _ _ _ (hS.heap HBB.out.2.1 (fun h => h)) ((.int .i64 (ys))) (by kernel_rfl) (fun _ => by kernel_rfl)) (hK.out _ _ rfl (After.lit rfl rfl rfl (by first | rfl | kernel_rfl)))
            · intro w5 hS hF hD K hK
              obtain ⟨e15, e17, e13, -⟩ := hF
              replace e15 : f 15 = _ := e15
              replace e17 : f 17 = _ := e17
              replace e13 : f 13 = _ := e13
              try simp only [e15, e17, e13]
              rw [if_pos (by rfl)]
              go_simp
              refine hK.out _ _ rfl (After.lit rfl rfl rfl ?_)
              first | rfl | kernel_rfl
            · intro w5 hS hF hD K hK
              obtain ⟨e13, e18, e9, -⟩ := hF
              replace e13 : f 13 = _ := e13
              replace e18 : f 18 = _ := e18
              replace e9 : f 9 = _ := e9
              try simp only [e13, e18, e9]
              rw [if_pos (by rfl)]
              refine wp_of_quiet (v := (.bool false)) (by (show _ = _); kernel_rfl) (hK.out _ _ rfl (After.lit rfl rfl rfl ?_))
              first | rfl | kernel_rfl
            · intro w5 hS hF hD K hK
              obtain ⟨e9, e19, -⟩ := hF
              replace e9 : f 9 = _ := e9
              replace e19 : f 19 = _ := e19
              try simp only [e9, e19]
              rw [if_pos (by rfl)]
              refine wp_of_quiet (v := (.bool false)) (by (show _ = _); kernel_rfl) (hK.out _ _ rfl (After.lit rfl rfl rfl ?_))
              first | rfl | kernel_rfl
            · intro w5 hS hF hD K hK
              obtain ⟨e20, e13, -⟩ := hF
              replace e20 : f 20 = _ := e20
              replace e13 : f 13 = _ := e13
              try simp only [e20, e13]
              rw [if_pos (by rfl)]
              refine wp_of_quiet (v := (.bool false)) (by (show _ = _); kernel_rfl) (hK.out _ _ rfl (After.lit rfl rfl rfl ?_))
              first | rfl | kernel_rfl
            · intro w5 hS hF hD K hK
              obtain ⟨e21, -⟩ := hF
              replace e21 : f 21 = _ := e21
              try simp only [e21]
              rw [if_pos (by rfl)]
              refine wp_of_quiet (v := (.pointer (some ⟨wr.heap.size, 2, none⟩))) (by (show _ = _); kernel_rfl) (hK.out _ _ rfl (After.lit rfl rfl rfl ?_))
              first | rfl | kernel_rfl
            · intro w5 hS hF hD K hK
              obtain ⟨e22, e21, -⟩ := hF
              replace e22 : f 22 = _ := e22
              replace e21 : f 21 = _ := e21
              try simp only [e22, e21]
              rw [if_pos (by rfl)]
              exact wp_of_quiet (exec_load_at _ _ rfl _ _ rfl _ _ _ (hS.heap HBB.out.1 (fun h => h)) ((.int .i64 (rg))) (by kernel_rfl) (fun _ => by kernel_rfl)) (hK.out _ _ rfl (After.lit rfl rfl rfl (by first | rfl | kernel_rfl)))
            · intro w5 hS hF hD K hK
              obtain ⟨e23, e21, -⟩ := hF
              replace e23 : f 23 = _ := e23
              replace e21 : f 21 = _ := e21
              try simp only [e23, e21]
              rw [if_pos (by rfl)]
              go_simp
              refine hK.out _ _ rfl (After.lit rfl rfl rfl ?_)
              first | rfl | kernel_rfl
            · intro w5 hS hF hD K hK
              obtain ⟨e24, e21, -⟩ := hF
              replace e24 : f 24 = _ := e24
              replace e21 : f 21 = _ := e21
              try simp only [e24, e21]
              rw [if_pos (by rfl)]
              refine wp_of_quiet (v := (.bool true)) (by (show _ = _); kernel_rfl) (hK.out _ _ rfl (After.lit rfl rfl rfl ?_))
              first | rfl | kernel_rfl
            · intro w5 hS hF hD K hK
              obtain ⟨e25, -⟩ := hF
              replace e25 : f 25 = _ := e25
              try simp only [e25]
              rw [if_pos (by rfl)]
              refine wp_of_quiet (v := (.pointer (some ⟨wr.heap.size, 2, none⟩))) (by (show _ = _); kernel_rfl) (hK.out _ _ rfl (After.lit rfl rfl rfl ?_))
              first | rfl | kernel_rfl
            · intro w5 hS hF hD K hK
              obtain ⟨e26, e25, -⟩ := hF
              replace e26 : f 26 = _ := e26
              replace e25 : f 25 = _ := e25
              try simp only [e26, e25]
              rw [if_pos (by rfl)]
              exact wp_of_quiet (exec_load_at _ _ rfl _ _ rfl _ _ _ (hS.heap HBB.out.1 (fun h => h)) ((.int .i64 (rg))) (by kernel_rfl) (fun _ => by kernel_rfl)) (hK.out _ _ rfl (After.lit rfl rfl rfl (by first | rfl | kernel_rfl)))
            · intro w5 hS hF hD K hK
              obtain ⟨e25, -⟩ := hF
              replace e25 : f 25 = _ := e25
              try simp only [e25]
              rw [if_pos (by rfl)]
              refine wp_of_quiet (v := (.pointer (some ⟨W.heap.size, 2, none⟩))) (by (show _ = _); kernel_rfl) (hK.out _ _ rfl (After.lit rfl rfl rfl ?_))
              first | rfl | kernel_rfl
            · intro w5 hS hF hD K hK
              obtain ⟨e28, e25, -⟩ := hF
              replace e28 : f 28 = _ := e28
              replace e25 : f 25 = _ := e25
              try simp only [e28, e25]
              rw [if_pos (by rfl)]
              exact wp_of_quiet (exec_load_at _ _ rfl _ _ rfl _ _ _ (hS.heap HBB.out.2.1 (fun h => h)) ((.int .i64 (yg))) (by kernel_rfl) (fun _ => by kernel_rfl)) (hK.out _ _ rfl (After.lit rfl rfl rfl (by first | rfl | kernel_rfl)))
            · intro w5 hS hF hD K hK
              obtain ⟨e27, e29, e25, -⟩ := hF
              replace e27 : f 27 = _ := e27
              replace e29 : f 29 = _ := e29
              replace e25 : f 25 = _ := e25
              try simp only [e27, e29, e25]
              rw [if_pos (by rfl)]
              go_simp
              refine hK.out _ _ rfl (After.lit rfl rfl rfl ?_)
              first | rfl | kernel_rfl
            · intro w5 hS hF hD K hK
              obtain ⟨e25, e30, e21, -⟩ := hF
              replace e25 : f 25 = _ := e25
              replace e30 : f 30 = _ := e30
              replace e21 : f 21 = _ := e21
              try simp only [e25, e30, e21]
              rw [if_pos (by rfl)]
              refine wp_of_quiet (v := (.bool false)) (by (show _ = _); kernel_rfl) (hK.out _ _ rfl (After.lit rfl rfl rfl ?_))
              first | rfl | kernel_rfl
            · intro w5 hS hF hD K hK
              obtain ⟨e21, e31, -⟩ := hF
              replace e21 : f 21 = _ := e21
              replace e31 : f 31 = _ := e31
              try simp only [e21, e31]
              rw [if_pos (by rfl)]
              refine wp_of_quiet (v := (.bool false)) (by (show _ = _); kernel_rfl) (hK.out _ _ rfl (After.lit rfl rfl rfl ?_))
              first | rfl | kernel_rfl
            · intro w5 hS hF hD K hK
              obtain ⟨e32, e25, -⟩ := hF
              replace e32 : f 32 = _ := e32
              replace e25 : f 25 = _ := e25
              try simp only [e32, e25]
              rw [if_pos (by rfl)]
              refine wp_of_quiet (v := (.bool false)) (by (show _ = _); kernel_rfl) (hK.out _ _ rfl (After.lit rfl rfl rfl ?_))
              first | rfl | kernel_rfl
            · intro w5 hS hF hD K hK
              obtain ⟨e33, -⟩ := hF
              replace e33 : f 33 = _ := e33
              try simp only [e33]
              rw [if_pos (by rfl)]
              refine wp_of_quiet (v := (.pointer (some ⟨wr.heap.size, 5, none⟩))) (by (show _ = _); kernel_rfl) (hK.out _ _ rfl (After.lit rfl rfl rfl ?_))
              first | rfl | kernel_rfl
            · intro w5 hS hF hD K hK
              obtain ⟨e34, e33, -⟩ := hF
              replace e34 : f 34 = _ := e34
              replace e33 : f 33 = _ := e33
              try simp only [e34, e33]
              rw [if_pos (by rfl)]
              exact wp_of_quiet (exec_load_at _ _ rfl _ _ rfl _ _ _ (hS.heap HBB.out.1 (fun h => h)) ((.int .i64 (rn))) (by kernel_rfl) (fun _ => by kernel_rfl)) (hK.out _ _ rfl (After.lit rfl rfl rfl (by first | rfl | kernel_rfl)))
            · intro w5 hS hF hD K hK
              obtain ⟨e33, -⟩ := hF
              replace e33 : f 33 = _ := e33
              try simp only [e33]
              rw [if_pos (by rfl)]
              refine wp_of_quiet (v := (.pointer (some ⟨W.heap.size, 5, none⟩))) (by (show _ = _); kernel_rfl) (hK.out _ _ rfl (After.lit rfl rfl rfl ?_))
              first | rfl | kernel_rfl
            · intro w5 hS hF hD K hK
              obtain ⟨e36, e33, -⟩ := hF
              replace e36 : f 36 = _ := e36
              replace e33 : f 33 = _ := e33
              try simp only [e36, e33]
              rw [if_pos (by rfl)]
              exact wp_of_quiet (exec_load_at _ _ rfl _ _ rfl _ _ _ (hS.heap HBB.out.2.1 (fun h => h)) ((.int .i64 (yn))) (by kernel_rfl) (fun _ => by kernel_rfl)) (hK.out _ _ rfl (After.lit rfl rfl rfl (by first | rfl | kernel_rfl)))
            · intro w5 hS hF hD K hK
              obtain ⟨e35, e37, e33, -⟩ := hF
              replace e35 : f 35 = _ := e35
              replace e37 : f 37 = _ := e37
              replace e33 : f 33 = _ := e33
              try simp only [e35, e37, e33]
              rw [if_pos (by rfl)]
              go_simp
              refine hK.out _ _ rfl (After.lit rfl rfl rfl ?_)
              first | rfl | kernel_rfl
            · intro w5 hS hF hD K hK
              obtain ⟨e33, e38, -⟩ := hF
              replace e33 : f 33 = _ := e33
              replace e38 : f 38 = _ := e38
              try simp only [e33, e38]
              rw [if_pos (by rfl)]
              refine wp_of_quiet (v := (.bool false)) (by (show _ = _); kernel_rfl) (hK.out _ _ rfl (After.lit rfl rfl rfl ?_))
              first | rfl | kernel_rfl
            · intro w5 hS hF hD K hK
              obtain ⟨e39, e33, -⟩ := hF
              replace e39 : f 39 = _ := e39
              replace e33 : f 33 = _ := e33
              try simp only [e39, e33]
              rw [if_pos (by rfl)]
              refine wp_of_quiet (v := (.bool false)) (by (show _ = _); kernel_rfl) (hK.out _ _ rfl (After.lit rfl rfl rfl ?_))
              first | rfl | kernel_rfl
            · intro w5 hS hF hD K hK
              obtain ⟨e40, -⟩ := hF
              replace e40 : f 40 = _ := e40
              try simp only [e40]
              rw [if_pos (by rfl)]
              refine wp_of_quiet (v := (.pointer (some ⟨wr.heap.size, 6, none⟩))) (by (show _ = _); kernel_rfl) (hK.out _ _ rfl (After.lit rfl rfl rfl ?_))
              first | rfl | kernel_rfl
            · intro w5 hS hF hD K hK
              obtain ⟨e41, e40, -⟩ := hF
              replace e41 : f 41 = _ := e41
              replace e40 : f 40 = _ := e40
              try simp only [e41, e40]
              rw [if_pos (by rfl)]
              exact wp_of_quiet (exec_load_at _ _ rfl _ _ rfl _ _ _ (hS.heap HBB.out.1 (fun h => h)) ((.slice am rf.length cm)) (by kernel_rfl) (fun _ => by kernel_rfl)) (hK.out _ _ rfl (After.lit rfl rfl rfl (by first | rfl | kernel_rfl)))
            · intro w5 hS hF hD K hK
              obtain ⟨e42, e40, -⟩ := hF
              replace e42 : f 42 = _ := e42
              replace e40 : f 40 = _ := e40
              try simp only [e42, e40]
              rw [if_pos (by rfl)]
              go_simp
              refine hK.out _ _ rfl (After.lit rfl rfl rfl ?_)
              first | rfl | kernel_rfl
            · intro w5 hS hF hD K hK
              obtain ⟨e40, -⟩ := hF
              replace e40 : f 40 = _ := e40
              try simp only [e40]
              rw [if_pos (by rfl)]
              refine wp_of_quiet (v := (.pointer (some ⟨W.heap.size, 6, none⟩))) (by (show _ = _); kernel_rfl) (hK.out _ _ rfl (After.lit rfl rfl rfl ?_))
              first | rfl | kernel_rfl
            · intro w5 hS hF hD K hK
              obtain ⟨e44, e40, -⟩ := hF
              replace e44 : f 44 = _ := e44
              replace e40 : f 40 = _ := e40
              try simp only [e44, e40]
              rw [if_pos (by rfl)]
              exact wp_of_quiet (exec_load_at _ _ rfl _ _ rfl _ _ _ (hS.heap HBB.out.2.1 (fun h => h)) ((.slice bm yf.length dm)) (by kernel_rfl) (fun _ => by kernel_rfl)) (hK.out _ _ rfl (After.lit rfl rfl rfl (by first | rfl | kernel_rfl)))
            · intro w5 hS hF hD K hK
              obtain ⟨e45, e40, -⟩ := hF
              replace e45 : f 45 = _ := e45
              replace e40 : f 40 = _ := e40
              try simp only [e45, e40]
              rw [if_pos (by rfl)]
              go_simp
              refine hK.out _ _ rfl (After.lit rfl rfl rfl ?_)
              first | rfl | kernel_rfl
            · intro w5 hS hF hD K hK
              obtain ⟨e43, e46, e40, -⟩ := hF
              replace e43 : f 43 = _ := e43
              replace e46 : f 46 = _ := e46
              replace e40 : f 40 = _ := e40
              try simp only [e43, e46, e40]
              rw [if_pos (by rfl)]
              go_simp
              refine hK.out _ _ rfl (After.lit rfl rfl rfl ?_)
              first | rfl | kernel_rfl
            · intro w5 hS hF hD K hK
              obtain ⟨e40, e47, -⟩ := hF
              replace e40 : f 40 = _ := e40
              replace e47 : f 47 = _ := e47
              try simp only [e40, e47]
              rw [if_pos (by rfl)]
              refine wp_of_quiet (v := (.bool false)) (by (show _ = _); kernel_rfl) (hK.out _ _ rfl (After.lit rfl rfl rfl ?_))
              first | rfl | kernel_rfl
            intro w5 hS hF
            obtain ⟨e48, -⟩ := hF
            replace e48 : f 48 = _ := e48
            try simp only [e48]
            simp only [List.drop_succ_cons, List.drop_zero]
            have HS := Lib.hid hS
            clear hS
            go_wp2_with fail
            go_meet
            case rel => exact ⟨rfl, HS⟩
      case rest =>
        obtain ⟨rfl, HT3⟩ := hcut
        have HBB := Lib.hid (And.intro (HT3.out.heap HBB.out.1 (fun h => h)) (And.intro (HT3.out.heap HBB.out.2.1 (fun h => h)) (HT3.out.heap HBB.out.2.2 (fun h => h))))
        clear hcnt hlen hcnt2 hlen2 hp2 he2
        go_upto_region 17 with fail
        by_cases hp : 0 ≤ rp
        · obtain ⟨pn, hpn⟩ := Int.eq_ofNat_of_zero_le hp
          subst hpn
          have hpnn : pn < n := by omega
          obtain ⟨zp, hzp⟩ : ∃ q, rb[pn]? = some q := ⟨rb[pn]'(by have := HL.out.2; omega), List.getElem?_eq_getElem (by have := HL.out.2; omega)⟩
          have HZP := Lib.hid (show ccb[ob + pn * 7]? = some (.int .i64 yp) by obtain ⟨_, _, -, -, -, h4⟩ := rows_row HGB.out.2 hzp; rw [show ob + pn * 7 = ob + pn * 7 + 0 from rfl, h4 0 (by omega)]; show some (Value.int .i64 zp.cls) = _; rw [HGG.out.ptr (by show (0 : Int) ≤ (pn : Int); omega) zp hzp])
          clear hzp
          by_cases he : 0 ≤ re
          · obtain ⟨en, hen⟩ := Int.eq_ofNat_of_zero_le he
            subst hen
            have henn : en < n := by omega
            obtain ⟨ze, hze⟩ : ∃ q, rb[en]? = some q := ⟨rb[en]'(by have := HL.out.2; omega), List.getElem?_eq_getElem (by have := HL.out.2; omega)⟩
            have HZE := Lib.hid (show ccb[ob + en * 7]? = some (.int .i64 ye) by obtain ⟨_, _, -, -, -, h4⟩ := rows_row HGB.out.2 hze; rw [show ob + en * 7 = ob + en * 7 + 0 from rfl, h4 0 (by omega)]; show some (Value.int .i64 ze.cls) = _; rw [HGG.out.elem (by show (0 : Int) ≤ (en : Int); omega) ze hze])
            clear hze
            refine wp_region_relyT [] 30 (factOf [isV ((.pointer (some ⟨wr.heap.size, 3, none⟩))), isV ((.int .i64 (pn : Int))), isV ((.bool true)), isV ((.bool true)), isV ((.pointer (some ⟨W.heap.size, 3, none⟩))), isV ((.int .i64 (yp))), isV ((.slice (some ⟨gb, ob, none⟩) n cb)), isV ((.pointer (some ⟨wr.heap.size, 3, none⟩))), isV ((.int .i64 (pn : Int))), isV ((.pointer (some ⟨gb, ob + pn * 7, none⟩))), isV ((.pointer (some ⟨gb, ob + pn * 7, none⟩))), isV ((.int .i64 (yp))), isV ((.bool false)), isV ((.bool false)), isV ((.bool false)), isV ((.pointer (some ⟨wr.heap.size, 4, none⟩))), isV ((.int .i64 (en : Int))), isV ((.bool true)), isV ((.bool true)), isV ((.pointer (some ⟨W.heap.size, 4, none⟩))), isV ((.int .i64 (ye))), isV ((.slice (some ⟨gb, ob, none⟩) n cb)), isV ((.pointer (some ⟨wr.heap.size, 4, none⟩))), isV ((.int .i64 (en : Int))), isV ((.pointer (some ⟨gb, ob + en * 7, none⟩))), isV ((.pointer (some ⟨gb, ob + en * 7, none⟩))), isV ((.int .i64 (ye))), isV ((.bool false)), isV ((.bool false)), isV ((.bool false))]) (nth [[0], [1], [2], [3], [4], [5], [6], [7], [8], [9], [10], [11], [12], [13], [14], [15], [16], [17], [18], [19], [20], [21], [22], [23], [24], [25], [26], [27], [28], [29]]) (nth [[], [], [], [], [], [], [], [], [], [], [], [], [], [], [], [], [], [], [], [], [], [], [], [], [], [], [], [], [], []]) (nth [[], [0], [1], [2], [3], [4, 3], [3], [3], [7, 3], [6, 8, 3], [9, 3], [10, 3], [5, 11, 3], [3, 12], [13, 3], [14], [15, 14], [16, 14], [17, 14], [18], [19, 18], [18], [18], [22, 18], [21, 23, 18], [24, 18], [25, 18], [20, 26, 18], [18, 27, 14], [14, 28]]) [29] (fun w5 => Turn (fun _ => False) wc w5) (by kernel_rfl) (by kernel_rfl) ((Turn.refl _ _).drew) (fun w w' h hb => h.trans (Turn.ofBelow (bs := fun _ => False) hb) (fun _ _ h => h.elim)) (GrowsAll.of ((GrowsAll.cons (Grows.isV _)  (GrowsAll.cons (Grows.isV _)  (GrowsAll.cons (Grows.isV _)  (GrowsAll.cons (Grows.isV _)  (GrowsAll.cons (Grows.isV _)  (GrowsAll.cons (Grows.isV _)  (GrowsAll.cons (Grows.isV _)  (GrowsAll.cons (Grows.isV _)  (GrowsAll.cons (Grows.isV _)  (GrowsAll.cons (Grows.isV _)  (GrowsAll.cons (Grows.isV _)  (GrowsAll.cons (Grows.isV _)  (GrowsAll.cons (Grows.isV _)  (GrowsAll.cons (Grows.isV _)  (GrowsAll.cons (Grows.isV _)  (GrowsAll.cons (Grows.isV _)  (GrowsAll.cons (Grows.isV _)  (GrowsAll.cons (Grows.isV _)  (GrowsAll.cons (Grows.isV _)  (GrowsAll.cons (Grows.isV _)  (GrowsAll.cons (Grows.isV _)  (GrowsAll.cons (Grows.isV _)  (GrowsAll.cons (Grows.isV _)  (GrowsAll.cons (Grows.isV _)  (GrowsAll.cons (Grows.isV _)  (GrowsAll.cons (Grows.isV _)  (GrowsAll.cons (Grows.isV _)  (GrowsAll.cons (Grows.isV _)  (GrowsAll.cons (Grows.isV _)  (GrowsAll.cons (Grows.isV _) GrowsAll.nil)))))))))))))))))))))))))))))))) (fun f F hF => ?_)
            simp only [List.take_succ_cons, List.take_zero, fullGo, Act.put, List.setIfInBounds_toArray, List.set_cons_zero, List.set_cons_succ, Nat.reduceAdd] at hF
            subst hF
            refine ⟨StepObsF.cons ?_ (StepObsF.cons ?_ (StepObsF.cons ?_ (StepObsF.cons ?_ (StepObsF.cons ?_ (StepObsF.cons ?_ (StepObsF.cons ?_ (StepObsF.cons ?_ (StepObsF.cons ?_ (StepObsF.cons ?_ (StepObsF.cons ?_ (StepObsF.cons ?_ (StepObsF.cons ?_ (StepObsF.cons ?_ (StepObsF.cons ?_ (StepObsF.cons ?_ (StepObsF.cons ?_ (StepObsF.cons ?_ (StepObsF.cons ?_ (StepObsF.cons ?_ (StepObsF.cons ?_ (StepObsF.cons ?_ (StepObsF.cons ?_ (StepObsF.cons ?_ (StepObsF.cons ?_ (StepObsF.cons ?_ (StepObsF.cons ?_ (StepObsF.cons ?_ (StepObsF.cons ?_ (StepObsF.cons ?_ (StepObsF.nil)))))))))))))))))))))))))))))), ?_⟩
            · intro w5 hS hF hD K hK
              rw [if_pos (by rfl)]
              refine wp_of_quiet (v := (.pointer (some ⟨wr.heap.size, 3, none⟩))) (by (show _ = _); kernel_rfl) (hK.out _ _ rfl (After.lit rfl rfl rfl ?_))
              first | rfl | kernel_rfl
            · intro w5 hS hF hD K hK
              obtain ⟨e0, -⟩ := hF
              replace e0 : f 0 = _ := e0
              try simp only [e0]
              rw [if_pos (by rfl)]
              exact wp_of_quiet (exec_load_at _ _ rfl _ _ rfl _ _ _ (hS.heap HBB.out.1 (fun h => h)) ((.int .i64 (pn : Int))) (by kernel_rfl) (fun _ => by kernel_rfl)) (hK.out _ _ rfl (After.lit rfl rfl rfl (by first | rfl | kernel_rfl)))
            · intro w5 hS hF hD K hK
              obtain ⟨e1, -⟩ := hF
              replace e1 : f 1 = _ := e1
              try simp only [e1]
              rw [if_pos (by rfl)]
              go_simp
              refine hK.out _ _ rfl (After.lit rfl rfl rfl ?_)
              first | rfl | kernel_rfl
            · intro w5 hS hF hD K hK
              obtain ⟨e2, -⟩ := hF
              replace e2 : f 2 = _ := e2
              try simp only [e2]
              rw [if_pos (by rfl)]
              refine wp_of_quiet (v := (.bool true)) (by (show _ = _); kernel_rfl) (hK.out _ _ rfl (After.lit rfl rfl rfl ?_))
              first | rfl | kernel_rfl
            · intro w5 hS hF hD K hK
              obtain ⟨e3, -⟩ := hF
              replace e3 : f 3 = _ := e3
              try simp only [e3]
              rw [if_pos (by rfl)]
              refine wp_of_quiet (v := (.pointer (some ⟨W.heap.size, 3, none⟩))) (by (show _ = _); kernel_rfl) (hK.out _ _ rfl (After.lit rfl rfl rfl ?_))
              first | rfl | kernel_rfl
            · intro w5 hS hF hD K hK
              obtain ⟨e4, e3, -⟩ := hF
              replace e4 : f 4 = _ := e4
              replace e3 : f 3 = _ := e3
              try simp only [e4, e3]
              rw [if_pos (by rfl)]
              exact wp_of_quiet (exec_load_at _ _ rfl _ _ rfl _ _ _ (hS.heap HBB.out.2.1 (fun h => h)) ((.int .i64 (yp))) (by kernel_rfl) (fun _ => by kernel_rfl)) (hK.out _ _ rfl (After.lit rfl rfl rfl (by first | rfl | kernel_rfl)))
            · intro w5 hS hF hD K hK
              obtain ⟨e3, -⟩ := hF
              replace e3 : f 3 = _ := e3
              try simp only [e3]
              rw [if_pos (by rfl)]
              refine wp_of_quiet (v := (.slice (some ⟨gb, ob, none⟩) n cb)) (by (show _ = _); kernel_rfl) (hK.out _ _ rfl (After.lit rfl rfl rfl ?_))
              first | rfl | kernel_rfl
            · intro w5 hS hF hD K hK
              obtain ⟨e3, -⟩ := hF
              replace e3 : f 3 = _ := e3
              try simp only [e3]
              rw [if_pos (by rfl)]
              refine wp_of_quiet (v := (.pointer (some ⟨wr.heap.size, 3, none⟩))) (by (show _ = _); kernel_rfl) (hK.out _ _ rfl (After.lit rfl rfl rfl ?_))
              first | rfl | kernel_rfl
            · intro w5 hS hF hD K hK
              obtain ⟨e7, e3, -⟩ := hF
              replace e7 : f 7 = _ := e7
              replace e3 : f 3 = _ := e3
              try simp only [e7, e3]
              rw [if_pos (by rfl)]
              exact wp_of_quiet (exec_load_at _ _ rfl _ _ rfl _ _ _ (hS.heap HBB.out.1 (fun h => h)) ((.int .i64 (pn : Int))) (by kernel_rfl) (fun _ => by kernel_rfl)) (hK.out _ _ rfl (After.lit rfl rfl rfl (by first | rfl | kernel_rfl)))
            · intro w5 hS hF hD K hK
              obtain ⟨e6, e8, e3, -⟩ := hF
              replace e6 : f 6 = _ := e6
              replace e8 : f 8 = _ := e8
              replace e3 : f 3 = _ := e3
              try simp only [e6, e8, e3]
              rw [if_pos (by rfl)]
              go_simp
              refine hK.out _ _ rfl (After.lit rfl rfl rfl ?_)
              first | rfl | kernel_rfl
            · intro w5 hS hF hD K hK
              obtain ⟨e9, e3, -⟩ := hF
              replace e9 : f 9 = _ := e9
              replace e3 : f 3 = _ := e3
              try simp only [e9, e3]
              rw [if_pos (by rfl)]
              refine wp_of_quiet (v := (.pointer (some ⟨gb, ob + pn * 7, none⟩))) (by (show _ = _); kernel_rfl) (hK.out _ _ rfl (After.lit rfl rfl rfl ?_))
              first | rfl | kernel_rfl
            · intro w5 hS hF hD K hK
              obtain ⟨e10, e3, -⟩ := hF
              replace e10 : f 10 = _ := e10
              replace e3 : f 3 = _ := e3
              try simp only [e10, e3]
              rw [if_pos (by rfl)]
              exact wp_of_quiet (exec_load_at _ _ rfl _ _ rfl _ _ _ (hS.heap HBB.out.2.2 (fun h => h)) ((.int .i64 (yp))) (HZP.out) (fun _ => by kernel_rfl)) (hK.out _ _ rfl (After.lit rfl rfl rfl (by first | rfl | kernel_rfl)))
            · intro w5 hS hF hD K hK
              obtain ⟨e5, e11, e3, -⟩ := hF
              replace e5 : f 5 = _ := e5
              replace e11 : f 11 = _ := e11
              replace e3 : f 3 = _ := e3
              try simp only [e5, e11, e3]
              rw [if_pos (by rfl)]
              go_simp
              refine hK.out _ _ rfl (After.lit rfl rfl rfl ?_)
              first | rfl | kernel_rfl
            · intro w5 hS hF hD K hK
              obtain ⟨e3, e12, -⟩ := hF
              replace e3 : f 3 = _ := e3
              replace e12 : f 12 = _ := e12
              try simp only [e3, e12]
              rw [if_pos (by rfl)]
              refine wp_of_quiet (v := (.bool false)) (by (show _ = _); kernel_rfl) (hK.out _ _ rfl (After.lit rfl rfl rfl ?_))
              first | rfl | kernel_rfl
            · intro w5 hS hF hD K hK
              obtain ⟨e13, e3, -⟩ := hF
              replace e13 : f 13 = _ := e13
              replace e3 : f 3 = _ := e3
              try simp only [e13, e3]
              rw [if_pos (by rfl)]
              refine wp_of_quiet (v := (.bool false)) (by (show _ = _); kernel_rfl) (hK.out _ _ rfl (After.lit rfl rfl rfl ?_))
              first | rfl | kernel_rfl
            · intro w5 hS hF hD K hK
              obtain ⟨e14, -⟩ := hF
              replace e14 : f 14 = _ := e14
              try simp only [e14]
              rw [if_pos (by rfl)]
              refine wp_of_quiet (v := (.pointer (some ⟨wr.heap.size, 4, none⟩))) (by (show _ = _); kernel_rfl) (hK.out _ _ rfl (After.lit rfl rfl rfl ?_))
              first | rfl | kernel_rfl
            · intro w5 hS hF hD K hK
              obtain ⟨e15, e14, -⟩ := hF
              replace e15 : f 15 = _ := e15
              replace e14 : f 14 = _ := e14
              try simp only [e15, e14]
              rw [if_pos (by rfl)]
              exact wp_of_quiet (exec_load_at _ _ rfl _ _ rfl _ _ _ (hS.heap HBB.out.1 (fun h => h)) ((.int .i64 (en : Int))) (by kernel_rfl) (fun _ => by kernel_rfl)) (hK.out _ _ rfl (After.lit rfl rfl rfl (by first | rfl | kernel_rfl)))
            · intro w5 hS hF hD K hK
              obtain ⟨e16, e14, -⟩ := hF
              replace e16 : f 16 = _ := e16
              replace e14 : f 14 = _ := e14
              try simp only [e16, e14]
              rw [if_pos (by rfl)]
              go_simp
              refine hK.out _ _ rfl (After.lit rfl rfl rfl ?_)
              first | rfl | kernel_rfl
            · intro w5 hS hF hD K hK
              obtain ⟨e17, e14, -⟩ := hF
              replace e17 : f 17 = _ := e17
              replace e14 : f 14 = _ := e14
              try simp only [e17, e14]
              rw [if_pos (by rfl)]
              refine wp_of_quiet (v := (.bool true)) (by (show _ = _); kernel_rfl) (hK.out _ _ rfl (After.lit rfl rfl rfl ?_))
              first | rfl | kernel_rfl
            · intro w5 hS hF hD K hK
              obtain ⟨e18, -⟩ := hF
              replace e18 : f 18 = _ := e18
              try simp only [e18]
              rw [if_pos (by rfl)]
              refine wp_of_quiet (v := (.pointer (some ⟨W.heap.size, 4, none⟩))) (by (show _ = _); kernel_rfl) (hK.out _ _ rfl (After.lit rfl rfl rfl ?_))
              first | rfl | kernel_rfl
            · intro w5 hS hF hD K hK
              obtain ⟨e19, e18, -⟩ := hF
              replace e19 : f 19 = _ := e19
              replace e18 : f 18 = _ := e18
              try simp only [e19, e18]
              rw [if_pos (by rfl)]
              exact wp_of_quiet (exec_load_at _ _ rfl _ _ rfl _ _ _ (hS.heap HBB.out.2.1 (fun h => h)) ((.int .i64 (ye))) (by kernel_rfl) (fun _ => by kernel_rfl)) (hK.out _ _ rfl (After.lit rfl rfl rfl (by first | rfl | kernel_rfl)))
            · intro w5 hS hF hD K hK
              obtain ⟨e18, -⟩ := hF
              replace e18 : f 18 = _ := e18
              try simp only [e18]
              rw [if_pos (by rfl)]
              refine wp_of_quiet (v := (.slice (some ⟨gb, ob, none⟩) n cb)) (by (show _ = _); kernel_rfl) (hK.out _ _ rfl (After.lit rfl rfl rfl ?_))
              first | rfl | kernel_rfl
            · intro w5 hS hF hD K hK
              obtain ⟨e18, -⟩ := hF
              replace e18 : f 18 = _ := e18
              try simp only [e18]
              rw [if_pos (by rfl)]
              refine wp_of_quiet (v := (.pointer (some ⟨wr.heap.size, 4, none⟩))) (by (show _ = _); kernel_rfl) (hK.out _ _ rfl (After.lit rfl rfl rfl ?_))
              first | rfl | kernel_rfl
            · intro w5 hS hF hD K hK
              obtain ⟨e22, e18, -⟩ := hF
              replace e22 : f 22 = _ := e22
              replace e18 : f 18 = _ := e18
              try simp only [e22, e18]
              rw [if_pos (by rfl)]
              exact wp_of_quiet (exec_load_at _ _ rfl _ _ rfl _ _ _ (hS.heap HBB.out.1 (fun h => h)) ((.int .i64 (en : Int))) (by kernel_rfl) (fun _ => by kernel_rfl)) (hK.out _ _ rfl (After.lit rfl rfl rfl (by first | rfl | kernel_rfl)))
            · intro w5 hS hF hD K hK
              obtain ⟨e21, e23, e18, -⟩ := hF
              replace e21 : f 21 = _ := e21
              replace e23 : f 23 = _ := e23
              replace e18 : f 18 = _ := e18
              try simp only [e21, e23, e18]
              rw [if_pos (by rfl)]
              go_simp
              refine hK.out _ _ rfl (After.lit rfl rfl rfl ?_)
              first | rfl | kernel_rfl
            · intro w5 hS hF hD K hK
              obtain ⟨e24, e18, -⟩ := hF
              replace e24 : f 24 = _ := e24
              replace e18 : f 18 = _ := e18
              try simp only [e24, e18]
              rw [if_pos (by rfl)]
              refine wp_of_quiet (v := (.pointer (some ⟨gb, ob + en * 7, none⟩))) (by (show _ = _); kernel_rfl) (hK.out _ _ rfl (After.lit rfl rfl rfl ?_))
              first | rfl | kernel_rfl
            · intro w5 hS hF hD K hK
              obtain ⟨e25, e18, -⟩ := hF
              replace e25 : f 25 = _ := e25
              replace e18 : f 18 = _ := e18
              try simp only [e25, e18]
              rw [if_pos (by rfl)]
              exact wp_of_quiet (exec_load_at _ _ rfl _ _ rfl _ _ _ (hS.heap HBB.out.2.2 (fun h => h)) ((.int .i64 (ye))) (HZE.out) (fun _ => by kernel_rfl)) (hK.out _ _ rfl (After.lit rfl rfl rfl (by first | rfl | kernel_rfl)))
            · intro w5 hS hF hD K hK
              obtain ⟨e20, e26, e18, -⟩ := hF
              replace e20 : f 20 = _ := e20
              replace e26 : f 26 = _ := e26
              replace e18 : f 18 = _ := e18
              try simp only [e20, e26, e18]
              rw [if_pos (by rfl)]
              go_simp
              refine hK.out _ _ rfl (After.lit rfl rfl rfl ?_)
              first | rfl | kernel_rfl
            · intro w5 hS hF hD K hK
              obtain ⟨e18, e27, e14, -⟩ := hF
              replace e18 : f 18 = _ := e18
              replace e27 : f 27 = _ := e27
              replace e14 : f 14 = _ := e14
              try simp only [e18, e27, e14]
              rw [if_pos (by rfl)]
              refine wp_of_quiet (v := (.bool false)) (by (show _ = _); kernel_rfl) (hK.out _ _ rfl (After.lit rfl rfl rfl ?_))
              first | rfl | kernel_rfl
            · intro w5 hS hF hD K hK
              obtain ⟨e14, e28, -⟩ := hF
              replace e14 : f 14 = _ := e14
              replace e28 : f 28 = _ := e28
              try simp only [e14, e28]
              rw [if_pos (by rfl)]
              refine wp_of_quiet (v := (.bool false)) (by (show _ = _); kernel_rfl) (hK.out _ _ rfl (After.lit rfl rfl rfl ?_))
              first | rfl | kernel_rfl
            intro w5 hS hF
            obtain ⟨e29, -⟩ := hF
            replace e29 : f 29 = _ := e29
            try simp only [e29]
            simp only [List.drop_succ_cons, List.drop_zero]
            have HS := Lib.hid hS
            clear hS
            go_wp2_with fail
            refine ⟨⟨k + 1, by go_num, by omega, Lib.hid ((HT9.out.trans HT2.out (fun _ _ h => h)).trans (HT3.out.trans HS.out (fun _ _ h => h)) (fun _ _ h => h))⟩, by simp [intOf]; omega⟩
          · have he5 : re < 0 := by omega
            have he6 : ¬ (0 ≤ re) := by omega
            clear he
            refine wp_region_relyT [] 30 (factOf [isV ((.pointer (some ⟨wr.heap.size, 3, none⟩))), isV ((.int .i64 (pn : Int))), isV ((.bool true)), isV ((.bool true)), isV ((.pointer (some ⟨W.heap.size, 3, none⟩))), isV ((.int .i64 (yp))), isV ((.slice (some ⟨gb, ob, none⟩) n cb)), isV ((.pointer (some ⟨wr.heap.size, 3, none⟩))), isV ((.int .i64 (pn : Int))), isV ((.pointer (some ⟨gb, ob + pn * 7, none⟩))), isV ((.pointer (some ⟨gb, ob + pn * 7, none⟩))), isV ((.int .i64 (yp))), isV ((.bool false)), isV ((.bool false)), isV ((.bool false)), isV ((.pointer (some ⟨wr.heap.size, 4, none⟩))), isV ((.int .i64 (re))), isV ((.bool false)), isV ((.bool false)), isV undef, isV undef, isV undef, isV undef, isV undef, isV undef, isV undef, isV undef, isV undef, isV ((.bool false)), isV ((.bool false))]) (nth [[0], [1], [2], [3], [4], [5], [6], [7], [8], [9], [10], [11], [12], [13], [14], [15], [16], [17], [18], [19], [20], [21], [22], [23], [24], [25], [26], [27], [28], [29]]) (nth [[], [], [], [], [], [], [], [], [], [], [], [], [], [], [], [], [], [], [], [], [], [], [], [], [], [], [], [], [], []]) (nth [[], [0], [1], [2], [3], [4, 3], [3], [3], [7, 3], [6, 8, 3], [9, 3], [10, 3], [5, 11, 3], [3, 12], [13, 3], [14], [15, 14], [16, 14], [17, 14], [18], [19, 18], [18], [18], [22, 18], [21, 23, 18], [24, 18], [25, 18], [20, 26, 18], [18, 27, 14], [14, 28]]) [29] (fun w5 => Turn (fun _ => False) wc w5) (by kernel_rfl) (by kernel_rfl) ((Turn.refl _ _).drew) (fun w w' h hb => h.trans (Turn.ofBelow (bs := fun _ => False) hb) (fun _ _ h => h.elim)) (GrowsAll.of ((GrowsAll.cons (Grows.isV _)  (GrowsAll.cons (Grows.isV _)  (GrowsAll.cons (Grows.isV _)  (GrowsAll.cons (Grows.isV _)  (GrowsAll.cons (Grows.isV _)  (GrowsAll.cons (Grows.isV _)  (GrowsAll.cons (Grows.isV _)  (GrowsAll.cons (Grows.isV _)  (GrowsAll.cons (Grows.isV _)  (GrowsAll.cons (Grows.isV _)  (GrowsAll.cons (Grows.isV _)  (GrowsAll.cons (Grows.isV _)  (GrowsAll.cons (Grows.isV _)  (GrowsAll.cons (Grows.isV _)  (GrowsAll.cons (Grows.isV _)  (GrowsAll.cons (Grows.isV _)  (GrowsAll.cons (Grows.isV _)  (GrowsAll.cons (Grows.isV _)  (GrowsAll.cons (Grows.isV _)  (GrowsAll.cons (Grows.isV _)  (GrowsAll.cons (Grows.isV _)  (GrowsAll.cons (Grows.isV _)  (GrowsAll.cons (Grows.isV _)  (GrowsAll.cons (Grows.isV _)  (GrowsAll.cons (Grows.isV _)  (GrowsAll.cons (Grows.isV _)  (GrowsAll.cons (Grows.isV _)  (GrowsAll.cons (Grows.isV _)  (GrowsAll.cons (Grows.isV _)  (GrowsAll.cons (Grows.isV _) GrowsAll.nil)))))))))))))))))))))))))))))))) (fun f F hF => ?_)
            simp only [List.take_succ_cons, List.take_zero, fullGo, Act.put, List.setIfInBounds_toArray, List.set_cons_zero, List.set_cons_succ, Nat.reduceAdd] at hF
            subst hF
            refine ⟨StepObsF.cons ?_ (StepObsF.cons ?_ (StepObsF.cons ?_ (StepObsF.cons ?_ (StepObsF.cons ?_ (StepObsF.cons ?_ (StepObsF.cons ?_ (StepObsF.cons ?_ (StepObsF.cons ?_ (StepObsF.cons ?_ (StepObsF.cons ?_ (StepObsF.cons ?_ (StepObsF.cons ?_ (StepObsF.cons ?_ (StepObsF.cons ?_ (StepObsF.cons ?_ (StepObsF.cons ?_ (StepObsF.cons ?_ (StepObsF.cons ?_ (StepObsF.cons ?_ (StepObsF.cons ?_ (StepObsF.cons ?_ (StepObsF.cons ?_ (StepObsF.cons ?_ (StepObsF.cons ?_ (StepObsF.cons ?_ (StepObsF.cons ?_ (StepObsF.cons ?_ (StepObsF.cons ?_ (StepObsF.cons ?_ (StepObsF.nil)))))))))))))))))))))))))))))), ?_⟩
            · intro w5 hS hF hD K hK
              rw [if_pos (by rfl)]
              refine wp_of_quiet (v := (.pointer (some ⟨wr.heap.size, 3, none⟩))) (by (show _ = _); kernel_rfl) (hK.out _ _ rfl (After.lit rfl rfl rfl ?_))
              first | rfl | kernel_rfl
            · intro w5 hS hF hD K hK
              obtain ⟨e0, -⟩ := hF
              replace e0 : f 0 = _ := e0
              try simp only [e0]
              rw [if_pos (by rfl)]
              exact wp_of_quiet (exec_load_at _ _ rfl _ _ rfl _ _ _ (hS.heap HBB.out.1 (fun h => h)) ((.int .i64 (pn : Int))) (by kernel_rfl) (fun _ => by kernel_rfl)) (hK.out _ _ rfl (After.lit rfl rfl rfl (by first | rfl | kernel_rfl)))
            · intro w5 hS hF hD K hK
              obtain ⟨e1, -⟩ := hF
              replace e1 : f 1 = _ := e1
              try simp only [e1]
              rw [if_pos (by rfl)]
              go_simp
              refine hK.out _ _ rfl (After.lit rfl rfl rfl ?_)
              first | rfl | kernel_rfl
            · intro w5 hS hF hD K hK
              obtain ⟨e2, -⟩ := hF
              replace e2 : f 2 = _ := e2
              try simp only [e2]
              rw [if_pos (by rfl)]
              refine wp_of_quiet (v := (.bool true)) (by (show _ = _); kernel_rfl) (hK.out _ _ rfl (After.lit rfl rfl rfl ?_))
              first | rfl | kernel_rfl
            · intro w5 hS hF hD K hK
              obtain ⟨e3, -⟩ := hF
              replace e3 : f 3 = _ := e3
              try simp only [e3]
              rw [if_pos (by rfl)]
              refine wp_of_quiet (v := (.pointer (some ⟨W.heap.size, 3, none⟩))) (by (show _ = _); kernel_rfl) (hK.out _ _ rfl (After.lit rfl rfl rfl ?_))
              first | rfl | kernel_rfl
            · intro w5 hS hF hD K hK
              obtain ⟨e4, e3, -⟩ := hF
              replace e4 : f 4 = _ := e4
              replace e3 : f 3 = _ := e3
              try simp only [e4, e3]
              rw [if_pos (by rfl)]
              exact wp_of_quiet (exec_load_at _ _ rfl _ _ rfl _ _ _ (hS.heap HBB.out.2.1 (fun h => h)) ((.int .i64 (yp))) (by kernel_rfl) (fun _ => by kernel_rfl)) (hK.out _ _ rfl (After.lit rfl rfl rfl (by first | rfl | kernel_rfl)))
            · intro w5 hS hF hD K hK
              obtain ⟨e3, -⟩ := hF
              replace e3 : f 3 = _ := e3
              try simp only [e3]
              rw [if_pos (by rfl)]
              refine wp_of_quiet (v := (.slice (some ⟨gb, ob, none⟩) n cb)) (by (show _ = _); kernel_rfl) (hK.out _ _ rfl (After.lit rfl rfl rfl ?_))
              first | rfl | kernel_rfl
            · intro w5 hS hF hD K hK
              obtain ⟨e3, -⟩ := hF
              replace e3 : f 3 = _ := e3
              try simp only [e3]
              rw [if_pos (by rfl)]
              refine wp_of_quiet (v := (.pointer (some ⟨wr.heap.size, 3, none⟩))) (by (show _ = _); kernel_rfl) (hK.out _ _ rfl (After.lit rfl rfl rfl ?_))
              first | rfl | kernel_rfl
            · intro w5 hS hF hD K hK
              obtain ⟨e7, e3, -⟩ := hF
              replace e7 : f 7 = _ := e7
              replace e3 : f 3 = _ := e3
              try simp only [e7, e3]
              rw [if_pos (by rfl)]
              exact wp_of_quiet (exec_load_at _ _ rfl _ _ rfl _ _ _ (hS.heap HBB.out.1 (fun h => h)) ((.int .i64 (pn : Int))) (by kernel_rfl) (fun _ => by kernel_rfl)) (hK.out _ _ rfl (After.lit rfl rfl rfl (by first | rfl | kernel_rfl)))
            · intro w5 hS hF hD K hK
              obtain ⟨e6, e8, e3, -⟩ := hF
              replace e6 : f 6 = _ := e6
              replace e8 : f 8 = _ := e8
              replace e3 : f 3 = _ := e3
              try simp only [e6, e8, e3]
              rw [if_pos (by rfl)]
              go_simp
              refine hK.out _ _ rfl (After.lit rfl rfl rfl ?_)
              first | rfl | kernel_rfl
            · intro w5 hS hF hD K hK
              obtain ⟨e9, e3, -⟩ := hF
              replace e9 : f 9 = _ := e9
              replace e3 : f 3 = _ := e3
              try simp only [e9, e3]
              rw [if_pos (by rfl)]
              refine wp_of_quiet (v := (.pointer (some ⟨gb, ob + pn * 7, none⟩))) (by (show _ = _); kernel_rfl) (hK.out _ _ rfl (After.lit rfl rfl rfl ?_))
              first | rfl | kernel_rfl
            · intro w5 hS hF hD K hK
              obtain ⟨e10, e3, -⟩ := hF
              replace e10 : f 10 = _ := e10
              replace e3 : f 3 = _ := e3
              try simp only [e10, e3]
              rw [if_pos (by rfl)]
              exact wp_of_quiet (exec_load_at _ _ rfl _ _ rfl _ _ _ (hS.heap HBB.out.2.2 (fun h => h)) ((.int .i64 (yp))) (HZP.out) (fun _ => by kernel_rfl)) (hK.out _ _ rfl (After.lit rfl rfl rfl (by first | rfl | kernel_rfl)))
            · intro w5 hS hF hD K hK
              obtain ⟨e5, e11, e3, -⟩ := hF
              replace e5 : f 5 = _ := e5
              replace e11 : f 11 = _ := e11
              replace e3 : f 3 = _ := e3
              try simp only [e5, e11, e3]
              rw [if_pos (by rfl)]
              go_simp
              refine hK.out _ _ rfl (After.lit rfl rfl rfl ?_)
              first | rfl | kernel_rfl
            · intro w5 hS hF hD K hK
              obtain ⟨e3, e12, -⟩ := hF
              replace e3 : f 3 = _ := e3
              replace e12 : f 12 = _ := e12
              try simp only [e3, e12]
              rw [if_pos (by rfl)]
              refine wp_of_quiet (v := (.bool false)) (by (show _ = _); kernel_rfl) (hK.out _ _ rfl (After.lit rfl rfl rfl ?_))
              first | rfl | kernel_rfl
            · intro w5 hS hF hD K hK
              obtain ⟨e13, e3, -⟩ := hF
              replace e13 : f 13 = _ := e13
              replace e3 : f 3 = _ := e3
              try simp only [e13, e3]
              rw [if_pos (by rfl)]
              refine wp_of_quiet (v := (.bool false)) (by (show _ = _); kernel_rfl) (hK.out _ _ rfl (After.lit rfl rfl rfl ?_))
              first | rfl | kernel_rfl
            · intro w5 hS hF hD K hK
              obtain ⟨e14, -⟩ := hF
              replace e14 : f 14 = _ := e14
              try simp only [e14]
              rw [if_pos (by rfl)]
              refine wp_of_quiet (v := (.pointer (some ⟨wr.heap.size, 4, none⟩))) (by (show _ = _); kernel_rfl) (hK.out _ _ rfl (After.lit rfl rfl rfl ?_))
              first | rfl | kernel_rfl
            · intro w5 hS hF hD K hK
              obtain ⟨e15, e14, -⟩ := hF
              replace e15 : f 15 = _ := e15
              replace e14 : f 14 = _ := e14
              try simp only [e15, e14]
              rw [if_pos (by rfl)]
              exact wp_of_quiet (exec_load_at _ _ rfl _ _ rfl _ _ _ (hS.heap HBB.out.1 (fun h => h)) ((.int .i64 (re))) (by kernel_rfl) (fun _ => by kernel_rfl)) (hK.out _ _ rfl (After.lit rfl rfl rfl (by first | rfl | kernel_rfl)))
            · intro w5 hS hF hD K hK
              obtain ⟨e16, e14, -⟩ := hF
              replace e16 : f 16 = _ := e16
              replace e14 : f 14 = _ := e14
              try simp only [e16, e14]
              rw [if_pos (by rfl)]
              go_simp
              refine hK.out _ _ rfl (After.lit rfl rfl rfl ?_)
              first | rfl | kernel_rfl
            · intro w5 hS hF hD K hK
              obtain ⟨e17, e14, -⟩ := hF
              replace e17 : f 17 = _ := e17
              replace e14 : f 14 = _ := e14
              try simp only [e17, e14]
              rw [if_pos (by rfl)]
              refine wp_of_quiet (v := (.bool false)) (by (show _ = _); kernel_rfl) (hK.out _ _ rfl (After.lit rfl rfl rfl ?_))
              first | rfl | kernel_rfl
            · intro w5 hS hF hD K hK
              obtain ⟨e18, -⟩ := hF
              replace e18 : f 18 = _ := e18
              try simp only [e18]
              rw [if_neg (by (show ¬ (false = true)); exact Bool.false_ne_true)]
              exact hK.out _ _ rfl (After.lit rfl rfl rfl (by first | rfl | kernel_rfl))
            · intro w5 hS hF hD K hK
              obtain ⟨e19, e18, -⟩ := hF
              replace e19 : f 19 = _ := e19
              replace e18 : f 18 = _ := e18
              try simp only [e19, e18]
              rw [if_neg (by (show ¬ (false = true)); exact Bool.false_ne_true)]
              exact hK.out _ _ rfl (After.lit rfl rfl rfl (by first | rfl | kernel_rfl))
            · intro w5 hS hF hD K hK
              obtain ⟨e18, -⟩ := hF
              replace e18 : f 18 = _ := e18
              try simp only [e18]
              rw [if_neg (by (show ¬ (false = true)); exact Bool.false_ne_true)]
              exact hK.out _ _ rfl (After.lit rfl rfl rfl (by first | rfl | kernel_rfl))
            · intro w5 hS hF hD K hK
              obtain ⟨e18, -⟩ := hF
              replace e18 : f 18 = _ := e18
              try simp only [e18]
              rw [if_neg (by (show ¬ (false = true)); exact Bool.false_ne_true)]
              exact hK.out _ _ rfl (After.lit rfl rfl rfl (by first | rfl | kernel_rfl))
            · intro w5 hS hF hD K hK
              obtain ⟨e22, e18, -⟩ := hF
              replace e22 : f 22 = _ := e22
              replace e18 : f 18 = _ := e18
              try simp only [e22, e18]
              rw [if_neg (by (show ¬ (false = true)); exact Bool.false_ne_true)]
              exact hK.out _ _ rfl (After.lit rfl rfl rfl (by first | rfl | kernel_rfl))
            · intro w5 hS hF hD K hK
              obtain ⟨e21, e23, e18, -⟩ := hF
              replace e21 : f 21 = _ := e21
              replace e23 : f 23 = _ := e23
              replace e18 : f 18 = _ := e18
              try simp only [e21, e23, e18]
              rw [if_neg (by (show ¬ (false = true)); exact Bool.false_ne_true)]
              exact hK.out _ _ rfl (After.lit rfl rfl rfl (by first | rfl | kernel_rfl))
            · intro w5 hS hF hD K hK
              obtain ⟨e24, e18, -⟩ := hF
              replace e24 : f 24 = _ := e24
              replace e18 : f 18 = _ := e18
              try simp only [e24, e18]
              rw [if_neg (by (show ¬ (false = true)); exact Bool.false_ne_true)]
              exact hK.out _ _ rfl (After.lit rfl rfl rfl (by first | rfl | kernel_rfl))
            · intro w5 hS hF hD K hK
              obtain ⟨e25, e18, -⟩ := hF
              replace e25 : f 25 = _ := e25
              replace e18 : f 18 = _ := e18
              try simp only [e25, e18]
              rw [if_neg (by (show ¬ (false = true)); exact Bool.false_ne_true)]
              exact hK.out _ _ rfl (After.lit rfl rfl rfl (by first | rfl | kernel_rfl))
            · intro w5 hS hF hD K hK
              obtain ⟨e20, e26, e18, -⟩ := hF
              replace e20 : f 20 = _ := e20
              replace e26 : f 26 = _ := e26
              replace e18 : f 18 = _ := e18
              try simp only [e20, e26, e18]
              rw [if_neg (by (show ¬ (false = true)); exact Bool.false_ne_true)]
              exact hK.out _ _ rfl (After.lit rfl rfl rfl (by first | rfl | kernel_rfl))
            · intro w5 hS hF hD K hK
              obtain ⟨e18, e27, e14, -⟩ := hF
              replace e18 : f 18 = _ := e18
              replace e27 : f 27 = _ := e27
              replace e14 : f 14 = _ := e14
              try simp only [e18, e27, e14]
              rw [if_pos (by rfl)]
              refine wp_of_quiet (v := (.bool false)) (by (show _ = _); kernel_rfl) (hK.out _ _ rfl (After.lit rfl rfl rfl ?_))
              first | rfl | kernel_rfl
            · intro w5 hS hF hD K hK
              obtain ⟨e14, e28, -⟩ := hF
              replace e14 : f 14 = _ := e14
              replace e28 : f 28 = _ := e28
              try simp only [e14, e28]
              rw [if_pos (by rfl)]
              refine wp_of_quiet (v := (.bool false)) (by (show _ = _); kernel_rfl) (hK.out _ _ rfl (After.lit rfl rfl rfl ?_))
              first | rfl | kernel_rfl
            intro w5 hS hF
            obtain ⟨e29, -⟩ := hF
            replace e29 : f 29 = _ := e29
            try simp only [e29]
            simp only [List.drop_succ_cons, List.drop_zero]
            have HS := Lib.hid hS
            clear hS
            go_wp2_with fail
            refine ⟨⟨k + 1, by go_num, by omega, Lib.hid ((HT9.out.trans HT2.out (fun _ _ h => h)).trans (HT3.out.trans HS.out (fun _ _ h => h)) (fun _ _ h => h))⟩, by simp [intOf]; omega⟩
        · have hp5 : rp < 0 := by omega
          have hp6 : ¬ (0 ≤ rp) := by omega
          clear hp
          by_cases he : 0 ≤ re
          · obtain ⟨en, hen⟩ := Int.eq_ofNat_of_zero_le he
            subst hen
            have henn : en < n := by omega
            obtain ⟨ze, hze⟩ : ∃ q, rb[en]? = some q := ⟨rb[en]'(by have := HL.out.2; omega), List.getElem?_eq_getElem (by have := HL.out.2; omega)⟩
            have HZE := Lib.hid (show ccb[ob + en * 7]? = some (.int .i64 ye) by obtain ⟨_, _, -, -, -, h4⟩ := rows_row HGB.out.2 hze; rw [show ob + en * 7 = ob + en * 7 + 0 from rfl, h4 0 (by omega)]; show some (Value.int .i64 ze.cls) = _; rw [HGG.out.elem (by show (0 : Int) ≤ (en : Int); omega) ze hze])
            clear hze
            refine wp_region_relyT [] 30 (factOf [isV ((.pointer (some ⟨wr.heap.size, 3, none⟩))), isV ((.int .i64 (rp))), isV ((.bool false)), isV ((.bool false)), isV undef, isV undef, isV undef, isV undef, isV undef, isV undef, isV undef, isV undef, isV undef, isV ((.bool false)), isV ((.bool false)), isV ((.pointer (some ⟨wr.heap.size, 4, none⟩))), isV ((.int .i64 (en : Int))), isV ((.bool true)), isV ((.bool true)), isV ((.pointer (some ⟨W.heap.size, 4, none⟩))), isV ((.int .i64 (ye))), isV ((.slice (some ⟨gb, ob, none⟩) n cb)), isV ((.pointer (some ⟨wr.heap.size, 4, none⟩))), isV ((.int .i64 (en : Int))), isV ((.pointer (some ⟨gb, ob + en * 7, none⟩))), isV ((.pointer (some ⟨gb, ob + en * 7, none⟩))), isV ((.int .i64 (ye))), isV ((.bool false)), isV ((.bool false)), isV ((.bool false))]) (nth [[0], [1], [2], [3], [4], [5], [6], [7], [8], [9], [10], [11], [12], [13], [14], [15], [16], [17], [18], [19], [20], [21], [22], [23], [24], [25], [26], [27], [28], [29]]) (nth [[], [], [], [], [], [], [], [], [], [], [], [], [], [], [], [], [], [], [], [], [], [], [], [], [], [], [], [], [], []]) (nth [[], [0], [1], [2], [3], [4, 3], [3], [3], [7, 3], [6, 8, 3], [9, 3], [10, 3], [5, 11, 3], [3, 12], [13, 3], [14], [15, 14], [16, 14], [17, 14], [18], [19, 18], [18], [18], [22, 18], [21, 23, 18], [24, 18], [25, 18], [20, 26, 18], [18, 27, 14], [14, 28]]) [29] (fun w5 => Turn (fun _ => False) wc w5) (by kernel_rfl) (by kernel_rfl) ((Turn.refl _ _).drew) (fun w w' h hb => h.trans (Turn.ofBelow (bs := fun _ => False) hb) (fun _ _ h => h.elim)) (GrowsAll.of ((GrowsAll.cons (Grows.isV _)  (GrowsAll.cons (Grows.isV _)  (GrowsAll.cons (Grows.isV _)  (GrowsAll.cons (Grows.isV _)  (GrowsAll.cons (Grows.isV _)  (GrowsAll.cons (Grows.isV _)  (GrowsAll.cons (Grows.isV _)  (GrowsAll.cons (Grows.isV _)  (GrowsAll.cons (Grows.isV _)  (GrowsAll.cons (Grows.isV _)  (GrowsAll.cons (Grows.isV _)  (GrowsAll.cons (Grows.isV _)  (GrowsAll.cons (Grows.isV _)  (GrowsAll.cons (Grows.isV _)  (GrowsAll.cons (Grows.isV _)  (GrowsAll.cons (Grows.isV _)  (GrowsAll.cons (Grows.isV _)  (GrowsAll.cons (Grows.isV _)  (GrowsAll.cons (Grows.isV _)  (GrowsAll.cons (Grows.isV _)  (GrowsAll.cons (Grows.isV _)  (GrowsAll.cons (Grows.isV _)  (GrowsAll.cons (Grows.isV _)  (GrowsAll.cons (Grows.isV _)  (GrowsAll.cons (Grows.isV _)  (GrowsAll.cons (Grows.isV _)  (GrowsAll.cons (Grows.isV _)  (GrowsAll.cons (Grows.isV _)  (GrowsAll.cons (Grows.isV _)  (GrowsAll.cons (Grows.isV _) GrowsAll.nil)))))))))))))))))))))))))))))))) (fun f F hF => ?_)
            simp only [List.take_succ_cons, List.take_zero, fullGo, Act.put, List.setIfInBounds_toArray, List.set_cons_zero, List.set_cons_succ, Nat.reduceAdd] at hF
            subst hF
            refine ⟨StepObsF.cons ?_ (StepObsF.cons ?_ (StepObsF.cons ?_ (StepObsF.cons ?_ (StepObsF.cons ?_ (StepObsF.cons ?_ (StepObsF.cons ?_ (StepObsF.cons ?_ (StepObsF.cons ?_ (StepObsF.cons ?_ (StepObsF.cons ?_ (StepObsF.cons ?_ (StepObsF.cons ?_ (StepObsF.cons ?_ (StepObsF.cons ?_ (StepObsF.cons ?_ (StepObsF.cons ?_ (StepObsF.cons ?_ (StepObsF.cons ?_ (StepObsF.cons ?_ (StepObsF.cons ?_ (StepObsF.cons ?_ (StepObsF.cons ?_ (StepObsF.cons ?_ (StepObsF.cons ?_ (StepObsF.cons ?_ (StepObsF.cons ?_ (StepObsF.cons ?_ (StepObsF.cons ?_ (StepObsF.cons ?_ (StepObsF.nil)))))))))))))))))))))))))))))), ?_⟩
            · intro w5 hS hF hD K hK
              rw [if_pos (by rfl)]
              refine wp_of_quiet (v := (.pointer (some ⟨wr.heap.size, 3, none⟩))) (by (show _ = _); kernel_rfl) (hK.out _ _ rfl (After.lit rfl rfl rfl ?_))
              first | rfl | kernel_rfl
            · intro w5 hS hF hD K hK
              obtain ⟨e0, -⟩ := hF
              replace e0 : f 0 = _ := e0
              try simp only [e0]
              rw [if_pos (by rfl)]
              exact wp_of_quiet (exec_load_at _ _ rfl _ _ rfl _ _ _ (hS.heap HBB.out.1 (fun h => h)) ((.int .i64 (rp))) (by kernel_rfl) (fun _ => by kernel_rfl)) (hK.out _ _ rfl (After.lit rfl rfl rfl (by first | rfl | kernel_rfl)))
            · intro w5 hS hF hD K hK
              obtain ⟨e1, -⟩ := hF
              replace e1 : f 1 = _ := e1
              try simp only [e1]
              rw [if_pos (by rfl)]
              go_simp
              refine hK.out _ _ rfl (After.lit rfl rfl rfl ?_)
              first | rfl | kernel_rfl
            · intro w5 hS hF hD K hK
              obtain ⟨e2, -⟩ := hF
              replace e2 : f 2 = _ := e2
              try simp only [e2]
              rw [if_pos (by rfl)]
              refine wp_of_quiet (v := (.bool false)) (by (show _ = _); kernel_rfl) (hK.out _ _ rfl (After.lit rfl rfl rfl ?_))
              first | rfl | kernel_rfl
            · intro w5 hS hF hD K hK
              obtain ⟨e3, -⟩ := hF
              replace e3 : f 3 = _ := e3
              try simp only [e3]
              rw [if_neg (by (show ¬ (false = true)); exact Bool.false_ne_true)]
              exact hK.out _ _ rfl (After.lit rfl rfl rfl (by first | rfl | kernel_rfl))
            · intro w5 hS hF hD K hK
              obtain ⟨e4, e3, -⟩ := hF
              replace e4 : f 4 = _ := e4
              replace e3 : f 3 = _ := e3
              try simp only [e4, e3]
              rw [if_neg (by (show ¬ (false = true)); exact Bool.false_ne_true)]
              exact hK.out _ _ rfl (After.lit rfl rfl rfl (by first | rfl | kernel_rfl))
            · intro w5 hS hF hD K hK
              obtain ⟨e3, -⟩ := hF
              replace e3 : f 3 = _ := e3
              try simp only [e3]
              rw [if_neg (by (show ¬ (false = true)); exact Bool.false_ne_true)]
              exact hK.out _ _ rfl (After.lit rfl rfl rfl (by first | rfl | kernel_rfl))
            · intro w5 hS hF hD K hK
              obtain ⟨e3, -⟩ := hF
              replace e3 : f 3 = _ := e3
              try simp only [e3]
              rw [if_neg (by (show ¬ (false = true)); exact Bool.false_ne_true)]
              exact hK.out _ _ rfl (After.lit rfl rfl rfl (by first | rfl | kernel_rfl))
            · intro w5 hS hF hD K hK
              obtain ⟨e7, e3, -⟩ := hF
              replace e7 : f 7 = _ := e7
              replace e3 : f 3 = _ := e3
              try simp only [e7, e3]
              rw [if_neg (by (show ¬ (false = true)); exact Bool.false_ne_true)]
              exact hK.out _ _ rfl (After.lit rfl rfl rfl (by first | rfl | kernel_rfl))
            · intro w5 hS hF hD K hK
              obtain ⟨e6, e8, e3, -⟩ := hF
              replace e6 : f 6 = _ := e6
              replace e8 : f 8 = _ := e8
              replace e3 : f 3 = _ := e3
              try simp only [e6, e8, e3]
              rw [if_neg (by (show ¬ (false = true)); exact Bool.false_ne_true)]
              exact hK.out _ _ rfl (After.lit rfl rfl rfl (by first | rfl | kernel_rfl))
            · intro w5 hS hF hD K hK
              obtain ⟨e9, e3, -⟩ := hF
              replace e9 : f 9 = _ := e9
              replace e3 : f 3 = _ := e3
              try simp only [e9, e3]
              rw [if_neg (by (show ¬ (false = true)); exact Bool.false_ne_true)]
              exact hK.out _ _ rfl (After.lit rfl rfl rfl (by first | rfl | kernel_rfl))
            · intro w5 hS hF hD K hK
              obtain ⟨e10, e3, -⟩ := hF
              replace e10 : f 10 = _ := e10
              replace e3 : f 3 = _ := e3
              try simp only [e10, e3]
              rw [if_neg (by (show ¬ (false = true)); exact Bool.false_ne_true)]
              exact hK.out _ _ rfl (After.lit rfl rfl rfl (by first | rfl | kernel_rfl))
            · intro w5 hS hF hD K hK
              obtain ⟨e5, e11, e3, -⟩ := hF
              replace e5 : f 5 = _ := e5
              replace e11 : f 11 = _ := e11
              replace e3 : f 3 = _ := e3
              try simp only [e5, e11, e3]
              rw [if_neg (by (show ¬ (false = true)); exact Bool.false_ne_true)]
              exact hK.out _ _ rfl (After.lit rfl rfl rfl (by first | rfl | kernel_rfl))
            · intro w5 hS hF hD K hK
              obtain ⟨e3, e12, -⟩ := hF
              replace e3 : f 3 = _ := e3
              replace e12 : f 12 = _ := e12
              try simp only [e3, e12]
              rw [if_pos (by rfl)]
              refine wp_of_quiet (v := (.bool false)) (by (show _ = _); kernel_rfl) (hK.out _ _ rfl (After.lit rfl rfl rfl ?_))
              first | rfl | kernel_rfl
            · intro w5 hS hF hD K hK
              obtain ⟨e13, e3, -⟩ := hF
              replace e13 : f 13 = _ := e13
              replace e3 : f 3 = _ := e3
              try simp only [e13, e3]
              rw [if_pos (by rfl)]
              refine wp_of_quiet (v := (.bool false)) (by (show _ = _); kernel_rfl) (hK.out _ _ rfl (After.lit rfl rfl rfl ?_))
              first | rfl | kernel_rfl
            · intro w5 hS hF hD K hK
              obtain ⟨e14, -⟩ := hF
              replace e14 : f 14 = _ := e14
              try simp only [e14]
              rw [if_pos (by rfl)]
              refine wp_of_quiet (v := (.pointer (some ⟨wr.heap.size, 4, none⟩))) (by (show _ = _); kernel_rfl) (hK.out _ _ rfl (After.lit rfl rfl rfl ?_))
              first | rfl | kernel_rfl
            · intro w5 hS hF hD K hK
              obtain ⟨e15, e14, -⟩ := hF
              replace e15 : f 15 = _ := e15
              replace e14 : f 14 = _ := e14
              try simp only [e15, e14]
              rw [if_pos (by rfl)]
              exact wp_of_quiet (exec_load_at _ _ rfl _ _ rfl _ _ _ (hS.heap HBB.out.1 (fun h => h)) ((.int .i64 (en : Int))) (by kernel_rfl) (fun _ => by kernel_rfl)) (hK.out _ _ rfl (After.lit rfl rfl rfl (by first | rfl | kernel_rfl)))
            · intro w5 hS hF hD K hK
              obtain ⟨e16, e14, -⟩ := hF
              replace e16 : f 16 = _ := e16
              replace e14 : f 14 = _ := e14
              try simp only [e16, e14]
              rw [if_pos (by rfl)]
              go_simp
              refine hK.out _ _ rfl (After.lit rfl rfl rfl ?_)
              first | rfl | kernel_rfl
            · intro w5 hS hF hD K hK
              obtain ⟨e17, e14, -⟩ := hF
              replace e17 : f 17 = _ := e17
              replace e14 : f 14 = _ := e14
              try simp only [e17, e14]
              rw [if_pos (by rfl)]
              refine wp_of_quiet (v := (.bool true)) (by (show _ = _); kernel_rfl) (hK.out _ _ rfl (After.lit rfl rfl rfl ?_))
              first | rfl | kernel_rfl
            · intro w5 hS hF hD K hK
              obtain ⟨e18, -⟩ := hF
              replace e18 : f 18 = _ := e18
              try simp only [e18]
              rw [if_pos (by rfl)]
              refine wp_of_quiet (v := (.pointer (some ⟨W.heap.size, 4, none⟩))) (by (show _ = _); kernel_rfl) (hK.out _ _ rfl (After.lit rfl rfl rfl ?_))
              first | rfl | kernel_rfl
            · intro w5 hS hF hD K hK
              obtain ⟨e19, e18, -⟩ := hF
              replace e19 : f 19 = _ := e19
              replace e18 : f 18 = _ := e18
              try simp only [e19, e18]
              rw [if_pos (by rfl)]
              exact wp_of_quiet (exec_load_at _ _ rfl _ _ rfl _ _ _ (hS.heap HBB.out.2.1 (fun h => h)) ((.int .i64 (ye))) (by kernel_rfl) (fun _ => by kernel_rfl)) (hK.out _ _ rfl (After.lit rfl rfl rfl (by first | rfl | kernel_rfl)))
            · intro w5 hS hF hD K hK
              obtain ⟨e18, -⟩ := hF
              replace e18 : f 18 = _ := e18
              try simp only [e18]
              rw [if_pos (by rfl)]
              refine wp_of_quiet (v := (.slice (some ⟨gb, ob, none⟩) n cb)) (by (show _ = _); kernel_rfl) (hK.out _ _ rfl (After.lit rfl rfl rfl ?_))
              first | rfl | kernel_rfl
            · intro w5 hS hF hD K hK
              obtain ⟨e18, -⟩ := hF
              replace e18 : f 18 = _ := e18
              try simp only [e18]
              rw [if_pos (by rfl)]
              refine wp_of_quiet (v := (.pointer (some ⟨wr.heap.size, 4, none⟩))) (by (show _ = _); kernel_rfl) (hK.out _ _ rfl (After.lit rfl rfl rfl ?_))
              first | rfl | kernel_rfl
            · intro w5 hS hF hD K hK
              obtain ⟨e22, e18, -⟩ := hF
              replace e22 : f 22 = _ := e22
              replace e18 : f 18 = _ := e18
              try simp only [e22, e18]
              rw [if_pos (by rfl)]
              exact wp_of_quiet (exec_load_at _ _ rfl _ _ rfl _ _ _ (hS.heap HBB.out.1 (fun h => h)) ((.int .i64 (en : Int))) (by kernel_rfl) (fun _ => by kernel_rfl)) (hK.out _ _ rfl (After.lit rfl rfl rfl (by first | rfl | kernel_rfl)))
            · intro w5 hS hF hD K hK
              obtain ⟨e21, e23, e18, -⟩ := hF
              replace e21 : f 21 = _ := e21
              replace e23 : f 23 = _ := e23
              replace e18 : f 18 = _ := e18
              try simp only [e21, e23, e18]
              rw [if_pos (by rfl)]
              go_simp
              refine hK.out _ _ rfl (After.lit rfl rfl rfl ?_)
              first | rfl | kernel_rfl
            · intro w5 hS hF hD K hK
              obtain ⟨e24, e18, -⟩ := hF
              replace e24 : f 24 = _ := e24
              replace e18 : f 18 = _ := e18
              try simp only [e24, e18]
              rw [if_pos (by rfl)]
              refine wp_of_quiet (v := (.pointer (some ⟨gb, ob + en * 7, none⟩))) (by (show _ = _); kernel_rfl) (hK.out _ _ rfl (After.lit rfl rfl rfl ?_))
              first | rfl | kernel_rfl
            · intro w5 hS hF hD K hK
              obtain ⟨e25, e18, -⟩ := hF
              replace e25 : f 25 = _ := e25
              replace e18 : f 18 = _ := e18
              try simp only [e25, e18]
              rw [if_pos (by rfl)]
              exact wp_of_quiet (exec_load_at _ _ rfl _ _ rfl _ _ _ (hS.heap HBB.out.2.2 (fun h => h)) ((.int .i64 (ye))) (HZE.out) (fun _ => by kernel_rfl)) (hK.out _ _ rfl (After.lit rfl rfl rfl (by first | rfl | kernel_rfl)))
            · intro w5 hS hF hD K hK
              obtain ⟨e20, e26, e18, -⟩ := hF
              replace e20 : f 20 = _ := e20
              replace e26 : f 26 = _ := e26
              replace e18 : f 18 = _ := e18
              try simp only [e20, e26, e18]
              rw [if_pos (by rfl)]
              go_simp
              refine hK.out _ _ rfl (After.lit rfl rfl rfl ?_)
              first | rfl | kernel_rfl
            · intro w5 hS hF hD K hK
              obtain ⟨e18, e27, e14, -⟩ := hF
              replace e18 : f 18 = _ := e18
              replace e27 : f 27 = _ := e27
              replace e14 : f 14 = _ := e14
              try simp only [e18, e27, e14]
              rw [if_pos (by rfl)]
              refine wp_of_quiet (v := (.bool false)) (by (show _ = _); kernel_rfl) (hK.out _ _ rfl (After.lit rfl rfl rfl ?_))
              first | rfl | kernel_rfl
            · intro w5 hS hF hD K hK
              obtain ⟨e14, e28, -⟩ := hF
              replace e14 : f 14 = _ := e14
              replace e28 : f 28 = _ := e28
              try simp only [e14, e28]
              rw [if_pos (by rfl)]
              refine wp_of_quiet (v := (.bool false)) (by (show _ = _); kernel_rfl) (hK.out _ _ rfl (After.lit rfl rfl rfl ?_))
              first | rfl | kernel_rfl
            intro w5 hS hF
            obtain ⟨e29, -⟩ := hF
            replace e29 : f 29 = _ := e29
            try simp only [e29]
            simp only [List.drop_succ_cons, List.drop_zero]
            have HS := Lib.hid hS
            clear hS
            go_wp2_with fail
            refine ⟨⟨k + 1, by go_num, by omega, Lib.hid ((HT9.out.trans HT2.out (fun _ _ h => h)).trans (HT3.out.trans HS.out (fun _ _ h => h)) (fun _ _ h => h))⟩, by simp [intOf]; omega⟩
          · have he5 : re < 0 := by omega
            have he6 : ¬ (0 ≤ re) := by omega
            clear he
            refine wp_region_relyT [] 30 (factOf [isV ((.pointer (some ⟨wr.heap.size, 3, none⟩))), isV ((.int .i64 (rp))), isV ((.bool false)), isV ((.bool false)), isV undef, isV undef, isV undef, isV undef, isV undef, isV undef, isV undef, isV undef, isV undef, isV ((.bool false)), isV ((.bool false)), isV ((.pointer (some ⟨wr.heap.size, 4, none⟩))), isV ((.int .i64 (re))), isV ((.bool false)), isV ((.bool false)), isV undef, isV undef, isV undef, isV undef, isV undef, isV undef, isV undef, isV undef, isV undef, isV ((.bool false)), isV ((.bool false))]) (nth [[0], [1], [2], [3], [4], [5], [6], [7], [8], [9], [10], [11], [12], [13], [14], [15], [16], [17], [18], [19], [20], [21], [22], [23], [24], [25], [26], [27], [28], [29]]) (nth [[], [], [], [], [], [], [], [], [], [], [], [], [], [], [], [], [], [], [], [], [], [], [], [], [], [], [], [], [], []]) (nth [[], [0], [1], [2], [3], [4, 3], [3], [3], [7, 3], [6, 8, 3], [9, 3], [10, 3], [5, 11, 3], [3, 12], [13, 3], [14], [15, 14], [16, 14], [17, 14], [18], [19, 18], [18], [18], [22, 18], [21, 23, 18], [24, 18], [25, 18], [20, 26, 18], [18, 27, 14], [14, 28]]) [29] (fun w5 => Turn (fun _ => False) wc w5) (by kernel_rfl) (by kernel_rfl) ((Turn.refl _ _).drew) (fun w w' h hb => h.trans (Turn.ofBelow (bs := fun _ => False) hb) (fun _ _ h => h.elim)) (GrowsAll.of ((GrowsAll.cons (Grows.isV _)  (GrowsAll.cons (Grows.isV _)  (GrowsAll.cons (Grows.isV _)  (GrowsAll.cons (Grows.isV _)  (GrowsAll.cons (Grows.isV _)  (GrowsAll.cons (Grows.isV _)  (GrowsAll.cons (Grows.isV _)  (GrowsAll.cons (Grows.isV _)  (GrowsAll.cons (Grows.isV _)  (GrowsAll.cons (Grows.isV _)  (GrowsAll.cons (Grows.isV _)  (GrowsAll.cons (Grows.isV _)  (GrowsAll.cons (Grows.isV _)  (GrowsAll.cons (Grows.isV _)  (GrowsAll.cons (Grows.isV _)  (GrowsAll.cons (Grows.isV _)  (GrowsAll.cons (Grows.isV _)  (GrowsAll.cons (Grows.isV _)  (GrowsAll.cons (Grows.isV _)  (GrowsAll.cons (Grows.isV _)  (GrowsAll.cons (Grows.isV _)  (GrowsAll.cons (Grows.isV _)  (GrowsAll.cons (Grows.isV _)  (GrowsAll.cons (Grows.isV _)  (GrowsAll.cons (Grows.isV _)  (GrowsAll.cons (Grows.isV _)  (GrowsAll.cons (Grows.isV _)  (GrowsAll.cons (Grows.isV _)  (GrowsAll.cons (Grows.isV _)  (GrowsAll.cons (Grows.isV _) GrowsAll.nil)))))))))))))))))))))))))))))))) (fun f F hF => ?_)
            simp only [List.take_succ_cons, List.take_zero, fullGo, Act.put, List.setIfInBounds_toArray, List.set_cons_zero, List.set_cons_succ, Nat.reduceAdd] at hF
            subst hF
            refine ⟨StepObsF.cons ?_ (StepObsF.cons ?_ (StepObsF.cons ?_ (StepObsF.cons ?_ (StepObsF.cons ?_ (StepObsF.cons ?_ (StepObsF.cons ?_ (StepObsF.cons ?_ (StepObsF.cons ?_ (StepObsF.cons ?_ (StepObsF.cons ?_ (StepObsF.cons ?_ (StepObsF.cons ?_ (StepObsF.cons ?_ (StepObsF.cons ?_ (StepObsF.cons ?_ (StepObsF.cons ?_ (StepObsF.cons ?_ (StepObsF.cons ?_ (StepObsF.cons ?_ (StepObsF.cons ?_ (StepObsF.cons ?_ (StepObsF.cons ?_ (StepObsF.cons ?_ (StepObsF.cons ?_ (StepObsF.cons ?_ (StepObsF.cons ?_ (StepObsF.cons ?_ (StepObsF.cons ?_ (StepObsF.cons ?_ (StepObsF.nil)))))))))))))))))))))))))))))), ?_⟩
            · intro w5 hS hF hD K hK
              rw [if_pos (by rfl)]
              refine wp_of_quiet (v := (.pointer (some ⟨wr.heap.size, 3, none⟩))) (by (show _ = _); kernel_rfl) (hK.out _ _ rfl (After.lit rfl rfl rfl ?_))
              first | rfl | kernel_rfl
            · intro w5 hS hF hD K hK
              obtain ⟨e0, -⟩ := hF
              replace e0 : f 0 = _ := e0
              try simp only [e0]
              rw [if_pos (by rfl)]
              exact wp_of_quiet (exec_load_at _ _ rfl _ _ rfl _ _ _ (hS.heap HBB.out.1 (fun h => h)) ((.int .i64 (rp))) (by kernel_rfl) (fun _ => by kernel_rfl)) (hK.out _ _ rfl (After.lit rfl rfl rfl (by first | rfl | kernel_rfl)))
            · intro w5 hS hF hD K hK
              obtain ⟨e1, -⟩ := hF
              replace e1 : f 1 = _ := e1
              try simp only [e1]
              rw [if_pos (by rfl)]
              go_simp
              refine hK.out _ _ rfl (After.lit rfl rfl rfl ?_)
              first | rfl | kernel_rfl
            · intro w5 hS hF hD K hK
              obtain ⟨e2, -⟩ := hF
              replace e2 : f 2 = _ := e2
              try simp only [e2]
              rw [if_pos (by rfl)]
              refine wp_of_quiet (v := (.bool false)) (by (show _ = _); kernel_rfl) (hK.out _ _ rfl (After.lit rfl rfl rfl ?_))
              first | rfl | kernel_rfl
            · intro w5 hS hF hD K hK
              obtain ⟨e3, -⟩ := hF
              replace e3 : f 3 = _ := e3
              try simp only [e3]
              rw [if_neg (by (show ¬ (false = true)); exact Bool.false_ne_true)]
              exact hK.out _ _ rfl (After.lit rfl rfl rfl (by first | rfl | kernel_rfl))
            · intro w5 hS hF hD K hK
              obtain ⟨e4, e3, -⟩ := hF
              replace e4 : f 4 = _ := e4
              replace e3 : f 3 = _ := e3
              try simp only [e4, e3]
              rw [if_neg (by (show ¬ (false = true)); exact Bool.false_ne_true)]
              exact hK.out _ _ rfl (After.lit rfl rfl rfl (by first | rfl | kernel_rfl))
            · intro w5 hS hF hD K hK
              obtain ⟨e3, -⟩ := hF
              replace e3 : f 3 = _ := e3
              try simp only [e3]
              rw [if_neg (by (show ¬ (false = true)); exact Bool.false_ne_true)]
              exact hK.out _ _ rfl (After.lit rfl rfl rfl (by first | rfl | kernel_rfl))
            · intro w5 hS hF hD K hK
              obtain ⟨e3, -⟩ := hF
              replace e3 : f 3 = _ := e3
              try simp only [e3]
              rw [if_neg (by (show ¬ (false = true)); exact Bool.false_ne_true)]
              exact hK.out _ _ rfl (After.lit rfl rfl rfl (by first | rfl | kernel_rfl))
            · intro w5 hS hF hD K hK
              obtain ⟨e7, e3, -⟩ := hF
              replace e7 : f 7 = _ := e7
              replace e3 : f 3 = _ := e3
              try simp only [e7, e3]
              rw [if_neg (by (show ¬ (false = true)); exact Bool.false_ne_true)]
              exact hK.out _ _ rfl (After.lit rfl rfl rfl (by first | rfl | kernel_rfl))
            · intro w5 hS hF hD K hK
              obtain ⟨e6, e8, e3, -⟩ := hF
              replace e6 : f 6 = _ := e6
              replace e8 : f 8 = _ := e8
              replace e3 : f 3 = _ := e3
              try simp only [e6, e8, e3]
              rw [if_neg (by (show ¬ (false = true)); exact Bool.false_ne_true)]
              exact hK.out _ _ rfl (After.lit rfl rfl rfl (by first | rfl | kernel_rfl))
            · intro w5 hS hF hD K hK
              obtain ⟨e9, e3, -⟩ := hF
              replace e9 : f 9 = _ := e9
              replace e3 : f 3 = _ := e3
              try simp only [e9, e3]
              rw [if_neg (by (show ¬ (false = true)); exact Bool.false_ne_true)]
              exact hK.out _ _ rfl (After.lit rfl rfl rfl (by first | rfl | kernel_rfl))
            · intro w5 hS hF hD K hK
              obtain ⟨e10, e3, -⟩ := hF
              replace e10 : f 10 = _ := e10
              replace e3 : f 3 = _ := e3
              try simp only [e10, e3]
              rw [if_neg (by (show ¬ (false = true)); exact Bool.false_ne_true)]
              exact hK.out _ _ rfl (After.lit rfl rfl rfl (by first | rfl | kernel_rfl))
            · intro w5 hS hF hD K hK
              obtain ⟨e5, e11, e3, -⟩ := hF
              replace e5 : f 5 = _ := e5
              replace e11 : f 11 = _ := e11
              replace e3 : f 3 = _ := e3
              try simp only [e5, e11, e3]
              rw [if_neg (by (show ¬ (false = true)); exact Bool.false_ne_true)]
              exact hK.out _ _ rfl (After.lit rfl rfl rfl (by first | rfl | kernel_rfl))
            · intro w5 hS hF hD K hK
              obtain ⟨e3, e12, -⟩ := hF
              replace e3 : f 3 = _ := e3
              replace e12 : f 12 = _ := e12
              try simp only [e3, e12]
              rw [if_pos (by rfl)]
              refine wp_of_quiet (v := (.bool false)) (by (show _ = _); kernel_rfl) (hK.out _ _ rfl (After.lit rfl rfl rfl ?_))
              first | rfl | kernel_rfl
            · intro w5 hS hF hD K hK
              obtain ⟨e13, e3, -⟩ := hF
              replace e13 : f 13 = _ := e13
              replace e3 : f 3 = _ := e3
              try simp only [e13, e3]
              rw [if_pos (by rfl)]
              refine wp_of_quiet (v := (.bool false)) (by (show _ = _); kernel_rfl) (hK.out _ _ rfl (After.lit rfl rfl rfl ?_))
              first | rfl | kernel_rfl
            · intro w5 hS hF hD K hK
              obtain ⟨e14, -⟩ := hF
              replace e14 : f 14 = _ := e14
              try simp only [e14]
              rw [if_pos (by rfl)]
              refine wp_of_quiet (v := (.pointer (some ⟨wr.heap.size, 4, none⟩))) (by (show _ = _); kernel_rfl) (hK.out _ _ rfl (After.lit rfl rfl rfl ?_))
              first | rfl | kernel_rfl
            · intro w5 hS hF hD K hK
              obtain ⟨e15, e14, -⟩ := hF
              replace e15 : f 15 = _ := e15
              replace e14 : f 14 = _ := e14
              try simp only [e15, e14]
              rw [if_pos (by rfl)]
              exact wp_of_quiet (exec_load_at _ _ rfl _ _ rfl _ _ _ (hS.heap HBB.out.1 (fun h => h)) ((.int .i64 (re))) (by kernel_rfl) (fun _ => by kernel_rfl)) (hK.out _ _ rfl (After.lit rfl rfl rfl (by first | rfl | kernel_rfl)))
            · intro w5 hS hF hD K hK
              obtain ⟨e16, e14, -⟩ := hF
              replace e16 : f 16 = _ := e16
              replace e14 : f 14 = _ := e14
              try simp only [e16, e14]
              rw [if_pos (by rfl)]
              go_simp
              refine hK.out _ _ rfl (After.lit rfl rfl rfl ?_)
              first | rfl | kernel_rfl
            · intro w5 hS hF hD K hK
              obtain ⟨e17, e14, -⟩ := hF
              replace e17 : f 17 = _ := e17
              replace e14 : f 14 = _ := e14
              try simp only [e17, e14]
              rw [if_pos (by rfl)]
              refine wp_of_quiet (v := (.bool false)) (by (show _ = _); kernel_rfl) (hK.out _ _ rfl (After.lit rfl rfl rfl ?_))
              first | rfl | kernel_rfl
            · intro w5 hS hF hD K hK
              obtain ⟨e18, -⟩ := hF
              replace e18 : f 18 = _ := e18
              try simp only [e18]
              rw [if_neg (by (show ¬ (false = true)); exact Bool.false_ne_true)]
              exact hK.out _ _ rfl (After.lit rfl rfl rfl (by first | rfl | kernel_rfl))
            · intro w5 hS hF hD K hK
              obtain ⟨e19, e18, -⟩ := hF
              replace e19 : f 19 = _ := e19
              replace e18 : f 18 = _ := e18
              try simp only [e19, e18]
              rw [if_neg (by (show ¬ (false = true)); exact Bool.false_ne_true)]
              exact hK.out _ _ rfl (After.lit rfl rfl rfl (by first | rfl | kernel_rfl))
            · intro w5 hS hF hD K hK
              obtain ⟨e18, -⟩ := hF
              replace e18 : f 18 = _ := e18
              try simp only [e18]
              rw [if_neg (by (show ¬ (false = true)); exact Bool.false_ne_true)]
              exact hK.out _ _ rfl (After.lit rfl rfl rfl (by first | rfl | kernel_rfl))
            · intro w5 hS hF hD K hK
              obtain ⟨e18, -⟩ := hF
              replace e18 : f 18 = _ := e18
              try simp only [e18]
              rw [if_neg (by (show ¬ (false = true)); exact Bool.false_ne_true)]
              exact hK.out _ _ rfl (After.lit rfl rfl rfl (by first | rfl | kernel_rfl))
            · intro w5 hS hF hD K hK
              obtain ⟨e22, e18, -⟩ := hF
              replace e22 : f 22 = _ := e22
              replace e18 : f 18 = _ := e18
              try simp only [e22, e18]
              rw [if_neg (by (show ¬ (false = true)); exact Bool.false_ne_true)]
              exact hK.out _ _ rfl (After.lit rfl rfl rfl (by first | rfl | kernel_rfl))
            · intro w5 hS hF hD K hK
              obtain ⟨e21, e23, e18, -⟩ := hF
              replace e21 : f 21 = _ := e21
              replace e23 : f 23 = _ := e23
              replace e18 : f 18 = _ := e18
              try simp only [e21, e23, e18]
              rw [if_neg (by (show ¬ (false = true)); exact Bool.false_ne_true)]
              exact hK.out _ _ rfl (After.lit rfl rfl rfl (by first | rfl | kernel_rfl))
            · intro w5 hS hF hD K hK
              obtain ⟨e24, e18, -⟩ := hF
              replace e24 : f 24 = _ := e24
              replace e18 : f 18 = _ := e18
              try simp only [e24, e18]
              rw [if_neg (by (show ¬ (false = true)); exact Bool.false_ne_true)]
              exact hK.out _ _ rfl (After.lit rfl rfl rfl (by first | rfl | kernel_rfl))
            · intro w5 hS hF hD K hK
              obtain ⟨e25, e18, -⟩ := hF
              replace e25 : f 25 = _ := e25
              replace e18 : f 18 = _ := e18
              try simp only [e25, e18]
              rw [if_neg (by (show ¬ (false = true)); exact Bool.false_ne_true)]
              exact hK.out _ _ rfl (After.lit rfl rfl rfl (by first | rfl | kernel_rfl))
            · intro w5 hS hF hD K hK
              obtain ⟨e20, e26, e18, -⟩ := hF
              replace e20 : f 20 = _ := e20
              replace e26 : f 26 = _ := e26
              replace e18 : f 18 = _ := e18
              try simp only [e20, e26, e18]
              rw [if_neg (by (show ¬ (false = true)); exact Bool.false_ne_true)]
              exact hK.out _ _ rfl (After.lit rfl rfl rfl (by first | rfl | kernel_rfl))
            · intro w5 hS hF hD K hK
              obtain ⟨e18, e27, e14, -⟩ := hF
              replace e18 : f 18 = _ := e18
              replace e27 : f 27 = _ := e27
              replace e14 : f 14 = _ := e14
              try simp only [e18, e27, e14]
              rw [if_pos (by rfl)]
              refine wp_of_quiet (v := (.bool false)) (by (show _ = _); kernel_rfl) (hK.out _ _ rfl (After.lit rfl rfl rfl ?_))
              first | rfl | kernel_rfl
            · intro w5 hS hF hD K hK
              obtain ⟨e14, e28, -⟩ := hF
              replace e14 : f 14 = _ := e14
              replace e28 : f 28 = _ := e28
              try simp only [e14, e28]
              rw [if_pos (by rfl)]
              refine wp_of_quiet (v := (.bool false)) (by (show _ = _); kernel_rfl) (hK.out _ _ rfl (After.lit rfl rfl rfl ?_))
              first | rfl | kernel_rfl
            intro w5 hS hF
            obtain ⟨e29, -⟩ := hF
            replace e29 : f 29 = _ := e29
            try simp only [e29]
            simp only [List.drop_succ_cons, List.drop_zero]
            have HS := Lib.hid hS
            clear hS
            go_wp2_with fail
            refine ⟨⟨k + 1, by go_num, by omega, Lib.hid ((HT9.out.trans HT2.out (fun _ _ h => h)).trans (HT3.out.trans HS.out (fun _ _ h => h)) (fun _ _ h => h))⟩, by simp [intOf]; omega⟩
    · have hkn : k = n := by omega
      subst hkn
      go_wp2_with fail
      go_ret
      exact ⟨rfl, HB3.out.trans ((HB5.out.trans (HT9.out.toBelow HB5.out.size (fun _ h => h.elim))).mono HB3.out.size)⟩
end Go.Proofs.YtepmgnhblegiiaaDoor
