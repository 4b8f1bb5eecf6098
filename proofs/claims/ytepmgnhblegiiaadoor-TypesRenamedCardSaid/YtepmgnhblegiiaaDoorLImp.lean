/- TypesImplied walked. Condition: the table of powers of ten reads as the text lays it. -/
import Derived.Test.YtepmgnhblegiiaaDoorCnv
set_option linter.all false
namespace Go.Proofs.YtepmgnhblegiiaaDoor
open Go Go.RowKit Go.Maps

/-- One row out of a slice of rows. -/
theorem RowsV.one {w : World} {ao : Option Addr} {cap : Nat} {rows : List Row} {g off : Nat} {c : Array Value} (hao : ao = some ⟨g, off, none⟩) (hg : w.heap[g]? = some (.cells c 44 (0, 0))) (hc : ∀ i r, rows[i]? = some r → ∃ fv, MemsV w fv r.fields ∧ r.fields.length ≤ 65536 ∧ ∀ j, j < 7 → c[off + i * 7 + j]? = (rowCells r fv)[j]?) {k : Nat} {r : Row} (hr : rows[k]? = some r) (hcap : 1 ≤ cap) : RowsV w (.slice (some ⟨g, off + k * 7, none⟩) 1 cap) [r] := by
  refine ⟨_, _, rfl, hcap, fun _ => ⟨g, off + k * 7, c, rfl, hg, fun i q hq => ?_⟩⟩
  have : i = 0 := by
    rcases Nat.eq_zero_or_pos i with h | h
    · exact h
    · rw [List.getElem?_eq_none (by simp; omega)] at hq; cases hq
  subst this
  simp only [List.getElem?_cons_zero, Option.some.injEq] at hq
  subst hq
  obtain ⟨fv, h1, h2, h3⟩ := hc k _ hr
  exact ⟨fv, h1, h2, fun j hj => by rw [Nat.zero_mul, Nat.add_zero]; exact h3 j hj⟩
/-- What is read of a row of an answer. -/
theorem rows_row {w : World} {rows : List Row} {off : Nat} {c : Array Value} (hc : ∀ i r, rows[i]? = some r → ∃ fv, MemsV w fv r.fields ∧ r.fields.length ≤ 65536 ∧ ∀ j, j < 7 → c[off + i * 7 + j]? = (rowCells r fv)[j]?) {k : Nat} {r : Row} (hr : rows[k]? = some r) : ∃ am cm, MemsV w (.slice am r.fields.length cm) r.fields ∧ r.fields.length ≤ 65536 ∧ (c.extract (off + k * 7) (off + k * 7 + (rowCells r (.slice am r.fields.length cm)).length)).toList = rowCells r (.slice am r.fields.length cm) ∧ ∀ j, j < 7 → c[off + k * 7 + j]? = (rowCells r (.slice am r.fields.length cm))[j]? := by
  obtain ⟨fv, h1, h2, h3⟩ := hc k r hr
  obtain ⟨am, cm, rfl, h4⟩ := h1
  exact ⟨am, cm, ⟨am, cm, rfl, h4⟩, h2, ext_at (fun j hj => h3 j hj), h3⟩
theorem Desc.small {n : Nat} {cs : List Con} (hR : ∀ c ∈ cs, rightS n c = true) {v : Nat} (hv : v < n) {r : Row} (h : Desc cs v r) : (0 ≤ r.cls ∧ r.cls < n) ∧ (r.ptr = -1 ∨ (0 ≤ r.ptr ∧ r.ptr < n)) ∧ (r.elem = -1 ∨ (0 ≤ r.elem ∧ r.elem < n)) := by
  have hb : ∀ c ∈ cs, (c.kind = 5 ∨ c.kind = 7) → 0 ≤ c.b ∧ c.b < n := fun c hc hk => by
    have := hR c hc
    simp only [rightS, Bool.and_eq_true, Bool.or_eq_true, decide_eq_true_eq] at this
    omega
  refine ⟨⟨h.cls.2.1, ?_⟩, ?_, ?_⟩
  · have := h.cls.2.2 v (by omega) (.refl _); omega
  · rcases h.ptr with ⟨a, -⟩ | ⟨c, hc, hk, -, hr⟩
    · exact .inl a
    · have h1 := hb c hc (.inl hk)
      have := hr.2.2 c.b h1.1 (.refl _)
      exact .inr ⟨hr.2.1, by omega⟩
  · rcases h.elem with ⟨a, -⟩ | ⟨c, hc, hk, -, hr⟩
    · exact .inl a
    · have h1 := hb c hc (.inr hk)
      have := hr.2.2 c.b h1.1 (.refl _)
      exact .inr ⟨hr.2.1, by omega⟩
/-- The constraints that are implied. -/
def impC (rows : List Row) (k : Nat) : List Con := (List.range k).map fun v => ⟨1, (v : Nat), ((rows[v]?).map (·.cls)).getD 0, 0⟩
theorem impC_len (rows : List Row) (k : Nat) : (impC rows k).length = k := by simp [impC]
theorem impC_succ {rows : List Row} {k : Nat} {r : Row} (h : rows[k]? = some r) : impC rows (k + 1) = impC rows k ++ [⟨1, (k : Nat), r.cls, 0⟩] := by simp [impC, List.range_succ, h]
theorem impC_mem {rows : List Row} {k : Nat} (hk : k ≤ rows.length) {c : Con} (h : c ∈ impC rows k) : ∃ v r, v < k ∧ rows[v]? = some r ∧ c = ⟨1, (v : Nat), r.cls, 0⟩ := by
  simp only [impC, List.mem_map, List.mem_range] at h
  obtain ⟨v, hv, rfl⟩ := h
  have hl : v < rows.length := by omega
  exact ⟨v, rows[v], hv, by simp [hl], by simp [hl]⟩
/-- What stands at the row's own class. -/
theorem Desc.at_cls {cs : List Con} (hC : ¬ Clash cs) {rows : List Row} {n v : Nat} (hl : rows.length = n) (hD : ∀ (v : Nat) (r : Row), rows[v]? = some r → Desc cs v r) {r : Row} (hv : rows[v]? = some r) : ∃ c : Nat, r.cls = c ∧ c ≤ v ∧ rows[c]? = some r := by
  have hd := hD v r hv
  have h1 := hd.cls.2.1
  have h2 := hd.cls.2.2 v (by omega) (.refl _)
  obtain ⟨c, hc⟩ := Int.eq_ofNat_of_zero_le h1
  have hvl : v < rows.length := (List.getElem?_eq_some_iff.1 hv).1
  have hcl : c < rows.length := by omega
  refine ⟨c, hc, by omega, ?_⟩
  have hq : rows[c]? = some rows[c] := List.getElem?_eq_getElem hcl
  rw [hq]
  have hdq := hD c _ hq
  have hdc := hd.congv hd.cls.1.symm
  rw [hc] at hdc
  exact congrArg some (hdq.unique hC hdc)
theorem imp_alike {cs : List Con} {rows : List Row} {k : Nat} (hk : k ≤ rows.length) (hD : ∀ (v : Nat) (r : Row), rows[v]? = some r → Desc cs v r) : Alike cs (cs ++ impC rows k) :=
  alike_more fun c hc => by
    obtain ⟨v, r, hv, hr, rfl⟩ := impC_mem hk hc
    exact ⟨rfl, (hD v r hr).cls.1.symm⟩
theorem imp_right {cs : List Con} {n : Nat} {rows : List Row} (hl : rows.length = n) (hD : ∀ (v : Nat) (r : Row), rows[v]? = some r → Desc cs v r) {k : Nat} (hk : k ≤ n) : ∀ c ∈ impC rows k, rightS n c = true := fun c hc => by
  obtain ⟨v, r, hv, hr, rfl⟩ := impC_mem (by omega) hc
  have h1 := (hD v r hr).cls.2.1
  have h2 := (hD v r hr).cls.2.2 v (by omega) (.refl _)
  simp [rightS]; omega

set_option maxRecDepth 100000 in
set_option maxHeartbeats 4000000 in
theorem typesImplied_any (z : Int) (hz : i64ok z) (ao : Option Addr) (len cap : Nat) (hlen : len ≤ 9223372036854775807) (w : World) (h : ArrW ao len w) (hT : TabP w) :
    Calls Tryd.prog 7 #[.int .i64 z, .slice ao len cap] w fun e w' => e = .returned (.bool true) ∧ Below w.heap.size w w' := by
  have HSN := Lib.hid (sanity_any w hT)
  have H := Lib.hid h
  have HSZ := Lib.hid (fun W => size_any z hz W)
  obtain ⟨n, hn⟩ := Int.eq_ofNat_of_zero_le (show 0 ≤ 1 + z % 14 by have := Int.emod_nonneg z (show (14 : Int) ≠ 0 by omega); omega)
  have hn1 : 0 < n := by have := Int.emod_nonneg z (show (14 : Int) ≠ 0 by omega); omega
  have hn2 : n ≤ 14 := by have := Int.emod_lt_of_pos z (show (0 : Int) < 14 by omega); omega
  rw [hn] at HSZ
  obtain ⟨j0, hj0, hy0, hy1, hy2⟩ := info_parts infoCon
  clear hn h hT
  go_enter Tryd.func7, Tryd.ntmps7
  go_upto_region 2 with (go_at_call 14; refine (HSN.out).mono ?_; rintro e w1 ⟨rfl, hb1⟩)
  have HB1 := Lib.hid hb1
  have HMD := Lib.hid (made_any n hn1 (by omega) w1 ao len cap hlen (H.out.below hb1))
  clear hb1
  go_upto_region 4 with (first | (go_at_call 16; refine (HSZ.out _).mono ?_; rintro e wz ⟨rfl, rfl⟩) | (go_at_call 15; refine (HMD.out).mono ?_; rintro e w2 ⟨v, cs0, rfl, hown, hR, hl, hb2⟩; obtain ⟨co, cp, rfl, hcp, hcw⟩ := made_own (n := n) hown; have HB2 := Lib.hid (HB1.out.trans (hb2.mono HB1.out.size)); have HCW := Lib.hid (And.intro hcw hown); have HR := Lib.hid hR; have HPF := Lib.hid (prefix_any n hn1 (by omega) cs0 hR (by omega) w2 co cp hcp hcw); clear hown hR hb2 hcw) | (go_at_call 18; refine (HPF.out).mono ?_; rintro e w3 ⟨m, hm, rfl, hnc, hb3⟩))
  have hown : w3.ownsRow w1.heap.size 37 4 (.slice co m cp) m (consV (cs0.take m)) := by
    have h9 := own_cut (own_turn HCW.out.2 (Turn.ofBelow (bs := fun _ => False) hb3) (fun _ _ h => h)) hm
    rw [consV_take] at h9; exact h9
  have hlm : (cs0.take m).length = m := by rw [List.length_take]; omega
  have HOW := Lib.hid hown
  have HNC := Lib.hid hnc
  have HB3 := Lib.hid (HB2.out.trans (hb3.mono HB2.out.size))
  have HCS := Lib.hid (show ∀ c ∈ cs0.take m, rightS n c = true from fun c hc => HR.out c (List.mem_of_mem_take hc))
  have hm60 : m ≤ 60 := by omega
  clear hb3 hown hnc HCW HPF HMD HR
  generalize cs0.take m = cs at *
  subst hlm
  obtain ⟨hmc1, hmc2⟩ := own_cap HOW.out
  have hc0 : co = none → cp = 0 := fun e => by
    rcases own_form HOW.out with ⟨-, h, -⟩ | ⟨g, h, -⟩
    · exact h
    · rw [e] at h; cases h
  have HC0 := Lib.hid hc0
  clear hc0 hmc2
  have HS1 := Lib.hid (solve_any n cs (by omega) w3 co cp hmc1 (own_cons HOW.out).2)
  go_upto_region 5 with (go_at_call 19; refine (HS1.out).mono ?_; rintro e w4 ⟨va, ra, ka, ea, rfl, hsa, hba, hra⟩)
  have HDA := Lib.hid (hsa.ok_rows (by omega) (by omega) HCS.out HNC.out)
  obtain ⟨rfl, hlr, -⟩ := HDA.out
  obtain ⟨aa, ca, rfl, hcaa, hga⟩ := hra.view
  obtain ⟨ga, oa, cca, rfl, hgh, hgc⟩ := hga (by omega)
  have HGA := Lib.hid (And.intro hgh hgc)
  have HB4 := Lib.hid (HB3.out.trans (hba.mono HB3.out.size))
  have HLR := Lib.hid hlr
  rw [hlr] at hcaa ⊢
  have hgl : ga < w4.heap.size := (Array.getElem?_eq_some_iff.1 hgh).1
  have HSC := Lib.hid ((own_src HOW.out).turn ((Turn.ofBelow (bs := fun _ => False) hba).trans ((Turn.refl (fun _ => False) w4).alloc (.cells #[] 37)) (fun _ _ h => h)) (fun _ _ h => h))
  have HOE := Lib.hid (own_empty w4 w4.heap.size 37 4 (Nat.le_refl _))
  clear hsa hba hra hga hgh hgc hlr HS1
  go_upto_region 8 with (at_builtin; refine wpList_append_src _ rfl (.tmp 42) (.tmp 43) 24 rfl w4.heap.size 37 j0 (.agg #[.int .i64 0, .int .i64 0, .int .i64 0, .int .i64 0]) 4 32 Tryd.underlying24 hj0 hy0 hy1 hy2 rfl (by decide) (.slice (some ⟨w4.heap.size, 0, none⟩) 0 0) 0 [] rfl HOE.out co cs.length cp HC0.out (consV cs) rfl HSC.out (consV_one _) (by unfold maxLen; omega) (by omega) (by simp) ?_; intro v5 w5 hown5 hgrow5 hat5)
  rw [Nat.zero_add, List.nil_append] at hown5
  have HT5 := Lib.hid (((Turn.refl (fun q => w4.heap.size ≤ q) w4).alloc (.cells #[] 37)).grown hgrow5 (fun q e _ => by cases e; exact Nat.le_refl _))
  have HO5 := Lib.hid hown5
  clear hown5 hgrow5 hat5 HOE HSC
  go_upto_block 0 with fail
  go_cut [11, 12, 13, 14] (fun s11 _ _ _ wx => ∃ v11 : Value, s11 = v11 ∧ Hid (wx.ownsRow w4.heap.size 37 4 v11 (cs.length + n) (consV (cs ++ impC ra n))) ∧ Hid (Turn (fun q => w4.heap.size ≤ q) w4 wx))
  case first =>
    go_wp2_with fail
    go_loopw [11, 12, 13, 14] (fun s11 s12 _ _ wr => ∃ (v11 : Value) (k : Nat), s11 = v11 ∧ k ≤ n ∧ s12 = .int .i64 k ∧ Hid (wr.ownsRow w4.heap.size 37 4 v11 (cs.length + k) (consV (cs ++ impC ra k))) ∧ Hid (Turn (fun q => w4.heap.size ≤ q) w4 wr)) (fun _ s12 _ _ _ => n - (intOf s12).toNat)
    case atStart => exact ⟨_, 0, rfl, Nat.zero_le _, rfl, Lib.hid (by simpa [impC] using HO5.out), HT5⟩
    case round =>
      obtain ⟨v11, k, h11, hk, rfl, HOW9, HT9⟩ := hrel
      have h11' := h11.symm
      subst h11'
      clear h11
      by_cases hlt : k < n
      · have hlr := HLR.out
        obtain ⟨r, hr⟩ : ∃ r, ra[k]? = some r := ⟨ra[k]'(by omega), List.getElem?_eq_getElem (by omega)⟩
        have HR := Lib.hid hr
        obtain ⟨c, hc, hck, hrc⟩ := Desc.at_cls HNC.out hlr HDA.out.2.2 hr
        have HC := Lib.hid hc
        have hgh := HT9.out.heap HGA.out.1 (fun h => by omega)
        have kv : wr.cell? ⟨ga, oa + k * 7, none⟩ = some (.int .i64 c) := by
          obtain ⟨fv, -, -, h3⟩ := HGA.out.2 k r hr
          have h4 := h3 0 (by omega)
          rw [cell_of_row _ _ _ _ _ _ hgh, ← hc]; exact h4
        have kc : wr.cell? ⟨ga, oa + c * 7, none⟩ = some (.int .i64 c) := by
          obtain ⟨fv, -, -, h3⟩ := HGA.out.2 c r hrc
          have h4 := h3 0 (by omega)
          rw [cell_of_row _ _ _ _ _ _ hgh, ← hc]; exact h4
        have hV : ∀ i q, ra[i]? = some q → ∃ fv, MemsV wr fv q.fields ∧ q.fields.length ≤ 65536 ∧ ∀ j, j < 7 → cca[oa + i * 7 + j]? = (rowCells q fv)[j]? := fun i q hq => by
          obtain ⟨fv, h1, h2, h3⟩ := HGA.out.2 i q hq
          exact ⟨fv, h1.below (HT9.out.toBelow (Nat.le_refl _) (fun _ h => h)), h2, h3⟩
        have HSA := Lib.hid (fun (W : World) (hb : Below wr.heap.size wr W) => rsame_any [r] [r] (.slice (some ⟨ga, oa + k * 7, none⟩) 1 (ca - k)) (.slice (some ⟨ga, oa + c * 7, none⟩) 1 (ca - c)) W ((RowsV.one rfl hgh hV hr (by omega)).below hb) ((RowsV.one rfl hgh hV hrc (by omega)).below hb) (by simp) (by simp))
        have hca : c < ca := by omega
        have hka : k < ca := by omega
        have hna : ¬ ca = k := by omega
        have hnc : ¬ ca = c := by omega
        have hcn : c < n := by omega
        have hwk : IntKind.i64.wrap ((k : Int) + 1) = (k : Int) + 1 := IntWalk.i64_in _ (by omega)
        have hwc : IntKind.i64.wrap ((c : Int) + 1) = (c : Int) + 1 := IntWalk.i64_in _ (by omega)
        have hszw : w4.heap.size ≤ wr.heap.size := HT9.out.size
        clear hr hc hrc hgh hV
        clear hlr
        go_upto_region 14 with fail
        refine wp_region_relyT [] 11 (factOf [isV ((.slice (some ⟨ga, oa, none⟩) n ca)), isV ((.int .i64 (k : Int))), isV ((.int .i64 (k : Int))), isV ((.int .i64 ((k : Int) + 1))), isV ((.slice (some ⟨ga, oa + k * 7, none⟩) 1 (ca - k))), isV ((.slice (some ⟨ga, oa, none⟩) n ca)), isV ((.int .i64 (c : Int))), isV ((.int .i64 (c : Int))), isV ((.int .i64 ((c : Int) + 1))), isV ((.slice (some ⟨ga, oa + c * 7, none⟩) 1 (ca - c))), isV ((.bool true))]) (nth [[0], [1], [2], [3], [4], [5], [6], [7], [8], [9], [10]]) (nth [[], [], [], [], [], [], [], [], [], [], []]) (nth [[], [], [], [2], [0, 1, 3], [], [], [], [7], [5, 6, 8], [4, 9]]) [10] (fun w5 => Below wr.heap.size wr w5) (by kernel_rfl) (by kernel_rfl) ((Below.refl _ _).drew) (fun w w' h hb => h.trans (hb.mono h.size)) (GrowsAll.of ((GrowsAll.cons (Grows.isV _)  (GrowsAll.cons (Grows.isV _)  (GrowsAll.cons (Grows.isV _)  (GrowsAll.cons (Grows.isV _)  (GrowsAll.cons (Grows.isV _)  (GrowsAll.cons (Grows.isV _)  (GrowsAll.cons (Grows.isV _)  (GrowsAll.cons (Grows.isV _)  (GrowsAll.cons (Grows.isV _)  (GrowsAll.cons (Grows.isV _)  (GrowsAll.cons (Grows.isV _) GrowsAll.nil))))))))))))) (fun f F hF => ?_)
        simp only [List.take_succ_cons, List.take_zero, fullGo, Act.put, List.setIfInBounds_toArray, List.set_cons_zero, List.set_cons_succ, Nat.reduceAdd] at hF
        subst hF
        refine ⟨StepObsF.cons ?_ (StepObsF.cons ?_ (StepObsF.cons ?_ (StepObsF.cons ?_ (StepObsF.cons ?_ (StepObsF.cons ?_ (StepObsF.cons ?_ (StepObsF.cons ?_ (StepObsF.cons ?_ (StepObsF.cons ?_ (StepObsF.cons ?_ (StepObsF.nil))))))))))), ?_⟩
        · intro w5 hS hF hD K hK
          rw [if_pos (by rfl)]
          refine wp_of_quiet (v := (.slice (some ⟨ga, oa, none⟩) n ca)) (by (show _ = _); kernel_rfl) (hK.out _ _ rfl (After.lit rfl rfl rfl ?_))
          first | rfl | kernel_rfl
        · intro w5 hS hF hD K hK
          rw [if_pos (by rfl)]
          refine wp_of_quiet (v := (.int .i64 (k : Int))) (by (show _ = _); kernel_rfl) (hK.out _ _ rfl (After.lit rfl rfl rfl ?_))
          first | rfl | kernel_rfl
        · intro w5 hS hF hD K hK
          rw [if_pos (by rfl)]
          refine wp_of_quiet (v := (.int .i64 (k : Int))) (by (show _ = _); kernel_rfl) (hK.out _ _ rfl (After.lit rfl rfl rfl ?_))
          first | rfl | kernel_rfl
        · intro w5 hS hF hD K hK
          obtain ⟨e2, -⟩ := hF
          replace e2 : f 2 = _ := e2
          try simp only [e2]
          rw [if_pos (by rfl)]
          go_simp
          refine hK.out _ _ rfl (After.lit rfl rfl rfl ?_)
          first | rfl | kernel_rfl
        · intro w5 hS hF hD K hK
          obtain ⟨e0, e1, e3, -⟩ := hF
          replace e0 : f 0 = _ := e0
          replace e1 : f 1 = _ := e1
          replace e3 : f 3 = _ := e3
          try simp only [e0, e1, e3]
          rw [if_pos (by rfl)]
          go_simp; rw [if_pos (by omega)]; go_simp; refine hK.out _ _ rfl (After.lit rfl rfl rfl ?_); first | rfl | kernel_rfl
        · intro w5 hS hF hD K hK
          rw [if_pos (by rfl)]
          refine wp_of_quiet (v := (.slice (some ⟨ga, oa, none⟩) n ca)) (by (show _ = _); kernel_rfl) (hK.out _ _ rfl (After.lit rfl rfl rfl ?_))
          first | rfl | kernel_rfl
        · intro w5 hS hF hD K hK
          rw [if_pos (by rfl)]
          refine wp_of_quiet (v := (.int .i64 (c : Int))) (by (show _ = _); kernel_rfl) (hK.out _ _ rfl (After.lit rfl rfl rfl ?_))
          first | rfl | kernel_rfl
        · intro w5 hS hF hD K hK
          rw [if_pos (by rfl)]
          refine wp_of_quiet (v := (.int .i64 (c : Int))) (by (show _ = _); kernel_rfl) (hK.out _ _ rfl (After.lit rfl rfl rfl ?_))
          first | rfl | kernel_rfl
        · intro w5 hS hF hD K hK
          obtain ⟨e7, -⟩ := hF
          replace e7 : f 7 = _ := e7
          try simp only [e7]
          rw [if_pos (by rfl)]
          go_simp
          refine hK.out _ _ rfl (After.lit rfl rfl rfl ?_)
          first | rfl | kernel_rfl
        · intro w5 hS hF hD K hK
          obtain ⟨e5, e6, e8, -⟩ := hF
          replace e5 : f 5 = _ := e5
          replace e6 : f 6 = _ := e6
          replace e8 : f 8 = _ := e8
          try simp only [e5, e6, e8]
          rw [if_pos (by rfl)]
          go_simp; rw [if_pos (by omega)]; go_simp; refine hK.out _ _ rfl (After.lit rfl rfl rfl ?_); first | rfl | kernel_rfl
        · intro w5 hS hF hD K hK
          obtain ⟨e4, e9, -⟩ := hF
          replace e4 : f 4 = _ := e4
          replace e9 : f 9 = _ := e9
          try simp only [e4, e9]
          rw [if_pos (by rfl)]
          go_simp
          refine (HSA.out _ hS).mono ?_; rintro e w9 ⟨b, rfl, hbelow, hbt⟩; have hbt : b = true := hbt.2 rfl; subst hbt; go_simp
          refine hK.out _ _ rfl (After.litB rfl rfl rfl hbelow ?_)
          first | rfl | kernel_rfl
        intro w5 hS hF
        obtain ⟨e10, -⟩ := hF
        replace e10 : f 10 = _ := e10
        try simp only [e10]
        simp only [List.drop_succ_cons, List.drop_zero]
        have HB5 := Lib.hid hS
        clear hS hwk hwc hna hnc kv kc
        have hown := own_turn HOW9.out ((Turn.ofBelow (bs := fun _ => False) HB5.out).trans ((Turn.refl (fun _ => False) w5).alloc (.cells #[.int .i64 1, .int .i64 (k : Int), .int .i64 (c : Int), .int .i64 0] 37)) (fun _ _ h => h)) (fun _ _ h => h)
        have HOX := Lib.hid hown
        have hsz5 : wr.heap.size ≤ w5.heap.size := HB5.out.size
        have HCL := Lib.hid (consV_len (cs ++ impC ra k))
        clear hown
        go_wp2_with (at_builtin; refine wpList_append_own _ rfl _ _ 24 rfl w4.heap.size 37 j0 (.agg #[.int .i64 0, .int .i64 0, .int .i64 0, .int .i64 0]) 4 32 Tryd.underlying24 hj0 hy0 hy1 hy2 rfl (by decide) _ (cs.length + k) (consV (cs ++ impC ra k)) rfl HOX.out ⟨w5.heap.size, 0, none⟩ 1 1 [.int .i64 1, .int .i64 (k : Int), .int .i64 (c : Int), .int .i64 0] rfl rfl (cells_new _ _ _ _ rfl) (by intro u hu; simp at hu; rcases hu with rfl | rfl | rfl | rfl <;> rfl) (by unfold maxLen; omega) (by omega) (Nat.le_trans hszw (Nat.le_trans hsz5 (by simp))) ?_; intro v9 w9 hown9 hgrow9 _)
        have hT9 : Turn (fun q => w4.heap.size ≤ q) wr w9 := ((Turn.ofBelow (bs := fun q => w4.heap.size ≤ q) HB5.out).trans ((Turn.refl (fun q => w4.heap.size ≤ q) w5).alloc _) (fun _ _ h => h)).grown hgrow9 (fun q e _ => (own_cells HOW9.out q e).1)
        refine ⟨⟨_, k + 1, rfl, by omega, by go_num, Lib.hid ?_, Lib.hid (HT9.out.trans hT9 (fun _ _ h => h))⟩, by simp [intOf]; omega⟩
        rw [impC_succ HR.out, HC.out, ← List.append_assoc, consV_snoc]
        exact hown9
      · have hkn : k = n := by omega
        subst hkn
        go_wp2_with fail
        go_meet
        case rel => exact ⟨_, rfl, HOW9, HT9⟩
  case rest =>
    obtain ⟨v11, h11, HOW9, HT9⟩ := hcut
    obtain ⟨ox, cx, rfl⟩ := own_slice HOW9.out
    subst h11
    have hle : (cs ++ impC ra n).length = cs.length + n := by rw [List.length_append, impC_len]
    have HAL := Lib.hid (imp_alike (k := n) (by have := HLR.out; omega) HDA.out.2.2)
    have HS2 := Lib.hid (by
      have h9 := solve_any n (cs ++ impC ra n) (by omega) wc ox cx (by rw [hle]; exact (own_cap HOW9.out).1) (own_cons HOW9.out).2
      rw [hle] at h9; exact h9)
    have HVA := Lib.hid (show RowsV wc (.slice (some ⟨ga, oa, none⟩) n ca) ra from ⟨_, _, by rw [HLR.out], by rw [HLR.out]; exact hcaa, fun _ => ⟨ga, oa, cca, rfl, HT9.out.heap HGA.out.1 (fun h => by omega), fun i q hq => by
      obtain ⟨fv, h1, h2, h3⟩ := HGA.out.2 i q hq
      exact ⟨fv, h1.below (HT9.out.toBelow (Nat.le_refl _) (fun _ h => h)), h2, h3⟩⟩⟩)
    have HBC := Lib.hid (HB4.out.trans ((HT9.out.toBelow (Nat.le_refl _) (fun _ h => h)).mono HB4.out.size))
    have hszc : w.heap.size ≤ wc.heap.size := HBC.out.size
    clear HOW9 HT9
    go_upto_region 19 with (go_at_call 19; refine (HS2.out).mono ?_; rintro e w6 ⟨vb, rb, kb, eb, rfl, hsb, hbb, hrb⟩)
    have hdb := hsb.ok_rows (by omega) (by rw [hle]; omega) (fun c hc => by
      rcases List.mem_append.1 hc with hc | hc
      · exact HCS.out c hc
      · exact imp_right HLR.out HDA.out.2.2 (Nat.le_refl _) c hc) (fun h => HNC.out (HAL.out.clash h))
    obtain ⟨rfl, hlb, hdb⟩ := hdb
    have HRR := Lib.hid (rows_same HAL.out HNC.out HLR.out hlb HDA.out.2.2 hdb)
    have HBB := Lib.hid (HBC.out.trans (hbb.mono hszc))
    have HSB := Lib.hid (rsame_any ra rb _ vb w6 (HVA.out.below hbb) hrb.view (by have := HLR.out; omega) (by omega))
    clear hbb hsb hrb hdb hlb
    go_upto_region 20 with (go_at_call 22; refine (HSB.out).mono ?_; rintro e w7 ⟨b, rfl, hb7, hbt⟩)
    have hbt : b = true := hbt.2 HRR.out
    subst hbt
    have HB7 := Lib.hid (HBB.out.trans (hb7.mono HBB.out.size))
    clear hb7
    go_wp2_with fail
    go_ret
    exact ⟨rfl, HB7.out⟩
end Go.Proofs.YtepmgnhblegiiaaDoor
