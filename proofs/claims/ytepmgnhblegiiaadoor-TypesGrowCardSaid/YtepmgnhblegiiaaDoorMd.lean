/- The reference: Made, size. No condition beyond what each states. -/
import Derived.Test.YtepmgnhblegiiaaDoorTsB
import Derived.Test.YtepmgnhblegiiaaDoorRfL
set_option linter.all false
namespace Go.Proofs.YtepmgnhblegiiaaDoor
open Go Go.RowKit Go.Maps

/-- Arrays of four numbers under a slice. -/
def ArrW (ao : Option Addr) (len : Nat) (w : World) : Prop := 0 < len → ∃ b off c t fr, ao = some ⟨b, off, none⟩ ∧ w.heap[b]? = some (.cells c t fr) ∧ ∀ i, i < len → ∀ j, j < 4 → ∃ z : Int, c[off + i * 4 + j]? = some (.int .i64 z) ∧ i64ok z
theorem ArrW.below {ao : Option Addr} {len : Nat} {w w' : World} (h : ArrW ao len w) (hb : Below w.heap.size w w') : ArrW ao len w' := fun h0 => by
  obtain ⟨b, off, c, t, fr, e, hg, hc⟩ := h h0
  exact ⟨b, off, c, t, fr, e, below_keep hb hg, hc⟩
theorem size_any (z : Int) (hz : i64ok z) (w : World) : Calls Tryd.prog 16 #[.int .i64 z] w fun e w' => e = .returned (.int .i64 (1 + z % 14)) ∧ w = w' := by
  have h0 := Int.emod_nonneg z (show (14 : Int) ≠ 0 by omega)
  have h1 := Int.emod_lt_of_pos z (show (0 : Int) < 14 by omega)
  have HM := Lib.hid (fun W => mod_any z 14 hz (by omega) W)
  generalize z % 14 = q at *
  go_enter Tryd.func16, Tryd.ntmps16
  go_wp2_with (go_at_call 20; refine (HM.out _).mono ?_; rintro e w1 ⟨rfl, rfl⟩)
  go_ret
  exact ⟨rfl, rfl⟩
/-- A number in a table. -/
def tabA : Array Value := #[.int .i64 1, .int .i64 2, .int .i64 2, .int .i64 2, .int .i64 4, .int .i64 6, .int .i64 8, .int .i64 300]
def tabB : Array Value := #[.int .i64 0, .int .i64 0, .int .i64 1, .int .i64 2, .int .i64 2, .int .i64 4, .int .i64 6, .int .i64 7]
def tabC : Array Value := #[.int .i64 1, .int .i64 2, .int .i64 3, .int .i64 4]
theorem tabA_at (m : Nat) : ∃ t : Int, tabA[m % 8]? = some (.int .i64 t) ∧ 1 ≤ t ∧ t ≤ 300 := by
  have h : m % 8 < 8 := Nat.mod_lt _ (by omega)
  generalize m % 8 = j at h
  match j, h with
  | 0, _ => exact ⟨1, rfl, by omega, by omega⟩
  | 1, _ => exact ⟨2, rfl, by omega, by omega⟩
  | 2, _ => exact ⟨2, rfl, by omega, by omega⟩
  | 3, _ => exact ⟨2, rfl, by omega, by omega⟩
  | 4, _ => exact ⟨4, rfl, by omega, by omega⟩
  | 5, _ => exact ⟨6, rfl, by omega, by omega⟩
  | 6, _ => exact ⟨8, rfl, by omega, by omega⟩
  | 7, _ => exact ⟨300, rfl, by omega, by omega⟩
theorem tabB_at (m : Nat) : ∃ t : Int, tabB[m % 8]? = some (.int .i64 t) ∧ 0 ≤ t ∧ t ≤ 300 := by
  have h : m % 8 < 8 := Nat.mod_lt _ (by omega)
  generalize m % 8 = j at h
  match j, h with
  | 0, _ => exact ⟨0, rfl, by omega, by omega⟩
  | 1, _ => exact ⟨0, rfl, by omega, by omega⟩
  | 2, _ => exact ⟨1, rfl, by omega, by omega⟩
  | 3, _ => exact ⟨2, rfl, by omega, by omega⟩
  | 4, _ => exact ⟨2, rfl, by omega, by omega⟩
  | 5, _ => exact ⟨4, rfl, by omega, by omega⟩
  | 6, _ => exact ⟨6, rfl, by omega, by omega⟩
  | 7, _ => exact ⟨7, rfl, by omega, by omega⟩
theorem tabC_at (m : Nat) : ∃ t : Int, tabC[m % 4]? = some (.int .i64 t) ∧ 1 ≤ t ∧ t ≤ 300 := by
  have h : m % 4 < 4 := Nat.mod_lt _ (by omega)
  generalize m % 4 = j at h
  match j, h with
  | 0, _ => exact ⟨1, rfl, by omega, by omega⟩
  | 1, _ => exact ⟨2, rfl, by omega, by omega⟩
  | 2, _ => exact ⟨3, rfl, by omega, by omega⟩
  | 3, _ => exact ⟨4, rfl, by omega, by omega⟩
theorem infoCon : (Tryd.prog.info? 37).map (fun i => (i.zero, i.size, i.bytes)) = some (some (.agg #[.int .i64 0, .int .i64 0, .int .i64 0, .int .i64 0]), 4, 32) := by kernel_rfl
/-- A block of four cells, of the call's own. -/
def NewC (B : Nat) (v : Value) (w : World) : Prop := ∃ g cs, v = .pointer (some ⟨g, 0, none⟩) ∧ B ≤ g ∧ w.heap[g]? = some (.cells cs 37 (0, 0)) ∧ cs.size = 4
def MadePost (n : Nat) (w : World) (e : Ending) (w' : World) : Prop :=
  ∃ v cs, e = .returned v ∧ w'.ownsRow w.heap.size 37 4 v cs.length (consV cs) ∧ (∀ c ∈ cs, rightS n c = true) ∧ cs.length ≤ 60 ∧ Below w.heap.size w w'

set_option maxRecDepth 100000 in
set_option maxHeartbeats 4000000 in
theorem made_any (n : Nat) (hn : 0 < n) (hn2 : n ≤ 2000) (w : World) (ao : Option Addr) (len cap : Nat) (hlen : len ≤ 9223372036854775807) (h : ArrW ao len w) :
    Calls Tryd.prog 15 #[.int .i64 n, .slice ao len cap] w (MadePost n w) := by
  have H := Lib.hid h
  clear h
  obtain ⟨j0, hj, hy0, hy1, hy2⟩ := info_parts infoCon
  go_enter Tryd.func15, Tryd.ntmps15
  go_wp2_with fail
  go_loopw [5, 6] (fun s5 s6 wr => ∃ (k : Nat) (v5 : Value) (cs : List Con), s5 = v5 ∧ cs.length = k ∧ k ≤ 60 ∧ s6 = .int .i64 k ∧ Hid (wr.ownsRow w.heap.size 37 4 v5 k (consV cs)) ∧ Hid (∀ c ∈ cs, rightS n c = true) ∧ Hid (Below w.heap.size w wr)) (fun _ s6 _ => 60 - (intOf s6).toNat)
  case atStart => exact ⟨0, _, [], rfl, rfl, by omega, rfl, Lib.hid ⟨rfl, .inl ⟨rfl, rfl⟩⟩, Lib.hid (fun c hc => by simp at hc), Lib.hid (Below.refl _ _)⟩
  case round =>
    obtain ⟨k, v5, cs, h5, hck, hk, rfl, HOW, HRR, HB⟩ := hrel
    have h5' := h5.symm
    subst h5'
    have HCK := Lib.hid hck
    clear hck h5
    by_cases hlt : k < len
    · by_cases h60 : k < 60
      · obtain ⟨b, off, c, t, fr, rfl, hg, hc⟩ := H.out (by omega)
        obtain ⟨z0, hz0, hi0⟩ := hc k hlt 0 (by omega)
        obtain ⟨z1, hz1, hi1⟩ := hc k hlt 1 (by omega)
        obtain ⟨z2, hz2, hi2⟩ := hc k hlt 2 (by omega)
        obtain ⟨z3, hz3, hi3⟩ := hc k hlt 3 (by omega)
        have HG := Lib.hid (below_keep HB.out hg)
        have HM0 := Lib.hid (fun W => mod_any z0 7 hi0 (by omega) W)
        have HM1 := Lib.hid (fun W => mod_any z1 n hi1 (by omega) W)
        have HM2 := Lib.hid (fun W => mod_any z2 n hi2 (by omega) W)
        have HM3 := Lib.hid (fun W => mod_any z3 16 hi3 (by omega) W)
        have HZ := Lib.hid (And.intro hz0 (And.intro hz1 (And.intro hz2 hz3)))
        obtain ⟨m0, hm0⟩ := Int.eq_ofNat_of_zero_le (Int.emod_nonneg z0 (show (7 : Int) ≠ 0 by omega))
        obtain ⟨m1, hm1⟩ := Int.eq_ofNat_of_zero_le (Int.emod_nonneg z1 (show (n : Int) ≠ 0 by omega))
        obtain ⟨m2, hm2⟩ := Int.eq_ofNat_of_zero_le (Int.emod_nonneg z2 (show (n : Int) ≠ 0 by omega))
        obtain ⟨m3, hm3⟩ := Int.eq_ofNat_of_zero_le (Int.emod_nonneg z3 (show (16 : Int) ≠ 0 by omega))
        have l0 : m0 < 7 := by have := Int.emod_lt_of_pos z0 (show (0 : Int) < 7 by omega); omega
        have l1 : m1 < n := by have := Int.emod_lt_of_pos z1 (show (0 : Int) < n by omega); omega
        have l2 : m2 < n := by have := Int.emod_lt_of_pos z2 (show (0 : Int) < n by omega); omega
        have l3 : m3 < 16 := by have := Int.emod_lt_of_pos z3 (show (0 : Int) < 16 by omega); omega
        rw [hm0] at HM0
        rw [hm1] at HM1
        rw [hm2] at HM2
        rw [hm3] at HM3
        clear hm0 hm1 hm2 hm3 hg hc hz0 hz1 hz2 hz3
        have hwr : IntKind.i64.wrap (1 + (m0 : Int)) = 1 + (m0 : Int) := IntWalk.i64_in _ (by omega)
        go_upto_region 5 with fail
        refine wp_region_relyT [] 16 (factOf [isV ((.slice (some ⟨b, off, none⟩) len cap)), isV ((.int .i64 (k : Int))), isV ((.pointer (some ⟨b, off + k * 4, none⟩))), isV ((.pointer (some ⟨b, off + k * 4, none⟩))), isV ((.int .i64 z0)), isV ((.int .i64 (m0 : Int))), isV ((.int .i64 (1 + (m0 : Int)))), isV ((.slice (some ⟨b, off, none⟩) len cap)), isV ((.int .i64 (k : Int))), isV ((.pointer (some ⟨b, off + k * 4, none⟩))), isV ((.pointer (some ⟨b, off + k * 4 + 1, none⟩))), isV ((.int .i64 z1)), isV ((.int .i64 (n : Int))), isV ((.int .i64 (m1 : Int))), isV ((.agg #[.int .i64 (1 + (m0 : Int)), .int .i64 (m1 : Int), .int .i64 0, .int .i64 0])), isVT ((fun _ => False)) (NewC wr.heap.size)]) (nth [[0], [1], [2], [3], [4], [5], [6], [7], [8], [9], [10], [11], [12], [13], [14], [15]]) (nth [[], [], [], [], [], [], [], [], [], [], [], [], [], [], [], []]) (nth [[], [], [0, 1], [2], [3], [4], [5], [], [], [7, 8], [9], [10], [], [11, 12, 5], [6, 13], []]) [14, 15] (fun w5 => Turn (fun _ => False) wr w5) (by kernel_rfl) (by kernel_rfl) ((Turn.refl _ _).drew) (fun w w' h hb => h.trans (Turn.ofBelow (bs := fun _ => False) hb) (fun _ _ h => h.elim)) (GrowsAll.of ((GrowsAll.cons (Grows.isV _)  (GrowsAll.cons (Grows.isV _)  (GrowsAll.cons (Grows.isV _)  (GrowsAll.cons (Grows.isV _)  (GrowsAll.cons (Grows.isV _)  (GrowsAll.cons (Grows.isV _)  (GrowsAll.cons (Grows.isV _)  (GrowsAll.cons (Grows.isV _)  (GrowsAll.cons (Grows.isV _)  (GrowsAll.cons (Grows.isV _)  (GrowsAll.cons (Grows.isV _)  (GrowsAll.cons (Grows.isV _)  (GrowsAll.cons (Grows.isV _)  (GrowsAll.cons (Grows.isV _)  (GrowsAll.cons (Grows.isV _)  (GrowsAll.cons (Grows.isVT _ _) GrowsAll.nil)))))))))))))))))) (fun f F hF => ?_)
        simp only [List.take_succ_cons, List.take_zero, fullGo, Act.put, List.setIfInBounds_toArray, List.set_cons_zero, List.set_cons_succ, Nat.reduceAdd] at hF
        subst hF
        refine ⟨StepObsF.cons ?_ (StepObsF.cons ?_ (StepObsF.cons ?_ (StepObsF.cons ?_ (StepObsF.cons ?_ (StepObsF.cons ?_ (StepObsF.cons ?_ (StepObsF.cons ?_ (StepObsF.cons ?_ (StepObsF.cons ?_ (StepObsF.cons ?_ (StepObsF.cons ?_ (StepObsF.cons ?_ (StepObsF.cons ?_ (StepObsF.cons ?_ (StepObsF.cons ?_ (StepObsF.nil)))))))))))))))), ?_⟩
        · intro w5 hS hF hD K hK
          rw [if_pos (by rfl)]
          refine wp_of_quiet (v := (.slice (some ⟨b, off, none⟩) len cap)) (by (show _ = _); kernel_rfl) (hK.out _ _ rfl (After.lit rfl rfl rfl ?_))
          first | rfl | kernel_rfl
        · intro w5 hS hF hD K hK
          rw [if_pos (by rfl)]
          refine wp_of_quiet (v := (.int .i64 (k : Int))) (by (show _ = _); kernel_rfl) (hK.out _ _ rfl (After.lit rfl rfl rfl ?_))
          first | rfl | kernel_rfl
        · intro w5 hS hF hD K hK
          obtain ⟨e0, e1, -⟩ := hF
          replace e0 : f 0 = _ := e0
          replace e1 : f 1 = _ := e1
          try simp only [e0, e1]
          rw [if_pos (by rfl)]
          go_simp
          refine hK.out _ _ rfl (After.lit rfl rfl rfl ?_)
          first | rfl | kernel_rfl
        · intro w5 hS hF hD K hK
          obtain ⟨e2, -⟩ := hF
          replace e2 : f 2 = _ := e2
          try simp only [e2]
          rw [if_pos (by rfl)]
          refine wp_of_quiet (v := (.pointer (some ⟨b, off + k * 4, none⟩))) (by (show _ = _); kernel_rfl) (hK.out _ _ rfl (After.lit rfl rfl rfl ?_))
          first | rfl | kernel_rfl
        · intro w5 hS hF hD K hK
          obtain ⟨e3, -⟩ := hF
          replace e3 : f 3 = _ := e3
          try simp only [e3]
          rw [if_pos (by rfl)]
          exact wp_of_quiet (exec_load_at _ _ rfl _ _ rfl _ _ _ (hS.heap HG.out (fun h => h)) ((.int .i64 z0)) (HZ.out.1) (fun _ => by kernel_rfl)) (hK.out _ _ rfl (After.lit rfl rfl rfl (by first | rfl | kernel_rfl)))
        · intro w5 hS hF hD K hK
          obtain ⟨e4, -⟩ := hF
          replace e4 : f 4 = _ := e4
          try simp only [e4]
          rw [if_pos (by rfl)]
          go_simp
          refine (HM0.out _).mono ?_; rintro e w3 ⟨rfl, rfl⟩; have hbelow := Below.refl w5.heap.size w5; go_simp
          refine hK.out _ _ rfl (After.litB rfl rfl rfl hbelow ?_)
          first | rfl | kernel_rfl
        · intro w5 hS hF hD K hK
          obtain ⟨e5, -⟩ := hF
          replace e5 : f 5 = _ := e5
          try simp only [e5]
          rw [if_pos (by rfl)]
          go_simp
          refine hK.out _ _ rfl (After.lit rfl rfl rfl ?_)
          first | rfl | kernel_rfl
        · intro w5 hS hF hD K hK
          rw [if_pos (by rfl)]
          refine wp_of_quiet (v := (.slice (some ⟨b, off, none⟩) len cap)) (by (show _ = _); kernel_rfl) (hK.out _ _ rfl (After.lit rfl rfl rfl ?_))
          first | rfl | kernel_rfl
        · intro w5 hS hF hD K hK
          rw [if_pos (by rfl)]
          refine wp_of_quiet (v := (.int .i64 (k : Int))) (by (show _ = _); kernel_rfl) (hK.out _ _ rfl (After.lit rfl rfl rfl ?_))
          first | rfl | kernel_rfl
        · intro w5 hS hF hD K hK
          obtain ⟨e7, e8, -⟩ := hF
          replace e7 : f 7 = _ := e7
          replace e8 : f 8 = _ := e8
          try simp only [e7, e8]
          rw [if_pos (by rfl)]
          go_simp
          refine hK.out _ _ rfl (After.lit rfl rfl rfl ?_)
          first | rfl | kernel_rfl
        · intro w5 hS hF hD K hK
          obtain ⟨e9, -⟩ := hF
          replace e9 : f 9 = _ := e9
          try simp only [e9]
          rw [if_pos (by rfl)]
          refine wp_of_quiet (v := (.pointer (some ⟨b, off + k * 4 + 1, none⟩))) (by (show _ = _); kernel_rfl) (hK.out _ _ rfl (After.lit rfl rfl rfl ?_))
          first | rfl | kernel_rfl
        · intro w5 hS hF hD K hK
          obtain ⟨e10, -⟩ := hF
          replace e10 : f 10 = _ := e10
          try simp only [e10]
          rw [if_pos (by rfl)]
          exact wp_of_quiet (exec_load_at _ _ rfl _ _ rfl _ _ _ (hS.heap HG.out (fun h => h)) ((.int .i64 z1)) (HZ.out.2.1) (fun _ => by kernel_rfl)) (hK.out _ _ rfl (After.lit rfl rfl rfl (by first | rfl | kernel_rfl)))
        · intro w5 hS hF hD K hK
          rw [if_pos (by rfl)]
          refine wp_of_quiet (v := (.int .i64 (n : Int))) (by (show _ = _); kernel_rfl) (hK.out _ _ rfl (After.lit rfl rfl rfl ?_))
          first | rfl | kernel_rfl
        · intro w5 hS hF hD K hK
          obtain ⟨e11, e12, e5, -⟩ := hF
          replace e11 : f 11 = _ := e11
          replace e12 : f 12 = _ := e12
          replace e5 : f 5 = _ := e5
          try simp only [e11, e12, e5]
          rw [if_pos (by rfl)]
          go_simp
          refine (HM1.out _).mono ?_; rintro e w3 ⟨rfl, rfl⟩; have hbelow := Below.refl w5.heap.size w5; go_simp
          refine hK.out _ _ rfl (After.litB rfl rfl rfl hbelow ?_)
          first | rfl | kernel_rfl
        · intro w5 hS hF hD K hK
          obtain ⟨e6, e13, -⟩ := hF
          replace e6 : f 6 = _ := e6
          replace e13 : f 13 = _ := e13
          try simp only [e6, e13]
          rw [if_pos (by rfl)]
          refine wp_of_quiet (v := (.agg #[.int .i64 (1 + (m0 : Int)), .int .i64 (m1 : Int), .int .i64 0, .int .i64 0])) (by (show _ = _); kernel_rfl) (hK.out _ _ rfl (After.lit rfl rfl rfl ?_))
          first | rfl | kernel_rfl
        · intro w5 hS hF hD K hK
          rw [if_pos (by rfl)]
          go_simp
          exact hK.out _ _ rfl (After.litD rfl rfl rfl rfl ((by simp)) (hS.alloc _) (StaysE.isV (StaysE.isV (StaysE.isV (StaysE.isV (StaysE.isV (StaysE.isV (StaysE.isV (StaysE.isV (StaysE.isV (StaysE.isV (StaysE.isV (StaysE.isV (StaysE.isV (StaysE.isV (StaysE.isV (StaysE.out (by rfl) StaysE.nil)))))))))))))))) (⟨_, _, rfl, hS.size, heap_alloc_new _ _, rfl⟩))
        intro w5 hS hF
        obtain ⟨e14, e15, -⟩ := hF
        replace e14 : f 14 = _ := e14
        obtain ⟨y15, p15, t15⟩ := e15
        try simp only [e14]
        simp only [List.drop_succ_cons, List.drop_zero]
        obtain ⟨g5, c5, hf5, hg5, hcs5, hsz5⟩ := p15
        have hblk5 := t15.heap hcs5 (fun h => h)
        have HS5 := Lib.hid hS
        have HK5 := Lib.hid hblk5
        have HZ5 := Lib.hid hsz5
        simp only [hf5]
        clear hS t15 hcs5 hblk5 hsz5 hf5 e14
        obtain ⟨K, hK⟩ : ∃ K : Int, K = 1 + (m0 : Int) := ⟨_, rfl⟩
        rw [← hK] at hwr ⊢
        have hK1 : 1 ≤ K ∧ K ≤ 7 := by omega
        clear hwr hK
        go_upto_region 6 with (refine wpList_store_row rfl _ _ _ rfl _ _ rfl rfl _ _ (HK5.out) ?_ ?_ ?_ ?_; kernel_rfl; (rw [HZ5.out]; rfl); kernel_rfl)
        obtain ⟨W6, hW6⟩ : ∃ W6, W6 = w5.setRow g5 #[.int .i64 K, .int .i64 (m1 : Int), .int .i64 0, .int .i64 0] := ⟨_, rfl⟩
        have ht6 : Turn (fun q => q = g5) w5 W6 := by rw [hW6]; exact (Turn.refl (fun q => q = g5) w5).setRow _ (fun _ => rfl)
        have hb6 : W6.heap[g5]? = some (.cells #[.int .i64 K, .int .i64 (m1 : Int), .int .i64 0, .int .i64 0] 37 (0, 0)) := by rw [hW6]; exact setRow_heap _ _ _ _ _ _ HK5.out
        rw [← hW6]
        have HBLK := Lib.hid hb6
        have HTW := Lib.hid (show Turn (fun q => wr.heap.size ≤ q) wr W6 from (HS5.out.mono (fun _ _ h => h.elim)).trans ht6 (fun q _ h => by omega))
        have hgl6 : g5 < W6.heap.size := (Array.getElem?_eq_some_iff.1 hb6).1
        have hgc := HTW.out.heap HG.out (fun h => by have := (Array.getElem?_eq_some_iff.1 HG.out).1; omega)
        have q0 : W6.cell? ⟨g5, 0, none⟩ = some (.int .i64 K) := by rw [cell_of_row _ _ _ _ _ _ hb6]; rfl
        have q3 : W6.cell? ⟨b, off + k * 4 + 3, none⟩ = some (.int .i64 z3) := by rw [cell_of_row _ _ _ _ _ _ hgc]; exact HZ.out.2.2.2
        have q2 : W6.cell? ⟨b, off + k * 4 + 2, none⟩ = some (.int .i64 z2) := by rw [cell_of_row _ _ _ _ _ _ hgc]; exact HZ.out.2.2.1
        have hszw : w.heap.size ≤ wr.heap.size := HB.out.size
        have f2 : W6.frozen? ⟨g5, 2, none⟩ = false := frozen_of_row _ _ _ _ _ hb6
        have f3 : W6.frozen? ⟨g5, 3, none⟩ = false := frozen_of_row _ _ _ _ _ hb6
        have c2 : W6.cell? ⟨g5, 2, none⟩ = some (.int .i64 0) := by rw [cell_of_row _ _ _ _ _ _ hb6]; rfl
        have c3 : W6.cell? ⟨g5, 3, none⟩ = some (.int .i64 0) := by rw [cell_of_row _ _ _ _ _ _ hb6]; rfl
        clear hW6 ht6 hb6 hgc HK5 HZ5 HS5 HG
        go_upto_block 2 with (go_at_call 20; refine (HM3.out _).mono ?_; rintro e w9 ⟨rfl, rfl⟩)
        go_cut [] (fun wx => ∃ c : Con, Hid (rightS n c = true) ∧ Hid (wx.heap[g5]? = some (.cells (conCells c) 37 (0, 0))) ∧ Hid (Turn (fun q => q = g5) W6 wx))
        case first =>
          rcases (show K = 1 ∨ K = 2 ∨ K = 3 ∨ K = 4 ∨ K = 5 ∨ K = 6 ∨ K = 7 by omega) with rfl | rfl | rfl | rfl | rfl | rfl | rfl
          · go_wp2_with (go_at_call 20; refine (HM2.out _).mono ?_; rintro e w9 ⟨rfl, rfl⟩)
            go_meet
            case rel =>
              exact ⟨⟨1, (m1 : Int), (m2 : Int), 0⟩, Lib.hid (by simp [rightS]; omega), Lib.hid ((heap_setCell_same HBLK.out _).trans rfl), Lib.hid ((Turn.refl (fun q => q = g5) _).setCell _ (fun _ => rfl))⟩
          · obtain ⟨t, ht, ht1, ht2⟩ := tabA_at m3
            have ktab : ∀ W : World, (W.alloc (.cells tabA 3)).cell? ⟨W.heap.size, m3 % 8, none⟩ = some (.int .i64 t) := fun W => by rw [cell_of_row _ _ _ _ _ _ (heap_alloc_new W _)]; exact ht
            unfold tabA at ktab
            have hm8 : m3 % 8 < 8 := Nat.mod_lt _ (by omega)
            clear ht
            go_wp2_with fail
            go_meet
            case rel =>
              exact ⟨⟨2, (m1 : Int), 0, t⟩, Lib.hid (by simp [rightS]; omega), Lib.hid ((alloc_other _ _ (by simp [World.setCell]; exact hgl6)).trans ((heap_setCell_same HBLK.out _).trans rfl)), Lib.hid (((Turn.refl (fun q => q = g5) _).setCell _ (fun _ => rfl)).alloc _)⟩
          · go_wp2_with fail
            go_meet
            case rel =>
              exact ⟨⟨3, (m1 : Int), 0, 0⟩, Lib.hid (by simp [rightS]; omega), Lib.hid (HBLK.out), Lib.hid (Turn.refl _ _)⟩
          · go_wp2_with fail
            go_meet
            case rel =>
              exact ⟨⟨4, (m1 : Int), 0, 0⟩, Lib.hid (by simp [rightS]; omega), Lib.hid (HBLK.out), Lib.hid (Turn.refl _ _)⟩
          · go_wp2_with (go_at_call 20; refine (HM2.out _).mono ?_; rintro e w9 ⟨rfl, rfl⟩)
            go_meet
            case rel =>
              exact ⟨⟨5, (m1 : Int), (m2 : Int), 0⟩, Lib.hid (by simp [rightS]; omega), Lib.hid ((heap_setCell_same HBLK.out _).trans rfl), Lib.hid ((Turn.refl (fun q => q = g5) _).setCell _ (fun _ => rfl))⟩
          · obtain ⟨t, ht, ht1, ht2⟩ := tabB_at m3
            have ktab : ∀ W : World, (W.alloc (.cells tabB 3)).cell? ⟨W.heap.size, m3 % 8, none⟩ = some (.int .i64 t) := fun W => by rw [cell_of_row _ _ _ _ _ _ (heap_alloc_new W _)]; exact ht
            have ktab2 : ∀ x : Value, ((W6.setCell ⟨g5, 2, none⟩ x).alloc (.cells #[.int .i64 0, .int .i64 0, .int .i64 1, .int .i64 2, .int .i64 2, .int .i64 4, .int .i64 6, .int .i64 7] 3)).cell? ⟨W6.heap.size, m3 % 8, none⟩ = some (.int .i64 t) := fun x => by have h9 := ktab (W6.setCell ⟨g5, 2, none⟩ x); unfold tabB at h9; simpa [World.setCell] using h9
            unfold tabB at ktab
            have hm8 : m3 % 8 < 8 := Nat.mod_lt _ (by omega)
            clear ht
            go_wp2_with (go_at_call 20; refine (HM2.out _).mono ?_; rintro e w9 ⟨rfl, rfl⟩)
            go_meet
            case rel =>
              exact ⟨⟨6, (m1 : Int), (m2 : Int), t⟩, Lib.hid (by simp [rightS]; omega), Lib.hid ((alloc_other _ _ (by simp [World.setCell]; exact hgl6)).trans ((heap_setCell_same (heap_setCell_same HBLK.out _) _).trans rfl)), Lib.hid ((((Turn.refl (fun q => q = g5) _).setCell _ (fun _ => rfl)).setCell _ (fun _ => rfl)).alloc _)⟩
          · obtain ⟨t, ht, ht1, ht2⟩ := tabC_at m3
            have ktab : ∀ W : World, (W.alloc (.cells tabC 3)).cell? ⟨W.heap.size, m3 % 4, none⟩ = some (.int .i64 t) := fun W => by rw [cell_of_row _ _ _ _ _ _ (heap_alloc_new W _)]; exact ht
            have ktab2 : ∀ x : Value, ((W6.setCell ⟨g5, 2, none⟩ x).alloc (.cells #[.int .i64 1, .int .i64 2, .int .i64 3, .int .i64 4] 3)).cell? ⟨W6.heap.size, m3 % 4, none⟩ = some (.int .i64 t) := fun x => by have h9 := ktab (W6.setCell ⟨g5, 2, none⟩ x); unfold tabC at h9; simpa [World.setCell] using h9
            unfold tabC at ktab
            have hm8 : m3 % 4 < 4 := Nat.mod_lt _ (by omega)
            clear ht
            go_wp2_with (go_at_call 20; refine (HM2.out _).mono ?_; rintro e w9 ⟨rfl, rfl⟩)
            go_meet
            case rel =>
              exact ⟨⟨7, (m1 : Int), (m2 : Int), t⟩, Lib.hid (by simp [rightS]; omega), Lib.hid ((alloc_other _ _ (by simp [World.setCell]; exact hgl6)).trans ((heap_setCell_same (heap_setCell_same HBLK.out _) _).trans rfl)), Lib.hid ((((Turn.refl (fun q => q = g5) _).setCell _ (fun _ => rfl)).setCell _ (fun _ => rfl)).alloc _)⟩
        case rest =>
          obtain ⟨c, HR1, HC1, HT1⟩ := hcut
          clear q0 q2 q3 f2 f3 c2 c3
          have HOC := Lib.hid (own_turn (own_turn HOW.out HTW.out (fun q hq h => by have := (HOW.out.lt q hq).2; omega)) HT1.out (fun q hq h => by have := (HOW.out.lt q hq).2; omega))
          have hT2 : Turn (fun q => wr.heap.size ≤ q) wr wc := HTW.out.trans HT1.out (fun q _ h => by omega)
          have HT2 := Lib.hid hT2
          have hsz2 := hT2.size
          have HCL := Lib.hid (consV_len cs)
          obtain ⟨K2, A2, B2, N2⟩ := c
          have HC2 := Lib.hid (show wc.heap[g5]? = some (.cells #[.int .i64 K2, .int .i64 A2, .int .i64 B2, .int .i64 N2] 37 (0, 0)) from HC1.out)
          clear hT2 HC1
          go_wp2_with (first | (refine wpList_load_row rfl _ _ rfl _ rfl _ _ _ _ (HC2.out) rfl rfl ?_ ?_; kernel_rfl) | (at_builtin; refine wpList_append_own _ rfl _ _ 24 rfl w.heap.size 37 j0 (.agg #[.int .i64 0, .int .i64 0, .int .i64 0, .int .i64 0]) 4 32 Tryd.underlying24 hj hy0 hy1 hy2 rfl (by decide) _ k (consV cs) rfl (own_turn HOC.out ((Turn.refl (fun _ => False) _).alloc _) (fun _ _ h => h)) ⟨wc.heap.size, 0, none⟩ 1 1 [.int .i64 K2, .int .i64 A2, .int .i64 B2, .int .i64 N2] rfl rfl (cells_new _ _ _ _ rfl) (by intro u hu; simp at hu; rcases hu with rfl | rfl | rfl | rfl <;> rfl) (by unfold maxLen; omega) (by omega) (Nat.le_trans hszw (Nat.le_trans hsz2 (by simp))) ?_; intro v9 w9 hown9 hgrow9 _))
          have hT9 : Turn (fun q => w.heap.size ≤ q) wr w9 := (HT2.out.mono (fun q _ h => Nat.le_trans hszw h)).trans (((Turn.refl (fun q => w.heap.size ≤ q) wc).alloc _).grown hgrow9 (fun q e _ => (own_cells HOC.out q e).1)) (fun _ _ h => h)
          refine ⟨⟨k + 1, _, cs ++ [⟨K2, A2, B2, N2⟩], rfl, by rw [List.length_append, HCK.out]; rfl, by omega, by go_num, Lib.hid (by rw [consV_snoc]; exact hown9), Lib.hid (fun c hc => ?_), Lib.hid (HB.out.trans (hT9.toBelow hszw (fun _ h => h)))⟩, by simp [intOf]; omega⟩
          rcases List.mem_append.1 hc with hc | hc
          · exact HRR.out c hc
          · simp only [List.mem_singleton] at hc
            subst hc; exact HR1.out
      · have hk60 : k = 60 := by omega
        subst hk60
        go_wp2_with fail
        go_ret
        exact ⟨_, cs, rfl, by rw [HCK.out]; exact HOW.out, HRR.out, by rw [HCK.out]; omega, HB.out⟩
    · have hlt2 : len ≤ k := by omega
      go_wp2_with fail
      go_ret
      exact ⟨_, cs, rfl, by rw [HCK.out]; exact HOW.out, HRR.out, by rw [HCK.out]; omega, HB.out⟩
end Go.Proofs.YtepmgnhblegiiaaDoor
