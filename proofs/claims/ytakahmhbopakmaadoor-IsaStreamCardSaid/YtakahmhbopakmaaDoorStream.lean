/- IsaStream: walked. Conditions: the library's tables read as the text lays them; the slice's rows lie where its pointer says. -/
import Derived.Test.YtakahmhbopakmaaDoorSane
import Derived.Test.YtakahmhbopakmaaDoorPlainA
import Derived.Test.YtakahmhbopakmaaDoorMadeC
import Derived.Test.YtakahmhbopakmaaDoorRely
import Derived.Deep.DeepCutAuto
set_option linter.all false
namespace Go.Proofs.YtakahmhbopakmaaDoor
open Go.RowKit

def rowQ (q : Nat → Int) : List Value := [.int .i64 (q 0), .int .i64 (q 1), .int .i64 (q 2), .int .i64 (q 3), .int .i64 (q 4)]
def insQ (q : Nat → Int) : Ins := madeS (q 0) (q 1) (q 2) (q 3) (q 4)
/-- The encodings of m instructions from number a on. -/
def catQ (Q : Nat → Nat → Int) : Nat → Nat → List Int
  | _, 0 => []
  | a, m + 1 => encB (insQ (Q a)) ++ catQ Q (a + 1) m
theorem catQ_snoc (Q : Nat → Nat → Int) : ∀ (m a : Nat), catQ Q a (m + 1) = catQ Q a m ++ encB (insQ (Q (a + m)))
  | 0, a => by simp [catQ]
  | m + 1, a => by
    rw [catQ, catQ_snoc Q m (a + 1), catQ, List.append_assoc, show a + 1 + m = a + (m + 1) by omega]
theorem strOf_append (a b : List Int) : strOf (a ++ b) = strOf a ++ strOf b := by
  apply ByteArray.ext
  simp [strOf]
theorem encQ_size (Q : Nat → Nat → Int) (k : Nat) : (encB (insQ (Q k))).length ≤ 7 := by
  have hi := made_ok (Q k 0) (Q k 1) (Q k 2) (Q k 3) (Q k 4)
  have hv := made_valid (Q k 0) (Q k 1) (Q k 2) (Q k 3) (Q k 4)
  obtain ⟨-, -, e3⟩ := enc_valid _ hi hv
  have := valid_size_bd hi hv
  show (encB (madeS (Q k 0) (Q k 1) (Q k 2) (Q k 3) (Q k 4))).length ≤ 7
  omega
theorem catQ_size (Q : Nat → Nat → Int) : ∀ (m a : Nat), (catQ Q a m).length ≤ 7 * m
  | 0, a => by simp [catQ]
  | m + 1, a => by
    have h1 := encQ_size Q a
    have h2 := catQ_size Q m (a + 1)
    rw [catQ, List.length_append]; omega
theorem exec_load_midR {P : Program} {o : Oper} {a : Act} {w : World} (ty : TypeId) (x : Operand) (ho : o.op = .load ty x) (g off : Nat) (hx : a.eval x = .pointer (some ⟨g, off, none⟩)) (l : List Value) (hra : w.rangeAt g off l) (hr : rowB P ty l.length = true) :
    (execOp a.eval o).run P w = .ok (.value (.agg l.toArray)) w := by
  simp only [rowB, Bool.and_eq_true, beq_iff_eq] at hr
  cases hu : P.underlying ty with
  | none => rw [hu] at hr; exact absurd hr.1 (by simp)
  | some d =>
    rw [hu] at hr
    unfold execOp
    have hd : d.isRow = true := by
      have := hr.1
      cases d <;> first | rfl | exact absurd this (by simp)
    simp only [ho, hx, Sem.run_bind, run_loadAt_mid w g off ty l d hra hu hd hr.2, Sem.run_pure, Result.andThen_ok]
theorem rows_of {w : World} {b o : Nat} {q : Nat → Int} (h : ∀ j, j < 5 → w.cell? ⟨b, o + j, none⟩ = some (.int .i64 (q j))) : w.rangeAt b o (rowQ q) := fun j v hv => by
  match j, hv with
  | 0, hv => rw [h 0 (by omega)]; exact hv
  | 1, hv => rw [h 1 (by omega)]; exact hv
  | 2, hv => rw [h 2 (by omega)]; exact hv
  | 3, hv => rw [h 3 (by omega)]; exact hv
  | 4, hv => rw [h 4 (by omega)]; exact hv
theorem range_stay {w0 w : World} {b o : Nat} {cs : List Value} {B : Nat} (h : w0.rangeAt b o cs) (hb : Below B w0 w) (hB : b < B) : w.rangeAt b o cs := fun j v hv => by
  rw [hb.cell (p := ⟨b, o + j, none⟩) hB]
  exact h j v hv
theorem extract_append_right (s t : ByteArray) : (s ++ t).extract s.size (s ++ t).size = t := ByteArray.extract_append_eq_right rfl ByteArray.size_append
theorem enc_pos (q : Nat → Int) : 1 ≤ (insQ q).size := by
  have hi := made_ok (q 0) (q 1) (q 2) (q 3) (q 4)
  have hv := made_valid (q 0) (q 1) (q 2) (q 3) (q 4)
  obtain ⟨e1, -, e3⟩ := enc_valid _ hi hv
  have := congrArg List.length e1
  simp only [List.length_cons] at this
  unfold insQ
  omega

set_option maxRecDepth 100000 in
set_option maxHeartbeats 8000000 in
theorem stream_any (p : Option Addr) (n cap b off : Nat) (Q : Nat → Nat → Int) (hn : n ≤ 140737488351232) (hp : 0 < n → p = some ⟨b, off, none⟩) (w : World) (hQ : ∀ i, i < n → w.rangeAt b (off + i * 5) (rowQ (Q i))) (hbl : 0 < n → b < w.heap.size) (hcap : n ≤ cap) (hT : Tabs w) :
    Calls Tryd.prog 12 #[.slice p n cap] w fun e w' => e = .returned (.bool true) ∧ Below w.heap.size w w' := by
  have HT := Lib.hid hT
  have HP := Lib.hid hp
  have HQ := Lib.hid hQ
  have HBL := Lib.hid hbl
  clear hT hp hQ hbl
  go_enter Tryd.func12, Tryd.ntmps12
  go_upto_region 2 with (go_at_call 15; refine (sanity_any _ HT.out).mono ?_; rintro e w1 ⟨rfl, hb1⟩; have HB := Lib.hid hb1; clear hb1)
  go_upto_block 0 with fail
  go_cut [4, 5] (fun s4 s5 wx => ∃ k : Nat, k ≤ n ∧ k ≤ 20 ∧ (k = n ∨ k = 20) ∧ s4 = .string (strOf (catQ Q 0 k)) ∧ Hid (Below w.heap.size w wx))
  case first =>
    go_wp2_with fail
    go_loopw [4, 5] (fun s4 s5 wr => ∃ k : Nat, k ≤ n ∧ k ≤ 20 ∧ s5 = .int .i64 k ∧ s4 = .string (strOf (catQ Q 0 k)) ∧ Hid (Below w.heap.size w wr)) (fun _ s5 _ => 20 - (intOf s5).toNat)
    case atStart => exact ⟨0, by omega, by omega, rfl, rfl, HB⟩
    case round =>
      obtain ⟨k, hk1, hk2, rfl, rfl, HB⟩ := hrel
      by_cases h1 : k < n
      · by_cases h2 : k < 20
        · obtain rfl := HP.out (by omega)
          have hbl := HBL.out (by omega)
          have HR := Lib.hid (range_stay (HQ.out k h1) HB.out hbl)
          have hi := made_ok (Q k 0) (Q k 1) (Q k 2) (Q k 3) (Q k 4)
          have hv := made_valid (Q k 0) (Q k 1) (Q k 2) (Q k 3) (Q k 4)
          obtain ⟨-, ee, -⟩ := enc_valid _ hi hv
          have EE := Lib.hid ee
          have HI := Lib.hid hi
          have HS := Lib.hid (show strOf (catQ Q 0 k) ++ strOf (encB (madeS (Q k 0) (Q k 1) (Q k 2) (Q k 3) (Q k 4))) = strOf (catQ Q 0 (k + 1)) by rw [catQ_snoc, strOf_append, Nat.zero_add]; rfl)
          have z1 : (strOf (catQ Q 0 k)).size ≤ 140 := by rw [strOf_size]; have := catQ_size Q k 0; omega
          have z2 : (strOf (encB (madeS (Q k 0) (Q k 1) (Q k 2) (Q k 3) (Q k 4)))).size ≤ 7 := by rw [strOf_size]; exact encQ_size Q k
          clear ee hi hv
          have HM := Lib.hid (fun W => made_any (Q k 0) (Q k 1) (Q k 2) (Q k 3) (Q k 4) W)
          generalize madeS (Q k 0) (Q k 1) (Q k 2) (Q k 3) (Q k 4) = x at *
          go_wp2_with (first
            | (refine wpList_load_mid rfl _ (.tmp 25) rfl b (off + k * 5) rfl (rowQ (Q k)) _ HR.out Tryd.underlying25 rfl ?_ ?_; kernel_rfl)
            | (go_at_call 16; refine (HM.out _).mono ?_; rintro e w2 ⟨rfl, hb2⟩; replace HB := Lib.hid (HB.out.trans (hb2.mono HB.out.size)); clear hb2)
            | (go_at_call 18; refine (encode_any x HI.out _).mono ?_; rintro e w3 ⟨rfl, hb3⟩; rw [EE.out]; replace HB := Lib.hid (HB.out.trans (hb3.mono HB.out.size)); clear hb3))
          go_roundw
          case rel => exact ⟨k + 1, by omega, by omega, by go_num, by rw [HS.out], HB⟩
          case measure => simp [intOf]; omega
        · go_wp2_with fail
          go_meet
          exact ⟨k, by omega, by omega, by omega, rfl, HB⟩
      · go_wp2_with fail
        go_meet
        exact ⟨k, by omega, by omega, by omega, rfl, HB⟩
  case rest =>
    obtain ⟨N, hN1, hN2, hN3, rfl, HB⟩ := hcut
    go_wp2_with fail
    go_loopw [4, 8] (fun s4 s8 wr => ∃ k : Nat, k ≤ N ∧ s8 = .int .i64 k ∧ s4 = .string (strOf (catQ Q k (N - k))) ∧ Hid (Below w.heap.size w wr)) (fun _ s8 _ => 20 - (intOf s8).toNat)
    case atStart => exact ⟨0, by omega, rfl, rfl, HB⟩
    case round =>
      obtain ⟨k, hk, rfl, rfl, HB⟩ := hrel
      by_cases h1 : k < N
      · have h2 : k < n := by omega
        have h3 : k < 20 := by omega
        obtain rfl := HP.out (by omega)
        have hbl := HBL.out (by omega)
        have hi := made_ok (Q k 0) (Q k 1) (Q k 2) (Q k 3) (Q k 4)
        have hv := made_valid (Q k 0) (Q k 1) (Q k 2) (Q k 3) (Q k 4)
        obtain ⟨-, -, e3⟩ := enc_valid _ hi hv
        have hp1 := enc_pos (Q k)
        have hp7 := valid_size_bd hi hv
        have hcat : catQ Q k (N - k) = encB (madeS (Q k 0) (Q k 1) (Q k 2) (Q k 3) (Q k 4)) ++ catQ Q (k + 1) (N - (k + 1)) := by
          rw [show N - k = (N - (k + 1)) + 1 by omega]; rfl
        rw [hcat, strOf_append]
        have z2 : (strOf (catQ Q (k + 1) (N - (k + 1)))).size ≤ 140 := by rw [strOf_size]; have := catQ_size Q (N - (k + 1)) (k + 1); omega
        obtain ⟨d1, d2⟩ := dec_enc _ hi hv (strOf (catQ Q (k + 1) (N - (k + 1))))
        have HM := Lib.hid (fun W => made_any (Q k 0) (Q k 1) (Q k 2) (Q k 3) (Q k 4) W)
        replace hp1 : 1 ≤ (madeS (Q k 0) (Q k 1) (Q k 2) (Q k 3) (Q k 4)).size := hp1
        have e3' : ((strOf (encB (madeS (Q k 0) (Q k 1) (Q k 2) (Q k 3) (Q k 4)))).size : Int) = (madeS (Q k 0) (Q k 1) (Q k 2) (Q k 3) (Q k 4)).size := by rw [strOf_size]; exact e3
        clear e3 hv hcat
        generalize madeS (Q k 0) (Q k 1) (Q k 2) (Q k 3) (Q k 4) = x at *
        obtain ⟨s2, hs2⟩ : ∃ s2, strOf (catQ Q (k + 1) (N - (k + 1))) = s2 := ⟨_, rfl⟩
        rw [hs2] at z2 d1 d2 ⊢
        have HS2 := Lib.hid hs2
        clear hs2
        generalize strOf (encB x) = s1 at *
        have hzz : (s1 ++ s2).size = s1.size + s2.size := ByteArray.size_append
        have z3 : (s1 ++ s2).size ≤ 1000 := by omega
        have HD := Lib.hid (fun W => decode_any (s1 ++ s2) (by omega) W)
        have D1 := Lib.hid d1
        have D2 := Lib.hid d2
        have HX := Lib.hid (show (s1 ++ s2).extract x.size.toNat (s1 ++ s2).size = s2 by rw [show x.size.toNat = s1.size by omega]; exact extract_append_right s1 s2)
        have hle : x.size ≤ ((s1 ++ s2).size : Int) := by omega
        have HSZ := Lib.hid (show decide (x.size < 1) = false by simpa using hp1)
        have HSL := Lib.hid (show decide (x.size > ((s1 ++ s2).size : Int)) = false by simpa using hle)
        clear d1 d2 e3' hzz
        generalize s1 ++ s2 = s at *
        go_upto_region 14 with (first
          | (go_at_call 22; refine (HD.out _).mono ?_; rintro e w4 ⟨rfl, hb4⟩; rw [D1.out, D2.out]; replace HB := Lib.hid (HB.out.trans (hb4.mono HB.out.size)); clear hb4)
          | (refine wpList_store_row rfl _ _ _ rfl _ _ rfl rfl _ _ (heap_alloc_new _ _) ?_ ?_ ?_ ?_; kernel_rfl; rfl; kernel_rfl; rw [World.setRow_alloc_new]))
        have HJ := Lib.hid (heap_alloc_new w4 (.cells (insCells x) 24))
        replace HB := Lib.hid (HB.out.alloc HB.out.size (.cells (insCells x) 24))
        have HR := Lib.hid (HQ.out k h2)
        refine wp_region_relyF 23 (factOf [isV (.int .i64 0), isV (.bool false), isV (.bool false), isV (.agg #[.int .i64 (x).op, .int .i64 (x).d, .int .i64 (x).s, .int .u16 (x).imm, .int .u16 (x).aux, .int .i64 (x).bank, .int .i64 (x).size]), isV (.slice (some ⟨b, off, none⟩) n cap), isV (.int .i64 (k : Int)), isV (.pointer (some ⟨b, off + k * 5, none⟩)), isV (.agg (rowQ (Q k)).toArray), isV (.agg #[.int .i64 (x).op, .int .i64 (x).d, .int .i64 (x).s, .int .u16 (x).imm, .int .u16 (x).aux, .int .i64 (x).bank, .int .i64 (x).size]), isV (.bool false), isV (.bool false), isV (.bool false), isV (.pointer (some ⟨w4.heap.size, 6, none⟩)), isV (.int .i64 x.size), isV (.bool false), isV (.bool false), isV (.bool false), isV (.pointer (some ⟨w4.heap.size, 6, none⟩)), isV (.int .i64 x.size), isV (.string s), isV (.int .i64 (s.size : Int)), isV (.bool false), isV (.bool false)]) (nth [[0], [1], [2], [3], [4], [5], [6], [7], [8], [9], [10], [11], [12], [13], [14], [15], [16], [17], [18], [19], [20], [21], [22]]) (nth [[], [], [], [], [], [], [], [], [], [], [], [], [], [], [], [], [], [], [], [], [], [], []]) (nth [[], [0], [1], [2], [2], [2], [4, 5, 2], [6, 2], [7, 2], [3, 8, 2], [2, 9], [10, 8], [11], [12, 11], [13, 11], [11, 14], [15, 11], [16], [17, 16], [16], [19, 16], [18, 20, 16], [16, 21]]) [22] (Kept w.heap.size w (w4.alloc (.cells (insCells x) 24)).heap.size [(w4.heap.size, .cells (insCells x) 24 (0, 0))]) (by kernel_rfl) (by kernel_rfl) (⟨HB.out.drew, HB.out.size, Nat.le_refl _, by intro x hx; simp at hx; subst hx; (show _ < _; simp), HJ.out, trivial⟩) (Kept.grow) (GrowsAll.of ((GrowsAll.cons (Grows.isV _)  (GrowsAll.cons (Grows.isV _)  (GrowsAll.cons (Grows.isV _)  (GrowsAll.cons (Grows.isV _)  (GrowsAll.cons (Grows.isV _)  (GrowsAll.cons (Grows.isV _)  (GrowsAll.cons (Grows.isV _)  (GrowsAll.cons (Grows.isV _)  (GrowsAll.cons (Grows.isV _)  (GrowsAll.cons (Grows.isV _)  (GrowsAll.cons (Grows.isV _)  (GrowsAll.cons (Grows.isV _)  (GrowsAll.cons (Grows.isV _)  (GrowsAll.cons (Grows.isV _)  (GrowsAll.cons (Grows.isV _)  (GrowsAll.cons (Grows.isV _)  (GrowsAll.cons (Grows.isV _)  (GrowsAll.cons (Grows.isV _)  (GrowsAll.cons (Grows.isV _)  (GrowsAll.cons (Grows.isV _)  (GrowsAll.cons (Grows.isV _)  (GrowsAll.cons (Grows.isV _)  (GrowsAll.cons (Grows.isV _) GrowsAll.nil))))))))))))))))))))))))) (fun f F hF => ?_)
        simp only [List.take_succ_cons, List.take_zero, fullGo, Act.put, List.setIfInBounds_toArray, List.set_cons_zero, List.set_cons_succ, Nat.reduceAdd] at hF
        subst hF
        refine ⟨StepObs.cons ?_ (StepObs.cons ?_ (StepObs.cons ?_ (StepObs.cons ?_ (StepObs.cons ?_ (StepObs.cons ?_ (StepObs.cons ?_ (StepObs.cons ?_ (StepObs.cons ?_ (StepObs.cons ?_ (StepObs.cons ?_ (StepObs.cons ?_ (StepObs.cons ?_ (StepObs.cons ?_ (StepObs.cons ?_ (StepObs.cons ?_ (StepObs.cons ?_ (StepObs.cons ?_ (StepObs.cons ?_ (StepObs.cons ?_ (StepObs.cons ?_ (StepObs.cons ?_ (StepObs.cons ?_ (StepObs.nil))))))))))))))))))))))), ?_⟩
        · intro w5 hS hF K hK
          rw [if_pos (by rfl)]
          refine wp_of_quiet (v := .int .i64 0) (by (show _ = _); kernel_rfl) (hK.out _ _ rfl (After.lit rfl rfl ?_))
          first | rfl | kernel_rfl
        · intro w5 hS hF K hK
          obtain ⟨e0, -⟩ := hF
          replace e0 : f 0 = _ := e0
          try simp only [e0]
          rw [if_pos (by rfl)]
          refine wp_of_quiet (v := .bool false) (by (show _ = _); kernel_rfl) (hK.out _ _ rfl (After.lit rfl rfl ?_))
          first | rfl | kernel_rfl
        · intro w5 hS hF K hK
          obtain ⟨e1, -⟩ := hF
          replace e1 : f 1 = _ := e1
          try simp only [e1]
          rw [if_pos (by rfl)]
          refine wp_of_quiet (v := .bool false) (by (show _ = _); kernel_rfl) (hK.out _ _ rfl (After.lit rfl rfl ?_))
          first | rfl | kernel_rfl
        · intro w5 hS hF K hK
          obtain ⟨e2, -⟩ := hF
          replace e2 : f 2 = _ := e2
          try simp only [e2]
          rw [if_pos (by rfl)]
          exact wp_load_rowB _ _ rfl _ rfl _ _ _ (hS.2.2.2.2.1) (by kernel_rfl) (hK.out _ _ rfl (After.lit rfl rfl (by first | rfl | kernel_rfl)))
        · intro w5 hS hF K hK
          obtain ⟨e2, -⟩ := hF
          replace e2 : f 2 = _ := e2
          try simp only [e2]
          rw [if_pos (by rfl)]
          refine wp_of_quiet (v := .slice (some ⟨b, off, none⟩) n cap) (by (show _ = _); kernel_rfl) (hK.out _ _ rfl (After.lit rfl rfl ?_))
          first | rfl | kernel_rfl
        · intro w5 hS hF K hK
          obtain ⟨e2, -⟩ := hF
          replace e2 : f 2 = _ := e2
          try simp only [e2]
          rw [if_pos (by rfl)]
          refine wp_of_quiet (v := .int .i64 (k : Int)) (by (show _ = _); kernel_rfl) (hK.out _ _ rfl (After.lit rfl rfl ?_))
          first | rfl | kernel_rfl
        · intro w5 hS hF K hK
          obtain ⟨e4, e5, e2, -⟩ := hF
          replace e4 : f 4 = _ := e4
          replace e5 : f 5 = _ := e5
          replace e2 : f 2 = _ := e2
          try simp only [e4, e5, e2]
          rw [if_pos (by rfl)]
          go_simp
          refine hK.out _ _ rfl (After.lit rfl rfl ?_)
          first | rfl | kernel_rfl
        · intro w5 hS hF K hK
          obtain ⟨e6, e2, -⟩ := hF
          replace e6 : f 6 = _ := e6
          replace e2 : f 2 = _ := e2
          try simp only [e6, e2]
          rw [if_pos (by rfl)]
          exact wp_of_quiet (exec_load_midR _ _ rfl b (off + k * 5) rfl (rowQ (Q k)) (range_stay HR.out hS.1 hbl) (by kernel_rfl)) (hK.out _ _ rfl (After.lit rfl rfl (by first | rfl | kernel_rfl)))
        · intro w5 hS hF K hK
          obtain ⟨e7, e2, -⟩ := hF
          replace e7 : f 7 = _ := e7
          replace e2 : f 2 = _ := e2
          try simp only [e7, e2]
          rw [if_pos (by rfl)]
          go_simp
          refine (HM.out _).mono ?_; rintro e w6 ⟨rfl, hbelow⟩; go_simp
          refine hK.out _ _ rfl (After.litB rfl rfl hbelow ?_)
          first | rfl | kernel_rfl
        · intro w5 hS hF K hK
          obtain ⟨e3, e8, e2, -⟩ := hF
          replace e3 : f 3 = _ := e3
          replace e8 : f 8 = _ := e8
          replace e2 : f 2 = _ := e2
          try simp only [e3, e8, e2]
          rw [if_pos (by rfl)]
          go_simp
          refine hK.out _ _ rfl (After.lit rfl rfl ?_)
          first | rfl | kernel_rfl
        · intro w5 hS hF K hK
          obtain ⟨e2, e9, -⟩ := hF
          replace e2 : f 2 = _ := e2
          replace e9 : f 9 = _ := e9
          try simp only [e2, e9]
          rw [if_pos (by rfl)]
          refine wp_of_quiet (v := .bool false) (by (show _ = _); kernel_rfl) (hK.out _ _ rfl (After.lit rfl rfl ?_))
          first | rfl | kernel_rfl
        · intro w5 hS hF K hK
          obtain ⟨e10, e8, -⟩ := hF
          replace e10 : f 10 = _ := e10
          replace e8 : f 8 = _ := e8
          try simp only [e10, e8]
          rw [if_pos (by rfl)]
          refine wp_of_quiet (v := .bool false) (by (show _ = _); kernel_rfl) (hK.out _ _ rfl (After.lit rfl rfl ?_))
          first | rfl | kernel_rfl
        · intro w5 hS hF K hK
          obtain ⟨e11, -⟩ := hF
          replace e11 : f 11 = _ := e11
          try simp only [e11]
          rw [if_pos (by rfl)]
          refine wp_of_quiet (v := .pointer (some ⟨w4.heap.size, 6, none⟩)) (by (show _ = _); kernel_rfl) (hK.out _ _ rfl (After.lit rfl rfl ?_))
          first | rfl | kernel_rfl
        · intro w5 hS hF K hK
          obtain ⟨e12, e11, -⟩ := hF
          replace e12 : f 12 = _ := e12
          replace e11 : f 11 = _ := e11
          try simp only [e12, e11]
          rw [if_pos (by rfl)]
          exact wp_of_quiet (exec_load_at _ _ rfl _ _ rfl _ _ _ (hS.2.2.2.2.1) (.int .i64 x.size) (by kernel_rfl) (fun _ => by kernel_rfl)) (hK.out _ _ rfl (After.lit rfl rfl (by first | rfl | kernel_rfl)))
        · intro w5 hS hF K hK
          obtain ⟨e13, e11, -⟩ := hF
          replace e13 : f 13 = _ := e13
          replace e11 : f 11 = _ := e11
          try simp only [e13, e11]
          rw [if_pos (by rfl)]
          exact wp_of_quiet (v := .bool (decide (x.size < 1))) (by (show _ = _); kernel_rfl) (hK.out _ _ rfl (After.lit rfl rfl (congrArg Value.bool HSZ.out)))
        · intro w5 hS hF K hK
          obtain ⟨e11, e14, -⟩ := hF
          replace e11 : f 11 = _ := e11
          replace e14 : f 14 = _ := e14
          try simp only [e11, e14]
          rw [if_pos (by rfl)]
          refine wp_of_quiet (v := .bool false) (by (show _ = _); kernel_rfl) (hK.out _ _ rfl (After.lit rfl rfl ?_))
          first | rfl | kernel_rfl
        · intro w5 hS hF K hK
          obtain ⟨e15, e11, -⟩ := hF
          replace e15 : f 15 = _ := e15
          replace e11 : f 11 = _ := e11
          try simp only [e15, e11]
          rw [if_pos (by rfl)]
          refine wp_of_quiet (v := .bool false) (by (show _ = _); kernel_rfl) (hK.out _ _ rfl (After.lit rfl rfl ?_))
          first | rfl | kernel_rfl
        · intro w5 hS hF K hK
          obtain ⟨e16, -⟩ := hF
          replace e16 : f 16 = _ := e16
          try simp only [e16]
          rw [if_pos (by rfl)]
          refine wp_of_quiet (v := .pointer (some ⟨w4.heap.size, 6, none⟩)) (by (show _ = _); kernel_rfl) (hK.out _ _ rfl (After.lit rfl rfl ?_))
          first | rfl | kernel_rfl
        · intro w5 hS hF K hK
          obtain ⟨e17, e16, -⟩ := hF
          replace e17 : f 17 = _ := e17
          replace e16 : f 16 = _ := e16
          try simp only [e17, e16]
          rw [if_pos (by rfl)]
          exact wp_of_quiet (exec_load_at _ _ rfl _ _ rfl _ _ _ (hS.2.2.2.2.1) (.int .i64 x.size) (by kernel_rfl) (fun _ => by kernel_rfl)) (hK.out _ _ rfl (After.lit rfl rfl (by first | rfl | kernel_rfl)))
        · intro w5 hS hF K hK
          obtain ⟨e16, -⟩ := hF
          replace e16 : f 16 = _ := e16
          try simp only [e16]
          rw [if_pos (by rfl)]
          refine wp_of_quiet (v := .string s) (by (show _ = _); kernel_rfl) (hK.out _ _ rfl (After.lit rfl rfl ?_))
          first | rfl | kernel_rfl
        · intro w5 hS hF K hK
          obtain ⟨e19, e16, -⟩ := hF
          replace e19 : f 19 = _ := e19
          replace e16 : f 16 = _ := e16
          try simp only [e19, e16]
          rw [if_pos (by rfl)]
          refine wp_of_quiet (v := .int .i64 (s.size : Int)) (by (show _ = _); kernel_rfl) (hK.out _ _ rfl (After.lit rfl rfl ?_))
          first | rfl | kernel_rfl
        · intro w5 hS hF K hK
          obtain ⟨e18, e20, e16, -⟩ := hF
          replace e18 : f 18 = _ := e18
          replace e20 : f 20 = _ := e20
          replace e16 : f 16 = _ := e16
          try simp only [e18, e20, e16]
          rw [if_pos (by rfl)]
          exact wp_of_quiet (v := .bool (decide (x.size > (s.size : Int)))) (by (show _ = _); kernel_rfl) (hK.out _ _ rfl (After.lit rfl rfl (congrArg Value.bool HSL.out)))
        · intro w5 hS hF K hK
          obtain ⟨e16, e21, -⟩ := hF
          replace e16 : f 16 = _ := e16
          replace e21 : f 21 = _ := e21
          try simp only [e16, e21]
          rw [if_pos (by rfl)]
          refine wp_of_quiet (v := .bool false) (by (show _ = _); kernel_rfl) (hK.out _ _ rfl (After.lit rfl rfl ?_))
          first | rfl | kernel_rfl
        intro w5 hS hF
        obtain ⟨e22, -⟩ := hF
        replace e22 : f 22 = _ := e22
        try simp only [e22]
        refine Fin.done (by kernel_rfl) ?_
        have hc9 := cell_of_row w5 w4.heap.size 6 _ _ _ hS.2.2.2.2.1
        simp only [insCells, vi, vw, List.getElem?_toArray, List.getElem?_cons_succ, List.getElem?_cons_zero] at hc9
        replace HB := Lib.hid hS.1
        clear hS HJ
        have hx0 : 0 ≤ x.size := by omega
        go_wp2_with fail
        go_roundw
        case rel => exact ⟨k + 1, by omega, by go_num, by rw [HX.out, HS2.out], HB⟩
        case measure => simp [intOf]; omega
      · obtain rfl : k = N := by omega
        have he : strOf (catQ Q k (k - k)) = ⟨#[]⟩ := by rw [Nat.sub_self]; rfl
        rw [he]
        by_cases h2 : k < n
        · have h3 : ¬ k < 20 := by omega
          go_wp2_with fail
          go_ret
          exact ⟨rfl, HB.out⟩
        · go_wp2_with fail
          go_ret
          exact ⟨rfl, HB.out⟩

end Go.Proofs.YtakahmhbopakmaaDoor
