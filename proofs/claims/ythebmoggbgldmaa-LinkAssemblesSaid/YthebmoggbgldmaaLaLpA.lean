/- The sizes of types of chapter 14 at an array of octets. No condition. -/
import Derived.Test.YthebmoggbgldmaaLaLrKx
set_option linter.all false
namespace Go.Proofs.Ythebmoggbgldmaa
open Go Go.RowKit Go.Maps
def PairV (w : World) (v : Value) (n : Nat) (Q : Nat → Nat → Int) : Prop :=
 ∃ ao cap, v = .slice ao n cap ∧ n ≤ cap ∧ (0 < n → ∃ g off c T fr, ao = some ⟨g, off, none⟩ ∧ w.heap[g]? = some (.cells c T fr) ∧ ∀ i, i < n → c[off + i * 2]? = some (.int .i64 (Q i 0)) ∧ c[off + i * 2 + 1]? = some (.int .i64 (Q i 1)))
theorem PairV.below {w w' : World} {v : Value} {n : Nat} {Q : Nat → Nat → Int} (h : PairV w v n Q) (hb : Below w.heap.size w w') : PairV w' v n Q := by
 obtain ⟨ao, cap, e, hc, h⟩ := h
 refine ⟨ao, cap, e, hc, fun h0 => ?_⟩
 obtain ⟨g, off, c, T, fr, e1, hg, h1⟩ := h h0
 exact ⟨g, off, c, T, fr, e1, zf hb hg, h1⟩
theorem wpList_app_row {w : World} {ops : Array Oper} {rest : List Oper} {o : Oper} {a : Act} {Q : Exit → Act → World → Prop} (hgd : o.guard = none) (s x : Operand) (t e : TypeId) (ho : o.op = .call { callee := .builtin .append, args := #[s, x], argTypes := #[t, t] })
  (size bytes : Nat) (zv : Value) (hinfo : (Try.prog.info? e).map (fun i => (i.zero, i.size, i.bytes)) = some (some zv, size, bytes)) (ht : Try.prog.underlying t = some (.slice e)) (hzs : zv.cells.size = size) (hsz : 0 < size)
  (B : Nat) (hB : B ≤ w.heap.size) (v : Value) (n : Nat) (xs : List Value) (hs : a.eval s = v) (hown : w.ownsRow B e size v n xs) (hn : n ≤ 100000) (hb : bytes ≤ 100000)
  (g : Nat) (cs : Array Value) (T : TypeId) (fr : Nat × Nat) (hx : a.eval x = .slice (some ⟨g, 0, none⟩) 1 1) (hg : w.heap[g]? = some (.cells cs T fr)) (hcs : cs.size = size) (h1 : cs.toList.all (·.oneCell') = true)
  (h : ∀ v' w', w'.ownsRow B e size v' (n + 1) (xs ++ cs.toList) → w.grownBy w' v.ownBlock → wpList Try.prog ops Q rest (a.put o.dst v') w') : wpList Try.prog ops Q (o :: rest) a w := by
 obtain ⟨i3, hi3, hz3, hz31, hz32⟩ := info_parts hinfo
 refine xm w hgd s x t ho B e i3 zv size bytes ht hi3 hz3 hz31 hz32 hzs hsz v n xs hs hown (some ⟨g, 0, none⟩) 1 1 (fun h => by cases h) cs.toList hx (src_of hg (by omega)) (fun u hu => List.all_eq_true.1 h1 u hu) (by unfold maxLen; omega) (by
  have : (n + 1) * bytes ≤ 100001 * 100000 := Nat.mul_le_mul (by omega) hb
  omega) hB fun v' w' h2 h3 _ => h v' w' h2 h3
def plrV (p : yw) : List Value := [.int .i64 p.bank, .int .u16 p.addr]
def plrsV (ps : List yw) : List Value := ps.flatMap plrV
def PlcQ (p : yw) : Prop := 0 ≤ p.addr ∧ p.addr < 65536 ∧ zX p.bank
theorem flat_get {α : Type} (f : α → List Value) (s : Nat) (hf : ∀ a, (f a).length = s) : ∀ (ps : List α) (i : Nat) (p : α), ps[i]? = some p → ((ps.flatMap f).drop (i * s)).take s = f p
 | [], i, p, h => by simp at h
 | a :: ps, 0, p, h => by
  simp at h
  subst h
  rw [List.flatMap_cons, Nat.zero_mul, List.drop_zero, List.take_append_of_le_length (by rw [hf]; exact zn _)]
  exact List.take_of_length_le (by rw [hf]; exact zn _)
 | a :: ps, i + 1, p, h => by
  have := flat_get f s hf ps i p (by simpa using h)
  rw [List.flatMap_cons, Nat.succ_mul, Nat.add_comm, List.drop_append, List.drop_eq_nil_of_le (by rw [hf]; omega), List.nil_append, hf, Nat.add_sub_cancel_left]
  exact this
theorem own_plcs {w : World} {B : Nat} {v : Value} {ps : List yw} (h : w.ownsRow B 37 2 v ps.length (plrsV ps)) : jj w v ps := by
 by_cases h0 : 0 < ps.length
 ·obtain ⟨g, cp, cur, rfl, hB, hc, hg, -, he⟩ := own_block h h0
  refine ⟨_, cp, rfl, hc, fun _ => ⟨g, 0, cur, _, _, rfl, hg, fun i p hp => ?_⟩⟩
  rw [Nat.zero_add, he i (List.getElem?_eq_some_iff.1 hp).1]
  exact flat_get plrV 2 (fun _ => rfl) ps i p hp
 ·have hn : ps = [] := List.eq_nil_of_length_eq_zero (by omega)
  subst hn
  rcases h.2 with ⟨rfl, -⟩ | ⟨g, cp, cur, rfl, -⟩
  ·exact ⟨none, 0, rfl, zn _, fun h => by cases h⟩
  ·exact ⟨_, cp, rfl, Nat.zero_le _, fun h => by cases h⟩
def PlsPost (w : World) (e : Ending) (w' : World) : Prop :=
 ∃ (ps : List yw) (v : Value), e = .returned v ∧ ps.length ≤ 6 ∧ (∀ p ∈ ps, PlcQ p) ∧ jj w' v ps ∧ Below w.heap.size w w'
theorem infoPlc : (Try.prog.info? 37).map (fun i => (i.zero, i.size, i.bytes)) = some (some (.agg #[.int .i64 0, .int .u16 0]), 2, 16) := by kernel_rfl
theorem wPl (b : Int) : IntKind.i64.wrap (4096 + b % 4096) = 4096 + b % 4096 := IntWalk.i64_in _ (by omega)
theorem u16_rngP (x : Int) : 0 ≤ IntKind.u16.wrap x ∧ IntKind.u16.wrap x < 65536 := by
 unfold IntKind.wrap
 simp only [IntKind.bits, IntKind.signed]
 simp
 omega
theorem rmodP (m q : Int) (hq : zX q) (h0 : 0 < m) (h1 : m ≤ 65536) (W : World) : Calls Try.prog 11 #[.int .i64 q, .int .i64 m] W fun e w' => e = .returned (.int .i64 (q % m)) ∧ W = w' := jk q m hq h0 (by omega) W
theorem plc_bank (a : Int) {x : Int} (hx : 0 ≤ x ∧ x < 65536) : PlcQ ⟨a % 4, x⟩ := ⟨hx.1, hx.2, by constructor <;> (dsimp only; omega)⟩
theorem plc_zero {x : Int} (hx : 0 ≤ x ∧ x < 65536) : PlcQ ⟨0, x⟩ := ⟨hx.1, hx.2, by constructor <;> (dsimp only; omega)⟩
theorem md4096 (b : Int) : 0 ≤ b % 4096 ∧ b % 4096 < 65536 := by omega
theorem plcs_snoc (ps : List yw) (p : yw) : plrsV (ps ++ [p]) = plrsV ps ++ [.int .i64 p.bank, .int .u16 p.addr] := by unfold plrsV; rw [List.flatMap_append, List.flatMap_singleton]; rfl
set_option maxRecDepth 100000 in
set_option maxHeartbeats 8000000 in
theorem places_any (lo : Option Addr) (ll lcap : Nat) (Q : Nat → Nat → Int) (hQ : ∀ i j, zX (Q i j)) (hll : ll < 9223372036854775808) (w : World) (hS : PairV w (.slice lo ll lcap) ll Q) :
  Calls Try.prog 8 #[.slice lo ll lcap] w (PlsPost w) := by
 have HQ := zh hQ
 have HSX := zh hS
 clear hQ hS
 go_enter Try.func8, Try.ntmps8
 go_wp2_with fail
 go_loopw [3, 4] (fun sv i wr => ∃ (k : Nat) (ps : List yw), k ≤ ll ∧ k ≤ 6 ∧ ps.length = k ∧ i = .int .i64 k ∧ Hid (wr.ownsRow w.heap.size 37 2 sv k (plrsV ps)) ∧ Hid (∀ p ∈ ps, PlcQ p) ∧ Hid (Below w.heap.size w wr)) (fun _ i _ => 6 - (intOf i).toNat)
 case atStart => exact ⟨0, [], Nat.zero_le _, Nat.zero_le _, rfl, rfl, zh ⟨rfl, .inl ⟨rfl, rfl⟩⟩, zh (fun p hp => by cases hp), zh (Below.refl _ _)⟩
 case round =>
  obtain ⟨k, ps, hk, hk6, hpk, rfl, HO, HP, HB⟩ := hrel
  have HPK := zh hpk
  clear hpk
  by_cases hlt : k < ll ∧ k < 6
  ·obtain ⟨hl1, hl2⟩ := hlt
   obtain ⟨ao0, cp0, he0, -, hrow⟩ := HSX.out
   obtain ⟨q, off, c, T', fr', hao, hq, hx⟩ := hrow (by omega)
   simp only [Value.slice.injEq] at he0
   obtain ⟨rfl, -, rfl⟩ := he0
   subst hao
   obtain ⟨hxa, hxb⟩ := hx k hl1
   obtain ⟨qa, hqa⟩ : ∃ z, Q k 0 = z := ⟨_, rfl⟩
   obtain ⟨qb, hqb⟩ : ∃ z, Q k 1 = z := ⟨_, rfl⟩
   rw [hqa] at hxa
   rw [hqb] at hxb
   have HI0 := zh (hqa ▸ HQ.out k 0)
   have HI1 := zh (hqb ▸ HQ.out k 1)
   have HQB := zh (zf HB.out hq)
   have HXA := zh hxa
   have HXB := zh hxb
   have HWA := zh (wPl qb)
   obtain ⟨im, him, him0⟩ : ∃ im : Int, IntKind.u16.wrap (4096 + qb % 4096) = im ∧ 0 ≤ im ∧ im < 65536 := ⟨_, rfl, u16_rngP _⟩
   have HIM := zh him
   have hkl : (k : Int) < (ll : Int) := by omega
   have hk66 : (k : Int) < 6 := by omega
   have hB0 := HB.out.size
   have HBR := zh HB.out
   clear hqa hqb hxa hxb hx hq hrow him HB
   go_upto_region 5 with fail
   refine ye [] 16 (z5 [isV (.slice (some ⟨q, off, none⟩) ll lcap), isV (.int .i64 k), isV ((.pointer (some ⟨q, off + k * 2, none⟩))), isV ((.pointer (some ⟨q, off + k * 2, none⟩))), isV ((.int .i64 qa)), isV (.int .i64 (qa % 4)), isV (.slice (some ⟨q, off, none⟩) ll lcap), isV (.int .i64 k), isV ((.pointer (some ⟨q, off + k * 2, none⟩))), isV ((.pointer (some ⟨q, off + k * 2 + 1, none⟩))), isV ((.int .i64 qb)), isV (.int .i64 (qb % 4096)), isV (.int .i64 (4096 + qb % 4096)), isV (.int .u16 im), isV (.agg #[.int .i64 (qa % 4), .int .u16 im]), isVT ((fun _ => False)) (NwQ wr.heap.size (.cells #[.int .i64 0, .int .u16 0] 37 (0, 0)))]) (nth [[0], [1], [2], [3], [4], [5], [6], [7], [8], [9], [10], [11], [12], [13], [14], [15]]) (nth [[], [], [], [], [], [], [], [], [], [], [], [], [], [], [], []]) (nth [[], [], [0, 1], [2], [3], [4], [], [], [6, 7], [8], [9], [10], [11], [12], [5, 13], []]) [14, 15] (fun w5 => Below wr.heap.size wr w5 ∧ True ∧ wr.heap.size ≤ w5.heap.size ∧ True) (by kernel_rfl) (by kernel_rfl) (⟨(Below.refl _ _).drew, trivial, zn _, trivial⟩) (fun w w' h hb => ⟨h.1.trans (hb.mono h.1.size), trivial, Nat.le_trans h.2.2.1 hb.size, trivial⟩) (zG ((za (zc _)  (za (zc _)  (za (zc _)  (za (zc _)  (za (zc _)  (za (zc _)  (za (zc _)  (za (zc _)  (za (zc _)  (za (zc _)  (za (zc _)  (za (zc _)  (za (zc _)  (za (zc _)  (za (zc _)  (za (yu _ _) zy)))))))))))))))))) (fun f F hF => ?_)
   simp only [List.take_succ_cons, List.take_zero, yb, Act.put, zD, zE, zF, Nat.reduceAdd] at hF
   subst hF
   refine ⟨ze ?_ (ze ?_ (ze ?_ (ze ?_ (ze ?_ (ze ?_ (ze ?_ (ze ?_ (ze ?_ (ze ?_ (ze ?_ (ze ?_ (ze ?_ (ze ?_ (ze ?_ (ze ?_ (yf)))))))))))))))), ?_⟩
   ·intro w5 hS hF hD K hK
    rw [if_pos (by rfl)]
    exact svV hK rfl rfl rfl rfl (by first | rfl | kernel_rfl)  (by show _ = _; kernel_rfl)
   ·intro w5 hS hF hD K hK
    rw [if_pos (by rfl)]
    exact svV hK rfl rfl rfl rfl (by first | rfl | kernel_rfl)  (by show _ = _; kernel_rfl)
   ·intro w5 hS hF hD K hK
    obtain ⟨(e0 : f 0 = _), (e1 : f 1 = _), -⟩ := hF
    try simp only [e0, e1]
    rw [if_pos (by rfl)]
    go_simp
    refine hK.out _ _ rfl (zq rfl rfl rfl ?_)
    first | rfl | kernel_rfl
   ·intro w5 hS hF hD K hK
    obtain ⟨(e2 : f 2 = _), -⟩ := hF
    try simp only [e2]
    rw [if_pos (by rfl)]
    go_simp
    refine hK.out _ _ rfl (zq rfl rfl rfl ?_)
    first | rfl | kernel_rfl
   ·intro w5 hS hF hD K hK
    obtain ⟨(e3 : f 3 = _), -⟩ := hF
    try simp only [e3]
    rw [if_pos (by rfl)]
    exact svC hK rfl rfl rfl rfl (by first | rfl | kernel_rfl)  rfl rfl (zf hS.1 HQB.out) (HXA.out) (fun _ => by kernel_rfl)
   ·intro w5 hS hF hD K hK
    obtain ⟨(e4 : f 4 = _), -⟩ := hF
    try simp only [e4]
    rw [if_pos (by rfl)]
    go_simp
    go_at_call 11; refine (rmodP _ _ HI0.out (by decide) (by decide) _).mono ?_; rintro e wz ⟨rfl, rfl⟩; have hbelow := Below.refl w5.heap.size w5; go_simp
    refine hK.out _ _ rfl (zP rfl rfl rfl hbelow ?_)
    first | rfl | kernel_rfl
   ·intro w5 hS hF hD K hK
    rw [if_pos (by rfl)]
    exact svV hK rfl rfl rfl rfl (by first | rfl | kernel_rfl)  (by show _ = _; kernel_rfl)
   ·intro w5 hS hF hD K hK
    rw [if_pos (by rfl)]
    exact svV hK rfl rfl rfl rfl (by first | rfl | kernel_rfl)  (by show _ = _; kernel_rfl)
   ·intro w5 hS hF hD K hK
    obtain ⟨(e6 : f 6 = _), (e7 : f 7 = _), -⟩ := hF
    try simp only [e6, e7]
    rw [if_pos (by rfl)]
    go_simp
    refine hK.out _ _ rfl (zq rfl rfl rfl ?_)
    first | rfl | kernel_rfl
   ·intro w5 hS hF hD K hK
    obtain ⟨(e8 : f 8 = _), -⟩ := hF
    try simp only [e8]
    rw [if_pos (by rfl)]
    go_simp
    refine hK.out _ _ rfl (zq rfl rfl rfl ?_)
    first | rfl | kernel_rfl
   ·intro w5 hS hF hD K hK
    obtain ⟨(e9 : f 9 = _), -⟩ := hF
    try simp only [e9]
    rw [if_pos (by rfl)]
    exact svC hK rfl rfl rfl rfl (by first | rfl | kernel_rfl)  rfl rfl (zf hS.1 HQB.out) (HXB.out) (fun _ => by kernel_rfl)
   ·intro w5 hS hF hD K hK
    obtain ⟨(e10 : f 10 = _), -⟩ := hF
    try simp only [e10]
    rw [if_pos (by rfl)]
    go_simp
    go_at_call 11; refine (rmodP _ _ HI1.out (by decide) (by decide) _).mono ?_; rintro e wz ⟨rfl, rfl⟩; have hbelow := Below.refl w5.heap.size w5; go_simp
    refine hK.out _ _ rfl (zP rfl rfl rfl hbelow ?_)
    first | rfl | kernel_rfl
   ·intro w5 hS hF hD K hK
    obtain ⟨(e11 : f 11 = _), -⟩ := hF
    try simp only [e11]
    rw [if_pos (by rfl)]
    exact zx (v := .int .i64 (IntKind.i64.wrap (4096 + qb % 4096))) (by (show _ = _); kernel_rfl) (hK.out _ _ rfl (zq rfl rfl rfl (congrArg (Value.int .i64) HWA.out)))
   ·intro w5 hS hF hD K hK
    obtain ⟨(e12 : f 12 = _), -⟩ := hF
    try simp only [e12]
    rw [if_pos (by rfl)]
    exact zx (v := .int .u16 (IntKind.u16.wrap (4096 + qb % 4096))) (by (show _ = _); kernel_rfl) (hK.out _ _ rfl (zq rfl rfl rfl (congrArg (Value.int .u16) HIM.out)))
   ·intro w5 hS hF hD K hK
    obtain ⟨(e5 : f 5 = _), (e13 : f 13 = _), -⟩ := hF
    try simp only [e5, e13]
    rw [if_pos (by rfl)]
    exact svV hK rfl rfl rfl rfl (by first | rfl | kernel_rfl)  (by show _ = _; kernel_rfl)
   ·intro w5 hS hF hD K hK
    rw [if_pos (by rfl)]
    go_simp; have hb9 := (Below.refl w5.heap.size w5).alloc (zn _) (.cells #[.int .i64 0, .int .u16 0] 37)
    exact hK.out _ _ rfl (yv rfl rfl rfl rfl (hb9.size) (⟨hS.1.trans (hb9.mono hS.1.size), trivial, Nat.le_trans hS.2.2.1 hb9.size, trivial⟩) (zk (zk (zk (zk (zk (zk (zk (zk (zk (zk (zk (zk (zk (zk (zk (yc (by rfl) ym)))))))))))))))) (⟨_, rfl, hS.2.2.1, heap_alloc_new _ _⟩))
   intro w5 hS hF
   obtain ⟨(e14 : f 14 = _), e15, -⟩ := hF
   obtain ⟨y15, p15, t15⟩ := e15
   try simp only [e14]
   simp only [List.drop_succ_cons, List.drop_zero]
   obtain ⟨g5, hv5, hB5, hg5⟩ := p15
   simp only [hv5]
   have hg6 := t15.heap hg5 (fun h => h)
   go_upto_region 6 with (refine wpList_store_row rfl _ _ _ rfl _ _ rfl rfl _ _ (hg6) ?_ ?_ ?_ ?_; kernel_rfl; rfl; kernel_rfl)
   have h66 := setRow_heap w5 g5 _ #[.int .i64 (qa % 4), .int .u16 im] _ _ hg6
   have hB6 := below_setRow hS.1 hB5 #[.int .i64 (qa % 4), .int .u16 im]
   obtain ⟨w6, hw6⟩ : ∃ W : World, w5.setRow g5 #[.int .i64 (qa % 4), .int .u16 im] = W := ⟨_, rfl⟩
   rw [hw6] at h66 hB6 ⊢
   have HG := zh h66
   have HBW := zh hB6
   have HQ6 := zh (zf hB6 HQB.out)
   have HIMR := zh him0
   clear hw6 h66 hB6 hS hg6 hg5 t15 hv5 e14 him0 HWA HIM
   try simp only [Act.put]
   have ca : w6.cell? ⟨q, off + k * 2, none⟩ = some (.int .i64 qa) := (cell_of_row _ _ _ _ _ _ HQ6.out).trans HXA.out
   have cb : w6.cell? ⟨q, off + k * 2 + 1, none⟩ = some (.int .i64 qb) := (cell_of_row _ _ _ _ _ _ HQ6.out).trans HXB.out
   go_upto_if 37 with (go_at_call 11; refine (rmodP _ _ HI0.out (by decide) (by decide) _).mono ?_; rintro e wz ⟨rfl, rfl⟩)
   try simp only [Act.put]
   go_cut [] (fun wx => ∃ p : yw, Hid (PlcQ p) ∧ Hid (Below wr.heap.size wr wx) ∧ Hid (wx.heap[g5]? = some (.cells #[.int .i64 p.bank, .int .u16 p.addr] 37 (0, 0))))
   case first =>
    by_cases h3 : qa % 3 = 0
    ·have h3a : (qa % 3 == 0) = true := by simp [h3]
     go_wp2_with (first | (go_at_call 11; refine (rmodP _ _ HI1.out (by decide) (by decide) _).mono ?_; rintro e wz ⟨rfl, rfl⟩) | (refine wpList_store_row rfl _ _ _ rfl _ _ rfl rfl _ _ (HG.out) ?_ ?_ ?_ ?_; kernel_rfl; rfl; kernel_rfl))
     go_meet
     exact ⟨⟨0, qb % 4096⟩, zh (plc_zero (md4096 qb)), zh (below_setRow HBW.out hB5 _), zh (setRow_heap _ _ _ _ _ _ HG.out)⟩
    ·have h3a : (qa % 3 == 0) = false := by simp [h3]
     go_wp2_with fail
     go_meet
     exact ⟨⟨qa % 4, im⟩, zh (plc_bank qa HIMR.out), HBW, HG⟩
   case rest =>
   clear ca cb HG HBW HQ6 HQB HXA HXB HI0 HI1
   obtain ⟨p, HPQ, HBX, HGX⟩ := hcut
   have hb9 := (Below.refl wc.heap.size wc).alloc (zn _) (.cells #[.int .i64 p.bank, .int .u16 p.addr] 37)
   have hB9 : Below wr.heap.size wr (wc.alloc (.cells #[.int .i64 p.bank, .int .u16 p.addr] 37)) := HBX.out.trans (hb9.mono HBX.out.size)
   have HB9 := zh (HBR.out.trans (hB9.mono hB0))
   have HO9 := zh (zZ HO.out (zN.ofBelow (bs := fun _ => False) hB9) fun _ _ h => h)
   have HN9 := zh (heap_alloc_new wc (.cells #[.int .i64 p.bank, .int .u16 p.addr] 37))
   have HK1 := zh (show k ≤ 100000 by omega)
   clear hb9 hB9
   go_upto_region 4 with (first | (refine zs _ _ rfl _ rfl _ _ _ (HGX.out) ?_ ?_ ?_; kernel_rfl; kernel_rfl) | (at_builtin; refine wpList_app_row rfl _ _ 26 37 rfl 2 16 _ infoPlc Try.underlying26 rfl (by decide) w.heap.size HB9.out.size _ k _ rfl HO9.out HK1.out (by decide) wc.heap.size #[.int .i64 p.bank, .int .u16 p.addr] _ _ rfl HN9.out rfl rfl ?_; intro v8 w8 ho8 hg8))
   have HO8 := zh ho8
   have HB8 := zh (rowS_below HB9.out HB9.out.size HO9.out hg8)
   clear ho8 hg8
   go_wp2_with fail
   go_roundw
   case rel => exact ⟨k + 1, ps ++ [p], by omega, by omega, by rw [List.length_append, HPK.out]; rfl, by go_num, zh (by rw [plcs_snoc]; exact HO8.out), zh (fun x hx => by rcases List.mem_append.1 hx with hx | hx; exact HP.out x hx; simp at hx; subst hx; exact HPQ.out), HB8⟩
   case measure => simp [intOf]; omega
  ·have hpost : PlsPost w (.returned u3) wr := ⟨ps, u3, rfl, by have := HPK.out; omega, HP.out, own_plcs (by rw [HPK.out]; exact HO.out), HB.out⟩
   have HPO := zh hpost
   clear hpost HO HP HB
   by_cases h1 : k < ll
   ·have h2 : ¬ (k : Int) < 6 := by omega
    have h2b : (6 : Int) ≤ (k : Int) := by omega
    have h1b : (k : Int) < (ll : Int) := by omega
    go_wp2_with fail
    go_ret
    exact HPO.out
   ·have h2 : ¬ (k : Int) < (ll : Int) := by omega
    have h2b : (ll : Int) ≤ (k : Int) := by omega
    go_wp2_with fail
    go_ret
    exact HPO.out
end Go.Proofs.Ythebmoggbgldmaa
namespace Go.Proofs.Ythebmoggbgldmaa
open Go.ChangeShapes Go.WideShapes Go.ChangeAt Go.RowKit Go.Deep
set_option maxRecDepth 100000
theorem arr6 {cs : Array Value} (h : cs.size = 6) : ∃ a b c d e f, cs = #[a, b, c, d, e, f] := by
 obtain ⟨l⟩ := cs
 match l, h with
 | [a, b, c, d, e, f], _ => exact ⟨a, b, c, d, e, f, rfl⟩
theorem arg_c6 {w : World} {r : Reach} {base : Nat} {v : Value} (h : Value.okWide Try.prog w r base 24 v) : ∃ q0 q1 q2 q3 q4 q5 : Int, (zX q0 ∧ zX q1 ∧ zX q2 ∧ zX q3 ∧ zX q4 ∧ zX q5) ∧ v = .agg #[.int .i64 q0, .int .i64 q1, .int .i64 q2, .int .i64 q3, .int .i64 q4, .int .i64 q5] := by
 obtain ⟨cs, rfl, hsz, hall⟩ := value_flat (ts := [3, 3, 3, 3, 3, 3]) (by kernel_rfl) (by kernel_rfl) (by kernel_rfl) h
 obtain ⟨a, b, c, d, e, f, rfl⟩ := arr6 hsz
 obtain ⟨a, rfl, ha⟩ := jJ Try.underlying3 (hall 0 _ _ rfl rfl)
 obtain ⟨b, rfl, hb⟩ := jJ Try.underlying3 (hall 1 _ _ rfl rfl)
 obtain ⟨c, rfl, hc⟩ := jJ Try.underlying3 (hall 2 _ _ rfl rfl)
 obtain ⟨d, rfl, hd⟩ := jJ Try.underlying3 (hall 3 _ _ rfl rfl)
 obtain ⟨e, rfl, he⟩ := jJ Try.underlying3 (hall 4 _ _ rfl rfl)
 obtain ⟨f, rfl, hf⟩ := jJ Try.underlying3 (hall 5 _ _ rfl rfl)
 exact ⟨a, b, c, d, e, f, ⟨has_i64 ha, has_i64 hb, has_i64 hc, has_i64 hd, has_i64 he, has_i64 hf⟩, rfl⟩
theorem pair_of {w : World} {p : Option Addr} {len b off : Nat} {Q : Nat → Nat → Int} (hp : 0 < len → p = some ⟨b, off, none⟩ ∧ b < w.heap.size) (hQ : ∀ i, i < len → ∀ j, j < 2 → w.cell? ⟨b, off + i * 2 + j, none⟩ = some (.int .i64 (Q i j)) ∧ zX (Q i j)) :
  ∃ Q' : Nat → Nat → Int, (∀ i j, zX (Q' i j)) ∧ ∀ cap, len ≤ cap → PairV w (.slice p len cap) len Q' := by
 obtain ⟨Q', hQ'⟩ : ∃ Q' : Nat → Nat → Int, ∀ i j, Q' i j = if i < len ∧ j < 2 then Q i j else 0 := ⟨fun i j => if i < len ∧ j < 2 then Q i j else 0, fun _ _ => rfl⟩
 refine ⟨Q', fun i j => ?_, fun cap hc => ⟨p, cap, rfl, hc, fun h0 => ?_⟩⟩
 ·rw [hQ']
  split
  ·rename_i h; exact (hQ i h.1 j h.2).2
  ·exact ⟨by decide, by decide⟩
 ·obtain ⟨c, t, fr, hg, -⟩ := cell_block (hQ 0 h0 0 (by omega)).1
  refine ⟨b, off, c, t, fr, (hp h0).1, hg, fun i hi => ?_⟩
  have hc : ∀ j, j < 2 → c[off + i * 2 + j]? = some (.int .i64 (Q' i j)) := fun j hj => by
   have := (hQ i hi j hj).1
   rw [cell_of_row _ _ _ _ _ _ hg] at this
   rw [this, hQ', if_pos ⟨hi, hj⟩]
  exact ⟨hc 0 (by omega), hc 1 (by omega)⟩
end Go.Proofs.Ythebmoggbgldmaa
namespace Go.Proofs.Ythebmoggbgldmaa
open Go Go.RowKit Go.Maps
set_option maxRecDepth 100000 in
set_option maxHeartbeats 4000000 in
theorem size_kid (w : World) : Calls Try.prog 78 #[.agg #[.slice none 0 0, .slice none 0 0, .slice none 0 0], .agg #[.int .i64 2, .string ⟨#[]⟩, .int .i64 0, .slice none 0 0], .int .i64 0] w fun e w' => e = .returned (.int .i64 1) ∧ Below w.heap.size w w' := by
 go_enter Try.func78, Try.ntmps78
 go_upto_region 1 with fail
 obtain ⟨h0, h1⟩ := yy w (.cells #[.slice none 0 0, .slice none 0 0, .slice none 0 0] 98) (.cells #[.int .i64 2, .string ⟨#[]⟩, .int .i64 0, .slice none 0 0] 90)
 have hbw : Below w.heap.size w ((w.alloc (.cells #[.slice none 0 0, .slice none 0 0, .slice none 0 0] 98)).alloc (.cells #[.int .i64 2, .string ⟨#[]⟩, .int .i64 0, .slice none 0 0] 90)) := ((Below.refl _ _).alloc (zn _) _).alloc (by simp) _
 obtain ⟨wa, hwa⟩ : ∃ W : World, ((w.alloc (.cells #[.slice none 0 0, .slice none 0 0, .slice none 0 0] 98)).alloc (.cells #[.int .i64 2, .string ⟨#[]⟩, .int .i64 0, .slice none 0 0] 90)) = W := ⟨_, rfl⟩
 rw [hwa] at h0 h1 hbw ⊢
 have HB := zh hbw
 have c0 := cell_of_row wa (w.heap.size + 1) 0 _ _ _ h1
 clear h0 h1 hbw hwa
 try simp only [Act.put]
 go_wp2_with fail
 go_ret
 exact ⟨rfl, HB.out⟩
set_option maxRecDepth 100000 in
set_option maxHeartbeats 4000000 in
theorem size_arr (N : Int) (hN : 0 ≤ N) (hN2 : N ≤ 600) (gk : Nat) (w : World) (hk : w.heap[gk]? = some (.cells #[.int .i64 2, .string ⟨#[]⟩, .int .i64 0, .slice none 0 0] 90 (0, 0))) :
  Calls Try.prog 78 #[.agg #[.slice none 0 0, .slice none 0 0, .slice none 0 0], .agg #[.int .i64 5, .string ⟨#[]⟩, .int .i64 N, .slice (some ⟨gk, 0, none⟩) 1 1], .int .i64 0] w fun e w' => e = .returned (.int .i64 N) ∧ Below w.heap.size w w' := by
 have HK := zh hk
 have HSK := zh (fun W => size_kid W)
 clear hk
 go_enter Try.func78, Try.ntmps78
 go_upto_region 1 with fail
 obtain ⟨h0, h1⟩ := yy w (.cells #[.slice none 0 0, .slice none 0 0, .slice none 0 0] 98) (.cells #[.int .i64 5, .string ⟨#[]⟩, .int .i64 N, .slice (some ⟨gk, 0, none⟩) 1 1] 90)
 have hbw : Below w.heap.size w ((w.alloc (.cells #[.slice none 0 0, .slice none 0 0, .slice none 0 0] 98)).alloc (.cells #[.int .i64 5, .string ⟨#[]⟩, .int .i64 N, .slice (some ⟨gk, 0, none⟩) 1 1] 90)) := ((Below.refl _ _).alloc (zn _) _).alloc (by simp) _
 obtain ⟨wa, hwa⟩ : ∃ W : World, ((w.alloc (.cells #[.slice none 0 0, .slice none 0 0, .slice none 0 0] 98)).alloc (.cells #[.int .i64 5, .string ⟨#[]⟩, .int .i64 N, .slice (some ⟨gk, 0, none⟩) 1 1] 90)) = W := ⟨_, rfl⟩
 rw [hwa] at h0 h1 hbw ⊢
 obtain ⟨g3, hg3⟩ : ∃ g : Nat, w.heap.size = g := ⟨_, rfl⟩
 obtain ⟨g4, hg4⟩ : ∃ g : Nat, w.heap.size + 1 = g := ⟨_, rfl⟩
 rw [hg4] at h1
 try rw [hg4]
 rw [hg3] at h0
 try rw [hg3]
 have HB := zh hbw
 have H3 := zh h0
 have H4 := zh h1
 have HKA := zh (zf hbw HK.out)
 have c0 := cell_of_row wa g4 0 _ _ _ h1
 have c2 := cell_of_row wa g4 2 _ _ _ h1
 have c3 := cell_of_row wa g4 3 _ _ _ h1
 clear h0 h1 hbw hwa hg3 hg4 HK
 try simp only [Act.put]
 have hnn : ¬ N < 0 := by omega
 go_upto_region 11 with fail
 clear c0 c2 c3
 refine ye [] 7 (z5 [isV (.agg #[.slice none 0 0, .slice none 0 0, .slice none 0 0]), isV (.pointer (some ⟨g4, 3, none⟩)), isV (.slice (some ⟨gk, 0, none⟩) 1 1), isV ((.pointer (some ⟨gk, 0, none⟩))), isV (.agg #[.int .i64 2, .string ⟨#[]⟩, .int .i64 0, .slice none 0 0]), isV (.int .i64 0), isV (.int .i64 1)]) (nth [[0], [1], [2], [3], [4], [5], [6]]) (nth [[], [], [], [], [], [], []]) (nth [[], [], [1], [2], [3], [], [0, 4, 5]]) [6] (fun w5 => Below wa.heap.size wa w5 ∧ True ∧ wa.heap.size ≤ w5.heap.size ∧ True) (by kernel_rfl) (by kernel_rfl) (⟨(Below.refl _ _).drew, trivial, zn _, trivial⟩) (fun w w' h hb => ⟨h.1.trans (hb.mono h.1.size), trivial, Nat.le_trans h.2.2.1 hb.size, trivial⟩) (zG ((za (zc _)  (za (zc _)  (za (zc _)  (za (zc _)  (za (zc _)  (za (zc _)  (za (zc _) zy))))))))) (fun f F hF => ?_)
 simp only [List.take_succ_cons, List.take_zero, yb, Act.put, zD, zE, zF, Nat.reduceAdd] at hF
 subst hF
 refine ⟨ze ?_ (ze ?_ (ze ?_ (ze ?_ (ze ?_ (ze ?_ (ze ?_ (yf))))))), ?_⟩
 ·intro w5 hS hF hD K hK
  rw [if_pos (by rfl)]
  exact svR hK rfl rfl rfl rfl (by first | rfl | kernel_rfl)  rfl rfl (zf hS.1 H3.out) (by kernel_rfl)
 ·intro w5 hS hF hD K hK
  rw [if_pos (by rfl)]
  exact svV hK rfl rfl rfl rfl (by first | rfl | kernel_rfl)  (by show _ = _; kernel_rfl)
 ·intro w5 hS hF hD K hK
  obtain ⟨(e1 : f 1 = _), -⟩ := hF
  try simp only [e1]
  rw [if_pos (by rfl)]
  exact svC hK rfl rfl rfl rfl (by first | rfl | kernel_rfl)  rfl rfl (zf hS.1 H4.out) (by kernel_rfl) (fun _ => by kernel_rfl)
 ·intro w5 hS hF hD K hK
  obtain ⟨(e2 : f 2 = _), -⟩ := hF
  try simp only [e2]
  rw [if_pos (by rfl)]
  go_simp
  refine hK.out _ _ rfl (zq rfl rfl rfl ?_)
  first | rfl | kernel_rfl
 ·intro w5 hS hF hD K hK
  obtain ⟨(e3 : f 3 = _), -⟩ := hF
  try simp only [e3]
  rw [if_pos (by rfl)]
  exact svR hK rfl rfl rfl rfl (by first | rfl | kernel_rfl)  rfl rfl (zf hS.1 HKA.out) (by kernel_rfl)
 ·intro w5 hS hF hD K hK
  rw [if_pos (by rfl)]
  exact svV hK rfl rfl rfl rfl (by first | rfl | kernel_rfl)  (by show _ = _; kernel_rfl)
 ·intro w5 hS hF hD K hK
  obtain ⟨(e0 : f 0 = _), (e4 : f 4 = _), (e5 : f 5 = _), -⟩ := hF
  try simp only [e0, e4, e5]
  rw [if_pos (by rfl)]
  go_simp
  go_at_call 78; refine (HSK.out _).mono ?_; rintro e w9 ⟨rfl, hbelow⟩; go_simp
  refine hK.out _ _ rfl (zP rfl rfl rfl hbelow ?_)
  first | rfl | kernel_rfl
 intro w5 hS hF
 obtain ⟨(e6 : f 6 = _), -⟩ := hF
 try simp only [e6]
 simp only [List.drop_succ_cons, List.drop_zero]
 have HB5 := zh (HB.out.trans (hS.1.mono HB.out.size))
 have H45 := zh (zf hS.1 H4.out)
 clear hS e6 H3 H4 HKA HSK HB
 try simp only [Act.put]
 go_upto_region 14 with fail
 obtain ⟨wb, rfl⟩ : ∃ wb : World, wb = w5 := ⟨_, rfl⟩
 have hN3 : ¬ (65535 : Int) < N := by omega
 refine zV [] 9 (z5 [isV (.int .i64 1), isV (.bool true), isV (.bool true), isV (.pointer (some ⟨g4, 2, none⟩)), isV (.int .i64 N), isV (.int .i64 1), isV (.int .i64 65535), isV (.bool false), isV (.bool false)]) (nth [[0], [1], [2], [3], [4], [5], [6], [7], [8]]) (nth [[], [], [], [], [], [], [], [], []]) (nth [[], [0], [1], [2], [3, 2], [2], [5, 2], [4, 6, 2], [2, 7]]) [8] (fun w5 => Below wb.heap.size wb w5 ∧ True ∧ wb.heap.size ≤ w5.heap.size ∧ True) (by kernel_rfl) (by kernel_rfl) (⟨(Below.refl _ _).drew, trivial, zn _, trivial⟩) (fun w w' h hb => ⟨h.1.trans (hb.mono h.1.size), trivial, Nat.le_trans h.2.2.1 hb.size, trivial⟩) (zG ((za (zc _)  (za (zc _)  (za (zc _)  (za (zc _)  (za (zc _)  (za (zc _)  (za (zc _)  (za (zc _)  (za (zc _) zy))))))))))) (fun f F hF => ?_)
 simp only [List.take_succ_cons, List.take_zero, yb, Act.put, zD, zE, zF, Nat.reduceAdd] at hF
 subst hF
 refine ⟨zd ?_ (zd ?_ (zd ?_ (zd ?_ (zd ?_ (zd ?_ (zd ?_ (zd ?_ (zd ?_ (yd))))))))), ?_⟩
 ·intro w5 hS hF hD K hK
  rw [if_pos (by rfl)]
  exact svV hK rfl rfl rfl rfl (by first | rfl | kernel_rfl)  (by show _ = _; kernel_rfl)
 ·intro w5 hS hF hD K hK
  obtain ⟨(e0 : f 0 = _), -⟩ := hF
  try simp only [e0]
  rw [if_pos (by rfl)]
  exact svV hK rfl rfl rfl rfl (by first | rfl | kernel_rfl)  (by show _ = _; kernel_rfl)
 ·intro w5 hS hF hD K hK
  obtain ⟨(e1 : f 1 = _), -⟩ := hF
  try simp only [e1]
  rw [if_pos (by rfl)]
  exact svV hK rfl rfl rfl rfl (by first | rfl | kernel_rfl)  (by show _ = _; kernel_rfl)
 ·intro w5 hS hF hD K hK
  obtain ⟨(e2 : f 2 = _), -⟩ := hF
  try simp only [e2]
  rw [if_pos (by rfl)]
  exact svV hK rfl rfl rfl rfl (by first | rfl | kernel_rfl)  (by show _ = _; kernel_rfl)
 ·intro w5 hS hF hD K hK
  obtain ⟨(e3 : f 3 = _), (e2 : f 2 = _), -⟩ := hF
  try simp only [e3, e2]
  rw [if_pos (by rfl)]
  exact svC hK rfl rfl rfl rfl (by first | rfl | kernel_rfl)  rfl rfl (zf hS.1 H45.out) (by kernel_rfl) (fun _ => by kernel_rfl)
 ·intro w5 hS hF hD K hK
  obtain ⟨(e2 : f 2 = _), -⟩ := hF
  try simp only [e2]
  rw [if_pos (by rfl)]
  exact svV hK rfl rfl rfl rfl (by first | rfl | kernel_rfl)  (by show _ = _; kernel_rfl)
 ·intro w5 hS hF hD K hK
  obtain ⟨(e5 : f 5 = _), (e2 : f 2 = _), -⟩ := hF
  try simp only [e5, e2]
  rw [if_pos (by rfl)]
  exact svV hK rfl rfl rfl rfl (by first | rfl | kernel_rfl)  (by show _ = _; kernel_rfl)
 ·intro w5 hS hF hD K hK
  obtain ⟨(e4 : f 4 = _), (e6 : f 6 = _), (e2 : f 2 = _), -⟩ := hF
  try simp only [e4, e6, e2]
  rw [if_pos (by rfl)]
  go_simp
  refine hK.out _ _ rfl (zq rfl rfl rfl ?_)
  first | rfl | kernel_rfl
 ·intro w5 hS hF hD K hK
  obtain ⟨(e2 : f 2 = _), (e7 : f 7 = _), -⟩ := hF
  try simp only [e2, e7]
  rw [if_pos (by rfl)]
  exact svV hK rfl rfl rfl rfl (by first | rfl | kernel_rfl)  (by show _ = _; kernel_rfl)
 intro w5 hS hF
 obtain ⟨(e8 : f 8 = _), -⟩ := hF
 try simp only [e8]
 refine yN (by kernel_rfl) ?_
 have HB6 := zh (HB5.out.trans (hS.1.mono HB5.out.size))
 have h4 := zf hS.1 H45.out
 have c2 := cell_of_row w5 g4 2 _ _ _ h4
 clear hS e8 h4 H45 HB5
 try simp only [Act.put]
 go_wp2_with fail
 go_ret
 exact ⟨rfl, HB6.out⟩
set_option maxRecDepth 100000 in
set_option maxHeartbeats 4000000 in
theorem size_any14 (N : Int) (hN : 0 ≤ N) (hN2 : N ≤ 600) (gk : Nat) (w : World) (hk : w.heap[gk]? = some (.cells #[.int .i64 2, .string ⟨#[]⟩, .int .i64 0, .slice none 0 0] 90 (0, 0))) :
  Calls Try.prog 40 #[.agg #[.slice none 0 0, .slice none 0 0, .slice none 0 0], .agg #[.int .i64 5, .string ⟨#[]⟩, .int .i64 N, .slice (some ⟨gk, 0, none⟩) 1 1]] w fun e w' => e = .returned (.tuple #[.int .i64 N, .bool true]) ∧ Below w.heap.size w w' := by
 have HK := zh hk
 have HSA := zh (fun W h => size_arr N hN hN2 gk W h)
 clear hk
 go_enter Try.func40, Try.ntmps40
 go_upto_region 1 with fail
 obtain ⟨h0, h1⟩ := yy w (.cells #[.slice none 0 0, .slice none 0 0, .slice none 0 0] 98) (.cells #[.int .i64 5, .string ⟨#[]⟩, .int .i64 N, .slice (some ⟨gk, 0, none⟩) 1 1] 90)
 have hbw : Below w.heap.size w ((w.alloc (.cells #[.slice none 0 0, .slice none 0 0, .slice none 0 0] 98)).alloc (.cells #[.int .i64 5, .string ⟨#[]⟩, .int .i64 N, .slice (some ⟨gk, 0, none⟩) 1 1] 90)) := ((Below.refl _ _).alloc (zn _) _).alloc (by simp) _
 obtain ⟨wa, hwa⟩ : ∃ W : World, ((w.alloc (.cells #[.slice none 0 0, .slice none 0 0, .slice none 0 0] 98)).alloc (.cells #[.int .i64 5, .string ⟨#[]⟩, .int .i64 N, .slice (some ⟨gk, 0, none⟩) 1 1] 90)) = W := ⟨_, rfl⟩
 rw [hwa] at h0 h1 hbw ⊢
 obtain ⟨g3, hg3⟩ : ∃ g : Nat, w.heap.size = g := ⟨_, rfl⟩
 obtain ⟨g4, hg4⟩ : ∃ g : Nat, w.heap.size + 1 = g := ⟨_, rfl⟩
 rw [hg4] at h1
 try rw [hg4]
 rw [hg3] at h0
 try rw [hg3]
 have HB := zh hbw
 have H3 := zh h0
 have H4 := zh h1
 have HKA := zh (zf hbw HK.out)
 have c0 := cell_of_row wa g3 0 _ _ _ h0
 clear h0 h1 hbw hwa hg3 hg4 HK
 try simp only [Act.put]
 go_upto_region 2 with (first | (show wpList _ _ _ (Oper.mk _ (Op.load 98 _) _ _ _ _ :: _) _ _; (refine zs _ _ rfl _ rfl _ _ _ (H3.out) ?_ ?_ ?_; kernel_rfl; kernel_rfl)) | (show wpList _ _ _ (Oper.mk _ (Op.load 90 _) _ _ _ _ :: _) _ _; (refine zs _ _ rfl _ rfl _ _ _ (H4.out) ?_ ?_ ?_; kernel_rfl; kernel_rfl)) | (go_at_call 78; refine (HSA.out _ HKA.out).mono ?_; rintro e w9 ⟨rfl, hb9⟩))
 have HB9 := zh (HB.out.trans (hb9.mono HB.out.size))
 clear hb9 HKA HSA H3 H4 c0
 have h1 : max N 0 = N := by omega
 have h2 : (0 : Int) ≤ N := hN
 have h3 : ¬ N < 0 := by omega
 go_wp2_with fail
 go_ret2
 exact ⟨rfl, HB9.out⟩
end Go.Proofs.Ythebmoggbgldmaa
