/- The reference of chapter 19: Turned. The conditions: the numbers lie in their types' ranges, tables of at most 700 labels. (Printed by gen_lmt.py.) -/
import Derived.Test.YthebmoggbgldmaaLaLrB
set_option linter.all false
namespace Go.Proofs.Ythebmoggbgldmaa
open Go Go.RowKit Go.Maps
def TnPost (n T : Nat) (w : World) (e : Ending) (w' : World) : Prop :=
 ∃ (ls : List zu) (nm : ByteArray) (ao : Option Addr) (cap : Nat), e = .returned (.agg #[.string nm, .slice ao ls.length cap]) ∧ ls.length = n ∧ yV ls ∧ (∀ l ∈ ls, l.tab.length ≤ T) ∧ (ao = none → cap = 0) ∧ yJ w' (.slice ao ls.length cap) ls ∧ Below w.heap.size w w'
def IntQ (B n : Nat) (xs : List Value) (v : Value) (W : World) : Prop := W.ownsRow B 3 1 v n xs
def LnQ (B n : Nat) (xs : List Value) (v : Value) (W : World) : Prop := W.ownsRow B 58 12 v n xs
def LnQ2 (nm : ByteArray) (B n : Nat) (xs : List Value) (v : Value) (W : World) : Prop := ∃ sv, v = .agg #[.string nm, sv] ∧ W.ownsRow B 58 12 sv n xs
theorem alloc3_at (w : World) (a b c : Obj) : (((w.alloc a).alloc b).alloc c).heap[w.heap.size]? = some a ∧ (((w.alloc a).alloc b).alloc c).heap[w.heap.size + 1]? = some b ∧ (((w.alloc a).alloc b).alloc c).heap[w.heap.size + 1 + 1]? = some c := by
 obtain ⟨h1, h2⟩ := yy w a b
 refine ⟨(heap_alloc_old _ _ (by simp <;> omega)).trans h1, (heap_alloc_old _ _ (by simp <;> omega)).trans h2, ?_⟩
 have := heap_alloc_new ((w.alloc a).alloc b) c
 simpa using this
theorem own_setRowL {W : World} {B g n : Nat} {v : Value} {xs : List Value} {cs : Array Value} {U : TypeId} {fr : Nat × Nat} (h : W.ownsRow B 58 12 v n xs) (hg : W.heap[g]? = some (.cells cs U fr)) (hU : U ≠ 58) (cs' : Array Value) : (W.setRow g cs').ownsRow B 58 12 v n xs :=
 zZ h (zN.setRow (bs := fun k => k = g) (zN.refl _ W) cs' fun _ => rfl) fun q hq e => by
  obtain ⟨-, cs', h1⟩ := z7 h q hq
  rw [e, hg] at h1
  simp at h1
  exact hU h1.2.1
theorem jz.ne {W : World} {g k : Nat} {ls : List zu} (h : jz W g ls) {cs : Array Value} {U : TypeId} {fr : Nat × Nat} (hk : W.heap[k]? = some (.cells cs U fr)) (hU : U ≠ 58) : k ≠ g := fun e => by
 obtain ⟨c, hg, -⟩ := h
 rw [e, hg] at hk
 simp at hk
 exact hU hk.2.1.symm
structure TnS (w : World) (g g7 b2 n T : Nat) (nm : ByteArray) (sc : Nat) (ls : List zu) (W : World) : Prop where
 lg : jz W g ls
 len : ls.length = n
 ok : yV ls
 tb : ∀ l ∈ ls, l.tab.length ≤ T
 h7 : W.heap[g7]? = some (.cells #[.string nm, .slice (some ⟨g, 0, none⟩) n sc] 32 (0, 0))
 h2 : W.heap[b2]? = some (.cells #[.string ⟨#[]⟩, .slice none 0 0] 32 (0, 0))
 bb : Below w.heap.size w W
 gw : w.heap.size ≤ g
section
variable {w : World} {g g7 b2 n T : Nat} {nm : ByteArray} {sc : Nat} {ls : List zu} {W W' : World}
theorem TnS.stay (h : TnS w g g7 b2 n T nm sc ls W) (hb : Below W.heap.size W W') : TnS w g g7 b2 n T nm sc ls W' :=
 ⟨h.lg.turn hb, h.len, h.ok, h.tb, zf hb h.h7, zf hb h.h2, h.bb.trans (hb.mono h.bb.size), h.gw⟩
theorem TnS.more (h : TnS w g g7 b2 n T nm sc ls W) {T' : Nat} (hT : T ≤ T') : TnS w g g7 b2 n T' nm sc ls W :=
 ⟨h.lg, h.len, h.ok, fun l hl => Nat.le_trans (h.tb l hl) hT, h.h7, h.h2, h.bb, h.gw⟩
theorem TnS.set (h : TnS w g g7 b2 n T nm sc ls W) {ix : Nat} {l : zu} (hl : ls[ix]? = some l) (j : Nat) (hj : j < 12) (v : Value) (l' : zu) (hr : ∀ tv, IntsN W g tv l.tab → ∃ tv', (xX l tv).set j v = xX l' tv' ∧ IntsN W g tv' l'.tab) (ho : l'.Ok) (ht : l'.tab.length ≤ T) :
  TnS w g g7 b2 n T nm sc (ls.set ix l') (W.setCell ⟨g, ix * 12 + j, none⟩ v) := by
 have hT : zN (fun k => k = g) W (W.setCell ⟨g, ix * 12 + j, none⟩ v) := zN.setCell (zN.refl _ W) _ fun _ => rfl
 refine ⟨h.lg.set hl j hj v l' rfl hr, by rw [List.length_set]; exact h.len, ⟨fun m hm => ?_, by rw [List.length_set]; exact h.ok.2⟩, fun m hm => ?_, hT.heap h.h7 (h.lg.ne h.h7 (by decide)), hT.heap h.h2 (h.lg.ne h.h2 (by decide)), h.bb.trans (hT.toBelow h.bb.size fun k hk => by rw [hk]; exact h.gw), h.gw⟩
 ·rcases List.mem_or_eq_of_mem_set hm with h1 | h1
  ·exact h.ok.1 m h1
  ·rw [h1]; exact ho
 ·rcases List.mem_or_eq_of_mem_set hm with h1 | h1
  ·exact h.tb m h1
  ·rw [h1]; exact ht
end
theorem tmod_bd {n k : Int} (hk : k = 6 ∨ k = 10) (h0 : -2 ≤ n) (h1 : n < 298) : zX (n.tmod k) := by
 have : n = -2 ∨ n = -1 ∨ 0 ≤ n := by omega
 rcases this with rfl | rfl | h
 ·rcases hk with rfl | rfl <;> exact ⟨by decide, by decide⟩
 ·rcases hk with rfl | rfl <;> exact ⟨by decide, by decide⟩
 ·rw [Int.tmod_eq_emod_of_nonneg h]
  rcases hk with rfl | rfl
  ·exact ⟨by omega, by omega⟩
  ·exact ⟨by omega, by omega⟩
set_option maxRecDepth 100000 in
set_option maxHeartbeats 4000000 in
theorem turned_any (nm : ByteArray) (ls : List zu) (T : Nat) (hT : T ≤ 700) (hls : yV ls) (htb : ∀ l ∈ ls, l.tab.length ≤ T) (ao : Option Addr) (cap : Nat) (hcap : ao = none → cap = 0) (q0 q1 q2 : Int) (hq0 : zX q0) (hq1 : zX q1) (hq2 : zX q2) (w : World) (hL : yJ w (.slice ao ls.length cap) ls) :
  Calls Try.prog 12 #[.agg #[.string nm, .slice ao ls.length cap], .agg #[.int .i64 q0, .int .i64 q1, .int .i64 q2]] w (TnPost ls.length (T + 300) w) := by
 obtain ⟨ps, hps, hpt, hsrc, hone⟩ := hL.src
 obtain ⟨n, hn⟩ : ∃ n : Nat, ls.length = n := ⟨_, rfl⟩
 have hn1000 : n ≤ 1000 := by have := hls.2; omega
 rw [hn] at hsrc ⊢
 have hpl : n = ps.length := by rw [← hn, ← hps, List.length_map]
 have HLS := zh hls
 have HTB := zh htb
 have HPS := zh hps
 have HPT := zh hpt
 have HSR := zh hsrc
 have HON := zh hone
 have HNN := zh hn
 have HPL := zh hpl
 have HCP := zh hcap
 have HM0 := zh (fun W => jk q0 9 hq0 (by omega) (by omega) W)
 have HM2 := zh (fun W => jk q2 300 hq2 (by omega) (by omega) W)
 have HI1 := zh hq1
 obtain ⟨iL, hiL, hzL, hzL1, hzL2⟩ := info_parts infoLine
 have HIL := zh (And.intro hiL (And.intro hzL (And.intro hzL1 hzL2)))
 clear hiL hzL hzL1 hzL2
 have HZ1 := zh (show n ≤ maxLen by unfold maxLen; omega)
 have HZ2 := zh (show n * 104 ≤ 140737488355328 by omega)
 clear hls htb hps hpt hsrc hone hcap hq0 hq1 hq2 hL hn hpl
 go_enter Try.func12, Try.ntmps12
 go_upto_region 1 with fail
 obtain ⟨h0, h1, h2⟩ := alloc3_at w (.cells #[.string nm, .slice ao n cap] 32) (.cells #[.int .i64 q0, .int .i64 q1, .int .i64 q2] 39) (.cells #[.string ⟨#[]⟩, .slice none 0 0] 32)
 have hbw : Below w.heap.size w (((w.alloc (.cells #[.string nm, .slice ao n cap] 32)).alloc (.cells #[.int .i64 q0, .int .i64 q1, .int .i64 q2] 39)).alloc (.cells #[.string ⟨#[]⟩, .slice none 0 0] 32)) := (((Below.refl _ _).alloc (zn _) _).alloc (by simp) _).alloc (by simp <;> omega) _
 have hsz : w.heap.size + 3 ≤ (((w.alloc (.cells #[.string nm, .slice ao n cap] 32)).alloc (.cells #[.int .i64 q0, .int .i64 q1, .int .i64 q2] 39)).alloc (.cells #[.string ⟨#[]⟩, .slice none 0 0] 32)).heap.size := by simp <;> omega
 obtain ⟨wa, hwa⟩ : ∃ W : World, (((w.alloc (.cells #[.string nm, .slice ao n cap] 32)).alloc (.cells #[.int .i64 q0, .int .i64 q1, .int .i64 q2] 39)).alloc (.cells #[.string ⟨#[]⟩, .slice none 0 0] 32)) = W := ⟨_, rfl⟩
 rw [hwa] at h0 h1 h2 hbw hsz ⊢
 obtain ⟨b1, hb1⟩ : ∃ b : Nat, w.heap.size + 1 = b := ⟨_, rfl⟩
 rw [hb1] at h1 h2
 try rw [hb1]
 obtain ⟨b2, hb2⟩ : ∃ b : Nat, b1 + 1 = b := ⟨_, rfl⟩
 rw [hb2] at h2
 try rw [hb2]
 have HBB := zh (show b1 = w.heap.size + 1 ∧ b2 = w.heap.size + 2 by omega)
 have H0 := zh h0
 have H1 := zh h1
 have H2 := zh h2
 have HB := zh hbw
 have HSZ := zh hsz
 have HSW := zh (HSR.out.turn (zN.ofBelow (bs := fun _ => False) hbw) (fun _ _ h => h))
 clear hwa h0 h1 h2 hbw hsz HSR hb1 hb2
 refine ye [7] 8 (z5 [isV (.pointer (some ⟨w.heap.size, 0, none⟩)), isV (.string nm), newS (wa.heap.size) (.cells #[] 58 (0, 0)) 0, isV (.pointer (some ⟨w.heap.size, 1, none⟩)), isV (.slice ao n cap), isVT ((fun _ => False)) (LnQ wa.heap.size n (rowsV ps)), isVT ((fun _ => False)) (LnQ2 nm wa.heap.size n (rowsV ps)), newR wa.heap.size 32 2]) (nth [[0], [1], [2], [3], [4], [5], [6], [7]]) (nth [[], [], [], [], [], [], [], []]) (nth [[], [0], [], [], [3], [2, 4], [1, 5], []]) [6, 7] (fun w5 => Below wa.heap.size wa w5 ∧ True ∧ wa.heap.size ≤ w5.heap.size ∧ True) (by kernel_rfl) (by kernel_rfl) (⟨(Below.refl _ _).drew, trivial, zn _, trivial⟩) (fun w w' h hb => ⟨h.1.trans (hb.mono h.1.size), trivial, Nat.le_trans h.2.2.1 hb.size, trivial⟩) (zG ((za (zc _)  (za (zc _)  (za (yZ _ _ _)  (za (zc _)  (za (zc _)  (za (yu _ _)  (za (yu _ _)  (za (zi.newR _ _ _) zy)))))))))) (fun f F hF => ?_)
 simp only [List.take_succ_cons, List.take_zero, yb, Act.put, zD, zE, zF, Nat.reduceAdd] at hF
 subst hF
 refine ⟨ze ?_ (ze ?_ (ze ?_ (ze ?_ (ze ?_ (ze ?_ (ze ?_ (ze ?_ (yf)))))))), ?_⟩
 ·intro w5 hS hF hD K hK
  rw [if_pos (by rfl)]
  exact svV hK rfl rfl rfl rfl (by first | rfl | kernel_rfl)  (by show _ = _; kernel_rfl)
 ·intro w5 hS hF hD K hK
  obtain ⟨(e0 : f 0 = _), -⟩ := hF
  try simp only [e0]
  rw [if_pos (by rfl)]
  exact svC hK rfl rfl rfl rfl (by first | rfl | kernel_rfl)  rfl rfl (zf hS.1 H0.out) (by kernel_rfl) (fun _ => by kernel_rfl)
 ·intro w5 hS hF hD K hK
  rw [if_pos (by rfl)]
  go_simp
  refine hK.out _ _ rfl (y0 rfl rfl rfl hS.2.2.1 ?_)
  first | rfl | kernel_rfl
 ·intro w5 hS hF hD K hK
  rw [if_pos (by rfl)]
  exact svV hK rfl rfl rfl rfl (by first | rfl | kernel_rfl)  (by show _ = _; kernel_rfl)
 ·intro w5 hS hF hD K hK
  obtain ⟨(e3 : f 3 = _), -⟩ := hF
  try simp only [e3]
  rw [if_pos (by rfl)]
  exact svC hK rfl rfl rfl rfl (by first | rfl | kernel_rfl)  rfl rfl (zf hS.1 H0.out) (by kernel_rfl) (fun _ => by kernel_rfl)
 ·intro w5 hS hF hD K hK
  obtain ⟨e2, (e4 : f 4 = _), -⟩ := hF
  obtain ⟨g2, e2, hB2, hg2⟩ := e2
  replace e2 : f 2 = _ := e2
  try simp only [e2, e4]
  rw [if_pos (by rfl)]
  refine wp_append_empty w5 _ _ 30 rfl wa.heap.size 58 iL _ 12 104 Try.underlying30 HIL.out.1 HIL.out.2.1 HIL.out.2.2.1 HIL.out.2.2.2 rfl (by decide) g2 rfl hg2 hB2 ao n cap (rowsV ps) rfl (HSW.out.turn (zN.ofBelow (bs := fun _ => False) hS.1) (fun _ _ h => h)) HON.out HZ1.out HZ2.out hS.2.2.1 ?_; intro v9 w9 ho9 hb9
  exact hK.out _ _ rfl (yv rfl rfl rfl rfl (hb9.size) (⟨hS.1.trans (hb9.mono hS.1.size), trivial, Nat.le_trans hS.2.2.1 hb9.size, trivial⟩) (zk (zk (yq ((fun _ _ h => zf hb9 h)) (zk (zk (yc (by rfl) (zU (zN.ofBelow hb9) (zm.newR ((fun _ _ h => zf hb9 h)) ym)))))))) (ho9))
 ·intro w5 hS hF hD K hK
  obtain ⟨(e1 : f 1 = _), e5, -⟩ := hF
  obtain ⟨y5, p5, t5⟩ := e5
  try simp only [e1]
  rw [if_pos (by rfl)]
  obtain ⟨a9, c9, h9, -⟩ := xV p5; simp only [h9]; show Oper.wp _ _ _ _ _ _; go_simp
  exact hK.out _ _ rfl (yv rfl rfl rfl rfl (zn _) (hS) (zk (zk (yq ((fun _ _ h => h)) (zk (zk (zU (zN.refl _ _) (yc (by rfl) (zm.newR ((fun _ _ h => h)) ym)))))))) ((by have h8 := zZ p5 t5 fun _ _ h => h; rw [show f 5 = _ from h9] at h8; exact ⟨_, rfl, h8⟩)))
 ·intro w5 hS hF hD K hK
  rw [if_pos (by rfl)]
  go_simp
  refine hK.out _ _ rfl (zr.new rfl rfl hS.2.2.1 rfl ?_)
  first | rfl | kernel_rfl
 intro w5 hS hF
 obtain ⟨e6, e7, -⟩ := hF
 obtain ⟨y6, p6, t6⟩ := e6
 obtain ⟨g7, c7, e7, hB7, hg7, hn7⟩ := e7
 replace e7 : f 7 = _ := e7
 try simp only [e7]
 simp only [List.drop_succ_cons, List.drop_zero]
 obtain ⟨sv, hv6, ho6⟩ := p6
 obtain ⟨sa, sc, rfl, hsc⟩ := xV ho6
 simp only [hv6]
 go_upto_region 2 with (refine wpList_store_row rfl _ _ _ rfl _ _ rfl rfl _ _ hg7 ?_ ?_ ?_ ?_; kernel_rfl; exact hn7; kernel_rfl)
 have hg7w := setRow_heap w5 g7 _ #[.string nm, .slice sa n sc] _ _ hg7
 have ho7 := own_setRowL (zZ ho6 t6 fun _ _ h => h) hg7 (by decide) #[.string nm, .slice sa n sc]
 have hb7 := below_setRow hS.1 hB7 #[.string nm, .slice sa n sc]
 obtain ⟨wc, hwc⟩ : ∃ W : World, w5.setRow g7 #[.string nm, .slice sa n sc] = W := ⟨_, rfl⟩
 rw [hwc] at hg7w ho7 hb7 ⊢
 have HC := zh hg7w
 have HO := zh ho7
 have HBC := zh (HB.out.trans (hb7.mono HB.out.size))
 have H1C := zh (zf hb7 H1.out)
 have H2C := zh (zf hb7 H2.out)
 have HGG := zh (show w.heap.size + 3 ≤ g7 from Nat.le_trans HSZ.out hB7)
 have HWA := zh HB.out.size
 clear hwc hg7w ho7 hb7 hg7 hB7 hn7 e7 hv6 ho6 t6 hS H0 H1 H2 HB HSW HON HCP HZ1 HZ2 HIL HSZ
 try simp only [Act.put]
 have c71 := cell_of_row wc g7 1 _ _ _ HC.out
 by_cases hn0 : n = 0
 ·subst hn0
  go_wp2_with (first | (refine zs _ _ rfl _ rfl _ _ _ (HC.out) ?_ ?_ ?_; kernel_rfl; kernel_rfl) | (refine wpList_store_row rfl _ _ _ rfl _ _ rfl rfl _ _ (H2C.out) ?_ ?_ ?_ ?_; kernel_rfl; rfl; kernel_rfl))
  have hb2 := HBB.out
  refine bodyPost_ret (results_cell_row (cs := #[.string nm, .slice sa 0 sc]) (fr := (0, 0)) rfl _ _ b2 32 _ rfl (setRow_heap _ _ _ _ _ _ H2C.out) (Try.underlying32) rfl (by kernel_rfl)) rfl ⟨[], nm, sa, sc, rfl, rfl, ⟨fun l hl => by (cases hl), Nat.zero_le _⟩, (fun l hl => by cases hl), hsc, ⟨sa, sc, rfl, Nat.zero_le _, fun h => by cases h⟩, below_setRow HBC.out (by omega) _⟩
 ·have hnb : ((n : Int) == 0) = false := by simp; omega
  obtain ⟨g, rfl, hBg, hnsc, hLG⟩ := own_linesG HO.out HPL.out (by omega) HWA.out HBC.out HPT.out
  rw [HPS.out] at hLG
  have HLG := zh hLG
  have HGR := zh (show w.heap.size ≤ g from Nat.le_trans HWA.out hBg)
  obtain ⟨ix, hix, hixn⟩ : ∃ ix : Nat, q1 % (n : Int) = ix ∧ ix < n := ⟨(q1 % (n : Int)).toNat, (Int.toNat_of_nonneg (Int.emod_nonneg _ (by omega))).symm, by have := Int.emod_lt_of_pos q1 (show (0 : Int) < n by omega); omega⟩
  have HMX := zh (fun W => by have := jk q1 n HI1.out (by omega) (by omega) W; rw [hix] at this; exact this)
  have hixi : (ix : Int) < (n : Int) := by omega
  clear hLG hBg HO HPL HPT HI1 HWA hix hn0
  go_upto_region 4 with fail
  clear hnb c71
  refine ye [] 9 (z5 [isV (.pointer (some ⟨g7, 1, none⟩)), isV (.slice (some ⟨g, 0, none⟩) n sc), isV (.pointer (some ⟨b1, 1, none⟩)), isV (.int .i64 q1), isV (.pointer (some ⟨g7, 1, none⟩)), isV (.slice (some ⟨g, 0, none⟩) n sc), isV (.int .i64 n), isV (.int .i64 ix), isV (.pointer (some ⟨g, ix * 12, none⟩))]) (nth [[0], [1], [2], [3], [4], [5], [6], [7], [8]]) (nth [[], [], [], [], [], [], [], [], []]) (nth [[], [0], [], [2], [], [4], [5], [3, 6], [1, 7]]) [8] (fun w5 => Below wc.heap.size wc w5 ∧ True ∧ wc.heap.size ≤ w5.heap.size ∧ True) (by kernel_rfl) (by kernel_rfl) (⟨(Below.refl _ _).drew, trivial, zn _, trivial⟩) (fun w w' h hb => ⟨h.1.trans (hb.mono h.1.size), trivial, Nat.le_trans h.2.2.1 hb.size, trivial⟩) (zG ((za (zc _)  (za (zc _)  (za (zc _)  (za (zc _)  (za (zc _)  (za (zc _)  (za (zc _)  (za (zc _)  (za (zc _) zy))))))))))) (fun f F hF => ?_)
  simp only [List.take_succ_cons, List.take_zero, yb, Act.put, zD, zE, zF, Nat.reduceAdd] at hF
  subst hF
  refine ⟨ze ?_ (ze ?_ (ze ?_ (ze ?_ (ze ?_ (ze ?_ (ze ?_ (ze ?_ (ze ?_ (yf))))))))), ?_⟩
  ·intro w5 hS hF hD K hK
   rw [if_pos (by rfl)]
   exact svV hK rfl rfl rfl rfl (by first | rfl | kernel_rfl)  (by show _ = _; kernel_rfl)
  ·intro w5 hS hF hD K hK
   obtain ⟨(e0 : f 0 = _), -⟩ := hF
   try simp only [e0]
   rw [if_pos (by rfl)]
   exact svC hK rfl rfl rfl rfl (by first | rfl | kernel_rfl)  rfl rfl (zf hS.1 HC.out) (by kernel_rfl) (fun _ => by kernel_rfl)
  ·intro w5 hS hF hD K hK
   rw [if_pos (by rfl)]
   exact svV hK rfl rfl rfl rfl (by first | rfl | kernel_rfl)  (by show _ = _; kernel_rfl)
  ·intro w5 hS hF hD K hK
   obtain ⟨(e2 : f 2 = _), -⟩ := hF
   try simp only [e2]
   rw [if_pos (by rfl)]
   exact svC hK rfl rfl rfl rfl (by first | rfl | kernel_rfl)  rfl rfl (zf hS.1 H1C.out) (by kernel_rfl) (fun _ => by kernel_rfl)
  ·intro w5 hS hF hD K hK
   rw [if_pos (by rfl)]
   exact svV hK rfl rfl rfl rfl (by first | rfl | kernel_rfl)  (by show _ = _; kernel_rfl)
  ·intro w5 hS hF hD K hK
   obtain ⟨(e4 : f 4 = _), -⟩ := hF
   try simp only [e4]
   rw [if_pos (by rfl)]
   exact svC hK rfl rfl rfl rfl (by first | rfl | kernel_rfl)  rfl rfl (zf hS.1 HC.out) (by kernel_rfl) (fun _ => by kernel_rfl)
  ·intro w5 hS hF hD K hK
   obtain ⟨(e5 : f 5 = _), -⟩ := hF
   try simp only [e5]
   rw [if_pos (by rfl)]
   exact svV hK rfl rfl rfl rfl (by first | rfl | kernel_rfl)  (by show _ = _; kernel_rfl)
  ·intro w5 hS hF hD K hK
   obtain ⟨(e3 : f 3 = _), (e6 : f 6 = _), -⟩ := hF
   try simp only [e3, e6]
   rw [if_pos (by rfl)]
   go_simp
   go_at_call 11; refine (HMX.out _).mono ?_; rintro e wz ⟨rfl, rfl⟩; have hbelow := Below.refl w5.heap.size w5; go_simp
   refine hK.out _ _ rfl (zP rfl rfl rfl hbelow ?_)
   first | rfl | kernel_rfl
  ·intro w5 hS hF hD K hK
   obtain ⟨(e1 : f 1 = _), (e7 : f 7 = _), -⟩ := hF
   try simp only [e1, e7]
   rw [if_pos (by rfl)]
   go_simp
   refine hK.out _ _ rfl (zq rfl rfl rfl ?_)
   first | rfl | kernel_rfl
  intro w5 hS hF
  obtain ⟨(e8 : f 8 = _), -⟩ := hF
  try simp only [e8]
  simp only [List.drop_succ_cons, List.drop_zero]
  have HLG5 := zh (HLG.out.turn (hS.1))
  have HC5 := zh (zf hS.1 HC.out)
  have H15 := zh (zf hS.1 H1C.out)
  have H25 := zh (zf hS.1 H2C.out)
  have HB5 := zh (HBC.out.trans (hS.1.mono HBC.out.size))
  clear hS HLG HC H1C H2C HBC HMX hixi e8
  have c12 := cell_of_row w5 b1 2 _ _ _ H15.out
  have c10 := cell_of_row w5 b1 0 _ _ _ H15.out
  go_upto_block 0 with (first | (go_at_call 11; refine (HM2.out _).mono ?_; rintro e wz ⟨rfl, rfl⟩) | (go_at_call 11; refine (HM0.out _).mono ?_; rintro e wz ⟨rfl, rfl⟩))
  obtain ⟨nn, hnn⟩ : ∃ z : Int, q2 % 300 - 2 = z := ⟨_, rfl⟩
  have hn20 : -2 ≤ nn ∧ nn < 298 := by omega
  try rw [hnn]
  obtain ⟨m, hm⟩ : ∃ z : Int, q0 % 9 = z := ⟨_, rfl⟩
  have hm09 : 0 ≤ m ∧ m < 9 := by omega
  try rw [hm]
  have HT0 := zh (show TnS w g g7 b2 n T nm sc ls w5 from ⟨HLG5.out, HNN.out, HLS.out, HTB.out, HC5.out, H25.out, HB5.out, HGR.out⟩)
  obtain ⟨i3, hi3, hz3, hz31, hz32⟩ := info_parts infoIk
  have HI3 := zh (And.intro hi3 (And.intro hz3 (And.intro hz31 hz32)))
  clear hi3 hz3 hz31 hz32
  have HTS := zh (show TnS w g g7 b2 n (T + 300) nm sc ls w5 from ⟨HLG5.out, HNN.out, HLS.out, fun l hl => Nat.le_trans (HTB.out l hl) (by omega), HC5.out, H25.out, HB5.out, HGR.out⟩)
  obtain ⟨l, hl⟩ : ∃ l, ls[ix]? = some l := ⟨_, List.getElem?_eq_getElem (by have := HNN.out; omega)⟩
  have hlo : l.Ok := HLS.out.1 l (List.mem_of_getElem? hl)
  have htl : l.tab.length ≤ T := HTB.out l (List.mem_of_getElem? hl)
  obtain ⟨ta, tcp, hIN, hcell⟩ := HLG5.out.cell hl
  have HIN := zh hIN
  have HCL := zh hcell
  have HLO := zh hlo
  have HLL := zh hl
  have HNN6 := zh (show zX nn from ⟨by omega, by omega⟩)
  have HT6 := zh (tmod_bd (k := 6) (.inl rfl) hn20.1 hn20.2)
  have HT10 := zh (tmod_bd (k := 10) (.inr rfl) hn20.1 hn20.2)
  have HHM := zh hm
  have HNQ := zh hnn
  clear hIN hcell hlo hm hl hnn c10 HM0 HM2 HLG5 HC5 H25 HB5 HNN HLS HTB HGR HPS
  try simp only [Act.put]
  go_cut [] (fun wx => ∃ ls' : List zu, Hid (TnS w g g7 b2 n (T + 300) nm sc ls' wx))
  case first =>
   as_aux_lemma =>
   go_upto_if 37 with fail
   by_cases h0 : m = 0
   ·subst h0
    try simp only [show ((0 : Int) == 0) = true from rfl]
    have c9 : w5.cell? ⟨g, ix * 12, none⟩ = some (.int .i64 l.label) := HCL.out 0 (by omega)
    have f9 : w5.frozen? ⟨g, ix * 12, none⟩ = false := HTS.out.lg.froz _
    go_wp2_with fail
    go_meet
    exact ⟨_, zh (HTS.out.set HLL.out 0 (by omega) _ { l with label := nn } (fun tv h => ⟨tv, rfl, h⟩) ⟨⟨by show -65536 ≤ nn; omega, by show nn < 65536; omega⟩, HLO.out.ins, HLO.out.dest, HLO.out.fn, HLO.out.obj, HLO.out.tab, HLO.out.tlen⟩ (by show l.tab.length ≤ T + 300; omega))⟩
   ·have e0 : (m == 0) = false := by simp [h0]
    try simp only [e0]
    clear e0
    go_upto_if 43 with fail
    by_cases h1 : m = 1
    ·subst h1
     try simp only [show ((1 : Int) == 1) = true from rfl]
     have c9 : w5.cell? ⟨g, ix * 12 + 8, none⟩ = some (.int .i64 l.dest) := HCL.out 8 (by omega)
     have f9 : w5.frozen? ⟨g, ix * 12 + 8, none⟩ = false := HTS.out.lg.froz _
     go_wp2_with fail
     go_meet
     exact ⟨_, zh (HTS.out.set HLL.out 8 (by omega) _ { l with dest := nn } (fun tv h => ⟨tv, rfl, h⟩) ⟨HLO.out.label, HLO.out.ins, HNN6.out, HLO.out.fn, HLO.out.obj, HLO.out.tab, HLO.out.tlen⟩ (by show l.tab.length ≤ T + 300; omega))⟩
    ·have e1 : (m == 1) = false := by simp [h1]
     try simp only [e1]
     clear e1
     go_upto_if 49 with fail
     by_cases h2 : m = 2
     ·subst h2
      try simp only [show ((2 : Int) == 2) = true from rfl]
      have c9 : w5.cell? ⟨g, ix * 12 + 9, none⟩ = some (.int .i64 l.fn) := HCL.out 9 (by omega)
      have f9 : w5.frozen? ⟨g, ix * 12 + 9, none⟩ = false := HTS.out.lg.froz _
      go_wp2_with fail
      go_meet
      exact ⟨_, zh (HTS.out.set HLL.out 9 (by omega) _ { l with fn := nn.tmod 6 } (fun tv h => ⟨tv, rfl, h⟩) ⟨HLO.out.label, HLO.out.ins, HLO.out.dest, HT6.out, HLO.out.obj, HLO.out.tab, HLO.out.tlen⟩ (by show l.tab.length ≤ T + 300; omega))⟩
     ·have e2 : (m == 2) = false := by simp [h2]
      try simp only [e2]
      clear e2
      go_upto_if 56 with fail
      by_cases h3 : m = 3
      ·subst h3
       try simp only [show ((3 : Int) == 3) = true from rfl]
       have c9 : w5.cell? ⟨g, ix * 12 + 10, none⟩ = some (.int .i64 l.obj) := HCL.out 10 (by omega)
       have f9 : w5.frozen? ⟨g, ix * 12 + 10, none⟩ = false := HTS.out.lg.froz _
       go_wp2_with fail
       go_meet
       exact ⟨_, zh (HTS.out.set HLL.out 10 (by omega) _ { l with obj := nn.tmod 6 } (fun tv h => ⟨tv, rfl, h⟩) ⟨HLO.out.label, HLO.out.ins, HLO.out.dest, HLO.out.fn, HT6.out, HLO.out.tab, HLO.out.tlen⟩ (by show l.tab.length ≤ T + 300; omega))⟩
      ·have e3 : (m == 3) = false := by simp [h3]
       try simp only [e3]
       clear e3
       go_upto_if 63 with fail
       by_cases h4 : m = 4
       ·subst h4
        try simp only [show ((4 : Int) == 4) = true from rfl]
        have c9 : w5.cell? ⟨g, ix * 12 + 1, none⟩ = some (.int .i64 l.ins.op) := HCL.out 1 (by omega)
        have f9 : w5.frozen? ⟨g, ix * 12 + 1, none⟩ = false := HTS.out.lg.froz _
        go_wp2_with fail
        go_meet
        exact ⟨_, zh (HTS.out.set HLL.out 1 (by omega) _ { l with ins := { l.ins with op := nn } } (fun tv h => ⟨tv, rfl, h⟩) ⟨HLO.out.label, ⟨HNN6.out, HLO.out.ins.d, HLO.out.ins.s, HLO.out.ins.imm, HLO.out.ins.aux, HLO.out.ins.bank, HLO.out.ins.size⟩, HLO.out.dest, HLO.out.fn, HLO.out.obj, HLO.out.tab, HLO.out.tlen⟩ (by show l.tab.length ≤ T + 300; omega))⟩
       ·have e4 : (m == 4) = false := by simp [h4]
        try simp only [e4]
        clear e4
        go_upto_if 70 with fail
        by_cases h5 : m = 5
        ·subst h5
         try simp only [show ((5 : Int) == 5) = true from rfl]
         have c9 : w5.cell? ⟨g, ix * 12 + 2, none⟩ = some (.int .i64 l.ins.d) := HCL.out 2 (by omega)
         have f9 : w5.frozen? ⟨g, ix * 12 + 2, none⟩ = false := HTS.out.lg.froz _
         go_wp2_with fail
         go_meet
         exact ⟨_, zh (HTS.out.set HLL.out 2 (by omega) _ { l with ins := { l.ins with d := nn.tmod 10 } } (fun tv h => ⟨tv, rfl, h⟩) ⟨HLO.out.label, ⟨HLO.out.ins.op, HT10.out, HLO.out.ins.s, HLO.out.ins.imm, HLO.out.ins.aux, HLO.out.ins.bank, HLO.out.ins.size⟩, HLO.out.dest, HLO.out.fn, HLO.out.obj, HLO.out.tab, HLO.out.tlen⟩ (by show l.tab.length ≤ T + 300; omega))⟩
        ·have e5 : (m == 5) = false := by simp [h5]
         try simp only [e5]
         clear e5
         go_upto_if 78 with fail
         by_cases h6 : m = 6
         ·subst h6
          try simp only [show ((6 : Int) == 6) = true from rfl]
          have hgl : g < w5.heap.size := by obtain ⟨c, hg, -⟩ := HTS.out.lg; exact (Array.getElem?_eq_some_iff.1 hg).1
          have hb1 : Below w5.heap.size w5 (w5.alloc (.cells #[] 3)) := (Below.refl _ _).alloc (zn _) _
          have c9 : (w5.alloc (.cells #[] 3)).cell? ⟨g, ix * 12 + 11, none⟩ = some (.slice ta l.tab.length tcp) := (hb1.cell (by exact hgl)).trans (HCL.out 11 (by omega))
          have HE1 := zh (heap_alloc_new w5 (.cells #[] 3))
          have HS1 := zh ((HIN.out.toV.below hb1).src)
          have HB1 := zh hb1
          have HZ1 := zh (show l.tab.length ≤ maxLen by unfold maxLen; omega)
          have HZ2 := zh (show l.tab.length * 8 ≤ 140737488355328 by omega)
          have hz6 : l.tab.length ≤ 1000000 := by omega
          clear hb1 hgl
          go_upto_region 21 with (first | (at_builtin; refine wpList_append_empty _ rfl _ _ 40 rfl w5.heap.size 3 i3 (.int .i64 0) 1 8 Try.underlying40 HI3.out.1 HI3.out.2.1 HI3.out.2.2.1 HI3.out.2.2.2 rfl (by decide) w5.heap.size rfl HE1.out (zn _) ta l.tab.length tcp (l.tab.map (Value.int .i64)) rfl HS1.out (ints_one _) HZ1.out HZ2.out HB1.out.size ?_; intro v2 W2 ho2 hb2; obtain ⟨a2, cp2, rfl, -⟩ := xV ho2; have HB2 := zh (HB1.out.trans (hb2.mono HB1.out.size)); have hb3 := (Below.refl W2.heap.size W2).alloc (zn _) (.cells #[.int .i64 nn] 3); have HB3 := zh (HB2.out.trans (hb3.mono HB2.out.size)); have HO3 := zh (zZ ho2 (zN.ofBelow (bs := fun _ => False) hb3) fun _ _ h => h); have HG3 := zh (heap_alloc_new W2 (.cells #[.int .i64 nn] 3)); clear ho2 hb2 hb3 c9) | (at_builtin; refine yK rfl _ _ rfl w5.heap.size HB3.out.size _ l.tab rfl HO3.out hz6 W2.heap.size nn rfl HG3.out ?_; intro ga cp6 W4 ho4 hg4 hk4; have HB4 := zh (row_below HB3.out HB3.out.size HO3.out hg4); have HO4 := zh ho4; have HT4 := zh (HTS.out.stay HB4.out); obtain ⟨tx, tcx, -, hcx⟩ := HT4.out.lg.cell HLL.out; have c9 : W4.cell? ⟨g, ix * 12 + 11, none⟩ = some (.slice tx l.tab.length tcx) := hcx 11 (by omega); have f9 : W4.frozen? ⟨g, ix * 12 + 11, none⟩ = false := HT4.out.lg.froz _; clear ho4 hg4 hk4 hcx))
          go_wp2_with fail
          go_meet
          exact ⟨_, zh (HT4.out.set HLL.out 11 (by omega) _ { l with tab := l.tab ++ [nn] } (fun tv h => ⟨_, rfl, by obtain ⟨c, hg, -⟩ := HT4.out.lg; exact IntsN.own HO4.out hg (by decide)⟩) ⟨HLO.out.label, HLO.out.ins, HLO.out.dest, HLO.out.fn, HLO.out.obj, (fun t ht => by rcases List.mem_append.1 ht with ht | ht; exact HLO.out.tab t ht; simp at ht; subst ht; exact HNN6.out), (by show (l.tab ++ [nn]).length ≤ 1000; rw [List.length_append]; simp; omega)⟩ (by show (l.tab ++ [nn]).length ≤ T + 300; rw [List.length_append]; simp; omega))⟩
         ·have e6 : (m == 6) = false := by simp [h6]
          try simp only [e6]
          clear e6
          go_upto_if 92 with fail
          by_cases h7 : m = 7
          ·subst h7
           try simp only [show ((7 : Int) == 7) = true from rfl]
           clear HTS HLL HLO HIN HCL
           go_upto_block 1 with fail
           try simp only [Act.put]
           go_wp2_with fail
           go_loopw [8] (fun i wx => ∃ (k : Nat) (lk : List zu), k ≤ nn.toNat ∧ i = .int .i64 k ∧ Hid (TnS w g g7 b2 n (T + k) nm sc lk wx)) (fun i _ => 300 - (intOf i).toNat)
           case atStart => exact ⟨0, ls, Nat.zero_le _, rfl, HT0⟩
           case round =>
            clear HT0
            obtain ⟨k, lk, hk, rfl, HTK⟩ := hrel
            by_cases hkn : (k : Int) < nn
            ·obtain ⟨l1, hl1⟩ : ∃ l, lk[ix]? = some l := ⟨_, List.getElem?_eq_getElem (by have := HTK.out.len; omega)⟩
             obtain ⟨l0, hl0⟩ : ∃ l, lk[0]? = some l := ⟨_, List.getElem?_eq_getElem (by have := HTK.out.len; omega)⟩
             have hlo1 : l1.Ok := HTK.out.ok.1 l1 (List.mem_of_getElem? hl1)
             have hlo0 : l0.Ok := HTK.out.ok.1 l0 (List.mem_of_getElem? hl0)
             have htl1 : l1.tab.length ≤ T + k := HTK.out.tb l1 (List.mem_of_getElem? hl1)
             obtain ⟨c, hg, hrows⟩ := HTK.out.lg
             obtain ⟨tv1, hr1, hI1⟩ := hrows ix l1 hl1
             obtain ⟨tv0, hr0, -⟩ := hrows 0 l0 hl0
             obtain ⟨ta1, tcp1, rfl, -⟩ := id hI1
             have H11 := zh (show c[ix * 12 + 11]? = some (.slice ta1 l1.tab.length tcp1) by
              have := congrArg (fun z => z[11]?) hr1
              simp only [Array.toList_extract, List.extract_eq_drop_take] at this
              rw [List.getElem?_take, if_pos (by omega), List.getElem?_drop, Array.getElem?_toList] at this
              exact this)
             have H00 := zh (show c[0]? = some (.int .i64 l0.label) by
              have := congrArg (fun z => z[0]?) hr0
              simp only [Array.toList_extract, List.extract_eq_drop_take] at this
              rw [List.getElem?_take, if_pos (by omega), List.getElem?_drop, Array.getElem?_toList] at this
              exact this)
             have HG := zh hg
             have H7 := zh HTK.out.h7
             have HI1 := zh hI1.toV
             have HL1 := zh hl1
             have HO1 := zh hlo1
             have HO0 := zh hlo0
             have HZ1 := zh (show l1.tab.length ≤ maxLen by unfold maxLen; omega)
             have HZ2 := zh (show l1.tab.length * 8 ≤ 140737488355328 by omega)
             have hz6 : l1.tab.length ≤ 1000000 := by omega
             have hn00 : (0 : Int) < (n : Int) := by omega
             have hn0n : 0 < n := by omega
             clear hg hrows hr1 hr0 hI1 hl1 hl0 hlo1 hlo0
             go_upto_region 25 with fail
             refine xK 0 _ (.pointer (some ⟨g, ix * 12, none⟩)) [] 13 (z5 [isV (.pointer (some ⟨g, ix * 12, none⟩)), newS (wr.heap.size) (.cells #[] 3 (0, 0)) 0, isV (.pointer (some ⟨g, ix * 12, none⟩)), isV (.pointer (some ⟨g, ix * 12, none⟩)), isV (.pointer (some ⟨g, ix * 12 + 11, none⟩)), isV (.slice ta1 l1.tab.length tcp1), isVT ((fun _ => False)) (IntQ wr.heap.size l1.tab.length (l1.tab.map (Value.int .i64))), isV (.pointer (some ⟨g7, 1, none⟩)), isV (.slice (some ⟨g, 0, none⟩) n sc), isV (.pointer (some ⟨g, 0, none⟩)), isV (.pointer (some ⟨g, 0, none⟩)), isV (.int .i64 l0.label), newS (wr.heap.size) (.cells #[.int .i64 l0.label] 3 (0, 0)) 1]) (nth [[0], [1], [2], [3], [4], [5], [6], [7], [8], [9], [10], [11], [12]]) (nth [[], [], [], [], [], [], [], [], [], [], [], [], []]) (nth [[], [], [], [2], [3], [4], [1, 5], [], [7], [8], [9], [10], [11]]) [0, 6, 12] (fun w5 => Below wr.heap.size wr w5 ∧ True ∧ wr.heap.size ≤ w5.heap.size ∧ True) (by kernel_rfl) (by kernel_rfl) rfl (by kernel_rfl) (by kernel_rfl) (by kernel_rfl) (fun _ _ _ h => h) ⟨by rfl, fun w => by rfl⟩ (by rfl) (⟨(Below.refl _ _).drew, trivial, zn _, trivial⟩) (fun w w' h hb => ⟨h.1.trans (hb.mono h.1.size), trivial, Nat.le_trans h.2.2.1 hb.size, trivial⟩) (zG ((za (zc _)  (za (yZ _ _ _)  (za (zc _)  (za (zc _)  (za (zc _)  (za (zc _)  (za (yu _ _)  (za (zc _)  (za (zc _)  (za (zc _)  (za (zc _)  (za (zc _)  (za (yZ _ _ _) zy))))))))))))))) (fun f F hF => ?_)
             simp only [List.take_succ_cons, List.take_zero, yb, Act.put, zD, zE, zF, Nat.reduceAdd] at hF
             subst hF
             refine ⟨zj.skip (by rfl) (ze ?_ (ze ?_ (ze ?_ (ze ?_ (ze ?_ (ze ?_ (ze ?_ (ze ?_ (ze ?_ (ze ?_ (ze ?_ (ze ?_ (yf))))))))))))), ?_⟩
             ·intro w5 hS hF hD K hK
              rw [if_pos (by rfl)]
              go_simp
              refine hK.out _ _ rfl (y0 rfl rfl rfl hS.2.2.1 ?_)
              first | rfl | kernel_rfl
             ·intro w5 hS hF hD K hK
              rw [if_pos (by rfl)]
              exact svV hK rfl rfl rfl rfl (by first | rfl | kernel_rfl)  (by show _ = _; kernel_rfl)
             ·intro w5 hS hF hD K hK
              obtain ⟨(e2 : f 2 = _), -⟩ := hF
              try simp only [e2]
              rw [if_pos (by rfl)]
              go_simp
              refine hK.out _ _ rfl (zq rfl rfl rfl ?_)
              first | rfl | kernel_rfl
             ·intro w5 hS hF hD K hK
              obtain ⟨(e3 : f 3 = _), -⟩ := hF
              try simp only [e3]
              rw [if_pos (by rfl)]
              go_simp
              refine hK.out _ _ rfl (zq rfl rfl rfl ?_)
              first | rfl | kernel_rfl
             ·intro w5 hS hF hD K hK
              obtain ⟨(e4 : f 4 = _), -⟩ := hF
              try simp only [e4]
              rw [if_pos (by rfl)]
              exact svC hK rfl rfl rfl rfl (by first | rfl | kernel_rfl)  rfl rfl (zf hS.1 HG.out) (H11.out) (fun _ => by kernel_rfl)
             ·intro w5 hS hF hD K hK
              obtain ⟨e1, (e5 : f 5 = _), -⟩ := hF
              obtain ⟨g1, e1, hB1, hg1⟩ := e1
              replace e1 : f 1 = _ := e1
              try simp only [e1, e5]
              rw [if_pos (by rfl)]
              refine wp_append_empty w5 _ _ 40 rfl wr.heap.size 3 i3 (.int .i64 0) 1 8 Try.underlying40 HI3.out.1 HI3.out.2.1 HI3.out.2.2.1 HI3.out.2.2.2 rfl (by decide) g1 rfl hg1 hB1 ta1 l1.tab.length tcp1 (l1.tab.map (Value.int .i64)) rfl ((HI1.out.below hS.1).src) (ints_one _) HZ1.out HZ2.out hS.2.2.1 ?_; intro v9 w9 ho9 hb9
              exact hK.out _ _ rfl (yv rfl rfl rfl rfl (hb9.size) (⟨hS.1.trans (hb9.mono hS.1.size), trivial, Nat.le_trans hS.2.2.1 hb9.size, trivial⟩) (zk (yq ((fun _ _ h => zf hb9 h)) (zk (zk (zk (zk (yc (by rfl) (zk (zk (zk (zk (zk (yq ((fun _ _ h => zf hb9 h)) ym))))))))))))) (ho9))
             ·intro w5 hS hF hD K hK
              rw [if_pos (by rfl)]
              exact svV hK rfl rfl rfl rfl (by first | rfl | kernel_rfl)  (by show _ = _; kernel_rfl)
             ·intro w5 hS hF hD K hK
              obtain ⟨(e7 : f 7 = _), -⟩ := hF
              try simp only [e7]
              rw [if_pos (by rfl)]
              exact svC hK rfl rfl rfl rfl (by first | rfl | kernel_rfl)  rfl rfl (zf hS.1 H7.out) (by kernel_rfl) (fun _ => by kernel_rfl)
             ·intro w5 hS hF hD K hK
              obtain ⟨(e8 : f 8 = _), -⟩ := hF
              try simp only [e8]
              rw [if_pos (by rfl)]
              go_simp
              refine hK.out _ _ rfl (zq rfl rfl rfl ?_)
              first | rfl | kernel_rfl
             ·intro w5 hS hF hD K hK
              obtain ⟨(e9 : f 9 = _), -⟩ := hF
              try simp only [e9]
              rw [if_pos (by rfl)]
              go_simp
              refine hK.out _ _ rfl (zq rfl rfl rfl ?_)
              first | rfl | kernel_rfl
             ·intro w5 hS hF hD K hK
              obtain ⟨(e10 : f 10 = _), -⟩ := hF
              try simp only [e10]
              rw [if_pos (by rfl)]
              exact svC hK rfl rfl rfl rfl (by first | rfl | kernel_rfl)  rfl rfl (zf hS.1 HG.out) (H00.out) (fun _ => by kernel_rfl)
             ·intro w5 hS hF hD K hK
              obtain ⟨(e11 : f 11 = _), -⟩ := hF
              try simp only [e11]
              rw [if_pos (by rfl)]
              go_simp
              refine hK.out _ _ rfl (y0 rfl rfl rfl hS.2.2.1 ?_)
              first | rfl | kernel_rfl
             intro w5 hS hF
             obtain ⟨(e0 : f 0 = _), e6, e12, -⟩ := hF
             obtain ⟨y6, p6, t6⟩ := e6
             obtain ⟨g12, e12, hB12, hg12⟩ := e12
             replace e12 : f 12 = _ := e12
             try simp only [e0, e12]
             simp only [List.drop_succ_cons, List.drop_zero]
             obtain ⟨a6, cp6, h6, -⟩ := xV p6
             have ho6 := zZ p6 t6 fun _ _ h => h
             have h6' : f 6 = .slice a6 l1.tab.length cp6 := h6
             simp only [h6']
             rw [show f 6 = _ from h6] at ho6
             have HO6 := zh ho6
             have HB6 := zh hS.1
             have HG12 := zh hg12
             clear ho6 hS hg12 t6 p6
             go_upto_region 24 with (at_builtin; refine yK rfl _ _ rfl wr.heap.size HB6.out.size _ l1.tab rfl HO6.out hz6 g12 l0.label rfl HG12.out ?_; intro ga cp7 W4 ho4 hg4 hk4; have HB4 := zh (row_below HB6.out HB6.out.size HO6.out hg4); have HO4 := zh ho4; have HT4 := zh (HTK.out.stay HB4.out); obtain ⟨tx, tcx, -, hcx⟩ := HT4.out.lg.cell HL1.out; have c9 : W4.cell? ⟨g, ix * 12 + 11, none⟩ = some (.slice tx l1.tab.length tcx) := hcx 11 (by omega); have f9 : W4.frozen? ⟨g, ix * 12 + 11, none⟩ = false := HT4.out.lg.froz _; clear ho4 hg4 hk4 hcx)
             go_wp2_with fail
             go_roundw
             case rel => exact ⟨k + 1, _, by omega, by go_num, zh ((HT4.out.more (show T + k ≤ T + (k + 1) by omega)).set HL1.out 11 (by omega) _ { l1 with tab := l1.tab ++ [l0.label] } (fun tv h => ⟨_, rfl, by obtain ⟨c, hg, -⟩ := HT4.out.lg; exact IntsN.own HO4.out hg (by decide)⟩) ⟨HO1.out.label, HO1.out.ins, HO1.out.dest, HO1.out.fn, HO1.out.obj, (fun t ht => by rcases List.mem_append.1 ht with ht | ht; exact HO1.out.tab t ht; simp at ht; subst ht; have := HO0.out.label; exact ⟨by omega, by omega⟩), (by show (l1.tab ++ [l0.label]).length ≤ 1000; rw [List.length_append]; simp; omega)⟩ (by show (l1.tab ++ [l0.label]).length ≤ T + (k + 1); rw [List.length_append]; simp; omega))⟩
             case measure => simp [intOf]; omega
            ·go_wp2_with fail
             go_meet
             exact ⟨lk, zh (HTK.out.more (by omega))⟩
          ·have e7 : (m == 7) = false := by simp [h7]
           try simp only [e7]
           clear e7
           go_upto_if 115 with fail
           obtain rfl : m = 8 := by omega
           have c9 : w5.cell? ⟨g, ix * 12 + 4, none⟩ = some (.int .u16 l.ins.imm) := HCL.out 4 (by omega)
           have f9 : w5.frozen? ⟨g, ix * 12 + 4, none⟩ = false := HTS.out.lg.froz _
           go_wp2_with fail
           go_meet
           exact ⟨_, zh (HTS.out.set HLL.out 4 (by omega) _ { l with ins := { l.ins with imm := IntKind.u16.wrap q2 } } (fun tv h => ⟨tv, rfl, h⟩) ⟨HLO.out.label, ⟨HLO.out.ins.op, HLO.out.ins.d, HLO.out.ins.s, (by unfold IntKind.wrap; simp only [IntKind.bits, IntKind.signed]; simp; omega), HLO.out.ins.aux, HLO.out.ins.bank, HLO.out.ins.size⟩, HLO.out.dest, HLO.out.fn, HLO.out.obj, HLO.out.tab, HLO.out.tlen⟩ (by show l.tab.length ≤ T + 300; omega))⟩
  case rest =>
   obtain ⟨ls', HTX⟩ := hcut
   go_wp2_with (first | (refine zs _ _ rfl _ rfl _ _ _ (HTX.out.h7) ?_ ?_ ?_; kernel_rfl; kernel_rfl) | (refine wpList_store_row rfl _ _ _ rfl _ _ rfl rfl _ _ (HTX.out.h2) ?_ ?_ ?_ ?_; kernel_rfl; rfl; kernel_rfl))
   have hbb := HBB.out
   have hlx := HTX.out.len
   refine bodyPost_ret (results_cell_row (cs := #[.string nm, .slice (some ⟨g, 0, none⟩) n sc]) (fr := (0, 0)) rfl _ _ b2 32 _ rfl (setRow_heap _ _ _ _ _ _ HTX.out.h2) (Try.underlying32) rfl (by kernel_rfl)) rfl ⟨ls', nm, some ⟨g, 0, none⟩, sc, by rw [hlx], hlx, HTX.out.ok, HTX.out.tb, (fun h => by cases h), ?_, below_setRow HTX.out.bb (by omega) _⟩
   exact (HTX.out.lg.toV (by rw [hlx]; exact hnsc)).setRow HTX.out.h2 _
end Go.Proofs.Ythebmoggbgldmaa
