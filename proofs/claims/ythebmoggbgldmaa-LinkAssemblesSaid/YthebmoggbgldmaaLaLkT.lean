/- Package link: what the closures of code read; the closure of a branch. The conditions: the blocks that they read. -/
import Derived.Test.YthebmoggbgldmaaLaLkP
set_option linter.all false
namespace Go.Proofs.Ythebmoggbgldmaa
open Go Go.RowKit Go.Maps
structure CdR (w0 : World) (E : zL) (N b4 b5 b6 b7 b10 b11 m go : Nat) (nm : ByteArray) (lv fv dv : Value) (W : World) : Prop where
 bb : Below w0.heap.size w0 W
 h4 : W.heap[b4]? = some (.cells #[.string nm, lv, .map (some m)] 74 (0, 0))
 h5 : W.heap[b5]? = some (.cells #[.int .i64 E.pl.bank, .int .u16 E.pl.addr] 37 (0, 0))
 h6 : W.heap[b6]? = some (.cells #[fv] 26 (0, 0))
 h7 : W.heap[b7]? = some (.cells #[dv] 28 (0, 0))
 h10 : W.heap[b10]? = some (.cells #[.slice (some ⟨go, 0, none⟩) (E.ls.length + 1) (E.ls.length + 1)] 40 (0, 0))
 h11 : W.heap[b11]? = some (.cells #[.func (.func 52) #[] #[.pointer (some ⟨b5, 0, none⟩), .pointer (some ⟨b10, 0, none⟩), .pointer (some ⟨b4, 0, none⟩)]] 106 (0, 0))
 hgo : W.heap[go]? = some (.cells (viA (xi E.sz)) 3 (0, 0))
 hm : MapT m (xH E.ls) w0
 hf : jj w0 fv E.funcs
 hd : jK w0 dv E.data
 hl : yJ w0 lv E.ls
 lt : b4 < N ∧ b5 < N ∧ b6 < N ∧ b7 < N ∧ b10 < N ∧ b11 < N ∧ go < N ∧ w0.heap.size ≤ N ∧ N ≤ W.heap.size
theorem CdR.stay {w0 E N b4 b5 b6 b7 b10 b11 m go nm lv fv dv W W'} (h : CdR w0 E N b4 b5 b6 b7 b10 b11 m go nm lv fv dv W) (hb : Below N W W') : CdR w0 E N b4 b5 b6 b7 b10 b11 m go nm lv fv dv W' := by
 obtain ⟨l4, l5, l6, l7, l10, l11, lg, l0, lN⟩ := h.lt
 exact ⟨h.bb.trans (hb.mono l0), (hb.block _ l4).trans h.h4, (hb.block _ l5).trans h.h5, (hb.block _ l6).trans h.h6, (hb.block _ l7).trans h.h7, (hb.block _ l10).trans h.h10, (hb.block _ l11).trans h.h11, (hb.block _ lg).trans h.hgo, h.hm, h.hf, h.hd, h.hl, l4, l5, l6, l7, l10, l11, lg, l0, Nat.le_trans lN hb.size⟩
theorem CdR.map {w0 E N b4 b5 b6 b7 b10 b11 m go nm lv fv dv W} (h : CdR w0 E N b4 b5 b6 b7 b10 b11 m go nm lv fv dv W) : MapT m (xH E.ls) W := h.hm.same (h.bb.block _ h.hm.lt)
structure zL.Ok (E : zL) : Prop where
 ls : yV E.ls
 zl : E.sz.length = E.ls.length
 zo : SzOk E.sz
 br : ∀ (k : Nat) (l : zu), E.ls[k]? = some l → zK l.ins.op = 2 → (yI E.ls l.dest).isSome = true ∧ (E.off (k + 1) - E.off k = 2 ∨ E.off (k + 1) - E.off k = 3)
 tb : ∀ l ∈ E.ls, zK l.ins.op = 3 → (yI E.ls l.dest).isSome = true ∧ ∀ t ∈ l.tab, (yI E.ls t).isSome = true
 cl : ∀ l ∈ E.ls, zK l.ins.op = 4 → ∃ k : Nat, l.fn = k ∧ k < E.funcs.length
 ob : ∀ l ∈ E.ls, zK l.ins.op = 1 → l.obj = -1 ∨ ∃ k : Nat, l.obj = k ∧ k < E.data.length
 pl : 0 ≤ E.pl.addr ∧ E.pl.addr < 65536 ∧ zX E.pl.bank
 fs : ∀ p ∈ E.funcs, 0 ≤ p.addr ∧ p.addr < 65536 ∧ zX p.bank
 ds : ∀ p ∈ E.data, 0 ≤ p.addr ∧ p.addr < 65536 ∧ zX p.bank ∧ 0 ≤ p.size ∧ p.size < 65536
 nf : E.funcs.length ≤ 100000
 nd : E.data.length ≤ 100000
theorem zL.Ok.len {E : zL} (h : E.Ok) : E.ls.length ≤ 1000 := h.ls.2
theorem zL.Ok.off {E : zL} (h : E.Ok) {k : Nat} (hk : k ≤ E.ls.length) : 0 ≤ E.off k ∧ E.off k ≤ 8 * k := off_bd h.zo k (by rw [h.zl]; exact hk)
theorem zL.Ok.cellO {E : zL} (h : E.Ok) {k : Nat} (hk : k ≤ E.ls.length) : (viA (xi E.sz))[k]? = some (.int .i64 (E.off k)) := viA_get (jH E.sz (by rw [h.zl]; exact hk))
theorem form2_op {op : Int} (h : zK op = 2) : 0 ≤ op ∧ op < 256 := by
 unfold zK at h
 split at h
 ·rename_i h1
  simp [xN] at h1
  omega
 ·split at h
  ·cases h
  ·split at h
   ·cases h
   ·split at h <;> cases h
theorem br_imm (A L o : Int) : IntKind.u16.wrap (IntKind.u16.wrap ((A + L) % 65536 - A) - IntKind.u16.wrap o) = (L - o) % 65536 := by
 show (((A + L) % 65536 - A) % 65536 - o % 65536) % 65536 = (L - o) % 65536
 omega
set_option maxRecDepth 100000 in
set_option maxHeartbeats 2000000 in
theorem branch_any (w0 : World) (E : zL) (hE : E.Ok) (N b4 b5 b6 b7 b10 b11 m go k : Nat) (nm : ByteArray) (lv fv dv : Value) (l : zu) (ta : Option Addr) (tcp : Nat) (tabs : Int) (hl : E.ls[k]? = some l) (hf : zK l.ins.op = 2) (w : World) (hR : CdR w0 E N b4 b5 b6 b7 b10 b11 m go nm lv fv dv w) :
  Calls Try.prog 55 #[.int .i64 k, .agg #[.int .i64 (l).label, .int .i64 (l).ins.op, .int .i64 (l).ins.d, .int .i64 (l).ins.s, .int .u16 (l).ins.imm, .int .u16 (l).ins.aux, .int .i64 (l).ins.bank, .int .i64 (l).ins.size, .int .i64 (l).dest, .int .i64 (l).fn, .int .i64 (l).obj, .slice ta (l).tab.length tcp], .pointer (some ⟨b10, 0, none⟩), .pointer (some ⟨b11, 0, none⟩), .pointer (some ⟨b5, 0, none⟩)] w fun e w' => e = .returned (.agg (zt (E.insL k tabs l))) ∧ Below w.heap.size w w' := by
 have hkl : k < E.ls.length := (List.getElem?_eq_some_iff.1 hl).1
 obtain ⟨hlab, hsz⟩ := hE.br k l hl hf
 have hop := form2_op hf
 have HE := zh hE
 have hlok := hE.ls.1 l (List.mem_of_getElem? hl)
 have HLB := zh (fun W (hW : CdR w0 E N b4 b5 b6 b7 b10 b11 m go nm lv fv dv W) => lab_any E l.dest hlok.dest hlab b5 b10 b4 m go _ _ _ _ _ _ hE.len hE.zl W hW.h5 hW.h10 hW.hgo hW.h4 hW.map)
 obtain ⟨jo, hjo⟩ : ∃ jo : Int, yW l.ins.op (E.off (k + 1) - E.off k) = jo := ⟨_, rfl⟩
 have HJ := zh (show ∀ W, Calls Try.prog 56 #[.int .i64 l.ins.op, .int .i64 (E.off (k + 1) - E.off k)] W fun e w' => e = .returned (.int .i64 jo) ∧ W = w' by
  intro W
  rcases hsz with h | h
  ·rw [← hjo, h]; exact jump_2 l.ins.op W hop
  ·rw [← hjo, h]; exact jump_3 l.ins.op W hop)
 have o1 := hE.off (k := k) (Nat.le_of_lt hkl)
 have o2 := hE.off (k := k + 1) hkl
 have HO1 := zh (hE.cellO (k := k) (Nat.le_of_lt hkl))
 have HO2 := zh (hE.cellO (k := k + 1) hkl)
 have hlen := hE.len
 have HW1 := zh (show IntKind.i64.wrap ((k : Int) + 1) = (k : Int) + 1 from IntWalk.i64_in _ (by omega))
 have HW2 := zh (show IntKind.i64.wrap (E.off (k + 1) - E.off k) = E.off (k + 1) - E.off k from IntWalk.i64_in _ (by omega))
 have HIM := zh (br_imm E.pl.addr (E.lab l.dest) (E.off (k + 1)))
 have HIN := zh (show zt (E.insL k tabs l) = #[.int .i64 jo, .int .i64 0, .int .i64 0, .int .u16 ((E.lab l.dest - E.off (k + 1)) % 65536), .int .u16 0, .int .i64 0, .int .i64 0] by
  unfold zL.insL zt
  rw [if_neg (by rw [hf]; decide), if_pos hf, hjo]
  rfl)
 have HR := zh hR
 rw [HIN.out]
 clear hl hf hE hlab hsz hop hlok hjo o1 o2 hR
 go_enter Try.func55, Try.ntmps55
 go_upto_region 1 with fail
 obtain ⟨h2, h3⟩ := yy w (.cells #[.int .i64 (l).label, .int .i64 (l).ins.op, .int .i64 (l).ins.d, .int .i64 (l).ins.s, .int .u16 (l).ins.imm, .int .u16 (l).ins.aux, .int .i64 (l).ins.bank, .int .i64 (l).ins.size, .int .i64 (l).dest, .int .i64 (l).fn, .int .i64 (l).obj, .slice ta (l).tab.length tcp] 58) (.cells #[.int .i64 0, .int .i64 0, .int .i64 0, .int .u16 0, .int .u16 0, .int .i64 0, .int .i64 0] 53)
 have hB : Below w.heap.size w ((w.alloc (.cells #[.int .i64 (l).label, .int .i64 (l).ins.op, .int .i64 (l).ins.d, .int .i64 (l).ins.s, .int .u16 (l).ins.imm, .int .u16 (l).ins.aux, .int .i64 (l).ins.bank, .int .i64 (l).ins.size, .int .i64 (l).dest, .int .i64 (l).fn, .int .i64 (l).obj, .slice ta (l).tab.length tcp] 58)).alloc (.cells #[.int .i64 0, .int .i64 0, .int .i64 0, .int .u16 0, .int .u16 0, .int .i64 0, .int .i64 0] 53)) := ((Below.refl _ _).alloc (zn _) _).alloc (by simp) _
 have hR2 := HR.out.stay (hB.mono HR.out.lt.2.2.2.2.2.2.2.2)
 obtain ⟨wr, hwr⟩ : ∃ wr : World, (w.alloc (.cells #[.int .i64 (l).label, .int .i64 (l).ins.op, .int .i64 (l).ins.d, .int .i64 (l).ins.s, .int .u16 (l).ins.imm, .int .u16 (l).ins.aux, .int .i64 (l).ins.bank, .int .i64 (l).ins.size, .int .i64 (l).dest, .int .i64 (l).fn, .int .i64 (l).obj, .slice ta (l).tab.length tcp] 58)).alloc (.cells #[.int .i64 0, .int .i64 0, .int .i64 0, .int .u16 0, .int .u16 0, .int .i64 0, .int .i64 0] 53) = wr := ⟨_, rfl⟩
 have hz : w.heap.size + 2 = wr.heap.size := by rw [← hwr]; simp
 rw [hwr] at h2 h3 hB hR2 ⊢
 clear hwr
 have zz4 : b4 < wr.heap.size := (Array.getElem?_eq_some_iff.1 hR2.h4).1
 have zz5 : b5 < wr.heap.size := (Array.getElem?_eq_some_iff.1 hR2.h5).1
 have zz6 : b6 < wr.heap.size := (Array.getElem?_eq_some_iff.1 hR2.h6).1
 have zz7 : b7 < wr.heap.size := (Array.getElem?_eq_some_iff.1 hR2.h7).1
 have zz10 : b10 < wr.heap.size := (Array.getElem?_eq_some_iff.1 hR2.h10).1
 have zz11 : b11 < wr.heap.size := (Array.getElem?_eq_some_iff.1 hR2.h11).1
 have zzg : go < wr.heap.size := (Array.getElem?_eq_some_iff.1 hR2.hgo).1
 have zz0 : w.heap.size < wr.heap.size := by omega
 have zz1 : w.heap.size + 1 < wr.heap.size := by omega
 have HR2 := zh hR2
 have HNw := zh (show N ≤ w.heap.size from HR.out.lt.2.2.2.2.2.2.2.2)
 have hk1 : (k : Int) < (E.ls.length : Int) + 1 := by omega
 have hk2 : (k : Int) + 1 < (E.ls.length : Int) + 1 := by omega
 clear hR2
 refine zV [] 29 (z5 [isV (.pointer (some ⟨w.heap.size, 1, none⟩)), isV (.pointer (some ⟨w.heap.size, 1, none⟩)), isV (.int .i64 l.ins.op), isV (.slice (some ⟨go, 0, none⟩) (E.ls.length + 1) (E.ls.length + 1)), isV (.int .i64 k), isV (.int .i64 (k + 1)), isV ((.pointer (some ⟨go, k + 1, none⟩))), isV ((.int .i64 (E.off (k + 1)))), isV (.slice (some ⟨go, 0, none⟩) (E.ls.length + 1) (E.ls.length + 1)), isV (.int .i64 k), isV ((.pointer (some ⟨go, k, none⟩))), isV ((.int .i64 (E.off k))), isV (.int .i64 (E.off (k + 1) - E.off k)), isV (.int .i64 jo), isV (.func (.func 52) #[] #[.pointer (some ⟨b5, 0, none⟩), .pointer (some ⟨b10, 0, none⟩), .pointer (some ⟨b4, 0, none⟩)]), isV (.pointer (some ⟨w.heap.size, 8, none⟩)), isV (.int .i64 l.dest), isV (.int .u16 ((E.pl.addr + E.lab l.dest) % 65536)), isV (.pointer (some ⟨b5, 1, none⟩)), isV (.int .u16 E.pl.addr), isV (.int .u16 (IntKind.u16.wrap ((E.pl.addr + E.lab l.dest) % 65536 - E.pl.addr))), isV (.slice (some ⟨go, 0, none⟩) (E.ls.length + 1) (E.ls.length + 1)), isV (.int .i64 k), isV (.int .i64 (k + 1)), isV ((.pointer (some ⟨go, k + 1, none⟩))), isV ((.int .i64 (E.off (k + 1)))), isV (.int .u16 (IntKind.u16.wrap (E.off (k + 1)))), isV (.int .u16 ((E.lab l.dest - E.off (k + 1)) % 65536)), isV (.agg #[.int .i64 jo, .int .i64 0, .int .i64 0, .int .u16 ((E.lab l.dest - E.off (k + 1)) % 65536), .int .u16 0, .int .i64 0, .int .i64 0])]) (nth [[0], [1], [2], [3], [4], [5], [6], [7], [8], [9], [10], [11], [12], [13], [14], [15], [16], [17], [18], [19], [20], [21], [22], [23], [24], [25], [26], [27], [28]]) (nth [[], [], [], [], [], [], [], [], [], [], [], [], [], [], [], [], [], [], [], [], [], [], [], [], [], [], [], [], []]) (nth [[], [0], [1], [], [], [4], [3, 5], [6], [], [], [8, 9], [10], [7, 11], [2, 12], [], [], [15], [14, 16, 13], [], [18], [17, 19], [], [], [22], [21, 23], [24], [25], [20, 26], [13, 27]]) [28] (yU w.heap.size w wr.heap.size [(w.heap.size, .cells #[.int .i64 (l).label, .int .i64 (l).ins.op, .int .i64 (l).ins.d, .int .i64 (l).ins.s, .int .u16 (l).ins.imm, .int .u16 (l).ins.aux, .int .i64 (l).ins.bank, .int .i64 (l).ins.size, .int .i64 (l).dest, .int .i64 (l).fn, .int .i64 (l).obj, .slice ta (l).tab.length tcp] 58 (0, 0)), (w.heap.size + 1, .cells #[.int .i64 0, .int .i64 0, .int .i64 0, .int .u16 0, .int .u16 0, .int .i64 0, .int .i64 0] 53 (0, 0)), (b10, .cells #[.slice (some ⟨go, 0, none⟩) (E.ls.length + 1) (E.ls.length + 1)] 40 (0, 0)), (go, .cells (viA (xi E.sz)) 3 (0, 0)), (b11, .cells #[.func (.func 52) #[] #[.pointer (some ⟨b5, 0, none⟩), .pointer (some ⟨b10, 0, none⟩), .pointer (some ⟨b4, 0, none⟩)]] 106 (0, 0)), (b5, .cells #[.int .i64 E.pl.bank, .int .u16 E.pl.addr] 37 (0, 0))]) (by kernel_rfl) (by kernel_rfl) (⟨hB.drew, hB.size, zn _, by intro x hx; simp at hx; rcases hx with rfl | rfl | rfl | rfl | rfl | rfl <;> assumption, h2, h3, HR2.out.h10, HR2.out.hgo, HR2.out.h11, HR2.out.h5, trivial⟩) (yU.grow) (zG ((za (zc _)  (za (zc _)  (za (zc _)  (za (zc _)  (za (zc _)  (za (zc _)  (za (zc _)  (za (zc _)  (za (zc _)  (za (zc _)  (za (zc _)  (za (zc _)  (za (zc _)  (za (zc _)  (za (zc _)  (za (zc _)  (za (zc _)  (za (zc _)  (za (zc _)  (za (zc _)  (za (zc _)  (za (zc _)  (za (zc _)  (za (zc _)  (za (zc _)  (za (zc _)  (za (zc _)  (za (zc _)  (za (zc _) zy))))))))))))))))))))))))))))))) (fun f F hF => ?_)
 simp only [List.take_succ_cons, List.take_zero, yb, Act.put, zD, zE, zF, Nat.reduceAdd] at hF
 subst hF
 refine ⟨zd ?_ (zd ?_ (zd ?_ (zd ?_ (zd ?_ (zd ?_ (zd ?_ (zd ?_ (zd ?_ (zd ?_ (zd ?_ (zd ?_ (zd ?_ (zd ?_ (zd ?_ (zd ?_ (zd ?_ (zd ?_ (zd ?_ (zd ?_ (zd ?_ (zd ?_ (zd ?_ (zd ?_ (zd ?_ (zd ?_ (zd ?_ (zd ?_ (zd ?_ (yd))))))))))))))))))))))))))))), ?_⟩
 ·intro w5 hS hF hD K hK
  exact stV hK rfl rfl rfl rfl (by first | rfl | kernel_rfl) rfl (by show _ = _; kernel_rfl)
 ·intro w5 hS hF hD K hK
  obtain ⟨(e0 : f 0 = _), -⟩ := hF
  try simp only [e0]
  exact stV hK rfl rfl rfl rfl (by first | rfl | kernel_rfl) rfl (by show _ = _; kernel_rfl)
 ·intro w5 hS hF hD K hK
  obtain ⟨(e1 : f 1 = _), -⟩ := hF
  try simp only [e1]
  exact stC hK rfl rfl rfl rfl (by first | rfl | kernel_rfl) rfl rfl rfl (hS.2.2.2.2.1) (by kernel_rfl) (fun _ => by kernel_rfl)
 ·intro w5 hS hF hD K hK
  exact stC hK rfl rfl rfl rfl (by first | rfl | kernel_rfl) rfl rfl rfl (hS.2.2.2.2.2.2.1) (by kernel_rfl) (fun _ => by kernel_rfl)
 ·intro w5 hS hF hD K hK
  exact stV hK rfl rfl rfl rfl (by first | rfl | kernel_rfl) rfl (by show _ = _; kernel_rfl)
 ·intro w5 hS hF hD K hK
  obtain ⟨(e4 : f 4 = _), -⟩ := hF
  try simp only [e4]
  rw [if_pos (by rfl)]
  exact zx (v := .int .i64 (IntKind.i64.wrap ((k : Int) + 1))) (by (show _ = _); kernel_rfl) (hK.out _ _ rfl (zq rfl rfl rfl (congrArg (Value.int .i64) HW1.out)))
 ·intro w5 hS hF hD K hK
  obtain ⟨(e3 : f 3 = _), (e5 : f 5 = _), -⟩ := hF
  try simp only [e3, e5]
  rw [if_pos (by rfl)]
  go_simp
  refine hK.out _ _ rfl (zq rfl rfl rfl ?_)
  first | rfl | kernel_rfl
 ·intro w5 hS hF hD K hK
  obtain ⟨(e6 : f 6 = _), -⟩ := hF
  try simp only [e6]
  exact stC hK rfl rfl rfl rfl (by first | rfl | kernel_rfl) rfl rfl rfl (hS.2.2.2.2.2.2.2.1) (HO2.out) (fun _ => by kernel_rfl)
 ·intro w5 hS hF hD K hK
  exact stC hK rfl rfl rfl rfl (by first | rfl | kernel_rfl) rfl rfl rfl (hS.2.2.2.2.2.2.1) (by kernel_rfl) (fun _ => by kernel_rfl)
 ·intro w5 hS hF hD K hK
  exact stV hK rfl rfl rfl rfl (by first | rfl | kernel_rfl) rfl (by show _ = _; kernel_rfl)
 ·intro w5 hS hF hD K hK
  obtain ⟨(e8 : f 8 = _), (e9 : f 9 = _), -⟩ := hF
  try simp only [e8, e9]
  rw [if_pos (by rfl)]
  go_simp
  refine hK.out _ _ rfl (zq rfl rfl rfl ?_)
  first | rfl | kernel_rfl
 ·intro w5 hS hF hD K hK
  obtain ⟨(e10 : f 10 = _), -⟩ := hF
  try simp only [e10]
  exact stC hK rfl rfl rfl rfl (by first | rfl | kernel_rfl) rfl rfl rfl (hS.2.2.2.2.2.2.2.1) (HO1.out) (fun _ => by kernel_rfl)
 ·intro w5 hS hF hD K hK
  obtain ⟨(e7 : f 7 = _), (e11 : f 11 = _), -⟩ := hF
  try simp only [e7, e11]
  rw [if_pos (by rfl)]
  exact zx (v := .int .i64 (IntKind.i64.wrap (E.off (k + 1) - E.off k))) (by (show _ = _); kernel_rfl) (hK.out _ _ rfl (zq rfl rfl rfl (congrArg (Value.int .i64) HW2.out)))
 ·intro w5 hS hF hD K hK
  obtain ⟨(e2 : f 2 = _), (e12 : f 12 = _), -⟩ := hF
  try simp only [e2, e12]
  rw [if_pos (by rfl)]
  go_simp
  go_at_call 56; refine (HJ.out _).mono ?_; rintro e w3 ⟨rfl, rfl⟩; have hbelow := Below.refl w5.heap.size w5; go_simp
  refine hK.out _ _ rfl (zP rfl rfl rfl hbelow ?_)
  first | rfl | kernel_rfl
 ·intro w5 hS hF hD K hK
  exact stC hK rfl rfl rfl rfl (by first | rfl | kernel_rfl) rfl rfl rfl (hS.2.2.2.2.2.2.2.2.1) (by kernel_rfl) (fun _ => by kernel_rfl)
 ·intro w5 hS hF hD K hK
  exact stV hK rfl rfl rfl rfl (by first | rfl | kernel_rfl) rfl (by show _ = _; kernel_rfl)
 ·intro w5 hS hF hD K hK
  obtain ⟨(e15 : f 15 = _), -⟩ := hF
  try simp only [e15]
  exact stC hK rfl rfl rfl rfl (by first | rfl | kernel_rfl) rfl rfl rfl (hS.2.2.2.2.1) (by kernel_rfl) (fun _ => by kernel_rfl)
 ·intro w5 hS hF hD K hK
  obtain ⟨(e14 : f 14 = _), (e16 : f 16 = _), (e13 : f 13 = _), -⟩ := hF
  try simp only [e14, e16, e13]
  rw [if_pos (by rfl)]
  go_simp
  go_at_call 52; refine (HLB.out _ (HR.out.stay (hS.1.mono HNw.out))).mono ?_; rintro e w3 ⟨rfl, hbelow⟩; go_simp
  refine hK.out _ _ rfl (zP rfl rfl rfl hbelow ?_)
  first | rfl | kernel_rfl
 ·intro w5 hS hF hD K hK
  exact stV hK rfl rfl rfl rfl (by first | rfl | kernel_rfl) rfl (by show _ = _; kernel_rfl)
 ·intro w5 hS hF hD K hK
  obtain ⟨(e18 : f 18 = _), -⟩ := hF
  try simp only [e18]
  exact stC hK rfl rfl rfl rfl (by first | rfl | kernel_rfl) rfl rfl rfl (hS.2.2.2.2.2.2.2.2.2.1) (by kernel_rfl) (fun _ => by kernel_rfl)
 ·intro w5 hS hF hD K hK
  obtain ⟨(e17 : f 17 = _), (e19 : f 19 = _), -⟩ := hF
  try simp only [e17, e19]
  exact stV hK rfl rfl rfl rfl (by first | rfl | kernel_rfl) rfl (by show _ = _; kernel_rfl)
 ·intro w5 hS hF hD K hK
  exact stC hK rfl rfl rfl rfl (by first | rfl | kernel_rfl) rfl rfl rfl (hS.2.2.2.2.2.2.1) (by kernel_rfl) (fun _ => by kernel_rfl)
 ·intro w5 hS hF hD K hK
  exact stV hK rfl rfl rfl rfl (by first | rfl | kernel_rfl) rfl (by show _ = _; kernel_rfl)
 ·intro w5 hS hF hD K hK
  obtain ⟨(e22 : f 22 = _), -⟩ := hF
  try simp only [e22]
  rw [if_pos (by rfl)]
  exact zx (v := .int .i64 (IntKind.i64.wrap ((k : Int) + 1))) (by (show _ = _); kernel_rfl) (hK.out _ _ rfl (zq rfl rfl rfl (congrArg (Value.int .i64) HW1.out)))
 ·intro w5 hS hF hD K hK
  obtain ⟨(e21 : f 21 = _), (e23 : f 23 = _), -⟩ := hF
  try simp only [e21, e23]
  rw [if_pos (by rfl)]
  go_simp
  refine hK.out _ _ rfl (zq rfl rfl rfl ?_)
  first | rfl | kernel_rfl
 ·intro w5 hS hF hD K hK
  obtain ⟨(e24 : f 24 = _), -⟩ := hF
  try simp only [e24]
  exact stC hK rfl rfl rfl rfl (by first | rfl | kernel_rfl) rfl rfl rfl (hS.2.2.2.2.2.2.2.1) (HO2.out) (fun _ => by kernel_rfl)
 ·intro w5 hS hF hD K hK
  obtain ⟨(e25 : f 25 = _), -⟩ := hF
  try simp only [e25]
  exact stV hK rfl rfl rfl rfl (by first | rfl | kernel_rfl) rfl (by show _ = _; kernel_rfl)
 ·intro w5 hS hF hD K hK
  obtain ⟨(e20 : f 20 = _), (e26 : f 26 = _), -⟩ := hF
  try simp only [e20, e26]
  rw [if_pos (by rfl)]
  exact zx (v := .int .u16 (IntKind.u16.wrap (IntKind.u16.wrap ((E.pl.addr + E.lab l.dest) % 65536 - E.pl.addr) - IntKind.u16.wrap (E.off (k + 1))))) (by (show _ = _); kernel_rfl) (hK.out _ _ rfl (zq rfl rfl rfl (congrArg (Value.int .u16) HIM.out)))
 ·intro w5 hS hF hD K hK
  obtain ⟨(e13 : f 13 = _), (e27 : f 27 = _), -⟩ := hF
  try simp only [e13, e27]
  exact stV hK rfl rfl rfl rfl (by first | rfl | kernel_rfl) rfl (by show _ = _; kernel_rfl)
 intro w5 hS hF
 obtain ⟨(e28 : f 28 = _), -⟩ := hF
 try simp only [e28]
 refine Fin.last rfl (fun K hK => ?_)
 rw [if_pos (by rfl)]
 refine wp_store_at _ _ _ rfl (w.heap.size + 1) 0 (by rfl) _ (by rfl) _ _ hS.2.2.2.2.2.1 _ (by rfl) (Nat.le_of_ble_eq_true rfl) (by kernel_rfl) (by rfl) #[.int .i64 jo, .int .i64 0, .int .i64 0, .int .u16 ((E.lab l.dest - E.off (k + 1)) % 65536), .int .u16 0, .int .i64 0, .int .i64 0] (by rfl) (hK.out _ _ ?_)
 try simp only [Act.put, zD, zE, zF]
 go_wp2_with fail
 exact bodyPost_ret (results_cell_row (cs := #[.int .i64 jo, .int .i64 0, .int .i64 0, .int .u16 ((E.lab l.dest - E.off (k + 1)) % 65536), .int .u16 0, .int .i64 0, .int .i64 0]) (fr := (0, 0)) rfl _ _ (w.heap.size + 1) 53 _ rfl (setRow_heap _ _ _ _ _ _ hS.2.2.2.2.2.1) (Try.underlying53) rfl (by kernel_rfl)) rfl ⟨rfl, below_setRow hS.1 (by omega) _⟩
end Go.Proofs.Ythebmoggbgldmaa
