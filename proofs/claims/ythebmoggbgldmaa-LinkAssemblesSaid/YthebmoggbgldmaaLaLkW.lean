/- Package link: the closure of a jump table. The conditions: the blocks that it reads. -/
import Derived.Test.YthebmoggbgldmaaLaRelyT
import Derived.Test.YthebmoggbgldmaaLaLkU
set_option linter.all false
namespace Go.Proofs.Ythebmoggbgldmaa
open Go Go.RowKit Go.Maps
set_option maxRecDepth 100000 in
theorem blen_any (b : Nat) (bs : List Value) (v : Value) (w : World) (h : jL b bs v w) :
  Calls Try.prog 60 #[.pointer (some ⟨b, 0, none⟩)] w fun e w' => e = .returned (.int .i64 bs.length) ∧ w = w' := by
 obtain ⟨p, -, hb⟩ := h.blk
 have c1 : w.cell? ⟨b, 1, none⟩ = some v := by rw [Lib.cell_of_heap hb]; rfl
 obtain ⟨ao, cap, rfl⟩ : ∃ ao cap, v = .slice ao bs.length cap := by
  rcases h.own.2 with ⟨hv, hn⟩ | ⟨g, cap, cur, hv, -⟩
  ·exact ⟨none, 0, by rw [hv, hn]⟩
  ·exact ⟨_, cap, hv⟩
 clear h hb
 go_enter Try.func60, Try.ntmps60
 go_wp2
 go_ret
 exact ⟨rfl, rfl⟩
theorem conv2 (W : World) (a b : Int) : (convert 99 9 (.slice (some ⟨W.heap.size, 0, none⟩) 2 2)).run Try.prog (W.alloc (.cells #[.int .u8 a, .int .u8 b] 5)) = .ok (.string (zO [a, b])) (W.alloc (.cells #[.int .u8 a, .int .u8 b] 5)) :=
 yk (P := Try.prog) (W.alloc (.cells #[.int .u8 a, .int .u8 b] 5)) 99 9 5 Try.underlying99 Try.underlying5 Try.underlying9 _ 2 W.heap.size [a, b] (World.ownsRow_lit (base := W.heap.size) (size := 1) (e := 5) W #[.int .u8 a, .int .u8 b] 2 (zn _) (by decide) (by simp))
theorem strC2 {a b : Int} (ha : 0 ≤ a ∧ a < 256) (hb : 0 ≤ b ∧ b < 256) : Lib.strCells (zO [a, b]) = bv [a, b] := by
 have e : ∀ n : Int, 0 ≤ n ∧ n < 256 → ((UInt8.ofNat n.toNat).toNat : Int) = n := fun n hn => by rw [UInt8.toNat_ofNat', Nat.mod_eq_of_lt (by omega)]; omega
 show [Value.int .u8 ((UInt8.ofNat a.toNat).toNat : Int), Value.int .u8 ((UInt8.ofNat b.toNat).toNat : Int)] = _
 rw [e a ha, e b hb]; rfl
theorem tb_aux (A o n : Int) : IntKind.u16.wrap (A + IntKind.u16.wrap (o + n)) = (A + o + n) % 65536 := by
 show (A + (o + n) % 65536) % 65536 = (A + o + n) % 65536
 omega
def TbPost (E : zL) (k : Nat) (l : zu) (b13 : Nat) (tabs : List Int) (tv : Value) (w : World) (e : Ending) (w' : World) : Prop :=
 e = .returned (.agg (zt (E.insL k tabs.length l))) ∧ ∃ tv', jL b13 (bv (tabs ++ E.tabB l)) tv' w' ∧ zN (fun x => x = b13 ∨ tv.ownBlock = some x) w w' ∧ ∀ q, tv'.ownBlock = some q → tv.ownBlock = some q ∨ w.heap.size ≤ q
set_option maxRecDepth 100000 in
set_option maxHeartbeats 4000000 in
theorem table_any (w0 : World) (E : zL) (hE : E.Ok) (N b4 b5 b6 b7 b10 b11 m go k b13 : Nat) (nm : ByteArray) (lv fv dv tv : Value) (l : zu) (ta : Option Addr) (tcp : Nat) (tabs : List Int) (htl : tabs.length ≤ 10000000) (hl : E.ls[k]? = some l) (hf : zK l.ins.op = 3) (w : World) (hR : CdR w0 E N b4 b5 b6 b7 b10 b11 m go nm lv fv dv w) (hT : jL b13 (bv tabs) tv w) (hI : xO w0 (.slice ta l.tab.length tcp) l.tab) (hb13 : N ≤ b13) (hbr : ∀ q, tv.ownBlock = some q → N ≤ q) :
  Calls Try.prog 59 #[.int .i64 k, .agg #[.int .i64 (l).label, .int .i64 (l).ins.op, .int .i64 (l).ins.d, .int .i64 (l).ins.s, .int .u16 (l).ins.imm, .int .u16 (l).ins.aux, .int .i64 (l).ins.bank, .int .i64 (l).ins.size, .int .i64 (l).dest, .int .i64 (l).fn, .int .i64 (l).obj, .slice ta (l).tab.length tcp], .pointer (some ⟨b11, 0, none⟩), .pointer (some ⟨b5, 0, none⟩), .pointer (some ⟨b10, 0, none⟩), .pointer (some ⟨b13, 0, none⟩)] w (TbPost E k l b13 tabs tv w) := by
 have hkl : k < E.ls.length := (List.getElem?_eq_some_iff.1 hl).1
 obtain ⟨hlab, htab⟩ := hE.tb l (List.mem_of_getElem? hl) hf
 have HE := zh hE
 have hlok := hE.ls.1 l (List.mem_of_getElem? hl)
 have HLB := zh (fun W (hW : CdR w0 E N b4 b5 b6 b7 b10 b11 m go nm lv fv dv W) => lab_any E l.dest hlok.dest hlab b5 b10 b4 m go _ _ _ _ _ _ hE.len hE.zl W hW.h5 hW.h10 hW.hgo hW.h4 hW.map)
 have HLT := zh (fun t (ht : t ∈ l.tab) W (hW : CdR w0 E N b4 b5 b6 b7 b10 b11 m go nm lv fv dv W) => lab_any E t (hlok.tab t ht) (htab t ht) b5 b10 b4 m go _ _ _ _ _ _ hE.len hE.zl W hW.h5 hW.h10 hW.hgo hW.h4 hW.map)
 have o2 := hE.off (k := k + 1) hkl
 have o3 := hE.off (k := E.ls.length) (zn _)
 have HO2 := zh (hE.cellO (k := k + 1) hkl)
 have HO3 := zh (hE.cellO (k := E.ls.length) (zn _))
 have hlen := hE.len
 have hln := hlok.tlen
 have HW1 := zh (show IntKind.i64.wrap ((k : Int) + 1) = (k : Int) + 1 from IntWalk.i64_in _ (by omega))
 have HW3 := zh (show IntKind.i64.wrap ((E.ls.length : Int) + 1 - 1) = (E.ls.length : Int) by rw [show (E.ls.length : Int) + 1 - 1 = E.ls.length by omega]; exact IntWalk.i64_in _ (by omega))
 have HW4 := zh (show IntKind.i64.wrap (E.off E.ls.length + (tabs.length : Int)) = E.off E.ls.length + (tabs.length : Int) from IntWalk.i64_in _ (by omega))
 have HIM := zh (br_imm E.pl.addr (E.lab l.dest) (E.off (k + 1)))
 have HAX := zh (tb_aux E.pl.addr (E.off E.ls.length) (tabs.length : Int))
 have HIN := zh (show zt (E.insL k tabs.length l) = #[.int .i64 133, .int .i64 l.ins.d, .int .i64 0, .int .u16 ((E.lab l.dest - E.off (k + 1)) % 65536), .int .u16 ((E.pl.addr + E.off E.ls.length + (tabs.length : Int)) % 65536), .int .i64 l.tab.length, .int .i64 0] by
  unfold zL.insL zt
  rw [if_neg (by rw [hf]; decide), if_neg (by rw [hf]; decide), if_neg (by rw [hf]; decide)]
  rfl)
 have HR := zh hR
 have HT := zh hT
 have HI := zh hI
 have HBR := zh hbr
 have HF := zh hf
 clear hl hf hE hlab htab hlok o2 o3 hR hT hI hbr
 go_enter Try.func59, Try.ntmps59
 go_upto_region 1 with fail
 obtain ⟨h2, h3⟩ := yy w (.cells #[.int .i64 (l).label, .int .i64 (l).ins.op, .int .i64 (l).ins.d, .int .i64 (l).ins.s, .int .u16 (l).ins.imm, .int .u16 (l).ins.aux, .int .i64 (l).ins.bank, .int .i64 (l).ins.size, .int .i64 (l).dest, .int .i64 (l).fn, .int .i64 (l).obj, .slice ta (l).tab.length tcp] 58) (.cells #[.int .i64 0, .int .i64 0, .int .i64 0, .int .u16 0, .int .u16 0, .int .i64 0, .int .i64 0] 53)
 have hB : Below w.heap.size w ((w.alloc (.cells #[.int .i64 (l).label, .int .i64 (l).ins.op, .int .i64 (l).ins.d, .int .i64 (l).ins.s, .int .u16 (l).ins.imm, .int .u16 (l).ins.aux, .int .i64 (l).ins.bank, .int .i64 (l).ins.size, .int .i64 (l).dest, .int .i64 (l).fn, .int .i64 (l).obj, .slice ta (l).tab.length tcp] 58)).alloc (.cells #[.int .i64 0, .int .i64 0, .int .i64 0, .int .u16 0, .int .u16 0, .int .i64 0, .int .i64 0] 53)) := ((Below.refl _ _).alloc (zn _) _).alloc (by simp) _
 have hR2 := HR.out.stay (hB.mono HR.out.lt.2.2.2.2.2.2.2.2)
 obtain ⟨wr, hwr⟩ : ∃ wr : World, (w.alloc (.cells #[.int .i64 (l).label, .int .i64 (l).ins.op, .int .i64 (l).ins.d, .int .i64 (l).ins.s, .int .u16 (l).ins.imm, .int .u16 (l).ins.aux, .int .i64 (l).ins.bank, .int .i64 (l).ins.size, .int .i64 (l).dest, .int .i64 (l).fn, .int .i64 (l).obj, .slice ta (l).tab.length tcp] 58)).alloc (.cells #[.int .i64 0, .int .i64 0, .int .i64 0, .int .u16 0, .int .u16 0, .int .i64 0, .int .i64 0] 53) = wr := ⟨_, rfl⟩
 have hz : w.heap.size + 2 = wr.heap.size := by rw [← hwr]; simp
 rw [hwr] at h2 h3 hB hR2 ⊢
 clear hwr
 have zz5 : b5 < wr.heap.size := (Array.getElem?_eq_some_iff.1 hR2.h5).1
 have zz10 : b10 < wr.heap.size := (Array.getElem?_eq_some_iff.1 hR2.h10).1
 have zz11 : b11 < wr.heap.size := (Array.getElem?_eq_some_iff.1 hR2.h11).1
 have zzg : go < wr.heap.size := (Array.getElem?_eq_some_iff.1 hR2.hgo).1
 have zz0 : w.heap.size < wr.heap.size := by omega
 have HR2 := zh hR2
 have HNw := zh (show N ≤ w.heap.size from HR.out.lt.2.2.2.2.2.2.2.2)
 have hk2 : (k : Int) + 1 < (E.ls.length : Int) + 1 := by omega
 have H3 := zh h3
 clear hR2 h3
 refine zV [21] 23 (z5 [isV (.pointer (some ⟨w.heap.size, 1, none⟩)), isV (.pointer (some ⟨w.heap.size, 2, none⟩)), isV (.int .i64 l.ins.d), isV (.pointer (some ⟨w.heap.size, 11, none⟩)), isV (.slice ta l.tab.length tcp), isV (.int .i64 l.tab.length), isV (.func (.func 52) #[] #[.pointer (some ⟨b5, 0, none⟩), .pointer (some ⟨b10, 0, none⟩), .pointer (some ⟨b4, 0, none⟩)]), isV (.pointer (some ⟨w.heap.size, 8, none⟩)), isV (.int .i64 l.dest), isV (.int .u16 ((E.pl.addr + E.lab l.dest) % 65536)), isV (.pointer (some ⟨b5, 1, none⟩)), isV (.int .u16 E.pl.addr), isV (.int .u16 (IntKind.u16.wrap ((E.pl.addr + E.lab l.dest) % 65536 - E.pl.addr))), isV (.slice (some ⟨go, 0, none⟩) (E.ls.length + 1) (E.ls.length + 1)), isV (.int .i64 k), isV (.int .i64 (k + 1)), isV ((.pointer (some ⟨go, k + 1, none⟩))), isV ((.int .i64 (E.off (k + 1)))), isV (.int .u16 (IntKind.u16.wrap (E.off (k + 1)))), isV (.int .u16 ((E.lab l.dest - E.off (k + 1)) % 65536)), isV (.agg #[.int .i64 133, .int .i64 l.ins.d, .int .i64 0, .int .u16 ((E.lab l.dest - E.off (k + 1)) % 65536), .int .u16 0, .int .i64 l.tab.length, .int .i64 0]), newR wr.heap.size 53 7, newV wr.heap.size (.cells #[.int .i64 133, .int .i64 l.ins.d, .int .i64 0, .int .u16 ((E.lab l.dest - E.off (k + 1)) % 65536), .int .u16 0, .int .i64 l.tab.length, .int .i64 0] 53 (0, 0))]) (nth [[0], [1], [2], [3], [4], [5], [6], [7], [8], [9], [10], [11], [12], [13], [14], [15], [16], [17], [18], [19], [20], [21], [21]]) (nth [[], [], [], [], [], [], [], [], [], [], [], [], [], [], [], [], [], [], [], [], [], [], [21]]) (nth [[], [0], [1], [], [3], [4], [], [], [7], [6, 8], [], [10], [9, 11], [], [], [14], [13, 15], [16], [17], [12, 18], [2, 5, 19], [], [21, 20, 9, 0, 1, 2, 3, 4, 5, 6, 7, 8, 10, 11, 12, 13, 14, 15, 16, 17, 18, 19]]) [22] (yU w.heap.size w wr.heap.size [(w.heap.size, .cells #[.int .i64 (l).label, .int .i64 (l).ins.op, .int .i64 (l).ins.d, .int .i64 (l).ins.s, .int .u16 (l).ins.imm, .int .u16 (l).ins.aux, .int .i64 (l).ins.bank, .int .i64 (l).ins.size, .int .i64 (l).dest, .int .i64 (l).fn, .int .i64 (l).obj, .slice ta (l).tab.length tcp] 58 (0, 0)), (b10, .cells #[.slice (some ⟨go, 0, none⟩) (E.ls.length + 1) (E.ls.length + 1)] 40 (0, 0)), (go, .cells (viA (xi E.sz)) 3 (0, 0)), (b11, .cells #[.func (.func 52) #[] #[.pointer (some ⟨b5, 0, none⟩), .pointer (some ⟨b10, 0, none⟩), .pointer (some ⟨b4, 0, none⟩)]] 106 (0, 0)), (b5, .cells #[.int .i64 E.pl.bank, .int .u16 E.pl.addr] 37 (0, 0)), (w.heap.size + 1, .cells #[.int .i64 0, .int .i64 0, .int .i64 0, .int .u16 0, .int .u16 0, .int .i64 0, .int .i64 0] 53 (0, 0))]) (by kernel_rfl) (by kernel_rfl) (⟨hB.drew, hB.size, zn _, by intro x hx; simp at hx; rcases hx with rfl | rfl | rfl | rfl | rfl | rfl <;> first | assumption | omega, h2, HR2.out.h10, HR2.out.hgo, HR2.out.h11, HR2.out.h5, H3.out, trivial⟩) (yU.grow) (zG ((za (zc _)  (za (zc _)  (za (zc _)  (za (zc _)  (za (zc _)  (za (zc _)  (za (zc _)  (za (zc _)  (za (zc _)  (za (zc _)  (za (zc _)  (za (zc _)  (za (zc _)  (za (zc _)  (za (zc _)  (za (zc _)  (za (zc _)  (za (zc _)  (za (zc _)  (za (zc _)  (za (zc _)  (za (zi.newR _ _ _)  (za (zi.newV _ _) zy))))))))))))))))))))))))) (fun f F hF => ?_)
 simp only [List.take_succ_cons, List.take_zero, yb, Act.put, zD, zE, zF, Nat.reduceAdd] at hF
 subst hF
 refine ⟨zd ?_ (zd ?_ (zd ?_ (zd ?_ (zd ?_ (zd ?_ (zd ?_ (zd ?_ (zd ?_ (zd ?_ (zd ?_ (zd ?_ (zd ?_ (zd ?_ (zd ?_ (zd ?_ (zd ?_ (zd ?_ (zd ?_ (zd ?_ (zd ?_ (zd ?_ (zd ?_ (yd))))))))))))))))))))))), ?_⟩
 ·intro w5 hS hF hD K hK
  exact stV hK rfl rfl rfl rfl (by first | rfl | kernel_rfl) rfl (by show _ = _; kernel_rfl)
 ·intro w5 hS hF hD K hK
  obtain ⟨(e0 : f 0 = _), -⟩ := hF
  try simp only [e0]
  exact stV hK rfl rfl rfl rfl (by first | rfl | kernel_rfl) rfl (by show _ = _; kernel_rfl)
 ·intro w5 hS hF hD K hK
  obtain ⟨(e1 : f 1 = _), -⟩ := hF
  try simp only [e1]
  exact stC hK rfl rfl rfl rfl (by first | rfl | kernel_rfl) rfl rfl rfl (hS.2.2.2.2.1) (by kernel_rfl) (fun _ => by kernel_rfl)
 ·intro w5 hS hF hD K hK
  exact stV hK rfl rfl rfl rfl (by first | rfl | kernel_rfl) rfl (by show _ = _; kernel_rfl)
 ·intro w5 hS hF hD K hK
  obtain ⟨(e3 : f 3 = _), -⟩ := hF
  try simp only [e3]
  exact stC hK rfl rfl rfl rfl (by first | rfl | kernel_rfl) rfl rfl rfl (hS.2.2.2.2.1) (by kernel_rfl) (fun _ => by kernel_rfl)
 ·intro w5 hS hF hD K hK
  obtain ⟨(e4 : f 4 = _), -⟩ := hF
  try simp only [e4]
  exact stV hK rfl rfl rfl rfl (by first | rfl | kernel_rfl) rfl (by show _ = _; kernel_rfl)
 ·intro w5 hS hF hD K hK
  exact stC hK rfl rfl rfl rfl (by first | rfl | kernel_rfl) rfl rfl rfl (hS.2.2.2.2.2.2.2.1) (by kernel_rfl) (fun _ => by kernel_rfl)
 ·intro w5 hS hF hD K hK
  exact stV hK rfl rfl rfl rfl (by first | rfl | kernel_rfl) rfl (by show _ = _; kernel_rfl)
 ·intro w5 hS hF hD K hK
  obtain ⟨(e7 : f 7 = _), -⟩ := hF
  try simp only [e7]
  exact stC hK rfl rfl rfl rfl (by first | rfl | kernel_rfl) rfl rfl rfl (hS.2.2.2.2.1) (by kernel_rfl) (fun _ => by kernel_rfl)
 ·intro w5 hS hF hD K hK
  obtain ⟨(e6 : f 6 = _), (e8 : f 8 = _), -⟩ := hF
  try simp only [e6, e8]
  rw [if_pos (by rfl)]
  go_simp
  go_at_call 52; refine (HLB.out _ (HR.out.stay (hS.1.mono HNw.out))).mono ?_; rintro e w3 ⟨rfl, hbelow⟩; go_simp
  refine hK.out _ _ rfl (zP rfl rfl rfl hbelow ?_)
  first | rfl | kernel_rfl
 ·intro w5 hS hF hD K hK
  exact stV hK rfl rfl rfl rfl (by first | rfl | kernel_rfl) rfl (by show _ = _; kernel_rfl)
 ·intro w5 hS hF hD K hK
  obtain ⟨(e10 : f 10 = _), -⟩ := hF
  try simp only [e10]
  exact stC hK rfl rfl rfl rfl (by first | rfl | kernel_rfl) rfl rfl rfl (hS.2.2.2.2.2.2.2.2.1) (by kernel_rfl) (fun _ => by kernel_rfl)
 ·intro w5 hS hF hD K hK
  obtain ⟨(e9 : f 9 = _), (e11 : f 11 = _), -⟩ := hF
  try simp only [e9, e11]
  exact stV hK rfl rfl rfl rfl (by first | rfl | kernel_rfl) rfl (by show _ = _; kernel_rfl)
 ·intro w5 hS hF hD K hK
  exact stC hK rfl rfl rfl rfl (by first | rfl | kernel_rfl) rfl rfl rfl (hS.2.2.2.2.2.1) (by kernel_rfl) (fun _ => by kernel_rfl)
 ·intro w5 hS hF hD K hK
  exact stV hK rfl rfl rfl rfl (by first | rfl | kernel_rfl) rfl (by show _ = _; kernel_rfl)
 ·intro w5 hS hF hD K hK
  obtain ⟨(e14 : f 14 = _), -⟩ := hF
  try simp only [e14]
  rw [if_pos (by rfl)]
  exact zx (v := .int .i64 (IntKind.i64.wrap ((k : Int) + 1))) (by (show _ = _); kernel_rfl) (hK.out _ _ rfl (zq rfl rfl rfl (congrArg (Value.int .i64) HW1.out)))
 ·intro w5 hS hF hD K hK
  obtain ⟨(e13 : f 13 = _), (e15 : f 15 = _), -⟩ := hF
  try simp only [e13, e15]
  rw [if_pos (by rfl)]
  go_simp
  refine hK.out _ _ rfl (zq rfl rfl rfl ?_)
  first | rfl | kernel_rfl
 ·intro w5 hS hF hD K hK
  obtain ⟨(e16 : f 16 = _), -⟩ := hF
  try simp only [e16]
  exact stC hK rfl rfl rfl rfl (by first | rfl | kernel_rfl) rfl rfl rfl (hS.2.2.2.2.2.2.1) (HO2.out) (fun _ => by kernel_rfl)
 ·intro w5 hS hF hD K hK
  obtain ⟨(e17 : f 17 = _), -⟩ := hF
  try simp only [e17]
  exact stV hK rfl rfl rfl rfl (by first | rfl | kernel_rfl) rfl (by show _ = _; kernel_rfl)
 ·intro w5 hS hF hD K hK
  obtain ⟨(e12 : f 12 = _), (e18 : f 18 = _), -⟩ := hF
  try simp only [e12, e18]
  rw [if_pos (by rfl)]
  exact zx (v := .int .u16 (IntKind.u16.wrap (IntKind.u16.wrap ((E.pl.addr + E.lab l.dest) % 65536 - E.pl.addr) - IntKind.u16.wrap (E.off (k + 1))))) (by (show _ = _); kernel_rfl) (hK.out _ _ rfl (zq rfl rfl rfl (congrArg (Value.int .u16) HIM.out)))
 ·intro w5 hS hF hD K hK
  obtain ⟨(e2 : f 2 = _), (e5 : f 5 = _), (e19 : f 19 = _), -⟩ := hF
  try simp only [e2, e5, e19]
  exact stV hK rfl rfl rfl rfl (by first | rfl | kernel_rfl) rfl (by show _ = _; kernel_rfl)
 ·intro w5 hS hF hD K hK
  rw [if_pos (by rfl)]
  go_simp
  refine hK.out _ _ rfl (zr.new rfl rfl hS.2.2.1 rfl ?_)
  first | rfl | kernel_rfl
 ·intro w5 hS hF hD K hK
  obtain ⟨e21, (e20 : f 20 = _), (e9 : f 9 = _), (e0 : f 0 = _), (e1 : f 1 = _), (e2 : f 2 = _), (e3 : f 3 = _), (e4 : f 4 = _), (e5 : f 5 = _), (e6 : f 6 = _), (e7 : f 7 = _), (e8 : f 8 = _), (e10 : f 10 = _), (e11 : f 11 = _), (e12 : f 12 = _), (e13 : f 13 = _), (e14 : f 14 = _), (e15 : f 15 = _), (e16 : f 16 = _), (e17 : f 17 = _), (e18 : f 18 = _), (e19 : f 19 = _), -⟩ := hF
  obtain ⟨g21, c21, e21, hB21, hg21, hn21⟩ := e21
  replace e21 : f 21 = _ := e21
  try simp only [e21, e20, e9, e0, e1, e2, e3, e4, e5, e6, e7, e8, e10, e11, e12, e13, e14, e15, e16, e17, e18, e19]
  rw [if_pos (by rfl)]
  refine wp_store_row _ _ _ rfl g21 _ rfl rfl _ _ hg21 (by kernel_rfl) hn21 (by kernel_rfl) ?_
  exact hK.out _ _ rfl (zr.set rfl rfl rfl rfl rfl e21 hB21 hB21 hg21 hS (ya.isV (ya.isV (ya.isV (ya.isV (ya.isV (ya.isV (ya.isV (ya.isV (ya.isV (ya.isV (ya.isV (ya.isV (ya.isV (ya.isV (ya.isV (ya.isV (ya.isV (ya.isV (ya.isV (ya.isV (ya.isV (ya.out (by rfl) (ya.out (by rfl) ya.nil))))))))))))))))))))))))
 intro w5 hS hF
 obtain ⟨e22, -⟩ := hF
 obtain ⟨g21, e22, hB21, hg21⟩ := e22
 replace e22 : f 21 = _ := e22
 try simp only [e22]
 refine yN (by kernel_rfl) ?_
 have HB5 := zh hS.1
 have HG21 := zh hg21
 have HLN := zh hS.2.2.2.2.1
 have HRES := zh hS.2.2.2.2.2.2.2.2.2.1
 have HR5 := zh (HR.out.stay (hS.1.mono HNw.out))
 have HZ21 := zh (show w.heap.size + 2 ≤ g21 by omega)
 clear hS e22 hg21 H3 HR2 h2 hB zz5 zz10 zz11 zzg zz0 HLB HO2 HW1 HIM
 obtain ⟨g, rfl⟩ : ∃ g : Nat, g = g21 := ⟨_, rfl⟩
 clear hB21
 have hk9 : (E.ls.length : Int) < (E.ls.length : Int) + 1 := by omega
 go_upto_region 2 with fail
 have zz5 : b5 < w5.heap.size := (Array.getElem?_eq_some_iff.1 HR5.out.h5).1
 have zz10 : b10 < w5.heap.size := (Array.getElem?_eq_some_iff.1 HR5.out.h10).1
 have zzg : go < w5.heap.size := (Array.getElem?_eq_some_iff.1 HR5.out.hgo).1
 have zz0 : w.heap.size < w5.heap.size := (Array.getElem?_eq_some_iff.1 HLN.out).1
 have zz1 : w.heap.size + 1 < w5.heap.size := (Array.getElem?_eq_some_iff.1 HRES.out).1
 have zz2 : g < w5.heap.size := (Array.getElem?_eq_some_iff.1 HG21.out).1
 have hbl : (bv tabs).length = tabs.length := by simp [bv]
 have HBL := zh (show ∀ W, Below w.heap.size w W → Calls Try.prog 60 #[.pointer (some ⟨b13, 0, none⟩)] W fun e w' => e = .returned (.int .i64 tabs.length) ∧ W = w' from fun W hW => by have := blen_any b13 (bv tabs) tv W (HT.out.stay hW); rw [hbl] at this; exact this)
 clear hbl
 refine zV [] 13 (z5 [isV (.pointer (some ⟨b5, 1, none⟩)), isV (.int .u16 E.pl.addr), isV (.slice (some ⟨go, 0, none⟩) (E.ls.length + 1) (E.ls.length + 1)), isV (.slice (some ⟨go, 0, none⟩) (E.ls.length + 1) (E.ls.length + 1)), isV (.int .i64 (E.ls.length + 1)), isV (.int .i64 E.ls.length), isV ((.pointer (some ⟨go, E.ls.length, none⟩))), isV ((.int .i64 (E.off E.ls.length))), isV (.int .i64 tabs.length), isV (.int .i64 (E.off E.ls.length + (tabs.length : Int))), isV (.int .u16 (IntKind.u16.wrap (E.off E.ls.length + (tabs.length : Int)))), isV (.int .u16 ((E.pl.addr + E.off E.ls.length + (tabs.length : Int)) % 65536)), isV (.pointer (some ⟨g, 4, none⟩))]) (nth [[0], [1], [2], [3], [4], [5], [6], [7], [8], [9], [10], [11], [12]]) (nth [[], [], [], [], [], [], [], [], [], [], [], [], []]) (nth [[], [0], [], [], [3], [4], [2, 5], [6], [], [7, 8], [9], [1, 10], [0, 1, 2, 3, 4, 5, 6, 7, 8, 9, 10, 11]]) [11, 12] (yU w.heap.size w w5.heap.size [(w.heap.size, .cells #[.int .i64 (l).label, .int .i64 (l).ins.op, .int .i64 (l).ins.d, .int .i64 (l).ins.s, .int .u16 (l).ins.imm, .int .u16 (l).ins.aux, .int .i64 (l).ins.bank, .int .i64 (l).ins.size, .int .i64 (l).dest, .int .i64 (l).fn, .int .i64 (l).obj, .slice ta (l).tab.length tcp] 58 (0, 0)), (b10, .cells #[.slice (some ⟨go, 0, none⟩) (E.ls.length + 1) (E.ls.length + 1)] 40 (0, 0)), (go, .cells (viA (xi E.sz)) 3 (0, 0)), (g, .cells #[.int .i64 133, .int .i64 l.ins.d, .int .i64 0, .int .u16 ((E.lab l.dest - E.off (k + 1)) % 65536), .int .u16 0, .int .i64 l.tab.length, .int .i64 0] 53 (0, 0)), (b5, .cells #[.int .i64 E.pl.bank, .int .u16 E.pl.addr] 37 (0, 0)), (w.heap.size + 1, .cells #[.int .i64 0, .int .i64 0, .int .i64 0, .int .u16 0, .int .u16 0, .int .i64 0, .int .i64 0] 53 (0, 0))]) (by kernel_rfl) (by kernel_rfl) (⟨HB5.out.drew, HB5.out.size, zn _, by intro x hx; simp at hx; rcases hx with rfl | rfl | rfl | rfl | rfl | rfl <;> assumption, HLN.out, HR5.out.h10, HR5.out.hgo, HG21.out, HR5.out.h5, HRES.out, trivial⟩) (yU.grow) (zG ((za (zc _)  (za (zc _)  (za (zc _)  (za (zc _)  (za (zc _)  (za (zc _)  (za (zc _)  (za (zc _)  (za (zc _)  (za (zc _)  (za (zc _)  (za (zc _)  (za (zc _) zy))))))))))))))) (fun f F hF => ?_)
 simp only [List.take_succ_cons, List.take_zero, yb, Act.put, zD, zE, zF, Nat.reduceAdd] at hF
 subst hF
 refine ⟨zd ?_ (zd ?_ (zd ?_ (zd ?_ (zd ?_ (zd ?_ (zd ?_ (zd ?_ (zd ?_ (zd ?_ (zd ?_ (zd ?_ (zd ?_ (yd))))))))))))), ?_⟩
 ·intro w6 hS hF hD K hK
  exact stV hK rfl rfl rfl rfl (by first | rfl | kernel_rfl) rfl (by show _ = _; kernel_rfl)
 ·intro w6 hS hF hD K hK
  obtain ⟨(e0 : f 0 = _), -⟩ := hF
  try simp only [e0]
  exact stC hK rfl rfl rfl rfl (by first | rfl | kernel_rfl) rfl rfl rfl (hS.2.2.2.2.2.2.2.2.1) (by kernel_rfl) (fun _ => by kernel_rfl)
 ·intro w6 hS hF hD K hK
  exact stC hK rfl rfl rfl rfl (by first | rfl | kernel_rfl) rfl rfl rfl (hS.2.2.2.2.2.1) (by kernel_rfl) (fun _ => by kernel_rfl)
 ·intro w6 hS hF hD K hK
  exact stC hK rfl rfl rfl rfl (by first | rfl | kernel_rfl) rfl rfl rfl (hS.2.2.2.2.2.1) (by kernel_rfl) (fun _ => by kernel_rfl)
 ·intro w6 hS hF hD K hK
  obtain ⟨(e3 : f 3 = _), -⟩ := hF
  try simp only [e3]
  exact stV hK rfl rfl rfl rfl (by first | rfl | kernel_rfl) rfl (by show _ = _; kernel_rfl)
 ·intro w6 hS hF hD K hK
  obtain ⟨(e4 : f 4 = _), -⟩ := hF
  try simp only [e4]
  rw [if_pos (by rfl)]
  exact zx (v := .int .i64 (IntKind.i64.wrap ((E.ls.length : Int) + 1 - 1))) (by (show _ = _); kernel_rfl) (hK.out _ _ rfl (zq rfl rfl rfl (congrArg (Value.int .i64) HW3.out)))
 ·intro w6 hS hF hD K hK
  obtain ⟨(e2 : f 2 = _), (e5 : f 5 = _), -⟩ := hF
  try simp only [e2, e5]
  rw [if_pos (by rfl)]
  go_simp
  refine hK.out _ _ rfl (zq rfl rfl rfl ?_)
  first | rfl | kernel_rfl
 ·intro w6 hS hF hD K hK
  obtain ⟨(e6 : f 6 = _), -⟩ := hF
  try simp only [e6]
  exact stC hK rfl rfl rfl rfl (by first | rfl | kernel_rfl) rfl rfl rfl (hS.2.2.2.2.2.2.1) (HO3.out) (fun _ => by kernel_rfl)
 ·intro w6 hS hF hD K hK
  rw [if_pos (by rfl)]
  go_simp
  go_at_call 60; refine (HBL.out _ hS.1).mono ?_; rintro e w3 ⟨rfl, rfl⟩; have hbelow := Below.refl w6.heap.size w6; go_simp
  refine hK.out _ _ rfl (zP rfl rfl rfl hbelow ?_)
  first | rfl | kernel_rfl
 ·intro w6 hS hF hD K hK
  obtain ⟨(e7 : f 7 = _), (e8 : f 8 = _), -⟩ := hF
  try simp only [e7, e8]
  rw [if_pos (by rfl)]
  exact zx (v := .int .i64 (IntKind.i64.wrap (E.off E.ls.length + (tabs.length : Int)))) (by (show _ = _); kernel_rfl) (hK.out _ _ rfl (zq rfl rfl rfl (congrArg (Value.int .i64) HW4.out)))
 ·intro w6 hS hF hD K hK
  obtain ⟨(e9 : f 9 = _), -⟩ := hF
  try simp only [e9]
  exact stV hK rfl rfl rfl rfl (by first | rfl | kernel_rfl) rfl (by show _ = _; kernel_rfl)
 ·intro w6 hS hF hD K hK
  obtain ⟨(e1 : f 1 = _), (e10 : f 10 = _), -⟩ := hF
  try simp only [e1, e10]
  rw [if_pos (by rfl)]
  exact zx (v := .int .u16 (IntKind.u16.wrap (E.pl.addr + IntKind.u16.wrap (E.off E.ls.length + (tabs.length : Int))))) (by (show _ = _); kernel_rfl) (hK.out _ _ rfl (zq rfl rfl rfl (congrArg (Value.int .u16) HAX.out)))
 ·intro w6 hS hF hD K hK
  obtain ⟨(e0 : f 0 = _), (e1 : f 1 = _), (e2 : f 2 = _), (e3 : f 3 = _), (e4 : f 4 = _), (e5 : f 5 = _), (e6 : f 6 = _), (e7 : f 7 = _), (e8 : f 8 = _), (e9 : f 9 = _), (e10 : f 10 = _), (e11 : f 11 = _), -⟩ := hF
  try simp only [e0, e1, e2, e3, e4, e5, e6, e7, e8, e9, e10, e11]
  exact stV hK rfl rfl rfl rfl (by first | rfl | kernel_rfl) rfl (by show _ = _; kernel_rfl)
 intro w6 hS hF
 obtain ⟨(e11 : f 11 = _), (e12 : f 12 = _), -⟩ := hF
 try simp only [e11, e12]
 refine Fin.last rfl (fun K hK => ?_)
 rw [if_pos (by rfl)]
 refine wp_store_at _ _ _ rfl g 4 (by rfl) _ (by rfl) _ _ hS.2.2.2.2.2.2.2.1 _ (by rfl) (Nat.le_of_ble_eq_true rfl) (by kernel_rfl) (by rfl) #[.int .i64 133, .int .i64 l.ins.d, .int .i64 0, .int .u16 ((E.lab l.dest - E.off (k + 1)) % 65536), .int .u16 ((E.pl.addr + E.off E.ls.length + (tabs.length : Int)) % 65536), .int .i64 l.tab.length, .int .i64 0] (by rfl) (hK.out _ _ ?_)
 try simp only [Act.put, zD, zE, zF]
 have hne1 : w.heap.size ≠ g := by have := HZ21.out; omega
 have hne2 : w.heap.size + 1 ≠ g := by have := HZ21.out; omega
 have HB7 := zh (below_setRow hS.1 (show w.heap.size ≤ g by have := HZ21.out; omega) #[.int .i64 133, .int .i64 l.ins.d, .int .i64 0, .int .u16 ((E.lab l.dest - E.off (k + 1)) % 65536), .int .u16 ((E.pl.addr + E.off E.ls.length + (tabs.length : Int)) % 65536), .int .i64 l.tab.length, .int .i64 0])
 have HG7 := zh (setRow_heap w6 g _ #[.int .i64 133, .int .i64 l.ins.d, .int .i64 0, .int .u16 ((E.lab l.dest - E.off (k + 1)) % 65536), .int .u16 ((E.pl.addr + E.off E.ls.length + (tabs.length : Int)) % 65536), .int .i64 l.tab.length, .int .i64 0] _ _ hS.2.2.2.2.2.2.2.1)
 have HL7 := zh ((setRow_other w6 g w.heap.size #[.int .i64 133, .int .i64 l.ins.d, .int .i64 0, .int .u16 ((E.lab l.dest - E.off (k + 1)) % 65536), .int .u16 ((E.pl.addr + E.off E.ls.length + (tabs.length : Int)) % 65536), .int .i64 l.tab.length, .int .i64 0] hne1).trans hS.2.2.2.2.1)
 have HS7 := zh ((setRow_other w6 g (w.heap.size + 1) #[.int .i64 133, .int .i64 l.ins.d, .int .i64 0, .int .u16 ((E.lab l.dest - E.off (k + 1)) % 65536), .int .u16 ((E.pl.addr + E.off E.ls.length + (tabs.length : Int)) % 65536), .int .i64 l.tab.length, .int .i64 0] hne2).trans hS.2.2.2.2.2.2.2.2.2.1)
 obtain ⟨w7, hw7⟩ : ∃ w7 : World, w6.setRow g #[.int .i64 133, .int .i64 l.ins.d, .int .i64 0, .int .u16 ((E.lab l.dest - E.off (k + 1)) % 65536), .int .u16 ((E.pl.addr + E.off E.ls.length + (tabs.length : Int)) % 65536), .int .i64 l.tab.length, .int .i64 0] = w7 := ⟨_, rfl⟩
 rw [hw7] at HB7 HG7 HL7 HS7 ⊢
 clear hw7 hS e11 e12 hne1 hne2 zz5 zz10 zzg zz0 zz1 zz2 HB5 HG21 HLN HRES HR5 HBL HO3 HW3 HW4 HAX
 obtain ⟨w8, rfl⟩ : ∃ w8 : World, w8 = w7 := ⟨_, rfl⟩
 have c11 := cell_of_row w8 w.heap.size 11 _ _ _ HL7.out
 go_wp2_with fail
 clear c11
 have HT8 := zh (HT.out.stay HB7.out)
 have HV8 := zh (zN.ofBelow (bs := fun x => x = b13 ∨ tv.ownBlock = some x) HB7.out)
 go_loopw [49] (fun i wr => ∃ (j : Nat) (v : Value), j ≤ l.tab.length ∧ i = .int .i64 j ∧ Hid (jL b13 (bv (tabs ++ (l.tab.take j).flatMap E.cellT)) v wr) ∧ Hid (∀ q, v.ownBlock = some q → tv.ownBlock = some q ∨ w.heap.size ≤ q) ∧ Hid (zN (fun x => x = b13 ∨ tv.ownBlock = some x) w wr) ∧
  Hid (wr.heap[g]? = some (.cells #[.int .i64 133, .int .i64 l.ins.d, .int .i64 0, .int .u16 ((E.lab l.dest - E.off (k + 1)) % 65536), .int .u16 ((E.pl.addr + E.off E.ls.length + (tabs.length : Int)) % 65536), .int .i64 l.tab.length, .int .i64 0] 53 (0, 0))) ∧
  Hid (wr.heap[w.heap.size + 1]? = some (.cells #[.int .i64 0, .int .i64 0, .int .i64 0, .int .u16 0, .int .u16 0, .int .i64 0, .int .i64 0] 53 (0, 0)))) (fun i _ => l.tab.length - (intOf i).toNat)
 case atStart => exact ⟨0, tv, Nat.zero_le _, rfl, zh (by simpa using HT8.out), zh (fun q h => .inl h), HV8, HG7, HS7⟩
 case round =>
  obtain ⟨j, v, hj, rfl, HBW, HVO, HTN, HG, HS⟩ := hrel
  by_cases hlt : j < l.tab.length
  ·obtain ⟨t, ht⟩ : ∃ t, l.tab[j]? = some t := ⟨_, List.getElem?_eq_getElem hlt⟩
   have HTJ := zh ht
   have HTM := zh (List.mem_of_getElem? ht)
   have hbn := zN.toBelow HTN.out HNw.out (fun q hq => by rcases hq with rfl | hq; exact hb13; exact HBR.out q hq)
   have HRR := zh (HR.out.stay hbn)
   obtain ⟨ao', cap', e0, hc, h1⟩ := HI.out.below HRR.out.bb
   simp only [Value.slice.injEq, true_and] at e0
   obtain ⟨rfl, rfl⟩ := e0
   obtain ⟨q, off, c, T', fr', rfl, hq, h2⟩ := h1 (by omega)
   have hcell : wr.cell? ⟨q, off + j, none⟩ = some (.int .i64 t) := by rw [cell_of_row wr q _ _ _ _ hq]; exact h2 j t ht
   clear h2 hq h1 hc ht hbn
   go_upto_region 6 with fail
   clear hcell
   obtain ⟨A, hA⟩ : ∃ A : Int, (E.pl.addr + E.lab t) % 65536 = A := ⟨_, rfl⟩
   have hA0 : 0 ≤ A := by omega
   have hA1 : A < 65536 := by omega
   have HLA := zh (fun W (hW : CdR w0 E N b4 b5 b6 b7 b10 b11 m go nm lv fv dv W) => by have := HLT.out t HTM.out W hW; rw [hA] at this; exact this)
   have HCT := zh (show E.cellT t = [A % 256, A / 256] by unfold zL.cellT; rw [hA])
   clear hA
   have HU8 := zh (show IntKind.u8.wrap (A / 256) = A / 256 from IntWalk.u8_in _ (by omega))
   have zz11 : b11 < wr.heap.size := (Array.getElem?_eq_some_iff.1 HRR.out.h11).1
   have HNr := zh (show N ≤ wr.heap.size from HRR.out.lt.2.2.2.2.2.2.2.2)
   refine ye [] 9 (z5 [isV (.func (.func 52) #[] #[.pointer (some ⟨b5, 0, none⟩), .pointer (some ⟨b10, 0, none⟩), .pointer (some ⟨b4, 0, none⟩)]), isV (.int .i64 t), isV (.int .u16 A), isV (.int .u8 (A % 256)), isV (.func (.func 52) #[] #[.pointer (some ⟨b5, 0, none⟩), .pointer (some ⟨b10, 0, none⟩), .pointer (some ⟨b4, 0, none⟩)]), isV (.int .i64 t), isV (.int .u16 A), isV ((.int .u16 (A / 256))), isV (.int .u8 (A / 256))]) (nth [[0], [1], [2], [3], [4], [5], [6], [7], [8]]) (nth [[], [], [], [], [], [], [], [], []]) (nth [[], [], [0, 1], [2], [], [], [4, 5, 2], [6], [7]]) [3, 8] (yU wr.heap.size wr wr.heap.size [(b11, .cells #[.func (.func 52) #[] #[.pointer (some ⟨b5, 0, none⟩), .pointer (some ⟨b10, 0, none⟩), .pointer (some ⟨b4, 0, none⟩)]] 106 (0, 0))]) (by kernel_rfl) (by kernel_rfl) (⟨(Below.refl _ _).drew, zn _, zn _, by intro x hx; simp at hx; rcases hx with rfl; assumption, HRR.out.h11, trivial⟩) (yU.grow) (zG ((za (zc _)  (za (zc _)  (za (zc _)  (za (zc _)  (za (zc _)  (za (zc _)  (za (zc _)  (za (zc _)  (za (zc _) zy))))))))))) (fun f F hF => ?_)
   simp only [List.take_succ_cons, List.take_zero, yb, Act.put, zD, zE, zF, Nat.reduceAdd] at hF
   subst hF
   refine ⟨ze ?_ (ze ?_ (ze ?_ (ze ?_ (ze ?_ (ze ?_ (ze ?_ (ze ?_ (ze ?_ (yf))))))))), ?_⟩
   ·intro w5 hS hF hD K hK
    exact stC hK rfl rfl rfl rfl (by first | rfl | kernel_rfl) rfl rfl rfl (hS.2.2.2.2.1) (by kernel_rfl) (fun _ => by kernel_rfl)
   ·intro w5 hS hF hD K hK
    exact stV hK rfl rfl rfl rfl (by first | rfl | kernel_rfl) rfl (by show _ = _; kernel_rfl)
   ·intro w5 hS hF hD K hK
    obtain ⟨(e0 : f 0 = _), (e1 : f 1 = _), -⟩ := hF
    try simp only [e0, e1]
    rw [if_pos (by rfl)]
    go_simp
    go_at_call 52; refine (HLA.out _ (HRR.out.stay (hS.1.mono HNr.out))).mono ?_; rintro e w3 ⟨rfl, hbelow⟩; go_simp
    refine hK.out _ _ rfl (zP rfl rfl rfl hbelow ?_)
    first | rfl | kernel_rfl
   ·intro w5 hS hF hD K hK
    obtain ⟨(e2 : f 2 = _), -⟩ := hF
    try simp only [e2]
    exact stV hK rfl rfl rfl rfl (by first | rfl | kernel_rfl) rfl (by show _ = _; kernel_rfl)
   ·intro w5 hS hF hD K hK
    exact stC hK rfl rfl rfl rfl (by first | rfl | kernel_rfl) rfl rfl rfl (hS.2.2.2.2.1) (by kernel_rfl) (fun _ => by kernel_rfl)
   ·intro w5 hS hF hD K hK
    exact stV hK rfl rfl rfl rfl (by first | rfl | kernel_rfl) rfl (by show _ = _; kernel_rfl)
   ·intro w5 hS hF hD K hK
    obtain ⟨(e4 : f 4 = _), (e5 : f 5 = _), (e2 : f 2 = _), -⟩ := hF
    try simp only [e4, e5, e2]
    rw [if_pos (by rfl)]
    go_simp
    go_at_call 52; refine (HLA.out _ (HRR.out.stay (hS.1.mono HNr.out))).mono ?_; rintro e w3 ⟨rfl, hbelow⟩; go_simp
    refine hK.out _ _ rfl (zP rfl rfl rfl hbelow ?_)
    first | rfl | kernel_rfl
   ·intro w5 hS hF hD K hK
    obtain ⟨(e6 : f 6 = _), -⟩ := hF
    try simp only [e6]
    rw [if_pos (by rfl)]
    go_simp
    refine hK.out _ _ rfl (zq rfl rfl rfl ?_)
    first | rfl | kernel_rfl
   ·intro w5 hS hF hD K hK
    obtain ⟨(e7 : f 7 = _), -⟩ := hF
    try simp only [e7]
    rw [if_pos (by rfl)]
    exact zx (v := .int .u8 (IntKind.u8.wrap (A / 256))) (by (show _ = _); kernel_rfl) (hK.out _ _ rfl (zq rfl rfl rfl (congrArg (Value.int .u8) HU8.out)))
   intro w5 hS hF
   obtain ⟨(e3 : f 3 = _), (e8 : f 8 = _), -⟩ := hF
   try simp only [e3, e8]
   simp only [List.drop_succ_cons, List.drop_zero]
   have hcv := conv2 w5 (A % 256) (A / 256)
   have hb5 : Below wr.heap.size wr (w5.alloc (.cells #[.int .u8 (A % 256), .int .u8 (A / 256)] 5)) := hS.1.alloc hS.1.size _
   have HB5 := zh hb5
   have HWB := zh (HBW.out.stay hb5)
   have hll : ((l.tab.take j).flatMap E.cellT).length ≤ 2000 := by
    have : ((l.tab.take j).flatMap E.cellT).length = 2 * (l.tab.take j).length := by
     rw [List.length_flatMap]
     have : (l.tab.take j).map (fun t => (E.cellT t).length) = (l.tab.take j).map (fun _ => 2) := List.map_congr_left fun t _ => rfl
     rw [this]
     simp [List.map_const']
     omega
    rw [this, List.length_take]
    omega
   have HLL := zh (show (bv (tabs ++ (l.tab.take j).flatMap E.cellT)).length + (zO [A % 256, A / 256]).size ≤ 140737488355328 by rw [yo]; simp only [bv, List.length_map, List.length_append, List.length_cons, List.length_nil]; omega)
   clear hS hb5 hll
   go_wp2_with (go_at_call 61; refine (bwrite_any b13 _ v _ _ HWB.out HLL.out).mono ?_; rintro e w9 ⟨rfl, v', hB9, hT9, hO9⟩)
   go_roundw
   case rel =>
    have hne21 : ∀ {x : Nat} {cs : Array Value} {T : TypeId}, wr.heap[x]? = some (.cells cs T (0, 0)) → T ≠ 5 → x ≠ b13 → w9.heap[x]? = some (.cells cs T (0, 0)) := by
     intro x cs T hx hTy hxb
     refine hT9.heap (zf HB5.out hx) ?_
     rintro (h | h)
     ·exact hxb h
     ·obtain ⟨-, cs', h8⟩ := z7 HWB.out.own _ h
      rw [zf HB5.out hx] at h8
      simp at h8
      exact hTy h8.2
    have hb13n : w.heap.size + 1 ≠ b13 ∧ g ≠ b13 := by have := HT.out.lt; have := HZ21.out; omega
    refine ⟨j + 1, v', by omega, by go_num, zh ?_, zh ?_, zh ?_, zh (hne21 HG.out (by decide) hb13n.2), zh (hne21 HS.out (by decide) hb13n.1)⟩
    ·rw [strC2 (by omega) (by omega)] at hB9
     have e1 : l.tab.take (j + 1) = l.tab.take j ++ [t] := by rw [List.take_succ, HTJ.out]; rfl
     rw [e1, List.flatMap_append, ← List.append_assoc]
     have e2 : [t].flatMap E.cellT = [A % 256, A / 256] := by simp [HCT.out]
     rw [e2]
     unfold bv at hB9 ⊢
     rw [List.map_append]
     exact hB9
    ·intro q' hq'
     rcases hO9 q' hq' with h | h
     ·exact HVO.out q' h
     ·exact .inr (Nat.le_trans HTN.out.size (Nat.le_trans HB5.out.size h))
    ·refine (HTN.out.trans (zN.ofBelow (bs := fun x => x = b13 ∨ v.ownBlock = some x) HB5.out) ?_).trans hT9 ?_
     ·intro x hx h
      rcases h with h | h
      ·exact .inl h
      ·rcases HVO.out x h with h | h
       ·exact .inr h
       ·omega
     ·intro x hx h
      rcases h with h | h
      ·exact .inl h
      ·rcases HVO.out x h with h | h
       ·exact .inr h
       ·omega
   case measure => simp [intOf]; omega
  ·have hje : j = l.tab.length := by omega
   subst hje
   clear hlt hj
   have hne : w.heap.size + 1 ≠ g := by have := HZ21.out; omega
   go_wp2_with (first | (refine zs _ _ rfl _ rfl _ _ _ (HG.out) ?_ ?_ ?_; kernel_rfl; kernel_rfl) | (refine wpList_store_row rfl _ _ _ rfl _ _ rfl rfl _ _ (HS.out) ?_ ?_ ?_ ?_; kernel_rfl; rfl; kernel_rfl))
   refine bodyPost_ret (results_cell_row (cs := #[.int .i64 133, .int .i64 l.ins.d, .int .i64 0, .int .u16 ((E.lab l.dest - E.off (k + 1)) % 65536), .int .u16 ((E.pl.addr + E.off E.ls.length + (tabs.length : Int)) % 65536), .int .i64 l.tab.length, .int .i64 0]) (fr := (0, 0)) rfl _ _ (w.heap.size + 1) 53 _ rfl (setRow_heap _ _ _ _ _ _ HS.out) (Try.underlying53) rfl (by kernel_rfl)) rfl ⟨by rw [HIN.out], v, ?_, ?_, HVO.out⟩
   ·have e1 : E.tabB l = l.tab.flatMap E.cellT := by unfold zL.tabB; rw [if_pos HF.out]
    have h9 := HBW.out
    rw [List.take_length, ← e1] at h9
    refine h9.turn (ts := fun x => x = w.heap.size + 1) ((zN.refl _ _).setRow _ fun _ => rfl) ?_ ?_
    ·have := HT.out.lt; omega
    ·intro q hq hq2
     subst hq2
     obtain ⟨-, cs, h8⟩ := z7 h9.own _ hq
     rw [HS.out] at h8
     simp at h8
   ·exact HTN.out.setRow _ fun h => absurd h (by omega)
end Go.Proofs.Ythebmoggbgldmaa
