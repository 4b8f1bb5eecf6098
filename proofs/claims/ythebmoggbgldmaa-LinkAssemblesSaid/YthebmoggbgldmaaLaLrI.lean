/- The reference of chapter 19: the encoder's table. The conditions: a well-formed chunk. -/
import Derived.Test.YthebmoggbgldmaaLaLrH
set_option linter.all false
namespace Go.Proofs.Ythebmoggbgldmaa
open Go Go.RowKit Go.Maps
theorem conv_at (W : World) (g : Nat) (a b : Int) (hg : W.heap[g]? = some (.cells #[.int .u8 a, .int .u8 b] 5 (0, 0))) : (convert 99 9 (.slice (some ⟨g, 0, none⟩) 2 2)).run Try.prog W = .ok (.string (zO [a, b])) W :=
 yk (P := Try.prog) W 99 9 5 Try.underlying99 Try.underlying5 Try.underlying9 _ 2 0 [a, b] ⟨rfl, .inr ⟨g, 2, _, rfl, Nat.zero_le _, hg, zn _, by decide, rfl, rfl⟩⟩
section
variable (w0 : World) (E : zL) (hE : E.Ok) (nm : ByteArray) (ao : Option Addr) (cap eb go lcp : Nat) (cua : Array Value) (code tabs pos : List Int) (pv : Value) (hL : yJ w0 (.slice ao E.ls.length cap) E.ls) (hcl : code.length ≤ 1000000)
include hE hL hcl
set_option maxRecDepth 100000 in
set_option maxHeartbeats 8000000 in
theorem rtable_any (hLB : LabsOk E.ls) (k : Nat) (l : zu) (ta : Option Addr) (tcp : Nat) (hl : E.ls[k]? = some l) (hf : zK l.ins.op = 3) (hI : xO w0 (.slice ta l.tab.length tcp) l.tab) (htl : tabs.length ≤ 10000000) (w : World) (h : jV w0 E nm (.slice ao E.ls.length cap) eb go lcp cua code tabs pos pv w) :
  Calls Try.prog 70 #[.pointer (some ⟨eb, 0, none⟩), .int .i64 k, .agg #[.int .i64 (l).label, .int .i64 (l).ins.op, .int .i64 (l).ins.d, .int .i64 (l).ins.s, .int .u16 (l).ins.imm, .int .u16 (l).ins.aux, .int .i64 (l).ins.bank, .int .i64 (l).ins.size, .int .i64 (l).dest, .int .i64 (l).fn, .int .i64 (l).obj, .slice ta (l).tab.length tcp]] w (EnPost w0 E nm (.slice ao E.ls.length cap) eb go lcp cua (code ++ E.lineB k tabs.length l) (tabs ++ E.tabB l) pos pv w) := by
 have hkl : k < E.ls.length := (List.getElem?_eq_some_iff.1 hl).1
 have hlen := hE.len
 obtain ⟨hlab, htab⟩ := hE.tb l (List.mem_of_getElem? hl) hf
 have hlo := hE.ls.1 l (List.mem_of_getElem? hl)
 have htn := hlo.tlen
 have hio := insL_ok hE hl (by omega) tabs.length
 have hil : E.insL k tabs.length l = ⟨133, l.ins.d, 0, (E.lab l.dest - E.off (k + 1)) % 65536, (E.pl.addr + E.off E.ls.length + tabs.length) % 65536, l.tab.length, 0⟩ := by unfold zL.insL; rw [if_neg (by omega), if_neg (by omega), if_neg (by omega)]
 have HIN := zh (fun W hW => rins_any w0 E nm eb go lcp cua code tabs pos pv (E.insL k tabs.length l) hio (.slice ao E.ls.length cap) hcl W hW)
 rw [hil] at HIN
 have HAD := zh (fun W hW => raddress_any w0 E hE nm ao cap eb go lcp cua code tabs pos pv hL hLB l.dest hlab W hW)
 have HAF := zh (fun W hW => rafter_any w0 E hE nm ao cap eb go lcp cua code tabs pos pv hL k hkl W hW)
 have HAT := zh (fun (code' tabs' : List Int) (pv' : Value) t (ht : t ∈ l.tab) W hW => raddress_any w0 E hE nm ao cap eb go lcp cua code' tabs' pos pv' hL hLB t (htab t ht) W hW)
 have HIM := zh (rbr_imm E.pl.addr (E.lab l.dest) (E.off (k + 1)))
 have HV3 := zh (h.cu E.ls.length (zn _))
 have o3 := hE.off (k := E.ls.length) (zn _)
 have HW3 := zh (show IntKind.i64.wrap ((E.ls.length : Int) + 1 - 1) = (E.ls.length : Int) by rw [show (E.ls.length : Int) + 1 - 1 = E.ls.length by omega]; exact IntWalk.i64_in _ (by omega))
 have HW4 := zh (show IntKind.i64.wrap (E.off E.ls.length + (tabs.length : Int)) = E.off E.ls.length + (tabs.length : Int) from IntWalk.i64_in _ (by omega))
 have HAX := zh (tb_aux E.pl.addr (E.off E.ls.length) (tabs.length : Int))
 have HSZ := zh (show ((zO tabs).size : Int) = (tabs.length : Int) by rw [yo])
 have hb1 := (Below.refl w.heap.size w).alloc (zn _) (.cells #[.int .i64 (l).label, .int .i64 (l).ins.op, .int .i64 (l).ins.d, .int .i64 (l).ins.s, .int .u16 (l).ins.imm, .int .u16 (l).ins.aux, .int .i64 (l).ins.bank, .int .i64 (l).ins.size, .int .i64 (l).dest, .int .i64 (l).fn, .int .i64 (l).obj, .slice ta (l).tab.length tcp] 58)
 have hn := heap_alloc_new w (.cells #[.int .i64 (l).label, .int .i64 (l).ins.op, .int .i64 (l).ins.d, .int .i64 (l).ins.s, .int .u16 (l).ins.imm, .int .u16 (l).ins.aux, .int .i64 (l).ins.bank, .int .i64 (l).ins.size, .int .i64 (l).dest, .int .i64 (l).fn, .int .i64 (l).obj, .slice ta (l).tab.length tcp] 58)
 obtain ⟨wa, hwa⟩ : ∃ wa : World, w.alloc (.cells #[.int .i64 (l).label, .int .i64 (l).ins.op, .int .i64 (l).ins.d, .int .i64 (l).ins.s, .int .u16 (l).ins.imm, .int .u16 (l).ins.aux, .int .i64 (l).ins.bank, .int .i64 (l).ins.size, .int .i64 (l).dest, .int .i64 (l).fn, .int .i64 (l).obj, .slice ta (l).tab.length tcp] 58) = wa := ⟨_, rfl⟩
 rw [hwa] at hb1 hn
 have HB := zh hb1
 have HN := zh hn
 have HH := zh (h.stay hb1)
 have HI := zh hI
 have HLE := zh (show E.lineB k tabs.length l = xl (z6 ⟨133, l.ins.d, 0, (E.lab l.dest - E.off (k + 1)) % 65536, (E.pl.addr + E.off E.ls.length + tabs.length) % 65536, l.tab.length, 0⟩) by unfold zL.lineB; rw [hil])
 have HTE := zh (show E.tabB l = l.tab.flatMap E.cellT by unfold zL.tabB; rw [if_pos hf])
 have zz0 : eb < wa.heap.size := (Array.getElem?_eq_some_iff.1 HH.out.blk).1
 have zz1 : go < wa.heap.size := (Array.getElem?_eq_some_iff.1 HH.out.gos).1
 have zz2 : w.heap.size < wa.heap.size := (Array.getElem?_eq_some_iff.1 hn).1
 have hk9 : (E.ls.length : Int) < (E.ls.length : Int) + 1 := by omega
 clear hb1 hn h hlab hio hil hl o3 hf hI hlo htab
 go_enter Try.func70, Try.ntmps70
 go_upto_region 1 with fail
 try rw [hwa]
 clear hwa
 refine zV [] 26 (z5 [isV (.pointer (some ⟨eb, 0, none⟩)), isV (.pointer (some ⟨eb, 0, none⟩)), isV (.pointer (some ⟨eb, 2, none⟩)), isV (.pointer (some ⟨eb, 3, none⟩)), isV (.int .u16 E.pl.addr), isV (.pointer (some ⟨eb, 0, none⟩)), isV (.pointer (some ⟨eb, 0, none⟩)), isV (.pointer (some ⟨eb, 4, none⟩)), isV (.slice (some ⟨go, 0, none⟩) (E.ls.length + 1) lcp), isV (.pointer (some ⟨eb, 0, none⟩)), isV (.pointer (some ⟨eb, 0, none⟩)), isV (.pointer (some ⟨eb, 4, none⟩)), isV (.slice (some ⟨go, 0, none⟩) (E.ls.length + 1) lcp), isV (.int .i64 (E.ls.length + 1)), isV (.int .i64 E.ls.length), isV ((.pointer (some ⟨go, E.ls.length, none⟩))), isV ((.int .i64 (E.off E.ls.length))), isV (.pointer (some ⟨eb, 0, none⟩)), isV (.pointer (some ⟨eb, 0, none⟩)), isV (.pointer (some ⟨eb, 6, none⟩)), isV (.string (zO tabs)), isV (.int .i64 tabs.length), isV (.int .i64 (E.off E.ls.length + (tabs.length : Int))), isV (.int .u16 (IntKind.u16.wrap (E.off E.ls.length + (tabs.length : Int)))), isV (.int .u16 ((E.pl.addr + E.off E.ls.length + (tabs.length : Int)) % 65536)), isV (.int .u16 ((E.pl.addr + E.off E.ls.length + (tabs.length : Int)) % 65536))]) (nth [[0], [1], [2], [3], [4], [5], [6], [7], [8], [9], [10], [11], [12], [13], [14], [15], [16], [17], [18], [19], [20], [21], [22], [23], [24], [25]]) (nth [[], [], [], [], [], [], [], [], [], [], [], [], [], [], [], [], [], [], [], [], [], [], [], [], [], []]) (nth [[], [0], [1], [2], [3], [], [5], [6], [7], [], [9], [10], [11], [12], [13], [8, 14], [15], [], [17], [18], [19], [20], [16, 21], [22], [4, 23], [24]]) [25] (yU wa.heap.size wa wa.heap.size [(eb, .cells #[.string nm, .slice ao E.ls.length cap, .int .i64 E.pl.bank, .int .u16 E.pl.addr, .slice (some ⟨go, 0, none⟩) (E.ls.length + 1) lcp, .string (zO code), .string (zO tabs), pv] 127 (0, 0)), (go, .cells cua 3 (0, 0))]) (by kernel_rfl) (by kernel_rfl) (⟨(Below.refl _ _).drew, zn _, zn _, by intro x hx; simp at hx; rcases hx with rfl | rfl <;> assumption, HH.out.blk, HH.out.gos, trivial⟩) (yU.grow) (zG ((za (zc _)  (za (zc _)  (za (zc _)  (za (zc _)  (za (zc _)  (za (zc _)  (za (zc _)  (za (zc _)  (za (zc _)  (za (zc _)  (za (zc _)  (za (zc _)  (za (zc _)  (za (zc _)  (za (zc _)  (za (zc _)  (za (zc _)  (za (zc _)  (za (zc _)  (za (zc _)  (za (zc _)  (za (zc _)  (za (zc _)  (za (zc _)  (za (zc _)  (za (zc _) zy)))))))))))))))))))))))))))) (fun f F hF => ?_)
 simp only [List.take_succ_cons, List.take_zero, yb, Act.put, zD, zE, zF, Nat.reduceAdd] at hF
 subst hF
 refine ⟨zd ?_ (zd ?_ (zd ?_ (zd ?_ (zd ?_ (zd ?_ (zd ?_ (zd ?_ (zd ?_ (zd ?_ (zd ?_ (zd ?_ (zd ?_ (zd ?_ (zd ?_ (zd ?_ (zd ?_ (zd ?_ (zd ?_ (zd ?_ (zd ?_ (zd ?_ (zd ?_ (zd ?_ (zd ?_ (zd ?_ (yd)))))))))))))))))))))))))), ?_⟩
 ·intro w5 hS hF hD K hK
  rw [if_pos (by rfl)]
  exact svV hK rfl rfl rfl rfl (by first | rfl | kernel_rfl)  (by show _ = _; kernel_rfl)
 ·intro w5 hS hF hD K hK
  obtain ⟨(e0 : f 0 = _), -⟩ := hF
  try simp only [e0]
  rw [if_pos (by rfl)]
  exact svV hK rfl rfl rfl rfl (by first | rfl | kernel_rfl)  (by show _ = _; kernel_rfl)
 ·intro w5 hS hF hD K hK
  obtain ⟨(e1 : f 1 = _), -⟩ := hF
  try simp only [e1]
  rw [if_pos (by rfl)]
  exact svV hK rfl rfl rfl rfl (by first | rfl | kernel_rfl)  (by show _ = _; kernel_rfl)
 ·intro w5 hS hF hD K hK
  obtain ⟨(e2 : f 2 = _), -⟩ := hF
  try simp only [e2]
  rw [if_pos (by rfl)]
  exact svV hK rfl rfl rfl rfl (by first | rfl | kernel_rfl)  (by show _ = _; kernel_rfl)
 ·intro w5 hS hF hD K hK
  obtain ⟨(e3 : f 3 = _), -⟩ := hF
  try simp only [e3]
  rw [if_pos (by rfl)]
  exact svC hK rfl rfl rfl rfl (by first | rfl | kernel_rfl)  rfl rfl (hS.2.2.2.2.1) (by kernel_rfl) (fun _ => by kernel_rfl)
 ·intro w5 hS hF hD K hK
  rw [if_pos (by rfl)]
  exact svV hK rfl rfl rfl rfl (by first | rfl | kernel_rfl)  (by show _ = _; kernel_rfl)
 ·intro w5 hS hF hD K hK
  obtain ⟨(e5 : f 5 = _), -⟩ := hF
  try simp only [e5]
  rw [if_pos (by rfl)]
  exact svV hK rfl rfl rfl rfl (by first | rfl | kernel_rfl)  (by show _ = _; kernel_rfl)
 ·intro w5 hS hF hD K hK
  obtain ⟨(e6 : f 6 = _), -⟩ := hF
  try simp only [e6]
  rw [if_pos (by rfl)]
  exact svV hK rfl rfl rfl rfl (by first | rfl | kernel_rfl)  (by show _ = _; kernel_rfl)
 ·intro w5 hS hF hD K hK
  obtain ⟨(e7 : f 7 = _), -⟩ := hF
  try simp only [e7]
  rw [if_pos (by rfl)]
  exact svC hK rfl rfl rfl rfl (by first | rfl | kernel_rfl)  rfl rfl (hS.2.2.2.2.1) (by kernel_rfl) (fun _ => by kernel_rfl)
 ·intro w5 hS hF hD K hK
  rw [if_pos (by rfl)]
  exact svV hK rfl rfl rfl rfl (by first | rfl | kernel_rfl)  (by show _ = _; kernel_rfl)
 ·intro w5 hS hF hD K hK
  obtain ⟨(e9 : f 9 = _), -⟩ := hF
  try simp only [e9]
  rw [if_pos (by rfl)]
  exact svV hK rfl rfl rfl rfl (by first | rfl | kernel_rfl)  (by show _ = _; kernel_rfl)
 ·intro w5 hS hF hD K hK
  obtain ⟨(e10 : f 10 = _), -⟩ := hF
  try simp only [e10]
  rw [if_pos (by rfl)]
  exact svV hK rfl rfl rfl rfl (by first | rfl | kernel_rfl)  (by show _ = _; kernel_rfl)
 ·intro w5 hS hF hD K hK
  obtain ⟨(e11 : f 11 = _), -⟩ := hF
  try simp only [e11]
  rw [if_pos (by rfl)]
  exact svC hK rfl rfl rfl rfl (by first | rfl | kernel_rfl)  rfl rfl (hS.2.2.2.2.1) (by kernel_rfl) (fun _ => by kernel_rfl)
 ·intro w5 hS hF hD K hK
  obtain ⟨(e12 : f 12 = _), -⟩ := hF
  try simp only [e12]
  rw [if_pos (by rfl)]
  exact svV hK rfl rfl rfl rfl (by first | rfl | kernel_rfl)  (by show _ = _; kernel_rfl)
 ·intro w5 hS hF hD K hK
  obtain ⟨(e13 : f 13 = _), -⟩ := hF
  try simp only [e13]
  rw [if_pos (by rfl)]
  exact zx (v := .int .i64 (IntKind.i64.wrap ((E.ls.length : Int) + 1 - 1))) (by (show _ = _); kernel_rfl) (hK.out _ _ rfl (zq rfl rfl rfl (congrArg (Value.int .i64) HW3.out)))
 ·intro w5 hS hF hD K hK
  obtain ⟨(e8 : f 8 = _), (e14 : f 14 = _), -⟩ := hF
  try simp only [e8, e14]
  rw [if_pos (by rfl)]
  go_simp
  refine hK.out _ _ rfl (zq rfl rfl rfl ?_)
  first | rfl | kernel_rfl
 ·intro w5 hS hF hD K hK
  obtain ⟨(e15 : f 15 = _), -⟩ := hF
  try simp only [e15]
  rw [if_pos (by rfl)]
  exact svC hK rfl rfl rfl rfl (by first | rfl | kernel_rfl)  rfl rfl (hS.2.2.2.2.2.1) (HV3.out) (fun _ => by kernel_rfl)
 ·intro w5 hS hF hD K hK
  rw [if_pos (by rfl)]
  exact svV hK rfl rfl rfl rfl (by first | rfl | kernel_rfl)  (by show _ = _; kernel_rfl)
 ·intro w5 hS hF hD K hK
  obtain ⟨(e17 : f 17 = _), -⟩ := hF
  try simp only [e17]
  rw [if_pos (by rfl)]
  exact svV hK rfl rfl rfl rfl (by first | rfl | kernel_rfl)  (by show _ = _; kernel_rfl)
 ·intro w5 hS hF hD K hK
  obtain ⟨(e18 : f 18 = _), -⟩ := hF
  try simp only [e18]
  rw [if_pos (by rfl)]
  exact svV hK rfl rfl rfl rfl (by first | rfl | kernel_rfl)  (by show _ = _; kernel_rfl)
 ·intro w5 hS hF hD K hK
  obtain ⟨(e19 : f 19 = _), -⟩ := hF
  try simp only [e19]
  rw [if_pos (by rfl)]
  exact svC hK rfl rfl rfl rfl (by first | rfl | kernel_rfl)  rfl rfl (hS.2.2.2.2.1) (by kernel_rfl) (fun _ => by kernel_rfl)
 ·intro w5 hS hF hD K hK
  obtain ⟨(e20 : f 20 = _), -⟩ := hF
  try simp only [e20]
  rw [if_pos (by rfl)]
  exact zx (v := .int .i64 ((zO tabs).size : Int)) (by (show _ = _); kernel_rfl) (hK.out _ _ rfl (zq rfl rfl rfl (congrArg (Value.int .i64) HSZ.out)))
 ·intro w5 hS hF hD K hK
  obtain ⟨(e16 : f 16 = _), (e21 : f 21 = _), -⟩ := hF
  try simp only [e16, e21]
  rw [if_pos (by rfl)]
  exact zx (v := .int .i64 (IntKind.i64.wrap (E.off E.ls.length + (tabs.length : Int)))) (by (show _ = _); kernel_rfl) (hK.out _ _ rfl (zq rfl rfl rfl (congrArg (Value.int .i64) HW4.out)))
 ·intro w5 hS hF hD K hK
  obtain ⟨(e22 : f 22 = _), -⟩ := hF
  try simp only [e22]
  rw [if_pos (by rfl)]
  exact svV hK rfl rfl rfl rfl (by first | rfl | kernel_rfl)  (by show _ = _; kernel_rfl)
 ·intro w5 hS hF hD K hK
  obtain ⟨(e4 : f 4 = _), (e23 : f 23 = _), -⟩ := hF
  try simp only [e4, e23]
  rw [if_pos (by rfl)]
  exact zx (v := .int .u16 (IntKind.u16.wrap (E.pl.addr + IntKind.u16.wrap (E.off E.ls.length + (tabs.length : Int))))) (by (show _ = _); kernel_rfl) (hK.out _ _ rfl (zq rfl rfl rfl (congrArg (Value.int .u16) HAX.out)))
 ·intro w5 hS hF hD K hK
  obtain ⟨(e24 : f 24 = _), -⟩ := hF
  try simp only [e24]
  rw [if_pos (by rfl)]
  exact svV hK rfl rfl rfl rfl (by first | rfl | kernel_rfl)  (by show _ = _; kernel_rfl)
 intro w5 hS hF
 obtain ⟨(e25 : f 25 = _), -⟩ := hF
 try simp only [e25]
 refine yN (by kernel_rfl) ?_
 have HH5 := zh (HH.out.stay hS.1)
 have HB5 := zh (HB.out.trans (hS.1.mono HB.out.size))
 have HN5 := zh (zf hS.1 HN.out)
 clear hS e25 zz0 zz1 zz2 hk9 HH HB HN HW3 HW4 HAX HV3 HSZ
 obtain ⟨ax, hax⟩ : ∃ ax, (E.pl.addr + E.off E.ls.length + (tabs.length : Int)) % 65536 = ax := ⟨_, rfl⟩
 rw [hax] at HIN HLE ⊢
 clear hax
 go_upto_region 2 with fail
 have zz1 : w.heap.size < w5.heap.size := (Array.getElem?_eq_some_iff.1 HN5.out).1
 refine ye [] 17 (z5 [isV (.pointer (some ⟨eb, 0, none⟩)), isV (.pointer (some ⟨w.heap.size, 1, none⟩)), isV (.pointer (some ⟨w.heap.size, 2, none⟩)), isV (.int .i64 l.ins.d), isV (.pointer (some ⟨w.heap.size, 11, none⟩)), isV (.slice ta l.tab.length tcp), isV (.int .i64 l.tab.length), isV (.pointer (some ⟨eb, 0, none⟩)), isV (.pointer (some ⟨w.heap.size, 8, none⟩)), isV (.int .i64 l.dest), isV (.int .u16 ((E.pl.addr + E.lab l.dest) % 65536)), isV (.pointer (some ⟨eb, 0, none⟩)), isV (.int .i64 k), isV (.int .u16 ((E.pl.addr + E.off (k + 1)) % 65536)), isV (.int .u16 ((E.lab l.dest - E.off (k + 1)) % 65536)), isV (.int .u16 ax), isV (.agg #[.int .i64 133, .int .i64 l.ins.d, .int .i64 0, .int .u16 ((E.lab l.dest - E.off (k + 1)) % 65536), .int .u16 ax, .int .i64 l.tab.length, .int .i64 0])]) (nth [[0], [1], [2], [3], [4], [5], [6], [7], [8], [9], [10], [11], [12], [13], [14], [15], [16]]) (nth [[], [], [], [], [], [], [], [], [], [], [], [], [], [], [], [], []]) (nth [[], [], [1], [2], [], [4], [5], [], [], [8], [7, 9], [], [], [11, 12], [10, 13], [], [3, 6, 14, 15]]) [0, 16] (yU w5.heap.size w5 w5.heap.size [(w.heap.size, .cells #[.int .i64 (l).label, .int .i64 (l).ins.op, .int .i64 (l).ins.d, .int .i64 (l).ins.s, .int .u16 (l).ins.imm, .int .u16 (l).ins.aux, .int .i64 (l).ins.bank, .int .i64 (l).ins.size, .int .i64 (l).dest, .int .i64 (l).fn, .int .i64 (l).obj, .slice ta (l).tab.length tcp] 58 (0, 0))]) (by kernel_rfl) (by kernel_rfl) (⟨(Below.refl _ _).drew, zn _, zn _, by intro x hx; simp at hx; subst hx; assumption, HN5.out, trivial⟩) (yU.grow) (zG ((za (zc _)  (za (zc _)  (za (zc _)  (za (zc _)  (za (zc _)  (za (zc _)  (za (zc _)  (za (zc _)  (za (zc _)  (za (zc _)  (za (zc _)  (za (zc _)  (za (zc _)  (za (zc _)  (za (zc _)  (za (zc _)  (za (zc _) zy))))))))))))))))))) (fun f F hF => ?_)
 simp only [List.take_succ_cons, List.take_zero, yb, Act.put, zD, zE, zF, Nat.reduceAdd] at hF
 subst hF
 refine ⟨ze ?_ (ze ?_ (ze ?_ (ze ?_ (ze ?_ (ze ?_ (ze ?_ (ze ?_ (ze ?_ (ze ?_ (ze ?_ (ze ?_ (ze ?_ (ze ?_ (ze ?_ (ze ?_ (ze ?_ (yf))))))))))))))))), ?_⟩
 ·intro w6 hS hF hD K hK
  rw [if_pos (by rfl)]
  exact svV hK rfl rfl rfl rfl (by first | rfl | kernel_rfl)  (by show _ = _; kernel_rfl)
 ·intro w6 hS hF hD K hK
  rw [if_pos (by rfl)]
  exact svV hK rfl rfl rfl rfl (by first | rfl | kernel_rfl)  (by show _ = _; kernel_rfl)
 ·intro w6 hS hF hD K hK
  obtain ⟨(e1 : f 1 = _), -⟩ := hF
  try simp only [e1]
  rw [if_pos (by rfl)]
  exact svV hK rfl rfl rfl rfl (by first | rfl | kernel_rfl)  (by show _ = _; kernel_rfl)
 ·intro w6 hS hF hD K hK
  obtain ⟨(e2 : f 2 = _), -⟩ := hF
  try simp only [e2]
  rw [if_pos (by rfl)]
  exact svC hK rfl rfl rfl rfl (by first | rfl | kernel_rfl)  rfl rfl (hS.2.2.2.2.1) (by kernel_rfl) (fun _ => by kernel_rfl)
 ·intro w6 hS hF hD K hK
  rw [if_pos (by rfl)]
  exact svV hK rfl rfl rfl rfl (by first | rfl | kernel_rfl)  (by show _ = _; kernel_rfl)
 ·intro w6 hS hF hD K hK
  obtain ⟨(e4 : f 4 = _), -⟩ := hF
  try simp only [e4]
  rw [if_pos (by rfl)]
  exact svC hK rfl rfl rfl rfl (by first | rfl | kernel_rfl)  rfl rfl (hS.2.2.2.2.1) (by kernel_rfl) (fun _ => by kernel_rfl)
 ·intro w6 hS hF hD K hK
  obtain ⟨(e5 : f 5 = _), -⟩ := hF
  try simp only [e5]
  rw [if_pos (by rfl)]
  exact svV hK rfl rfl rfl rfl (by first | rfl | kernel_rfl)  (by show _ = _; kernel_rfl)
 ·intro w6 hS hF hD K hK
  rw [if_pos (by rfl)]
  exact svV hK rfl rfl rfl rfl (by first | rfl | kernel_rfl)  (by show _ = _; kernel_rfl)
 ·intro w6 hS hF hD K hK
  rw [if_pos (by rfl)]
  exact svV hK rfl rfl rfl rfl (by first | rfl | kernel_rfl)  (by show _ = _; kernel_rfl)
 ·intro w6 hS hF hD K hK
  obtain ⟨(e8 : f 8 = _), -⟩ := hF
  try simp only [e8]
  rw [if_pos (by rfl)]
  exact svC hK rfl rfl rfl rfl (by first | rfl | kernel_rfl)  rfl rfl (hS.2.2.2.2.1) (by kernel_rfl) (fun _ => by kernel_rfl)
 ·intro w6 hS hF hD K hK
  obtain ⟨(e7 : f 7 = _), (e9 : f 9 = _), -⟩ := hF
  try simp only [e7, e9]
  rw [if_pos (by rfl)]
  go_simp
  go_at_call 91; refine (HAD.out _ (HH5.out.stay hS.1)).mono ?_; rintro e w7 ⟨rfl, hbelow⟩; go_simp
  refine hK.out _ _ rfl (zP rfl rfl rfl hbelow ?_)
  first | rfl | kernel_rfl
 ·intro w6 hS hF hD K hK
  rw [if_pos (by rfl)]
  exact svV hK rfl rfl rfl rfl (by first | rfl | kernel_rfl)  (by show _ = _; kernel_rfl)
 ·intro w6 hS hF hD K hK
  rw [if_pos (by rfl)]
  exact svV hK rfl rfl rfl rfl (by first | rfl | kernel_rfl)  (by show _ = _; kernel_rfl)
 ·intro w6 hS hF hD K hK
  obtain ⟨(e11 : f 11 = _), (e12 : f 12 = _), -⟩ := hF
  try simp only [e11, e12]
  rw [if_pos (by rfl)]
  go_simp
  go_at_call 92; refine (HAF.out _ (HH5.out.stay hS.1)).mono ?_; rintro e w7 ⟨rfl, hbelow⟩; go_simp
  refine hK.out _ _ rfl (zP rfl rfl rfl hbelow ?_)
  first | rfl | kernel_rfl
 ·intro w6 hS hF hD K hK
  obtain ⟨(e10 : f 10 = _), (e13 : f 13 = _), -⟩ := hF
  try simp only [e10, e13]
  rw [if_pos (by rfl)]
  exact zx (v := .int .u16 (IntKind.u16.wrap ((E.pl.addr + E.lab l.dest) % 65536 - (E.pl.addr + E.off (k + 1)) % 65536))) (by (show _ = _); kernel_rfl) (hK.out _ _ rfl (zq rfl rfl rfl (congrArg (Value.int .u16) HIM.out)))
 ·intro w6 hS hF hD K hK
  rw [if_pos (by rfl)]
  exact svV hK rfl rfl rfl rfl (by first | rfl | kernel_rfl)  (by show _ = _; kernel_rfl)
 ·intro w6 hS hF hD K hK
  obtain ⟨(e3 : f 3 = _), (e6 : f 6 = _), (e14 : f 14 = _), (e15 : f 15 = _), -⟩ := hF
  try simp only [e3, e6, e14, e15]
  rw [if_pos (by rfl)]
  exact svV hK rfl rfl rfl rfl (by first | rfl | kernel_rfl)  (by show _ = _; kernel_rfl)
 intro w6 hS hF
 obtain ⟨(e0 : f 0 = _), (e16 : f 16 = _), -⟩ := hF
 try simp only [e0, e16]
 simp only [List.drop_succ_cons, List.drop_zero]
 have HH6 := zh (HH5.out.stay hS.1)
 have HB6 := zh (HB5.out.trans (hS.1.mono HB5.out.size))
 have HN6 := zh (zf hS.1 HN5.out)
 clear hS e0 e16 zz1 HH5 HB5 HN5
 go_upto_region 3 with (go_at_call 90; refine (HIN.out _ HH6.out).mono ?_; rintro e w9 ⟨rfl, hp9⟩; have HP9 := zh hp9; clear hp9)
 rw [← HLE.out] at HP9
 obtain ⟨pv9, hh9, ht9, hq9⟩ := HP9.out
 have HN9 := zh (ht9.heap HN6.out (by
  rintro (e | e)
  ·have h8 := HN6.out
   rw [e, HH6.out.blk] at h8; simp at h8
  ·obtain ⟨-, cs, h8⟩ := z7 HH6.out.own _ e
   rw [HN6.out] at h8; simp at h8))
 have HH9 := zh hh9
 have HT9 := zh (show zN (fun x => x = eb ∨ pv.ownBlock = some x) w w9 from (zN.ofBelow HB6.out).trans ht9 (fun _ _ h => h))
 have HQ9 := zh (show ∀ q, pv9.ownBlock = some q → pv.ownBlock = some q ∨ w.heap.size ≤ q from fun q hq => (hq9 q hq).imp id fun h => Nat.le_trans HB6.out.size h)
 clear hh9 ht9 hq9 HP9 HIN HAD HAF HIM HN6
 go_wp2_with fail
 go_loopw [7] (fun i wr => ∃ j : Nat, j ≤ l.tab.length ∧ i = .int .i64 j ∧ Hid (jV w0 E nm (.slice ao E.ls.length cap) eb go lcp cua (code ++ E.lineB k tabs.length l) (tabs ++ (l.tab.take j).flatMap E.cellT) pos pv9 wr) ∧ Hid (zN (fun x => x = eb ∨ pv.ownBlock = some x) w wr) ∧ Hid (wr.heap[w.heap.size]? = some (.cells #[.int .i64 (l).label, .int .i64 (l).ins.op, .int .i64 (l).ins.d, .int .i64 (l).ins.s, .int .u16 (l).ins.imm, .int .u16 (l).ins.aux, .int .i64 (l).ins.bank, .int .i64 (l).ins.size, .int .i64 (l).dest, .int .i64 (l).fn, .int .i64 (l).obj, .slice ta (l).tab.length tcp] 58 (0, 0)))) (fun i _ => l.tab.length - (intOf i).toNat)
 case atStart => exact ⟨0, Nat.zero_le _, rfl, zh (by rw [List.take_zero, List.flatMap_nil, List.append_nil]; exact HH9.out), HT9, HN9⟩
 case round =>
  obtain ⟨j, hj, rfl, HH, HT, HN⟩ := hrel
  clear HH9 HT9 HN9
  have c11 := cell_of_row wr w.heap.size 11 _ _ _ HN.out
  by_cases hlt : j < l.tab.length
  ·obtain ⟨t, ht⟩ : ∃ t, l.tab[j]? = some t := ⟨_, List.getElem?_eq_getElem hlt⟩
   have HTK := zh ht
   obtain ⟨q, off, c, T', fr', rfl, hq, hx⟩ := (HI.out.below HH.out.bb).at ht
   have cq : wr.cell? ⟨q, off + j, none⟩ = some (.int .i64 t) := by rw [Lib.cell_of_heap hq]; exact hx
   obtain ⟨tb, htb⟩ : ∃ tb, tabs ++ (l.tab.take j).flatMap E.cellT = tb := ⟨_, rfl⟩
   have HTB := zh htb
   rw [htb] at HH
   obtain ⟨A, hA⟩ : ∃ A, (E.pl.addr + E.lab t) % 65536 = A := ⟨_, rfl⟩
   have hA0 : 0 ≤ A ∧ A < 65536 := by rw [← hA]; exact ⟨Int.emod_nonneg _ (by omega), Int.emod_lt_of_pos _ (by omega)⟩
   have HAD := zh (HAT.out (code ++ E.lineB k tabs.length l) tb pv9 t (List.mem_of_getElem? ht) wr HH.out)
   rw [hA] at HAD
   have HCT := zh (show E.cellT t = [A % 256, A / 256] by unfold zL.cellT; rw [hA])
   have htbl : tb.length ≤ 10002000 := by
    rw [← htb, List.length_append]
    have h1 : ∀ xs : List Int, (xs.flatMap E.cellT).length = 2 * xs.length := by
     intro xs
     induction xs with
     | nil => rfl
     | cons a xs ih =>
      rw [List.flatMap_cons, List.length_append, ih, List.length_cons]
      show 2 + 2 * xs.length = _
      omega
    rw [h1, List.length_take]
    omega
   obtain ⟨hA1, hA2⟩ := hA0
   clear hq hx ht htb hA
   go_upto_region 7 with (go_at_call 91; refine (HAD.out).mono ?_; rintro e w3 ⟨rfl, hb3⟩)
   have HH3 := zh (HH.out.stay hb3)
   have HT3 := zh (HT.out.trans (zN.ofBelow (bs := fun _ => False) hb3) (fun _ _ h => h.elim))
   have HN3 := zh (zf hb3 HN.out)
   clear hb3 cq c11 HH HT HN HAD
   have hd1 : A.tdiv 256 = A / 256 := Int.tdiv_eq_ediv_of_nonneg hA1
   have hd2 : IntKind.u16.wrap (A / 256) = A / 256 := IntWalk.u16_in _ (by omega)
   have hd3 : IntKind.u8.wrap (A / 256) = A / 256 := IntWalk.u8_in _ (by omega)
   have zz0 : eb < w3.heap.size := (Array.getElem?_eq_some_iff.1 HH3.out.blk).1
   have HCZ := zh (show ¬ 9223372036854775807 < (zO tb).size + (zO [A % 256, A / 256]).size by rw [yo, yo]; simp; omega)
   have HSA := zh (strOf_app tb [A % 256, A / 256])
   refine ye [] 13 (z5 [isV (.pointer (some ⟨eb, 0, none⟩)), isV (.pointer (some ⟨eb, 0, none⟩)), isV (.pointer (some ⟨eb, 0, none⟩)), isV (.pointer (some ⟨eb, 6, none⟩)), isV (.string (zO tb)), isV (.int .u16 A), isV (.int .u8 (A % 256)), isV (.int .u16 A), isV ((.int .u16 (A / 256))), isV ((.int .u8 (A / 256))), newS (w3.heap.size) (.cells #[.int .u8 (A % 256), .int .u8 (A / 256)] 5 (0, 0)) 2, isV (.string (zO [A % 256, A / 256])), isV (.string (zO (tb ++ [A % 256, A / 256])))]) (nth [[0], [1], [2], [3], [4], [5], [6], [7], [8], [9], [10], [11], [12]]) (nth [[], [], [], [], [], [], [], [], [], [], [], [], []]) (nth [[], [], [1], [2], [3], [], [5], [], [7], [8], [6, 9], [10], [4, 11]]) [0, 12] (yU w3.heap.size w3 w3.heap.size [(eb, .cells #[.string nm, .slice ao E.ls.length cap, .int .i64 E.pl.bank, .int .u16 E.pl.addr, .slice (some ⟨go, 0, none⟩) (E.ls.length + 1) lcp, .string (zO (code ++ E.lineB k tabs.length l)), .string (zO tb), pv9] 127 (0, 0))]) (by kernel_rfl) (by kernel_rfl) (⟨(Below.refl _ _).drew, zn _, zn _, by intro x hx; simp at hx; subst hx; assumption, HH3.out.blk, trivial⟩) (yU.grow) (zG ((za (zc _)  (za (zc _)  (za (zc _)  (za (zc _)  (za (zc _)  (za (zc _)  (za (zc _)  (za (zc _)  (za (zc _)  (za (zc _)  (za (yZ _ _ _)  (za (zc _)  (za (zc _) zy))))))))))))))) (fun f F hF => ?_)
   simp only [List.take_succ_cons, List.take_zero, yb, Act.put, zD, zE, zF, Nat.reduceAdd] at hF
   subst hF
   refine ⟨ze ?_ (ze ?_ (ze ?_ (ze ?_ (ze ?_ (ze ?_ (ze ?_ (ze ?_ (ze ?_ (ze ?_ (ze ?_ (ze ?_ (ze ?_ (yf))))))))))))), ?_⟩
   ·intro w5 hS hF hD K hK
    rw [if_pos (by rfl)]
    exact svV hK rfl rfl rfl rfl (by first | rfl | kernel_rfl)  (by show _ = _; kernel_rfl)
   ·intro w5 hS hF hD K hK
    rw [if_pos (by rfl)]
    exact svV hK rfl rfl rfl rfl (by first | rfl | kernel_rfl)  (by show _ = _; kernel_rfl)
   ·intro w5 hS hF hD K hK
    obtain ⟨(e1 : f 1 = _), -⟩ := hF
    try simp only [e1]
    rw [if_pos (by rfl)]
    exact svV hK rfl rfl rfl rfl (by first | rfl | kernel_rfl)  (by show _ = _; kernel_rfl)
   ·intro w5 hS hF hD K hK
    obtain ⟨(e2 : f 2 = _), -⟩ := hF
    try simp only [e2]
    rw [if_pos (by rfl)]
    exact svV hK rfl rfl rfl rfl (by first | rfl | kernel_rfl)  (by show _ = _; kernel_rfl)
   ·intro w5 hS hF hD K hK
    obtain ⟨(e3 : f 3 = _), -⟩ := hF
    try simp only [e3]
    rw [if_pos (by rfl)]
    exact svC hK rfl rfl rfl rfl (by first | rfl | kernel_rfl)  rfl rfl (hS.2.2.2.2.1) (by kernel_rfl) (fun _ => by kernel_rfl)
   ·intro w5 hS hF hD K hK
    rw [if_pos (by rfl)]
    exact svV hK rfl rfl rfl rfl (by first | rfl | kernel_rfl)  (by show _ = _; kernel_rfl)
   ·intro w5 hS hF hD K hK
    obtain ⟨(e5 : f 5 = _), -⟩ := hF
    try simp only [e5]
    rw [if_pos (by rfl)]
    exact svV hK rfl rfl rfl rfl (by first | rfl | kernel_rfl)  (by show _ = _; kernel_rfl)
   ·intro w5 hS hF hD K hK
    rw [if_pos (by rfl)]
    exact svV hK rfl rfl rfl rfl (by first | rfl | kernel_rfl)  (by show _ = _; kernel_rfl)
   ·intro w5 hS hF hD K hK
    obtain ⟨(e7 : f 7 = _), -⟩ := hF
    try simp only [e7]
    rw [if_pos (by rfl)]
    go_simp
    refine hK.out _ _ rfl (zq rfl rfl rfl ?_)
    first | rfl | kernel_rfl
   ·intro w5 hS hF hD K hK
    obtain ⟨(e8 : f 8 = _), -⟩ := hF
    try simp only [e8]
    rw [if_pos (by rfl)]
    go_simp
    refine hK.out _ _ rfl (zq rfl rfl rfl ?_)
    first | rfl | kernel_rfl
   ·intro w5 hS hF hD K hK
    obtain ⟨(e6 : f 6 = _), (e9 : f 9 = _), -⟩ := hF
    try simp only [e6, e9]
    rw [if_pos (by rfl)]
    go_simp
    refine hK.out _ _ rfl (y0 rfl rfl rfl hS.2.2.1 ?_)
    first | rfl | kernel_rfl
   ·intro w5 hS hF hD K hK
    obtain ⟨e10, -⟩ := hF
    obtain ⟨g10, e10, hB10, hg10⟩ := e10
    replace e10 : f 10 = _ := e10
    try simp only [e10]
    rw [if_pos (by rfl)]
    exact zx (exec_convert _ _ _ rfl _ _ rfl (conv_at w5 g10 (A % 256) (A / 256) hg10)) (hK.out _ _ rfl (zq rfl rfl rfl rfl))
   ·intro w5 hS hF hD K hK
    obtain ⟨(e4 : f 4 = _), (e11 : f 11 = _), -⟩ := hF
    try simp only [e4, e11]
    rw [if_pos (by rfl)]
    go_simp; rw [if_neg HCZ.out]; go_simp; refine hK.out _ _ rfl (zq rfl rfl rfl ?_); exact congrArg Value.string HSA.out
   intro w5 hS hF
   obtain ⟨(e0 : f 0 = _), (e12 : f 12 = _), -⟩ := hF
   try simp only [e0, e12]
   simp only [List.drop_succ_cons, List.drop_zero]
   have HH5 := zh (HH3.out.stay hS.1)
   have HT5 := zh (HT3.out.trans (zN.ofBelow (bs := fun _ => False) hS.1) (fun _ _ h => h.elim))
   have HN5 := zh (zf hS.1 HN3.out)
   clear hS e0 e12 zz0 hd1 hd2 hd3 HCZ HSA
   have c6 := cell_of_row w5 eb 6 _ _ _ HH5.out.blk
   have f6 : w5.frozen? ⟨eb, 6, none⟩ = false := frozen_of_row w5 eb 6 _ _ HH5.out.blk
   have hne : w.heap.size ≠ eb := fun e => by
    have h8 := HN5.out
    rw [e, HH5.out.blk] at h8; simp at h8
   have HNE := zh hne
   clear hne
   go_wp2_with fail
   go_roundw
   case rel =>
    refine ⟨j + 1, by omega, by go_num, zh ?_, zh (HT5.out.setCell _ fun _ => .inl rfl), zh ((jU HNE.out _).trans HN5.out)⟩
    have e : tabs ++ (l.tab.take (j + 1)).flatMap E.cellT = tb ++ [A % 256, A / 256] := by
     rw [xS HTK.out, List.flatMap_append, ← List.append_assoc, HTB.out, List.flatMap_singleton, HCT.out]
    rw [e]
    exact HH5.out.setT _
   case measure => simp [intOf]; omega
  ·have hke : j = l.tab.length := by omega
   subst hke
   rw [List.take_length, ← HTE.out] at HH
   clear hlt hj
   go_wp2_with fail
   go_end0
   exact ⟨rfl, pv9, HH.out, HT.out, HQ9.out⟩
end
end Go.Proofs.Ythebmoggbgldmaa
