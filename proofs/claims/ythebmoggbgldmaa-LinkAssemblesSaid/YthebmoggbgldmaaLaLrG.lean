/- The reference of chapter 19: the encoder's address, after, ins. The conditions: the encoder's block and the offsets. -/
import Derived.Test.YthebmoggbgldmaaLaLkR
import Derived.Test.YthebmoggbgldmaaLaREncB
import Derived.Test.YthebmoggbgldmaaLaLrFx
set_option linter.all false
namespace Go.Proofs.Ythebmoggbgldmaa
open Go Go.RowKit Go.Maps
structure jV (w0 : World) (E : zL) (nm : ByteArray) (lv : Value) (eb go lcp : Nat) (cua : Array Value) (code tabs pos : List Int) (pv : Value) (W : World) : Prop where
 bb : Below w0.heap.size w0 W
 blk : W.heap[eb]? = some (.cells #[.string nm, lv, .int .i64 E.pl.bank, .int .u16 E.pl.addr, .slice (some ⟨go, 0, none⟩) (E.ls.length + 1) lcp, .string (zO code), .string (zO tabs), pv] 127 (0, 0))
 gos : W.heap[go]? = some (.cells cua 3 (0, 0))
 own : W.ownsRow 0 3 1 pv pos.length (pos.map (Value.int .i64))
 pg : pv.ownBlock ≠ some go
 cu : ∀ k, k ≤ E.ls.length → cua[k]? = some (.int .i64 (E.off k))
 eb0 : w0.heap.size ≤ eb
 pr : ∀ q, pv.ownBlock = some q → w0.heap.size ≤ q
section
variable {w0 : World} {E : zL} {nm : ByteArray} {lv : Value} {eb go lcp : Nat} {cua : Array Value} {code tabs pos : List Int} {pv : Value} {W W' : World}
theorem jV.stay (h : jV w0 E nm lv eb go lcp cua code tabs pos pv W) (hb : Below W.heap.size W W') : jV w0 E nm lv eb go lcp cua code tabs pos pv W' :=
 ⟨h.bb.trans (hb.mono h.bb.size), zf hb h.blk, zf hb h.gos, zZ h.own (zN.ofBelow (bs := fun _ => False) hb) fun _ _ h => h, h.pg, h.cu, h.eb0, h.pr⟩
theorem jV.pe (h : jV w0 E nm lv eb go lcp cua code tabs pos pv W) : pv.ownBlock ≠ some eb := fun e => by
 obtain ⟨-, cs, h8⟩ := z7 h.own _ e
 rw [h.blk] at h8; simp at h8
theorem jV.ge (h : jV w0 E nm lv eb go lcp cua code tabs pos pv W) : go ≠ eb := fun e => by
 have h8 := h.gos
 rw [e, h.blk] at h8; simp at h8
theorem jV.setC (h : jV w0 E nm lv eb go lcp cua code tabs pos pv W) (code' : List Int) : jV w0 E nm lv eb go lcp cua code' tabs pos pv (W.setCell ⟨eb, 5, none⟩ (.string (zO code'))) :=
 ⟨h.bb.trans ((zN.setCell (zN.refl (fun y => y = eb) W) _ fun _ => rfl).toBelow h.bb.size fun k hk => by rw [hk]; exact h.eb0), zW h.blk _, (jU h.ge _).trans h.gos,
  zZ h.own (zN.setCell (zN.refl (fun y => y = eb) W) _ fun _ => rfl) (fun q hq e => h.pe (by rw [← e]; exact hq)), h.pg, h.cu, h.eb0, h.pr⟩
theorem jV.setT (h : jV w0 E nm lv eb go lcp cua code tabs pos pv W) (tabs' : List Int) : jV w0 E nm lv eb go lcp cua code tabs' pos pv (W.setCell ⟨eb, 6, none⟩ (.string (zO tabs'))) :=
 ⟨h.bb.trans ((zN.setCell (zN.refl (fun y => y = eb) W) _ fun _ => rfl).toBelow h.bb.size fun k hk => by rw [hk]; exact h.eb0), zW h.blk _, (jU h.ge _).trans h.gos,
  zZ h.own (zN.setCell (zN.refl (fun y => y = eb) W) _ fun _ => rfl) (fun q hq e => h.pe (by rw [← e]; exact hq)), h.pg, h.cu, h.eb0, h.pr⟩
end
def EnPost (w0 : World) (E : zL) (nm : ByteArray) (lv : Value) (eb go lcp : Nat) (cua : Array Value) (code tabs pos : List Int) (pv0 : Value) (w : World) (e : Ending) (w' : World) : Prop :=
 e = .returned (.tuple #[]) ∧ ∃ pv', jV w0 E nm lv eb go lcp cua code tabs pos pv' w' ∧ zN (fun x => x = eb ∨ pv0.ownBlock = some x) w w' ∧ ∀ q, pv'.ownBlock = some q → pv0.ownBlock = some q ∨ w.heap.size ≤ q
section
variable (w0 : World) (E : zL) (hE : E.Ok) (nm : ByteArray) (ao : Option Addr) (cap eb go lcp : Nat) (cua : Array Value) (code tabs pos : List Int) (pv : Value) (hL : yJ w0 (.slice ao E.ls.length cap) E.ls)
include hE hL
set_option maxRecDepth 100000 in
set_option maxHeartbeats 2000000 in
theorem raddress_any (hLB : LabsOk E.ls) (n : Int) (hlab : (yI E.ls n).isSome = true) (w : World) (h : jV w0 E nm (.slice ao E.ls.length cap) eb go lcp cua code tabs pos pv w) :
  Calls Try.prog 91 #[.pointer (some ⟨eb, 0, none⟩), .int .i64 n] w fun e w' => e = .returned (.int .u16 ((E.pl.addr + E.lab n) % 65536)) ∧ Below w.heap.size w w' := by
 have hlen := hE.len
 obtain ⟨jd, hjd⟩ := Option.isSome_iff_exists.1 hlab
 have hjl : jd < E.ls.length := (labF_lt hjd).1
 have HLB := zh (fun W (hW : Below w0.heap.size w0 W) => by have := rlabel_any nm E.ls hlen ao cap n W (hL.below hW); rw [rlab_of_labs hLB, hjd] at this; exact this)
 have HLN := zh (show E.lab n = E.off jd by unfold zL.lab labN; rw [hjd]; rfl)
 have HV := zh (h.cu jd (by omega))
 have HH := zh h
 have HU := zh (u16_addr E.pl.addr (E.off jd))
 have hj2 : (jd : Int) < (E.ls.length : Int) + 1 := by omega
 have zz0 : eb < w.heap.size := (Array.getElem?_eq_some_iff.1 h.blk).1
 have zz1 : go < w.heap.size := (Array.getElem?_eq_some_iff.1 h.gos).1
 rw [HLN.out]
 clear hjd hlab h hLB
 go_enter Try.func91, Try.ntmps91
 go_upto_region 1 with fail
 refine zV [] 20 (z5 [isV (.pointer (some ⟨eb, 0, none⟩)), isV (.pointer (some ⟨eb, 0, none⟩)), isV (.pointer (some ⟨eb, 2, none⟩)), isV (.pointer (some ⟨eb, 3, none⟩)), isV (.int .u16 E.pl.addr), isV (.pointer (some ⟨eb, 0, none⟩)), isV (.pointer (some ⟨eb, 0, none⟩)), isV (.pointer (some ⟨eb, 4, none⟩)), isV (.slice (some ⟨go, 0, none⟩) (E.ls.length + 1) lcp), isV (.pointer (some ⟨eb, 0, none⟩)), isV (.pointer (some ⟨eb, 0, none⟩)), isV (.pointer (some ⟨eb, 0, none⟩)), isV (.agg (#[.string nm, .slice ao E.ls.length cap])), isV (.int .i64 n), isV (.int .i64 jd), isV ((.pointer (some ⟨go, jd, none⟩))), isV ((.int .i64 (E.off jd))), isV (.int .u16 (IntKind.u16.wrap (E.off jd))), isV (.int .u16 ((E.pl.addr + E.off jd) % 65536)), isV (.int .u16 ((E.pl.addr + E.off jd) % 65536))]) (nth [[0], [1], [2], [3], [4], [5], [6], [7], [8], [9], [10], [11], [12], [13], [14], [15], [16], [17], [18], [19]]) (nth [[], [], [], [], [], [], [], [], [], [], [], [], [], [], [], [], [], [], [], []]) (nth [[], [0], [1], [2], [3], [], [5], [6], [7], [], [9], [10], [11], [], [12, 13], [8, 14], [15], [16], [4, 17], [18]]) [19] (yU w.heap.size w w.heap.size [(eb, .cells #[.string nm, .slice ao E.ls.length cap, .int .i64 E.pl.bank, .int .u16 E.pl.addr, .slice (some ⟨go, 0, none⟩) (E.ls.length + 1) lcp, .string (zO code), .string (zO tabs), pv] 127 (0, 0)), (go, .cells cua 3 (0, 0))]) (by kernel_rfl) (by kernel_rfl) (⟨(Below.refl _ _).drew, zn _, zn _, by intro x hx; simp at hx; rcases hx with rfl | rfl <;> assumption, HH.out.blk, HH.out.gos, trivial⟩) (yU.grow) (zG ((za (zc _)  (za (zc _)  (za (zc _)  (za (zc _)  (za (zc _)  (za (zc _)  (za (zc _)  (za (zc _)  (za (zc _)  (za (zc _)  (za (zc _)  (za (zc _)  (za (zc _)  (za (zc _)  (za (zc _)  (za (zc _)  (za (zc _)  (za (zc _)  (za (zc _)  (za (zc _) zy)))))))))))))))))))))) (fun f F hF => ?_)
 simp only [List.take_succ_cons, List.take_zero, yb, Act.put, zD, zE, zF, Nat.reduceAdd] at hF
 subst hF
 refine ⟨zd ?_ (zd ?_ (zd ?_ (zd ?_ (zd ?_ (zd ?_ (zd ?_ (zd ?_ (zd ?_ (zd ?_ (zd ?_ (zd ?_ (zd ?_ (zd ?_ (zd ?_ (zd ?_ (zd ?_ (zd ?_ (zd ?_ (zd ?_ (yd)))))))))))))))))))), ?_⟩
 ·intro w5 hS hF hD K hK
  rw [if_pos (by rfl)]
  exact svV hK rfl rfl rfl rfl (by first | rfl | kernel_rfl)  (by show _ = _; kernel_rfl)
 ·intro w5 hS hF hD K hK
  obtain ⟨(e0 : f 0 = _), -⟩ := hF
  try simp only [e0]
  rw [if_pos (by rfl)]
  exact svV hK rfl rfl rfl rfl (by first | rfl | kernel_rfl)  (by show _ = _; kernel_rfl)
 ·intro w5 hS hF hD K hK
  obtain ⟨(e1 : f 1 = _), -⟩ := hF
  try simp only [e1]
  rw [if_pos (by rfl)]
  exact svV hK rfl rfl rfl rfl (by first | rfl | kernel_rfl)  (by show _ = _; kernel_rfl)
 ·intro w5 hS hF hD K hK
  obtain ⟨(e2 : f 2 = _), -⟩ := hF
  try simp only [e2]
  rw [if_pos (by rfl)]
  exact svV hK rfl rfl rfl rfl (by first | rfl | kernel_rfl)  (by show _ = _; kernel_rfl)
 ·intro w5 hS hF hD K hK
  obtain ⟨(e3 : f 3 = _), -⟩ := hF
  try simp only [e3]
  rw [if_pos (by rfl)]
  exact svC hK rfl rfl rfl rfl (by first | rfl | kernel_rfl)  rfl rfl (hS.2.2.2.2.1) (by kernel_rfl) (fun _ => by kernel_rfl)
 ·intro w5 hS hF hD K hK
  rw [if_pos (by rfl)]
  exact svV hK rfl rfl rfl rfl (by first | rfl | kernel_rfl)  (by show _ = _; kernel_rfl)
 ·intro w5 hS hF hD K hK
  obtain ⟨(e5 : f 5 = _), -⟩ := hF
  try simp only [e5]
  rw [if_pos (by rfl)]
  exact svV hK rfl rfl rfl rfl (by first | rfl | kernel_rfl)  (by show _ = _; kernel_rfl)
 ·intro w5 hS hF hD K hK
  obtain ⟨(e6 : f 6 = _), -⟩ := hF
  try simp only [e6]
  rw [if_pos (by rfl)]
  exact svV hK rfl rfl rfl rfl (by first | rfl | kernel_rfl)  (by show _ = _; kernel_rfl)
 ·intro w5 hS hF hD K hK
  obtain ⟨(e7 : f 7 = _), -⟩ := hF
  try simp only [e7]
  rw [if_pos (by rfl)]
  exact svC hK rfl rfl rfl rfl (by first | rfl | kernel_rfl)  rfl rfl (hS.2.2.2.2.1) (by kernel_rfl) (fun _ => by kernel_rfl)
 ·intro w5 hS hF hD K hK
  rw [if_pos (by rfl)]
  exact svV hK rfl rfl rfl rfl (by first | rfl | kernel_rfl)  (by show _ = _; kernel_rfl)
 ·intro w5 hS hF hD K hK
  obtain ⟨(e9 : f 9 = _), -⟩ := hF
  try simp only [e9]
  rw [if_pos (by rfl)]
  exact svV hK rfl rfl rfl rfl (by first | rfl | kernel_rfl)  (by show _ = _; kernel_rfl)
 ·intro w5 hS hF hD K hK
  obtain ⟨(e10 : f 10 = _), -⟩ := hF
  try simp only [e10]
  rw [if_pos (by rfl)]
  exact svV hK rfl rfl rfl rfl (by first | rfl | kernel_rfl)  (by show _ = _; kernel_rfl)
 ·intro w5 hS hF hD K hK
  obtain ⟨(e11 : f 11 = _), -⟩ := hF
  try simp only [e11]
  rw [if_pos (by rfl)]
  exact svV hK rfl rfl rfl rfl (by first | rfl | kernel_rfl)  (xd _ _ rfl _ _ rfl _ _ _ (hS.2.2.2.2.1) (#[.string nm, .slice ao E.ls.length cap]).toList (by kernel_rfl) (by kernel_rfl))
 ·intro w5 hS hF hD K hK
  rw [if_pos (by rfl)]
  exact svV hK rfl rfl rfl rfl (by first | rfl | kernel_rfl)  (by show _ = _; kernel_rfl)
 ·intro w5 hS hF hD K hK
  obtain ⟨(e12 : f 12 = _), (e13 : f 13 = _), -⟩ := hF
  try simp only [e12, e13]
  rw [if_pos (by rfl)]
  go_simp
  go_at_call 71; refine (HLB.out _ (HH.out.bb.trans (hS.1.mono HH.out.bb.size))).mono ?_; rintro e w6 ⟨rfl, hbelow⟩; go_simp
  refine hK.out _ _ rfl (zP rfl rfl rfl hbelow ?_)
  first | rfl | kernel_rfl
 ·intro w5 hS hF hD K hK
  obtain ⟨(e8 : f 8 = _), (e14 : f 14 = _), -⟩ := hF
  try simp only [e8, e14]
  rw [if_pos (by rfl)]
  go_simp
  refine hK.out _ _ rfl (zq rfl rfl rfl ?_)
  first | rfl | kernel_rfl
 ·intro w5 hS hF hD K hK
  obtain ⟨(e15 : f 15 = _), -⟩ := hF
  try simp only [e15]
  rw [if_pos (by rfl)]
  exact svC hK rfl rfl rfl rfl (by first | rfl | kernel_rfl)  rfl rfl (hS.2.2.2.2.2.1) (HV.out) (fun _ => by kernel_rfl)
 ·intro w5 hS hF hD K hK
  obtain ⟨(e16 : f 16 = _), -⟩ := hF
  try simp only [e16]
  rw [if_pos (by rfl)]
  exact svV hK rfl rfl rfl rfl (by first | rfl | kernel_rfl)  (by show _ = _; kernel_rfl)
 ·intro w5 hS hF hD K hK
  obtain ⟨(e4 : f 4 = _), (e17 : f 17 = _), -⟩ := hF
  try simp only [e4, e17]
  rw [if_pos (by rfl)]
  exact zx (v := .int .u16 (IntKind.u16.wrap (E.pl.addr + IntKind.u16.wrap (E.off jd)))) (by (show _ = _); kernel_rfl) (hK.out _ _ rfl (zq rfl rfl rfl (congrArg (Value.int .u16) HU.out)))
 ·intro w5 hS hF hD K hK
  obtain ⟨(e18 : f 18 = _), -⟩ := hF
  try simp only [e18]
  rw [if_pos (by rfl)]
  exact svV hK rfl rfl rfl rfl (by first | rfl | kernel_rfl)  (by show _ = _; kernel_rfl)
 intro w5 hS hF
 obtain ⟨(e19 : f 19 = _), -⟩ := hF
 try simp only [e19]
 refine yN (by kernel_rfl) ?_
 have HB := zh hS.1
 clear hS
 go_wp2_with fail
 go_ret
 exact ⟨rfl, HB.out⟩
set_option maxRecDepth 100000 in
set_option maxHeartbeats 2000000 in
theorem rafter_any (k : Nat) (hk : k < E.ls.length) (w : World) (h : jV w0 E nm (.slice ao E.ls.length cap) eb go lcp cua code tabs pos pv w) :
  Calls Try.prog 92 #[.pointer (some ⟨eb, 0, none⟩), .int .i64 k] w fun e w' => e = .returned (.int .u16 ((E.pl.addr + E.off (k + 1)) % 65536)) ∧ Below w.heap.size w w' := by
 have hlen := hE.len
 have HV := zh (h.cu (k + 1) hk)
 have HH := zh h
 have HU := zh (u16_addr E.pl.addr (E.off (k + 1)))
 have HK1 := zh (show IntKind.i64.wrap ((k : Int) + 1) = (k : Int) + 1 from IntWalk.i64_in _ (by omega))
 have hj2 : (k : Int) + 1 < (E.ls.length : Int) + 1 := by omega
 have zz0 : eb < w.heap.size := (Array.getElem?_eq_some_iff.1 h.blk).1
 have zz1 : go < w.heap.size := (Array.getElem?_eq_some_iff.1 h.gos).1
 clear h
 go_enter Try.func92, Try.ntmps92
 go_upto_region 1 with fail
 refine zV [] 16 (z5 [isV (.pointer (some ⟨eb, 0, none⟩)), isV (.pointer (some ⟨eb, 0, none⟩)), isV (.pointer (some ⟨eb, 2, none⟩)), isV (.pointer (some ⟨eb, 3, none⟩)), isV (.int .u16 E.pl.addr), isV (.pointer (some ⟨eb, 0, none⟩)), isV (.pointer (some ⟨eb, 0, none⟩)), isV (.pointer (some ⟨eb, 4, none⟩)), isV (.slice (some ⟨go, 0, none⟩) (E.ls.length + 1) lcp), isV (.int .i64 k), isV (.int .i64 (k + 1)), isV ((.pointer (some ⟨go, k + 1, none⟩))), isV ((.int .i64 (E.off (k + 1)))), isV (.int .u16 (IntKind.u16.wrap (E.off (k + 1)))), isV (.int .u16 ((E.pl.addr + E.off (k + 1)) % 65536)), isV (.int .u16 ((E.pl.addr + E.off (k + 1)) % 65536))]) (nth [[0], [1], [2], [3], [4], [5], [6], [7], [8], [9], [10], [11], [12], [13], [14], [15]]) (nth [[], [], [], [], [], [], [], [], [], [], [], [], [], [], [], []]) (nth [[], [0], [1], [2], [3], [], [5], [6], [7], [], [9], [8, 10], [11], [12], [4, 13], [14]]) [15] (yU w.heap.size w w.heap.size [(eb, .cells #[.string nm, .slice ao E.ls.length cap, .int .i64 E.pl.bank, .int .u16 E.pl.addr, .slice (some ⟨go, 0, none⟩) (E.ls.length + 1) lcp, .string (zO code), .string (zO tabs), pv] 127 (0, 0)), (go, .cells cua 3 (0, 0))]) (by kernel_rfl) (by kernel_rfl) (⟨(Below.refl _ _).drew, zn _, zn _, by intro x hx; simp at hx; rcases hx with rfl | rfl <;> assumption, HH.out.blk, HH.out.gos, trivial⟩) (yU.grow) (zG ((za (zc _)  (za (zc _)  (za (zc _)  (za (zc _)  (za (zc _)  (za (zc _)  (za (zc _)  (za (zc _)  (za (zc _)  (za (zc _)  (za (zc _)  (za (zc _)  (za (zc _)  (za (zc _)  (za (zc _)  (za (zc _) zy)))))))))))))))))) (fun f F hF => ?_)
 simp only [List.take_succ_cons, List.take_zero, yb, Act.put, zD, zE, zF, Nat.reduceAdd] at hF
 subst hF
 refine ⟨zd ?_ (zd ?_ (zd ?_ (zd ?_ (zd ?_ (zd ?_ (zd ?_ (zd ?_ (zd ?_ (zd ?_ (zd ?_ (zd ?_ (zd ?_ (zd ?_ (zd ?_ (zd ?_ (yd)))))))))))))))), ?_⟩
 ·intro w5 hS hF hD K hK
  rw [if_pos (by rfl)]
  exact svV hK rfl rfl rfl rfl (by first | rfl | kernel_rfl)  (by show _ = _; kernel_rfl)
 ·intro w5 hS hF hD K hK
  obtain ⟨(e0 : f 0 = _), -⟩ := hF
  try simp only [e0]
  rw [if_pos (by rfl)]
  exact svV hK rfl rfl rfl rfl (by first | rfl | kernel_rfl)  (by show _ = _; kernel_rfl)
 ·intro w5 hS hF hD K hK
  obtain ⟨(e1 : f 1 = _), -⟩ := hF
  try simp only [e1]
  rw [if_pos (by rfl)]
  exact svV hK rfl rfl rfl rfl (by first | rfl | kernel_rfl)  (by show _ = _; kernel_rfl)
 ·intro w5 hS hF hD K hK
  obtain ⟨(e2 : f 2 = _), -⟩ := hF
  try simp only [e2]
  rw [if_pos (by rfl)]
  exact svV hK rfl rfl rfl rfl (by first | rfl | kernel_rfl)  (by show _ = _; kernel_rfl)
 ·intro w5 hS hF hD K hK
  obtain ⟨(e3 : f 3 = _), -⟩ := hF
  try simp only [e3]
  rw [if_pos (by rfl)]
  exact svC hK rfl rfl rfl rfl (by first | rfl | kernel_rfl)  rfl rfl (hS.2.2.2.2.1) (by kernel_rfl) (fun _ => by kernel_rfl)
 ·intro w5 hS hF hD K hK
  rw [if_pos (by rfl)]
  exact svV hK rfl rfl rfl rfl (by first | rfl | kernel_rfl)  (by show _ = _; kernel_rfl)
 ·intro w5 hS hF hD K hK
  obtain ⟨(e5 : f 5 = _), -⟩ := hF
  try simp only [e5]
  rw [if_pos (by rfl)]
  exact svV hK rfl rfl rfl rfl (by first | rfl | kernel_rfl)  (by show _ = _; kernel_rfl)
 ·intro w5 hS hF hD K hK
  obtain ⟨(e6 : f 6 = _), -⟩ := hF
  try simp only [e6]
  rw [if_pos (by rfl)]
  exact svV hK rfl rfl rfl rfl (by first | rfl | kernel_rfl)  (by show _ = _; kernel_rfl)
 ·intro w5 hS hF hD K hK
  obtain ⟨(e7 : f 7 = _), -⟩ := hF
  try simp only [e7]
  rw [if_pos (by rfl)]
  exact svC hK rfl rfl rfl rfl (by first | rfl | kernel_rfl)  rfl rfl (hS.2.2.2.2.1) (by kernel_rfl) (fun _ => by kernel_rfl)
 ·intro w5 hS hF hD K hK
  rw [if_pos (by rfl)]
  exact svV hK rfl rfl rfl rfl (by first | rfl | kernel_rfl)  (by show _ = _; kernel_rfl)
 ·intro w5 hS hF hD K hK
  obtain ⟨(e9 : f 9 = _), -⟩ := hF
  try simp only [e9]
  rw [if_pos (by rfl)]
  exact zx (v := .int .i64 (IntKind.i64.wrap ((k : Int) + 1))) (by (show _ = _); kernel_rfl) (hK.out _ _ rfl (zq rfl rfl rfl (congrArg (Value.int .i64) HK1.out)))
 ·intro w5 hS hF hD K hK
  obtain ⟨(e8 : f 8 = _), (e10 : f 10 = _), -⟩ := hF
  try simp only [e8, e10]
  rw [if_pos (by rfl)]
  go_simp
  refine hK.out _ _ rfl (zq rfl rfl rfl ?_)
  first | rfl | kernel_rfl
 ·intro w5 hS hF hD K hK
  obtain ⟨(e11 : f 11 = _), -⟩ := hF
  try simp only [e11]
  rw [if_pos (by rfl)]
  exact svC hK rfl rfl rfl rfl (by first | rfl | kernel_rfl)  rfl rfl (hS.2.2.2.2.2.1) (HV.out) (fun _ => by kernel_rfl)
 ·intro w5 hS hF hD K hK
  obtain ⟨(e12 : f 12 = _), -⟩ := hF
  try simp only [e12]
  rw [if_pos (by rfl)]
  exact svV hK rfl rfl rfl rfl (by first | rfl | kernel_rfl)  (by show _ = _; kernel_rfl)
 ·intro w5 hS hF hD K hK
  obtain ⟨(e4 : f 4 = _), (e13 : f 13 = _), -⟩ := hF
  try simp only [e4, e13]
  rw [if_pos (by rfl)]
  exact zx (v := .int .u16 (IntKind.u16.wrap (E.pl.addr + IntKind.u16.wrap (E.off (k + 1))))) (by (show _ = _); kernel_rfl) (hK.out _ _ rfl (zq rfl rfl rfl (congrArg (Value.int .u16) HU.out)))
 ·intro w5 hS hF hD K hK
  obtain ⟨(e14 : f 14 = _), -⟩ := hF
  try simp only [e14]
  rw [if_pos (by rfl)]
  exact svV hK rfl rfl rfl rfl (by first | rfl | kernel_rfl)  (by show _ = _; kernel_rfl)
 intro w5 hS hF
 obtain ⟨(e15 : f 15 = _), -⟩ := hF
 try simp only [e15]
 refine yN (by kernel_rfl) ?_
 have HB := zh hS.1
 clear hS
 go_wp2_with fail
 go_ret
 exact ⟨rfl, HB.out⟩
omit hE hL in
set_option maxRecDepth 100000 in
set_option maxHeartbeats 2000000 in
theorem rins_any (i : Ins) (hi : (z6 i).Ok) (lv : Value) (hcl : code.length ≤ 1000000) (w : World) (h : jV w0 E nm lv eb go lcp cua code tabs pos pv w) :
  Calls Try.prog 90 #[.pointer (some ⟨eb, 0, none⟩), .agg (zt i)] w (EnPost w0 E nm lv eb go lcp cua (code ++ xl (z6 i)) tabs pos pv w) := by
 obtain ⟨op, d, s, imm, aux, bank, size⟩ := i
 have HSD := zh (show ∀ V, Calls Try.prog 72 #[.agg #[.int .i64 op, .int .i64 d, .int .i64 s, .int .u16 imm, .int .u16 aux, .int .i64 bank, .int .i64 size]] V fun e w' => e = .returned (.agg #[.int .i64 op, .int .i64 d, .int .i64 s, .int .u16 imm, .int .u16 aux, .int .i64 bank, .int .i64 (zH (op % 256))]) ∧ Below V.heap.size V w' from fun V => rsized_any ⟨op, d, s, imm, aux, bank, size⟩ V)
 obtain ⟨bs, hbs⟩ : ∃ bs, xl (z6 ⟨op, d, s, imm, aux, bank, size⟩) = bs := ⟨_, rfl⟩
 obtain ⟨er, her⟩ : ∃ er, jx (z6 ⟨op, d, s, imm, aux, bank, size⟩) = er := ⟨_, rfl⟩
 have HEN := zh (show ∀ V, Calls Try.prog 101 #[.agg #[.int .i64 op, .int .i64 d, .int .i64 s, .int .u16 imm, .int .u16 aux, .int .i64 bank, .int .i64 (zH (op % 256))]] V fun e w' => e = .returned (.tuple #[.string (zO bs), .int .i64 er]) ∧ Below V.heap.size V w' from fun V => by have := rencode_any (z6 ⟨op, d, s, imm, aux, bank, size⟩) hi V; rw [hbs, her] at this; exact this)
 have hbl := encB_len (z6 ⟨op, d, s, imm, aux, bank, size⟩)
 rw [hbs] at hbl ⊢
 show Calls Try.prog 90 #[.pointer (some ⟨eb, 0, none⟩), .agg #[.int .i64 op, .int .i64 d, .int .i64 s, .int .u16 imm, .int .u16 aux, .int .i64 bank, .int .i64 size]] w (EnPost w0 E nm lv eb go lcp cua (code ++ bs) tabs pos pv w)
 have h2 := heap_alloc_new w (.cells #[.int .i64 op, .int .i64 d, .int .i64 s, .int .u16 imm, .int .u16 aux, .int .i64 bank, .int .i64 size] 53)
 have hB : Below w.heap.size w (w.alloc (.cells #[.int .i64 op, .int .i64 d, .int .i64 s, .int .u16 imm, .int .u16 aux, .int .i64 bank, .int .i64 size] 53)) := (Below.refl _ _).alloc (zn _) _
 obtain ⟨wa, hwa⟩ : ∃ wa : World, w.alloc (.cells #[.int .i64 op, .int .i64 d, .int .i64 s, .int .u16 imm, .int .u16 aux, .int .i64 bank, .int .i64 size] 53) = wa := ⟨_, rfl⟩
 rw [hwa] at h2 hB
 have H2 := zh h2
 have HB := zh hB
 have HH := zh h
 clear h2 hB h hbs her hi
 have hsz1 := yo code
 have hsz2 := yo bs
 go_enter Try.func90, Try.ntmps90
 go_upto_region 1 with fail
 try rw [hwa]
 clear hwa
 go_upto_region 2 with (first | (refine zs _ _ rfl _ rfl _ _ _ (H2.out) ?_ ?_ ?_; kernel_rfl; kernel_rfl) | (go_at_call 72; refine (HSD.out _).mono ?_; rintro e w3 ⟨rfl, hb3⟩) | (go_at_call 101; refine (HEN.out _).mono ?_; rintro e w4 ⟨rfl, hb4⟩))
 have HB4 := zh (HB.out.trans ((hb3.mono HB.out.size).trans (hb4.mono (Nat.le_trans HB.out.size hb3.size))))
 have HH4 := zh (HH.out.stay HB4.out)
 clear hb3 hb4
 have c5 := cell_of_row w4 eb 5 _ _ _ HH4.out.blk
 have f5 : w4.frozen? ⟨eb, 5, none⟩ = false := frozen_of_row w4 eb 5 _ _ HH4.out.blk
 have hnc : ¬ (9223372036854775807 < code.length + bs.length) := by omega
 have hnd : ¬ (9223372036854775807 < (zO code).size + (zO bs).size) := by omega
 have hle : code.length + bs.length ≤ 9223372036854775807 := by omega
 go_wp2_with fail
 go_end0
 refine ⟨rfl, pv, ?_, ?_, fun q hq => .inl hq⟩
 ·rw [strOf_app]; exact HH4.out.setC (code ++ bs)
 ·exact zN.setCell (zN.ofBelow HB4.out) _ fun _ => .inl rfl
end
end Go.Proofs.Ythebmoggbgldmaa
