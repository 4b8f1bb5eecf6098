/- A strings.Builder that the call has made, beside another one: what is written, and what stays as it is. No condition beyond what each states. -/
import Derived.Test.YthebmoggbgldmaaLaLkO
import Derived.Lib.Builder
import Derived.Lib.AppendStr
import Derived.Lib.UnsafeStr
import Derived.RegionTactic
import Derived.ChangeAlike
set_option linter.all false
namespace Go.Proofs.Ythebmoggbgldmaa
open Go Go.RowKit Go.Maps
theorem jj.at {w : World} {ps : List yw} {ao : Option Addr} {n cap : Nat} (h : jj w (.slice ao n cap) ps) {i : Nat} {p : yw} (hp : ps[i]? = some p) :
  ∃ g off c T fr, ao = some ⟨g, off, none⟩ ∧ w.heap[g]? = some (.cells c T fr) ∧ (c.extract (off + i * 2) (off + i * 2 + 2)).toList = [.int .i64 p.bank, .int .u16 p.addr] := by
 obtain ⟨ao', cap', e, -, h⟩ := h
 have h0 : 0 < ps.length := by have := (List.getElem?_eq_some_iff.1 hp).1; omega
 obtain ⟨g, off, c, T, fr, e1, hg, h1⟩ := h h0
 simp only [Value.slice.injEq] at e
 exact ⟨g, off, c, T, fr, e.1.trans e1, hg, h1 i p hp⟩
theorem jK.at {w : World} {ps : List ObjS} {ao : Option Addr} {n cap : Nat} (h : jK w (.slice ao n cap) ps) {i : Nat} {p : ObjS} (hp : ps[i]? = some p) :
  ∃ g off c T fr, ao = some ⟨g, off, none⟩ ∧ w.heap[g]? = some (.cells c T fr) ∧ (c.extract (off + i * 3) (off + i * 3 + 3)).toList = [.int .i64 p.bank, .int .u16 p.addr, .int .u16 p.size] := by
 obtain ⟨ao', cap', e, -, h⟩ := h
 have h0 : 0 < ps.length := by have := (List.getElem?_eq_some_iff.1 hp).1; omega
 obtain ⟨g, off, c, T, fr, e1, hg, h1⟩ := h h0
 simp only [Value.slice.injEq] at e
 exact ⟨g, off, c, T, fr, e.1.trans e1, hg, h1 i p hp⟩
def szN (a f : yw) : Int := if nearS a f then 3 else 4
set_option maxRecDepth 100000 in
set_option maxHeartbeats 1000000 in
theorem csz_any (p f : yw) (fs : List yw) (fa : Option Addr) (fcap b5 b6 k : Nat) (fr5 fr6 : Nat × Nat) (hl : fs.length ≤ 100000) (hk : fs[k]? = some f) (w : World)
  (h5 : w.heap[b5]? = some (.cells #[.int .i64 p.bank, .int .u16 p.addr] 37 fr5)) (h6 : w.heap[b6]? = some (.cells #[.slice fa fs.length fcap] 26 fr6)) (hP : jj w (.slice fa fs.length fcap) fs) :
  Calls Try.prog 50 #[.int .i64 k, .pointer (some ⟨b5, 0, none⟩), .pointer (some ⟨b6, 0, none⟩)] w fun e w' => e = .returned (.int .i64 (szN p f)) ∧ Below w.heap.size w w' := by
 obtain ⟨q, off, c, T', fr', rfl, hq, hx⟩ := hP.at hk
 have hlt : k < fs.length := (List.getElem?_eq_some_iff.1 hk).1
 obtain ⟨pb, pa⟩ := p
 obtain ⟨fb, fad⟩ := f
 have HX := zh hx
 have HQ := zh hq
 have H5 := zh h5
 have H6 := zh h6
 have zz5 : b5 < w.heap.size := (Array.getElem?_eq_some_iff.1 h5).1
 have zz6 : b6 < w.heap.size := (Array.getElem?_eq_some_iff.1 h6).1
 have zzq : q < w.heap.size := (Array.getElem?_eq_some_iff.1 hq).1
 have HN := zh (fun W => near_any ⟨pb, pa⟩ ⟨fb, fad⟩ W)
 clear hx hq h5 h6 hP hk
 cases hn : nearS ⟨pb, pa⟩ ⟨fb, fad⟩ with
 | true =>
  rw [hn] at HN
  have HSZ := zh (show szN ⟨pb, pa⟩ ⟨fb, fad⟩ = 3 by unfold szN; rw [hn]; rfl)
  clear hn
  go_enter Try.func50, Try.ntmps50
  go_upto_region 1 with fail
  refine zV [] 6 (z5 [isV (.agg #[.int .i64 pb, .int .u16 pa]), isV (.slice (some ⟨q, off, none⟩) fs.length fcap), isV (.int .i64 k), isV ((.pointer (some ⟨q, off + k * 2, none⟩))), isV (.agg #[.int .i64 fb, .int .u16 fad]), isV (.bool true)]) (nth [[0], [1], [2], [3], [4], [5]]) (nth [[], [], [], [], [], []]) (nth [[], [], [], [1, 2], [3], [0, 4]]) [5] (yU w.heap.size w w.heap.size [(b5, .cells #[.int .i64 pb, .int .u16 pa] 37 fr5), (b6, .cells #[.slice (some ⟨q, off, none⟩) fs.length fcap] 26 fr6), (q, .cells c T' fr')]) (by kernel_rfl) (by kernel_rfl) (⟨(Below.refl _ _).drew, zn _, zn _, by intro x hx; simp at hx; rcases hx with rfl | rfl | rfl <;> assumption, H5.out, H6.out, HQ.out, trivial⟩) (yU.grow) (zG ((za (zc _)  (za (zc _)  (za (zc _)  (za (zc _)  (za (zc _)  (za (zc _) zy)))))))) (fun f F hF => ?_)
  simp only [List.take_succ_cons, List.take_zero, yb, Act.put, zD, zE, zF, Nat.reduceAdd] at hF
  subst hF
  refine ⟨zd ?_ (zd ?_ (zd ?_ (zd ?_ (zd ?_ (zd ?_ (yd)))))), ?_⟩
  ·intro w5 hS hF hD K hK
   exact stR hK rfl rfl rfl rfl (by first | rfl | kernel_rfl) rfl rfl rfl (hS.2.2.2.2.1) (by kernel_rfl)
  ·intro w5 hS hF hD K hK
   exact stC hK rfl rfl rfl rfl (by first | rfl | kernel_rfl) rfl rfl rfl (hS.2.2.2.2.2.1) (by kernel_rfl) (fun _ => by kernel_rfl)
  ·intro w5 hS hF hD K hK
   exact stV hK rfl rfl rfl rfl (by first | rfl | kernel_rfl) rfl (by show _ = _; kernel_rfl)
  ·intro w5 hS hF hD K hK
   obtain ⟨(e1 : f 1 = _), (e2 : f 2 = _), -⟩ := hF
   try simp only [e1, e2]
   rw [if_pos (by rfl)]
   go_simp
   refine hK.out _ _ rfl (zq rfl rfl rfl ?_)
   first | rfl | kernel_rfl
  ·intro w5 hS hF hD K hK
   obtain ⟨(e3 : f 3 = _), -⟩ := hF
   try simp only [e3]
   rw [if_pos (by rfl)]
   exact zx (xd _ _ rfl _ _ rfl _ _ _ (hS.2.2.2.2.2.2.1) [.int .i64 fb, .int .u16 fad] HX.out (by kernel_rfl)) (hK.out _ _ rfl (zq rfl rfl rfl (by first | rfl | kernel_rfl)))
  ·intro w5 hS hF hD K hK
   obtain ⟨(e0 : f 0 = _), (e4 : f 4 = _), -⟩ := hF
   try simp only [e0, e4]
   rw [if_pos (by rfl)]
   go_simp
   go_at_call 51; refine (HN.out _).mono ?_; rintro e w3 ⟨rfl, hbelow⟩; go_simp
   refine hK.out _ _ rfl (zP rfl rfl rfl hbelow ?_)
   first | rfl | kernel_rfl
  intro w5 hS hF
  obtain ⟨(e5 : f 5 = _), -⟩ := hF
  try simp only [e5]
  refine yN (by kernel_rfl) ?_
  go_wp2_with fail
  go_ret
  rw [HSZ.out]
  exact ⟨rfl, hS.1⟩
 | false =>
  rw [hn] at HN
  have HSZ := zh (show szN ⟨pb, pa⟩ ⟨fb, fad⟩ = 4 by unfold szN; rw [hn]; rfl)
  clear hn
  go_enter Try.func50, Try.ntmps50
  go_upto_region 1 with fail
  refine zV [] 6 (z5 [isV (.agg #[.int .i64 pb, .int .u16 pa]), isV (.slice (some ⟨q, off, none⟩) fs.length fcap), isV (.int .i64 k), isV ((.pointer (some ⟨q, off + k * 2, none⟩))), isV (.agg #[.int .i64 fb, .int .u16 fad]), isV (.bool false)]) (nth [[0], [1], [2], [3], [4], [5]]) (nth [[], [], [], [], [], []]) (nth [[], [], [], [1, 2], [3], [0, 4]]) [5] (yU w.heap.size w w.heap.size [(b5, .cells #[.int .i64 pb, .int .u16 pa] 37 fr5), (b6, .cells #[.slice (some ⟨q, off, none⟩) fs.length fcap] 26 fr6), (q, .cells c T' fr')]) (by kernel_rfl) (by kernel_rfl) (⟨(Below.refl _ _).drew, zn _, zn _, by intro x hx; simp at hx; rcases hx with rfl | rfl | rfl <;> assumption, H5.out, H6.out, HQ.out, trivial⟩) (yU.grow) (zG ((za (zc _)  (za (zc _)  (za (zc _)  (za (zc _)  (za (zc _)  (za (zc _) zy)))))))) (fun f F hF => ?_)
  simp only [List.take_succ_cons, List.take_zero, yb, Act.put, zD, zE, zF, Nat.reduceAdd] at hF
  subst hF
  refine ⟨zd ?_ (zd ?_ (zd ?_ (zd ?_ (zd ?_ (zd ?_ (yd)))))), ?_⟩
  ·intro w5 hS hF hD K hK
   exact stR hK rfl rfl rfl rfl (by first | rfl | kernel_rfl) rfl rfl rfl (hS.2.2.2.2.1) (by kernel_rfl)
  ·intro w5 hS hF hD K hK
   exact stC hK rfl rfl rfl rfl (by first | rfl | kernel_rfl) rfl rfl rfl (hS.2.2.2.2.2.1) (by kernel_rfl) (fun _ => by kernel_rfl)
  ·intro w5 hS hF hD K hK
   exact stV hK rfl rfl rfl rfl (by first | rfl | kernel_rfl) rfl (by show _ = _; kernel_rfl)
  ·intro w5 hS hF hD K hK
   obtain ⟨(e1 : f 1 = _), (e2 : f 2 = _), -⟩ := hF
   try simp only [e1, e2]
   rw [if_pos (by rfl)]
   go_simp
   refine hK.out _ _ rfl (zq rfl rfl rfl ?_)
   first | rfl | kernel_rfl
  ·intro w5 hS hF hD K hK
   obtain ⟨(e3 : f 3 = _), -⟩ := hF
   try simp only [e3]
   rw [if_pos (by rfl)]
   exact zx (xd _ _ rfl _ _ rfl _ _ _ (hS.2.2.2.2.2.2.1) [.int .i64 fb, .int .u16 fad] HX.out (by kernel_rfl)) (hK.out _ _ rfl (zq rfl rfl rfl (by first | rfl | kernel_rfl)))
  ·intro w5 hS hF hD K hK
   obtain ⟨(e0 : f 0 = _), (e4 : f 4 = _), -⟩ := hF
   try simp only [e0, e4]
   rw [if_pos (by rfl)]
   go_simp
   go_at_call 51; refine (HN.out _).mono ?_; rintro e w3 ⟨rfl, hbelow⟩; go_simp
   refine hK.out _ _ rfl (zP rfl rfl rfl hbelow ?_)
   first | rfl | kernel_rfl
  intro w5 hS hF
  obtain ⟨(e5 : f 5 = _), -⟩ := hF
  try simp only [e5]
  refine yN (by kernel_rfl) ?_
  go_wp2_with fail
  go_ret
  rw [HSZ.out]
  exact ⟨rfl, hS.1⟩
theorem u16_addr (a o : Int) : IntKind.u16.wrap (a + IntKind.u16.wrap o) = (a + o) % 65536 := by
 show (a + o % 65536) % 65536 = (a + o) % 65536
 omega
set_option maxRecDepth 100000 in
set_option maxHeartbeats 1000000 in
theorem lab_any (E : zL) (n : Int) (hn : zX n) (hs : (yI E.ls n).isSome = true) (b5 b10 b4 m go : Nat) (x1 x2 : Value) (fr5 fr10 fr4 frg : Nat × Nat) (hlen : E.ls.length ≤ 1000) (hzl : E.sz.length = E.ls.length) (w : World)
  (h5 : w.heap[b5]? = some (.cells #[.int .i64 E.pl.bank, .int .u16 E.pl.addr] 37 fr5)) (h10 : w.heap[b10]? = some (.cells #[.slice (some ⟨go, 0, none⟩) (E.ls.length + 1) (E.ls.length + 1)] 40 fr10))
  (hgo : w.heap[go]? = some (.cells (viA (xi E.sz)) 3 frg)) (h4 : w.heap[b4]? = some (.cells #[x1, x2, .map (some m)] 74 fr4)) (hm : MapT m (xH E.ls) w) :
  Calls Try.prog 52 #[.int .i64 n, .pointer (some ⟨b5, 0, none⟩), .pointer (some ⟨b10, 0, none⟩), .pointer (some ⟨b4, 0, none⟩)] w fun e w' => e = .returned (.int .u16 ((E.pl.addr + E.lab n) % 65536)) ∧ Below w.heap.size w w' := by
 obtain ⟨jd, hjd⟩ := Option.isSome_iff_exists.1 hs
 have hjl : jd < E.ls.length := (labF_lt hjd).1
 have HGF := zh (show (xH E.ls n).getD 0 = (jd : Int) by unfold xH; rw [hjd]; rfl)
 have HLB := zh (show E.lab n = yM E.sz jd by unfold zL.lab zL.off labN; rw [hjd]; rfl)
 have HV1 := zh (show (viA (xi E.sz))[jd]? = some (.int .i64 (yM E.sz jd)) from viA_get (jH E.sz (by omega)))
 have HID := zh hn
 obtain ⟨es, ck, hmo⟩ := hm.obj
 have HMM := zh hm
 have HMO := zh hmo
 have HU := zh (u16_addr E.pl.addr (yM E.sz jd))
 have HU2 := zh (show IntKind.u16.wrap (yM E.sz jd) = IntKind.u16.wrap (yM E.sz jd) from rfl)
 have H5 := zh h5
 have H10 := zh h10
 have H4 := zh h4
 have HGO := zh hgo
 have zz5 : b5 < w.heap.size := (Array.getElem?_eq_some_iff.1 h5).1
 have zz10 : b10 < w.heap.size := (Array.getElem?_eq_some_iff.1 h10).1
 have zzg : go < w.heap.size := (Array.getElem?_eq_some_iff.1 hgo).1
 have zz4 : b4 < w.heap.size := (Array.getElem?_eq_some_iff.1 h4).1
 have zzm : m < w.heap.size := hm.lt
 have hj2 : (jd : Int) < (E.ls.length : Int) + 1 := by omega
 rw [HLB.out]
 clear hm hmo h5 h10 h4 hgo hjd hs hn hzl
 go_enter Try.func52, Try.ntmps52
 go_upto_region 1 with fail
 refine zV [] 12 (z5 [isV (.pointer (some ⟨b5, 1, none⟩)), isV (.int .u16 E.pl.addr), isV (.slice (some ⟨go, 0, none⟩) (E.ls.length + 1) (E.ls.length + 1)), isV (.pointer (some ⟨b4, 2, none⟩)), isV (.map (some m)), isV (.int .i64 n), isV (.int .i64 jd), isV ((.pointer (some ⟨go, jd, none⟩))), isV ((.int .i64 (yM E.sz jd))), isV (.int .u16 (IntKind.u16.wrap (yM E.sz jd))), isV (.int .u16 ((E.pl.addr + yM E.sz jd) % 65536)), isV (.int .u16 ((E.pl.addr + yM E.sz jd) % 65536))]) (nth [[0], [1], [2], [3], [4], [5], [6], [7], [8], [9], [10], [11]]) (nth [[], [], [], [], [], [], [], [], [], [], [], []]) (nth [[], [0], [], [], [3], [], [4, 5], [2, 6], [7], [8], [1, 9], [10, 0, 1, 2, 3, 4, 5, 6, 7, 8, 9]]) [11] (yU w.heap.size w w.heap.size [(b5, .cells #[.int .i64 E.pl.bank, .int .u16 E.pl.addr] 37 fr5), (b10, .cells #[.slice (some ⟨go, 0, none⟩) (E.ls.length + 1) (E.ls.length + 1)] 40 fr10), (go, .cells (viA (xi E.sz)) 3 frg), (b4, .cells #[x1, x2, .map (some m)] 74 fr4), (m, .map es ck)]) (by kernel_rfl) (by kernel_rfl) (⟨(Below.refl _ _).drew, zn _, zn _, by intro x hx; simp at hx; rcases hx with rfl | rfl | rfl | rfl | rfl <;> assumption, H5.out, H10.out, HGO.out, H4.out, HMO.out, trivial⟩) (yU.grow) (zG ((za (zc _)  (za (zc _)  (za (zc _)  (za (zc _)  (za (zc _)  (za (zc _)  (za (zc _)  (za (zc _)  (za (zc _)  (za (zc _)  (za (zc _)  (za (zc _) zy)))))))))))))) (fun f F hF => ?_)
 simp only [List.take_succ_cons, List.take_zero, yb, Act.put, zD, zE, zF, Nat.reduceAdd] at hF
 subst hF
 refine ⟨zd ?_ (zd ?_ (zd ?_ (zd ?_ (zd ?_ (zd ?_ (zd ?_ (zd ?_ (zd ?_ (zd ?_ (zd ?_ (zd ?_ (yd)))))))))))), ?_⟩
 ·intro w5 hS hF hD K hK
  exact stV hK rfl rfl rfl rfl (by first | rfl | kernel_rfl) rfl (by show _ = _; kernel_rfl)
 ·intro w5 hS hF hD K hK
  obtain ⟨(e0 : f 0 = _), -⟩ := hF
  try simp only [e0]
  exact stC hK rfl rfl rfl rfl (by first | rfl | kernel_rfl) rfl rfl rfl (hS.2.2.2.2.1) (by kernel_rfl) (fun _ => by kernel_rfl)
 ·intro w5 hS hF hD K hK
  exact stC hK rfl rfl rfl rfl (by first | rfl | kernel_rfl) rfl rfl rfl (hS.2.2.2.2.2.1) (by kernel_rfl) (fun _ => by kernel_rfl)
 ·intro w5 hS hF hD K hK
  exact stV hK rfl rfl rfl rfl (by first | rfl | kernel_rfl) rfl (by show _ = _; kernel_rfl)
 ·intro w5 hS hF hD K hK
  obtain ⟨(e3 : f 3 = _), -⟩ := hF
  try simp only [e3]
  exact stC hK rfl rfl rfl rfl (by first | rfl | kernel_rfl) rfl rfl rfl (hS.2.2.2.2.2.2.2.1) (by kernel_rfl) (fun _ => by kernel_rfl)
 ·intro w5 hS hF hD K hK
  exact stV hK rfl rfl rfl rfl (by first | rfl | kernel_rfl) rfl (by show _ = _; kernel_rfl)
 ·intro w5 hS hF hD K hK
  obtain ⟨(e4 : f 4 = _), (e5 : f 5 = _), -⟩ := hF
  try simp only [e4, e5]
  rw [if_pos (by rfl)]
  exact zx (v := .int .i64 ((xH E.ls n).getD 0)) (exec_lookup_one Try.underlying3 (t := 72) rfl Try.underlying72 (zeroI _) rfl (HMM.out.same (hS.2.2.2.2.2.2.2.2.1.trans HMO.out.symm)) rfl HID.out) (hK.out _ _ rfl (zq rfl rfl rfl (congrArg (Value.int .i64) HGF.out)))
 ·intro w5 hS hF hD K hK
  obtain ⟨(e2 : f 2 = _), (e6 : f 6 = _), -⟩ := hF
  try simp only [e2, e6]
  rw [if_pos (by rfl)]
  go_simp
  refine hK.out _ _ rfl (zq rfl rfl rfl ?_)
  first | rfl | kernel_rfl
 ·intro w5 hS hF hD K hK
  obtain ⟨(e7 : f 7 = _), -⟩ := hF
  try simp only [e7]
  exact stC hK rfl rfl rfl rfl (by first | rfl | kernel_rfl) rfl rfl rfl (hS.2.2.2.2.2.2.1) (HV1.out) (fun _ => by kernel_rfl)
 ·intro w5 hS hF hD K hK
  obtain ⟨(e8 : f 8 = _), -⟩ := hF
  try simp only [e8]
  exact stV hK rfl rfl rfl rfl (by first | rfl | kernel_rfl) rfl (by show _ = _; kernel_rfl)
 ·intro w5 hS hF hD K hK
  obtain ⟨(e1 : f 1 = _), (e9 : f 9 = _), -⟩ := hF
  try simp only [e1, e9]
  rw [if_pos (by rfl)]
  exact zx (v := .int .u16 (IntKind.u16.wrap (E.pl.addr + IntKind.u16.wrap (yM E.sz jd)))) (by (show _ = _); kernel_rfl) (hK.out _ _ rfl (zq rfl rfl rfl (congrArg (Value.int .u16) HU.out)))
 ·intro w5 hS hF hD K hK
  obtain ⟨(e10 : f 10 = _), (e0 : f 0 = _), (e1 : f 1 = _), (e2 : f 2 = _), (e3 : f 3 = _), (e4 : f 4 = _), (e5 : f 5 = _), (e6 : f 6 = _), (e7 : f 7 = _), (e8 : f 8 = _), (e9 : f 9 = _), -⟩ := hF
  try simp only [e10, e0, e1, e2, e3, e4, e5, e6, e7, e8, e9]
  exact stV hK rfl rfl rfl rfl (by first | rfl | kernel_rfl) rfl (by show _ = _; kernel_rfl)
 intro w5 hS hF
 obtain ⟨(e11 : f 11 = _), -⟩ := hF
 try simp only [e11]
 refine yN (by kernel_rfl) ?_
 go_wp2_with fail
 go_ret
 exact ⟨rfl, hS.1⟩
end Go.Proofs.Ythebmoggbgldmaa
namespace Go.Proofs.Ythebmoggbgldmaa
open Go Go.RowKit Go.Maps
theorem bInfo : (Try.prog.info? 109).map (·.size) = some 2 := by kernel_rfl
theorem bLies : liesAt Try.prog Try.prog.depth 109 (2 / Try.prog.cellsOf 109) 0 109 1 = true := by kernel_rfl
theorem bByte : (Try.prog.info? 5).map (fun i => (i.zero, i.size, i.bytes)) = some (some (.int .u8 0), 1, 1) := by kernel_rfl
theorem bCells : Try.prog.cellsOf 5 = 1 := by kernel_rfl
set_option maxRecDepth 100000 in
theorem bcc_used (b : Nat) (w : World) (h0 : w.cell? ⟨b, 0, none⟩ = some (.pointer (some ⟨b, 0, none⟩))) :
  Calls Try.prog 86 #[.pointer (some ⟨b, 0, none⟩)] w fun e w' => e = .returned (.tuple #[]) ∧ w' = w := by
 obtain ⟨j, hj, -⟩ := Option.map_eq_some_iff.1 bInfo
 go_enter Try.func86, Try.ntmps86
 go_wp2
 rw [Lib.run_neq_ptr_same w _ Try.underlying107 hj]
 go_wp2
 go_end0
 exact ⟨rfl, rfl⟩
set_option maxRecDepth 100000 in
theorem bcc_fresh (b : Nat) (w : World) (h0 : w.cell? ⟨b, 0, none⟩ = some (.pointer none)) (hsh : w.shape? b = some (109, 2)) (hfz : w.frozen? ⟨b, 0, none⟩ = false) :
  Calls Try.prog 86 #[.pointer (some ⟨b, 0, none⟩)] w fun e w' => e = .returned (.tuple #[]) ∧ w' = w.setCell ⟨b, 0, none⟩ (.pointer (some ⟨b, 0, none⟩)) := by
 obtain ⟨j, hj, hjs⟩ := Option.map_eq_some_iff.1 bInfo
 go_enter Try.func86, Try.ntmps86
 go_wp2
 rw [Lib.run_to_unsafe w ⟨b, 0, none⟩ Try.underlying107 Try.underlying159 hj (by rw [hjs]; decide) hsh (Nat.zero_lt_succ 1)]
 simp only [Result.andThen]
 rw [Oper.upon_value]
 go_wp2
 rw [run_callFunc_extern Try.func100 (by kernel_rfl) (by kernel_rfl) (by kernel_rfl) (e := Extern.AbiNoEscape.same) (by kernel_rfl)]
 rw [Lib.run_noEscape]
 simp only [Result.andThen]
 rw [Oper.upon_value]
 go_wp2
 rw [Lib.run_from_unsafe w ⟨b, 0, none⟩ Try.underlying159 Try.underlying107 hj hsh bLies]
 simp only [Result.andThen]
 rw [Oper.upon_value]
 go_wp2
 go_end0
 exact ⟨rfl, rfl⟩
structure jL (b : Nat) (bs : List Value) (v : Value) (w : World) : Prop where
 blk : ∃ p, (p = .pointer none ∨ p = .pointer (some ⟨b, 0, none⟩)) ∧ w.heap[b]? = some (.cells #[p, v] 109 (0, 0))
 own : w.ownsRow 0 5 1 v bs.length bs
 nil : v = .slice none 0 0 ↔ bs = []
theorem jL.lt {b bs v w} (h : jL b bs v w) : b < w.heap.size := by obtain ⟨p, -, h⟩ := h.blk; exact (Array.getElem?_eq_some_iff.1 h).1
theorem jL.ne {b bs v w} (h : jL b bs v w) : v.ownBlock ≠ some b := by obtain ⟨p, -, h1⟩ := h.blk; exact Lib.ownBlock_ne h.own h1 (by decide)
theorem jL.turn {b bs v w w'} {ts : Nat → Prop} (h : jL b bs v w) (t : zN ts w w') (h1 : ¬ ts b) (h2 : ∀ k, v.ownBlock = some k → ¬ ts k) : jL b bs v w' :=
 ⟨by obtain ⟨p, hp, h⟩ := h.blk; exact ⟨p, hp, t.heap h h1⟩, zZ h.own t h2, h.nil⟩
theorem jL.stay {b bs v w w'} (h : jL b bs v w) (hb : Below w.heap.size w w') : jL b bs v w' := h.turn (zN.ofBelow (bs := fun _ => False) hb) (fun h => h) fun _ _ h => h
theorem jL.rowlt {b bs v w} (h : jL b bs v w) : ∀ k, v.ownBlock = some k → k < w.heap.size := fun k hk => by
 obtain ⟨-, cs, h1⟩ := z7 h.own k hk
 exact (Array.getElem?_eq_some_iff.1 h1).1
theorem jL.new (w : World) : jL w.heap.size [] (.slice none 0 0) (w.alloc (.cells #[.pointer none, .slice none 0 0] 109)) :=
 ⟨⟨_, .inl rfl, heap_alloc_new _ _⟩, ⟨rfl, .inl ⟨rfl, rfl⟩⟩, by simp⟩
theorem run_append_strX {P : Program} (w : World) (t u ty e : TypeId) (i : TypeInfo) (ht : P.underlying t = some (.slice e)) (hu : P.underlying u = some .string) (hi : P.info? e = some i) (hz : i.zero = some (.int .u8 0))
  (hsize : i.size = 1) (hby : i.bytes = 1) (v : Value) (n : Nat) (xs : List Value) (hown : w.ownsRow 0 e 1 v n xs) (s : ByteArray) (h63 : n + s.size ≤ maxLen) (hbytes : n + s.size ≤ 140737488355328) :
  ∃ v' w', (Builtin.append_ #[t, u] ty #[v, .string s]).run P w = .ok v' w' ∧ w'.ownsRow 0 e 1 v' (n + s.size) (xs ++ Lib.strCells s) ∧ w.grownBy w' v.ownBlock ∧
   (v' = .slice none 0 0 ↔ v = .slice none 0 0 ∧ s.size = 0) ∧ ∀ k, v'.ownBlock = some k → v.ownBlock = some k ∨ w.heap.size ≤ k := by
 obtain ⟨v', w', hr, h2, h3, h4⟩ := Lib.run_append_own_string (P := P) w 0 t u ty e i ht hu hi hz hsize hby v n xs hown s h63 hbytes (Nat.zero_le _)
 refine ⟨v', w', hr, h2, h3, h4, ?_⟩
 rcases hown.2 with ⟨rfl, rfl⟩ | ⟨g, cap, cur, rfl, hbg, hg, hnc, hcm, hcs, htake⟩
 ·obtain ⟨v2, w2, hr2, h5, -, -⟩ := Lib.run_append_own_string (P := P) w w.heap.size t u ty e i ht hu hi hz hsize hby (.slice none 0 0) 0 xs ⟨hown.1, .inl ⟨rfl, rfl⟩⟩ s h63 hbytes (zn _)
  rw [hr] at hr2
  simp only [Result.ok.injEq] at hr2
  obtain ⟨rfl, rfl⟩ := hr2
  exact fun k hk => .inr (z7 h5 k hk).1
 ·have hcs' : cur.size = cap := by simpa using hcs
  by_cases hroom : n + s.size ≤ cap
  ·have hr2 := Lib.run_append_room_string (P := P) w t u ty e i ht hu hi hsize g n cap cur hg s hroom (by omega)
   rw [hr] at hr2
   simp only [Result.ok.injEq] at hr2
   obtain ⟨rfl, -⟩ := hr2
   exact fun k hk => .inl hk
  ·have hxl : xs.length = n := by simpa using hown.1
   have hr2 := Lib.run_append_grow_string (P := P) w t u ty e i (.int .u8 0) ht hu hi hz ⟨g, 0, none⟩ n cap xs (by rw [hsize]; simpa using hxl) (hown.cells (g := g) rfl) s (by omega) (by unfold maxLen at h63; omega) (by rw [hby]; exact growslice_fits (by omega) (by omega))
   rw [hr] at hr2
   simp only [Result.ok.injEq] at hr2
   obtain ⟨rfl, -⟩ := hr2
   intro k hk
   simp only [Value.ownBlock, Option.some.injEq] at hk
   exact .inr (by omega)
theorem wpList_append_strX {P : Program} {w : World} {ops : Array Oper} {rest : List Oper} {o : Oper} {a : Act} {Q : Exit → Act → World → Prop} (hgd : o.guard = none) (sl x : Operand) (t u : TypeId)
  (ho : o.op = .call { callee := .builtin .append, args := #[sl, x], argTypes := #[t, u] })
  (e : TypeId) (i : TypeInfo) (ht : P.underlying t = some (.slice e)) (hu : P.underlying u = some .string) (hi : P.info? e = some i) (hz : i.zero = some (.int .u8 0))
  (hsize : i.size = 1) (hby : i.bytes = 1) (v : Value) (n : Nat) (xs : List Value) (hs : a.eval sl = v) (hown : w.ownsRow 0 e 1 v n xs) (s : ByteArray) (hx : a.eval x = .string s)
  (h63 : n + s.size ≤ maxLen) (hbytes : n + s.size ≤ 140737488355328)
  (h : ∀ v' w', w'.ownsRow 0 e 1 v' (n + s.size) (xs ++ Lib.strCells s) → w.grownBy w' v.ownBlock → (v' = .slice none 0 0 ↔ v = .slice none 0 0 ∧ s.size = 0) → (∀ k, v'.ownBlock = some k → v.ownBlock = some k ∨ w.heap.size ≤ k) → wpList P ops Q rest (a.put o.dst v') w') : wpList P ops Q (o :: rest) a w := by
 refine wpList_plain hgd fun K hK => ?_
 obtain ⟨v', w', hr, h2, h3, h4, h5⟩ := run_append_strX (P := P) w t u o.type e i ht hu hi hz hsize hby v n xs hown s h63 hbytes
 unfold Oper.wp execOp
 simp only [ho, resolve, invoke, builtin, Sem.run_bind, Sem.run_pure, Result.andThen_ok, List.map_toArray, List.map_cons, List.map_nil, hs, hx, hr]
 exact hK _ _ (h v' w' h2 h3 h4 h5)
def WrPost (b : Nat) (bs : List Value) (v : Value) (s : ByteArray) (w : World) (e : Ending) (w' : World) : Prop :=
 e = .returned (.tuple #[.int .i64 s.size, .nilIface]) ∧ ∃ v', jL b (bs ++ Lib.strCells s) v' w' ∧ zN (fun x => x = b ∨ v.ownBlock = some x) w w' ∧ ∀ k, v'.ownBlock = some k → v.ownBlock = some k ∨ w.heap.size ≤ k
set_option maxRecDepth 100000 in
set_option maxHeartbeats 1000000 in
theorem bwrite_any (b : Nat) (bs : List Value) (v : Value) (s : ByteArray) (w : World) (h : jL b bs v w) (hlen : bs.length + s.size ≤ 140737488355328) :
  Calls Try.prog 61 #[.pointer (some ⟨b, 0, none⟩), .string s] w (WrPost b bs v s w) := by
 obtain ⟨i0, hi, hz0, hz1, hz2⟩ := info_parts bByte
 have HI := zh (And.intro hi (And.intro hz0 (And.intro hz1 hz2)))
 have H := zh h
 have HLEN := zh hlen
 have HCC := zh (show Calls Try.prog 86 #[.pointer (some ⟨b, 0, none⟩)] w fun e w' => e = .returned (.tuple #[]) ∧ w'.heap[b]? = some (.cells #[.pointer (some ⟨b, 0, none⟩), v] 109 (0, 0)) ∧ zN (fun x => x = b) w w' by
  obtain ⟨p, hp, hb⟩ := h.blk
  rcases hp with rfl | rfl
  ·refine (bcc_fresh b w (by rw [Lib.cell_of_heap hb]; rfl) (by simp [World.shape?, hb]) (Lib.frozen_of_heap hb 0)).mono ?_
   rintro e w' ⟨rfl, rfl⟩
   exact ⟨rfl, by rw [zW hb]; rfl, (zN.refl _ _).setCell _ fun _ => rfl⟩
  ·refine (bcc_used b w (by rw [Lib.cell_of_heap hb]; rfl)).mono ?_
   rintro e w' ⟨rfl, rfl⟩
   exact ⟨rfl, hb, zN.refl _ _⟩)
 clear hi hz0 hz1 hz2 h hlen
 go_enter Try.func61, Try.ntmps61
 go_upto_region 2 with (go_at_call 86; refine (HCC.out).mono ?_; rintro e w1 ⟨rfl, hb1, ht1⟩)
 have c1 : w1.cell? ⟨b, 1, none⟩ = some v := by rw [Lib.cell_of_heap hb1]; rfl
 have HOW := zh (zZ H.out.own ht1 (fun k hk e => H.out.ne (by rw [hk, e])))
 have HB1 := zh hb1
 have HT1 := zh ht1
 have HM := zh (show bs.length + s.size ≤ maxLen by have := HLEN.out; unfold maxLen; omega)
 clear hb1 ht1
 go_wp2_with (at_builtin; refine wpList_append_strX rfl _ _ 99 9 rfl 5 i0 Try.underlying99 Try.underlying9 HI.out.1 HI.out.2.1 HI.out.2.2.1 HI.out.2.2.2 v bs.length bs rfl HOW.out s rfl HM.out HLEN.out ?_; intro v' w2 ho2 hg2 hn2 hk2; have HO2 := zh ho2; have HG2 := zh hg2; have HN2 := zh hn2; have HK2 := zh hk2; have hb2 : w2.heap[b]? = some (.cells #[.pointer (some ⟨b, 0, none⟩), v] 109 (0, 0)) := (hg2.block b (Array.getElem?_eq_some_iff.1 HB1.out).1 (fun e => H.out.ne e.symm)).trans HB1.out; have d1 : w2.cell? ⟨b, 1, none⟩ = some v := (by rw [Lib.cell_of_heap hb2]; rfl); have f1 : w2.frozen? ⟨b, 1, none⟩ = false := Lib.frozen_of_heap hb2 1; have HB2 := zh hb2; obtain ⟨ao, n', cap, rfl⟩ : ∃ ao n' cap, v' = .slice ao n' cap := (by rcases ho2.2 with ⟨hv, _⟩ | ⟨g, cap, cur, hv, _⟩; exact ⟨_, _, _, hv⟩; exact ⟨_, _, _, hv⟩); clear ho2 hg2 hn2 hk2 hb2)
 go_ret2
 refine ⟨rfl, .slice ao n' cap, ⟨⟨_, .inr rfl, by rw [zW HB2.out]; rfl⟩, ?_, ?_⟩, ?_, ?_⟩
 ·have h1 : (bs ++ Lib.strCells s).length = bs.length + s.size := by rw [List.length_append, Lib.strCells_length]
  rw [h1]
  refine ownsRow_setCell_other HO2.out ?_ _
  have := Lib.ownBlock_ne HO2.out HB2.out (by decide)
  exact this
 ·have h2 : Lib.strCells s = [] ↔ s.size = 0 := by rw [← List.length_eq_zero_iff, Lib.strCells_length]
  rw [HN2.out, H.out.nil, List.append_eq_nil_iff, h2]
 ·refine zN.setCell ?_ _ (fun _ => .inl rfl)
  exact (HT1.out.mono fun x _ h => .inl h).grown HG2.out fun k hk _ => .inr hk
 ·intro k hk
  rcases HK2.out k hk with h | h
  ·exact .inl h
  ·exact .inr (Nat.le_trans HT1.out.size h)
theorem turn_freeze (w : World) (g n : Nat) : zN (fun x => x = g) w (w.freeze ⟨g, 0, none⟩ n) := by
 unfold World.freeze
 split
 ·exact zN.refl _ _
 ·exact ⟨rfl, rfl, rfl, by simp, fun k hk hb => by
   simp only [Array.getElem?_modify]
   rw [if_neg (fun e => hb e.symm)]⟩
theorem bv_cells {l : List Int} {k : Nat} {x : UInt8} (h : (l.map fun n => UInt8.ofNat n.toNat)[k]? = some x) (hl : ∀ n ∈ l, 0 ≤ n ∧ n < 256) : (bv l)[k]? = some (.int .u8 x.toNat) := by
 rw [List.getElem?_map] at h
 obtain ⟨n, hn, rfl⟩ := Option.map_eq_some_iff.1 h
 have hb := hl n (List.mem_of_getElem? hn)
 unfold bv
 rw [List.getElem?_map, hn]
 have : ((UInt8.ofNat n.toNat).toNat : Int) = n := by
  rw [UInt8.toNat_ofNat', Nat.mod_eq_of_lt (by omega)]
  omega
 rw [this]; rfl
end Go.Proofs.Ythebmoggbgldmaa
