/- The reference of chapter 19: Right, Assemble. The conditions: the numbers lie in their types' ranges. -/
import Derived.Test.YthebmoggbgldmaaLaLrL
import Derived.Test.YthebmoggbgldmaaLaLrC
set_option linter.all false
namespace Go.Proofs.Ythebmoggbgldmaa
open Go Go.RowKit Go.Maps
set_option maxRecDepth 100000 in
set_option maxHeartbeats 4000000 in
theorem rright_any (nm : ByteArray) (ls : List zu) (hls : yV ls) (ao : Option Addr) (cap nf no : Nat) (hnf : nf < 65536) (hno : no < 65536) (w : World) (hL : yJ w (.slice ao ls.length cap) ls) :
  Calls Try.prog 16 #[.agg #[.string nm, .slice ao ls.length cap], .int .i64 nf, .int .i64 no] w fun e w' => e = .returned (.bool (jy ls nf no)) ∧ Below w.heap.size w w' := by
 have hlen := hls.2
 have h2 := heap_alloc_new w (.cells #[.string nm, .slice ao ls.length cap] 32)
 have hB : Below w.heap.size w (w.alloc (.cells #[.string nm, .slice ao ls.length cap] 32)) := (Below.refl _ _).alloc (zn _) _
 obtain ⟨wa, hwa⟩ : ∃ wa : World, w.alloc (.cells #[.string nm, .slice ao ls.length cap] 32) = wa := ⟨_, rfl⟩
 rw [hwa] at h2 hB
 have H2 := zh h2
 have HB := zh hB
 have HL := zh hL
 have HLS := zh hls
 clear h2 hB hL hls
 go_enter Try.func16, Try.ntmps16
 go_wp2_with fail
 try rw [hwa]
 clear hwa
 go_loopw [7] (fun i wr => ∃ k : Nat, k ≤ ls.length ∧ i = .int .i64 k ∧ Hid (Below w.heap.size w wr) ∧ Hid (wr.heap[w.heap.size]? = some (.cells #[.string nm, .slice ao ls.length cap] 32 (0, 0))) ∧ Hid ((ls.take k).all (xu ls nf no) = true)) (fun i _ => ls.length - (intOf i).toNat)
 case atStart => exact ⟨0, Nat.zero_le _, rfl, HB, H2, zh rfl⟩
 case round =>
  obtain ⟨k, hk, rfl, HB, H2, HA⟩ := hrel
  have c1 := cell_of_row wr w.heap.size 1 _ _ _ H2.out
  by_cases hlt : k < ls.length
  ·obtain ⟨l, hl⟩ : ∃ l, ls[k]? = some l := ⟨_, List.getElem?_eq_getElem hlt⟩
   have HLk := zh hl
   obtain ⟨q, off, c, T', fr', tq, rfl, hq, hx, hti⟩ := HL.out.at hl
   obtain ⟨ta, tcp, rfl, -, -⟩ := id hti
   have HQ := zh (zf HB.out hq)
   have HX := zh hx
   have HLI := zh (fun W (hW : Below w.heap.size w W) => rline_any nm ls hlen (some ⟨q, off, none⟩) cap nf no hnf hno l (HLS.out.1 l (List.mem_of_getElem? hl)) ta tcp W (HL.out.below hW) (hti.below hW))
   obtain ⟨rb, hrb⟩ : ∃ rb, xu ls nf no l = rb := ⟨_, rfl⟩
   rw [hrb] at HLI
   have HRB := zh hrb
   have zz0 : w.heap.size < wr.heap.size := (Array.getElem?_eq_some_iff.1 H2.out).1
   have zz1 : q < wr.heap.size := (Array.getElem?_eq_some_iff.1 HQ.out).1
   clear hq hx hl hti hrb
   go_upto_region 4 with fail
   clear c1
   refine zV [] 10 (z5 [isV (.agg #[.string nm, .slice (some ⟨q, off, none⟩) ls.length cap]), isV (.pointer (some ⟨w.heap.size, 1, none⟩)), isV (.slice (some ⟨q, off, none⟩) ls.length cap), isV (.int .i64 k), isV ((.pointer (some ⟨q, off + k * 12, none⟩))), isV (.agg #[.int .i64 (l).label, .int .i64 (l).ins.op, .int .i64 (l).ins.d, .int .i64 (l).ins.s, .int .u16 (l).ins.imm, .int .u16 (l).ins.aux, .int .i64 (l).ins.bank, .int .i64 (l).ins.size, .int .i64 (l).dest, .int .i64 (l).fn, .int .i64 (l).obj, .slice ta (l).tab.length tcp]), isV (.int .i64 nf), isV (.int .i64 no), isV (.bool rb), isV (.bool rb)]) (nth [[0], [1], [2], [3], [4], [5], [6], [7], [8], [9]]) (nth [[], [], [], [], [], [], [], [], [], []]) (nth [[], [], [1], [], [2, 3], [4], [], [], [0, 5, 6, 7], [8]]) [9] (yU wr.heap.size wr wr.heap.size [(w.heap.size, .cells #[.string nm, .slice (some ⟨q, off, none⟩) ls.length cap] 32 (0, 0)), (q, .cells c T' fr')]) (by kernel_rfl) (by kernel_rfl) (⟨(Below.refl _ _).drew, zn _, zn _, by intro x hx; simp at hx; rcases hx with rfl | rfl <;> assumption, H2.out, HQ.out, trivial⟩) (yU.grow) (zG ((za (zc _)  (za (zc _)  (za (zc _)  (za (zc _)  (za (zc _)  (za (zc _)  (za (zc _)  (za (zc _)  (za (zc _)  (za (zc _) zy)))))))))))) (fun f F hF => ?_)
   simp only [List.take_succ_cons, List.take_zero, yb, Act.put, zD, zE, zF, Nat.reduceAdd] at hF
   subst hF
   refine ⟨zd ?_ (zd ?_ (zd ?_ (zd ?_ (zd ?_ (zd ?_ (zd ?_ (zd ?_ (zd ?_ (zd ?_ (yd)))))))))), ?_⟩
   ·intro w5 hS hF hD K hK
    rw [if_pos (by rfl)]
    exact svR hK rfl rfl rfl rfl (by first | rfl | kernel_rfl)  rfl rfl (hS.2.2.2.2.1) (by kernel_rfl)
   ·intro w5 hS hF hD K hK
    rw [if_pos (by rfl)]
    exact svV hK rfl rfl rfl rfl (by first | rfl | kernel_rfl)  (by show _ = _; kernel_rfl)
   ·intro w5 hS hF hD K hK
    obtain ⟨(e1 : f 1 = _), -⟩ := hF
    try simp only [e1]
    rw [if_pos (by rfl)]
    exact svC hK rfl rfl rfl rfl (by first | rfl | kernel_rfl)  rfl rfl (hS.2.2.2.2.1) (by kernel_rfl) (fun _ => by kernel_rfl)
   ·intro w5 hS hF hD K hK
    rw [if_pos (by rfl)]
    exact svV hK rfl rfl rfl rfl (by first | rfl | kernel_rfl)  (by show _ = _; kernel_rfl)
   ·intro w5 hS hF hD K hK
    obtain ⟨(e2 : f 2 = _), (e3 : f 3 = _), -⟩ := hF
    try simp only [e2, e3]
    rw [if_pos (by rfl)]
    go_simp
    refine hK.out _ _ rfl (zq rfl rfl rfl ?_)
    first | rfl | kernel_rfl
   ·intro w5 hS hF hD K hK
    obtain ⟨(e4 : f 4 = _), -⟩ := hF
    try simp only [e4]
    rw [if_pos (by rfl)]
    exact zx (xd _ _ rfl _ _ rfl _ _ _ (hS.2.2.2.2.2.1) [.int .i64 (l).label, .int .i64 (l).ins.op, .int .i64 (l).ins.d, .int .i64 (l).ins.s, .int .u16 (l).ins.imm, .int .u16 (l).ins.aux, .int .i64 (l).ins.bank, .int .i64 (l).ins.size, .int .i64 (l).dest, .int .i64 (l).fn, .int .i64 (l).obj, .slice ta (l).tab.length tcp] HX.out (by kernel_rfl)) (hK.out _ _ rfl (zq rfl rfl rfl (by first | rfl | kernel_rfl)))
   ·intro w5 hS hF hD K hK
    rw [if_pos (by rfl)]
    exact svV hK rfl rfl rfl rfl (by first | rfl | kernel_rfl)  (by show _ = _; kernel_rfl)
   ·intro w5 hS hF hD K hK
    rw [if_pos (by rfl)]
    exact svV hK rfl rfl rfl rfl (by first | rfl | kernel_rfl)  (by show _ = _; kernel_rfl)
   ·intro w5 hS hF hD K hK
    obtain ⟨(e0 : f 0 = _), (e5 : f 5 = _), (e6 : f 6 = _), (e7 : f 7 = _), -⟩ := hF
    try simp only [e0, e5, e6, e7]
    rw [if_pos (by rfl)]
    go_simp
    go_at_call 34; refine (HLI.out _ (HB.out.trans (hS.1.mono HB.out.size))).mono ?_; rintro e w6 ⟨rfl, hbelow⟩; go_simp
    refine hK.out _ _ rfl (zP rfl rfl rfl hbelow ?_)
    first | rfl | kernel_rfl
   ·intro w5 hS hF hD K hK
    obtain ⟨(e8 : f 8 = _), -⟩ := hF
    try simp only [e8]
    rw [if_pos (by rfl)]
    exact svV hK rfl rfl rfl rfl (by first | rfl | kernel_rfl)  (by show _ = _; kernel_rfl)
   intro w5 hS hF
   obtain ⟨(e9 : f 9 = _), -⟩ := hF
   try simp only [e9]
   refine yN (by kernel_rfl) ?_
   have HB5 := zh (HB.out.trans (hS.1.mono HB.out.size))
   have H25 := zh (zf hS.1 H2.out)
   clear hS zz0 zz1
   cases rb with
   | true =>
    have HT := zh (show (ls.take (k + 1)).all (xu ls nf no) = true by rw [List.take_succ, HLk.out, List.all_append, HA.out]; simp [HRB.out])
    go_wp2_with fail
    go_roundw
    case rel => exact ⟨k + 1, by omega, by go_num, HB5, H25, HT⟩
    case measure => simp [intOf]; omega
   | false =>
    have HT := zh (show jy ls nf no = false by
     unfold jy
     rw [List.all_eq_false]
     exact ⟨l, List.mem_of_getElem? HLk.out, by rw [HRB.out]; simp⟩)
    go_wp2_with fail
    go_ret
    exact ⟨by rw [HT.out]; rfl, HB5.out⟩
  ·have hke : k = ls.length := by omega
   subst hke
   have HT := zh (show jy ls nf no = true by have := HA.out; rw [List.take_length] at this; exact this)
   clear hlt hk
   go_wp2_with fail
   go_ret
   exact ⟨by rw [HT.out]; rfl, HB.out⟩
end Go.Proofs.Ythebmoggbgldmaa
