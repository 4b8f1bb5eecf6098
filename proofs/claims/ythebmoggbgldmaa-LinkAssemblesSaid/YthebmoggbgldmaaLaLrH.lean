/- The reference of chapter 19: the encoder's branch and call. The conditions: a well-formed chunk. (Printed by gen_lrh.py.) -/
import Derived.Test.YthebmoggbgldmaaLaLrG
set_option linter.all false
namespace Go.Proofs.Ythebmoggbgldmaa
open Go Go.RowKit Go.Maps
theorem jQ {w0 : World} {E : zL} {nm : ByteArray} {lv : Value} {eb go lcp : Nat} {cua : Array Value} {code tabs pos : List Int} {pv : Value} {w w1 w' : World} {e : Ending} (hb : Below w.heap.size w w1) (h : EnPost w0 E nm lv eb go lcp cua code tabs pos pv w1 e w') : EnPost w0 E nm lv eb go lcp cua code tabs pos pv w e w' := by
 obtain ⟨h1, pv', h2, h3, h4⟩ := h
 exact ⟨h1, pv', h2, (zN.ofBelow hb).trans h3 (fun _ _ h => h), fun q hq => (h4 q hq).imp id fun h => Nat.le_trans hb.size h⟩
theorem rbr_imm (A L o : Int) : IntKind.u16.wrap ((A + L) % 65536 - (A + o) % 65536) = (L - o) % 65536 := by
 show ((A + L) % 65536 - (A + o) % 65536) % 65536 = (L - o) % 65536
 omega
theorem rcl_imm (f A o : Int) : IntKind.u16.wrap (f - (A + o) % 65536) = (f - A - o) % 65536 := by
 show (f - (A + o) % 65536) % 65536 = (f - A - o) % 65536
 omega
theorem form2_cases {op : Int} (h : zK op = 2) : (xN op = false ∧ (op = 128 ∨ op = 129)) ∨ (xN op = true ∧ 96 ≤ op ∧ op < 126) := by
 cases hc : xN op with
 | true => exact .inr ⟨rfl, cond_rng hc⟩
 | false =>
  left
  refine ⟨rfl, ?_⟩
  unfold zK at h
  rw [hc] at h
  split at h
  ·rename_i h1
   simpa using h1
  ·split at h
   ·omega
   ·split at h
    ·omega
    ·split at h <;> omega
section
variable (w0 : World) (E : zL) (hE : E.Ok) (nm : ByteArray) (ao : Option Addr) (cap eb go lcp : Nat) (cua : Array Value) (code tabs pos : List Int) (pv : Value) (hL : yJ w0 (.slice ao E.ls.length cap) E.ls) (hcl : code.length ≤ 1000000)
include hE hL hcl
set_option maxRecDepth 100000 in
set_option maxHeartbeats 4000000 in
theorem rbranch_any (hLB : LabsOk E.ls) (k : Nat) (l : zu) (ta : Option Addr) (tcp : Nat) (hl : E.ls[k]? = some l) (hf : zK l.ins.op = 2) (w : World) (h : jV w0 E nm (.slice ao E.ls.length cap) eb go lcp cua code tabs pos pv w) :
  Calls Try.prog 68 #[.pointer (some ⟨eb, 0, none⟩), .int .i64 k, .agg #[.int .i64 (l).label, .int .i64 (l).ins.op, .int .i64 (l).ins.d, .int .i64 (l).ins.s, .int .u16 (l).ins.imm, .int .u16 (l).ins.aux, .int .i64 (l).ins.bank, .int .i64 (l).ins.size, .int .i64 (l).dest, .int .i64 (l).fn, .int .i64 (l).obj, .slice ta (l).tab.length tcp]] w (EnPost w0 E nm (.slice ao E.ls.length cap) eb go lcp cua (code ++ E.lineB k tabs.length l) tabs pos pv w) := by
 have hkl : k < E.ls.length := (List.getElem?_eq_some_iff.1 hl).1
 have hlen := hE.len
 obtain ⟨hlab, hsz⟩ := hE.br k l hl hf
 have hio := insL_ok hE hl (by omega) tabs.length
 have hil : E.insL k tabs.length l = ⟨yW l.ins.op (E.off (k + 1) - E.off k), 0, 0, (E.lab l.dest - E.off (k + 1)) % 65536, 0, 0, 0⟩ := by unfold zL.insL; rw [if_neg (by omega), if_pos hf]
 have HIN := zh (fun W hW => rins_any w0 E nm eb go lcp cua code tabs pos pv (E.insL k tabs.length l) hio (.slice ao E.ls.length cap) hcl W hW)
 rw [hil] at HIN
 have HAD := zh (fun W hW => raddress_any w0 E hE nm ao cap eb go lcp cua code tabs pos pv hL hLB l.dest hlab W hW)
 have HAF := zh (fun W hW => rafter_any w0 E hE nm ao cap eb go lcp cua code tabs pos pv hL k hkl W hW)
 have HIM := rbr_imm E.pl.addr (E.lab l.dest) (E.off (k + 1))
 have HV1 := zh (h.cu k (by omega))
 have HV2 := zh (h.cu (k + 1) hkl)
 have o1 := hE.off (k := k) (Nat.le_of_lt hkl)
 have o2 := hE.off (k := k + 1) hkl
 have HK1 := zh (show IntKind.i64.wrap ((k : Int) + 1) = (k : Int) + 1 from IntWalk.i64_in _ (by omega))
 have HK2 := zh (show IntKind.i64.wrap (E.off (k + 1) - E.off k) = E.off (k + 1) - E.off k from IntWalk.i64_in _ (by omega))
 have hb1 := (Below.refl w.heap.size w).alloc (zn _) (.cells #[.int .i64 (l).label, .int .i64 (l).ins.op, .int .i64 (l).ins.d, .int .i64 (l).ins.s, .int .u16 (l).ins.imm, .int .u16 (l).ins.aux, .int .i64 (l).ins.bank, .int .i64 (l).ins.size, .int .i64 (l).dest, .int .i64 (l).fn, .int .i64 (l).obj, .slice ta (l).tab.length tcp] 58)
 have hn := heap_alloc_new w (.cells #[.int .i64 (l).label, .int .i64 (l).ins.op, .int .i64 (l).ins.d, .int .i64 (l).ins.s, .int .u16 (l).ins.imm, .int .u16 (l).ins.aux, .int .i64 (l).ins.bank, .int .i64 (l).ins.size, .int .i64 (l).dest, .int .i64 (l).fn, .int .i64 (l).obj, .slice ta (l).tab.length tcp] 58)
 obtain ⟨wa, hwa⟩ : ∃ wa : World, w.alloc (.cells #[.int .i64 (l).label, .int .i64 (l).ins.op, .int .i64 (l).ins.d, .int .i64 (l).ins.s, .int .u16 (l).ins.imm, .int .u16 (l).ins.aux, .int .i64 (l).ins.bank, .int .i64 (l).ins.size, .int .i64 (l).dest, .int .i64 (l).fn, .int .i64 (l).obj, .slice ta (l).tab.length tcp] 58) = wa := ⟨_, rfl⟩
 rw [hwa] at hb1 hn
 have HB := zh hb1
 have HN := zh hn
 have HH := zh (h.stay hb1)
 have HF := zh (form2_cases hf)
 have hLBE : E.lineB k tabs.length l = xl (z6 ⟨yW l.ins.op (E.off (k + 1) - E.off k), 0, 0, (E.lab l.dest - E.off (k + 1)) % 65536, 0, 0, 0⟩) := by unfold zL.lineB; rw [hil]
 rw [hLBE]
 have c8 := cell_of_row wa w.heap.size 8 _ _ _ hn
 clear hb1 hn h hlab hio hil hl hLBE o1 o2 hf
 go_enter Try.func68, Try.ntmps68
 go_upto_region 1 with fail
 try rw [hwa]
 clear hwa
 go_upto_region 2 with (first | (go_at_call 91; refine (HAD.out _ HH.out).mono ?_; rintro e w2 ⟨rfl, hb2⟩; have HH2 := zh (HH.out.stay hb2)) | (go_at_call 92; refine (HAF.out _ HH2.out).mono ?_; rintro e w3 ⟨rfl, hb3⟩))
 have HH3 := zh (HH2.out.stay hb3)
 have HB3 := zh (HB.out.trans ((hb2.mono HB.out.size).trans (hb3.mono (Nat.le_trans HB.out.size hb2.size))))
 have hn3 := zf hb3 (zf hb2 HN.out)
 have c1 := cell_of_row w3 w.heap.size 1 _ _ _ hn3
 clear hb2 hb3 c8 HIM hn3
 go_upto_region 3 with fail
 clear c1
 have zz0 : eb < w3.heap.size := (Array.getElem?_eq_some_iff.1 HH3.out.blk).1
 have zz1 : go < w3.heap.size := (Array.getElem?_eq_some_iff.1 HH3.out.gos).1
 have hk2 : (k : Int) < (E.ls.length : Int) + 1 := by omega
 have hk3 : (k : Int) + 1 < (E.ls.length : Int) + 1 := by omega
 obtain ⟨sz, hsze⟩ : ∃ sz, E.off (k + 1) - E.off k = sz := ⟨_, rfl⟩
 have HK3 := zh (show IntKind.i64.wrap (E.off (k + 1) - E.off k) = sz by rw [HK2.out, hsze])
 rw [hsze] at hsz HIN
 have HSE := zh hsze
 clear hsze
 rcases hsz with hs | hs
 ·subst hs
  refine zV [] 18 (z5 [isV (.pointer (some ⟨eb, 0, none⟩)), isV (.pointer (some ⟨eb, 0, none⟩)), isV (.pointer (some ⟨eb, 4, none⟩)), isV (.slice (some ⟨go, 0, none⟩) (E.ls.length + 1) lcp), isV (.int .i64 k), isV (.int .i64 (k + 1)), isV ((.pointer (some ⟨go, k + 1, none⟩))), isV ((.int .i64 (E.off (k + 1)))), isV (.pointer (some ⟨eb, 0, none⟩)), isV (.pointer (some ⟨eb, 0, none⟩)), isV (.pointer (some ⟨eb, 4, none⟩)), isV (.slice (some ⟨go, 0, none⟩) (E.ls.length + 1) lcp), isV (.int .i64 k), isV ((.pointer (some ⟨go, k, none⟩))), isV ((.int .i64 (E.off k))), isV (.int .i64 2), isV (.bool false), isV (.bool false)]) (nth [[0], [1], [2], [3], [4], [5], [6], [7], [8], [9], [10], [11], [12], [13], [14], [15], [16], [17]]) (nth [[], [], [], [], [], [], [], [], [], [], [], [], [], [], [], [], [], []]) (nth [[], [0], [1], [2], [], [4], [3, 5], [6], [], [8], [9], [10], [], [11, 12], [13], [7, 14], [15], [16]]) [17] (yU w3.heap.size w3 w3.heap.size [(eb, .cells #[.string nm, .slice ao E.ls.length cap, .int .i64 E.pl.bank, .int .u16 E.pl.addr, .slice (some ⟨go, 0, none⟩) (E.ls.length + 1) lcp, .string (zO code), .string (zO tabs), pv] 127 (0, 0)), (go, .cells cua 3 (0, 0))]) (by kernel_rfl) (by kernel_rfl) (⟨(Below.refl _ _).drew, zn _, zn _, by intro x hx; simp at hx; rcases hx with rfl | rfl <;> assumption, HH3.out.blk, HH3.out.gos, trivial⟩) (yU.grow) (zG ((za (zc _)  (za (zc _)  (za (zc _)  (za (zc _)  (za (zc _)  (za (zc _)  (za (zc _)  (za (zc _)  (za (zc _)  (za (zc _)  (za (zc _)  (za (zc _)  (za (zc _)  (za (zc _)  (za (zc _)  (za (zc _)  (za (zc _)  (za (zc _) zy)))))))))))))))))))) (fun f F hF => ?_)
  simp only [List.take_succ_cons, List.take_zero, yb, Act.put, zD, zE, zF, Nat.reduceAdd] at hF
  subst hF
  refine ⟨zd ?_ (zd ?_ (zd ?_ (zd ?_ (zd ?_ (zd ?_ (zd ?_ (zd ?_ (zd ?_ (zd ?_ (zd ?_ (zd ?_ (zd ?_ (zd ?_ (zd ?_ (zd ?_ (zd ?_ (zd ?_ (yd)))))))))))))))))), ?_⟩
  ·intro w5 hS hF hD K hK
   rw [if_pos (by rfl)]
   exact svV hK rfl rfl rfl rfl (by first | rfl | kernel_rfl)  (by show _ = _; kernel_rfl)
  ·intro w5 hS hF hD K hK
   obtain ⟨(e0 : f 0 = _), -⟩ := hF
   try simp only [e0]
   rw [if_pos (by rfl)]
   exact svV hK rfl rfl rfl rfl (by first | rfl | kernel_rfl)  (by show _ = _; kernel_rfl)
  ·intro w5 hS hF hD K hK
   obtain ⟨(e1 : f 1 = _), -⟩ := hF
   try simp only [e1]
   rw [if_pos (by rfl)]
   exact svV hK rfl rfl rfl rfl (by first | rfl | kernel_rfl)  (by show _ = _; kernel_rfl)
  ·intro w5 hS hF hD K hK
   obtain ⟨(e2 : f 2 = _), -⟩ := hF
   try simp only [e2]
   rw [if_pos (by rfl)]
   exact svC hK rfl rfl rfl rfl (by first | rfl | kernel_rfl)  rfl rfl (hS.2.2.2.2.1) (by kernel_rfl) (fun _ => by kernel_rfl)
  ·intro w5 hS hF hD K hK
   rw [if_pos (by rfl)]
   exact svV hK rfl rfl rfl rfl (by first | rfl | kernel_rfl)  (by show _ = _; kernel_rfl)
  ·intro w5 hS hF hD K hK
   obtain ⟨(e4 : f 4 = _), -⟩ := hF
   try simp only [e4]
   rw [if_pos (by rfl)]
   exact zx (v := .int .i64 (IntKind.i64.wrap ((k : Int) + 1))) (by (show _ = _); kernel_rfl) (hK.out _ _ rfl (zq rfl rfl rfl (congrArg (Value.int .i64) HK1.out)))
  ·intro w5 hS hF hD K hK
   obtain ⟨(e3 : f 3 = _), (e5 : f 5 = _), -⟩ := hF
   try simp only [e3, e5]
   rw [if_pos (by rfl)]
   go_simp
   refine hK.out _ _ rfl (zq rfl rfl rfl ?_)
   first | rfl | kernel_rfl
  ·intro w5 hS hF hD K hK
   obtain ⟨(e6 : f 6 = _), -⟩ := hF
   try simp only [e6]
   rw [if_pos (by rfl)]
   exact svC hK rfl rfl rfl rfl (by first | rfl | kernel_rfl)  rfl rfl (hS.2.2.2.2.2.1) (HV2.out) (fun _ => by kernel_rfl)
  ·intro w5 hS hF hD K hK
   rw [if_pos (by rfl)]
   exact svV hK rfl rfl rfl rfl (by first | rfl | kernel_rfl)  (by show _ = _; kernel_rfl)
  ·intro w5 hS hF hD K hK
   obtain ⟨(e8 : f 8 = _), -⟩ := hF
   try simp only [e8]
   rw [if_pos (by rfl)]
   exact svV hK rfl rfl rfl rfl (by first | rfl | kernel_rfl)  (by show _ = _; kernel_rfl)
  ·intro w5 hS hF hD K hK
   obtain ⟨(e9 : f 9 = _), -⟩ := hF
   try simp only [e9]
   rw [if_pos (by rfl)]
   exact svV hK rfl rfl rfl rfl (by first | rfl | kernel_rfl)  (by show _ = _; kernel_rfl)
  ·intro w5 hS hF hD K hK
   obtain ⟨(e10 : f 10 = _), -⟩ := hF
   try simp only [e10]
   rw [if_pos (by rfl)]
   exact svC hK rfl rfl rfl rfl (by first | rfl | kernel_rfl)  rfl rfl (hS.2.2.2.2.1) (by kernel_rfl) (fun _ => by kernel_rfl)
  ·intro w5 hS hF hD K hK
   rw [if_pos (by rfl)]
   exact svV hK rfl rfl rfl rfl (by first | rfl | kernel_rfl)  (by show _ = _; kernel_rfl)
  ·intro w5 hS hF hD K hK
   obtain ⟨(e11 : f 11 = _), (e12 : f 12 = _), -⟩ := hF
   try simp only [e11, e12]
   rw [if_pos (by rfl)]
   go_simp
   refine hK.out _ _ rfl (zq rfl rfl rfl ?_)
   first | rfl | kernel_rfl
  ·intro w5 hS hF hD K hK
   obtain ⟨(e13 : f 13 = _), -⟩ := hF
   try simp only [e13]
   rw [if_pos (by rfl)]
   exact svC hK rfl rfl rfl rfl (by first | rfl | kernel_rfl)  rfl rfl (hS.2.2.2.2.2.1) (HV1.out) (fun _ => by kernel_rfl)
  ·intro w5 hS hF hD K hK
   obtain ⟨(e7 : f 7 = _), (e14 : f 14 = _), -⟩ := hF
   try simp only [e7, e14]
   rw [if_pos (by rfl)]
   exact zx (v := .int .i64 (IntKind.i64.wrap (E.off (k + 1) - E.off k))) (by (show _ = _); kernel_rfl) (hK.out _ _ rfl (zq rfl rfl rfl (congrArg (Value.int .i64) HK3.out)))
  ·intro w5 hS hF hD K hK
   obtain ⟨(e15 : f 15 = _), -⟩ := hF
   try simp only [e15]
   rw [if_pos (by rfl)]
   exact svV hK rfl rfl rfl rfl (by first | rfl | kernel_rfl)  (by show _ = _; kernel_rfl)
  ·intro w5 hS hF hD K hK
   obtain ⟨(e16 : f 16 = _), -⟩ := hF
   try simp only [e16]
   rw [if_pos (by rfl)]
   exact svV hK rfl rfl rfl rfl (by first | rfl | kernel_rfl)  (by show _ = _; kernel_rfl)
  intro w5 hS hF
  obtain ⟨(e17 : f 17 = _), -⟩ := hF
  try simp only [e17]
  refine yN (by kernel_rfl) ?_
  have HH5 := zh (HH3.out.stay hS.1)
  have HB5 := zh (HB3.out.trans (hS.1.mono HB3.out.size))
  clear hS zz0 zz1 hk2 hk3
  rcases HF.out with ⟨hc, h1 | h1⟩ | ⟨hc, h1, h2⟩
  ·have g1 : (l.ins.op == 128) = true := by rw [h1]; rfl
   have g2 : (l.ins.op == 129) = false := by rw [h1]; rfl
   have HJ := zh (show yW l.ins.op 2 = 128 by unfold yW; simp [hc])
   rw [HJ.out] at HIN
   clear h1 hc
   clear HF
   go_wp2_with (go_at_call 90; refine (HIN.out _ HH5.out).mono ?_; rintro e w9 ⟨rfl, hp9⟩; have HP9 := zh hp9; clear hp9)
   go_end0
   refine ⟨rfl, ?_⟩
   rw [HSE.out, HJ.out]
   exact (jQ (e := .returned (.tuple #[])) HB5.out ⟨rfl, HP9.out⟩).2
  ·have g1 : (l.ins.op == 128) = false := by rw [h1]; rfl
   have g2 : (l.ins.op == 129) = true := by rw [h1]; rfl
   have HJ := zh (show yW l.ins.op 2 = 128 by unfold yW; simp [hc])
   rw [HJ.out] at HIN
   clear h1 hc
   clear HF
   go_wp2_with (go_at_call 90; refine (HIN.out _ HH5.out).mono ?_; rintro e w9 ⟨rfl, hp9⟩; have HP9 := zh hp9; clear hp9)
   go_end0
   refine ⟨rfl, ?_⟩
   rw [HSE.out, HJ.out]
   exact (jQ (e := .returned (.tuple #[])) HB5.out ⟨rfl, HP9.out⟩).2
  ·have g1 : (l.ins.op == 128) = false := by simp; omega
   have g2 : (l.ins.op == 129) = false := by simp; omega
   by_cases h3 : l.ins.op < 112
   ·have hw : IntKind.i64.wrap (l.ins.op + 16) = l.ins.op + 16 := IntWalk.i64_in _ (by omega)
    have HJ := zh (show yW l.ins.op 2 = l.ins.op by unfold yW; simp [hc, h3]; try omega)
    rw [HJ.out] at HIN
    clear hc
    clear HF
    go_wp2_with (go_at_call 90; refine (HIN.out _ HH5.out).mono ?_; rintro e w9 ⟨rfl, hp9⟩; have HP9 := zh hp9; clear hp9)
    go_end0
    refine ⟨rfl, ?_⟩
    rw [HSE.out, HJ.out]
    exact (jQ (e := .returned (.tuple #[])) HB5.out ⟨rfl, HP9.out⟩).2
   ·have h3' : 112 ≤ l.ins.op := by omega
    have hw : IntKind.i64.wrap (l.ins.op - 16) = l.ins.op - 16 := IntWalk.i64_in _ (by omega)
    have HJ := zh (show yW l.ins.op 2 = l.ins.op - 16 by unfold yW; simp [hc, h3, h3']; try omega)
    rw [HJ.out] at HIN
    clear hc h3
    clear HF
    go_wp2_with (go_at_call 90; refine (HIN.out _ HH5.out).mono ?_; rintro e w9 ⟨rfl, hp9⟩; have HP9 := zh hp9; clear hp9)
    go_end0
    refine ⟨rfl, ?_⟩
    rw [HSE.out, HJ.out]
    exact (jQ (e := .returned (.tuple #[])) HB5.out ⟨rfl, HP9.out⟩).2
 ·subst hs
  refine zV [] 18 (z5 [isV (.pointer (some ⟨eb, 0, none⟩)), isV (.pointer (some ⟨eb, 0, none⟩)), isV (.pointer (some ⟨eb, 4, none⟩)), isV (.slice (some ⟨go, 0, none⟩) (E.ls.length + 1) lcp), isV (.int .i64 k), isV (.int .i64 (k + 1)), isV ((.pointer (some ⟨go, k + 1, none⟩))), isV ((.int .i64 (E.off (k + 1)))), isV (.pointer (some ⟨eb, 0, none⟩)), isV (.pointer (some ⟨eb, 0, none⟩)), isV (.pointer (some ⟨eb, 4, none⟩)), isV (.slice (some ⟨go, 0, none⟩) (E.ls.length + 1) lcp), isV (.int .i64 k), isV ((.pointer (some ⟨go, k, none⟩))), isV ((.int .i64 (E.off k))), isV (.int .i64 3), isV (.bool true), isV (.bool true)]) (nth [[0], [1], [2], [3], [4], [5], [6], [7], [8], [9], [10], [11], [12], [13], [14], [15], [16], [17]]) (nth [[], [], [], [], [], [], [], [], [], [], [], [], [], [], [], [], [], []]) (nth [[], [0], [1], [2], [], [4], [3, 5], [6], [], [8], [9], [10], [], [11, 12], [13], [7, 14], [15], [16]]) [17] (yU w3.heap.size w3 w3.heap.size [(eb, .cells #[.string nm, .slice ao E.ls.length cap, .int .i64 E.pl.bank, .int .u16 E.pl.addr, .slice (some ⟨go, 0, none⟩) (E.ls.length + 1) lcp, .string (zO code), .string (zO tabs), pv] 127 (0, 0)), (go, .cells cua 3 (0, 0))]) (by kernel_rfl) (by kernel_rfl) (⟨(Below.refl _ _).drew, zn _, zn _, by intro x hx; simp at hx; rcases hx with rfl | rfl <;> assumption, HH3.out.blk, HH3.out.gos, trivial⟩) (yU.grow) (zG ((za (zc _)  (za (zc _)  (za (zc _)  (za (zc _)  (za (zc _)  (za (zc _)  (za (zc _)  (za (zc _)  (za (zc _)  (za (zc _)  (za (zc _)  (za (zc _)  (za (zc _)  (za (zc _)  (za (zc _)  (za (zc _)  (za (zc _)  (za (zc _) zy)))))))))))))))))))) (fun f F hF => ?_)
  simp only [List.take_succ_cons, List.take_zero, yb, Act.put, zD, zE, zF, Nat.reduceAdd] at hF
  subst hF
  refine ⟨zd ?_ (zd ?_ (zd ?_ (zd ?_ (zd ?_ (zd ?_ (zd ?_ (zd ?_ (zd ?_ (zd ?_ (zd ?_ (zd ?_ (zd ?_ (zd ?_ (zd ?_ (zd ?_ (zd ?_ (zd ?_ (yd)))))))))))))))))), ?_⟩
  ·intro w5 hS hF hD K hK
   rw [if_pos (by rfl)]
   exact svV hK rfl rfl rfl rfl (by first | rfl | kernel_rfl)  (by show _ = _; kernel_rfl)
  ·intro w5 hS hF hD K hK
   obtain ⟨(e0 : f 0 = _), -⟩ := hF
   try simp only [e0]
   rw [if_pos (by rfl)]
   exact svV hK rfl rfl rfl rfl (by first | rfl | kernel_rfl)  (by show _ = _; kernel_rfl)
  ·intro w5 hS hF hD K hK
   obtain ⟨(e1 : f 1 = _), -⟩ := hF
   try simp only [e1]
   rw [if_pos (by rfl)]
   exact svV hK rfl rfl rfl rfl (by first | rfl | kernel_rfl)  (by show _ = _; kernel_rfl)
  ·intro w5 hS hF hD K hK
   obtain ⟨(e2 : f 2 = _), -⟩ := hF
   try simp only [e2]
   rw [if_pos (by rfl)]
   exact svC hK rfl rfl rfl rfl (by first | rfl | kernel_rfl)  rfl rfl (hS.2.2.2.2.1) (by kernel_rfl) (fun _ => by kernel_rfl)
  ·intro w5 hS hF hD K hK
   rw [if_pos (by rfl)]
   exact svV hK rfl rfl rfl rfl (by first | rfl | kernel_rfl)  (by show _ = _; kernel_rfl)
  ·intro w5 hS hF hD K hK
   obtain ⟨(e4 : f 4 = _), -⟩ := hF
   try simp only [e4]
   rw [if_pos (by rfl)]
   exact zx (v := .int .i64 (IntKind.i64.wrap ((k : Int) + 1))) (by (show _ = _); kernel_rfl) (hK.out _ _ rfl (zq rfl rfl rfl (congrArg (Value.int .i64) HK1.out)))
  ·intro w5 hS hF hD K hK
   obtain ⟨(e3 : f 3 = _), (e5 : f 5 = _), -⟩ := hF
   try simp only [e3, e5]
   rw [if_pos (by rfl)]
   go_simp
   refine hK.out _ _ rfl (zq rfl rfl rfl ?_)
   first | rfl | kernel_rfl
  ·intro w5 hS hF hD K hK
   obtain ⟨(e6 : f 6 = _), -⟩ := hF
   try simp only [e6]
   rw [if_pos (by rfl)]
   exact svC hK rfl rfl rfl rfl (by first | rfl | kernel_rfl)  rfl rfl (hS.2.2.2.2.2.1) (HV2.out) (fun _ => by kernel_rfl)
  ·intro w5 hS hF hD K hK
   rw [if_pos (by rfl)]
   exact svV hK rfl rfl rfl rfl (by first | rfl | kernel_rfl)  (by show _ = _; kernel_rfl)
  ·intro w5 hS hF hD K hK
   obtain ⟨(e8 : f 8 = _), -⟩ := hF
   try simp only [e8]
   rw [if_pos (by rfl)]
   exact svV hK rfl rfl rfl rfl (by first | rfl | kernel_rfl)  (by show _ = _; kernel_rfl)
  ·intro w5 hS hF hD K hK
   obtain ⟨(e9 : f 9 = _), -⟩ := hF
   try simp only [e9]
   rw [if_pos (by rfl)]
   exact svV hK rfl rfl rfl rfl (by first | rfl | kernel_rfl)  (by show _ = _; kernel_rfl)
  ·intro w5 hS hF hD K hK
   obtain ⟨(e10 : f 10 = _), -⟩ := hF
   try simp only [e10]
   rw [if_pos (by rfl)]
   exact svC hK rfl rfl rfl rfl (by first | rfl | kernel_rfl)  rfl rfl (hS.2.2.2.2.1) (by kernel_rfl) (fun _ => by kernel_rfl)
  ·intro w5 hS hF hD K hK
   rw [if_pos (by rfl)]
   exact svV hK rfl rfl rfl rfl (by first | rfl | kernel_rfl)  (by show _ = _; kernel_rfl)
  ·intro w5 hS hF hD K hK
   obtain ⟨(e11 : f 11 = _), (e12 : f 12 = _), -⟩ := hF
   try simp only [e11, e12]
   rw [if_pos (by rfl)]
   go_simp
   refine hK.out _ _ rfl (zq rfl rfl rfl ?_)
   first | rfl | kernel_rfl
  ·intro w5 hS hF hD K hK
   obtain ⟨(e13 : f 13 = _), -⟩ := hF
   try simp only [e13]
   rw [if_pos (by rfl)]
   exact svC hK rfl rfl rfl rfl (by first | rfl | kernel_rfl)  rfl rfl (hS.2.2.2.2.2.1) (HV1.out) (fun _ => by kernel_rfl)
  ·intro w5 hS hF hD K hK
   obtain ⟨(e7 : f 7 = _), (e14 : f 14 = _), -⟩ := hF
   try simp only [e7, e14]
   rw [if_pos (by rfl)]
   exact zx (v := .int .i64 (IntKind.i64.wrap (E.off (k + 1) - E.off k))) (by (show _ = _); kernel_rfl) (hK.out _ _ rfl (zq rfl rfl rfl (congrArg (Value.int .i64) HK3.out)))
  ·intro w5 hS hF hD K hK
   obtain ⟨(e15 : f 15 = _), -⟩ := hF
   try simp only [e15]
   rw [if_pos (by rfl)]
   exact svV hK rfl rfl rfl rfl (by first | rfl | kernel_rfl)  (by show _ = _; kernel_rfl)
  ·intro w5 hS hF hD K hK
   obtain ⟨(e16 : f 16 = _), -⟩ := hF
   try simp only [e16]
   rw [if_pos (by rfl)]
   exact svV hK rfl rfl rfl rfl (by first | rfl | kernel_rfl)  (by show _ = _; kernel_rfl)
  intro w5 hS hF
  obtain ⟨(e17 : f 17 = _), -⟩ := hF
  try simp only [e17]
  refine yN (by kernel_rfl) ?_
  have HH5 := zh (HH3.out.stay hS.1)
  have HB5 := zh (HB3.out.trans (hS.1.mono HB3.out.size))
  clear hS zz0 zz1 hk2 hk3
  rcases HF.out with ⟨hc, h1 | h1⟩ | ⟨hc, h1, h2⟩
  ·have g1 : (l.ins.op == 128) = true := by rw [h1]; rfl
   have g2 : (l.ins.op == 129) = false := by rw [h1]; rfl
   have HJ := zh (show yW l.ins.op 3 = 129 by unfold yW; simp [hc])
   rw [HJ.out] at HIN
   clear h1 hc
   clear HF
   go_wp2_with (go_at_call 90; refine (HIN.out _ HH5.out).mono ?_; rintro e w9 ⟨rfl, hp9⟩; have HP9 := zh hp9; clear hp9)
   go_end0
   refine ⟨rfl, ?_⟩
   rw [HSE.out, HJ.out]
   exact (jQ (e := .returned (.tuple #[])) HB5.out ⟨rfl, HP9.out⟩).2
  ·have g1 : (l.ins.op == 128) = false := by rw [h1]; rfl
   have g2 : (l.ins.op == 129) = true := by rw [h1]; rfl
   have HJ := zh (show yW l.ins.op 3 = 129 by unfold yW; simp [hc])
   rw [HJ.out] at HIN
   clear h1 hc
   clear HF
   go_wp2_with (go_at_call 90; refine (HIN.out _ HH5.out).mono ?_; rintro e w9 ⟨rfl, hp9⟩; have HP9 := zh hp9; clear hp9)
   go_end0
   refine ⟨rfl, ?_⟩
   rw [HSE.out, HJ.out]
   exact (jQ (e := .returned (.tuple #[])) HB5.out ⟨rfl, HP9.out⟩).2
  ·have g1 : (l.ins.op == 128) = false := by simp; omega
   have g2 : (l.ins.op == 129) = false := by simp; omega
   by_cases h3 : l.ins.op < 112
   ·have hw : IntKind.i64.wrap (l.ins.op + 16) = l.ins.op + 16 := IntWalk.i64_in _ (by omega)
    have HJ := zh (show yW l.ins.op 3 = l.ins.op + 16 by unfold yW; simp [hc, h3]; try omega)
    rw [HJ.out] at HIN
    clear hc
    clear HF
    go_wp2_with (go_at_call 90; refine (HIN.out _ HH5.out).mono ?_; rintro e w9 ⟨rfl, hp9⟩; have HP9 := zh hp9; clear hp9)
    go_end0
    refine ⟨rfl, ?_⟩
    rw [HSE.out, HJ.out]
    exact (jQ (e := .returned (.tuple #[])) HB5.out ⟨rfl, HP9.out⟩).2
   ·have h3' : 112 ≤ l.ins.op := by omega
    have hw : IntKind.i64.wrap (l.ins.op - 16) = l.ins.op - 16 := IntWalk.i64_in _ (by omega)
    have HJ := zh (show yW l.ins.op 3 = l.ins.op by unfold yW; simp [hc, h3, h3']; try omega)
    rw [HJ.out] at HIN
    clear hc h3
    clear HF
    go_wp2_with (go_at_call 90; refine (HIN.out _ HH5.out).mono ?_; rintro e w9 ⟨rfl, hp9⟩; have HP9 := zh hp9; clear hp9)
    go_end0
    refine ⟨rfl, ?_⟩
    rw [HSE.out, HJ.out]
    exact (jQ (e := .returned (.tuple #[])) HB5.out ⟨rfl, HP9.out⟩).2
set_option maxRecDepth 100000 in
set_option maxHeartbeats 4000000 in
theorem rcall_any (k : Nat) (l : zu) (ta fa : Option Addr) (tcp fcap : Nat) (hl : E.ls[k]? = some l) (hf : zK l.ins.op = 4) (hfv : jj w0 (.slice fa E.funcs.length fcap) E.funcs) (w : World) (h : jV w0 E nm (.slice ao E.ls.length cap) eb go lcp cua code tabs pos pv w) :
  Calls Try.prog 69 #[.pointer (some ⟨eb, 0, none⟩), .int .i64 k, .agg #[.int .i64 (l).label, .int .i64 (l).ins.op, .int .i64 (l).ins.d, .int .i64 (l).ins.s, .int .u16 (l).ins.imm, .int .u16 (l).ins.aux, .int .i64 (l).ins.bank, .int .i64 (l).ins.size, .int .i64 (l).dest, .int .i64 (l).fn, .int .i64 (l).obj, .slice ta (l).tab.length tcp], .slice fa E.funcs.length fcap] w (EnPost w0 E nm (.slice ao E.ls.length cap) eb go lcp cua (code ++ E.lineB k tabs.length l) tabs pos pv w) := by
 have hkl : k < E.ls.length := (List.getElem?_eq_some_iff.1 hl).1
 have hlen := hE.len
 have hnf := hE.nf
 have hio := insL_ok hE hl (by omega) tabs.length
 obtain ⟨kf, hkf, hkfl⟩ := hE.cl l (List.mem_of_getElem? hl) hf
 have hp : E.funcs[kf]? = some (E.fnOf l.fn) := by
  unfold zL.fnOf
  rw [hkf, Int.toNat_natCast, List.getD_eq_getElem?_getD, List.getElem?_eq_getElem hkfl]
  rfl
 obtain ⟨p, hpe⟩ : ∃ p : yw, E.fnOf l.fn = p := ⟨_, rfl⟩
 rw [hpe] at hp
 have hil : E.insL k tabs.length l = if l.ins.op ≠ 131 ∧ nearS E.pl p = true then ⟨130, 0, 0, (p.addr - E.pl.addr - E.off (k + 1)) % 65536, 0, 0, 0⟩
  else if l.ins.op = 131 then ⟨131, 0, 0, p.addr, 0, p.bank, zH 131⟩ else ⟨132, 0, 0, p.addr, 0, p.bank, zH 132⟩ := by
  unfold zL.insL; rw [if_neg (by omega), if_neg (by omega), if_pos hf, hpe]
 have HIN := zh (fun (i : Ins) (hi : z6 i = z6 (E.insL k tabs.length l)) W hW => by have := rins_any w0 E nm eb go lcp cua code tabs pos pv i (by rw [hi]; exact hio) (.slice ao E.ls.length cap) hcl W hW; rw [hi] at this; exact this)
 have HIL := zh hil
 have HAF := zh (fun W hW => rafter_any w0 E hE nm ao cap eb go lcp cua code tabs pos pv hL k hkl W hW)
 have HIM := rcl_imm p.addr E.pl.addr (E.off (k + 1))
 have hb1 := (Below.refl w.heap.size w).alloc (zn _) (.cells #[.int .i64 (l).label, .int .i64 (l).ins.op, .int .i64 (l).ins.d, .int .i64 (l).ins.s, .int .u16 (l).ins.imm, .int .u16 (l).ins.aux, .int .i64 (l).ins.bank, .int .i64 (l).ins.size, .int .i64 (l).dest, .int .i64 (l).fn, .int .i64 (l).obj, .slice ta (l).tab.length tcp] 58)
 have hn := heap_alloc_new w (.cells #[.int .i64 (l).label, .int .i64 (l).ins.op, .int .i64 (l).ins.d, .int .i64 (l).ins.s, .int .u16 (l).ins.imm, .int .u16 (l).ins.aux, .int .i64 (l).ins.bank, .int .i64 (l).ins.size, .int .i64 (l).dest, .int .i64 (l).fn, .int .i64 (l).obj, .slice ta (l).tab.length tcp] 58)
 obtain ⟨wa, hwa⟩ : ∃ wa : World, w.alloc (.cells #[.int .i64 (l).label, .int .i64 (l).ins.op, .int .i64 (l).ins.d, .int .i64 (l).ins.s, .int .u16 (l).ins.imm, .int .u16 (l).ins.aux, .int .i64 (l).ins.bank, .int .i64 (l).ins.size, .int .i64 (l).dest, .int .i64 (l).fn, .int .i64 (l).obj, .slice ta (l).tab.length tcp] 58) = wa := ⟨_, rfl⟩
 rw [hwa] at hb1 hn
 have HB := zh hb1
 have HN := zh hn
 have HH := zh (h.stay hb1)
 obtain ⟨q2, off2, c2, T2, fr2, rfl, hq2, hx2⟩ := (hfv.below HH.out.bb).at hp
 have HQ2 := zh hq2
 have HX2 := zh hx2
 obtain ⟨nb, hnb⟩ : ∃ nb : Bool, nearS E.pl p = nb := ⟨_, rfl⟩
 have HNR := zh (show ∀ V, Calls Try.prog 88 #[.agg #[.int .i64 E.pl.bank, .int .u16 E.pl.addr], .agg #[.int .i64 p.bank, .int .u16 p.addr]] V fun e w' => e = .returned (.bool nb) ∧ Below V.heap.size V w' from fun V => by have := rnear_any E.pl p V; rw [hnb] at this; exact this)
 rw [hnb] at HIL
 have hLBE : E.lineB k tabs.length l = xl (z6 (E.insL k tabs.length l)) := rfl
 rw [hLBE]
 have c9 := cell_of_row wa w.heap.size 9 _ _ _ hn
 rw [show (#[.int .i64 (l).label, .int .i64 (l).ins.op, .int .i64 (l).ins.d, .int .i64 (l).ins.s, .int .u16 (l).ins.imm, .int .u16 (l).ins.aux, .int .i64 (l).ins.bank, .int .i64 (l).ins.size, .int .i64 (l).dest, .int .i64 (l).fn, .int .i64 (l).obj, .slice ta (l).tab.length tcp] : Array Value)[9]? = some (.int .i64 kf) by rw [hkf]; rfl] at c9
 clear hb1 hn h hio hil hl hLBE hf hp hpe hkf hq2 hx2 hnb
 go_enter Try.func69, Try.ntmps69
 go_upto_region 1 with fail
 try rw [hwa]
 clear hwa
 go_upto_region 2 with (first | (refine wpList_store_row rfl _ _ _ rfl _ _ rfl rfl _ _ (heap_alloc_new _ _) ?_ ?_ ?_ ?_; kernel_rfl; rfl; kernel_rfl; rw [World.setRow_alloc_new]) | (refine z9 _ _ rfl _ _ rfl _ _ _ (HQ2.out) ([.int .i64 p.bank, .int .u16 p.addr]) (HX2.out) ?_ ?_ ?_; kernel_rfl; kernel_rfl))
 have hn2 := heap_alloc_new wa (.cells #[.int .i64 p.bank, .int .u16 p.addr] 37)
 have hb2 := (Below.refl wa.heap.size wa).alloc (zn _) (.cells #[.int .i64 p.bank, .int .u16 p.addr] 37)
 obtain ⟨wb, hwb⟩ : ∃ wb : World, wa.alloc (.cells #[.int .i64 p.bank, .int .u16 p.addr] 37) = wb := ⟨_, rfl⟩
 obtain ⟨g, hg⟩ : ∃ g : Nat, wa.heap.size = g := ⟨_, rfl⟩
 rw [hwb] at hb2 hn2 ⊢
 have HBB := zh (HB.out.trans (hb2.mono HB.out.size))
 have HHB := zh (HH.out.stay hb2)
 have HNB := zh (zf hb2 HN.out)
 rw [hg] at hn2 ⊢
 have HN2 := zh hn2
 clear hwb hg hb2 hn2 c9 HH HN HQ2 HB
 try simp only [Act.put]
 have zz0 : eb < wb.heap.size := (Array.getElem?_eq_some_iff.1 HHB.out.blk).1
 have zz1 : g < wb.heap.size := (Array.getElem?_eq_some_iff.1 HN2.out).1
 clear HIM
 refine zV [] 7 (z5 [isV (.pointer (some ⟨eb, 0, none⟩)), isV (.pointer (some ⟨eb, 0, none⟩)), isV (.pointer (some ⟨eb, 2, none⟩)), isV (.agg (#[.int .i64 E.pl.bank, .int .u16 E.pl.addr])), isV (.agg #[.int .i64 p.bank, .int .u16 p.addr]), isV (.bool nb), isV (.bool nb)]) (nth [[0], [1], [2], [3], [4], [5], [6]]) (nth [[], [], [], [], [], [], []]) (nth [[], [0], [1], [2], [], [3, 4], [5]]) [6] (yU wb.heap.size wb wb.heap.size [(eb, .cells #[.string nm, .slice ao E.ls.length cap, .int .i64 E.pl.bank, .int .u16 E.pl.addr, .slice (some ⟨go, 0, none⟩) (E.ls.length + 1) lcp, .string (zO code), .string (zO tabs), pv] 127 (0, 0)), (g, .cells #[.int .i64 p.bank, .int .u16 p.addr] 37 (0, 0))]) (by kernel_rfl) (by kernel_rfl) (⟨(Below.refl _ _).drew, zn _, zn _, by intro x hx; simp at hx; rcases hx with rfl | rfl <;> assumption, HHB.out.blk, HN2.out, trivial⟩) (yU.grow) (zG ((za (zc _)  (za (zc _)  (za (zc _)  (za (zc _)  (za (zc _)  (za (zc _)  (za (zc _) zy))))))))) (fun f F hF => ?_)
 simp only [List.take_succ_cons, List.take_zero, yb, Act.put, zD, zE, zF, Nat.reduceAdd] at hF
 subst hF
 refine ⟨zd ?_ (zd ?_ (zd ?_ (zd ?_ (zd ?_ (zd ?_ (zd ?_ (yd))))))), ?_⟩
 ·intro w5 hS hF hD K hK
  rw [if_pos (by rfl)]
  exact svV hK rfl rfl rfl rfl (by first | rfl | kernel_rfl)  (by show _ = _; kernel_rfl)
 ·intro w5 hS hF hD K hK
  obtain ⟨(e0 : f 0 = _), -⟩ := hF
  try simp only [e0]
  rw [if_pos (by rfl)]
  exact svV hK rfl rfl rfl rfl (by first | rfl | kernel_rfl)  (by show _ = _; kernel_rfl)
 ·intro w5 hS hF hD K hK
  obtain ⟨(e1 : f 1 = _), -⟩ := hF
  try simp only [e1]
  rw [if_pos (by rfl)]
  exact svV hK rfl rfl rfl rfl (by first | rfl | kernel_rfl)  (by show _ = _; kernel_rfl)
 ·intro w5 hS hF hD K hK
  obtain ⟨(e2 : f 2 = _), -⟩ := hF
  try simp only [e2]
  rw [if_pos (by rfl)]
  exact svV hK rfl rfl rfl rfl (by first | rfl | kernel_rfl)  (xd _ _ rfl _ _ rfl _ _ _ (hS.2.2.2.2.1) (#[.int .i64 E.pl.bank, .int .u16 E.pl.addr]).toList (by kernel_rfl) (by kernel_rfl))
 ·intro w5 hS hF hD K hK
  rw [if_pos (by rfl)]
  exact svR hK rfl rfl rfl rfl (by first | rfl | kernel_rfl)  rfl rfl (hS.2.2.2.2.2.1) (by kernel_rfl)
 ·intro w5 hS hF hD K hK
  obtain ⟨(e3 : f 3 = _), (e4 : f 4 = _), -⟩ := hF
  try simp only [e3, e4]
  rw [if_pos (by rfl)]
  go_simp
  go_at_call 88; refine (HNR.out _).mono ?_; rintro e w6 ⟨rfl, hbelow⟩; go_simp
  refine hK.out _ _ rfl (zP rfl rfl rfl hbelow ?_)
  first | rfl | kernel_rfl
 ·intro w5 hS hF hD K hK
  obtain ⟨(e5 : f 5 = _), -⟩ := hF
  try simp only [e5]
  rw [if_pos (by rfl)]
  exact svV hK rfl rfl rfl rfl (by first | rfl | kernel_rfl)  (by show _ = _; kernel_rfl)
 intro w5 hS hF
 obtain ⟨(e6 : f 6 = _), -⟩ := hF
 try simp only [e6]
 refine yN (by kernel_rfl) ?_
 have HIM := rcl_imm p.addr E.pl.addr (E.off (k + 1))
 have HH5 := zh (HHB.out.stay hS.1)
 have HB5 := zh (HBB.out.trans (hS.1.mono HBB.out.size))
 have HN5 := zh (zf hS.1 HN2.out)
 have HL5 := zh (zf hS.1 HNB.out)
 clear hS zz0 zz1
 have c1 := cell_of_row w5 w.heap.size 1 _ _ _ HL5.out
 have cp : ∀ o : Nat, w5.cell? ⟨g, o, none⟩ = (#[Value.int .i64 p.bank, .int .u16 p.addr] : Array Value)[o]? := fun o => cell_of_row w5 g o _ _ _ HN5.out
 by_cases h131 : l.ins.op = 131
 ·have ha : (l.ins.op == 131) = true := by simp [h131]
  have HII := zh (HIN.out ⟨131, 0, 0, p.addr, 0, p.bank, 0⟩ (by rw [HIL.out, if_neg (fun h => h.1 h131), if_pos h131]; rfl) w5 HH5.out)
  clear h131
  go_wp2_with (go_at_call 90; refine (HII.out).mono ?_; rintro e w9 ⟨rfl, hp9⟩; have HP9 := zh hp9; clear hp9)
  go_end0
  exact ⟨rfl, (jQ (e := .returned (.tuple #[])) HB5.out ⟨rfl, HP9.out⟩).2⟩
 ·have ha : (l.ins.op == 131) = false := by simp [h131]
  cases nb with
  | false =>
   have HII := zh (HIN.out ⟨132, 0, 0, p.addr, 0, p.bank, 0⟩ (by rw [HIL.out, if_neg (fun h => by cases h.2), if_neg h131]; rfl) w5 HH5.out)
   clear h131
   go_wp2_with (go_at_call 90; refine (HII.out).mono ?_; rintro e w9 ⟨rfl, hp9⟩; have HP9 := zh hp9; clear hp9)
   go_end0
   exact ⟨rfl, (jQ (e := .returned (.tuple #[])) HB5.out ⟨rfl, HP9.out⟩).2⟩
  | true =>
   have HII := zh (fun W hW => HIN.out ⟨130, 0, 0, (p.addr - E.pl.addr - E.off (k + 1)) % 65536, 0, 0, 0⟩ (by rw [HIL.out, if_pos ⟨h131, rfl⟩]) W hW)
   clear h131
   go_upto_region 7 with fail
   have zz0 : eb < w5.heap.size := (Array.getElem?_eq_some_iff.1 HH5.out.blk).1
   have zz1 : g < w5.heap.size := (Array.getElem?_eq_some_iff.1 HN5.out).1
   have HIM2 := zh HIM
   clear cp c1 HIM
   refine ye [] 8 (z5 [isV (.pointer (some ⟨eb, 0, none⟩)), isV (.pointer (some ⟨g, 1, none⟩)), isV (.int .u16 p.addr), isV (.pointer (some ⟨eb, 0, none⟩)), isV (.int .i64 k), isV (.int .u16 ((E.pl.addr + E.off (k + 1)) % 65536)), isV (.int .u16 ((p.addr - E.pl.addr - E.off (k + 1)) % 65536)), isV (.agg #[.int .i64 130, .int .i64 0, .int .i64 0, .int .u16 ((p.addr - E.pl.addr - E.off (k + 1)) % 65536), .int .u16 0, .int .i64 0, .int .i64 0])]) (nth [[0], [1], [2], [3], [4], [5], [6], [7]]) (nth [[], [], [], [], [], [], [], []]) (nth [[], [], [1], [], [], [3, 4], [2, 5], [6]]) [0, 7] (yU w5.heap.size w5 w5.heap.size [(g, .cells #[.int .i64 p.bank, .int .u16 p.addr] 37 (0, 0))]) (by kernel_rfl) (by kernel_rfl) (⟨(Below.refl _ _).drew, zn _, zn _, by intro x hx; simp at hx; subst hx; assumption, HN5.out, trivial⟩) (yU.grow) (zG ((za (zc _)  (za (zc _)  (za (zc _)  (za (zc _)  (za (zc _)  (za (zc _)  (za (zc _)  (za (zc _) zy)))))))))) (fun f F hF => ?_)
   simp only [List.take_succ_cons, List.take_zero, yb, Act.put, zD, zE, zF, Nat.reduceAdd] at hF
   subst hF
   refine ⟨ze ?_ (ze ?_ (ze ?_ (ze ?_ (ze ?_ (ze ?_ (ze ?_ (ze ?_ (yf)))))))), ?_⟩
   ·intro w6 hS hF hD K hK
    rw [if_pos (by rfl)]
    exact svV hK rfl rfl rfl rfl (by first | rfl | kernel_rfl)  (by show _ = _; kernel_rfl)
   ·intro w6 hS hF hD K hK
    rw [if_pos (by rfl)]
    exact svV hK rfl rfl rfl rfl (by first | rfl | kernel_rfl)  (by show _ = _; kernel_rfl)
   ·intro w6 hS hF hD K hK
    obtain ⟨(e1 : f 1 = _), -⟩ := hF
    try simp only [e1]
    rw [if_pos (by rfl)]
    exact svC hK rfl rfl rfl rfl (by first | rfl | kernel_rfl)  rfl rfl (hS.2.2.2.2.1) (by kernel_rfl) (fun _ => by kernel_rfl)
   ·intro w6 hS hF hD K hK
    rw [if_pos (by rfl)]
    exact svV hK rfl rfl rfl rfl (by first | rfl | kernel_rfl)  (by show _ = _; kernel_rfl)
   ·intro w6 hS hF hD K hK
    rw [if_pos (by rfl)]
    exact svV hK rfl rfl rfl rfl (by first | rfl | kernel_rfl)  (by show _ = _; kernel_rfl)
   ·intro w6 hS hF hD K hK
    obtain ⟨(e3 : f 3 = _), (e4 : f 4 = _), -⟩ := hF
    try simp only [e3, e4]
    rw [if_pos (by rfl)]
    go_simp
    go_at_call 92; refine (HAF.out _ (HH5.out.stay hS.1)).mono ?_; rintro e w7 ⟨rfl, hbelow⟩; go_simp
    refine hK.out _ _ rfl (zP rfl rfl rfl hbelow ?_)
    first | rfl | kernel_rfl
   ·intro w6 hS hF hD K hK
    obtain ⟨(e2 : f 2 = _), (e5 : f 5 = _), -⟩ := hF
    try simp only [e2, e5]
    rw [if_pos (by rfl)]
    exact zx (v := .int .u16 (IntKind.u16.wrap (p.addr - (E.pl.addr + E.off (k + 1)) % 65536))) (by (show _ = _); kernel_rfl) (hK.out _ _ rfl (zq rfl rfl rfl (congrArg (Value.int .u16) HIM2.out)))
   ·intro w6 hS hF hD K hK
    obtain ⟨(e6 : f 6 = _), -⟩ := hF
    try simp only [e6]
    rw [if_pos (by rfl)]
    exact svV hK rfl rfl rfl rfl (by first | rfl | kernel_rfl)  (by show _ = _; kernel_rfl)
   intro w6 hS hF
   obtain ⟨(e0 : f 0 = _), (e7 : f 7 = _), -⟩ := hF
   try simp only [e0, e7]
   simp only [List.drop_succ_cons, List.drop_zero]
   have HH6 := zh (HH5.out.stay hS.1)
   have HB6 := zh (HB5.out.trans (hS.1.mono HB5.out.size))
   clear hS zz0 zz1
   go_wp2_with (go_at_call 90; refine (HII.out _ HH6.out).mono ?_; rintro e w9 ⟨rfl, hp9⟩; have HP9 := zh hp9; clear hp9)
   go_end0
   exact ⟨rfl, (jQ (e := .returned (.tuple #[])) HB6.out ⟨rfl, HP9.out⟩).2⟩
end
end Go.Proofs.Ythebmoggbgldmaa
