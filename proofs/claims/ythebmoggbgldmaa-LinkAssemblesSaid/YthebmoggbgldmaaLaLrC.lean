/- The reference of chapter 19: is a line well-formed. The conditions: the line's numbers. (Printed by gen_lrc.py.) -/
import Derived.Test.YthebmoggbgldmaaLaLrB
set_option linter.all false
namespace Go.Proofs.Ythebmoggbgldmaa
open Go Go.RowKit Go.Maps
def rl1 (ls : List zu) (l : zu) : Bool := decide (l.label < -1) || (decide (0 ≤ l.label) && decide (xg ls l.label < 0))
def rl2 (f : Int) (l : zu) : Bool := (decide (f ≠ 3) && decide (0 < l.tab.length)) || (decide (f ≠ 1) && decide (l.obj ≠ -1)) || (decide (f ≠ 4) && decide (l.fn ≠ -1)) || ((decide (f = 1) || decide (f = 4)) && decide (l.dest ≠ -1))
def rl3 (l : zu) : Bool := decide (l.ins.d < 0) || decide (7 < l.ins.d) || decide (l.tab.length < 1) || decide (255 < l.tab.length)
theorem rl_1 {ls : List zu} {nf no : Nat} {l : zu} (h : rl1 ls l = true) : xu ls nf no l = false := by
 unfold xu
 rw [if_pos]
 simpa [rl1] using h
theorem rl_un {ls : List zu} {nf no : Nat} {l : zu} (h : rl1 ls l = false) : xu ls nf no l = if rl2 (zK l.ins.op) l = true then false else
 if (zK l.ins.op = 2 ∨ zK l.ins.op = 3) ∧ xg ls l.dest < 0 then false else
 if zK l.ins.op = 1 then zR { l.ins with size := zp l.ins.op } && (l.obj == -1 || (decide (0 ≤ l.obj) && decide (l.obj < no) && xR l.ins.op)) else
 if zK l.ins.op = 2 then true else
 if zK l.ins.op = 4 then decide (0 ≤ l.fn) && decide (l.fn < nf) else
 if zK l.ins.op = 3 then !(rl3 l) && l.tab.all (fun n => decide (0 ≤ xg ls n)) else false := by
 unfold xu
 rw [if_neg (by intro h2; have : rl1 ls l = true := (by simpa [rl1] using h2); rw [h] at this; cases this)]
 have e : ((zK l.ins.op ≠ 3 ∧ 0 < l.tab.length) ∨ (zK l.ins.op ≠ 1 ∧ l.obj ≠ -1) ∨ (zK l.ins.op ≠ 4 ∧ l.fn ≠ -1) ∨ ((zK l.ins.op = 1 ∨ zK l.ins.op = 4) ∧ l.dest ≠ -1)) ↔ rl2 (zK l.ins.op) l = true := by
  unfold rl2
  simp only [Bool.or_eq_true, Bool.and_eq_true, decide_eq_true_eq, or_assoc]
 by_cases h2 : rl2 (zK l.ins.op) l = true
 ·rw [if_pos (e.2 h2), if_pos h2]
 ·rw [if_neg (fun h3 => h2 (e.1 h3)), if_neg h2]
  rfl
theorem rl_2 {ls : List zu} {nf no : Nat} {l : zu} (h : rl1 ls l = false) (h2 : rl2 (zK l.ins.op) l = true) : xu ls nf no l = false := by rw [rl_un h, if_pos h2]
theorem rl_0 {ls : List zu} {nf no : Nat} {l : zu} (h : rl1 ls l = false) (hf : zK l.ins.op = 0) : xu ls nf no l = false := by
 rw [rl_un h, hf]; simp
theorem rl_j {ls : List zu} {nf no : Nat} {l : zu} (h : rl1 ls l = false) (hf : zK l.ins.op = 2 ∨ zK l.ins.op = 3) (hr : xg ls l.dest < 0) : xu ls nf no l = false := by
 rw [rl_un h]
 split
 ·rfl
 ·rw [if_pos ⟨hf, hr⟩]
theorem rl_b {ls : List zu} {nf no : Nat} {l : zu} (h : rl1 ls l = false) (h2 : rl2 (zK l.ins.op) l = false) (hf : zK l.ins.op = 2) (hr : ¬ xg ls l.dest < 0) : xu ls nf no l = true := by
 rw [rl_un h, h2, if_neg (by simp), if_neg (fun h => hr h.2), if_neg (by omega), if_pos hf]
theorem rl_c {ls : List zu} {nf no : Nat} {l : zu} (h : rl1 ls l = false) (h2 : rl2 (zK l.ins.op) l = false) (hf : zK l.ins.op = 4) : xu ls nf no l = (decide (0 ≤ l.fn) && decide (l.fn < nf)) := by
 rw [rl_un h, h2, if_neg (by simp), if_neg (fun h => by omega), if_neg (by omega), if_neg (by omega), if_pos hf]
theorem rl_t {ls : List zu} {nf no : Nat} {l : zu} (h : rl1 ls l = false) (h2 : rl2 (zK l.ins.op) l = false) (hf : zK l.ins.op = 3) (hr : ¬ xg ls l.dest < 0) : xu ls nf no l = (!(rl3 l) && l.tab.all (fun n => decide (0 ≤ xg ls n))) := by
 rw [rl_un h, h2, if_neg (by simp), if_neg (fun h => hr h.2), if_neg (by omega), if_neg (by omega), if_neg (by omega), if_pos hf]
theorem rl_p {ls : List zu} {nf no : Nat} {l : zu} (h : rl1 ls l = false) (h2 : rl2 (zK l.ins.op) l = false) (hf : zK l.ins.op = 1) : xu ls nf no l = (zR (z6 l.ins) && (l.obj == -1 || (decide (0 ≤ l.obj) && decide (l.obj < no) && xR l.ins.op))) := by
 rw [rl_un h, h2, if_neg (by simp), if_neg (fun h => by omega), if_pos hf]
 have hop : 0 ≤ l.ins.op ∧ l.ins.op ≤ 255 := form1_op hf
 have e : z6 l.ins = { l.ins with size := zp l.ins.op } := by
  unfold z6
  rw [Int.emod_eq_of_lt hop.1 (by omega), ju]
 rw [e]
set_option maxRecDepth 100000 in
set_option maxHeartbeats 8000000 in
theorem rline_any (nm : ByteArray) (ls : List zu) (hlen : ls.length ≤ 1000) (ao : Option Addr) (cap nf no : Nat) (hnf : nf < 65536) (hno : no < 65536) (l : zu) (hlo : l.Ok) (ta : Option Addr) (tcp : Nat) (w : World) (hL : yJ w (.slice ao ls.length cap) ls) (hI : xO w (.slice ta l.tab.length tcp) l.tab) :
  Calls Try.prog 34 #[.agg #[.string nm, .slice ao ls.length cap], .agg #[.int .i64 (l).label, .int .i64 (l).ins.op, .int .i64 (l).ins.d, .int .i64 (l).ins.s, .int .u16 (l).ins.imm, .int .u16 (l).ins.aux, .int .i64 (l).ins.bank, .int .i64 (l).ins.size, .int .i64 (l).dest, .int .i64 (l).fn, .int .i64 (l).obj, .slice ta (l).tab.length tcp], .int .i64 nf, .int .i64 no] w fun e w' => e = .returned (.bool (xu ls nf no l)) ∧ Below w.heap.size w w' := by
 have htl := hlo.tlen
 obtain ⟨h2, h3⟩ := yy w (.cells #[.string nm, .slice ao ls.length cap] 32) (.cells #[.int .i64 (l).label, .int .i64 (l).ins.op, .int .i64 (l).ins.d, .int .i64 (l).ins.s, .int .u16 (l).ins.imm, .int .u16 (l).ins.aux, .int .i64 (l).ins.bank, .int .i64 (l).ins.size, .int .i64 (l).dest, .int .i64 (l).fn, .int .i64 (l).obj, .slice ta (l).tab.length tcp] 58)
 have hB : Below w.heap.size w ((w.alloc (.cells #[.string nm, .slice ao ls.length cap] 32)).alloc (.cells #[.int .i64 (l).label, .int .i64 (l).ins.op, .int .i64 (l).ins.d, .int .i64 (l).ins.s, .int .u16 (l).ins.imm, .int .u16 (l).ins.aux, .int .i64 (l).ins.bank, .int .i64 (l).ins.size, .int .i64 (l).dest, .int .i64 (l).fn, .int .i64 (l).obj, .slice ta (l).tab.length tcp] 58)) := ((Below.refl _ _).alloc (zn _) _).alloc (by simp) _
 obtain ⟨wa, hwa⟩ : ∃ wa : World, (w.alloc (.cells #[.string nm, .slice ao ls.length cap] 32)).alloc (.cells #[.int .i64 (l).label, .int .i64 (l).ins.op, .int .i64 (l).ins.d, .int .i64 (l).ins.s, .int .u16 (l).ins.imm, .int .u16 (l).ins.aux, .int .i64 (l).ins.bank, .int .i64 (l).ins.size, .int .i64 (l).dest, .int .i64 (l).fn, .int .i64 (l).obj, .slice ta (l).tab.length tcp] 58) = wa := ⟨_, rfl⟩
 rw [hwa] at h2 h3 hB
 have HLA := zh (fun (n : Int) (W : World) (hW : Below w.heap.size w W) => rlabel_any nm ls hlen ao cap n W (hL.below hW))
 have HI := zh hI
 have H2 := zh h2
 have H3 := zh h3
 have HB := zh hB
 obtain ⟨b1, hb1⟩ : ∃ b : Bool, rl1 ls l = b := ⟨_, rfl⟩
 have cc : ∀ o : Nat, wa.cell? ⟨w.heap.size, o, none⟩ = (#[Value.string nm, .slice ao ls.length cap] : Array Value)[o]? := fun o => cell_of_row wa _ o _ _ _ h2
 have cl : ∀ o : Nat, wa.cell? ⟨w.heap.size + 1, o, none⟩ = (#[.int .i64 (l).label, .int .i64 (l).ins.op, .int .i64 (l).ins.d, .int .i64 (l).ins.s, .int .u16 (l).ins.imm, .int .u16 (l).ins.aux, .int .i64 (l).ins.bank, .int .i64 (l).ins.size, .int .i64 (l).dest, .int .i64 (l).fn, .int .i64 (l).obj, .slice ta (l).tab.length tcp] : Array Value)[o]? := fun o => cell_of_row wa _ o _ _ _ h3
 have HOK := zh hlo
 clear hL hI h2 h3 hB hlo
 go_enter Try.func34, Try.ntmps34
 go_upto_region 1 with fail
 try rw [hwa]
 clear hwa
 go_cut [27] (fun s wx => s = .bool b1 ∧ Hid (Below w.heap.size w wx) ∧ Hid (wx.heap[w.heap.size]? = some (.cells #[.string nm, .slice ao ls.length cap] 32 (0, 0))) ∧ Hid (wx.heap[w.heap.size + 1]? = some (.cells #[.int .i64 (l).label, .int .i64 (l).ins.op, .int .i64 (l).ins.d, .int .i64 (l).ins.s, .int .u16 (l).ins.imm, .int .u16 (l).ins.aux, .int .i64 (l).ins.bank, .int .i64 (l).ins.size, .int .i64 (l).dest, .int .i64 (l).fn, .int .i64 (l).obj, .slice ta (l).tab.length tcp] 58 (0, 0))))
 case first =>
  by_cases a : l.label < -1
  ·have e : b1 = true := by rw [← hb1]; simp [rl1, a]
   subst e
   clear hb1
   go_wp2_with fail
   go_meet
   exact ⟨rfl, HB, H2, H3⟩
  ·have a' : -1 ≤ l.label := by omega
   by_cases a2 : 0 ≤ l.label
   ·obtain ⟨r, hr⟩ : ∃ r, xg ls l.label = r := ⟨_, rfl⟩
    have HLB := zh (HLA.out l.label wa HB.out)
    rw [hr] at HLB
    by_cases a3 : r < 0
    ·have e : b1 = true := by rw [← hb1]; simp [rl1, a2, hr, a3]
     subst e
     clear hb1 hr
     go_wp2_with (go_at_call 71; refine (HLB.out).mono ?_; rintro e w3 ⟨rfl, hb3⟩; have HX := zh (And.intro (HB.out.trans (hb3.mono HB.out.size)) (And.intro (zf hb3 H2.out) (zf hb3 H3.out))); clear hb3)
     go_meet
     exact ⟨rfl, zh HX.out.1, zh HX.out.2.1, zh HX.out.2.2⟩
    ·have a3' : 0 ≤ r := by omega
     have e : b1 = false := by rw [← hb1]; simp [rl1, hr, a3]; omega
     subst e
     clear hb1 hr
     go_wp2_with (go_at_call 71; refine (HLB.out).mono ?_; rintro e w3 ⟨rfl, hb3⟩; have HX := zh (And.intro (HB.out.trans (hb3.mono HB.out.size)) (And.intro (zf hb3 H2.out) (zf hb3 H3.out))); clear hb3)
     go_meet
     exact ⟨by first | rfl | (simp; omega), zh HX.out.1, zh HX.out.2.1, zh HX.out.2.2⟩
   ·have a2' : l.label < 0 := by omega
    have e : b1 = false := by rw [← hb1]; simp [rl1]; omega
    subst e
    clear hb1
    go_wp2_with fail
    go_meet
    exact ⟨rfl, HB, H2, H3⟩
 case rest =>
  obtain ⟨rfl, HB1, H21, H31⟩ := hcut
  clear cc cl HB H2 H3
  cases b1 with
  | true =>
   have HV := zh (rl_1 (nf := nf) (no := no) hb1)
   clear hb1
   go_wp2_with fail
   go_ret
   exact ⟨by rw [HV.out]; rfl, HB1.out⟩
  | false =>
   have HR1 := zh hb1
   clear hb1
   have cl0 := cell_of_row _ (w.heap.size + 1) 1 _ _ _ H31.out
   have HFO := zh (fun V => y2 l.ins.op V)
   go_upto_region 4 with (go_at_call 18; refine (HFO.out _).mono ?_; rintro e wb ⟨rfl, hbb⟩)
   have HB := zh (HB1.out.trans (hbb.mono HB1.out.size))
   have H2 := zh (zf hbb H21.out)
   have H3 := zh (zf hbb H31.out)
   clear hbb cl0 HB1 H21 H31
   have cc : ∀ o : Nat, wb.cell? ⟨w.heap.size, o, none⟩ = (#[Value.string nm, .slice ao ls.length cap] : Array Value)[o]? := fun o => cell_of_row wb _ o _ _ _ H2.out
   have cl : ∀ o : Nat, wb.cell? ⟨w.heap.size + 1, o, none⟩ = (#[.int .i64 (l).label, .int .i64 (l).ins.op, .int .i64 (l).ins.d, .int .i64 (l).ins.s, .int .u16 (l).ins.imm, .int .u16 (l).ins.aux, .int .i64 (l).ins.bank, .int .i64 (l).ins.size, .int .i64 (l).dest, .int .i64 (l).fn, .int .i64 (l).obj, .slice ta (l).tab.length tcp] : Array Value)[o]? := fun o => cell_of_row wb _ o _ _ _ H3.out
   rcases xL l.ins.op with hf | hf | hf | hf | hf
   ·as_aux_lemma =>
    rw [hf]
    obtain ⟨b2, hb2⟩ : ∃ b : Bool, rl2 0 l = b := ⟨_, rfl⟩
    have HF := zh hf
    clear hf
    go_cut [70] (fun s wx => s = .bool (rl2 0 l) ∧ wx = wb)
    case first =>
     clear hb2
     by_cases k_tab : 0 < l.tab.length
     ·skip
      have e : rl2 0 l = true := by simp [rl2, k_tab]
      go_wp2_with fail
      go_meet
      exact ⟨by rw [e], rfl⟩
     ·replace k_tab : l.tab.length = 0 := by omega
      by_cases k_obj : l.obj = -1
      rotate_left
      ·have ka : (l.obj == -1) = false := by simp [k_obj]
       have kb : (l.obj != -1) = true := by simp [k_obj]
       have e : rl2 0 l = true := by simp [rl2, k_obj]
       go_wp2_with fail
       go_meet
       exact ⟨by rw [e], rfl⟩
      ·skip
       by_cases k_fn : l.fn = -1
       rotate_left
       ·have ka : (l.fn == -1) = false := by simp [k_fn]
        have kb : (l.fn != -1) = true := by simp [k_fn]
        have e : rl2 0 l = true := by simp [rl2, k_fn]
        go_wp2_with fail
        go_meet
        exact ⟨by rw [e], rfl⟩
       ·skip
        have e : rl2 0 l = false := by simp [rl2, k_tab, k_obj, k_fn]
        go_wp2_with fail
        go_meet
        exact ⟨by rw [e], rfl⟩
    case rest =>
     obtain ⟨rfl, rfl⟩ := hcut
     rw [hb2]
     cases b2 with
     | true =>
      have HV := zh (rl_2 (nf := nf) (no := no) HR1.out (show rl2 (zK l.ins.op) l = true by rw [HF.out]; exact hb2))
      clear hb2
      go_wp2_with fail
      go_ret
      exact ⟨by rw [HV.out]; rfl, HB.out⟩
     | false =>
      have HR2 := zh (show rl2 (zK l.ins.op) l = false by rw [HF.out]; exact hb2)
      clear hb2
      have HV := zh (rl_0 (nf := nf) (no := no) HR1.out HF.out)
      go_wp2_with fail
      try rw [Exit.noGoto_ret]
      go_ret
      exact ⟨by rw [HV.out]; rfl, HB.out⟩
   ·as_aux_lemma =>
    rw [hf]
    obtain ⟨b2, hb2⟩ : ∃ b : Bool, rl2 1 l = b := ⟨_, rfl⟩
    have HF := zh hf
    clear hf
    go_cut [70] (fun s wx => s = .bool (rl2 1 l) ∧ wx = wb)
    case first =>
     clear hb2
     by_cases k_tab : 0 < l.tab.length
     ·skip
      have e : rl2 1 l = true := by simp [rl2, k_tab]
      go_wp2_with fail
      go_meet
      exact ⟨by rw [e], rfl⟩
     ·replace k_tab : l.tab.length = 0 := by omega
      by_cases k_fn : l.fn = -1
      rotate_left
      ·have ka : (l.fn == -1) = false := by simp [k_fn]
       have kb : (l.fn != -1) = true := by simp [k_fn]
       have e : rl2 1 l = true := by simp [rl2, k_fn]
       go_wp2_with fail
       go_meet
       exact ⟨by rw [e], rfl⟩
      ·skip
       by_cases k_dest : l.dest = -1
       rotate_left
       ·have ka : (l.dest == -1) = false := by simp [k_dest]
        have kb : (l.dest != -1) = true := by simp [k_dest]
        have e : rl2 1 l = true := by simp [rl2, k_dest]
        go_wp2_with fail
        go_meet
        exact ⟨by rw [e], rfl⟩
       ·skip
        have e : rl2 1 l = false := by simp [rl2, k_tab, k_fn, k_dest]
        go_wp2_with fail
        go_meet
        exact ⟨by rw [e], rfl⟩
    case rest =>
     obtain ⟨rfl, rfl⟩ := hcut
     rw [hb2]
     cases b2 with
     | true =>
      have HV := zh (rl_2 (nf := nf) (no := no) HR1.out (show rl2 (zK l.ins.op) l = true by rw [HF.out]; exact hb2))
      clear hb2
      go_wp2_with fail
      go_ret
      exact ⟨by rw [HV.out]; rfl, HB.out⟩
     | false =>
      have HR2 := zh (show rl2 (zK l.ins.op) l = false by rw [HF.out]; exact hb2)
      clear hb2
      have HV := zh (rl_p (nf := nf) (no := no) HR1.out HR2.out HF.out)
      have HSD := zh (show ∀ V, Calls Try.prog 72 #[.agg #[.int .i64 l.ins.op, .int .i64 l.ins.d, .int .i64 l.ins.s, .int .u16 l.ins.imm, .int .u16 l.ins.aux, .int .i64 l.ins.bank, .int .i64 l.ins.size]] V fun e w' => e = .returned (.agg #[.int .i64 l.ins.op, .int .i64 l.ins.d, .int .i64 l.ins.s, .int .u16 l.ins.imm, .int .u16 l.ins.aux, .int .i64 l.ins.bank, .int .i64 (zH (l.ins.op % 256))]) ∧ Below V.heap.size V w' from fun V => rsized_any l.ins V)
      obtain ⟨vb, hvb⟩ : ∃ b : Bool, zR (z6 l.ins) = b := ⟨_, rfl⟩
      have HVL := zh (show ∀ V, Calls Try.prog 37 #[.agg #[.int .i64 l.ins.op, .int .i64 l.ins.d, .int .i64 l.ins.s, .int .u16 l.ins.imm, .int .u16 l.ins.aux, .int .i64 l.ins.bank, .int .i64 (zH (l.ins.op % 256))]] V fun e w' => e = .returned (.bool vb) ∧ Below V.heap.size V w' from fun V => by have := yY (z6 l.ins) V; rw [hvb] at this; exact this)
      obtain ⟨wb2, hwb2⟩ : ∃ b : Bool, xR l.ins.op = b := ⟨_, rfl⟩
      have HWD := zh (fun V => by have := rwide_any l.ins.op V; rw [hwb2] at this; exact this)
      rw [hvb, hwb2] at HV
      clear hvb hwb2
      go_upto_region 11 with fail
      clear cc
      go_upto_region 12 with (first | (refine z9 _ _ rfl _ _ rfl _ _ _ (H3.out) ([.int .i64 l.ins.op, .int .i64 l.ins.d, .int .i64 l.ins.s, .int .u16 l.ins.imm, .int .u16 l.ins.aux, .int .i64 l.ins.bank, .int .i64 l.ins.size]) ((by rfl)) ?_ ?_ ?_; kernel_rfl; kernel_rfl) | (go_at_call 72; refine (HSD.out _).mono ?_; rintro e w3 ⟨rfl, hb3⟩) | (go_at_call 37; refine (HVL.out _).mono ?_; rintro e w4 ⟨rfl, hb4⟩))
      have HB3 := zh (HB.out.trans ((hb3.mono HB.out.size).trans (hb4.mono (Nat.le_trans HB.out.size hb3.size))))
      have H33 := zh (zf hb4 (zf hb3 H3.out))
      clear hb3 hb4 cl
      have cl : ∀ o : Nat, w4.cell? ⟨w.heap.size + 1, o, none⟩ = (#[.int .i64 (l).label, .int .i64 (l).ins.op, .int .i64 (l).ins.d, .int .i64 (l).ins.s, .int .u16 (l).ins.imm, .int .u16 (l).ins.aux, .int .i64 (l).ins.bank, .int .i64 (l).ins.size, .int .i64 (l).dest, .int .i64 (l).fn, .int .i64 (l).obj, .slice ta (l).tab.length tcp] : Array Value)[o]? := fun o => cell_of_row w4 _ o _ _ _ H33.out
      go_upto_region 13 with (go_at_call 73; refine (HWD.out _).mono ?_; rintro e w5 ⟨rfl, rfl⟩)
      cases vb with
      | false =>
       go_wp2_with fail
       try rw [Exit.noGoto_ret]
       go_ret
       exact ⟨by rw [HV.out]; rfl, HB3.out⟩
      | true =>
       by_cases a : l.obj = -1
       ·go_wp2_with fail
        try rw [Exit.noGoto_ret]
        go_ret
        exact ⟨by rw [HV.out, a]; rfl, HB3.out⟩
       ·have a0 : (l.obj == -1) = false := by simp [a]
        rw [a0] at HV
        by_cases a1 : 0 ≤ l.obj
        ·by_cases a2 : l.obj < no
         ·rw [decide_eq_true a1, decide_eq_true a2] at HV
          go_wp2_with fail
          try rw [Exit.noGoto_ret]
          go_ret
          exact ⟨by rw [HV.out]; rfl, HB3.out⟩
         ·have a2' : (no : Int) ≤ l.obj := by omega
          rw [decide_eq_true a1, decide_eq_false a2] at HV
          go_wp2_with fail
          try rw [Exit.noGoto_ret]
          go_ret
          exact ⟨by rw [HV.out]; rfl, HB3.out⟩
        ·have a1' : l.obj < 0 := by omega
         rw [decide_eq_false a1] at HV
         go_wp2_with fail
         try rw [Exit.noGoto_ret]
         go_ret
         exact ⟨by rw [HV.out]; rfl, HB3.out⟩
   ·as_aux_lemma =>
    rw [hf]
    obtain ⟨b2, hb2⟩ : ∃ b : Bool, rl2 2 l = b := ⟨_, rfl⟩
    have HF := zh hf
    clear hf
    go_cut [70] (fun s wx => s = .bool (rl2 2 l) ∧ wx = wb)
    case first =>
     clear hb2
     by_cases k_tab : 0 < l.tab.length
     ·skip
      have e : rl2 2 l = true := by simp [rl2, k_tab]
      go_wp2_with fail
      go_meet
      exact ⟨by rw [e], rfl⟩
     ·replace k_tab : l.tab.length = 0 := by omega
      by_cases k_obj : l.obj = -1
      rotate_left
      ·have ka : (l.obj == -1) = false := by simp [k_obj]
       have kb : (l.obj != -1) = true := by simp [k_obj]
       have e : rl2 2 l = true := by simp [rl2, k_obj]
       go_wp2_with fail
       go_meet
       exact ⟨by rw [e], rfl⟩
      ·skip
       by_cases k_fn : l.fn = -1
       rotate_left
       ·have ka : (l.fn == -1) = false := by simp [k_fn]
        have kb : (l.fn != -1) = true := by simp [k_fn]
        have e : rl2 2 l = true := by simp [rl2, k_fn]
        go_wp2_with fail
        go_meet
        exact ⟨by rw [e], rfl⟩
       ·skip
        have e : rl2 2 l = false := by simp [rl2, k_tab, k_obj, k_fn]
        go_wp2_with fail
        go_meet
        exact ⟨by rw [e], rfl⟩
    case rest =>
     obtain ⟨rfl, rfl⟩ := hcut
     rw [hb2]
     cases b2 with
     | true =>
      have HV := zh (rl_2 (nf := nf) (no := no) HR1.out (show rl2 (zK l.ins.op) l = true by rw [HF.out]; exact hb2))
      clear hb2
      go_wp2_with fail
      go_ret
      exact ⟨by rw [HV.out]; rfl, HB.out⟩
     | false =>
      have HR2 := zh (show rl2 (zK l.ins.op) l = false by rw [HF.out]; exact hb2)
      clear hb2
      obtain ⟨r, hr⟩ : ∃ r, xg ls l.dest = r := ⟨_, rfl⟩
      have HLB := zh (HLA.out l.dest wc HB.out)
      rw [hr] at HLB
      go_upto_region 7 with fail
      by_cases a3 : r < 0
      ·have HV := zh (rl_j (nf := nf) (no := no) HR1.out (.inl HF.out) (by rw [hr]; exact a3))
       clear hr
       go_wp2_with (first | (refine zs _ _ rfl _ rfl _ _ _ (H2.out) ?_ ?_ ?_; kernel_rfl; kernel_rfl) | (go_at_call 71; refine (HLB.out).mono ?_; rintro e w3 ⟨rfl, hb3⟩))
       try rw [Exit.noGoto_ret]
       go_ret
       exact ⟨by rw [HV.out]; rfl, HB.out.trans (hb3.mono HB.out.size)⟩
      ·have a3' : 0 ≤ r := by omega
       have HV := zh (rl_b (nf := nf) (no := no) HR1.out HR2.out HF.out (by rw [hr]; exact a3))
       clear hr
       go_wp2_with (first | (refine zs _ _ rfl _ rfl _ _ _ (H2.out) ?_ ?_ ?_; kernel_rfl; kernel_rfl) | (go_at_call 71; refine (HLB.out).mono ?_; rintro e w3 ⟨rfl, hb3⟩))
       try rw [Exit.noGoto_ret]
       go_ret
       exact ⟨by rw [HV.out]; rfl, HB.out.trans (hb3.mono HB.out.size)⟩
   ·as_aux_lemma =>
    rw [hf]
    obtain ⟨b2, hb2⟩ : ∃ b : Bool, rl2 3 l = b := ⟨_, rfl⟩
    have HF := zh hf
    clear hf
    go_cut [70] (fun s wx => s = .bool (rl2 3 l) ∧ wx = wb)
    case first =>
     clear hb2
     by_cases k_obj : l.obj = -1
     rotate_left
     ·have ka : (l.obj == -1) = false := by simp [k_obj]
      have kb : (l.obj != -1) = true := by simp [k_obj]
      have e : rl2 3 l = true := by simp [rl2, k_obj]
      go_wp2_with fail
      go_meet
      exact ⟨by rw [e], rfl⟩
     ·skip
      by_cases k_fn : l.fn = -1
      rotate_left
      ·have ka : (l.fn == -1) = false := by simp [k_fn]
       have kb : (l.fn != -1) = true := by simp [k_fn]
       have e : rl2 3 l = true := by simp [rl2, k_fn]
       go_wp2_with fail
       go_meet
       exact ⟨by rw [e], rfl⟩
      ·skip
       have e : rl2 3 l = false := by simp [rl2, k_obj, k_fn]
       go_wp2_with fail
       go_meet
       exact ⟨by rw [e], rfl⟩
    case rest =>
     obtain ⟨rfl, rfl⟩ := hcut
     rw [hb2]
     cases b2 with
     | true =>
      have HV := zh (rl_2 (nf := nf) (no := no) HR1.out (show rl2 (zK l.ins.op) l = true by rw [HF.out]; exact hb2))
      clear hb2
      go_wp2_with fail
      go_ret
      exact ⟨by rw [HV.out]; rfl, HB.out⟩
     | false =>
      have HR2 := zh (show rl2 (zK l.ins.op) l = false by rw [HF.out]; exact hb2)
      clear hb2
      obtain ⟨r, hr⟩ : ∃ r, xg ls l.dest = r := ⟨_, rfl⟩
      have HLB := zh (HLA.out l.dest wc HB.out)
      rw [hr] at HLB
      go_upto_region 7 with fail
      by_cases a3 : r < 0
      ·have HV := zh (rl_j (nf := nf) (no := no) HR1.out (.inr HF.out) (by rw [hr]; exact a3))
       clear hr
       go_wp2_with (first | (refine zs _ _ rfl _ rfl _ _ _ (H2.out) ?_ ?_ ?_; kernel_rfl; kernel_rfl) | (go_at_call 71; refine (HLB.out).mono ?_; rintro e w3 ⟨rfl, hb3⟩))
       try rw [Exit.noGoto_ret]
       go_ret
       exact ⟨by rw [HV.out]; rfl, HB.out.trans (hb3.mono HB.out.size)⟩
      ·have a3' : 0 ≤ r := by omega
       have HV := zh (rl_t (nf := nf) (no := no) HR1.out HR2.out HF.out (by rw [hr]; exact a3))
       clear hr
       go_upto_region 19 with (first | (refine zs _ _ rfl _ rfl _ _ _ (H2.out) ?_ ?_ ?_; kernel_rfl; kernel_rfl) | (go_at_call 71; refine (HLB.out).mono ?_; rintro e w3 ⟨rfl, hb3⟩))
       have HB3 := zh (HB.out.trans (hb3.mono HB.out.size))
       have H23 := zh (zf hb3 H2.out)
       have H33 := zh (zf hb3 H3.out)
       clear hb3 cc cl HLB
       have cl : ∀ o : Nat, w3.cell? ⟨w.heap.size + 1, o, none⟩ = (#[.int .i64 (l).label, .int .i64 (l).ins.op, .int .i64 (l).ins.d, .int .i64 (l).ins.s, .int .u16 (l).ins.imm, .int .u16 (l).ins.aux, .int .i64 (l).ins.bank, .int .i64 (l).ins.size, .int .i64 (l).dest, .int .i64 (l).fn, .int .i64 (l).obj, .slice ta (l).tab.length tcp] : Array Value)[o]? := fun o => cell_of_row w3 _ o _ _ _ H33.out
       go_cut [149] (fun s wx => s = .bool (rl3 l) ∧ wx = w3)
       case first =>
        by_cases h5 : l.ins.d < 0
        ·have e : rl3 l = true := by simp [rl3, h5]
         go_wp2_with fail
         go_meet
         exact ⟨by rw [e], rfl⟩
        replace h5 : 0 ≤ l.ins.d := by omega
        by_cases h6 : 7 < l.ins.d
        ·have e : rl3 l = true := by simp [rl3, h6]
         go_wp2_with fail
         go_meet
         exact ⟨by rw [e], rfl⟩
        replace h6 : l.ins.d ≤ 7 := by omega
        by_cases h4 : l.tab.length < 1
        ·have e : rl3 l = true := by unfold rl3; rw [decide_eq_true h4]; simp
         have h4i : (l.tab.length : Int) < 1 := by omega
         go_wp2_with fail
         go_meet
         exact ⟨by rw [e], rfl⟩
        have h4i : (1 : Int) ≤ (l.tab.length : Int) := by omega
        have h4n : 1 ≤ l.tab.length := by omega
        by_cases h7 : 255 < l.tab.length
        ·have e : rl3 l = true := by simp [rl3, h7]
         have h7i : (255 : Int) < (l.tab.length : Int) := by omega
         go_wp2_with fail
         go_meet
         exact ⟨by rw [e], rfl⟩
        have e : rl3 l = false := by unfold rl3; simp only [Bool.or_eq_false_iff, decide_eq_false_iff_not]; omega
        have h7i : (l.tab.length : Int) ≤ 255 := by omega
        replace h7 : l.tab.length ≤ 255 := by omega
        go_wp2_with fail
        go_meet
        exact ⟨by rw [e]; first | rfl | (simp only [Value.bool.injEq, Bool.or_eq_false_iff, decide_eq_false_iff_not]; omega), rfl⟩
       case rest =>
        obtain ⟨rfl, rfl⟩ := hcut
        obtain ⟨b3, hb3⟩ : ∃ b : Bool, rl3 l = b := ⟨_, rfl⟩
        rw [hb3] at HV ⊢
        clear hb3
        cases b3 with
        | true =>
         go_wp2_with fail
         try rw [Exit.noGoto_ret]
         go_ret
         exact ⟨by rw [HV.out, Bool.not_true, Bool.false_and]; rfl, HB3.out⟩
        | false =>
         clear cl
         go_wp2_with fail
         go_loopw [12] (fun i wr => ∃ k : Nat, k ≤ l.tab.length ∧ i = .int .i64 k ∧ Hid (Below w.heap.size w wr) ∧ Hid (wr.heap[w.heap.size]? = some (.cells #[.string nm, .slice ao ls.length cap] 32 (0, 0))) ∧ Hid (wr.heap[w.heap.size + 1]? = some (.cells #[.int .i64 (l).label, .int .i64 (l).ins.op, .int .i64 (l).ins.d, .int .i64 (l).ins.s, .int .u16 (l).ins.imm, .int .u16 (l).ins.aux, .int .i64 (l).ins.bank, .int .i64 (l).ins.size, .int .i64 (l).dest, .int .i64 (l).fn, .int .i64 (l).obj, .slice ta (l).tab.length tcp] 58 (0, 0))) ∧ Hid ((l.tab.take k).all (fun n => decide (0 ≤ xg ls n)) = true)) (fun i _ => l.tab.length - (intOf i).toNat)
         case atStart => exact ⟨0, Nat.zero_le _, rfl, HB3, H23, H33, zh rfl⟩
         case round =>
          obtain ⟨k, hk, rfl, HB4, H24, H34, HA⟩ := hrel
          clear HB3 H23 H33
          have cl := cell_of_row wr (w.heap.size + 1) 11 _ _ _ H34.out
          by_cases hlt : k < l.tab.length
          ·obtain ⟨t, ht⟩ : ∃ t, l.tab[k]? = some t := ⟨_, List.getElem?_eq_getElem hlt⟩
           have HT := zh ht
           obtain ⟨a0, cp0, he0, hcp, hrow⟩ := HI.out.below HB4.out
           obtain ⟨q, off, c, T', fr', hao, hq, hx⟩ := hrow (by omega)
           simp only [Value.slice.injEq] at he0
           obtain ⟨rfl, -, rfl⟩ := he0
           subst hao
           have HQ := zh hq
           have HX := zh (hx k t ht)
           clear hq hx ht hrow
           have zz0 : w.heap.size < wr.heap.size := (Array.getElem?_eq_some_iff.1 H24.out).1
           have zz1 : w.heap.size + 1 < wr.heap.size := (Array.getElem?_eq_some_iff.1 H34.out).1
           have zzq : q < wr.heap.size := (Array.getElem?_eq_some_iff.1 HQ.out).1
           obtain ⟨r, hr⟩ : ∃ r, xg ls t = r := ⟨_, rfl⟩
           have HLB := zh (HLA.out t)
           rw [hr] at HLB
           go_upto_region 24 with fail
           clear cl
           by_cases a4 : r < 0
           ·have HT2 := zh (show l.tab.all (fun n => decide (0 ≤ xg ls n)) = false by
             rw [List.all_eq_false]
             exact ⟨t, List.mem_of_getElem? HT.out, by rw [hr]; simp; omega⟩)
            clear hr
            refine zV [] 8 (z5 [isV (.agg #[.string nm, .slice ao ls.length cap]), isV (.pointer (some ⟨w.heap.size + 1, 11, none⟩)), isV (.slice (some ⟨q, off, none⟩) l.tab.length tcp), isV (.int .i64 k), isV ((.pointer (some ⟨q, off + k, none⟩))), isV ((.int .i64 t)), isV (.int .i64 r), isV ((.bool true))]) (nth [[0], [1], [2], [3], [4], [5], [6], [7]]) (nth [[], [], [], [], [], [], [], []]) (nth [[], [], [1], [], [2, 3], [4], [0, 5], [6]]) [7] (yU w.heap.size w wr.heap.size [(w.heap.size, .cells #[.string nm, .slice ao ls.length cap] 32 (0, 0)), (w.heap.size + 1, .cells #[.int .i64 l.label, .int .i64 l.ins.op, .int .i64 l.ins.d, .int .i64 l.ins.s, .int .u16 l.ins.imm, .int .u16 l.ins.aux, .int .i64 l.ins.bank, .int .i64 l.ins.size, .int .i64 l.dest, .int .i64 l.fn, .int .i64 l.obj, .slice (some ⟨q, off, none⟩) l.tab.length tcp] 58 (0, 0)), (q, .cells c T' fr')]) (by kernel_rfl) (by kernel_rfl) (⟨HB4.out.drew, HB4.out.size, zn _, by intro x hx; simp at hx; rcases hx with rfl | rfl | rfl <;> assumption, H24.out, H34.out, HQ.out, trivial⟩) (yU.grow) (zG ((za (zc _)  (za (zc _)  (za (zc _)  (za (zc _)  (za (zc _)  (za (zc _)  (za (zc _)  (za (zc _) zy)))))))))) (fun f F hF => ?_)
            simp only [List.take_succ_cons, List.take_zero, yb, Act.put, zD, zE, zF, Nat.reduceAdd] at hF
            subst hF
            refine ⟨zd ?_ (zd ?_ (zd ?_ (zd ?_ (zd ?_ (zd ?_ (zd ?_ (zd ?_ (yd)))))))), ?_⟩
            ·intro w5 hS hF hD K hK
             rw [if_pos (by rfl)]
             exact svR hK rfl rfl rfl rfl (by first | rfl | kernel_rfl)  rfl rfl (hS.2.2.2.2.1) (by kernel_rfl)
            ·intro w5 hS hF hD K hK
             rw [if_pos (by rfl)]
             exact svV hK rfl rfl rfl rfl (by first | rfl | kernel_rfl)  (by show _ = _; kernel_rfl)
            ·intro w5 hS hF hD K hK
             obtain ⟨(e1 : f 1 = _), -⟩ := hF
             try simp only [e1]
             rw [if_pos (by rfl)]
             exact svC hK rfl rfl rfl rfl (by first | rfl | kernel_rfl)  rfl rfl (hS.2.2.2.2.2.1) (by kernel_rfl) (fun _ => by kernel_rfl)
            ·intro w5 hS hF hD K hK
             rw [if_pos (by rfl)]
             exact svV hK rfl rfl rfl rfl (by first | rfl | kernel_rfl)  (by show _ = _; kernel_rfl)
            ·intro w5 hS hF hD K hK
             obtain ⟨(e2 : f 2 = _), (e3 : f 3 = _), -⟩ := hF
             try simp only [e2, e3]
             rw [if_pos (by rfl)]
             go_simp
             refine hK.out _ _ rfl (zq rfl rfl rfl ?_)
             first | rfl | kernel_rfl
            ·intro w5 hS hF hD K hK
             obtain ⟨(e4 : f 4 = _), -⟩ := hF
             try simp only [e4]
             rw [if_pos (by rfl)]
             exact svC hK rfl rfl rfl rfl (by first | rfl | kernel_rfl)  rfl rfl (hS.2.2.2.2.2.2.1) (HX.out) (fun _ => by kernel_rfl)
            ·intro w5 hS hF hD K hK
             obtain ⟨(e0 : f 0 = _), (e5 : f 5 = _), -⟩ := hF
             try simp only [e0, e5]
             rw [if_pos (by rfl)]
             go_simp
             go_at_call 71; refine (HLB.out _ hS.1).mono ?_; rintro e w6 ⟨rfl, hbelow⟩; go_simp
             refine hK.out _ _ rfl (zP rfl rfl rfl hbelow ?_)
             first | rfl | kernel_rfl
            ·intro w5 hS hF hD K hK
             obtain ⟨(e6 : f 6 = _), -⟩ := hF
             try simp only [e6]
             rw [if_pos (by rfl)]
             go_simp
             refine hK.out _ _ rfl (zq rfl rfl rfl ?_)
             first | rfl | kernel_rfl
            intro w5 hS hF
            obtain ⟨(e7 : f 7 = _), -⟩ := hF
            try simp only [e7]
            refine yN (by kernel_rfl) ?_
            have HB5 := zh hS.1
            have H25 := zh hS.2.2.2.2.1
            have H35 := zh hS.2.2.2.2.2.1
            clear hS
            go_wp2_with fail
            try rw [Exit.noGoto_ret]
            go_ret
            exact ⟨by rw [HV.out, HT2.out]; rfl, HB5.out⟩
           ·have a4' : 0 ≤ r := by omega
            have HT2 := zh (show (l.tab.take (k + 1)).all (fun n => decide (0 ≤ xg ls n)) = true by rw [List.take_succ, HT.out, List.all_append, HA.out]; simp [hr, a4'])
            clear hr
            refine zV [] 8 (z5 [isV (.agg #[.string nm, .slice ao ls.length cap]), isV (.pointer (some ⟨w.heap.size + 1, 11, none⟩)), isV (.slice (some ⟨q, off, none⟩) l.tab.length tcp), isV (.int .i64 k), isV ((.pointer (some ⟨q, off + k, none⟩))), isV ((.int .i64 t)), isV (.int .i64 r), isV ((.bool false))]) (nth [[0], [1], [2], [3], [4], [5], [6], [7]]) (nth [[], [], [], [], [], [], [], []]) (nth [[], [], [1], [], [2, 3], [4], [0, 5], [6]]) [7] (yU w.heap.size w wr.heap.size [(w.heap.size, .cells #[.string nm, .slice ao ls.length cap] 32 (0, 0)), (w.heap.size + 1, .cells #[.int .i64 l.label, .int .i64 l.ins.op, .int .i64 l.ins.d, .int .i64 l.ins.s, .int .u16 l.ins.imm, .int .u16 l.ins.aux, .int .i64 l.ins.bank, .int .i64 l.ins.size, .int .i64 l.dest, .int .i64 l.fn, .int .i64 l.obj, .slice (some ⟨q, off, none⟩) l.tab.length tcp] 58 (0, 0)), (q, .cells c T' fr')]) (by kernel_rfl) (by kernel_rfl) (⟨HB4.out.drew, HB4.out.size, zn _, by intro x hx; simp at hx; rcases hx with rfl | rfl | rfl <;> assumption, H24.out, H34.out, HQ.out, trivial⟩) (yU.grow) (zG ((za (zc _)  (za (zc _)  (za (zc _)  (za (zc _)  (za (zc _)  (za (zc _)  (za (zc _)  (za (zc _) zy)))))))))) (fun f F hF => ?_)
            simp only [List.take_succ_cons, List.take_zero, yb, Act.put, zD, zE, zF, Nat.reduceAdd] at hF
            subst hF
            refine ⟨zd ?_ (zd ?_ (zd ?_ (zd ?_ (zd ?_ (zd ?_ (zd ?_ (zd ?_ (yd)))))))), ?_⟩
            ·intro w5 hS hF hD K hK
             rw [if_pos (by rfl)]
             exact svR hK rfl rfl rfl rfl (by first | rfl | kernel_rfl)  rfl rfl (hS.2.2.2.2.1) (by kernel_rfl)
            ·intro w5 hS hF hD K hK
             rw [if_pos (by rfl)]
             exact svV hK rfl rfl rfl rfl (by first | rfl | kernel_rfl)  (by show _ = _; kernel_rfl)
            ·intro w5 hS hF hD K hK
             obtain ⟨(e1 : f 1 = _), -⟩ := hF
             try simp only [e1]
             rw [if_pos (by rfl)]
             exact svC hK rfl rfl rfl rfl (by first | rfl | kernel_rfl)  rfl rfl (hS.2.2.2.2.2.1) (by kernel_rfl) (fun _ => by kernel_rfl)
            ·intro w5 hS hF hD K hK
             rw [if_pos (by rfl)]
             exact svV hK rfl rfl rfl rfl (by first | rfl | kernel_rfl)  (by show _ = _; kernel_rfl)
            ·intro w5 hS hF hD K hK
             obtain ⟨(e2 : f 2 = _), (e3 : f 3 = _), -⟩ := hF
             try simp only [e2, e3]
             rw [if_pos (by rfl)]
             go_simp
             refine hK.out _ _ rfl (zq rfl rfl rfl ?_)
             first | rfl | kernel_rfl
            ·intro w5 hS hF hD K hK
             obtain ⟨(e4 : f 4 = _), -⟩ := hF
             try simp only [e4]
             rw [if_pos (by rfl)]
             exact svC hK rfl rfl rfl rfl (by first | rfl | kernel_rfl)  rfl rfl (hS.2.2.2.2.2.2.1) (HX.out) (fun _ => by kernel_rfl)
            ·intro w5 hS hF hD K hK
             obtain ⟨(e0 : f 0 = _), (e5 : f 5 = _), -⟩ := hF
             try simp only [e0, e5]
             rw [if_pos (by rfl)]
             go_simp
             go_at_call 71; refine (HLB.out _ hS.1).mono ?_; rintro e w6 ⟨rfl, hbelow⟩; go_simp
             refine hK.out _ _ rfl (zP rfl rfl rfl hbelow ?_)
             first | rfl | kernel_rfl
            ·intro w5 hS hF hD K hK
             obtain ⟨(e6 : f 6 = _), -⟩ := hF
             try simp only [e6]
             rw [if_pos (by rfl)]
             go_simp
             refine hK.out _ _ rfl (zq rfl rfl rfl ?_)
             first | rfl | kernel_rfl
            intro w5 hS hF
            obtain ⟨(e7 : f 7 = _), -⟩ := hF
            try simp only [e7]
            refine yN (by kernel_rfl) ?_
            have HB5 := zh hS.1
            have H25 := zh hS.2.2.2.2.1
            have H35 := zh hS.2.2.2.2.2.1
            clear hS
            go_wp2_with fail
            go_roundw
            case rel => exact ⟨k + 1, by omega, by go_num, HB5, H25, H35, HT2⟩
            case measure => simp [intOf]; omega
          ·have hke : k = l.tab.length := by omega
           subst hke
           have HT2 := zh (show l.tab.all (fun n => decide (0 ≤ xg ls n)) = true by have := HA.out; rw [List.take_length] at this; exact this)
           clear hlt hk
           go_wp2_with fail
           try rw [Exit.noGoto_ret]
           go_ret
           exact ⟨by rw [HV.out, HT2.out]; rfl, HB4.out⟩
   ·as_aux_lemma =>
    rw [hf]
    obtain ⟨b2, hb2⟩ : ∃ b : Bool, rl2 4 l = b := ⟨_, rfl⟩
    have HF := zh hf
    clear hf
    go_cut [70] (fun s wx => s = .bool (rl2 4 l) ∧ wx = wb)
    case first =>
     clear hb2
     by_cases k_tab : 0 < l.tab.length
     ·skip
      have e : rl2 4 l = true := by simp [rl2, k_tab]
      go_wp2_with fail
      go_meet
      exact ⟨by rw [e], rfl⟩
     ·replace k_tab : l.tab.length = 0 := by omega
      by_cases k_obj : l.obj = -1
      rotate_left
      ·have ka : (l.obj == -1) = false := by simp [k_obj]
       have kb : (l.obj != -1) = true := by simp [k_obj]
       have e : rl2 4 l = true := by simp [rl2, k_obj]
       go_wp2_with fail
       go_meet
       exact ⟨by rw [e], rfl⟩
      ·skip
       by_cases k_dest : l.dest = -1
       rotate_left
       ·have ka : (l.dest == -1) = false := by simp [k_dest]
        have kb : (l.dest != -1) = true := by simp [k_dest]
        have e : rl2 4 l = true := by simp [rl2, k_dest]
        go_wp2_with fail
        go_meet
        exact ⟨by rw [e], rfl⟩
       ·skip
        have e : rl2 4 l = false := by simp [rl2, k_tab, k_obj, k_dest]
        go_wp2_with fail
        go_meet
        exact ⟨by rw [e], rfl⟩
    case rest =>
     obtain ⟨rfl, rfl⟩ := hcut
     rw [hb2]
     cases b2 with
     | true =>
      have HV := zh (rl_2 (nf := nf) (no := no) HR1.out (show rl2 (zK l.ins.op) l = true by rw [HF.out]; exact hb2))
      clear hb2
      go_wp2_with fail
      go_ret
      exact ⟨by rw [HV.out]; rfl, HB.out⟩
     | false =>
      have HR2 := zh (show rl2 (zK l.ins.op) l = false by rw [HF.out]; exact hb2)
      clear hb2
      have HV := zh (rl_c (nf := nf) (no := no) HR1.out HR2.out HF.out)
      go_upto_region 17 with fail
      by_cases a : 0 ≤ l.fn
      ·by_cases a2 : l.fn < nf
       ·have e : (decide (0 ≤ l.fn) && decide (l.fn < (nf : Int))) = true := by simp [a, a2]
        go_wp2_with fail
        try rw [Exit.noGoto_ret]
        go_ret
        exact ⟨by rw [HV.out, e]; rfl, HB.out⟩
       ·have e : (decide (0 ≤ l.fn) && decide (l.fn < (nf : Int))) = false := by simp [a2]
        have a2' : (nf : Int) ≤ l.fn := by omega
        go_wp2_with fail
        try rw [Exit.noGoto_ret]
        go_ret
        exact ⟨by rw [HV.out, e]; rfl, HB.out⟩
      ·have e : (decide (0 ≤ l.fn) && decide (l.fn < (nf : Int))) = false := by simp [a]
       have a' : l.fn < 0 := by omega
       go_wp2_with fail
       try rw [Exit.noGoto_ret]
       go_ret
       exact ⟨by rw [HV.out, e]; rfl, HB.out⟩
end Go.Proofs.Ythebmoggbgldmaa
