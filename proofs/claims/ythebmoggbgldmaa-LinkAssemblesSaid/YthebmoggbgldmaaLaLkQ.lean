/- The reference of chapter 19: its small functions. No condition. (Printed by gen_lra.py.) -/
import Derived.Test.YthebmoggbgldmaaLaLkE
import Derived.Test.YthebmoggbgldmaaLaLkI
set_option linter.all false
namespace Go.Proofs.Ythebmoggbgldmaa
open Go Go.RowKit Go.Maps
def AnsE (E : zL) (s ps : List Int) (er : Int) : Prop :=
 (¬ E.Right ∧ s = [] ∧ ps = [] ∧ er = 1) ∨ (E.Right ∧ E.fits = false ∧ s = [] ∧ ps = [] ∧ er = 71) ∨ (E.Right ∧ E.fits = true ∧ s = E.code ∧ ps = E.pos ∧ er = 0)
theorem AnsE.uniq {E : zL} {s ps s' ps' : List Int} {er er' : Int} (h : AnsE E s ps er) (h' : AnsE E s' ps' er') : s = s' ∧ ps = ps' ∧ er = er' := by
 rcases h with ⟨h1, rfl, rfl, rfl⟩ | ⟨h1, h2, rfl, rfl, rfl⟩ | ⟨h1, h2, rfl, rfl, rfl⟩ <;> rcases h' with ⟨k1, rfl, rfl, rfl⟩ | ⟨k1, k2, rfl, rfl, rfl⟩ | ⟨k1, k2, rfl, rfl, rfl⟩
 all_goals first | exact ⟨rfl, rfl, rfl⟩ | exact absurd h1 k1 | exact absurd k1 h1 | (rw [h2] at k2; cases k2)
def AsPost (E : zL) (w : World) (e : Ending) (w' : World) : Prop :=
 ∃ s pv ps er, e = .returned (.tuple #[.string (zO s), pv, .int .i64 er]) ∧ w'.ownsRow w.heap.size 3 1 pv ps.length (ps.map (Value.int .i64)) ∧ Below w.heap.size w w' ∧ AnsE E s ps er
theorem as_err {E : zL} {w w' : World} (hb : Below w.heap.size w w') {er : Int} (h : AnsE E [] [] er) : AsPost E w (.returned (.tuple #[.string ⟨#[]⟩, .slice none 0 0, .int .i64 er])) w' :=
 ⟨[], .slice none 0 0, [], er, rfl, ⟨rfl, .inl ⟨rfl, rfl⟩⟩, hb, h⟩
structure zL.Num (E : zL) : Prop where
 ls : yV E.ls
 pl : 0 ≤ E.pl.addr ∧ E.pl.addr < 65536 ∧ zX E.pl.bank
 fs : ∀ p ∈ E.funcs, 0 ≤ p.addr ∧ p.addr < 65536 ∧ zX p.bank
 ds : ∀ p ∈ E.data, 0 ≤ p.addr ∧ p.addr < 65536 ∧ zX p.bank ∧ 0 ≤ p.size ∧ p.size < 65536
 nf : E.funcs.length < 65536
 nd : E.data.length < 65536
theorem zL.Num.ok {E : zL} (h : E.Num) (hc : xP E.ls E.funcs.length E.data.length) : E.Ok := env_ok E h.ls hc h.pl h.fs h.ds (by have := h.nf; omega) (by have := h.nd; omega)
theorem code_len {E : zL} (hE : E.Ok) (hF : ∀ l ∈ E.ls, zK l.ins.op ≠ 0) : E.code.length ≤ 2009000 := by
 have h1 := (codeTo_ok hE hF E.ls.length (zn _)).2
 have h2 := (tabsTo_ok hE E.ls.length (zn _)).2
 have h3 := hE.len
 show (E.codeTo E.ls.length ++ E.tabsTo E.ls.length).length ≤ _
 rw [List.length_append]
 omega
set_option maxRecDepth 100000 in
set_option maxHeartbeats 8000000 in
theorem xv (E : zL) (hE : E.Num) (nm : ByteArray) (ao fa da : Option Addr) (cap fcap dcap : Nat) (w : World) (hL : yJ w (.slice ao E.ls.length cap) E.ls) (hf : jj w (.slice fa E.funcs.length fcap) E.funcs) (hd : jK w (.slice da E.data.length dcap) E.data) :
  Calls Try.prog 13 #[.agg #[.string nm, .slice ao E.ls.length cap], .agg #[.int .i64 E.pl.bank, .int .u16 E.pl.addr], .slice fa E.funcs.length fcap, .slice da E.data.length dcap] w (AsPost E w) := by
 have HE := zh hE
 obtain ⟨h2, h3⟩ := yy w (.cells #[.string nm, .slice ao E.ls.length cap] 32) (.cells #[.int .i64 E.pl.bank, .int .u16 E.pl.addr] 37)
 have hB : Below w.heap.size w ((w.alloc (.cells #[.string nm, .slice ao E.ls.length cap] 32)).alloc (.cells #[.int .i64 E.pl.bank, .int .u16 E.pl.addr] 37)) := ((Below.refl _ _).alloc (zn _) _).alloc (by simp) _
 obtain ⟨wa, hwa⟩ : ∃ wa : World, (w.alloc (.cells #[.string nm, .slice ao E.ls.length cap] 32)).alloc (.cells #[.int .i64 E.pl.bank, .int .u16 E.pl.addr] 37) = wa := ⟨_, rfl⟩
 rw [hwa] at h2 h3 hB
 have hCH := chunkOf_any nm E.ls hE.ls ao cap E.funcs.length E.data.length hE.nf hE.nd wa (hL.below hB)
 have H2 := zh h2
 have H3 := zh h3
 have HB := zh hB
 have HL := zh (hL.below hB)
 have HFV := zh (hf.below hB)
 have HDV := zh (hd.below hB)
 clear h2 h3 hB hL hf hd
 by_cases hC : xP E.ls E.funcs.length E.data.length
 ·have HOK := zh (hE.ok hC)
  have HCC := zh hC
  have HFM := zh (show ∀ l ∈ E.ls, zK l.ins.op ≠ 0 from fun l hl => xx (hC.2 l hl))
  have HCH := zh (hCH.mono (R' := fun e w' => ∃ g, wa.heap.size ≤ g ∧ e = .returned (.tuple #[.agg #[.string nm, .slice ao E.ls.length cap, .map (some g)], .bool true]) ∧ MapT g (xH E.ls) w' ∧ Below wa.heap.size wa w') (fun e w' h => by
   obtain ⟨hb, h | ⟨-, g, hg, he, hm⟩⟩ := h
   ·exact absurd hC h.1
   ·exact ⟨g, hg, he, hm, hb⟩))
  have hpl := hE.pl
  have hnf : E.funcs.length ≤ 100000 := by have := hE.nf; omega
  clear hE hC hCH
  go_enter Try.func13, Try.ntmps13
  go_upto_region 1 with fail
  try rw [hwa]
  clear hwa
  go_upto_region 2 with (first | (refine zs _ _ rfl _ rfl _ _ _ (H2.out) ?_ ?_ ?_; kernel_rfl; kernel_rfl) | (go_at_call 26; refine (HCH.out).mono ?_; rintro e w1 ⟨m, hgm, rfl, hm1, hb1⟩) | (refine wpList_store_row rfl _ _ _ rfl _ _ rfl rfl _ _ (heap_alloc_new _ _) ?_ ?_ ?_ ?_; kernel_rfl; rfl; kernel_rfl; rw [World.setRow_alloc_new]))
  have HM1 := zh hm1
  have HB1 := zh (HB.out.trans (hb1.mono HB.out.size))
  have hba : Below wa.heap.size wa (w1.alloc (.cells #[.string nm, .slice ao E.ls.length cap, .map (some m)] 74)) := hb1.alloc hb1.size _
  have h4 := heap_alloc_new w1 (.cells #[.string nm, .slice ao E.ls.length cap, .map (some m)] 74)
  obtain ⟨w2, hw2⟩ : ∃ w2 : World, w1.alloc (.cells #[.string nm, .slice ao E.ls.length cap, .map (some m)] 74) = w2 := ⟨_, rfl⟩
  have hm2 : MapT m (xH E.ls) w2 := by rw [← hw2]; exact hm1.same (heap_alloc_old w1 _ hm1.lt)
  rw [hw2] at hba h4 ⊢
  clear hw2 hb1 hm1
  obtain ⟨b4, hb4⟩ : ∃ b : Nat, w1.heap.size = b := ⟨_, rfl⟩
  rw [hb4] at h4 ⊢
  have HBA := zh hba
  have H4 := zh h4
  have HM2 := zh hm2
  have H32 := zh (zf hba H3.out)
  clear hba h4 hm2 hb4 HM1 HB1
  have cp : ∀ o : Nat, w2.cell? ⟨w.heap.size + 1, o, none⟩ = (#[Value.int .i64 E.pl.bank, .int .u16 E.pl.addr] : Array Value)[o]? := fun o => cell_of_row w2 _ o _ _ _ H32.out
  have HAD := zh (show ∀ W, Calls Try.prog 27 #[.agg #[.int .i64 E.pl.bank, .int .u16 E.pl.addr]] W fun e w' => e = .returned (.bool (yp E.pl)) ∧ Below W.heap.size W w' from fun W => address_any E.pl W)
  cases hA : yp E.pl with
  | false =>
   rw [hA] at HAD
   have HANS := zh (show AnsE E [] [] 1 from .inl ⟨(fun h => by rw [h.2.1] at hA; cases hA), rfl, rfl, rfl⟩)
   clear hA
   go_wp2_with (go_at_call 27; refine (HAD.out _).mono ?_; rintro e w5 ⟨rfl, hb5⟩)
   go_ret3
   exact as_err (HB.out.trans ((HBA.out.mono HB.out.size).trans (hb5.mono (Nat.le_trans HB.out.size HBA.out.size)))) HANS.out
  | true =>
   rw [hA] at HAD
   cases hN : E.funcs.any (fun p => !yp p) with
   | true =>
    have HANS := zh (show AnsE E [] [] 1 from .inl ⟨(fun h => by
     obtain ⟨p, hp, hq⟩ := List.any_eq_true.1 hN
     rw [h.2.2 p hp] at hq; cases hq), rfl, rfl, rfl⟩)
    have HBP := zh (fun (W : World) (hW : Below wa.heap.size wa W) => by have := badP_any E.funcs fa fcap W (HFV.out.below hW) hnf; rw [hN] at this; exact this)
    clear hA hN
    go_wp2_with (first | (go_at_call 27; refine (HAD.out _).mono ?_; rintro e w5 ⟨rfl, hb5⟩; have HB5 := zh (HBA.out.trans (hb5.mono HBA.out.size)); clear hb5) | (go_at_call 28; refine (HBP.out _ HB5.out).mono ?_; rintro e w6 ⟨rfl, hb6⟩; have HB6 := zh (HB5.out.trans (hb6.mono HB5.out.size)); clear hb6))
    go_ret3
    exact as_err (HB.out.trans (HB6.out.mono HB.out.size)) HANS.out
   | false =>
    have HR := zh (show E.Right from ⟨HCC.out, hA, fun p hp => by
     have := List.any_eq_false.1 hN p hp
     simpa using this⟩)
    have HBP := zh (fun (W : World) (hW : Below wa.heap.size wa W) => by have := badP_any E.funcs fa fcap W (HFV.out.below hW) hnf; rw [hN] at this; exact this)
    clear hA hN
    go_upto_region 4 with (first | (go_at_call 27; refine (HAD.out _).mono ?_; rintro e w5 ⟨rfl, hb5⟩; have HB5 := zh (HBA.out.trans (hb5.mono HBA.out.size)); have H45 := zh (zf hb5 H4.out); have H35 := zh (zf hb5 H32.out); have HM5 := zh (HM2.out.same (hb5.block _ HM2.out.lt)); clear hb5) | (go_at_call 28; refine (HBP.out _ HB5.out).mono ?_; rintro e w6 ⟨rfl, hb6⟩; have HB6 := zh (HB5.out.trans (hb6.mono HB5.out.size)); have H46 := zh (zf hb6 H45.out); have H36 := zh (zf hb6 H35.out); have HM6 := zh (HM5.out.same (hb6.block _ HM5.out.lt)); clear hb6))
    have HCO := zh (code_any E HOK.out HFM.out nm ao fa da cap fcap dcap m w6 (HL.out.below HB6.out) HM6.out (HFV.out.below HB6.out) (HDV.out.below HB6.out))
    clear cp HAD HBP
    go_upto_region 5 with (first | (refine zs _ _ rfl _ rfl _ _ _ (H46.out) ?_ ?_ ?_; kernel_rfl; kernel_rfl) | (refine zs _ _ rfl _ rfl _ _ _ (H36.out) ?_ ?_ ?_; kernel_rfl; kernel_rfl) | (go_at_call 30; refine (HCO.out).mono ?_; rintro e w7 ⟨pv, rfl, hown, hb7⟩))
    have HB7 := zh (HB.out.trans ((HB6.out.mono HB.out.size).trans (hb7.mono (Nat.le_trans HB.out.size HB6.out.size))))
    have HOW := zh (own_base hown (show w.heap.size ≤ w6.heap.size from Nat.le_trans HB.out.size HB6.out.size))
    have c1 := cell_of_row w7 (w.heap.size + 1) 1 _ _ _ (zf hb7 H36.out)
    clear hb7 hown
    have HSZ := yo E.code
    have hcl := code_len HOK.out HFM.out
    have hrem : IntKind.u16.wrap (E.pl.addr.tmod 4096) = E.pl.addr % 4096 := by
     rw [Int.tmod_eq_emod_of_nonneg (by omega)]
     exact IntWalk.u16_in _ (by omega)
    have hrem2 : E.pl.addr.tmod 4096 = E.pl.addr % 4096 := Int.tmod_eq_emod_of_nonneg (by omega)
    have hsum : IntKind.i64.wrap (E.pl.addr % 4096 + (E.code.length : Int)) = E.pl.addr % 4096 + (E.code.length : Int) := IntWalk.i64_in _ (by omega)
    by_cases hfit : E.pl.addr % 4096 + (E.code.length : Int) ≤ 4096
    ·have HANS := zh (show AnsE E E.code E.pos 0 from .inr (.inr ⟨HR.out, by unfold zL.fits; exact decide_eq_true hfit, rfl, rfl, rfl⟩))
     go_wp2_with fail
     go_ret3
     exact ⟨E.code, pv, E.pos, 0, rfl, HOW.out, HB7.out, HANS.out⟩
    ·have HANS := zh (show AnsE E [] [] 71 from .inr (.inl ⟨HR.out, by unfold zL.fits; exact decide_eq_false hfit, rfl, rfl, rfl⟩))
     go_wp2_with fail
     go_ret3
     exact as_err HB7.out HANS.out
 ·have HANS := zh (show AnsE E [] [] 1 from .inl ⟨fun h => hC h.1, rfl, rfl, rfl⟩)
  have HCH := zh (hCH.mono (R' := fun e w' => e = chunkNo ∧ Below wa.heap.size wa w') (fun e w' h => by
   obtain ⟨hb, h | ⟨h, -⟩⟩ := h
   ·exact ⟨h.2, hb⟩
   ·exact absurd h hC))
  clear hE hC hCH
  go_enter Try.func13, Try.ntmps13
  go_upto_region 1 with fail
  try rw [hwa]
  clear hwa
  go_upto_region 2 with (first | (refine zs _ _ rfl _ rfl _ _ _ (H2.out) ?_ ?_ ?_; kernel_rfl; kernel_rfl) | (go_at_call 26; refine (HCH.out).mono ?_; rintro e w1 ⟨rfl, hb1⟩; unfold chunkNo) | (refine wpList_store_row rfl _ _ _ rfl _ _ rfl rfl _ _ (heap_alloc_new _ _) ?_ ?_ ?_ ?_; kernel_rfl; rfl; kernel_rfl; rw [World.setRow_alloc_new]))
  have HB1 := zh (HB.out.trans ((hb1.mono HB.out.size).alloc (Nat.le_trans HB.out.size hb1.size) (.cells #[.string ⟨#[]⟩, .slice none 0 0, .map none] 74)))
  clear hb1
  go_wp2_with fail
  go_ret3
  exact as_err HB1.out HANS.out
end Go.Proofs.Ythebmoggbgldmaa
namespace Go.Proofs.Ythebmoggbgldmaa
open Go Go.RowKit Go.Maps
theorem rfield_any (op : Int) (w : World) :
  Calls Try.prog 89 #[.int .i64 op] w fun e w' => e = .returned (.int .i64 (yX op)) ∧ w = w' := by
 unfold yX
 by_cases h1 : op = 146 ∨ op = 147
 ·rw [if_pos h1]
  rcases h1 with rfl | rfl
  ·go_enter Try.func89, Try.ntmps89
   go_wp2
   go_ret
   exact ⟨rfl, rfl⟩
  ·go_enter Try.func89, Try.ntmps89
   go_wp2
   go_ret
   exact ⟨rfl, rfl⟩
 ·rw [if_neg h1]
  have g1 : (op == 146) = false := by simp; omega
  have g2 : (op == 147) = false := by simp; omega
  clear h1
  go_enter Try.func89, Try.ntmps89
  go_wp2
  go_ret
  exact ⟨rfl, rfl⟩
theorem rnear_any (a f : yw) (w : World) :
  Calls Try.prog 88 #[.agg #[.int .i64 a.bank, .int .u16 a.addr], .agg #[.int .i64 f.bank, .int .u16 f.addr]] w fun e w' => e = .returned (.bool (nearS a f)) ∧ Below w.heap.size w w' := by
 obtain ⟨ab, aa⟩ := a
 obtain ⟨fb, fa⟩ := f
 unfold nearS
 show Calls Try.prog 88 #[.agg #[.int .i64 ab, .int .u16 aa], .agg #[.int .i64 fb, .int .u16 fa]] w fun e w' => e = .returned (.bool (decide (fa < 4096) || (decide (4096 ≤ aa) && ab == fb))) ∧ Below w.heap.size w w'
 by_cases h1 : fa < 4096
 ·rw [decide_eq_true h1]
  go_enter Try.func88, Try.ntmps88
  go_wp2
  go_ret
  exact ⟨rfl, (((Below.refl _ _).alloc (zn _) _).alloc (by simp) _)⟩
 ·have h1' : 4096 ≤ fa := by omega
  rw [decide_eq_false h1]
  by_cases h2 : 4096 ≤ aa
  ·rw [decide_eq_true h2]
   by_cases h3 : ab = fb
   ·subst h3
    rw [beq_self_eq_true]
    go_enter Try.func88, Try.ntmps88
    go_wp2
    go_ret
    exact ⟨rfl, (((Below.refl _ _).alloc (zn _) _).alloc (by simp) _)⟩
   ·have h3' : (ab == fb) = false := by simp [h3]
    rw [h3']
    go_enter Try.func88, Try.ntmps88
    go_wp2
    go_ret
    exact ⟨rfl, (((Below.refl _ _).alloc (zn _) _).alloc (by simp) _)⟩
  ·have h2' : aa < 4096 := by omega
   rw [decide_eq_false h2]
   go_enter Try.func88, Try.ntmps88
   go_wp2
   go_ret
   exact ⟨by simp, (((Below.refl _ _).alloc (zn _) _).alloc (by simp) _)⟩
set_option maxRecDepth 100000 in
set_option maxHeartbeats 1000000 in
theorem rwide_any (op : Int) (w : World) :
  Calls Try.prog 73 #[.int .i64 op] w fun e w' => e = .returned (.bool (xR op)) ∧ w = w' := by
 unfold xR
 by_cases h : 64 ≤ op ∧ op ≤ 78
 ·rw [decide_eq_true h.1, decide_eq_true h.2]
  obtain ⟨a, b⟩ := h
  go_enter Try.func73, Try.ntmps73
  go_wp2
  go_ret
  exact ⟨by simp, rfl⟩
 ·have e1 : (decide (64 ≤ op) && decide (op ≤ 78)) = false := by simp; omega
  rw [e1]
  by_cases h2 : 84 ≤ op ∧ op ≤ 91
  ·have e2 : ((decide (84 ≤ op) && decide (op ≤ 87)) || (decide (88 ≤ op) && decide (op ≤ 91))) = true := by simp; omega
   have e3 : (false || (decide (84 ≤ op) && decide (op ≤ 87)) || (decide (88 ≤ op) && decide (op ≤ 91)) || op == 150 || op == 146 || op == 147) = true := by rw [Bool.false_or, e2]; rfl
   rw [e3]
   obtain ⟨a, b⟩ := h2
   have c1 : 78 < op := by omega
   clear e1 e2 e3 h
   by_cases h4 : op ≤ 87
   ·go_enter Try.func73, Try.ntmps73
    go_wp2
    go_ret
    exact ⟨by simp, rfl⟩
   ·have h5 : 87 < op := by omega
    have h6 : 88 ≤ op := by omega
    go_enter Try.func73, Try.ntmps73
    go_wp2
    go_ret
    exact ⟨by simp, rfl⟩
  ·have e2 : (decide (84 ≤ op) && decide (op ≤ 87)) = false := by simp; omega
   have e3 : (decide (88 ≤ op) && decide (op ≤ 91)) = false := by simp; omega
   rw [e2, e3]
   by_cases h5 : op = 150 ∨ op = 146 ∨ op = 147
   ·clear e1 e2 e3 h h2
    rcases h5 with rfl | rfl | rfl
    ·go_enter Try.func73, Try.ntmps73
     go_wp2
     go_ret
     exact ⟨by simp, rfl⟩
    ·go_enter Try.func73, Try.ntmps73
     go_wp2
     go_ret
     exact ⟨by simp, rfl⟩
    ·go_enter Try.func73, Try.ntmps73
     go_wp2
     go_ret
     exact ⟨by simp, rfl⟩
   ·have g1 : (op == 150) = false := by simp; omega
    have g2 : (op == 146) = false := by simp; omega
    have g3 : (op == 147) = false := by simp; omega
    clear e1 e2 e3
    by_cases h6 : op < 64
    ·have h7 : op < 84 := by omega
     have h8 : op < 88 := by omega
     clear h h2 h5
     go_enter Try.func73, Try.ntmps73
     go_wp2
     go_ret
     exact ⟨by simp [g1, g2, g3] <;> omega, rfl⟩
    ·have h6' : 64 ≤ op := by omega
     have h6'' : 78 < op := by omega
     by_cases h7 : op < 84
     ·have h8 : op < 88 := by omega
      clear h h2 h5
      go_enter Try.func73, Try.ntmps73
      go_wp2
      go_ret
      exact ⟨by simp [g1, g2, g3] <;> omega, rfl⟩
     ·have h7' : 84 ≤ op := by omega
      have h8 : 87 < op := by omega
      have h9 : 88 ≤ op := by omega
      have h10 : 91 < op := by omega
      clear h h2 h5
      go_enter Try.func73, Try.ntmps73
      go_wp2
      go_ret
      exact ⟨by simp [g1, g2, g3] <;> omega, rfl⟩
set_option maxRecDepth 100000 in
theorem rsized_any (i : Ins) (w : World) :
  Calls Try.prog 72 #[.agg (zt i)] w fun e w' => e = .returned (.agg (zt (z6 i))) ∧ Below w.heap.size w w' := by
 obtain ⟨op, d, s, imm, aux, bank, size⟩ := i
 have HZ := zh (fun W => by have := yL (op % 256) (by omega) (by omega) W; rw [← ju] at this; exact this)
 have hw := u8_mod op
 show Calls Try.prog 72 #[.agg #[.int .i64 op, .int .i64 d, .int .i64 s, .int .u16 imm, .int .u16 aux, .int .i64 bank, .int .i64 size]] w fun e w' => e = .returned (.agg #[.int .i64 op, .int .i64 d, .int .i64 s, .int .u16 imm, .int .u16 aux, .int .i64 bank, .int .i64 (zH (op % 256))]) ∧ Below w.heap.size w w'
 go_enter Try.func72, Try.ntmps72
 go_upto_region 1 with fail
 obtain ⟨h0, h1⟩ := yy w (.cells #[.int .i64 op, .int .i64 d, .int .i64 s, .int .u16 imm, .int .u16 aux, .int .i64 bank, .int .i64 size] 53) (.cells #[.int .i64 0, .int .i64 0, .int .i64 0, .int .u16 0, .int .u16 0, .int .i64 0, .int .i64 0] 53)
 have hB : Below w.heap.size w ((w.alloc (.cells #[.int .i64 op, .int .i64 d, .int .i64 s, .int .u16 imm, .int .u16 aux, .int .i64 bank, .int .i64 size] 53)).alloc (.cells #[.int .i64 0, .int .i64 0, .int .i64 0, .int .u16 0, .int .u16 0, .int .i64 0, .int .i64 0] 53)) := ((Below.refl _ _).alloc (zn _) _).alloc (by simp) _
 have H0 := zh h0
 have H1 := zh h1
 have HB := zh hB
 clear h0 h1 hB
 go_upto_region 2 with (first | (go_at_call 35; refine (HZ.out _).mono ?_; rintro e w1 ⟨rfl, hb1⟩; have H0 := zh ((hb1.block _ (by simp <;> omega)).trans H0.out); have H1 := zh ((hb1.block _ (by simp <;> omega)).trans H1.out); have HB := zh (HB.out.trans (hb1.mono (by simp <;> omega))); clear hb1) | (refine yP rfl _ _ _ rfl _ _ (by rfl) _ (by rfl) _ _ (H0.out) _ (by rfl) ?_ ?_ ?_ (#[.int .i64 op, .int .i64 d, .int .i64 s, .int .u16 imm, .int .u16 aux, .int .i64 bank, .int .i64 (zH (op % 256))]) (by rfl) ?_; rfl; kernel_rfl; kernel_rfl))
 have hne : w.heap.size ≠ w.heap.size + 1 := by omega
 have HG0 := zh (setRow_heap _ _ _ #[.int .i64 op, .int .i64 d, .int .i64 s, .int .u16 imm, .int .u16 aux, .int .i64 bank, .int .i64 (zH (op % 256))] _ _ H0.out)
 have HG1 := zh ((setRow_other _ w.heap.size (w.heap.size + 1) #[.int .i64 op, .int .i64 d, .int .i64 s, .int .u16 imm, .int .u16 aux, .int .i64 bank, .int .i64 (zH (op % 256))] (Ne.symm hne)).trans H1.out)
 have HGB := zh (below_setRow HB.out (zn _) #[.int .i64 op, .int .i64 d, .int .i64 s, .int .u16 imm, .int .u16 aux, .int .i64 bank, .int .i64 (zH (op % 256))])
 clear hne
 go_wp2_with (first
  | (refine wpList_load_row rfl _ (.tmp 1) rfl _ rfl _ #[.int .i64 op, .int .i64 d, .int .i64 s, .int .u16 imm, .int .u16 aux, .int .i64 bank, .int .i64 (zH (op % 256))] _ _ HG0.out Try.underlying53 rfl ?_ ?_; kernel_rfl)
  | (refine wpList_store_row rfl _ (.tmp 2) _ rfl _ #[.int .i64 op, .int .i64 d, .int .i64 s, .int .u16 imm, .int .u16 aux, .int .i64 bank, .int .i64 (zH (op % 256))] rfl rfl _ _ HG1.out ?_ ?_ ?_ ?_; kernel_rfl; rfl; kernel_rfl))
 exact bodyPost_ret (results_cell_row (cs := #[.int .i64 op, .int .i64 d, .int .i64 s, .int .u16 imm, .int .u16 aux, .int .i64 bank, .int .i64 (zH (op % 256))]) (fr := (0, 0)) rfl _ _ (w.heap.size + 1) 53 _ rfl (setRow_heap _ _ _ _ _ _ HG1.out) (Try.underlying53) rfl (by kernel_rfl)) rfl ⟨rfl, below_setRow HGB.out (by omega) _⟩
set_option maxRecDepth 100000 in
set_option maxHeartbeats 1000000 in
theorem rcode_any (p : yw) (w : World) :
  Calls Try.prog 31 #[.agg #[.int .i64 p.bank, .int .u16 p.addr]] w fun e w' => e = .returned (.bool (yp p)) ∧ Below w.heap.size w w' := by
 obtain ⟨b, a⟩ := p
 unfold yp
 show Calls Try.prog 31 #[.agg #[.int .i64 b, .int .u16 a]] w fun e w' => e = .returned (.bool (decide (0 ≤ b) && decide (b < 64) && ((b == 0 && decide (a < 4096)) || (decide (4096 ≤ a) && decide (a < 8192))))) ∧ Below w.heap.size w w'
 by_cases h0 : b < 0
 ·rw [decide_eq_false (show ¬ 0 ≤ b by omega)]
  go_enter Try.func31, Try.ntmps31
  go_wp2
  go_ret
  exact ⟨by simp, (Below.refl _ _).alloc (zn _) _⟩
 ·have h0' : 0 ≤ b := by omega
  rw [decide_eq_true h0']
  by_cases h1 : 63 < b
  ·rw [decide_eq_false (show ¬ b < 64 by omega)]
   go_enter Try.func31, Try.ntmps31
   go_wp2
   go_ret
   exact ⟨by simp, (Below.refl _ _).alloc (zn _) _⟩
  ·have h1' : b ≤ 63 := by omega
   rw [decide_eq_true (show b < 64 by omega)]
   by_cases h2 : b = 0
   ·subst h2
    by_cases h3 : a < 4096
    ·rw [decide_eq_true h3]
     go_enter Try.func31, Try.ntmps31
     go_wp2
     go_ret
     exact ⟨by simp, (Below.refl _ _).alloc (zn _) _⟩
    ·have h3' : 4096 ≤ a := by omega
     rw [decide_eq_false h3, decide_eq_true h3']
     by_cases h4 : a < 8192
     ·rw [decide_eq_true h4]
      go_enter Try.func31, Try.ntmps31
      go_wp2
      go_ret
      exact ⟨by simp, (Below.refl _ _).alloc (zn _) _⟩
     ·have h4' : 8192 ≤ a := by omega
      rw [decide_eq_false h4]
      go_enter Try.func31, Try.ntmps31
      go_wp2
      go_ret
      exact ⟨by simp, (Below.refl _ _).alloc (zn _) _⟩
   ·have h2' : (b == 0) = false := by simp [h2]
    rw [h2']
    by_cases h3 : 4096 ≤ a
    ·rw [decide_eq_true h3]
     by_cases h4 : a < 8192
     ·rw [decide_eq_true h4]
      go_enter Try.func31, Try.ntmps31
      go_wp2
      go_ret
      exact ⟨by simp, (Below.refl _ _).alloc (zn _) _⟩
     ·have h4' : 8192 ≤ a := by omega
      rw [decide_eq_false h4]
      go_enter Try.func31, Try.ntmps31
      go_wp2
      go_ret
      exact ⟨by simp, (Below.refl _ _).alloc (zn _) _⟩
    ·have h3' : a < 4096 := by omega
     rw [decide_eq_false h3]
     go_enter Try.func31, Try.ntmps31
     go_wp2
     go_ret
     exact ⟨by simp, (Below.refl _ _).alloc (zn _) _⟩
set_option maxRecDepth 100000 in
set_option maxHeartbeats 1000000 in
theorem y2 (op : Int) (w : World) :
  Calls Try.prog 18 #[.int .i64 op] w fun e w' => e = .returned (.int .i64 (zK op)) ∧ Below w.heap.size w w' := by
 obtain ⟨cb, hcb⟩ : ∃ cb : Bool, (xN op || op == 128 || op == 129) = cb := ⟨_, rfl⟩
 go_enter Try.func18, Try.ntmps18
 go_upto_region 1 with fail
 go_cut [3] (fun s wx => s = .bool cb ∧ wx = w)
 case first =>
  by_cases a1 : op < 96
  ·have e : cb = false := by rw [← hcb]; simp [xN]; omega
   have g1 : (op == 128) = false := by simp; omega
   have g2 : (op == 129) = false := by simp; omega
   have a4 : op < 112 := by omega
   clear hcb
   go_wp2_with fail
   go_meet
   exact ⟨by rw [e], rfl⟩
  ·have a1' : 96 ≤ op := by omega
   by_cases a2 : op < 110
   ·have e : cb = true := by rw [← hcb]; simp [xN]; omega
    clear hcb
    go_wp2_with fail
    go_meet
    exact ⟨by rw [e], rfl⟩
   ·have a2' : 110 ≤ op := by omega
    by_cases a3 : op < 112
    ·have e : cb = false := by rw [← hcb]; simp [xN]; omega
     have g1 : (op == 128) = false := by simp; omega
     have g2 : (op == 129) = false := by simp; omega
     clear hcb
     go_wp2_with fail
     go_meet
     exact ⟨by rw [e], rfl⟩
    ·have a3' : 112 ≤ op := by omega
     by_cases a4 : op < 126
     ·have e : cb = true := by rw [← hcb]; simp [xN]; omega
      clear hcb
      go_wp2_with fail
      go_meet
      exact ⟨by rw [e], rfl⟩
     ·have a4' : 126 ≤ op := by omega
      by_cases a5 : op = 128
      ·subst a5
       have e : cb = true := by rw [← hcb]; rfl
       clear hcb
       go_wp2_with fail
       go_meet
       exact ⟨by rw [e], rfl⟩
      ·by_cases a6 : op = 129
       ·subst a6
        have e : cb = true := by rw [← hcb]; rfl
        clear hcb
        go_wp2_with fail
        go_meet
        exact ⟨by rw [e], rfl⟩
       ·have e : cb = false := by rw [← hcb]; simp [xN]; omega
        have g1 : (op == 128) = false := by simp [a5]
        have g2 : (op == 129) = false := by simp [a6]
        clear hcb
        go_wp2_with fail
        go_meet
        exact ⟨by rw [e], rfl⟩
 case rest =>
  obtain ⟨rfl, rfl⟩ := hcut
  cases cb with
  | true =>
   have HV := zh (show zK op = 2 by unfold zK; rw [if_pos hcb])
   clear hcb
   go_wp2
   go_ret
   exact ⟨by rw [HV.out]; rfl, Below.refl _ _⟩
  | false =>
   have hf : zK op = (if op == 133 then 3 else if op == 130 || op == 132 || op == 131 then 4 else if op == 134 || decide (op < 0) || decide (255 < op) || zH op == 0 then 0 else 1) := by
    unfold zK; rw [if_neg (by rw [hcb]; decide)]
   clear hcb
   by_cases h2 : op = 133 ∨ op = 130 ∨ op = 132 ∨ op = 131 ∨ op = 134
   ·rcases h2 with rfl | rfl | rfl | rfl | rfl <;>
    ·have HV := zh hf
     clear hf
     go_wp2
     go_ret
     exact ⟨by rw [HV.out]; rfl, Below.refl _ _⟩
   ·have g3 : (op == 133) = false := by simp; omega
    have g4 : (op == 130) = false := by simp; omega
    have g5 : (op == 132) = false := by simp; omega
    have g6 : (op == 131) = false := by simp; omega
    have g7 : (op == 134) = false := by simp; omega
    rw [g3, g4, g5, g6, g7] at hf
    by_cases h3 : op < 0
    ·have HV := zh (show zK op = 0 by rw [hf, decide_eq_true h3]; rfl)
     clear hf h2
     go_wp2
     go_ret
     exact ⟨by rw [HV.out]; rfl, Below.refl _ _⟩
    ·have h3' : 0 ≤ op := by omega
     by_cases h4 : 255 < op
     ·have HV := zh (show zK op = 0 by rw [hf, decide_eq_true h4, Bool.or_true]; rfl)
      clear hf h2
      go_wp2
      go_ret
      exact ⟨by rw [HV.out]; rfl, Below.refl _ _⟩
     ·have h4' : op ≤ 255 := by omega
      have hw : IntKind.u8.wrap op = op := IntWalk.u8_in _ (by omega)
      have HZ := zh (fun W => by have := yL op h3' (by omega) W; rw [← ju] at this; exact this)
      by_cases h5 : zH op = 0
      ·have HV := zh (show zK op = 0 by rw [hf, h5]; simp)
       rw [h5] at HZ
       clear hf h2 h5
       go_wp2_with (go_at_call 35; refine (HZ.out _).mono ?_; rintro e w2 ⟨rfl, hb2⟩)
       go_ret
       exact ⟨by rw [HV.out]; rfl, hb2⟩
      ·have g8 : (zH op == 0) = false := by simp [h5]
       have HV := zh (show zK op = 1 by rw [hf, g8, decide_eq_false h3, decide_eq_false h4]; rfl)
       clear hf h2
       go_wp2_with (go_at_call 35; refine (HZ.out _).mono ?_; rintro e w2 ⟨rfl, hb2⟩)
       go_ret
       exact ⟨by rw [HV.out]; rfl, hb2⟩
set_option maxRecDepth 100000 in
set_option maxHeartbeats 1000000 in
theorem rall_any (t : List yw) (ao : Option Addr) (cap : Nat) (w : World) (hI : jj w (.slice ao t.length cap) t) (hl : t.length ≤ 100000) :
  Calls Try.prog 32 #[.slice ao t.length cap] w fun e w' => e = .returned (.bool (t.all yp)) ∧ Below w.heap.size w w' := by
 have HI := zh hI
 clear hI
 go_enter Try.func32, Try.ntmps32
 go_wp2_with fail
 go_loopw [3] (fun i wr => ∃ k : Nat, k ≤ t.length ∧ i = .int .i64 k ∧ Hid (Below w.heap.size w wr) ∧ Hid ((t.take k).all yp = true)) (fun i _ => t.length - (intOf i).toNat)
 case atStart => exact ⟨0, Nat.zero_le _, rfl, zh (Below.refl _ _), zh rfl⟩
 case round =>
  obtain ⟨k, hk, rfl, HB, HA⟩ := hrel
  by_cases hlt : k < t.length
  ·obtain ⟨p, hp⟩ : ∃ p, t[k]? = some p := ⟨_, List.getElem?_eq_getElem hlt⟩
   have HP := zh hp
   obtain ⟨q, off, c, T', fr', rfl, hq, hx⟩ := (HI.out.below HB.out).at hp
   have HQ := zh hq
   have HX := zh hx
   have HCD := zh (show ∀ W, Calls Try.prog 31 #[.agg #[.int .i64 p.bank, .int .u16 p.addr]] W fun e w' => e = .returned (.bool (yp p)) ∧ Below W.heap.size W w' from fun W => rcode_any p W)
   clear hq hx hp
   go_upto_region 5 with (first | (refine z9 _ _ rfl _ _ rfl _ _ _ (HQ.out) ([.int .i64 p.bank, .int .u16 p.addr]) (HX.out) ?_ ?_ ?_; kernel_rfl; kernel_rfl) | (go_at_call 31; refine (HCD.out _).mono ?_; rintro e w3 ⟨rfl, hb3⟩))
   have HB3 := zh (HB.out.trans (hb3.mono HB.out.size))
   clear hb3
   cases ha : yp p with
   | true =>
    have HT := zh (show (t.take (k + 1)).all yp = true by rw [List.take_succ, HP.out, List.all_append, HA.out]; simp [ha])
    clear ha
    go_wp2_with fail
    go_roundw
    case rel => exact ⟨k + 1, by omega, by go_num, HB3, HT⟩
    case measure => simp [intOf]; omega
   | false =>
    have HT := zh (show t.all yp = false by
     rw [List.all_eq_false]
     exact ⟨p, List.mem_of_getElem? HP.out, by simp [ha]⟩)
    clear ha
    go_wp2_with fail
    go_ret
    exact ⟨by rw [HT.out]; rfl, HB3.out⟩
  ·have hke : k = t.length := by omega
   subst hke
   have HT := HA.out
   rw [List.take_length] at HT
   have HT2 := zh HT
   clear HT hlt hk
   go_wp2_with fail
   go_ret
   exact ⟨by rw [HT2.out]; rfl, HB.out⟩
end Go.Proofs.Ythebmoggbgldmaa
