/- The law ScanThunks, walked. Condition: the numbers lie in their types' ranges. -/
import Derived.Test.YteofmaiojepdkaaGreatTfIsaH
set_option linter.all false
namespace Go.Proofs.YteofmaiojepdkaaGreat
open Go Go.RowKit Go.Maps Go.Sort
@[go_sem] theorem jm_build (a : Int) (W : World) : (Instr.build 53 #[(0, .int .i64 131), (3, .int .u16 a), (6, .int .i64 4)]).run Tryz.prog W = .ok (.agg #[.int .i64 131, .int .i64 0, .int .i64 0, .int .u16 a, .int .u16 0, .int .i64 0, .int .i64 4]) W := run_build W _ _ _ (by kernel_rfl)
@[go_sem] theorem jm_build2 (b a : Int) (W : World) : (Instr.build 53 #[(0, .int .i64 131), (5, .int .i64 b), (3, .int .u16 a), (6, .int .i64 4)]).run Tryz.prog W = .ok (.agg #[.int .i64 131, .int .i64 0, .int .i64 0, .int .u16 a, .int .u16 0, .int .i64 b, .int .i64 4]) W := run_build W _ _ _ (by kernel_rfl)
@[go_sem] theorem plc_build2 (b a : Int) (W : World) : (Instr.build 47 #[(0, .int .i64 b), (1, .int .u16 a)]).run Tryz.prog W = .ok (.agg #[.int .i64 b, .int .u16 a]) W := run_build W _ _ _ (by kernel_rfl)
@[go_sem] theorem plc_buildZ (W : World) : (Instr.build 47 #[]).run Tryz.prog W = .ok (.agg #[.int .i64 0, .int .u16 0]) W := run_build W _ _ _ (by kernel_rfl)
theorem u8_and1 (n : Int) : bits .and .u8 n 1 = n % 2 := by
 have h15 : (BitVec.ofInt 8 1).toNat = 2 ^ 1 - 1 := by decide
 have key : (BitVec.ofInt 8 n &&& BitVec.ofInt 8 1).toNat = (n % ((2 ^ 8 : Nat) : Int)).toNat % 2 ^ 1 := by
  rw [BitVec.toNat_and, BitVec.toNat_ofInt, h15, Nat.and_two_pow_sub_one_eq_mod]
 show IntKind.u8.wrap ((BitVec.ofInt 8 n &&& BitVec.ofInt 8 1).toNat : Nat) = n % 2
 rw [key]
 unfold IntKind.wrap
 simp [IntKind.bits, IntKind.signed]
 omega
theorem thk_nat {x : Int} (h : 0 ≤ x ∧ x < 256) : ∃ m : Nat, 1 ≤ m ∧ m ≤ 20 ∧ 1 + x.tmod 20 = (m : Int) ∧ 0 ≤ x.tmod 20 ∧ x.tmod 20 < 20 := by
 have h1 : x.tmod 20 = x % 20 := Int.tmod_eq_emod_of_nonneg h.1
 exact ⟨(1 + x % 20).toNat, by omega, by omega, by omega, by omega, by omega⟩
theorem and1_nat (n : Int) : ∃ b : Nat, b ≤ 1 ∧ bits .and .u8 n 1 = (b : Int) := ⟨(n % 2).toNat, by omega, by rw [u8_and1]; omega⟩
theorem thC_enc {m : Nat} {c : Bool} {b k : Nat} {a d : Int} (ha : (thD m c b k).addr = a) (hd : (thD m c b k).bank = d) : xu (encB (jmI a d)) = thC m c b k := by unfold thC; rw [ha, hd]
set_option maxRecDepth 100000 in
set_option maxHeartbeats 8000000 in
theorem scanthunks_any (x0 : Int) (h0 : 0 ≤ x0 ∧ x0 < 256) (cb : Bool) (x2 : Int) (h2 : 0 ≤ x2 ∧ x2 < 256) (w : World) :
  Calls Tryz.prog 12 #[.int .u8 x0, .bool cb, .int .u8 x2] w fun e w' => e = .returned (.bool true) ∧ Below w.heap.size w w' := by
 have HSA := Lib.hid (fun W => sane_any W)
 obtain ⟨m, hm1, hm2, hme, hl1, hl2⟩ := thk_nat h0
 obtain ⟨b, hb1, hbe⟩ := and1_nat x2
 have HM := Lib.hid (And.intro hm1 (And.intro hm2 hb1))
 have HEN := Lib.hid (fun (a d : Int) (ha : 0 ≤ a ∧ a < 65536) (hd : 0 ≤ d ∧ d < 64) W => show Calls Tryz.prog 28 #[.agg #[.int .i64 131, .int .i64 0, .int .i64 0, .int .u16 a, .int .u16 0, .int .i64 d, .int .i64 4]] W fun e w' => e = .returned (.tuple #[.string (xu (encB (jmI a d))), .int .i64 (encE (jmI a d))]) ∧ Below W.heap.size W w' from rencode_any (jmI a d) (by refine ⟨?_, ?_, ?_, ?_, ?_, ?_, ?_⟩ <;> (unfold jmI; dsimp only; first | (unfold yX; omega) | omega)) W)
 have HME := Lib.hid (And.intro hme hbe)
 clear h0 h2 hme hbe hb1
 go_enter Tryz.func12, Tryz.ntmps12
 go_upto_region 3 with (go_at_call 14; (with_reducible refine (HSA.out _).mono ?_); rintro e1 w1 ⟨rfl, hb1⟩; have HB1 := Lib.hid hb1; clear hb1)
 rw [HME.out.1]
 clear hl1 hl2
 go_wp2_with fail
 go_loopw [9, 10] (fun s i wr => ∃ j : Nat, j ≤ m ∧ i = .int .i64 ((j : Int) + 1) ∧ s = .string (thS m cb b j) ∧ Hid (Below w.heap.size w wr)) (fun _ i _ => m + 1 - (intOf i).toNat)
 case atStart => exact ⟨0, Nat.zero_le _, rfl, rfl, HB1⟩
 case round =>
  clear HB1
  obtain ⟨j, hj, rfl, rfl, HB⟩ := hrel
  by_cases hlt : j < m
  ·have hlt2 : (j : Int) + 1 ≤ (m : Int) := by omega
   have HLT := Lib.hid hlt
   have hts := thS_size (c := cb) hm2 HM.out.2.2 hj
   have htc := (thC_size (c := cb) hm2 HM.out.2.2 hlt).1
   have HTN := Lib.hid (show thS m cb b j ++ thC m cb b j = thS m cb b (j + 1) from rfl)
   have HTS := Lib.hid (And.intro hts htc)
   clear hts htc
   by_cases hjm : j + 1 = m
   ·have he : ((j : Int) + 1 == (m : Int)) = true := by simp; omega
    have HJM := Lib.hid hjm
    cases cb with
    | true =>
     have HTC := Lib.hid (thC_enc (m := m) (c := true) (b := b) (k := j) (a := 0) (d := 0) (by unfold thD; rw [if_pos hjm]; rfl) (by unfold thD; rw [if_pos hjm]; rfl))
     clear hjm
     go_upto_region 13 with (go_at_call 28; (with_reducible refine (HEN.out 0 0 (by omega) (by omega) _).mono ?_); rintro e2 w2 ⟨rfl, hb2⟩; rw [HTC.out]; have HB2 := Lib.hid (HB.out.trans (hb2.mono HB.out.size)); clear hb2)
     have hts := HTS.out.1
     have htc := HTS.out.2
     go_wp2_with fail
     go_roundw
     case rel => exact ⟨j + 1, HLT.out, by go_num, by rw [HTN.out], HB2⟩
     case measure => have h1 := HLT.out; simp [intOf]; omega
    | false =>
     have HTC := Lib.hid (thC_enc (m := m) (c := false) (b := b) (k := j) (a := 4105) (d := 1 + (b : Int)) (by unfold thD; rw [if_pos hjm]; rfl) (by unfold thD; rw [if_pos hjm]; show ((1 + b : Nat) : Int) = 1 + (b : Int); omega))
     have hbe := HME.out.2
     have hb1 := HM.out.2.2
     clear hjm
     have hj20 : j < 20 := by have := HM.out.2.1; omega
     go_upto_region 13 with (first
      | (go_at_call 28; (with_reducible refine (HEN.out (4 * ((j : Int) + 1)) 0 (by omega) (by omega) _).mono ?_); rintro e2 w2 ⟨rfl, hb2⟩; have HB2 := Lib.hid (HB.out.trans (hb2.mono HB.out.size)); clear hb2)
      | (go_at_call 28; (with_reducible refine (HEN.out 4105 (1 + (b : Int)) (by omega) (by omega) _).mono ?_); rintro e3 w3 ⟨rfl, hb3⟩; rw [HTC.out]; have HB3 := Lib.hid (HB2.out.trans (hb3.mono HB2.out.size)); clear hb3))
     have hts := HTS.out.1
     have htc := HTS.out.2
     go_wp2_with fail
     go_roundw
     case rel => exact ⟨j + 1, HLT.out, by go_num, by rw [HTN.out], HB3⟩
     case measure => have h1 := HLT.out; simp [intOf]; omega
   ·have he : ((j : Int) + 1 == (m : Int)) = false := by simp; omega
    have he2 : ¬ (j : Int) + 1 = (m : Int) := by omega
    have HTC := Lib.hid (thC_enc (m := m) (c := cb) (b := b) (k := j) (a := 4 * ((j : Int) + 1)) (d := 0) (by unfold thD; rw [if_neg hjm]; show ((4 * (j + 1) : Nat) : Int) = 4 * ((j : Int) + 1); omega) (by unfold thD; rw [if_neg hjm]))
    clear hjm
    have hj20 : j < 20 := by have := HM.out.2.1; omega
    go_upto_region 13 with (go_at_call 28; (with_reducible refine (HEN.out (4 * ((j : Int) + 1)) 0 (by omega) (by omega) _).mono ?_); rintro e2 w2 ⟨rfl, hb2⟩; rw [HTC.out]; have HB2 := Lib.hid (HB.out.trans (hb2.mono HB.out.size)); clear hb2)
    have hts := HTS.out.1
    have htc := HTS.out.2
    go_wp2_with fail
    go_roundw
    case rel => exact ⟨j + 1, HLT.out, by go_num, by rw [HTN.out], HB2⟩
    case measure => have h1 := HLT.out; simp [intOf]; omega
  ·obtain rfl : j = m := by omega
   have hts := thS_size (c := cb) hm2 HM.out.2.2 (Nat.le_refl j)
   have HP9 := Lib.hid (fun W => show Calls Tryz.prog 29 #[.int .i64 9, .string ⟨#[1]⟩] W fun e w' => e = .returned (.string (yW (xj 9 ⟨#[1]⟩))) ∧ Below W.heap.size W w' from page_any 9 ⟨#[1]⟩ (by omega) (by decide) W)
   have HP0 := Lib.hid (fun W => show Calls Tryz.prog 29 #[.int .i64 0, .string (thS j cb b j)] W fun e w' => e = .returned (.string (yW (xj 0 (thS j cb b j)))) ∧ Below W.heap.size W w' from page_any 0 (thS j cb b j) (by omega) (by omega) W)
   obtain ⟨sT, hsT⟩ : ∃ s, thS j cb b j = s := ⟨_, rfl⟩
   have HST := Lib.hid hsT
   rw [hsT] at HP0 ⊢
   clear hts hsT
   go_upto_region 15 with (go_at_call 29; (with_reducible refine (HP9.out _).mono ?_); rintro e2 w2 ⟨rfl, hb2⟩; have HB2 := Lib.hid (HB.out.trans (hb2.mono HB.out.size)); clear hb2)
   obtain ⟨p9, hp9⟩ : ∃ s, yW (xj 9 ⟨#[1]⟩) = s := ⟨_, rfl⟩
   have HPP := Lib.hid hp9
   rw [hp9]
   clear hp9
   go_upto_region 16 with (first
    | (go_at_call 29; (with_reducible refine (HP0.out _).mono ?_); rintro e3 w3 ⟨rfl, hb3⟩; have HB3 := Lib.hid (HB2.out.trans (hb3.mono HB2.out.size)); clear hb3)
    | (refine stN ?_))
   try simp only [Act.put]
   have hx := Bx.two w3 (.cells #[.string (yW (xj 0 sT)), .string p9, .string p9] 9) (.cells #[.slice (some ⟨w3.heap.size, 0, none⟩) 3 3, .int .u16 0, .int .u16 0, .slice none 0 0, .slice none 0 0] 31)
   obtain ⟨wi, hwi⟩ : ∃ wi, (w3.alloc (.cells #[.string (yW (xj 0 sT)), .string p9, .string p9] 9)).alloc (.cells #[.slice (some ⟨w3.heap.size, 0, none⟩) 3 3, .int .u16 0, .int .u16 0, .slice none 0 0, .slice none 0 0] 31) = wi := ⟨_, rfl⟩
   rw [hwi] at hx ⊢
   have HIV := Lib.hid (show yN wi (thI j cb b) (some ⟨w3.heap.size, 0, none⟩) 3 none 0 from ⟨⟨Nat.le_refl _, rfl, fun _ => ⟨w3.heap.size, 0, _, _, _, rfl, hx.b0, fun i hi => by rw [Nat.zero_add, ← Array.getElem?_toList, ← HST.out, ← HPP.out]; rfl⟩⟩, ⟨Nat.le_refl _, rfl, fun h => by cases h⟩⟩)
   have HIM := Lib.hid hx.b1
   have HBI := Lib.hid (HB3.out.trans (hx.bb.mono HB3.out.size))
   have HSC := Lib.hid (show Calls Tryz.prog 17 #[.agg #[.slice (some ⟨w3.heap.size, 0, none⟩) 3 3, .int .u16 0, .int .u16 0, .slice none 0 0, .slice none 0 0], .slice none 0 0] wi (ScP (thI j cb b) [] wi) from
    scan_any (thI j cb b) thI_ok (some ⟨w3.heap.size, 0, none⟩) 3 none 0 none 0 0 [] (fun p hp => by cases hp) (by simp) none 0 wi HIV.out ⟨Nat.le_refl _, rfl, fun h => by cases h⟩ (fun g off e => by cases e))
   clear hx hwi HIV HP0 HP9 HB HB2 HB3 HSA HEN
   go_upto_region 17 with (first
    | (refine ldT 31 (HIM.out) ?_)
    | (go_at_call 17; (with_reducible refine HSC.out.mono ?_); rintro e7 w7 ⟨L, vc, vr, vi, rfl, hL, hlv, hb7⟩
       obtain ⟨c0, hc0, hrd⟩ := hlv.read thI_ok
       have hLr := th_lst hm2 HM.out.2.2 HM.out.1 hL
       rw [hLr] at hrd
       have HRD := Lib.hid hrd
       have HB7 := Lib.hid (HBI.out.trans (hb7.mono HBI.out.size))
       obtain ⟨Ac, kc, hvc, -⟩ := hrd.cls
       obtain ⟨R, Ar, kr, hvr, -, hRL⟩ := hrd.rts
       obtain ⟨Ai, ki, hvi, -⟩ := hrd.iss
       obtain ⟨mi, hmi⟩ : ∃ mi, L.iss.length = mi := ⟨_, rfl⟩
       rw [hmi] at hvi
       obtain ⟨nb, hnb⟩ : ∃ nb, (thI j cb b).banks.length = nb := ⟨_, rfl⟩
       rw [hnb] at hvc
       have hRn : R.length = if cb then j else j + 1 := by rw [← thL_len (c := cb) (b := b), ← hRL, List.length_map]
       have HRN := Lib.hid hRn
       subst hvc hvr hvi
       clear hL hlv hb7 hc0 hrd hRL hLr hmi hnb hRn)
    | (refine stN ?_))
   try simp only [Act.put]
   have hb8 : Below w7.heap.size w7 (w7.alloc (.cells #[.slice Ac nb kc, .slice Ar R.length kr, .slice Ai mi ki] 38)) := (Below.refl _ _).alloc (Nat.le_refl _) _
   have HG := Lib.hid (heap_alloc_new w7 (.cells #[.slice Ac nb kc, .slice Ar R.length kr, .slice Ai mi ki] 38))
   have HRD8 := Lib.hid (HRD.out.below hb8)
   have HB8 := Lib.hid (HB7.out.trans (hb8.mono HB7.out.size))
   obtain ⟨w8, hw8⟩ : ∃ w8, w7.alloc (.cells #[.slice Ac nb kc, .slice Ar R.length kr, .slice Ai mi ki] 38) = w8 := ⟨_, rfl⟩
   obtain ⟨gl, hgl⟩ : ∃ g, w7.heap.size = g := ⟨_, rfl⟩
   rw [hw8] at HG HRD8 HB8 ⊢
   rw [hgl] at HG ⊢
   clear hb8 hw8 hgl HSC HIM HBI HB7 HRD
   have hbe := HME.out.2
   have hb1 := HM.out.2.2
   go_upto_region 18 with (refine stN ?_)
   try simp only [Act.put]
   have hb9 : Below w8.heap.size w8 (w8.alloc (zI ⟨1 + (b : Int), 4105⟩)) := (Below.refl _ _).alloc (Nat.le_refl _) _
   have HGE := Lib.hid (heap_alloc_new w8 (zI ⟨1 + (b : Int), 4105⟩))
   have HGL := Lib.hid (za hb9 HG.out)
   have HRD9 := Lib.hid (HRD8.out.below hb9)
   have HB9 := Lib.hid (HB8.out.trans (hb9.mono HB8.out.size))
   obtain ⟨w9, hw9⟩ : ∃ w9, w8.alloc (zI ⟨1 + (b : Int), 4105⟩) = w9 := ⟨_, rfl⟩
   obtain ⟨ge, hge⟩ : ∃ g, w8.heap.size = g := ⟨_, rfl⟩
   rw [hw9] at HGE HGL HRD9 HB9 ⊢
   rw [hge] at HGE ⊢
   clear hb9 hw9 hge HRD8 HB8 HG hbe hb1 HST HPP
   cases cb with
   | true =>
    have HRN := Lib.hid (show R.length = j from HRN.out)
    have HRE := Lib.hid (fun (k : Nat) (hk : k < j) W (hb : Below w9.heap.size w9 W) => show Calls Tryz.prog 33 #[.agg #[.slice Ac nb kc, .slice Ar R.length kr, .slice Ai mi ki], .agg #[.int .i64 0, .int .u16 (4 * (k : Int))]] W fun e W' => e = .returned (.tuple #[.agg #[.int .i64 0, .int .u16 0], .bool false]) ∧ Below W.heap.size W W' from by
     have h1 := resolve_any ⟨0, 4 * (k : Int)⟩ W (HRD9.out.below hb) (by rw [thL_len]; simp; omega)
     have h2 : resS (thL j true b) ((thL j true b).length + 1) ⟨0, 4 * (k : Int)⟩ = none := by rw [show (⟨0, 4 * (k : Int)⟩ : zb) = ⟨0, ((4 * k : Nat) : Int)⟩ from by congr 1, res_circle hm2 HM.out.2.2 HM.out.1 _ k hk]
     rw [h2] at h1
     exact h1.mono fun e W' h => h)
    have HRX := Lib.hid (fun W (hb : Below w9.heap.size w9 W) => show Calls Tryz.prog 33 #[.agg #[.slice Ac nb kc, .slice Ar R.length kr, .slice Ai mi ki], .agg #[.int .i64 0, .int .u16 2]] W fun e W' => e = .returned (.tuple #[.agg #[.int .i64 0, .int .u16 0], .bool false]) ∧ Below W.heap.size W W' from by
     have h1 := resolve_any ⟨0, 2⟩ W (HRD9.out.below hb) (by rw [thL_len]; simp; omega)
     rw [res_none hm2 HM.out.2.2 _ HM.out.1] at h1
     exact h1)
    clear HRD9
    go_wp2_with fail
    go_loopw [18] (fun i wr => ∃ k : Nat, k ≤ j ∧ i = .int .i64 k ∧ Hid (Below w9.heap.size w9 wr)) (fun i _ => j - (intOf i).toNat)
    case atStart => exact ⟨0, Nat.zero_le _, rfl, Lib.hid (Below.refl _ _)⟩
    case round =>
     obtain ⟨k, hk, rfl, HBR⟩ := hrel
     have HG9 := Lib.hid (za HBR.out HGL.out)
     have HE9 := Lib.hid (za HBR.out HGE.out)
     by_cases hlt : k < j
     ·have HLT := Lib.hid hlt
      have hj20 : j ≤ 20 := hm2
      go_upto_region 22 with (first
       | (refine ldT 38 (HG9.out) ?_)
       | (go_at_call 33; (with_reducible refine (HRE.out k HLT.out _ HBR.out).mono ?_); rintro e5 w5 ⟨rfl, hb5⟩; have HB5 := Lib.hid (HBR.out.trans (hb5.mono HBR.out.size)); clear hb5)
       | (refine stN ?_))
      have hp5 := heap_alloc_new w5 (zI ⟨0, 0⟩)
      have hb6 : Below w9.heap.size w9 (w5.alloc (zI ⟨0, 0⟩)) := HB5.out.alloc HB5.out.size _
      have HB6 := Lib.hid hb6
      have he6 := za hb6 HGE.out
      obtain ⟨w6, hw6⟩ : ∃ w6, w5.alloc (zI ⟨0, 0⟩) = w6 := ⟨_, rfl⟩
      rw [hw6] at hp5 he6 HB6 ⊢
      have hcp := fun o => cell_of_row w6 w5.heap.size o _ _ _ hp5
      have hce := fun o => cell_of_row w6 ge o _ _ _ he6
      clear hp5 hb6 hw6 he6
      go_wp2_with fail
      go_roundw
      case rel => exact ⟨k + 1, HLT.out, by go_num, HB6⟩
      case measure => have h1 := HLT.out; simp [intOf]; omega
     ·obtain rfl : k = j := by omega
      go_upto_region 25 with (first
       | (refine ldT 38 (HG9.out) ?_)
       | (go_at_call 33; (with_reducible refine (HRX.out _ HBR.out).mono ?_); rintro e5 w5 ⟨rfl, hb5⟩; have HB5 := Lib.hid (HBR.out.trans (hb5.mono HBR.out.size)); clear hb5)
       | (refine stN ?_))
      have HB6 := Lib.hid (HB5.out.alloc HB5.out.size (zI ⟨0, 0⟩))
      obtain ⟨w6, hw6⟩ : ∃ w6, w5.alloc (zI ⟨0, 0⟩) = w6 := ⟨_, rfl⟩
      rw [hw6] at HB6 ⊢
      clear hw6
      have HG6 := Lib.hid (za HB6.out HGL.out)
      have hcl := fun o => cell_of_row w6 gl o _ _ _ HG6.out
      have hrn := HRN.out
      go_wp2_with fail
      go_ret
      exact ⟨rfl, HB9.out.trans (HB6.out.mono HB9.out.size)⟩
   | false =>
    have HRN := Lib.hid (show R.length = j + 1 from HRN.out)
    have HRE := Lib.hid (fun (k : Nat) (hk : k < j) W (hb : Below w9.heap.size w9 W) => show Calls Tryz.prog 33 #[.agg #[.slice Ac nb kc, .slice Ar R.length kr, .slice Ai mi ki], .agg #[.int .i64 0, .int .u16 (4 * (k : Int))]] W fun e W' => e = .returned (.tuple #[.agg #[.int .i64 (1 + (b : Int)), .int .u16 4105], .bool true]) ∧ Below W.heap.size W W' from by
     have h1 := resolve_any ⟨0, 4 * (k : Int)⟩ W (HRD9.out.below hb) (by rw [thL_len]; simp; omega)
     have h2 : resS (thL j false b) ((thL j false b).length + 1) ⟨0, 4 * (k : Int)⟩ = some (enP b) := by rw [show (⟨0, 4 * (k : Int)⟩ : zb) = ⟨0, ((4 * k : Nat) : Int)⟩ from by congr 1, res_end hm2 HM.out.2.2 HM.out.1 _ k hk (by rw [thL_len]; show j - k < j + 1 + 1; omega)]
     rw [h2] at h1
     exact h1.mono fun e W' h => ⟨h.1.trans (by show _ = Ending.returned _; congr 4), h.2⟩)
    have HRX := Lib.hid (fun W (hb : Below w9.heap.size w9 W) => show Calls Tryz.prog 33 #[.agg #[.slice Ac nb kc, .slice Ar R.length kr, .slice Ai mi ki], .agg #[.int .i64 0, .int .u16 2]] W fun e W' => e = .returned (.tuple #[.agg #[.int .i64 0, .int .u16 0], .bool false]) ∧ Below W.heap.size W W' from by
     have h1 := resolve_any ⟨0, 2⟩ W (HRD9.out.below hb) (by rw [thL_len]; simp; omega)
     rw [res_none hm2 HM.out.2.2 _ HM.out.1] at h1
     exact h1)
    have HRS := Lib.hid (fun W (hb : Below w9.heap.size w9 W) => show Calls Tryz.prog 33 #[.agg #[.slice Ac nb kc, .slice Ar R.length kr, .slice Ai mi ki], .agg #[.int .i64 (1 + (b : Int)), .int .u16 4105]] W fun e W' => e = .returned (.tuple #[.agg #[.int .i64 (1 + (b : Int)), .int .u16 4105], .bool true]) ∧ Below W.heap.size W W' from by
     have h1 := resolve_any ⟨1 + (b : Int), 4105⟩ W (HRD9.out.below hb) (by rw [thL_len]; simp; omega)
     have h2 : resS (thL j false b) ((thL j false b).length + 1) ⟨1 + (b : Int), 4105⟩ = some (enP b) := by rw [show (⟨1 + (b : Int), 4105⟩ : zb) = enP b from by unfold enP; congr 1]; exact res_self hm2 HM.out.2.2 HM.out.1 _
     rw [h2] at h1
     exact h1.mono fun e W' h => ⟨h.1.trans (by show _ = Ending.returned _; congr 4), h.2⟩)
    clear HRD9
    go_wp2_with fail
    go_loopw [18] (fun i wr => ∃ k : Nat, k ≤ j ∧ i = .int .i64 k ∧ Hid (Below w9.heap.size w9 wr)) (fun i _ => j - (intOf i).toNat)
    case atStart => exact ⟨0, Nat.zero_le _, rfl, Lib.hid (Below.refl _ _)⟩
    case round =>
     obtain ⟨k, hk, rfl, HBR⟩ := hrel
     have HG9 := Lib.hid (za HBR.out HGL.out)
     have HE9 := Lib.hid (za HBR.out HGE.out)
     by_cases hlt : k < j
     ·have HLT := Lib.hid hlt
      have hj20 : j ≤ 20 := hm2
      go_upto_region 22 with (first
       | (refine ldT 38 (HG9.out) ?_)
       | (go_at_call 33; (with_reducible refine (HRE.out k HLT.out _ HBR.out).mono ?_); rintro e5 w5 ⟨rfl, hb5⟩; have HB5 := Lib.hid (HBR.out.trans (hb5.mono HBR.out.size)); clear hb5)
       | (refine stN ?_))
      have hp5 := heap_alloc_new w5 (zI ⟨1 + (b : Int), 4105⟩)
      have hb6 : Below w9.heap.size w9 (w5.alloc (zI ⟨1 + (b : Int), 4105⟩)) := HB5.out.alloc HB5.out.size _
      have HB6 := Lib.hid hb6
      have he6 := za hb6 HGE.out
      obtain ⟨w6, hw6⟩ : ∃ w6, w5.alloc (zI ⟨1 + (b : Int), 4105⟩) = w6 := ⟨_, rfl⟩
      rw [hw6] at hp5 he6 HB6 ⊢
      have hcp := fun o => cell_of_row w6 w5.heap.size o _ _ _ hp5
      have hce := fun o => cell_of_row w6 ge o _ _ _ he6
      clear hp5 hb6 hw6 he6
      go_wp2_with fail
      go_roundw
      case rel => exact ⟨k + 1, HLT.out, by go_num, HB6⟩
      case measure => have h1 := HLT.out; simp [intOf]; omega
     ·obtain rfl : k = j := by omega
      go_upto_region 25 with (first
       | (refine ldT 38 (HG9.out) ?_)
       | (go_at_call 33; (with_reducible refine (HRX.out _ HBR.out).mono ?_); rintro e5 w5 ⟨rfl, hb5⟩; have HB5 := Lib.hid (HBR.out.trans (hb5.mono HBR.out.size)); clear hb5)
       | (refine stN ?_))
      have HB6 := Lib.hid (HB5.out.alloc HB5.out.size (zI ⟨0, 0⟩))
      obtain ⟨w6, hw6⟩ : ∃ w6, w5.alloc (zI ⟨0, 0⟩) = w6 := ⟨_, rfl⟩
      rw [hw6] at HB6 ⊢
      clear hw6
      have HG6 := Lib.hid (za HB6.out HGL.out)
      have HE6 := Lib.hid (za HB6.out HGE.out)
      go_upto_region 28 with (first
       | (refine ldT 38 (HG6.out) ?_)
       | (refine ldT 47 (HE6.out) ?_)
       | (go_at_call 33; (with_reducible refine (HRS.out _ HB6.out).mono ?_); rintro e7 w7 ⟨rfl, hb7⟩; have HB7 := Lib.hid (HB6.out.trans (hb7.mono HB6.out.size)); clear hb7)
       | (refine stN ?_))
      have hp8 := heap_alloc_new w7 (zI ⟨1 + (b : Int), 4105⟩)
      have hb8 : Below w9.heap.size w9 (w7.alloc (zI ⟨1 + (b : Int), 4105⟩)) := HB7.out.alloc HB7.out.size _
      have HB8 := Lib.hid hb8
      have he8 := za hb8 HGE.out
      have hl8 := za hb8 HGL.out
      obtain ⟨w8', hw8⟩ : ∃ w8', w7.alloc (zI ⟨1 + (b : Int), 4105⟩) = w8' := ⟨_, rfl⟩
      rw [hw8] at hp8 he8 hl8 HB8 ⊢
      have hcp := fun o => cell_of_row w8' w7.heap.size o _ _ _ hp8
      have hce := fun o => cell_of_row w8' ge o _ _ _ he8
      have hcl := fun o => cell_of_row w8' gl o _ _ _ hl8
      have hrn := HRN.out
      have hj20 : k ≤ 20 := hm2
      clear hp8 hb8 hw8 he8 hl8
      go_wp2_with fail
      go_ret
      exact ⟨rfl, HB9.out.trans (HB8.out.mono HB9.out.size)⟩
end Go.Proofs.YteofmaiojepdkaaGreat
