/- The law ScanTables, walked. Condition: the numbers lie in their types' ranges. -/
import Derived.Test.YteofmaiojepdkaaGreatTeREnc3
import Derived.Test.YteofmaiojepdkaaGreatTeRpA
import Derived.Test.YteofmaiojepdkaaGreatTeLcU
set_option linter.all false
namespace Go.Proofs.YteofmaiojepdkaaGreat
open Go Go.RowKit Go.Maps Go.Sort
@[go_sem] theorem jt_build (n : Int) (W : World) : (Instr.build 53 #[(0, .int .i64 133), (1, .int .i64 1), (5, .int .i64 n), (3, .int .u16 0), (4, .int .u16 2000), (6, .int .i64 7)]).run Tryz.prog W = .ok (.agg #[.int .i64 133, .int .i64 1, .int .i64 0, .int .u16 0, .int .u16 2000, .int .i64 n, .int .i64 7]) W := run_build W _ _ _ (by kernel_rfl)
@[go_sem] theorem plc_build0 (W : World) : (Instr.build 47 #[]).run Tryz.prog W = .ok (.agg #[.int .i64 0, .int .u16 0]) W := run_build W _ _ _ (by kernel_rfl)
theorem jt_valid {n : Nat} (h1 : 1 ≤ n) (h2 : n ≤ 40) : zw (jtI n) = true := by
 have h : ∀ m : _root_.Fin 40, zw (jtI (m.val + 1)) = true := by decide +kernel
 have h3 := h ⟨n - 1, by omega⟩
 dsimp only at h3
 rwa [show n - 1 + 1 = n by omega] at h3
theorem jt_insok {n : Nat} (h2 : n ≤ 40) : (jtI n).Ok := by
 refine ⟨?_, ?_, ?_, ?_, ?_, ?_, ?_⟩ <;> (unfold jtI; dsimp only; first | (unfold yX; omega) | omega)
theorem jtC_size {n : Nat} (h1 : 1 ≤ n) (h2 : n ≤ 40) : (jtC n).size = 8 := by
 obtain ⟨-, -, h⟩ := enc_valid (jtI n) (jt_insok h2) (jt_valid h1 h2)
 unfold jtC
 rw [ByteArray.size_append, strOf_size]
 have h3 : (jtI n).size = 7 := rfl
 have h4 : (⟨#[2]⟩ : ByteArray).size = 1 := rfl
 omega
def adA (ln : Nat) (V : Nat → Int) (k : Nat) : Nat := 1000 + if k < ln then (V k % 100).toNat else 0
theorem adA_bd (ln : Nat) (V : Nat → Int) (k : Nat) : 1000 ≤ adA ln V k ∧ adA ln V k < 1100 := by unfold adA; split <;> omega
def TgL (n : Nat) (A : Nat → Nat) (k : Nat) (v : Value) (W : World) : Prop := ∃ (M : List zb) (B : Option Addr) (c : Nat), v = .slice B M.length c ∧ RdS W 2 B M.length c (zK M) ∧ M.Pairwise zO ∧ (∀ p, p ∈ M ↔ p = ⟨0, 0⟩ ∨ p = ⟨0, 7⟩ ∨ ∃ j, j < min k n ∧ p = ⟨0, ((A j : Nat) : Int)⟩) ∧ M.length ≤ 2 + k
theorem conv_pair {W : World} {a b : Int} {g : Nat} (h : W.heap[g]? = some (.cells #[.int .u8 a, .int .u8 b] 5 (0, 0))) : (convert 73 9 (.slice (some ⟨g, 0, none⟩) 2 2)).run Tryz.prog W = .ok (.string (strOfNums [a, b])) W := by
 refine run_convert_bytes_arg W _ _ Tryz.underlying73 Tryz.underlying5 g 0 2 2 [a, b] rfl (fun i hi => ?_) _ Tryz.underlying9
 rw [Nat.zero_add, cell_of_row _ _ _ _ _ _ h]
 match i, hi with
 | 0, _ => rfl
 | 1, _ => rfl
theorem lim_nat {lim : Int} (h : 0 ≤ lim ∧ lim < 256) : ∃ n : Nat, 1 ≤ n ∧ n ≤ 40 ∧ 1 + lim.tmod 40 = (n : Int) ∧ 0 ≤ lim.tmod 40 ∧ lim.tmod 40 < 40 := by
 have h1 : lim.tmod 40 = lim % 40 := Int.tmod_eq_emod_of_nonneg h.1
 exact ⟨(1 + lim % 40).toNat, by omega, by omega, by omega, by omega, by omega⟩
theorem TgL.skip {n : Nat} {A : Nat → Nat} {k : Nat} {v : Value} {W W' : World} (h : TgL n A k v W) (hb : Below W.heap.size W W') (hk : ¬ k < n) : TgL n A (k + 1) v W' := by
 obtain ⟨M, B, c, e, hr, hs, hm, hl⟩ := h
 refine ⟨M, B, c, e, hr.below hb, hs, fun p => ?_, by omega⟩
 rw [hm p, show min (k + 1) n = min k n by omega]
theorem TgL.put {n : Nat} {A : Nat → Nat} {k : Nat} {M : List zb} {W : World} {B : Option Addr} {c : Nat} (hk : k < n) (hs : M.Pairwise zO) (hm : ∀ p, p ∈ M ↔ p = ⟨0, 0⟩ ∨ p = ⟨0, 7⟩ ∨ ∃ j, j < min k n ∧ p = ⟨0, ((A j : Nat) : Int)⟩) (hl : M.length ≤ 2 + k) (hr : RdS W 2 B (insP M ⟨0, ((A k : Nat) : Int)⟩).length c (zK (insP M ⟨0, ((A k : Nat) : Int)⟩))) : TgL n A (k + 1) (.slice B (insP M ⟨0, ((A k : Nat) : Int)⟩).length c) W := by
 refine ⟨_, B, c, rfl, hr, insP_so hs _, fun p => ?_, by have := insP_len hs ⟨0, ((A k : Nat) : Int)⟩; omega⟩
 rw [insP_me hs, hm p, show min (k + 1) n = min k n + 1 by omega]
 constructor
 ·rintro (rfl | h | h | ⟨j, hj, h⟩)
  ·exact .inr (.inr ⟨k, by omega, rfl⟩)
  ·exact .inl h
  ·exact .inr (.inl h)
  ·exact .inr (.inr ⟨j, by omega, h⟩)
 ·rintro (h | h | ⟨j, hj, h⟩)
  ·exact .inr (.inl h)
  ·exact .inr (.inr (.inl h))
  ·by_cases e : j = k
   ·rw [e] at h; exact .inl h
   ·exact .inr (.inr (.inr ⟨j, by omega, h⟩))
theorem one_map {α β : Type} {f : α → β} : ∀ {l : List α} {b : β}, l.map f = [b] → ∃ x, l = [x] ∧ f x = b
 | [x], _, h => ⟨x, rfl, by injection h⟩
 | [], _, h => by cases h
 | _ :: _ :: _, _, h => by injection h with _ h; cases h
theorem one_len {α : Type} : ∀ {l : List α}, l.length = 1 → ∃ x, l = [x]
 | [x], _ => ⟨x, rfl⟩
 | [], h => by cases h
 | _ :: _ :: _, h => by simp at h
theorem hltB_nums (m : Nat) : hltB m = strOfNums (List.replicate m 2) := by
 unfold hltB strOfNums
 rw [List.map_replicate]
 rfl
set_option maxRecDepth 100000 in
set_option maxHeartbeats 8000000 in
theorem scantables_any (lim : Int) (hlim : 0 ≤ lim ∧ lim < 256) (p : Option Addr) (ln cap : Nat) (V : Nat → Int) (hV : ∀ i, 0 ≤ V i ∧ V i < 256) (hln : ln ≤ 9223372036854775807) (w : World) (hR : RdS w 1 p ln cap ((List.range ln).map fun i => .int .u8 (V i))) :
  Calls Tryz.prog 9 #[.int .u8 lim, .slice p ln cap] w fun e w' => e = .returned (.bool true) ∧ Below w.heap.size w w' := by
 have HSA := zh (fun W => sane_any W)
 obtain ⟨n, hn1, hn2, hne, hl1, hl2⟩ := lim_nat hlim
 have HN1 := zh hn1
 have HN2 := zh hn2
 have HR := zh hR
 have HLN := zh hln
 have HV := zh hV
 have HEN := zh (fun W => show Calls Tryz.prog 28 #[.agg #[.int .i64 133, .int .i64 1, .int .i64 0, .int .u16 0, .int .u16 2000, .int .i64 n, .int .i64 7]] W fun e w' => e = .returned (.tuple #[.string (xu (encB (jtI n))), .int .i64 (encE (jtI n))]) ∧ Below W.heap.size W w' from rencode_any (jtI n) (jt_insok hn2) W)
 have HCS := zh (jtC_size hn1 hn2)
 have HPG := zh (fun W => show Calls Tryz.prog 29 #[.int .i64 0, .string (jtC n)] W fun e w' => e = .returned (.string (yW (xj 0 (jtC n)))) ∧ Below W.heap.size W w' from page_any 0 (jtC n) (by omega) (by rw [HCS.out]; omega) W)
 have hs7 : (xu (encB (jtI n))).size = 7 := by
  have h1 := HCS.out
  unfold jtC at h1
  rw [ByteArray.size_append] at h1
  have h4 : (⟨#[2]⟩ : ByteArray).size = 1 := rfl
  omega
 obtain ⟨sE, hsE⟩ : ∃ s, xu (encB (jtI n)) = s := ⟨_, rfl⟩
 obtain ⟨eE, heE⟩ : ∃ e, encE (jtI n) = e := ⟨_, rfl⟩
 have hsC : sE ++ ⟨#[2]⟩ = jtC n := by rw [← hsE]; rfl
 rw [hsE] at hs7
 have HEN := zh (fun W => by have h := HEN.out W; rw [hsE, heE] at h; exact h)
 clear hlim hR hln hV hsE heE hn1 hn2
 have HME := zh hne
 clear hne
 go_enter Tryz.func9, Tryz.ntmps9
 go_upto_region 3 with (first
  | (go_at_call 14; (with_reducible refine (HSA.out _).mono ?_); rintro e1 w1 ⟨rfl, hb1⟩; have HB1 := zh hb1; clear hb1))
 rw [HME.out]
 clear hl1 hl2
 go_upto_region 5 with (first
  | (go_at_call 28; (with_reducible refine (HEN.out _).mono ?_); rintro e2 w2 ⟨rfl, hb2⟩; have HB2 := zh (HB1.out.trans (hb2.mono HB1.out.size)); clear hb2)
  | (go_at_call 29; (with_reducible refine (HPG.out _).mono ?_); rintro e3 w3 ⟨rfl, hb3⟩; have HB3 := zh (HB2.out.trans (hb3.mono HB2.out.size)); clear hb3))
 go_upto_region 6 with fail
 have hb4 : Below w3.heap.size w3 (w3.alloc (.cells #[.int .i64 0, .int .u16 0, .int .i64 0, .int .u16 7] 47)) := (Below.refl _ _).alloc (zn _) _
 have HT0 := zh (show TgL n (adA ln V) 0 (.slice (some ⟨w3.heap.size, 0, none⟩) 2 2) (w3.alloc (.cells #[.int .i64 0, .int .u16 0, .int .i64 0, .int .u16 7] 47)) from ⟨[⟨0, 0⟩, ⟨0, 7⟩], _, 2, rfl, ⟨zn _, rfl, fun _ => ⟨w3.heap.size, 0, _, _, _, rfl, heap_alloc_new w3 _, fun j hj => by rw [Nat.zero_add, ← Array.getElem?_toList]; rfl⟩⟩, by decide, fun p => by simp, by decide⟩)
 have HB4 := zh (HB3.out.trans (hb4.mono HB3.out.size))
 obtain ⟨w4, hw4⟩ : ∃ w4, w3.alloc (.cells #[.int .i64 0, .int .u16 0, .int .i64 0, .int .u16 7] 47) = w4 := ⟨_, rfl⟩
 rw [hw4] at HT0 HB4 ⊢
 clear hb4 hw4 HB1 HB2 HB3 hs7 hsC
 go_wp2_with fail
 go_loopw [10, 11, 12] (fun tg s i wr => ∃ k : Nat, k ≤ 40 ∧ i = .int .i64 k ∧ s = .string (tabS (adA ln V) k) ∧ Hid (TgL n (adA ln V) k tg wr) ∧ Hid (Below w.heap.size w wr)) (fun _ _ i _ => 40 - (intOf i).toNat)
 case atStart => exact ⟨0, Nat.zero_le _, rfl, rfl, HT0, HB4⟩
 case round =>
  clear HT0 HB4
  obtain ⟨k, hk, rfl, rfl, HT, HB⟩ := hrel
  by_cases hlt : k < 40
  ·have HLT := zh hlt
   have hln := HLN.out
   go_upto_if 41 with fail
   go_cut [13] (fun s wx => s = .int .u16 ((adA ln V k : Nat) : Int) ∧ wx = wr)
   case first =>
    by_cases hkl : k < ln
    ·obtain ⟨g, off, cur, T, fr, rfl, hg, hx⟩ := (HR.out.below HB.out).at_ (by omega)
     have hcc : wr.cell? ⟨g, off + k, none⟩ = some (.int .u8 (V k)) := by
      rw [cell_of_row _ _ _ _ _ _ hg, hx k (by rw [List.length_map, List.length_range]; exact hkl)]
      simp [hkl]
     have hV := HV.out k
     obtain ⟨v, hv⟩ : ∃ v : Nat, V k % 100 = v := ⟨(V k % 100).toNat, by omega⟩
     have hv1 : v < 100 := by omega
     have hvt : (V k).tmod 100 = (v : Int) := by rw [Int.tmod_eq_emod_of_nonneg hV.1]; exact hv
     have HAD := zh (show adA ln V k = 1000 + v by unfold adA; rw [if_pos hkl, hv]; rfl)
     clear hx hg hv
     have hle := HR.out.le
     go_wp2_with fail
     go_meet
     exact ⟨by rw [HAD.out]; rfl, rfl⟩
    ·have HAD := zh (show adA ln V k = 1000 by unfold adA; rw [if_neg hkl])
     go_wp2_with fail
     go_meet
     exact ⟨by rw [HAD.out]; rfl, rfl⟩
   case rest =>
    obtain ⟨rfl, hwc⟩ := hcut
    rw [hwc]
    clear hwc
    have hab := adA_bd ln V k
    obtain ⟨a, ha⟩ : ∃ a, adA ln V k = a := ⟨_, rfl⟩
    rw [ha] at hab ⊢
    have HA := zh ha
    clear ha
    have e1 : IntKind.u8.wrap (a : Int) = ((a % 256 : Nat) : Int) := by unfold IntKind.wrap; simp [IntKind.bits, IntKind.signed]
    have hcv : ∀ x y, (convert 73 9 (.slice (some ⟨wr.heap.size, 0, none⟩) 2 2)).run Tryz.prog (wr.alloc (.cells #[.int .u8 x, .int .u8 y] 5)) = .ok (.string (strOfNums [x, y])) (wr.alloc (.cells #[.int .u8 x, .int .u8 y] 5)) := fun x y => conv_pair (heap_alloc_new wr _)
    have hsz := tabS_size (adA ln V) k
    have hs2 : ∀ x y : Int, (strOfNums [x, y]).size = 2 := fun _ _ => rfl
    have HS := zh (show tabS (adA ln V) k ++ strOfNums [(a : Int) % 256, (a : Int) / 256] = tabS (adA ln V) (k + 1) by rw [← HA.out]; exact tabS_snoc (adA ln V) k)
    go_upto_region 14 with fail
    clear hs2 hsz hcv e1
    have hb5 : Below wr.heap.size wr (wr.alloc (.cells #[.int .u8 ((a : Int) % 256), .int .u8 ((a : Int) / 256)] 5)) := (Below.refl _ _).alloc (zn _) _
    have HB5 := zh hb5
    obtain ⟨w5, hw5⟩ : ∃ w5, wr.alloc (.cells #[.int .u8 ((a : Int) % 256), .int .u8 ((a : Int) / 256)] 5) = w5 := ⟨_, rfl⟩
    rw [hw5] at HB5 ⊢
    clear hw5 hb5
    by_cases hkn : k < n
    ·obtain ⟨M, B, c, rfl, hr, hso, hme, hml⟩ := HT.out
     have HMM := zh (And.intro hso (And.intro hme hml))
     have HPT := zh (put5_any M ⟨0, (a : Int)⟩ B c w5 (hr.below HB5.out) (by omega))
     have HKN := zh hkn
     clear hr hso hme
     go_wp2_with (first
      | (go_at_call 26; (with_reducible refine HPT.out.mono ?_); rintro e7 w7 ⟨A7, c7, rfl, hr7, -, hb7⟩; have HR7 := zh hr7; have HB7 := zh (HB5.out.trans (hb7.mono HB5.out.size)); clear hr7 hb7))
     go_roundw
     case rel => exact ⟨k + 1, HLT.out, by go_num, by rw [HS.out], zh (by have h := TgL.put (n := n) (A := adA ln V) (k := k) (M := M) (W := w7) (B := A7) (c := c7) HKN.out HMM.out.1 HMM.out.2.1 HMM.out.2.2 (by rw [HA.out]; exact HR7.out); rw [HA.out] at h; exact h), zh (HB.out.trans (HB7.out.mono HB.out.size))⟩
     case measure => have h1 := HLT.out; simp [intOf]; omega
    ·have HTS := zh (HT.out.skip HB5.out hkn)
     go_wp2_with fail
     go_roundw
     case rel => exact ⟨k + 1, HLT.out, by go_num, by rw [HS.out], HTS, zh (HB.out.trans (HB5.out.mono HB.out.size))⟩
     case measure => have h1 := HLT.out; simp [intOf]; omega
  ·obtain rfl : k = 40 := by omega
   obtain ⟨M, B, cM, rfl, hr, hso, hme, hml⟩ := HT.out
   have HMR := zh hr
   have HJP := zh (show ∀ p, p ∈ M ↔ jtP n (adA ln V) p from fun p => by rw [hme p, show min 40 n = n by have := HN2.out; omega]; rfl)
   have HSO := zh hso
   have HML := zh hml
   have hcM := hr.le
   clear hr hso hme hml HT
   obtain ⟨bP, hbP⟩ : ∃ b, yW (xj 0 (jtC n)) = b := ⟨_, rfl⟩
   have hb4 : bP.size = 4096 := by rw [← hbP]; exact filB_size _
   have hcat := jt_cat n (adA ln V) (xj 0 (jtC n)) rfl
   rw [hbP, ← hltB_nums] at hcat
   rw [hbP]
   obtain ⟨tS, htS⟩ : ∃ t, tabS (adA ln V) 40 = t := ⟨_, rfl⟩
   have hts : tS.size = 80 := by rw [← htS]; exact tabS_size _ _
   rw [htS] at hcat ⊢
   have hhs := hltB_size 100
   obtain ⟨hS, hhS⟩ : ∃ t, hltB 100 = t := ⟨_, rfl⟩
   rw [hhS] at hcat hhs
   have HCAT := zh hcat
   have HHL := zh (fun W => show Calls Tryz.prog 30 #[.int .i64 100] W fun e w' => e = .returned (.string hS) ∧ Below W.heap.size W w' from hhS ▸ hlts_any 100 (by omega) W)
   clear hbP htS hhS hcat
   go_upto_region 16 with fail
   refine zu (S := fun _ => True) [12] (by kernel_rfl) trivial (fun hHeld => ?_)
   (refine tz 0 ?_)
   (refine tkZ 1 (v := .string (bP.extract 0 1000)) rfl (by assumption) (fun W hS => by clear hS; go_simp; first | done | rfl | (intro h; omega)) ?_; (refine pts ?_))
   (refine tz 4 ?_)
   (refine tkZ 5 (v := .string (bP.extract 1100 2000)) rfl (by assumption) (fun W hS => by clear hS; go_simp; first | done | rfl | (intro h; omega)) ?_; (refine pts ?_))
   (refine tz 7 ?_)
   (refine tz 9 ?_)
   (refine tkZ 10 (v := .string (bP.extract 2080 4096)) rfl (by assumption) (fun W hS => by clear hS; go_simp; first | done | rfl | (intro h; omega)) ?_; (refine pts ?_))
   have HWD := zh (Below.refl wr.heap.size wr).drew
   obtain ⟨wd, hwd⟩ : ∃ wd, wr.drew = wd := ⟨_, rfl⟩
   rw [hwd] at HWD ⊢
   clear hwd hHeld
   refine yI 2 rfl (fun K hK => ?_)
   go_simp
   go_at_call 30
   (with_reducible refine (HHL.out _).mono ?_)
   rintro e5 w5 ⟨rfl, hb5⟩
   have HB5 := zh (HB.out.trans ((HWD.out.trans (hb5.mono HWD.out.size)).mono HB.out.size))
   have HB5r := zh (HWD.out.trans (hb5.mono HWD.out.size))
   clear hb5
   go_simp
   refine hK.out _ _ (.inr trivial) ?_
   (refine pts ?_)
   clear hK K
   have hHeld := trivial
   have s1 : (bP.extract 0 1000).size = 1000 := by rw [ByteArray.size_extract]; omega
   have s2 : (bP.extract 1100 2000).size = 900 := by rw [ByteArray.size_extract]; omega
   have s3 : (bP.extract 2080 4096).size = 2016 := by rw [ByteArray.size_extract]; omega
   generalize bP.extract 0 1000 = x1 at *
   generalize bP.extract 1100 2000 = x2 at *
   generalize bP.extract 2080 4096 = x3 at *
   (refine tkZ 3 (v := .string (x1 ++ hS)) rfl (by assumption) (fun W hS => by clear hS; go_simp; first | done | rfl | omega) ?_; (refine pts ?_))
   (refine tkZ 6 (v := .string (x1 ++ hS ++ x2)) rfl (by assumption) (fun W hS => by clear hS; go_simp; first | done | rfl | omega) ?_; (refine pts ?_))
   (refine tkZ 8 (v := .string (x1 ++ hS ++ x2 ++ tS)) rfl (by assumption) (fun W hS => by clear hS; go_simp; first | done | rfl | omega) ?_; (refine pts ?_))
   (refine tkZ 11 (v := .string (yW (jtF n (adA ln V)))) rfl (by assumption) (fun W hS => by clear hS; go_simp; rw [HCAT.out]; first | done | rfl | omega) ?_; (refine pts ?_))
   refine ys 12 ?_
   simp only [List.drop_succ_cons, List.drop_zero]
   clear hHeld
   go_upto_region 17 with fail
   obtain ⟨bT, hbT⟩ : ∃ b, yW (jtF n (adA ln V)) = b := ⟨_, rfl⟩
   rw [hbT]
   have hx := Bx.two w5 (.cells #[.string bT] 9) (.cells #[.slice none 0 0, .slice none 0 0, .slice none 0 0] 38)
   have hb6 : Below w5.heap.size w5 (w5.alloc (.cells #[.string bT] 9)) := (Below.refl _ _).alloc (zn _) _
   have HIV := zh (show yN (w5.alloc (.cells #[.string bT] 9)) (jtM n (adA ln V)) (some ⟨w5.heap.size, 0, none⟩) 1 none 0 from ⟨⟨zn _, rfl, fun _ => ⟨w5.heap.size, 0, _, _, _, rfl, heap_alloc_new w5 _, fun j hj => by
    obtain rfl : j = 0 := by simp [jtM] at hj; omega
    rw [← hbT]; rfl⟩⟩, ⟨zn _, rfl, fun h => by cases h⟩⟩)
   have HBI := zh (HB5.out.trans (hb6.mono HB5.out.size))
   have HMI := zh ((HMR.out.below HB5r.out).below hb6)
   obtain ⟨wi, hwi⟩ : ∃ wi, w5.alloc (.cells #[.string bT] 9) = wi := ⟨_, rfl⟩
   rw [hwi] at HIV HBI HMI
   have HSC := zh (show Calls Tryz.prog 17 #[.agg #[.slice (some ⟨w5.heap.size, 0, none⟩) 1 1, .int .u16 0, .int .u16 0, .slice none 0 0, .slice none 0 0], .slice none 0 0] wi (ScP (jtM n (adA ln V)) [] wi) from
    scan_any (jtM n (adA ln V)) (jtM_ok (adA_bd ln V)) (some ⟨w5.heap.size, 0, none⟩) 1 none 0 none 0 0 [] (fun p hp => by cases hp) (by simp) none 0 wi HIV.out ⟨zn _, rfl, fun h => by cases h⟩ (fun g off e => by cases e))
   clear hx hb6 hbT HB5 HB5r s1 s2 s3 hb4 hhs hts HCAT HHL
   go_upto_region 18 with (first
    | (go_at_call 17; (with_reducible refine HSC.out.mono ?_); rintro e7 w7 ⟨L, vc, vr, vi, rfl, hL, hlv, hb7⟩
       obtain ⟨c0, hc0, hrd⟩ := hlv.read (jtM_ok (adA_bd ln V))
       obtain rfl := jt_lst HN1.out HN2.out (adA_bd ln V) HSO.out HJP.out hL
       have hc1 := fun o (ho : o < 4096) => clsL_eq hc0 (b := 0) (o := o) Nat.zero_lt_one ho
       obtain ⟨Ac, kc, hvc, hcd⟩ := hrd.cls
       obtain ⟨R, Ar, kr, hvr, hR, hRL⟩ := hrd.rts
       obtain ⟨Ai, ki, hvi, -⟩ := hrd.iss
       obtain ⟨mi, hmi⟩ : ∃ mi, (fullL (jtM n (adA ln V)) [⟨⟨0, 0⟩, false, ⟨0, 0⟩, M, [], []⟩] M).iss.length = mi := ⟨_, rfl⟩
       rw [hmi] at hvi
       obtain ⟨x, rfl, hx1⟩ := one_map hRL
       have hn1 : (jtM n (adA ln V)).banks.length = 1 := rfl
       rw [hn1] at hvc hcd
       subst hvc hvr hvi
       obtain ⟨r, y1, y2, y3⟩ := x
       dsimp only at hx1
       subst hx1
       have HCC := zh hc1
       have HRD := zh (And.intro hcd hR)
       obtain ⟨⟨A1, k1, e1, -⟩, -, ⟨A3, k3, e3, -⟩⟩ := hR.rt _ (List.mem_singleton.2 rfl)
       dsimp only at e1 e3
       subst e1 e3
       have HB7 := zh (HBI.out.trans (hb7.mono HBI.out.size))
       have HM7 := zh (HMI.out.below hb7)
       clear hL hlv hb7 hc0 hrd hcd hR hRL hc1 hn1 hmi)
    | (refine stN ?_))
   simp only [Act.put]
   have hb8 : Below w7.heap.size w7 (w7.alloc (.cells #[.slice Ac 1 kc, .slice Ar 1 kr, .slice Ai mi ki] 38)) := (Below.refl _ _).alloc (zn _) _
   have HG := zh (heap_alloc_new w7 (.cells #[.slice Ac 1 kc, .slice Ar 1 kr, .slice Ai mi ki] 38))
   have HB8 := zh (HB7.out.trans (hb8.mono HB7.out.size))
   have HM8 := zh (HM7.out.below hb8)
   have HRD := zh (And.intro (HRD.out.1.below hb8) (HRD.out.2.below hb8))
   obtain ⟨w8, hw8⟩ : ∃ w8, w7.alloc (.cells #[.slice Ac 1 kc, .slice Ar 1 kr, .slice Ai mi ki] 38) = w8 := ⟨_, rfl⟩
   obtain ⟨gl, hgl⟩ : ∃ g, w7.heap.size = g := ⟨_, rfl⟩
   rw [hw8] at HG HB8 HM8 HRD ⊢
   rw [hgl] at HG ⊢
   clear hb8 hw8 hgl HB7 HM7 HSC hwi HIV HBI HMI
   obtain ⟨gs, hgs, hrc, hrow⟩ := HRD.out.1.rd
   obtain ⟨g, rfl⟩ := one_len hgs
   obtain ⟨gc, oc, cur, T, fr, rfl, hg, hx⟩ := hrc.at_ (by omega)
   have hcc : w8.cell? ⟨gc, oc, none⟩ = some (.slice (some ⟨g, 0, none⟩) 4096 4096) := by
    have h1 := hx 0 (by simp)
    rw [Nat.add_zero] at h1
    rw [cell_of_row _ _ _ _ _ _ hg, h1]
    rfl
   obtain ⟨fr2, hgc⟩ := hrow 0 g rfl
   have HGC := zh hgc
   have HCC1 := zh hcc
   have hkc := hrc.le
   have hkr := HRD.out.2.rd.le
   obtain ⟨gr, ro, cur2, T2, fr3, rfl, hg2, hx2⟩ := HRD.out.2.rd.at_ (show 0 < 1 by decide)
   have hr5 : w8.cell? ⟨gr, ro + 5, none⟩ = some (.slice A1 M.length k1) := by rw [cell_of_row _ _ _ _ _ _ hg2, hx2 5 (by simp [rtvL])]; rfl
   have hr7 : w8.cell? ⟨gr, ro + 7, none⟩ = some (.slice A3 0 k3) := by rw [cell_of_row _ _ _ _ _ _ hg2, hx2 7 (by simp [rtvL])]; rfl
   obtain ⟨A', k', e1, hcr, -⟩ := (HRD.out.2.rt _ (List.mem_singleton.2 rfl)).oc
   dsimp only at e1 hcr
   injection e1 with e1 _ e2
   subst e1 e2
   have HCR := zh hcr
   have hk1 := hcr.le
   have HR5 := zh hr5
   have HR7 := zh hr7
   have hcl := fun o => cell_of_row w8 gl o _ _ _ HG.out
   have hml := HML.out
   have HGR := zh hg2
   have HC5 := zh (show cur2[ro + 5]? = some (.slice A1 M.length k1) by rw [hx2 5 (by simp [rtvL])]; rfl)
   have HC7 := zh (show cur2[ro + 7]? = some (.slice A3 0 k3) by rw [hx2 7 (by simp [rtvL])]; rfl)
   have HG0 := zh hg
   have HX0 := zh (show cur[oc]? = some (.slice (some ⟨g, 0, none⟩) 4096 4096) by have h1 := hx 0 (by simp); rw [Nat.add_zero] at h1; rw [h1]; rfl)
   clear hgs hrc hrow hg hx hg2 hx2 hcr hgc
   go_upto_region 20 with fail
   clear hcl hcc hr5 hr7
   obtain ⟨gt, ot, ct, Tt, ft, rfl, hgt, hxt⟩ := HM8.out.at_ (by
    have h1 := (HJP.out ⟨0, 0⟩).2 (.inl rfl)
    cases M with
    | nil => cases h1
    | cons a l => exact Nat.succ_pos _)
   clear hgt hxt
   go_wp2_with fail
   go_loopw [15] (fun i wr => ∃ k : Nat, k ≤ M.length ∧ i = .int .i64 k ∧ Hid (Below w8.heap.size w8 wr)) (fun i _ => M.length - (intOf i).toNat)
   case atStart => exact ⟨0, Nat.zero_le _, rfl, zh (Below.refl _ _)⟩
   case round =>
    obtain ⟨k, hk, rfl, HBR⟩ := hrel
    by_cases hlt : k < M.length
    ·obtain ⟨y, hy⟩ : ∃ y, M[k]? = some y := ⟨_, List.getElem?_eq_getElem hlt⟩
     obtain ⟨g3, o3, cur3, T3, f3, rfl, hg3, hex3, -, -⟩ := RdS.eltPart (f := itmL (jtM n (adA ln V))) (fun _ => rfl) (HCR.out.below HBR.out) hy (a := 0) (m := 2) (by omega) (L := x7 y) rfl
     obtain ⟨g4, o4, cur4, T4, f4, e4, hg4, hex4⟩ := RdS.elt (f := x7) (fun _ => rfl) (HM8.out.below HBR.out) hy
     injection e4 with e4
     injection e4 with e41 e42
     subst e41 e42
     have HLT := zh hlt
     have HE3 := zh hex3
     have HE4 := zh hex4
     have HS := zh (show (wr.drew.heap[gl]? = some (.cells #[.slice (some ⟨gc, oc, none⟩) 1 kc, .slice (some ⟨gr, ro, none⟩) 1 kr, .slice Ai mi ki] 38 (0, 0))) ∧ wr.drew.heap[gr]? = some (.cells cur2 T2 fr3) ∧ wr.drew.heap[g3]? = some (.cells cur3 T3 f3) ∧ wr.drew.heap[gt]? = some (.cells cur4 T4 f4) from ⟨za HBR.out.drew HG.out, za HBR.out.drew HGR.out, za (Below.refl _ _).drew hg3, za (Below.refl _ _).drew hg4⟩)
     clear hg3 hg4 hex3 hex4 hy
     go_upto_region 23 with fail
     refine zu (S := fun W => W.heap[gl]? = some (.cells #[.slice (some ⟨gc, oc, none⟩) 1 kc, .slice (some ⟨gr, ro, none⟩) 1 kr, .slice Ai mi ki] 38 (0, 0)) ∧ W.heap[gr]? = some (.cells cur2 T2 fr3) ∧ W.heap[g3]? = some (.cells cur3 T3 f3) ∧ W.heap[gt]? = some (.cells cur4 T4 f4)) [] (by kernel_rfl) HS.out (fun hHeld => ?_)
     (refine tz 0 ?_)
     (refine tkZ 1 (v := .slice (some ⟨gr, ro, none⟩) 1 kr) rfl (by assumption) (fun W hS => zW _ _ rfl _ _ rfl _ _ _ hS.1 _ rfl (fun _ => by kernel_rfl)) ?_; (refine pts ?_))
     (refine tkZ 2 (v := .pointer (some ⟨gr, ro, none⟩)) rfl (by assumption) (fun W hS => by clear hS; go_simp; first | done | rfl) ?_; (refine pts ?_))
     (refine tz 3 ?_)
     (refine tkZ 4 (v := .slice (some ⟨g3, o3, none⟩) M.length k1) rfl (by assumption) (fun W hS => zW _ _ rfl _ _ rfl _ _ _ hS.2.1 _ HC5.out (fun _ => by kernel_rfl)) ?_; (refine pts ?_))
     (refine tz 5 ?_)
     (refine tkZ 6 (v := .pointer (some ⟨g3, o3 + k * 9, none⟩)) rfl (by assumption) (fun W hS => by clear hS; go_simp; first | done | rfl) ?_; (refine pts ?_))
     (refine tz 7 ?_)
     (refine tkZ 8 (v := .agg #[.int .i64 y.bank, .int .u16 y.addr]) rfl (by assumption) (fun W hS => yk _ _ rfl _ _ rfl _ _ _ hS.2.2.1 (x7 y) HE3.out (by kernel_rfl)) ?_; (refine pts ?_))
     (refine tz 9 ?_)
     (refine tz 10 ?_)
     (refine tkZ 11 (v := .pointer (some ⟨gt, ot + k * 2, none⟩)) rfl (by assumption) (fun W hS => by clear hS; go_simp; first | done | rfl) ?_; (refine pts ?_))
     (refine tkZ 12 (v := .agg #[.int .i64 y.bank, .int .u16 y.addr]) rfl (by assumption) (fun W hS => yk _ _ rfl _ _ rfl _ _ _ hS.2.2.2 (x7 y) HE4.out (by kernel_rfl)) ?_; (refine pts ?_))
     (refine tkZ 13 (v := .bool false) rfl (by assumption) (fun W hS => by clear hS; go_simp; first | done | rfl) ?_; (refine pts ?_))
     refine ys 14 ?_
     simp only [List.drop_succ_cons, List.drop_zero]
     clear hHeld HS HE3 HE4
     go_wp2_with fail
     go_roundw
     case rel => exact ⟨k + 1, HLT.out, by go_num, zh HBR.out.drew⟩
     case measure => have h1 := HLT.out; simp [intOf]; omega
    ·obtain rfl : k = M.length := by omega
     have HG9 := zh (za HBR.out HG.out)
     have HGC9 := zh (za HBR.out HGC.out)
     have HG09 := zh (za HBR.out HG0.out)
     have HGR9 := zh (za HBR.out HGR.out)
     have HB9 := zh (HB8.out.trans (HBR.out.mono HB8.out.size))
     have hcl := fun o => cell_of_row wr gl o _ _ _ HG9.out
     have hcc : wr.cell? ⟨gc, oc, none⟩ = some (.slice (some ⟨g, 0, none⟩) 4096 4096) := by rw [cell_of_row _ _ _ _ _ _ HG09.out]; exact HX0.out
     have hr7 : wr.cell? ⟨gr, ro + 7, none⟩ = some (.slice A3 0 k3) := by rw [cell_of_row _ _ _ _ _ _ HGR9.out]; exact HC7.out
     obtain ⟨wq, rfl⟩ : ∃ wq : World, wq = wr := ⟨_, rfl⟩
     clear HBR
     go_wp2_with fail
     go_loopw [16] (fun i wr => ∃ j : Nat, j ≤ 80 ∧ i = .int .i64 j ∧ wr = wq) (fun i _ => 80 - (intOf i).toNat)
     case atStart => exact ⟨0, Nat.zero_le _, rfl, rfl⟩
     case round =>
      obtain ⟨j, hj, rfl, rfl⟩ := hrel
      by_cases hlt : j < 80
      ·have HLT := zh hlt
       have hct : wr.cell? ⟨g, 2000 + j, none⟩ = some (.int .u8 (c0 0 (2000 + j))) := by rw [cell_of_row _ _ _ _ _ _ HGC9.out]; exact xK _ (by omega)
       have hcv : c0 0 (2000 + j) = if j < 2 * n then 4 else 0 := by rw [← HCC.out (2000 + j) (by omega)]; exact jt_cls HN1.out HN2.out (adA_bd ln V) HJP.out hlt
       have hn2 := HN2.out
       by_cases h2 : j < 2 * n
       ·rw [if_pos h2] at hcv
        rw [hcv] at hct
        clear hcv
        have h3 : (j : Int) < 2 * (n : Int) := by omega
        go_wp2_with fail
        go_roundw
        case rel => exact ⟨j + 1, HLT.out, by go_num, by first | rfl | trivial⟩
        case measure => have h1 := HLT.out; simp [intOf]; omega
       ·rw [if_neg h2] at hcv
        rw [hcv] at hct
        clear hcv
        have h3 : ¬ (j : Int) < 2 * (n : Int) := by omega
        go_wp2_with fail
        go_roundw
        case rel => exact ⟨j + 1, HLT.out, by go_num, by first | rfl | trivial⟩
        case measure => have h1 := HLT.out; simp [intOf]; omega
      ·obtain rfl : j = 80 := by omega
       go_wp2_with fail
       go_ret
       exact ⟨rfl, HB9.out⟩
end Go.Proofs.YteofmaiojepdkaaGreat
