/- The reference of chapter 05: Flow.table, walked. Condition: addresses are words; the image's banks have 4096 bytes. -/
import Derived.Test.YteofmaiojepdkaaGreatTbRfA
set_option linter.all false
namespace Go.Proofs.YteofmaiojepdkaaGreat
open Go Go.RowKit Go.Maps
structure TbW (o0 o1 o2 : Obj) (B : Nat) (F : zO) (gf : Nat) (vn vc vi vt un uc ui ut : Value) (w W : World) : Prop where
 fl : yY B F gf un uc ui ut W
 ro : ∀ j, flwB gf un uc ui ut j → flwB gf vn vc vi vt j ∨ w.heap.size + 3 ≤ j
 b0 : W.heap[w.heap.size]? = some o0
 b1 : W.heap[w.heap.size + 1]? = some o1
 b2 : W.heap[w.heap.size + 2]? = some o2
 z : w.heap.size + 3 ≤ W.heap.size
 tu : zg (flwB gf vn vc vi vt) w W
section
variable {o0 o1 o2 : Obj} {B : Nat} {F F' : zO} {gf : Nat} {vn vc vi vt un uc ui ut un' uc' ui' ut' : Value} {w W W' : World}
theorem TbW.below (h : TbW o0 o1 o2 B F gf vn vc vi vt un uc ui ut w W) (hb : Below W.heap.size W W') : TbW o0 o1 o2 B F gf vn vc vi vt un uc ui ut w W' :=
 ⟨h.fl.below hb, h.ro, za hb h.b0, za hb h.b1, za hb h.b2, Nat.le_trans h.z hb.size, h.tu.trans (zg.ofBelow (bs := fun _ => False) hb) (fun _ _ e => e.elim)⟩
theorem TbW.step (h : TbW o0 o1 o2 B F gf vn vc vi vt un uc ui ut w W) (hlt : ∀ j, flwB gf vn vc vi vt j → j < w.heap.size) (hx : yY B F' gf un' uc' ui' ut' W') (hr : ∀ j, flwB gf un' uc' ui' ut' j → flwB gf un uc ui ut j ∨ W.heap.size ≤ j) (ht : zg (flwB gf un uc ui ut) W W') : TbW o0 o1 o2 B F' gf vn vc vi vt un' uc' ui' ut' w W' := by
 have hn : ∀ i, i < 3 → ¬ flwB gf un uc ui ut (w.heap.size + i) := fun i hi hj => by
  rcases h.ro _ hj with e | e
  ·have := hlt _ e; omega
  ·omega
 refine ⟨hx, fun j hj => ?_, ht.heap h.b0 (hn 0 (by omega)), ht.heap h.b1 (hn 1 (by omega)), ht.heap h.b2 (hn 2 (by omega)), Nat.le_trans h.z ht.size, h.tu.trans ht fun x hx e => ?_⟩
 ·rcases hr j hj with e | e
  ·exact h.ro j e
  ·exact .inr (Nat.le_trans h.z e)
 ·rcases h.ro x e with e | e
  ·exact e
  ·omega
end
set_option maxRecDepth 100000 in
set_option maxHeartbeats 8000000 in
theorem rtable_any (I : zk) (hI : I.Ok) (ba : Option Addr) (bc : Nat) (da : Option Addr) (dc : Nat) (ra : Option Addr) (rn rc : Nat) (x : Ins) (hb : 0 ≤ x.bank ∧ x.bank < 256) (p : zb) (p0 : 0 ≤ p.addr) (p1 : p.addr < 65536)
  (B : Nat) (f : zO) (gf : Nat) (wE w : World) (vn vc vi vt : Value) (h : yY B f gf vn vc vi vt w) (hB : B ≤ w.heap.size) (hV : yG wE I ba bc da dc) (hE : Below wE.heap.size wE w) (hEB : wE.heap.size ≤ B) (hln : f.nx.length ≤ 100) (hlt : f.tb.length ≤ 100) :
  Calls Tryz.prog 54 #[.pointer (some ⟨gf, 0, none⟩), .agg #[.slice ba I.banks.length bc, .int .u16 I.entry, .int .u16 I.vector, .slice da I.data.length dc, .slice ra rn rc], .agg #[.int .i64 (x).op, .int .i64 (x).d, .int .i64 (x).s, .int .u16 (x).imm, .int .u16 (x).aux, .int .i64 (x).bank, .int .i64 (x).size], .agg #[.int .i64 p.bank, .int .u16 p.addr]] w (FlwP B (tabF I x p f x.bank.toNat) gf vn vc vi vt w) := by
 have HV := zh hV
 have H := zh h
 have HE := zh hE
 have HEB := zh hEB
 have HX := Bx.three w (z6 I ba bc da dc ra rn rc) (xS x) (zo p)
 have HBW := zh hB
 have HLN := zh (fun k (hk : k ≤ 255) => show (tabF I x p f k).nx.length ≤ 1000 ∧ (tabF I x p f k).tb.length ≤ 1000 by have := tab_len I x p f k; omega)
 have HROW := zh (fun j (hj : flwB gf vn vc vi vt j) => (H.out.rows hj).2)
 have HTW := zh (show TbW (z6 I ba bc da dc ra rn rc) (xS x) (zo p) B f gf vn vc vi vt vn vc vi vt w (((w.alloc (z6 I ba bc da dc ra rn rc)).alloc (xS x)).alloc (zo p)) from ⟨h.below HX.bb, fun j hj => .inl hj, HX.b0, HX.b1, HX.b2, HX.z, zg.ofBelow HX.bb⟩)
 have HEW := zh (fun (F : zO) (un uc ui ut : Value) W (t : TbW (z6 I ba bc da dc ra rn rc) (xS x) (zo p) B F gf vn vc vi vt un uc ui ut w W) => show yG W I ba bc da dc ∧ B ≤ W.heap.size from ⟨HV.out.below (HE.out.trans ((t.tu.toBelow HBW.out (fun k hk => (H.out.rows hk).1)).mono HEB.out)), Nat.le_trans HBW.out (Nat.le_trans (Nat.le_add_right _ 3) t.z)⟩)
 clear hV h hln hlt hE hEB HX
 go_enter Tryz.func54, Tryz.ntmps54
 go_upto_region 1 with fail
 obtain ⟨wi, hwi⟩ : ∃ wi, ((w.alloc (z6 I ba bc da dc ra rn rc)).alloc (xS x)).alloc (zo p) = wi := ⟨_, rfl⟩
 rw [hwi] at HTW ⊢
 clear hwi
 go_wp2_with fail
 go_loopw [8] (fun i wr => ∃ k : Nat, (k : Int) ≤ x.bank ∧ i = .int .i64 k ∧ Hid (∃ un uc ui ut, TbW (z6 I ba bc da dc ra rn rc) (xS x) (zo p) B (tabF I x p f k) gf vn vc vi vt un uc ui ut w wr)) (fun i _ => x.bank.toNat - (intOf i).toNat)
 case atStart => exact ⟨0, by omega, rfl, zh ⟨_, _, _, _, HTW.out⟩⟩
 case round =>
  clear HTW
  obtain ⟨k, hk, rfl, HXR⟩ := hrel
  obtain ⟨un, uc, ui, ut, hr⟩ := HXR.out
  have HR := zh hr
  clear hr
  have hc7 := fun o => cell_of_row wr (w.heap.size + 1) o _ _ _ HR.out.b1
  by_cases hlt : (k : Int) < x.bank
  ·have hw1 : IntKind.i64.wrap (2 * (k : Int)) = 2 * k := IntWalk.i64_in _ (by omega)
   have hw2 : IntKind.u16.wrap (2 * (k : Int)) = 2 * k := by rw [wrap16]; omega
   have hw3 : IntKind.u16.wrap (x.aux + 2 * (k : Int)) = (x.aux + 2 * k) % 65536 := wrap16 _
   have HLK := zh (HLN.out k (by omega))
   have HLT := zh hlt
   have HTB := zh (show tabF I x p f (k + 1) = entF I p (tabF I x p f k) ((x.aux + 2 * k) % 65536) from rfl)
   have ha0 : 0 ≤ (x.aux + 2 * (k : Int)) % 65536 := by omega
   have ha1 : (x.aux + 2 * (k : Int)) % 65536 < 65536 := by omega
   go_upto_region 5 with fail
   clear hlt
   try rw [hw3]
   clear hw1 hw2 hw3 hc7
   generalize (x.aux + 2 * (k : Int)) % 65536 = a at *
   have hw : IntKind.u16.wrap (a + 1) = (a + 1) % 65536 := wrap16 _
   have HS1 := zh (fun W => rsee_any a ha0 ha1 p p0 p1 W)
   have HS2 := zh (fun W => rsee_any ((a + 1) % 65536) (by omega) (by omega) p p0 p1 W)
   have HA := zh (And.intro ha0 ha1)
   clear ha0 ha1
   generalize tabF I x p f k = F at *
   by_cases hno : (optV (yt a p)).2 = false ∨ (optV (yt ((a + 1) % 65536) p)).2 = false
   ·have HNO := zh (show entF I p F a = { F with xb := true } by
     unfold entF
     cases h1 : yt a p with
     | none => rfl
     | some q1 =>
      cases h2 : yt ((a + 1) % 65536) p with
      | none => rfl
      | some q2 => rw [h1, h2] at hno; rcases hno with h | h <;> cases h)
    generalize optV (yt a p) = q1 at *
    generalize optV (yt ((a + 1) % 65536) p) = q2 at *
    obtain ⟨q1, k1⟩ := q1
    obtain ⟨q2, k2⟩ := q2
    dsimp only at hno HS1 HS2
    have hc : (k1 = false) ∨ (k1 = true ∧ k2 = false) := by rcases hno with h1 | h1 <;> cases k1 <;> simp [h1]
    clear hno
    rcases hc with rfl | ⟨rfl, rfl⟩
    all_goals
     go_wp2_with (first
      | (refine ldT 47 (HR.out.b2) ?_)
      | (refine ldT 47 (HR1.out.b2) ?_)
      | (refine stN ?_)
      | (go_at_call 83; (with_reducible refine (HS1.out _).mono ?_); rintro e w1 ⟨rfl, hb1⟩; have HR1 := zh (HR.out.below (Below.alloc hb1 hb1.size (zo q1))); clear hb1)
      | (go_at_call 83; (with_reducible refine (HS2.out _).mono ?_); rintro e w2 ⟨rfl, hb2⟩; have HR2 := zh (HR1.out.below (Below.alloc hb2 hb2.size (zo q2)))
         have HI := zh (jj B F { F with xb := true } 42 gf _ un uc ui ut HR2.out.fl (HEW.out _ _ _ _ _ _ HR2.out).2 rfl rfl rfl (ins_bank F)); clear hb2)
      | (go_at_call 51; (with_reducible refine HI.out.mono ?_); rintro e w3 ⟨rfl, un', uc', ui', ut', hx3, hr3, ht3⟩; have HX3 := zh (HR2.out.step HROW.out hx3 hr3 ht3); clear hx3 hr3 ht3))
     go_roundw
     case rel => exact ⟨k + 1, by have := HLT.out; omega, by go_num, zh ⟨_, _, _, _, by rw [HTB.out, HNO.out]; exact HX3.out⟩⟩
     case measure => have := HLT.out; simp [intOf]; omega
   ·obtain ⟨q1, hq1⟩ : ∃ q1, yt a p = some q1 := by
     cases h1 : yt a p with
     | none => rw [h1] at hno; exact absurd (.inl rfl) hno
     | some q1 => exact ⟨q1, rfl⟩
    obtain ⟨q2, hq2⟩ : ∃ q2, yt ((a + 1) % 65536) p = some q2 := by
     cases h1 : yt ((a + 1) % 65536) p with
     | none => rw [h1] at hno; exact absurd (.inr rfl) hno
     | some q2 => exact ⟨q2, rfl⟩
    have hd1 := seenP_bd HA.out.1 HA.out.2 hq1
    have hd2 := seenP_bd (by omega) (by omega) hq2
    have HC1 := zh (fun W (hw : yG W I ba bc da dc) => rcode_any2 I hI ba bc da dc ra rn rc q1 hd1.1 hd1.2 1 (by omega) (by omega) W hw)
    have HC2 := zh (fun W (hw : yG W I ba bc da dc) => rcode_any2 I hI ba bc da dc ra rn rc q2 hd2.1 hd2.2 1 (by omega) (by omega) W hw)
    rw [hq1] at HS1
    rw [hq2] at HS2
    dsimp only [optV] at HS1 HS2
    have HEN := zh (show entF I p F a = (if (zK I q1 1).size = 0 ∨ (zK I q2 1).size = 0 then { F with xt := true } else toF { F with tb := F.tb ++ [q1, q2] } (yt (byt (zK I q1 1) 0 + 256 * byt (zK I q2 1) 0) p)) by unfold entF; rw [hq1, hq2])
    have z1 := codeI_bd I q1
    have z2 := codeI_bd I q2
    generalize zK I q1 1 = s1 at *
    generalize zK I q2 1 = s2 at *
    have HLW := zh (fun j (hj : flwB gf un uc ui ut j) => (HR.out.fl.rows hj).2)
    clear hno hq1 hq2 hd1 hd2
    go_upto_region 11 with (first
     | (refine ldT 47 (HR.out.b2) ?_)
     | (refine ldT 47 (HR1.out.b2) ?_)
     | (refine ldT 31 (HR2.out.b0) ?_)
     | (refine ldT 31 (HR3.out.b0) ?_)
     | (refine ldT 47 (H8.out) ?_)
     | (refine ldT 47 (H10.out) ?_)
     | (refine stN ?_)
     | (go_at_call 83; (with_reducible refine (HS1.out _).mono ?_); rintro e w1 ⟨rfl, hb1⟩; have HR1 := zh (HR.out.below (Below.alloc hb1 hb1.size (zo q1))); have H8 := zh (heap_alloc_new w1 (zo q1)); have HZ1 := zh hb1.size; clear hb1)
     | (go_at_call 83; (with_reducible refine (HS2.out _).mono ?_); rintro e w2 ⟨rfl, hb2⟩; have HR2 := zh (HR1.out.below (Below.alloc hb2 hb2.size (zo q2))); have H8 := zh (za (Below.alloc hb2 hb2.size (zo q2)) H8.out); have H10 := zh (heap_alloc_new w2 (zo q2)); have HZ2 := zh hb2.size; clear hb2)
     | (go_at_call 55; (with_reducible refine (HC1.out _ (HEW.out _ _ _ _ _ _ HR2.out).1).mono ?_); rintro e w3 ⟨rfl, hb3⟩; have HR3 := zh (HR2.out.below hb3); have H8 := zh (za hb3 H8.out); have H10 := zh (za hb3 H10.out); clear hb3)
     | (go_at_call 55; (with_reducible refine (HC2.out _ (HEW.out _ _ _ _ _ _ HR3.out).1).mono ?_); rintro e w4 ⟨rfl, hb4⟩; have HR4 := zh (HR3.out.below hb4); have H8 := zh (za hb4 H8.out); have H10 := zh (za hb4 H10.out); clear hb4))
    clear HR HR1 HR2 HR3 HC1 HC2 HS1 HS2
    by_cases hm : s1.size = 0 ∨ s2.size = 0
    ·have HNO := zh (show entF I p F a = { F with xt := true } by rw [HEN.out, if_pos hm])
     have HI := zh (jj B F { F with xt := true } 41 gf _ un uc ui ut HR4.out.fl (HEW.out _ _ _ _ _ _ HR4.out).2 rfl rfl rfl (ins_table F))
     have hc : s1.size = 0 ∨ (1 ≤ s1.size ∧ s2.size = 0) := by omega
     clear hm HEN
     rcases hc with hc | ⟨hc, hc'⟩
     ·have e1 := isEmpty_nil hc
      clear hc
      go_wp2_with (go_at_call 51; (with_reducible refine HI.out.mono ?_); rintro e w5 ⟨rfl, un', uc', ui', ut', hx3, hr3, ht3⟩; have HX3 := zh (HR4.out.step HROW.out hx3 hr3 ht3); clear hx3 hr3 ht3)
      go_roundw
      case rel => exact ⟨k + 1, by have := HLT.out; omega, by go_num, zh ⟨_, _, _, _, by rw [HTB.out, HNO.out]; exact HX3.out⟩⟩
      case measure => have := HLT.out; simp [intOf]; omega
     ·have e1 := yV hc
      have e2 := isEmpty_nil hc'
      clear hc hc'
      go_wp2_with (go_at_call 51; (with_reducible refine HI.out.mono ?_); rintro e w5 ⟨rfl, un', uc', ui', ut', hx3, hr3, ht3⟩; have HX3 := zh (HR4.out.step HROW.out hx3 hr3 ht3); clear hx3 hr3 ht3)
      go_roundw
      case rel => exact ⟨k + 1, by have := HLT.out; omega, by go_num, zh ⟨_, _, _, _, by rw [HTB.out, HNO.out]; exact HX3.out⟩⟩
      case measure => have := HLT.out; simp [intOf]; omega
    ·have HNO := zh (show entF I p F a = toF { F with tb := F.tb ++ [q1, q2] } (yt (byt s1 0 + 256 * byt s2 0) p) by rw [HEN.out, if_neg hm])
     have n1 : 1 ≤ s1.size := by omega
     have n2 : 1 ≤ s2.size := by omega
     have e1 := yV n1
     have e2 := yV n2
     clear hm HEN
     go_upto_region 13 with fail
     refine zr (S := fun W => (∀ o, W.cell? ⟨gf, o, none⟩ = (#[un, uc, ui, ut] : Array Value)[o]?) ∧ (∀ o, W.cell? ⟨w1.heap.size, o, none⟩ = (#[.int .i64 q1.bank, .int .u16 q1.addr] : Array Value)[o]?) ∧ (∀ o, W.cell? ⟨w2.heap.size, o, none⟩ = (#[.int .i64 q2.bank, .int .u16 q2.addr] : Array Value)[o]?)) [9, 10, 11] (by kernel_rfl) ⟨fun o => cell_of_row _ _ _ _ _ _ (za (Below.refl _ _).drew HR4.out.fl.blk), fun o => cell_of_row _ _ _ _ _ _ (za (Below.refl _ _).drew H8.out), fun o => cell_of_row _ _ _ _ _ _ (za (Below.refl _ _).drew H10.out)⟩ (fun hHeld => ?_)
     (refine tz 0 ?_)
     (refine tz 1 ?_)
     (refine tz 2 ?_)
     (refine tz 3 ?_)
     (refine tz 4 ?_)
     (refine tz 5 ?_)
     (refine tz 6 ?_)
     refine yx 7 rfl (fun K hK => ?_)
     go_simp
     obtain ⟨we, hwe⟩ : ∃ we, (w4.alloc (.cells #[.int .i64 q1.bank, .int .u16 q1.addr, .int .i64 q2.bank, .int .u16 q2.addr] 47)).drew = we := ⟨_, rfl⟩
     have HN := zh (hwe ▸ (Bx.one w4 (.cells #[.int .i64 q1.bank, .int .u16 q1.addr, .int .i64 q2.bank, .int .u16 q2.addr] 47)).stay (Below.refl _ _).drew)
     have HR5 := zh (HR4.out.below HN.out.bb)
     have H8 := zh (za HN.out.bb H8.out)
     have H10 := zh (za HN.out.bb H10.out)
     rw [hwe]
     refine hK.out _ _ (.inr ⟨fun o => cell_of_row _ _ _ _ _ _ HR5.out.fl.blk, fun o => cell_of_row _ _ _ _ _ _ H8.out, fun o => cell_of_row _ _ _ _ _ _ H10.out⟩) ?_
     (refine pts ?_)
     clear hK K hHeld hwe
     refine yx 8 rfl (fun K hK => ?_)
     refine xq (.tmp 69) (.tmp 72) 40 47 rfl 2 16 _ y7 Tryz.underlying40 rfl (by decide) (by decide) B (HEW.out _ _ _ _ _ _ HR5.out).2 ut F.tb.length (zp F.tb) rfl HR5.out.fl.ot (by have := HLK.out.2; omega) w4.heap.size 2 _ _ _ rfl HN.out.b0 rfl rfl (by decide) (by decide) ?_
     intro ga cp w6 ho6 hg6 hv6
     have ht := HR5.out.fl.table (Below.refl _ _) (v' := .slice (some ⟨ga, 0, none⟩) (F.tb.length + 2) cp) (ps := [q1, q2]) (by simpa [zp, yQ] using ho6) hg6 hv6
     have HR6 := zh (HR5.out.step HROW.out ht.1 (row_tb hv6 (zn _)) (((zg.refl _ _).grown hg6 (fun k e _ => .inr (.inr (.inr (.inr e))))).setCell _ (fun _ => .inl rfl)))
     have HT := zh ht.2
     have h0t : ∀ k, ut.ownBlock = some k → k < wr.heap.size := fun k hk => HLW.out k (.inr (.inr (.inr (.inr hk))))
     have hz1 := HZ1.out
     have hz2 := HZ2.out
     have hz3 := (Array.getElem?_eq_some_iff.1 H8.out).1
     have hz4 := (Array.getElem?_eq_some_iff.1 H10.out).1
     simp only [World.size_alloc] at hz1 hz2
     have H86 := zh ((hg6.block w1.heap.size hz3 (fun e => by have := h0t _ e.symm; omega)).trans H8.out)
     have H96 := zh ((hg6.block w2.heap.size hz4 (fun e => by have := h0t _ e.symm; omega)).trans H10.out)
     clear hz1 hz2 hz3 hz4 h0t ht ho6 hg6 hv6
     refine hK.out _ _ (.inr ⟨fun o => cell_of_row _ _ _ _ _ _ HT.out, fun o => cell_of_row _ _ _ _ _ _ H86.out, fun o => cell_of_row _ _ _ _ _ _ H96.out⟩) ?_
     (refine pts ?_)
     clear hK K
     refine z8 9 ?_
     simp only [List.drop_succ_cons, List.drop_zero]
     have hc9 : ∀ o, w6.cell? ⟨gf, o, none⟩ = (#[un, uc, ui, ut] : Array Value)[o]? := fun o => cell_of_row _ _ _ _ _ _ HT.out
     have hf9 : ∀ o, w6.frozen? ⟨gf, o, none⟩ = false := fun o => frozen_of_row _ _ _ _ _ HT.out
     go_upto_region 14 with fail
     clear hc9 hf9
     obtain ⟨w7, hw7⟩ : ∃ w7, w6.setCell ⟨gf, 3, none⟩ (.slice (some ⟨ga, 0, none⟩) (F.tb.length + 2) cp) = w7 := ⟨_, rfl⟩
     rw [hw7] at HR6 ⊢
     clear hw7 HT H86 H96 H8 H10 HN HR5 HR4
     have b1 := zL s1 0
     have b2 := zL s2 0
     have ix0 : ∀ W, (Instr.index 9 (.string s1) (.int .i64 0)).run Tryz.prog W = .ok (.int .u8 (byt s1 0)) W := fun W => zl s1 0 n1 W
     have ix1 : ∀ W, (Instr.index 9 (.string s2) (.int .i64 0)).run Tryz.prog W = .ok (.int .u8 (byt s2 0)) W := fun W => zl s2 0 n2 W
     generalize byt s1 0 = c1 at *
     generalize byt s2 0 = c2 at *
     obtain ⟨b1, b1'⟩ := b1
     obtain ⟨b2, b2'⟩ := b2
     have e3 : IntKind.u16.wrap c1 = c1 := by rw [wrap16]; omega
     have e4 : IntKind.u16.wrap c2 = c2 := by rw [wrap16]; omega
     have e5 : IntKind.u16.wrap (c2 * 256) = c2 * 256 := by rw [wrap16]; omega
     have e6 : IntKind.u16.wrap (c1 + c2 * 256) = c1 + 256 * c2 := by rw [wrap16]; omega
     have HS3 := zh (fun W => rsee_any (c1 + 256 * c2) (by omega) (by omega) p p0 p1 W)
     have HNO := zh (show entF I p F a = toF { F with tb := F.tb ++ [q1, q2] } (optT (optV (yt (c1 + 256 * c2) p))) by rw [optT_optV]; exact HNO.out)
     generalize optV (yt (c1 + 256 * c2) p) = q3 at *
     refine zr (S := fun W => (∀ o, W.cell? ⟨w.heap.size + 2, o, none⟩ = (#[.int .i64 p.bank, .int .u16 p.addr] : Array Value)[o]?)) [15] (by kernel_rfl) (fun o => cell_of_row _ _ _ _ _ _ (za (Below.refl _ _).drew HR6.out.b2)) (fun hHeld => ?_)
     have HR7 := zh (HR6.out.below (Below.refl _ _).drew)
     obtain ⟨w8, hw8⟩ : ∃ w8, w7.drew = w8 := ⟨_, rfl⟩
     rw [hw8] at hHeld HR7 ⊢
     clear hw8 HR6
     (refine tz 0 ?_)
     (refine tz 1 ?_)
     (refine tz 2 ?_)
     (refine tz 3 ?_)
     (refine tz 4 ?_)
     (refine tz 5 ?_)
     (refine tz 6 ?_)
     (refine tz 7 ?_)
     (refine tz 8 ?_)
     refine twoZ 9 13 rfl rfl (fun K hK => ?_) (fun K hK => ?_)
     ·go_simp
      with_reducible refine (HS3.out _).mono ?_
      rintro e w9 ⟨rfl, hb9⟩
      have HR9 := zh (HR7.out.below hb9)
      clear hb9
      go_simp
      refine hK.out _ _ (.inr fun o => cell_of_row _ _ _ _ _ _ HR9.out.b2) ?_
      (refine pts ?_)
      clear hK K hHeld
      (refine tkZ 10 (v := ?_) rfl (fun o => cell_of_row _ _ _ _ _ _ HR9.out.b2) ?_ ?_; rotate_left; (focus (intro w hSw; clear hSw; go_simp; try with_reducible rfl)); (refine pts ?_))
      (refine tkZ 11 (v := ?_) rfl (fun o => cell_of_row _ _ _ _ _ _ HR9.out.b2) ?_ ?_; rotate_left; (focus (intro w hSw; clear hSw; go_simp; try with_reducible rfl)); (refine pts ?_))
      (refine tkZ 12 (v := ?_) rfl (fun o => cell_of_row _ _ _ _ _ _ HR9.out.b2) ?_ ?_; rotate_left; (focus (intro w hSw; clear hSw; go_simp; try with_reducible rfl)); (refine pts ?_))
      refine yx 13 rfl (fun K hK => ?_)
      go_simp
      have HR10 := zh (HR9.out.below ((Below.refl _ _).alloc (zn _) (zo ⟨0, 0⟩)))
      refine hK.out _ _ (.inr fun o => cell_of_row _ _ _ _ _ _ HR10.out.b2) ?_
      (refine pts ?_)
      clear hK K HR10
      refine yx 14 rfl (fun K hK => ?_)
      refine wp_store_row _ _ _ rfl w9.heap.size _ rfl rfl _ _ (heap_alloc_new _ _) ?_ ?_ ?_ ?_
      ·kernel_rfl
      ·rfl
      ·kernel_rfl
      rw [World.setRow_alloc_new]
      have HR10 := zh (HR9.out.below ((Below.refl _ _).alloc (zn _) (zo q3.1)))
      have HP := zh (heap_alloc_new w9 (zo q3.1))
      refine hK.out _ _ (.inr fun o => cell_of_row _ _ _ _ _ _ HR10.out.b2) ?_
      (refine pts ?_)
      clear hK K
      refine z8 15 ?_
      simp only [List.drop_succ_cons, List.drop_zero]
      have HTO := zh (rto_any B { F with tb := F.tb ++ [q1, q2] } gf q3 _ un uc ui _ HR10.out.fl (HEW.out _ _ _ _ _ _ HR10.out).2 HLK.out.1)
      go_wp2_with (first
       | (refine ldT 47 (HP.out) ?_)
       | (go_at_call 53; (with_reducible refine HTO.out.mono ?_); rintro e w11 ⟨rfl, un', uc', ui', ut', hx3, hr3, ht3⟩; have HX3 := zh (HR10.out.step HROW.out hx3 hr3 ht3); clear hx3 hr3 ht3))
      go_roundw
      case rel => exact ⟨k + 1, by have := HLT.out; omega, by go_num, zh ⟨_, _, _, _, by rw [HTB.out, HNO.out]; exact HX3.out⟩⟩
      case measure => have := HLT.out; simp [intOf]; omega
     ·go_simp
      have HR9 := zh (HR7.out.below ((Below.refl _ _).alloc (zn _) (zo ⟨0, 0⟩)))
      have HP := zh (heap_alloc_new w8 (zo ⟨0, 0⟩))
      refine hK.out _ _ (.inr fun o => cell_of_row _ _ _ _ _ _ HR9.out.b2) ?_
      (refine pts ?_)
      clear hK K hHeld
      refine yx 9 rfl (fun K hK => ?_)
      go_simp
      with_reducible refine (HS3.out _).mono ?_
      rintro e w9 ⟨rfl, hb9⟩
      have HR10 := zh (HR9.out.below hb9)
      have HP := zh (za hb9 HP.out)
      have HB9 := zh (show Below w8.heap.size w8 w9 from ((Below.refl _ _).alloc (zn _) (zo ⟨0, 0⟩)).trans (hb9.mono (by simp)))
      clear hb9
      go_simp
      refine hK.out _ _ (.inr fun o => cell_of_row _ _ _ _ _ _ HR10.out.b2) ?_
      (refine pts ?_)
      clear hK K
      (refine tkZ 10 (v := ?_) rfl (fun o => cell_of_row _ _ _ _ _ _ HR10.out.b2) ?_ ?_; rotate_left; (focus (intro w hSw; clear hSw; go_simp; try with_reducible rfl)); (refine pts ?_))
      (refine tkZ 11 (v := ?_) rfl (fun o => cell_of_row _ _ _ _ _ _ HR10.out.b2) ?_ ?_; rotate_left; (focus (intro w hSw; clear hSw; go_simp; try with_reducible rfl)); (refine pts ?_))
      (refine tkZ 12 (v := ?_) rfl (fun o => cell_of_row _ _ _ _ _ _ HR10.out.b2) ?_ ?_; rotate_left; (focus (intro w hSw; clear hSw; go_simp; try with_reducible rfl)); (refine pts ?_))
      have HR11 := zh (HR7.out.below (W' := w9.setRow w8.heap.size #[.int .i64 q3.1.bank, .int .u16 q3.1.addr]) (below_setRow HB9.out (zn _) _))
      have HP11 := zh (show (w9.setRow w8.heap.size #[.int .i64 q3.1.bank, .int .u16 q3.1.addr]).heap[w8.heap.size]? = some (zo q3.1) from setRow_heap _ _ _ _ _ _ HP.out)
      have HTO := zh (rto_any B { F with tb := F.tb ++ [q1, q2] } gf q3 _ un uc ui _ HR11.out.fl (HEW.out _ _ _ _ _ _ HR11.out).2 HLK.out.1)
      refine yx 14 rfl (fun K hK => ?_)
      refine wp_store_row _ _ _ rfl w8.heap.size _ rfl rfl _ _ HP.out ?_ ?_ ?_ ?_
      ·kernel_rfl
      ·rfl
      ·kernel_rfl
      refine hK.out _ _ (.inr fun o => cell_of_row _ _ _ _ _ _ HR11.out.b2) ?_
      (refine pts ?_)
      clear hK K
      refine z8 15 ?_
      simp only [List.drop_succ_cons, List.drop_zero]
      go_wp2_with (first
       | (refine ldT 47 (HP11.out) ?_)
       | (go_at_call 53; (with_reducible refine HTO.out.mono ?_); rintro e w11 ⟨rfl, un', uc', ui', ut', hx3, hr3, ht3⟩; have HX3 := zh (HR11.out.step HROW.out hx3 hr3 ht3); clear hx3 hr3 ht3))
      go_roundw
      case rel => exact ⟨k + 1, by have := HLT.out; omega, by go_num, zh ⟨_, _, _, _, by rw [HTB.out, HNO.out]; exact HX3.out⟩⟩
      case measure => have := HLT.out; simp [intOf]; omega
  ·have HKE := zh (show x.bank.toNat = k by omega)
   go_wp2_with fail
   go_end0
   exact ⟨rfl, un, uc, ui, ut, by rw [HKE.out]; exact HR.out.fl, fun j hj => (HR.out.ro j hj).imp id (fun h => by omega), HR.out.tu⟩
end Go.Proofs.YteofmaiojepdkaaGreat
