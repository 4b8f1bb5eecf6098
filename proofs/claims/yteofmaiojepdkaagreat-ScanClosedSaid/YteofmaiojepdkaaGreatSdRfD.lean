/- The reference of chapter 05: Flows, walked. Condition: addresses are words; the image's banks have 4096 bytes. -/
import Derived.Test.YteofmaiojepdkaaGreatSdRfC
set_option linter.all false
namespace Go.Proofs.YteofmaiojepdkaaGreat
open Go Go.RowKit Go.Maps
abbrev flwZ : Obj := .cells #[.slice none 0 0, .slice none 0 0, .slice none 0 0, .slice none 0 0] 62
@[go_sem] theorem rflow_build (W : World) : (Instr.build 62 #[]).run Tryz.prog W = .ok (.agg #[.slice none 0 0, .slice none 0 0, .slice none 0 0, .slice none 0 0]) W := run_build W _ _ _ (by kernel_rfl)
theorem rflow0 {B : Nat} {W : World} {gf : Nat} (h : W.heap[gf]? = some flwZ) (hf : B ≤ gf) : yO B flow0 gf (.slice none 0 0) (.slice none 0 0) (.slice none 0 0) (.slice none 0 0) W :=
 ⟨h, World.ownsRow_nil _ _ _ _, World.ownsRow_nil _ _ _ _, World.ownsRow_nil _ _ _ _, World.ownsRow_nil _ _ _ _, fun k h => (by cases h), fun k h => (by cases h), hf⟩
def FlqP (w : World) (f : zN) (e : Ending) (w' : World) : Prop := (∃ vn vc vi vt, e = .returned (.agg #[vn, vc, vi, vt]) ∧ w'.ownsRow w.heap.size 47 2 vn f.nx.length (zt f.nx) ∧ w'.ownsRow w.heap.size 47 2 vc f.cl.length (zt f.cl) ∧ w'.ownsRow w.heap.size 56 1 vi f.iss.length (errL f.iss) ∧ w'.ownsRow w.heap.size 47 2 vt f.tb.length (zt f.tb)) ∧ Below w.heap.size w w'
theorem Bx.z4 {a b c d : Obj} {w W : World} (h : Bx [a, b, c, d] w W) : w.heap.size + 4 ≤ W.heap.size := h.z
theorem own_sl {w : World} {B s n : Nat} {T : TypeId} {v : Value} {xs : List Value} (h : w.ownsRow B T s v n xs) : ∃ A c, v = .slice A n c := by
 rcases h.2 with ⟨h1, h2⟩ | ⟨g, cap, cur, rfl, -⟩
 ·subst h1
  subst h2
  exact ⟨_, _, rfl⟩
 ·exact ⟨_, _, rfl⟩
section
variable {ol : List Obj} {B : Nat} {f f' : zN} {gf : Nat} {vn vc vi vt un uc ui ut : Value} {w W W' : World}
theorem Bx.flow (h : Bx ol w W) (hz : B = w.heap.size + ol.length) (hf : yO B f gf vn vc vi vt W) (t : zl (flwB gf vn vc vi vt) W W') : Bx ol w W' := h.keep (hz ▸ hf.turnB t (hz ▸ h.z))
end
set_option maxRecDepth 100000 in
set_option maxHeartbeats 8000000 in
theorem rflows_any (I : zp) (hI : I.Ok) (ba : Option Addr) (bc : Nat) (da : Option Addr) (dc : Nat) (ra : Option Addr) (rn rc : Nat) (x : Ins) (hx : x.Ok) (hb : 0 ≤ x.bank ∧ x.bank < 256) (hz : 0 ≤ x.size ∧ x.size ≤ 100) (p : zc) (p0 : 0 ≤ p.addr) (p1 : p.addr < 65536) (w : World) (hV : yw w I ba bc da dc) :
  Calls Tryz.prog 23 #[.agg #[.slice ba I.banks.length bc, .int .u16 I.entry, .int .u16 I.vector, .slice da I.data.length dc, .slice ra rn rc], .agg #[.int .i64 (x).op, .int .i64 (x).d, .int .i64 (x).s, .int .u16 (x).imm, .int .u16 (x).aux, .int .i64 (x).bank, .int .i64 (x).size], .agg #[.int .i64 p.bank, .int .u16 p.addr]] w (FlqP w (yP I x p)) := by
 have HV := zh hV
 have HB5 := (Bx.four w (xu I ba bc da dc ra rn rc) (ja x) (zr p) flwZ).snoc (by simp) flwZ
 have HF := zh (show yO (w.heap.size + 4) flow0 (w.heap.size + 4) (.slice none 0 0) (.slice none 0 0) (.slice none 0 0) (.slice none 0 0) _ ∧ Bx [xu I ba bc da dc ra rn rc, ja x, zr p, flwZ] w _ from And.intro (rflow0 (HB5.at_ 4 _ rfl) (zn _)) ((Bx.four w (xu I ba bc da dc ra rn rc) (ja x) (zr p) flwZ).alloc flwZ))
 have HFA := zh (fun W => rfalls_any x hx W)
 have HN0 := zh (fun (h : xv p x.size = none) W => rnext_none p p0 p1 x.size (by omega) (by omega) W h)
 have HN1 := zh (fun q (h : xv p x.size = some q) W => rnext_some p p0 p1 x.size (by omega) (by omega) W h)
 have HTA := zh (fun W => rtarget_any x hx p p0 p1 W)
 clear hV HB5
 go_enter Tryz.func23, Tryz.ntmps23
 go_upto_region 2 with (first | (refine wpList_store_row rfl _ _ _ rfl _ _ rfl rfl _ _ (heap_alloc_new _ _) ?_ ?_ ?_ ?_; kernel_rfl; rfl; kernel_rfl; rw [World.setRow_alloc_new]))
 obtain ⟨wi, hwi⟩ : ∃ wi, ((((w.alloc (xu I ba bc da dc ra rn rc)).alloc (ja x)).alloc (zr p)).alloc flwZ).alloc flwZ = wi := ⟨_, rfl⟩
 rw [hwi] at HF ⊢
 clear hwi
 go_upto_if 16 with (first
  | (refine zb 53 _ rfl _ rfl _ _ _ (HF.out.2.b1) ?_ ?_ ?_; kernel_rfl; kernel_rfl)
  | (go_at_call 49; (with_reducible refine (HFA.out _).mono ?_); rintro e w1 ⟨rfl, hb1⟩; have HF := zh (And.intro (HF.out.1.below hb1) (HF.out.2.stay hb1)); clear hb1))
 obtain ⟨fb, hfb⟩ : ∃ b, xT x = b := ⟨_, rfl⟩
 rw [hfb]
 have HFS := zh hfb
 clear hfb
 go_cut [] (fun wx => ∃ vn vc vi vt, Hid (yO (w.heap.size + 4) (zQ x p) (w.heap.size + 4) vn vc vi vt wx) ∧ Hid (Bx [xu I ba bc da dc ra rn rc, ja x, zr p, flwZ] w wx))
 case first =>
  have hc1 := fun o => cell_of_row w1 (w.heap.size + 1) o _ _ _ HF.out.2.b1
  cases fb with
  | false =>
   go_wp2_with fail
   go_meet
   rw [fall_no HFS.out]
   exact ⟨_, _, _, _, zh HF.out.1, zh HF.out.2⟩
  | true =>
   cases hnx : xv p x.size with
   | none =>
    have HNX := zh hnx
    have HNC := zh (HN0.out hnx)
    clear hnx HN0 HN1
    go_wp2_with (first
     | (refine zb 47 _ rfl _ rfl _ _ _ (HF.out.2.b2) ?_ ?_ ?_; kernel_rfl; kernel_rfl)
     | (refine wpList_store_row rfl _ _ _ rfl _ _ rfl rfl _ _ (heap_alloc_new _ _) ?_ ?_ ?_ ?_; kernel_rfl; rfl; kernel_rfl; rw [World.setRow_alloc_new])
     | (go_at_call 50; (with_reducible refine (HNC.out _).mono ?_); rintro e w2 ⟨rfl, hb2⟩
        have HB := zh (Below.alloc hb2 hb2.size (zr ⟨0, 0⟩))
        have HF := zh (And.intro (HF.out.1.below HB.out) (HF.out.2.stay HB.out))
        have HI := zh (jk (w.heap.size + 4) flow0 { flow0 with xe := true } 45 (w.heap.size + 4) _ _ _ _ _ HF.out.1 HF.out.2.z4 rfl rfl rfl (ins_exit flow0))
        clear hb2)
     | (go_at_call 51; (with_reducible refine HI.out.mono ?_); rintro e w3 ⟨rfl, un, uc, ui, ut, hx3, hr3, ht3⟩; have HX3 := zh hx3; have HB3 := zh (HF.out.2.flow rfl HF.out.1 ht3); clear hx3 hr3 ht3))
    go_meet
    rw [fall_none HFS.out HNX.out]
    exact ⟨_, _, _, _, HX3, HB3⟩
   | some q =>
    have HNX := zh hnx
    have HNC := zh (HN1.out q hnx)
    clear hnx HN0 HN1
    go_wp2_with (first
     | (refine zb 47 _ rfl _ rfl _ _ _ (HF.out.2.b2) ?_ ?_ ?_; kernel_rfl; kernel_rfl)
     | (refine zb 47 _ rfl _ rfl _ _ _ (HQ.out) ?_ ?_ ?_; kernel_rfl; kernel_rfl)
     | (refine wpList_store_row rfl _ _ _ rfl _ _ rfl rfl _ _ (heap_alloc_new _ _) ?_ ?_ ?_ ?_; kernel_rfl; rfl; kernel_rfl; rw [World.setRow_alloc_new])
     | (go_at_call 50; (with_reducible refine (HNC.out _).mono ?_); rintro e w2 ⟨rfl, hb2⟩
        have HB := zh (Below.alloc hb2 hb2.size (zr q))
        have HF := zh (And.intro (HF.out.1.below HB.out) (HF.out.2.stay HB.out))
        have HQ := zh (heap_alloc_new w2 (zr q))
        have HFB := zh ((Below.refl (w2.alloc (zr q)).heap.size (w2.alloc (zr q))).alloc (zn _) (zr q))
        have hcf := fun o => cell_of_row _ (w.heap.size + 4) o _ _ _ HF.out.1.blk
        clear hb2)
     | (at_builtin; go_must
      (refine zS (.tmp 26) (.tmp 28) 40 47 rfl 2 16 _ xz Tryz.underlying40 rfl (by decide) (by decide) (w.heap.size + 4) (HF.out.2.stay HFB.out).z4 (.slice none 0 0) 0 [] rfl (HF.out.1.below HFB.out).on (by decide) (w2.heap.size + 1) 1 _ _ _ rfl (by rw [show w2.heap.size + 1 = (w2.alloc (zr q)).heap.size by simp]; exact heap_alloc_new (w2.alloc (zr q)) _) rfl rfl (by decide) (by decide) rfl ?_
       intro ga cp w6 ho6 hg6 hv6
       have hnx := HF.out.1.next HFB.out (v' := .slice (some ⟨ga, 0, none⟩) (0 + 1) cp) (ps := [q]) (by simpa [flow0, zt, yV] using ho6) hg6 hv6
       have HNX6 := zh hnx
       have hb6 : Below (w.heap.size + 4) (w2.alloc (zr q)) w6 := (HFB.out.mono HF.out.2.z4).grown hg6 (HF.out.2.stay HFB.out).z4 (fun k hk => (HF.out.1.on.lt k hk).1)
       have HB6 := zh (HF.out.2.keep (l := [xu I ba bc da dc ra rn rc, ja x, zr p, flwZ]) hb6)
       have hc9 : ∀ o, w6.cell? ⟨w.heap.size + 4, o, none⟩ = (#[.slice none 0 0, .slice none 0 0, .slice none 0 0, .slice none 0 0] : Array Value)[o]? := fun o => cell_of_row _ _ _ _ _ _ HNX6.out.2
       have hf9 : ∀ o, w6.frozen? ⟨w.heap.size + 4, o, none⟩ = false := fun o => frozen_of_row _ _ _ _ _ HNX6.out.2
       clear ho6 hg6 hv6 hnx hb6)))
    go_meet
    rw [fall_some HFS.out HNX.out]
    exact ⟨_, _, _, _, zh HNX6.out.1, zh (HB6.out.keep (l := [xu I ba bc da dc ra rn rc, ja x, zr p, flwZ]) ((Below.refl _ _).setCell (p := ⟨w.heap.size + 4, 0, none⟩) (zn _) _))⟩
 case rest =>
  obtain ⟨vn, vc, vi, vt, HW, HX⟩ := hcut
  clear HF HN0 HN1 HFA HFS
  go_upto_block 0 with (first
   | (refine zb 53 _ rfl _ rfl _ _ _ (HX.out.b1) ?_ ?_ ?_; kernel_rfl; kernel_rfl)
   | (refine zb 47 _ rfl _ rfl _ _ _ (HX.out.b2) ?_ ?_ ?_; kernel_rfl; kernel_rfl)
   | (refine wpList_store_row rfl _ _ _ rfl _ _ rfl rfl _ _ (heap_alloc_new _ _) ?_ ?_ ?_ ?_; kernel_rfl; rfl; kernel_rfl; rw [World.setRow_alloc_new])
   | (go_at_call 52; (with_reducible refine (HTA.out _).mono ?_); rintro e w5 ⟨rfl, hb5⟩; have HB5 := zh hb5; clear hb5))
  have HG := zh (And.intro (HW.out.below (Below.alloc HB5.out HB5.out.size (zr (zR x p).1))) (HX.out.stay (Below.alloc HB5.out HB5.out.size (zr (zR x p).1))))
  have HTP := zh (show (w5.alloc (zr (zR x p).1)).heap[w5.heap.size]? = some (zr (zR x p).1) from heap_alloc_new _ _)
  clear HW HX HB5 HTA
  obtain ⟨q, tb, hT⟩ : ∃ q tb, zR x p = (q, tb) := ⟨_, _, rfl⟩
  have HT := zh hT
  rw [hT] at HG HTP ⊢
  dsimp only at HG HTP ⊢
  obtain ⟨W, hW⟩ : ∃ W, w5.alloc (zr q) = W := ⟨_, rfl⟩
  rw [hW] at HG HTP ⊢
  clear hT hW
  go_cut [] (fun wx => ∃ vn vc vi vt, Hid (yO (w.heap.size + 4) (yP I x p) (w.heap.size + 4) vn vc vi vt wx) ∧ Hid (Bx [xu I ba bc da dc ra rn rc, ja x, zr p, flwZ] w wx))
  case first =>
   have hc1 := fun o => cell_of_row W (w.heap.size + 1) o _ _ _ HG.out.2.b1
   have hft := (fall_len x p).1
   have hf2 := (fall_len x p).2
   have HLN := zh (And.intro hft hf2)
   clear hft hf2
   go_upto_region 9 with fail
   go_cut [38] (fun s wx => ∃ b : Bool, s = .bool b ∧ Hid (b = decide (x.op = 130 ∨ x.op = 132)) ∧ wx = W)
   case first =>
    by_cases h1 : x.op = 130
    ·have e1 : (x.op == 130) = true := by simp [h1]
     have HD := zh (show true = decide (x.op = 130 ∨ x.op = 132) by simp [h1])
     clear h1
     go_wp2_with fail
     go_meet
     exact ⟨_, rfl, HD, rfl⟩
    ·by_cases h2 : x.op = 132
     ·have e1 : (x.op == 130) = false := by simp [h1]
      have e2 : (x.op == 132) = true := by simp [h2]
      have HD := zh (show true = decide (x.op = 130 ∨ x.op = 132) by simp [h2])
      clear h1 h2
      go_wp2_with fail
      go_meet
      exact ⟨_, rfl, HD, rfl⟩
     ·have e1 : (x.op == 130) = false := by simp [h1]
      have e2 : (x.op == 132) = false := by simp [h2]
      have HD := zh (show false = decide (x.op = 130 ∨ x.op = 132) by simp [h1, h2])
      clear h1 h2
      go_wp2_with fail
      go_meet
      exact ⟨_, rfl, HD, rfl⟩
   case rest =>
    obtain ⟨b1, rfl, HD1, rfl⟩ := hcut
    cases b1 with
    | true =>
     cases tb with
     | true =>
      have HCL := zh (show (zQ x p).cl.length ≤ 1000 by rw [fall_cl x p]; simp)
      have hcf := fun o => cell_of_row wc (w.heap.size + 4) o _ _ _ HG.out.1.blk
      have HFB := zh (Below.refl wc.heap.size wc)
      go_wp2_with (first
       | (refine zb 47 _ rfl _ rfl _ _ _ (HTP.out) ?_ ?_ ?_; kernel_rfl; kernel_rfl)
       | (at_builtin; go_must
        (refine zS (.tmp 49) (.tmp 51) 40 47 rfl 2 16 _ xz Tryz.underlying40 rfl (by decide) (by decide) (w.heap.size + 4) (Nat.le_trans HG.out.2.z4 (by simp)) vc (zQ x p).cl.length (zt (zQ x p).cl) rfl (HG.out.1.oc.alloc _) (Nat.le_trans HCL.out (by decide)) wc.heap.size 1 _ _ _ rfl (heap_alloc_new wc _) rfl rfl (by decide) (by decide) rfl ?_
         intro ga cp w6 ho6 hg6 hv6
         have hb0 := (Below.refl wc.heap.size wc).alloc (zn _) (zr q)
         have hnx := HG.out.1.call hb0 (v' := .slice (some ⟨ga, 0, none⟩) ((zQ x p).cl.length + 1) cp) (ps := [q]) (by simpa [zt, yV] using ho6) hg6 hv6
         have HNX6 := zh hnx
         have hb6 : Below (w.heap.size + 4) wc w6 := (hb0.mono HG.out.2.z4).grown hg6 (Nat.le_trans HG.out.2.z4 (by simp)) (fun k hk => (HG.out.1.oc.lt k hk).1)
         have HB6 := zh (HG.out.2.keep (l := [xu I ba bc da dc ra rn rc, ja x, zr p, flwZ]) hb6)
         have hc9 : ∀ o, w6.cell? ⟨w.heap.size + 4, o, none⟩ = (#[vn, vc, vi, vt] : Array Value)[o]? := fun o => cell_of_row _ _ _ _ _ _ HNX6.out.2
         have hf9 : ∀ o, w6.frozen? ⟨w.heap.size + 4, o, none⟩ = false := fun o => frozen_of_row _ _ _ _ _ HNX6.out.2
         clear ho6 hg6 hv6 hnx hb6 hb0)))
      go_meet
      rw [fs_call HT.out HD1.out rfl]
      exact ⟨_, _, _, _, zh HNX6.out.1, zh (HB6.out.keep (l := [xu I ba bc da dc ra rn rc, ja x, zr p, flwZ]) ((Below.refl _ _).setCell (p := ⟨w.heap.size + 4, 1, none⟩) (zn _) _))⟩
     | false =>
      have HI := zh (jk (w.heap.size + 4) (zQ x p) { zQ x p with xb := true } 42 (w.heap.size + 4) wc vn vc vi vt HG.out.1 HG.out.2.z4 rfl rfl rfl (ins_bank (zQ x p)))
      go_wp2_with (first | (go_at_call 51; (with_reducible refine HI.out.mono ?_); rintro e w8 ⟨rfl, un, uc, ui, ut, hx8, hr8, ht8⟩; have HX8 := zh hx8; have HB8 := zh (HG.out.2.flow rfl HG.out.1 ht8); clear hx8 hr8 ht8))
      go_meet
      rw [fs_callno HT.out HD1.out rfl]
      exact ⟨_, _, _, _, HX8, HB8⟩
    | false =>
     go_upto_region 13 with fail
     go_cut [55] (fun s wx => ∃ b : Bool, s = .bool b ∧ Hid (b = decide ((96 ≤ x.op ∧ x.op ≤ 129) ∨ x.op = 131)) ∧ wx = wc)
     case first =>
      by_cases h2 : 96 ≤ x.op
      ·by_cases h3 : x.op ≤ 129
       ·have HD := zh (show true = decide ((96 ≤ x.op ∧ x.op ≤ 129) ∨ x.op = 131) by simp [h2, h3])
        go_wp2_with fail
        go_meet
        exact ⟨_, rfl, HD, rfl⟩
       ·by_cases h1 : x.op = 131
        ·have e1 : (x.op == 131) = true := by simp [h1]
         have HD := zh (show true = decide ((96 ≤ x.op ∧ x.op ≤ 129) ∨ x.op = 131) by simp [h1])
         clear h1
         go_wp2_with fail
         go_meet
         exact ⟨_, rfl, HD, rfl⟩
        ·have e1 : (x.op == 131) = false := by simp [h1]
         have HD := zh (show false = decide ((96 ≤ x.op ∧ x.op ≤ 129) ∨ x.op = 131) by simp [h1, h3])
         clear h1
         go_wp2_with fail
         go_meet
         exact ⟨_, rfl, HD, rfl⟩
      ·by_cases h1 : x.op = 131
       ·exact absurd (by omega) h2
       ·have e1 : (x.op == 131) = false := by simp [h1]
        have HD := zh (show false = decide ((96 ≤ x.op ∧ x.op ≤ 129) ∨ x.op = 131) by simp [h1, h2])
        clear h1
        go_wp2_with fail
        go_meet
        exact ⟨_, rfl, HD, rfl⟩
     case rest =>
      obtain ⟨b2, rfl, HD2, rfl⟩ := hcut
      have HTO := zh (rto_any (w.heap.size + 4) (zQ x p) (w.heap.size + 4) (q, tb) wc vn vc vi vt HG.out.1 HG.out.2.z4 (by have := HLN.out.1; omega))
      cases b2 with
      | true =>
       go_wp2_with (first
        | (refine zb 47 _ rfl _ rfl _ _ _ (HTP.out) ?_ ?_ ?_; kernel_rfl; kernel_rfl)
        | (go_at_call 53; (with_reducible refine HTO.out.mono ?_); rintro e w6 ⟨rfl, un, uc, ui, ut, hx6, hr6, ht6⟩; have HX6 := zh hx6; have HB6 := zh (HG.out.2.flow rfl HG.out.1 ht6); clear hx6 hr6 ht6))
       go_meet
       rw [fs_jump HT.out HD1.out HD2.out]
       exact ⟨_, _, _, _, HX6, HB6⟩
      | false =>
       by_cases h3 : x.op = 133
       ·have e3 : (x.op == 133) = true := by simp [h3]
        have HOP := zh h3
        clear h3
        have HV2 := zh (fun W (h : Below w.heap.size w W) => HV.out.below h)
        go_wp2_with (first
         | (refine zb 47 _ rfl _ rfl _ _ _ (HTP.out) ?_ ?_ ?_; kernel_rfl; kernel_rfl)
         | (refine zb 31 _ rfl _ rfl _ _ _ (HB6.out.b0) ?_ ?_ ?_; kernel_rfl; kernel_rfl)
         | (refine zb 53 _ rfl _ rfl _ _ _ (HB6.out.b1) ?_ ?_ ?_; kernel_rfl; kernel_rfl)
         | (refine zb 47 _ rfl _ rfl _ _ _ (HB6.out.b2) ?_ ?_ ?_; kernel_rfl; kernel_rfl)
         | (go_at_call 53; (with_reducible refine HTO.out.mono ?_); rintro e w6 ⟨rfl, un, uc, ui, ut, hx6, hr6, ht6⟩; have HX6 := zh hx6; have HB6 := zh (HG.out.2.flow rfl HG.out.1 ht6); clear hx6 hr6 ht6
            have HTB := zh (rtable_any I hI ba bc da dc ra rn rc x hb p p0 p1 (w.heap.size + 4) (toF (zQ x p) (optT (q, tb))) (w.heap.size + 4) w w6 un uc ui ut HX6.out HB6.out.z4 HV.out HB6.out.bb (by omega) (by have h2 := (toF_len (zQ x p) (optT (q, tb))).1; have h3 := HLN.out.1; omega) (by have h2 := (toF_len (zQ x p) (optT (q, tb))).2; have h3 := HLN.out.2; rw [h2, h3]; simp)))
         | (go_at_call 54; (with_reducible refine HTB.out.mono ?_); rintro e w7 ⟨rfl, vn7, vc7, vi7, vt7, hx7, hr7, ht7⟩; have HX7 := zh hx7; have HB7 := zh (HB6.out.flow rfl HX6.out ht7); clear hx7 hr7 ht7))
        go_meet
        rw [fs_table HT.out HD1.out HD2.out HOP.out]
        exact ⟨_, _, _, _, HX7, HB7⟩
       ·have e3 : (x.op == 133) = false := by simp [h3]
        by_cases h4 : x.op = 134
        ·have e4 : (x.op == 134) = true := by simp [h4]
         have HD := zh (fs_134 (I := I) (p := p) HD1.out HD2.out h4)
         clear h3 h4
         have HI := zh (jk (w.heap.size + 4) (zQ x p) { zQ x p with xt := true } 41 (w.heap.size + 4) wc vn vc vi vt HG.out.1 HG.out.2.z4 rfl rfl rfl (ins_table (zQ x p)))
         go_wp2_with (first | (go_at_call 51; (with_reducible refine HI.out.mono ?_); rintro e w8 ⟨rfl, un, uc, ui, ut, hx8, hr8, ht8⟩; have HX8 := zh hx8; have HB8 := zh (HG.out.2.flow rfl HG.out.1 ht8); clear hx8 hr8 ht8))
         go_meet
         rw [HD.out]
         exact ⟨_, _, _, _, HX8, HB8⟩
        ·have e4 : (x.op == 134) = false := by simp [h4]
         by_cases h5 : x.op = 145
         ·have e5 : (x.op == 145) = true := by simp [h5]
          have hc7 := fun o => cell_of_row wc (w.heap.size + 1) o _ _ _ HG.out.2.b1
          by_cases h6 : x.imm = 0
          ·have e6 : (x.imm == 0) = true := by simp [h6]
           have HD := zh (fs_145 (I := I) (p := p) HD1.out HD2.out ⟨h5, h6⟩)
           clear h3 h4 h5 h6
           have HI := zh (jk (w.heap.size + 4) (zQ x p) { zQ x p with xb := true } 42 (w.heap.size + 4) wc vn vc vi vt HG.out.1 HG.out.2.z4 rfl rfl rfl (ins_bank (zQ x p)))
           go_wp2_with (first | (go_at_call 51; (with_reducible refine HI.out.mono ?_); rintro e w8 ⟨rfl, un, uc, ui, ut, hx8, hr8, ht8⟩; have HX8 := zh hx8; have HB8 := zh (HG.out.2.flow rfl HG.out.1 ht8); clear hx8 hr8 ht8))
           go_meet
           rw [HD.out]
           exact ⟨_, _, _, _, HX8, HB8⟩
          ·have e6 : (x.imm == 0) = false := by simp [h6]
           have HD := zh (fs_else (I := I) (p := p) HD1.out HD2.out h3 h4 (fun h => h6 h.2))
           clear h3 h4 h5 h6
           go_wp2_with fail
           go_meet
           rw [HD.out]
           exact ⟨_, _, _, _, zh HG.out.1, zh HG.out.2⟩
         ·have e5 : (x.op == 145) = false := by simp [h5]
          have HD := zh (fs_else (I := I) (p := p) HD1.out HD2.out h3 h4 (fun h => h5 h.1))
          clear h3 h4 h5
          go_wp2_with fail
          go_meet
          rw [HD.out]
          exact ⟨_, _, _, _, zh HG.out.1, zh HG.out.2⟩
  case rest =>
   obtain ⟨un, uc, ui, ut, HW2, HX2⟩ := hcut
   obtain ⟨An, cn, rfl⟩ := own_sl HW2.out.on
   obtain ⟨Ac, cc, rfl⟩ := own_sl HW2.out.oc
   obtain ⟨Ai, ci, rfl⟩ := own_sl HW2.out.oi
   obtain ⟨At, ct, rfl⟩ := own_sl HW2.out.ot
   clear HG HTP HT
   go_wp2_with (first
    | (refine zb 62 _ rfl _ rfl _ _ _ (HW2.out.blk) ?_ ?_ ?_; kernel_rfl; kernel_rfl)
    | (refine wpList_store_row rfl _ _ _ rfl _ _ rfl rfl _ _ (HX2.out.b3) ?_ ?_ ?_ ?_; kernel_rfl; rfl; kernel_rfl))
   refine bodyPost_ret (results_cell_row (cs := #[.slice An (yP I x p).nx.length cn, .slice Ac (yP I x p).cl.length cc, .slice Ai (yP I x p).iss.length ci, .slice At (yP I x p).tb.length ct]) (fr := (0, 0)) Tryz.results23 _ _ (w.heap.size + 3) 62 _ ?_ (setRow_heap _ _ _ _ _ _ HX2.out.b3) Tryz.underlying62 rfl (by kernel_rfl)) rfl ?_
   ·rfl
   ·have ht := (zl.refl (fun k => k = w.heap.size + 3) wc).setRow #[.slice An (yP I x p).nx.length cn, .slice Ac (yP I x p).cl.length cc, .slice Ai (yP I x p).iss.length ci, .slice At (yP I x p).tb.length ct] (fun _ => rfl)
    have hne : ∀ {B' s n : Nat} {T : TypeId} {v : Value} {xs : List Value}, wc.ownsRow B' T s v n xs → B' = w.heap.size + 4 → ∀ k, v.ownBlock = some k → ¬ k = w.heap.size + 3 := fun h e k hk => by have := (h.lt k hk).1; omega
    exact ⟨⟨_, _, _, _, rfl, (zk HW2.out.on ht (hne HW2.out.on rfl)).mono (by omega), (zk HW2.out.oc ht (hne HW2.out.oc rfl)).mono (by omega), (zk HW2.out.oi ht (hne HW2.out.oi rfl)).mono (by omega), (zk HW2.out.ot ht (hne HW2.out.ot rfl)).mono (by omega)⟩, below_setRow HX2.out.bb (by omega) _⟩
end Go.Proofs.YteofmaiojepdkaaGreat
