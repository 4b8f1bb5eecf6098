/- The reference of chapter 05: Key, Of; One of a thunk, walked. Condition: the image's banks have 4096 bytes; the entry is a place. -/
import Derived.Test.YteofmaiojepdkaaGreatTbRFal
import Derived.Test.YteofmaiojepdkaaGreatTbRpB
import Derived.Test.YteofmaiojepdkaaGreatTbRfC
set_option linter.all false
namespace Go.Proofs.YteofmaiojepdkaaGreat
open Go Go.RowKit Go.Maps
abbrev flwZ : Obj := .cells #[.slice none 0 0, .slice none 0 0, .slice none 0 0, .slice none 0 0] 62
@[go_sem] theorem rflow_build (W : World) : (Instr.build 62 #[]).run Tryz.prog W = .ok (.agg #[.slice none 0 0, .slice none 0 0, .slice none 0 0, .slice none 0 0]) W := run_build W _ _ _ (by kernel_rfl)
theorem rflow0 {B : Nat} {W : World} {gf : Nat} (h : W.heap[gf]? = some flwZ) (hf : B ≤ gf) : yY B flow0 gf (.slice none 0 0) (.slice none 0 0) (.slice none 0 0) (.slice none 0 0) W :=
 ⟨h, World.ownsRow_nil _ _ _ _, World.ownsRow_nil _ _ _ _, World.ownsRow_nil _ _ _ _, World.ownsRow_nil _ _ _ _, fun k h => (by cases h), fun k h => (by cases h), hf⟩
def FlqP (w : World) (f : zO) (e : Ending) (w' : World) : Prop := (∃ vn vc vi vt, e = .returned (.agg #[vn, vc, vi, vt]) ∧ w'.ownsRow w.heap.size 47 2 vn f.nx.length (zp f.nx) ∧ w'.ownsRow w.heap.size 47 2 vc f.cl.length (zp f.cl) ∧ w'.ownsRow w.heap.size 56 1 vi f.iss.length (errL f.iss) ∧ w'.ownsRow w.heap.size 47 2 vt f.tb.length (zp f.tb)) ∧ Below w.heap.size w w'
theorem Bx.z4 {a b c d : Obj} {w W : World} (h : Bx [a, b, c, d] w W) : w.heap.size + 4 ≤ W.heap.size := h.z
theorem own_sl {w : World} {B s n : Nat} {T : TypeId} {v : Value} {xs : List Value} (h : w.ownsRow B T s v n xs) : ∃ A c, v = .slice A n c := by
 rcases h.2 with ⟨h1, h2⟩ | ⟨g, cap, cur, rfl, -⟩
 ·subst h1
  subst h2
  exact ⟨_, _, rfl⟩
 ·exact ⟨_, _, rfl⟩
section
variable {ol : List Obj} {B : Nat} {f f' : zO} {gf : Nat} {vn vc vi vt un uc ui ut : Value} {w W W' : World}
theorem Bx.flow (h : Bx ol w W) (hz : B = w.heap.size + ol.length) (hf : yY B f gf vn vc vi vt W) (t : zg (flwB gf vn vc vi vt) W W') : Bx ol w W' := h.keep (hz ▸ hf.turnB t (hz ▸ h.z))
end
set_option maxRecDepth 100000 in
set_option maxHeartbeats 8000000 in
theorem rflows_any (I : zk) (hI : I.Ok) (ba : Option Addr) (bc : Nat) (da : Option Addr) (dc : Nat) (ra : Option Addr) (rn rc : Nat) (x : Ins) (hx : x.Ok) (hb : 0 ≤ x.bank ∧ x.bank < 256) (hz : 0 ≤ x.size ∧ x.size ≤ 100) (p : zb) (p0 : 0 ≤ p.addr) (p1 : p.addr < 65536) (w : World) (hV : yG w I ba bc da dc) :
  Calls Tryz.prog 23 #[.agg #[.slice ba I.banks.length bc, .int .u16 I.entry, .int .u16 I.vector, .slice da I.data.length dc, .slice ra rn rc], .agg #[.int .i64 (x).op, .int .i64 (x).d, .int .i64 (x).s, .int .u16 (x).imm, .int .u16 (x).aux, .int .i64 (x).bank, .int .i64 (x).size], .agg #[.int .i64 p.bank, .int .u16 p.addr]] w (FlqP w (yU I x p)) := by
 have HV := zh hV
 have HB5 := (Bx.four w (z6 I ba bc da dc ra rn rc) (xS x) (zo p) flwZ).snoc (by simp) flwZ
 have HF := zh (show yY (w.heap.size + 4) flow0 (w.heap.size + 4) (.slice none 0 0) (.slice none 0 0) (.slice none 0 0) (.slice none 0 0) _ ∧ Bx [z6 I ba bc da dc ra rn rc, xS x, zo p, flwZ] w _ from And.intro (rflow0 (HB5.at_ 4 _ rfl) (zn _)) ((Bx.four w (z6 I ba bc da dc ra rn rc) (xS x) (zo p) flwZ).alloc flwZ))
 have HFA := zh (fun W => rfalls_any x hx W)
 have HN0 := zh (fun (h : xk p x.size = none) W => rnext_none p p0 p1 x.size (by omega) (by omega) W h)
 have HN1 := zh (fun q (h : xk p x.size = some q) W => rnext_some p p0 p1 x.size (by omega) (by omega) W h)
 have HTA := zh (fun W => rtarget_any x hx p p0 p1 W)
 clear hV HB5
 go_enter Tryz.func23, Tryz.ntmps23
 go_upto_region 2 with (first | (refine stN ?_))
 obtain ⟨wi, hwi⟩ : ∃ wi, ((((w.alloc (z6 I ba bc da dc ra rn rc)).alloc (xS x)).alloc (zo p)).alloc flwZ).alloc flwZ = wi := ⟨_, rfl⟩
 rw [hwi] at HF ⊢
 clear hwi
 go_upto_if 16 with (first
  | (refine ldT 53 (HF.out.2.b1) ?_)
  | (go_at_call 49; (with_reducible refine (HFA.out _).mono ?_); rintro e w1 ⟨rfl, hb1⟩; have HF := zh (And.intro (HF.out.1.below hb1) (HF.out.2.stay hb1)); clear hb1))
 obtain ⟨fb, hfb⟩ : ∃ b, xZ x = b := ⟨_, rfl⟩
 rw [hfb]
 have HFS := zh hfb
 clear hfb
 go_cut [] (fun wx => ∃ vn vc vi vt, Hid (yY (w.heap.size + 4) (zR x p) (w.heap.size + 4) vn vc vi vt wx) ∧ Hid (Bx [z6 I ba bc da dc ra rn rc, xS x, zo p, flwZ] w wx))
 case first =>
  have hc1 := fun o => cell_of_row w1 (w.heap.size + 1) o _ _ _ HF.out.2.b1
  cases fb with
  | false =>
   go_wp2_with fail
   go_meet
   rw [fall_no HFS.out]
   exact ⟨_, _, _, _, zh HF.out.1, zh HF.out.2⟩
  | true =>
   cases hnx : xk p x.size with
   | none =>
    have HNX := zh hnx
    have HNC := zh (HN0.out hnx)
    clear hnx HN0 HN1
    go_wp2_with (first
     | (refine ldT 47 (HF.out.2.b2) ?_)
     | (refine stN ?_)
     | (go_at_call 50; (with_reducible refine (HNC.out _).mono ?_); rintro e w2 ⟨rfl, hb2⟩
        have HB := zh (Below.alloc hb2 hb2.size (zo ⟨0, 0⟩))
        have HF := zh (And.intro (HF.out.1.below HB.out) (HF.out.2.stay HB.out))
        have HI := zh (jj (w.heap.size + 4) flow0 { flow0 with xe := true } 45 (w.heap.size + 4) _ _ _ _ _ HF.out.1 HF.out.2.z4 rfl rfl rfl (ins_exit flow0))
        clear hb2)
     | (go_at_call 51; (with_reducible refine HI.out.mono ?_); rintro e w3 ⟨rfl, un, uc, ui, ut, hx3, hr3, ht3⟩; have HX3 := zh hx3; have HB3 := zh (HF.out.2.flow rfl HF.out.1 ht3); clear hx3 hr3 ht3))
    go_meet
    rw [fall_none HFS.out HNX.out]
    exact ⟨_, _, _, _, HX3, HB3⟩
   | some q =>
    have HNX := zh hnx
    have HNC := zh (HN1.out q hnx)
    clear hnx HN0 HN1
    go_wp2_with (first
     | (refine ldT 47 (HF.out.2.b2) ?_)
     | (refine ldT 47 (HQ.out) ?_)
     | (refine stN ?_)
     | (go_at_call 50; (with_reducible refine (HNC.out _).mono ?_); rintro e w2 ⟨rfl, hb2⟩
        have HB := zh (Below.alloc hb2 hb2.size (zo q))
        have HF := zh (And.intro (HF.out.1.below HB.out) (HF.out.2.stay HB.out))
        have HQ := zh (heap_alloc_new w2 (zo q))
        have HFB := zh ((Below.refl (w2.alloc (zo q)).heap.size (w2.alloc (zo q))).alloc (zn _) (zo q))
        have hcf := fun o => cell_of_row _ (w.heap.size + 4) o _ _ _ HF.out.1.blk
        clear hb2)
     | (at_builtin; go_must
      (refine zJ (.tmp 26) (.tmp 28) 40 47 rfl 2 16 _ y7 Tryz.underlying40 rfl (by decide) (by decide) (w.heap.size + 4) (HF.out.2.stay HFB.out).z4 (.slice none 0 0) 0 [] rfl (HF.out.1.below HFB.out).on (by decide) (w2.heap.size + 1) 1 _ _ _ rfl (by rw [show w2.heap.size + 1 = (w2.alloc (zo q)).heap.size by simp]; exact heap_alloc_new (w2.alloc (zo q)) _) rfl rfl (by decide) (by decide) rfl ?_
       intro ga cp w6 ho6 hg6 hv6
       have hnx := HF.out.1.next HFB.out (v' := .slice (some ⟨ga, 0, none⟩) (0 + 1) cp) (ps := [q]) (by simpa [flow0, zp, yQ] using ho6) hg6 hv6
       have HNX6 := zh hnx
       have hb6 : Below (w.heap.size + 4) (w2.alloc (zo q)) w6 := (HFB.out.mono HF.out.2.z4).grown hg6 (HF.out.2.stay HFB.out).z4 (fun k hk => (HF.out.1.on.lt k hk).1)
       have HB6 := zh (HF.out.2.keep (l := [z6 I ba bc da dc ra rn rc, xS x, zo p, flwZ]) hb6)
       have hc9 : ∀ o, w6.cell? ⟨w.heap.size + 4, o, none⟩ = (#[.slice none 0 0, .slice none 0 0, .slice none 0 0, .slice none 0 0] : Array Value)[o]? := fun o => cell_of_row _ _ _ _ _ _ HNX6.out.2
       have hf9 : ∀ o, w6.frozen? ⟨w.heap.size + 4, o, none⟩ = false := fun o => frozen_of_row _ _ _ _ _ HNX6.out.2
       clear ho6 hg6 hv6 hnx hb6)))
    go_meet
    rw [fall_some HFS.out HNX.out]
    exact ⟨_, _, _, _, zh HNX6.out.1, zh (HB6.out.keep (l := [z6 I ba bc da dc ra rn rc, xS x, zo p, flwZ]) ((Below.refl _ _).setCell (p := ⟨w.heap.size + 4, 0, none⟩) (zn _) _))⟩
 case rest =>
  obtain ⟨vn, vc, vi, vt, HW, HX⟩ := hcut
  clear HF HN0 HN1 HFA HFS
  go_upto_block 0 with (first
   | (refine ldT 53 (HX.out.b1) ?_)
   | (refine ldT 47 (HX.out.b2) ?_)
   | (refine stN ?_)
   | (go_at_call 52; (with_reducible refine (HTA.out _).mono ?_); rintro e w5 ⟨rfl, hb5⟩; have HB5 := zh hb5; clear hb5))
  have HG := zh (And.intro (HW.out.below (Below.alloc HB5.out HB5.out.size (zo (zU x p).1))) (HX.out.stay (Below.alloc HB5.out HB5.out.size (zo (zU x p).1))))
  have HTP := zh (show (w5.alloc (zo (zU x p).1)).heap[w5.heap.size]? = some (zo (zU x p).1) from heap_alloc_new _ _)
  clear HW HX HB5 HTA
  obtain ⟨q, tb, hT⟩ : ∃ q tb, zU x p = (q, tb) := ⟨_, _, rfl⟩
  have HT := zh hT
  rw [hT] at HG HTP ⊢
  dsimp only at HG HTP ⊢
  obtain ⟨W, hW⟩ : ∃ W, w5.alloc (zo q) = W := ⟨_, rfl⟩
  rw [hW] at HG HTP ⊢
  clear hT hW
  go_cut [] (fun wx => ∃ vn vc vi vt, Hid (yY (w.heap.size + 4) (yU I x p) (w.heap.size + 4) vn vc vi vt wx) ∧ Hid (Bx [z6 I ba bc da dc ra rn rc, xS x, zo p, flwZ] w wx))
  case first =>
   have hc1 := fun o => cell_of_row W (w.heap.size + 1) o _ _ _ HG.out.2.b1
   have hft := (fall_len x p).1
   have hf2 := (fall_len x p).2
   have HLN := zh (And.intro hft hf2)
   clear hft hf2
   go_upto_region 9 with fail
   go_cut [38] (fun s wx => ∃ b : Bool, s = .bool b ∧ Hid (b = decide (x.op = 130 ∨ x.op = 132)) ∧ wx = W)
   case first =>
    by_cases h1 : x.op = 130
    ·have e1 : (x.op == 130) = true := by simp [h1]
     have HD := zh (show true = decide (x.op = 130 ∨ x.op = 132) by simp [h1])
     clear h1
     go_wp2_with fail
     go_meet
     exact ⟨_, rfl, HD, rfl⟩
    ·by_cases h2 : x.op = 132
     ·have e1 : (x.op == 130) = false := by simp [h1]
      have e2 : (x.op == 132) = true := by simp [h2]
      have HD := zh (show true = decide (x.op = 130 ∨ x.op = 132) by simp [h2])
      clear h1 h2
      go_wp2_with fail
      go_meet
      exact ⟨_, rfl, HD, rfl⟩
     ·have e1 : (x.op == 130) = false := by simp [h1]
      have e2 : (x.op == 132) = false := by simp [h2]
      have HD := zh (show false = decide (x.op = 130 ∨ x.op = 132) by simp [h1, h2])
      clear h1 h2
      go_wp2_with fail
      go_meet
      exact ⟨_, rfl, HD, rfl⟩
   case rest =>
    obtain ⟨b1, rfl, HD1, rfl⟩ := hcut
    cases b1 with
    | true =>
     cases tb with
     | true =>
      have HCL := zh (show (zR x p).cl.length ≤ 1000 by rw [fall_cl x p]; simp)
      have hcf := fun o => cell_of_row wc (w.heap.size + 4) o _ _ _ HG.out.1.blk
      have HFB := zh (Below.refl wc.heap.size wc)
      go_wp2_with (first
       | (refine ldT 47 (HTP.out) ?_)
       | (at_builtin; go_must
        (refine zJ (.tmp 49) (.tmp 51) 40 47 rfl 2 16 _ y7 Tryz.underlying40 rfl (by decide) (by decide) (w.heap.size + 4) (Nat.le_trans HG.out.2.z4 (by simp)) vc (zR x p).cl.length (zp (zR x p).cl) rfl (HG.out.1.oc.alloc _) (Nat.le_trans HCL.out (by decide)) wc.heap.size 1 _ _ _ rfl (heap_alloc_new wc _) rfl rfl (by decide) (by decide) rfl ?_
         intro ga cp w6 ho6 hg6 hv6
         have hb0 := (Below.refl wc.heap.size wc).alloc (zn _) (zo q)
         have hnx := HG.out.1.call hb0 (v' := .slice (some ⟨ga, 0, none⟩) ((zR x p).cl.length + 1) cp) (ps := [q]) (by simpa [zp, yQ] using ho6) hg6 hv6
         have HNX6 := zh hnx
         have hb6 : Below (w.heap.size + 4) wc w6 := (hb0.mono HG.out.2.z4).grown hg6 (Nat.le_trans HG.out.2.z4 (by simp)) (fun k hk => (HG.out.1.oc.lt k hk).1)
         have HB6 := zh (HG.out.2.keep (l := [z6 I ba bc da dc ra rn rc, xS x, zo p, flwZ]) hb6)
         have hc9 : ∀ o, w6.cell? ⟨w.heap.size + 4, o, none⟩ = (#[vn, vc, vi, vt] : Array Value)[o]? := fun o => cell_of_row _ _ _ _ _ _ HNX6.out.2
         have hf9 : ∀ o, w6.frozen? ⟨w.heap.size + 4, o, none⟩ = false := fun o => frozen_of_row _ _ _ _ _ HNX6.out.2
         clear ho6 hg6 hv6 hnx hb6 hb0)))
      go_meet
      rw [fs_call HT.out HD1.out rfl]
      exact ⟨_, _, _, _, zh HNX6.out.1, zh (HB6.out.keep (l := [z6 I ba bc da dc ra rn rc, xS x, zo p, flwZ]) ((Below.refl _ _).setCell (p := ⟨w.heap.size + 4, 1, none⟩) (zn _) _))⟩
     | false =>
      have HI := zh (jj (w.heap.size + 4) (zR x p) { zR x p with xb := true } 42 (w.heap.size + 4) wc vn vc vi vt HG.out.1 HG.out.2.z4 rfl rfl rfl (ins_bank (zR x p)))
      go_wp2_with (first | (go_at_call 51; (with_reducible refine HI.out.mono ?_); rintro e w8 ⟨rfl, un, uc, ui, ut, hx8, hr8, ht8⟩; have HX8 := zh hx8; have HB8 := zh (HG.out.2.flow rfl HG.out.1 ht8); clear hx8 hr8 ht8))
      go_meet
      rw [fs_callno HT.out HD1.out rfl]
      exact ⟨_, _, _, _, HX8, HB8⟩
    | false =>
     go_upto_region 13 with fail
     go_cut [55] (fun s wx => ∃ b : Bool, s = .bool b ∧ Hid (b = decide ((96 ≤ x.op ∧ x.op ≤ 129) ∨ x.op = 131)) ∧ wx = wc)
     case first =>
      by_cases h2 : 96 ≤ x.op
      ·by_cases h3 : x.op ≤ 129
       ·have HD := zh (show true = decide ((96 ≤ x.op ∧ x.op ≤ 129) ∨ x.op = 131) by simp [h2, h3])
        go_wp2_with fail
        go_meet
        exact ⟨_, rfl, HD, rfl⟩
       ·by_cases h1 : x.op = 131
        ·have e1 : (x.op == 131) = true := by simp [h1]
         have HD := zh (show true = decide ((96 ≤ x.op ∧ x.op ≤ 129) ∨ x.op = 131) by simp [h1])
         clear h1
         go_wp2_with fail
         go_meet
         exact ⟨_, rfl, HD, rfl⟩
        ·have e1 : (x.op == 131) = false := by simp [h1]
         have HD := zh (show false = decide ((96 ≤ x.op ∧ x.op ≤ 129) ∨ x.op = 131) by simp [h1, h3])
         clear h1
         go_wp2_with fail
         go_meet
         exact ⟨_, rfl, HD, rfl⟩
      ·by_cases h1 : x.op = 131
       ·exact absurd (by omega) h2
       ·have e1 : (x.op == 131) = false := by simp [h1]
        have HD := zh (show false = decide ((96 ≤ x.op ∧ x.op ≤ 129) ∨ x.op = 131) by simp [h1, h2])
        clear h1
        go_wp2_with fail
        go_meet
        exact ⟨_, rfl, HD, rfl⟩
     case rest =>
      obtain ⟨b2, rfl, HD2, rfl⟩ := hcut
      have HTO := zh (rto_any (w.heap.size + 4) (zR x p) (w.heap.size + 4) (q, tb) wc vn vc vi vt HG.out.1 HG.out.2.z4 (by have := HLN.out.1; omega))
      cases b2 with
      | true =>
       go_wp2_with (first
        | (refine ldT 47 (HTP.out) ?_)
        | (go_at_call 53; (with_reducible refine HTO.out.mono ?_); rintro e w6 ⟨rfl, un, uc, ui, ut, hx6, hr6, ht6⟩; have HX6 := zh hx6; have HB6 := zh (HG.out.2.flow rfl HG.out.1 ht6); clear hx6 hr6 ht6))
       go_meet
       rw [fs_jump HT.out HD1.out HD2.out]
       exact ⟨_, _, _, _, HX6, HB6⟩
      | false =>
       by_cases h3 : x.op = 133
       ·have e3 : (x.op == 133) = true := by simp [h3]
        have HOP := zh h3
        clear h3
        have HV2 := zh (fun W (h : Below w.heap.size w W) => HV.out.below h)
        go_wp2_with (first
         | (refine ldT 47 (HTP.out) ?_)
         | (refine ldT 31 (HB6.out.b0) ?_)
         | (refine ldT 53 (HB6.out.b1) ?_)
         | (refine ldT 47 (HB6.out.b2) ?_)
         | (go_at_call 53; (with_reducible refine HTO.out.mono ?_); rintro e w6 ⟨rfl, un, uc, ui, ut, hx6, hr6, ht6⟩; have HX6 := zh hx6; have HB6 := zh (HG.out.2.flow rfl HG.out.1 ht6); clear hx6 hr6 ht6
            have HTB := zh (rtable_any I hI ba bc da dc ra rn rc x hb p p0 p1 (w.heap.size + 4) (toF (zR x p) (optT (q, tb))) (w.heap.size + 4) w w6 un uc ui ut HX6.out HB6.out.z4 HV.out HB6.out.bb (by omega) (by have h2 := (toF_len (zR x p) (optT (q, tb))).1; have h3 := HLN.out.1; omega) (by have h2 := (toF_len (zR x p) (optT (q, tb))).2; have h3 := HLN.out.2; rw [h2, h3]; simp)))
         | (go_at_call 54; (with_reducible refine HTB.out.mono ?_); rintro e w7 ⟨rfl, vn7, vc7, vi7, vt7, hx7, hr7, ht7⟩; have HX7 := zh hx7; have HB7 := zh (HB6.out.flow rfl HX6.out ht7); clear hx7 hr7 ht7))
        go_meet
        rw [fs_table HT.out HD1.out HD2.out HOP.out]
        exact ⟨_, _, _, _, HX7, HB7⟩
       ·have e3 : (x.op == 133) = false := by simp [h3]
        by_cases h4 : x.op = 134
        ·have e4 : (x.op == 134) = true := by simp [h4]
         have HD := zh (fs_134 (I := I) (p := p) HD1.out HD2.out h4)
         clear h3 h4
         have HI := zh (jj (w.heap.size + 4) (zR x p) { zR x p with xt := true } 41 (w.heap.size + 4) wc vn vc vi vt HG.out.1 HG.out.2.z4 rfl rfl rfl (ins_table (zR x p)))
         go_wp2_with (first | (go_at_call 51; (with_reducible refine HI.out.mono ?_); rintro e w8 ⟨rfl, un, uc, ui, ut, hx8, hr8, ht8⟩; have HX8 := zh hx8; have HB8 := zh (HG.out.2.flow rfl HG.out.1 ht8); clear hx8 hr8 ht8))
         go_meet
         rw [HD.out]
         exact ⟨_, _, _, _, HX8, HB8⟩
        ·have e4 : (x.op == 134) = false := by simp [h4]
         by_cases h5 : x.op = 145
         ·have e5 : (x.op == 145) = true := by simp [h5]
          have hc7 := fun o => cell_of_row wc (w.heap.size + 1) o _ _ _ HG.out.2.b1
          by_cases h6 : x.imm = 0
          ·have e6 : (x.imm == 0) = true := by simp [h6]
           have HD := zh (fs_145 (I := I) (p := p) HD1.out HD2.out ⟨h5, h6⟩)
           clear h3 h4 h5 h6
           have HI := zh (jj (w.heap.size + 4) (zR x p) { zR x p with xb := true } 42 (w.heap.size + 4) wc vn vc vi vt HG.out.1 HG.out.2.z4 rfl rfl rfl (ins_bank (zR x p)))
           go_wp2_with (first | (go_at_call 51; (with_reducible refine HI.out.mono ?_); rintro e w8 ⟨rfl, un, uc, ui, ut, hx8, hr8, ht8⟩; have HX8 := zh hx8; have HB8 := zh (HG.out.2.flow rfl HG.out.1 ht8); clear hx8 hr8 ht8))
           go_meet
           rw [HD.out]
           exact ⟨_, _, _, _, HX8, HB8⟩
          ·have e6 : (x.imm == 0) = false := by simp [h6]
           have HD := zh (fs_else (I := I) (p := p) HD1.out HD2.out h3 h4 (fun h => h6 h.2))
           clear h3 h4 h5 h6
           go_wp2_with fail
           go_meet
           rw [HD.out]
           exact ⟨_, _, _, _, zh HG.out.1, zh HG.out.2⟩
         ·have e5 : (x.op == 145) = false := by simp [h5]
          have HD := zh (fs_else (I := I) (p := p) HD1.out HD2.out h3 h4 (fun h => h5 h.1))
          clear h3 h4 h5
          go_wp2_with fail
          go_meet
          rw [HD.out]
          exact ⟨_, _, _, _, zh HG.out.1, zh HG.out.2⟩
  case rest =>
   obtain ⟨un, uc, ui, ut, HW2, HX2⟩ := hcut
   obtain ⟨An, cn, rfl⟩ := own_sl HW2.out.on
   obtain ⟨Ac, cc, rfl⟩ := own_sl HW2.out.oc
   obtain ⟨Ai, ci, rfl⟩ := own_sl HW2.out.oi
   obtain ⟨At, ct, rfl⟩ := own_sl HW2.out.ot
   clear HG HTP HT
   go_wp2_with (first
    | (refine ldT 62 (HW2.out.blk) ?_)
    | (refine stR (HX2.out.b3) ?_))
   refine bodyPost_ret (results_cell_row (cs := #[.slice An (yU I x p).nx.length cn, .slice Ac (yU I x p).cl.length cc, .slice Ai (yU I x p).iss.length ci, .slice At (yU I x p).tb.length ct]) (fr := (0, 0)) Tryz.results23 _ _ (w.heap.size + 3) 62 _ ?_ (setRow_heap _ _ _ _ _ _ HX2.out.b3) Tryz.underlying62 rfl (by kernel_rfl)) rfl ?_
   ·rfl
   ·have ht := (zg.refl (fun k => k = w.heap.size + 3) wc).setRow #[.slice An (yU I x p).nx.length cn, .slice Ac (yU I x p).cl.length cc, .slice Ai (yU I x p).iss.length ci, .slice At (yU I x p).tb.length ct] (fun _ => rfl)
    have hne : ∀ {B' s n : Nat} {T : TypeId} {v : Value} {xs : List Value}, wc.ownsRow B' T s v n xs → B' = w.heap.size + 4 → ∀ k, v.ownBlock = some k → ¬ k = w.heap.size + 3 := fun h e k hk => by have := (h.lt k hk).1; omega
    exact ⟨⟨_, _, _, _, rfl, (zi HW2.out.on ht (hne HW2.out.on rfl)).mono (by omega), (zi HW2.out.oc ht (hne HW2.out.oc rfl)).mono (by omega), (zi HW2.out.oi ht (hne HW2.out.oi rfl)).mono (by omega), (zi HW2.out.ot ht (hne HW2.out.ot rfl)).mono (by omega)⟩, below_setRow HX2.out.bb (by omega) _⟩
end Go.Proofs.YteofmaiojepdkaaGreat
namespace Go.Proofs.YteofmaiojepdkaaGreat
open Go Go.RowKit Go.Maps Go.Sort
theorem key_any (p : zb) (h1 : 0 ≤ p.bank ∧ p.bank < 64) (h2 : 0 ≤ p.addr ∧ p.addr < 65536) (w : World) : Calls Tryz.prog 45 #[.agg #[.int .i64 p.bank, .int .u16 p.addr]] w fun e w' => e = .returned (.int .i64 (keyI p)) ∧ Below w.heap.size w w' := by
 have HX := zh (Bx.one w (zo p))
 have HK := zh (show keyI p = p.bank * 8192 + p.addr from rfl)
 have hc := fun o => cell_of_row _ w.heap.size o _ _ _ HX.out.b0
 have e1 : IntKind.i64.wrap (p.bank * 8192) = p.bank * 8192 := IntWalk.i64_in _ (by omega)
 have e2 : IntKind.i64.wrap (p.bank * 8192 + p.addr) = p.bank * 8192 + p.addr := IntWalk.i64_in _ (by omega)
 have e3 : IntKind.i64.wrap p.addr = p.addr := IntWalk.i64_in _ (by omega)
 go_enter Tryz.func45, Tryz.ntmps45
 go_wp2_with fail
 go_ret
 exact ⟨by rw [HK.out]; rfl, HX.out.bb⟩
theorem of_any (k : Nat) (hk : k < 524288) (w : World) : Calls Tryz.prog 46 #[.int .i64 k] w fun e w' => e = .returned (.agg #[.int .i64 (ofK k).bank, .int .u16 (ofK k).addr]) ∧ Below w.heap.size w w' := by
 have e1 : (k : Int).tdiv 8192 = ((k / 8192 : Nat) : Int) := by rw [Int.tdiv_eq_ediv_of_nonneg (by omega)]; omega
 have e2 : (k : Int).tmod 8192 = ((k % 8192 : Nat) : Int) := by rw [Int.tmod_eq_emod_of_nonneg (by omega)]; omega
 have e3 : IntKind.u16.wrap ((k % 8192 : Nat) : Int) = ((k % 8192 : Nat) : Int) := by unfold IntKind.wrap; simp [IntKind.bits, IntKind.signed]; omega
 have HG := zh (heap_alloc_new w (zo ⟨0, 0⟩))
 go_enter Tryz.func46, Tryz.ntmps46
 go_wp2_with (first | (refine stR (HG.out) ?_))
 refine bodyPost_ret (results_cell_row (cs := #[.int .i64 ((k / 8192 : Nat) : Int), .int .u16 ((k % 8192 : Nat) : Int)]) (fr := (0, 0)) Tryz.results46 _ _ w.heap.size 47 _ ?_ (setRow_heap _ _ _ _ _ _ HG.out) Tryz.underlying47 rfl (by kernel_rfl)) rfl ?_
 ·rfl
 ·exact ⟨rfl, below_setRow ((Below.refl _ _).alloc (zn _) _) (zn _) _⟩
def OneP (I : zk) (e : zb) (w : World) (en : Ending) (w' : World) : Prop := ∃ r c l s, en = .returned (rtnV e r.thunk r.dest c l s) ∧ yu I e r ∧ RtV I w.heap.size r c l s w' ∧ Below w.heap.size w w'
abbrev rtn00 : Obj := xu ⟨0, 0⟩ false ⟨0, 0⟩ (.slice none 0 0) (.slice none 0 0) (.slice none 0 0)
abbrev rtn01 (e : zb) : Obj := xu e false ⟨0, 0⟩ (.slice none 0 0) (.slice none 0 0) (.slice none 0 0)
abbrev fnd5 (a : Ins × Int) : Obj := .cells #[.int .i64 a.1.op, .int .i64 a.1.d, .int .i64 a.1.s, .int .u16 a.1.imm, .int .u16 a.1.aux, .int .i64 a.1.bank, .int .i64 a.1.size, .int .i64 a.2] 67
set_option maxRecDepth 100000 in
set_option maxHeartbeats 4000000 in
theorem one_thunk (I : zk) (hI : I.Ok) (ba : Option Addr) (bc : Nat) (da : Option Addr) (dc : Nat) (ra : Option Addr) (rn rc : Nat) (e : zb) (p0 : 0 ≤ e.addr) (p1 : e.addr < 65536) (ht : yS I e) (w : World) (hV : yG w I ba bc da dc) :
  Calls Tryz.prog 82 #[.agg #[.slice ba I.banks.length bc, .int .u16 I.entry, .int .u16 I.vector, .slice da I.data.length dc, .slice ra rn rc], .agg #[.int .i64 e.bank, .int .u16 e.addr]] w (OneP I e w) := by
 have HV := zh hV
 have HAT := zh (fun W hv => rat_any I hI ba bc da dc ra rn rc e p0 p1 W hv)
 have HTH := zh ht
 have e1 : ((atI I e).2 == 0) = true := by have := ht.1; unfold okI at this; simpa using this
 have e2 : ((atI I e).1.op == 131) = true := by simpa using ht.2
 have hib := ins_bd ht.1
 have HTA := zh (fun W => rtarget_any (atI I e).1 hib.1 e p0 p1 W)
 have hbx := (Bx.four w (z6 I ba bc da dc ra rn rc) (zo e) rtn00 (rtn01 e))
 have HB := zh hbx
 have HB3 := zh (Bx.three w (z6 I ba bc da dc ra rn rc) (zo e) rtn00)
 generalize ha : atI I e = a at *
 have HAA := zh ha
 clear hV ht ha hib hbx
 go_enter Tryz.func82, Tryz.ntmps82
 go_upto_region 3 with (first
  | (refine ldT 47 (HB3.out.b1) ?_)
  | (refine ldT 47 (HB.out.b1) ?_)
  | (refine ldT 31 (HB.out.b0) ?_)
  | (refine stN ?_)
  | (go_at_call 25; (with_reducible refine (HAT.out _ (HV.out.below HB.out.bb)).mono ?_); rintro e2 w2 ⟨rfl, hb2⟩; have HB2 := zh hb2; clear hb2))
 (refine pts ?_)
 have hw3 : Below w2.heap.size w2 (w2.alloc (fnd5 a)) := (Below.refl _ _).alloc (zn _) _
 have HX := zh ((HB.out.stay HB2.out).stay hw3)
 have hf3 : (w2.alloc (fnd5 a)).heap[w2.heap.size]? = some (fnd5 a) := heap_alloc_new _ _
 have HZ := zh (show w.heap.size + 4 ≤ w2.heap.size from (HB.out.stay HB2.out).z)
 obtain ⟨w3, hw3e⟩ : ∃ w3, w2.alloc (fnd5 a) = w3 := ⟨_, rfl⟩
 rw [hw3e] at HX hf3 ⊢
 have HF := zh hf3
 clear hf3 hw3 hw3e HB HB3 HB2 HAT
 have hc3 := fun o => cell_of_row w3 w2.heap.size o _ _ _ HF.out
 have hc4 := fun o => cell_of_row w3 (w.heap.size + 3) o _ _ _ HX.out.b3
 have hf4 := fun o => frozen_of_row w3 (w.heap.size + 3) o _ _ HX.out.b3
 go_upto_region 5 with fail
 clear hc3 hc4 hf4
 obtain ⟨w4, hw4⟩ : ∃ w4, w3.setCell ⟨w.heap.size + 3, 2, none⟩ (.bool true) = w4 := ⟨_, rfl⟩
 have hz := HZ.out
 have H1 : Hid (w4.heap[w.heap.size + 1]? = some (zo e)) := zh (by rw [← hw4, heap_setCell_other (by omega)]; exact HX.out.b1)
 have H2 : Hid (w4.heap[w.heap.size + 2]? = some rtn00) := zh (by rw [← hw4, heap_setCell_other (by omega)]; exact HX.out.b2)
 have HF : Hid (w4.heap[w2.heap.size]? = some (fnd5 a)) := zh (by rw [← hw4, heap_setCell_other (by omega)]; exact HF.out)
 have H3 : Hid (w4.heap[w.heap.size + 3]? = some (xu e true ⟨0, 0⟩ (.slice none 0 0) (.slice none 0 0) (.slice none 0 0))) := zh (by rw [← hw4]; exact heap_setCell_same HX.out.b3 (i := 2) (.bool true))
 have HB4 : Hid (Below w.heap.size w w4) := zh (by rw [← hw4]; exact HX.out.bb.setCell (p := ⟨w.heap.size + 3, 2, none⟩) (by show w.heap.size ≤ w.heap.size + 3; omega) _)
 rw [hw4]
 clear hw4 hz HX
 have hc3 := fun o => cell_of_row w4 w2.heap.size o _ _ _ HF.out
 generalize hT : zU a.1 e = T at *
 have HTE := zh hT
 clear hT
 go_upto_region 6 with (first
  | (refine ldT 47 (H1.out) ?_)
  | (refine lmT 53 ([.int .i64 a.1.op, .int .i64 a.1.d, .int .i64 a.1.s, .int .u16 a.1.imm, .int .u16 a.1.aux, .int .i64 a.1.bank, .int .i64 a.1.size]) (HF.out) (rfl) ?_)
  | (refine wpList_store_at rfl _ _ _ rfl _ _ (by rfl) _ (by rfl) _ _ (H35.out) _ (by rfl) ?_ ?_ ?_ (#[.int .i64 e.bank, .int .u16 e.addr, .bool true, .int .i64 T.1.bank, .int .u16 T.1.addr, .slice none 0 0, .slice none 0 0, .slice none 0 0]) (by rfl) ?_; rfl; kernel_rfl; kernel_rfl)
  | (go_at_call 52; (with_reducible refine (HTA.out _).mono ?_); rintro e5 w5 ⟨rfl, hb5⟩; have HB5 := zh hb5; have H35 := zh (za hb5 H3.out); clear hb5))
 clear hc3
 have hz := HZ.out
 have hb5s := HB5.out.size
 obtain ⟨w6, hw6⟩ : ∃ w6, w5.setRow (w.heap.size + 3) #[.int .i64 e.bank, .int .u16 e.addr, .bool true, .int .i64 T.1.bank, .int .u16 T.1.addr, .slice none 0 0, .slice none 0 0, .slice none 0 0] = w6 := ⟨_, rfl⟩
 have hz4 : w2.heap.size < w4.heap.size := (Array.getElem?_eq_some_iff.1 HF.out).1
 have H1 : Hid (w6.heap[w.heap.size + 1]? = some (zo e)) := zh (by rw [← hw6, ym (by omega)]; exact za HB5.out H1.out)
 have H2 : Hid (w6.heap[w.heap.size + 2]? = some rtn00) := zh (by rw [← hw6, ym (by omega)]; exact za HB5.out H2.out)
 have HF : Hid (w6.heap[w2.heap.size]? = some (fnd5 a)) := zh (by rw [← hw6, ym (by omega)]; exact za HB5.out HF.out)
 have H3 : Hid (w6.heap[w.heap.size + 3]? = some (xu e true T.1 (.slice none 0 0) (.slice none 0 0) (.slice none 0 0))) := zh (by rw [← hw6]; exact setRow_heap _ _ _ _ _ _ H35.out)
 have HB6 : Hid (Below w.heap.size w w6) := zh (by rw [← hw6]; exact below_setRow (HB4.out.trans (HB5.out.mono HB4.out.size)) (by omega) _)
 have HZ6 : Hid (w.heap.size + 4 ≤ w6.heap.size) := zh (by have := (Array.getElem?_eq_some_iff.1 HF.out).1; omega)
 rw [hw6]
 clear hw6 HB4 HB5 H35 hz4 hb5s
 have hb7 : Below w6.heap.size w6 (w6.alloc (itmB e a.1)) := (Below.refl _ _).alloc (zn _) _
 have H37 := zh (za hb7 H3.out)
 have hc7 := fun o => cell_of_row _ (w.heap.size + 3) o _ _ _ H37.out
 have hf7 := fun o => frozen_of_row _ (w.heap.size + 3) o _ _ H37.out
 go_upto_region 7 with (first
  | (refine ldT 47 (H1.out) ?_)
  | (refine lmT 53 ([.int .i64 a.1.op, .int .i64 a.1.d, .int .i64 a.1.s, .int .u16 a.1.imm, .int .u16 a.1.aux, .int .i64 a.1.bank, .int .i64 a.1.size]) (HF.out) (rfl) ?_))
 have HB7 := zh hb7
 clear hb7 hc7 hf7
 have hz6 := HZ6.out
 obtain ⟨w8, hw8⟩ : ∃ w8, (w6.alloc (itmB e a.1)).setCell ⟨w.heap.size + 3, 5, none⟩ (.slice (some ⟨w6.heap.size, 0, none⟩) 1 1) = w8 := ⟨_, rfl⟩
 have H2 : Hid (w8.heap[w.heap.size + 2]? = some rtn00) := zh (by rw [← hw8, heap_setCell_other (by omega)]; exact za HB7.out H2.out)
 have H3 : Hid (w8.heap[w.heap.size + 3]? = some (xu e true T.1 (.slice (some ⟨w6.heap.size, 0, none⟩) 1 1) (.slice none 0 0) (.slice none 0 0))) := zh (by rw [← hw8]; exact heap_setCell_same H37.out (i := 5) _)
 have HN : Hid (w8.heap[w6.heap.size]? = some (itmB e a.1)) := zh (by rw [← hw8, heap_setCell_other (by omega)]; exact heap_alloc_new _ _)
 have HB8 : Hid (Below w.heap.size w w8) := zh (by rw [← hw8]; exact (HB6.out.trans (HB7.out.mono HB6.out.size)).setCell (p := ⟨w.heap.size + 3, 5, none⟩) (by show w.heap.size ≤ w.heap.size + 3; omega) _)
 rw [hw8]
 clear hw8 HB6 HB7 H37 H1 HF
 go_wp2_with (first
  | (refine ldT 50 (H3.out) ?_)
  | (refine stR (H2.out) ?_))
 refine bodyPost_ret (results_cell_row (cs := #[.int .i64 e.bank, .int .u16 e.addr, .bool true, .int .i64 T.1.bank, .int .u16 T.1.addr, .slice (some ⟨w6.heap.size, 0, none⟩) 1 1, .slice none 0 0, .slice none 0 0]) (fr := (0, 0)) Tryz.results82 _ _ (w.heap.size + 2) 50 _ ?_ (setRow_heap _ _ _ _ _ _ H2.out) Tryz.underlying50 rfl (by kernel_rfl)) rfl ?_
 ·rfl
 ·refine ⟨⟨e, true, T.1, [e], [], []⟩, _, _, _, rfl, ?_, ⟨?_, World.ownsRow_nil _ _ _ _, World.ownsRow_nil _ _ _ _⟩, below_setRow HB8.out (by omega) _⟩
  ·have h := yu.ofThunk HTH.out
   rwa [HAA.out, HTE.out] at h
  ·have h9 : x9 I [e] = [.int .i64 e.bank, .int .u16 e.addr, .int .i64 a.1.op, .int .i64 a.1.d, .int .i64 a.1.s, .int .u16 a.1.imm, .int .u16 a.1.aux, .int .i64 a.1.bank, .int .i64 a.1.size] := by
    unfold x9
    rw [List.flatMap_cons, List.flatMap_nil, List.append_nil]
    unfold itmL
    rw [HAA.out]
   rw [h9]
   exact own_blkS (by omega) (by rw [ym (by omega)]; exact HN.out)
end Go.Proofs.YteofmaiojepdkaaGreat
