/- package scan: follow, walked. Condition: addresses are words; the image's banks have 4096 bytes; the instruction's count of a table is below 256. -/
import Derived.Test.YteofmaiojepdkaaGreatTbSkE
set_option linter.all false
namespace Go.Proofs.YteofmaiojepdkaaGreat
open Go Go.RowKit Go.Maps
abbrev xS (x : Ins) : Obj := .cells #[.int .i64 x.op, .int .i64 x.d, .int .i64 x.s, .int .u16 x.imm, .int .u16 x.aux, .int .i64 x.bank, .int .i64 x.size] 53
def flow0 : zO := ⟨[], [], [], false, false, false⟩
def FwP (w : World) (f : zO) (e : Ending) (w' : World) : Prop := ∃ gf gi l vn vc vt, e = .returned (.pointer (some ⟨gf, 0, none⟩)) ∧ yK (w.heap.size + 3) f gf gi l vn vc vt w' ∧ Below w.heap.size w w'
theorem to_any2 (B : Nat) (f : zO) (gf gi : Nat) (t : zb × Bool) (w : World) (l : List (Int × Value)) (vn vc vt : Value) (h : yK B f gf gi l vn vc vt w) (hB : B ≤ w.heap.size) (hlen : f.nx.length ≤ 1000) :
  Calls Tryz.prog 111 #[.pointer (some ⟨gf, 0, none⟩), .agg #[.int .i64 t.1.bank, .int .u16 t.1.addr], .bool t.2] w (FlowP B (toF f (optT t)) gf gi w) := by
 obtain ⟨q, b⟩ := t
 cases b with
 | false => exact to_no B f gf gi q w l vn vc vt h hB
 | true => exact to_yes B f gf gi q w l vn vc vt h hB hlen
theorem flow_exit {f : zO} (e : Int) : e ∈ ({ f with xe := true } : zO).iss ↔ e = 45 ∨ e ∈ f.iss := by
 simp only [mem_iss]
 by_cases h : e = 45 <;> simp [h]
theorem Bx.keep {l : List Obj} {w W W' : World} (h : Bx l w W) (hb : Below (w.heap.size + l.length) W W') : Bx l w W' :=
 ⟨fun i o hi => by
  have hl := (List.getElem?_eq_some_iff.1 hi).1
  rw [hb.block _ (by omega)]
  exact h.at_ i o hi, Nat.le_trans h.z hb.size, h.bb.trans (hb.mono (by omega))⟩
theorem Bx.z3 {a b c : Obj} {w W : World} (h : Bx [a, b, c] w W) : w.heap.size + 3 ≤ W.heap.size := h.z
theorem Bx.keep3 {a b c : Obj} {w W W' : World} (h : Bx [a, b, c] w W) (hb : Below (w.heap.size + 3) W W') : Bx [a, b, c] w W' := h.keep hb
theorem fall_len (x : Ins) (p : zb) : (zR x p).nx.length ≤ 1 ∧ (zR x p).tb = [] := by
 unfold zR
 split
 ·split <;> exact ⟨by simp, rfl⟩
 ·exact ⟨by simp, rfl⟩
theorem toF_len (f : zO) (o : Option zb) : (toF f o).nx.length ≤ f.nx.length + 1 ∧ (toF f o).tb = f.tb := by
 cases o with
 | none => exact ⟨by simp [toF], rfl⟩
 | some q => exact ⟨by simp [toF], rfl⟩
theorem ent_len (I : zk) (p : zb) (f : zO) (a : Int) : (entF I p f a).nx.length ≤ f.nx.length + 1 ∧ (entF I p f a).tb.length ≤ f.tb.length + 2 := by
 unfold entF
 split
 ·split
  ·exact ⟨by simp, by simp⟩
  ·exact ⟨(toF_len _ _).1, by rw [(toF_len _ _).2]; simp⟩
 ·exact ⟨by simp, by simp⟩
theorem tab_len (I : zk) (x : Ins) (p : zb) (f : zO) : ∀ k, (tabF I x p f k).nx.length ≤ f.nx.length + k ∧ (tabF I x p f k).tb.length ≤ f.tb.length + 2 * k
 | 0 => ⟨zn _, zn _⟩
 | k + 1 => by
  have h1 := tab_len I x p f k
  have h2 := ent_len I p (tabF I x p f k) ((x.aux + 2 * k) % 65536)
  unfold tabF
  omega
theorem fall_no {x : Ins} {p : zb} (h : xZ x = false) : zR x p = flow0 := by unfold zR; rw [h]; rfl
theorem fall_none {x : Ins} {p : zb} (h : xZ x = true) (h2 : xk p x.size = none) : zR x p = { flow0 with xe := true } := by unfold zR; rw [h, h2]; rfl
theorem fall_some {x : Ins} {p q : zb} (h : xZ x = true) (h2 : xk p x.size = some q) : zR x p = toF flow0 (some q) := by unfold zR; rw [h, h2]; rfl
theorem flow0_W (B : Nat) (W : World) (gf gi : Nat) (h1 : W.heap[gf]? = some (.cells #[.slice none 0 0, .slice none 0 0, .map (some gi), .slice none 0 0] 157 (0, 0))) (h2 : W.heap[gi]? = some (yc errV [])) (hf : B ≤ gf) (hi : B ≤ gi) :
  yK B flow0 gf gi [] (.slice none 0 0) (.slice none 0 0) (.slice none 0 0) W :=
 ⟨h1, h2, (fun e => by simp [yT, flow0, zO.iss]), List.nodup_nil, World.ownsRow_nil _ _ _ _, World.ownsRow_nil _ _ _ _, World.ownsRow_nil _ _ _ _, (fun k h => by cases h), (fun k h => by cases h), hf, hi⟩
@[go_sem] theorem flow_build (g : Nat) (W : World) : (Instr.build 157 #[(2, .map (some g))]).run Tryz.prog W = .ok (.agg #[.slice none 0 0, .slice none 0 0, .map (some g), .slice none 0 0]) W := run_build W _ _ _ (by kernel_rfl)
theorem fwp_mk {w W : World} {f f' : zO} {gf gi : Nat} {l : List (Int × Value)} {vn vc vt : Value} {ol : List Obj} (h : yK (w.heap.size + 3) f gf gi l vn vc vt W) (hb : Bx ol w W) (hf : f' = f) : FwP w f' (.returned (.pointer (some ⟨gf, 0, none⟩))) W :=
 ⟨gf, gi, l, vn, vc, vt, rfl, hf ▸ h, hb.bb⟩
theorem fall_cl (x : Ins) (p : zb) : (zR x p).cl = [] := by
 unfold zR
 split
 ·split <;> rfl
 ·rfl
section
variable {I : zk} {x : Ins} {p q : zb} {tb : Bool} (hT : zU x p = (q, tb))
include hT
theorem fs_call (h : true = decide (x.op = 130 ∨ x.op = 132)) (ht : tb = true) : yU I x p = { zR x p with cl := (zR x p).cl ++ [q] } := by
 unfold yU
 rw [if_pos (by simpa using h.symm), hT, ht, fall_cl]
 rfl
theorem fs_callno (h : true = decide (x.op = 130 ∨ x.op = 132)) (ht : tb = false) : yU I x p = { zR x p with xb := true } := by
 unfold yU
 rw [if_pos (by simpa using h.symm), hT, ht]
 rfl
theorem fs_jump (h : false = decide (x.op = 130 ∨ x.op = 132)) (h2 : true = decide ((96 ≤ x.op ∧ x.op ≤ 129) ∨ x.op = 131)) : yU I x p = toF (zR x p) (optT (q, tb)) := by
 unfold yU
 rw [if_neg (by simpa using h.symm), if_pos (by simpa using h2.symm), hT]
theorem fs_table (h : false = decide (x.op = 130 ∨ x.op = 132)) (h2 : false = decide ((96 ≤ x.op ∧ x.op ≤ 129) ∨ x.op = 131)) (h3 : x.op = 133) : yU I x p = tabF I x p (toF (zR x p) (optT (q, tb))) x.bank.toNat := by
 unfold yU
 rw [if_neg (of_decide_eq_false h.symm), if_neg (of_decide_eq_false h2.symm), if_pos h3, hT]
omit hT
theorem fs_134 (h : false = decide (x.op = 130 ∨ x.op = 132)) (h2 : false = decide ((96 ≤ x.op ∧ x.op ≤ 129) ∨ x.op = 131)) (h3 : x.op = 134) : yU I x p = { zR x p with xt := true } := by
 unfold yU
 rw [if_neg (of_decide_eq_false h.symm), if_neg (of_decide_eq_false h2.symm), if_neg (by omega), if_pos h3]
theorem fs_145 (h : false = decide (x.op = 130 ∨ x.op = 132)) (h2 : false = decide ((96 ≤ x.op ∧ x.op ≤ 129) ∨ x.op = 131)) (h3 : x.op = 145 ∧ x.imm = 0) : yU I x p = { zR x p with xb := true } := by
 unfold yU
 rw [if_neg (of_decide_eq_false h.symm), if_neg (of_decide_eq_false h2.symm), if_neg (by omega), if_neg (by omega), if_pos h3]
theorem fs_else (h : false = decide (x.op = 130 ∨ x.op = 132)) (h2 : false = decide ((96 ≤ x.op ∧ x.op ≤ 129) ∨ x.op = 131)) (h3 : ¬ x.op = 133) (h4 : ¬ x.op = 134) (h5 : ¬ (x.op = 145 ∧ x.imm = 0)) : yU I x p = zR x p := by
 unfold yU
 rw [if_neg (of_decide_eq_false h.symm), if_neg (of_decide_eq_false h2.symm), if_neg h3, if_neg h4, if_neg h5]
end
set_option maxRecDepth 100000 in
set_option maxHeartbeats 4000000 in
theorem follow_any (I : zk) (hI : I.Ok) (ba : Option Addr) (bc : Nat) (da : Option Addr) (dc : Nat) (ra : Option Addr) (rn rc : Nat) (x : Ins) (hx : x.Ok) (hb : 0 ≤ x.bank ∧ x.bank < 256) (hz : 0 ≤ x.size ∧ x.size ≤ 100) (p : zb) (p0 : 0 ≤ p.addr) (p1 : p.addr < 65536) (w : World) (hV : yG w I ba bc da dc) :
  Calls Tryz.prog 79 #[.agg #[.slice ba I.banks.length bc, .int .u16 I.entry, .int .u16 I.vector, .slice da I.data.length dc, .slice ra rn rc], .agg #[.int .i64 (x).op, .int .i64 (x).d, .int .i64 (x).s, .int .u16 (x).imm, .int .u16 (x).aux, .int .i64 (x).bank, .int .i64 (x).size], .agg #[.int .i64 p.bank, .int .u16 p.addr]] w (FwP w (yU I x p)) := by
 have HV := zh hV
 have HH := zh (Bx.three w (z6 I ba bc da dc ra rn rc) (xS x) (zo p))
 have HF : yK (w.heap.size + 3) flow0 (w.heap.size + 4) (w.heap.size + 3) [] (.slice none 0 0) (.slice none 0 0) (.slice none 0 0) (((((w.alloc (z6 I ba bc da dc ra rn rc)).alloc (xS x)).alloc (zo p)).alloc (.map #[] 0)).alloc (.cells #[.slice none 0 0, .slice none 0 0, .map (some (w.heap.size + 3)), .slice none 0 0] 157)) ∧ Bx [z6 I ba bc da dc ra rn rc, xS x, zo p] w (((((w.alloc (z6 I ba bc da dc ra rn rc)).alloc (xS x)).alloc (zo p)).alloc (.map #[] 0)).alloc (.cells #[.slice none 0 0, .slice none 0 0, .map (some (w.heap.size + 3)), .slice none 0 0] 157)) := by
  have h5 := (Bx.four w (z6 I ba bc da dc ra rn rc) (xS x) (zo p) (.map #[] 0)).snoc (by simp) (.cells #[.slice none 0 0, .slice none 0 0, .map (some (w.heap.size + 3)), .slice none 0 0] 157)
  exact ⟨flow0_W _ _ _ _ (h5.at_ 4 _ rfl) (h5.at_ 3 _ rfl) (by omega) (by omega), ((HH.out.alloc _).alloc _)⟩
 have HF := zh HF
 have HFA := zh (fun W => falls_any x hx W)
 have HN0 := zh (fun (h : xk p x.size = none) W => inext_none p p0 p1 x.size (by omega) (by omega) W h)
 have HN1 := zh (fun q (h : xk p x.size = some q) W => inext_some p p0 p1 x.size (by omega) (by omega) W h)
 have HTA := zh (fun W => target_any x hx p W)
 have hmm := @run_makeMap Tryz.prog
 clear hV
 go_enter Tryz.func79, Tryz.ntmps79
 go_upto_if 18 with (first
  | (refine ldT 53 (HF.out.2.b1) ?_)
  | (go_at_call 109; (with_reducible refine (HFA.out _).mono ?_); rintro e w1 ⟨rfl, hb1⟩; have HF := zh (And.intro (HF.out.1.below hb1) (HF.out.2.stay hb1)); clear hb1))
 go_cut [] (fun wx => ∃ l vn vc vt, Hid (yK (w.heap.size + 3) (zR x p) (w.heap.size + 4) (w.heap.size + 3) l vn vc vt wx) ∧ Hid (Bx [z6 I ba bc da dc ra rn rc, xS x, zo p] w wx))
 case first =>
  have hc1 := fun o => cell_of_row w1 (w.heap.size + 1) o _ _ _ HF.out.2.b1
  cases hfs : xZ x with
  | false =>
   have HFS := zh hfs
   clear hfs
   go_wp2_with fail
   go_meet
   rw [fall_no HFS.out]
   exact ⟨_, _, _, _, zh HF.out.1, zh HF.out.2⟩
  | true =>
   have HFS := zh hfs
   clear hfs
   cases hnx : xk p x.size with
   | none =>
    have HNX := zh hnx
    have HNC := zh (HN0.out hnx)
    clear hnx HN0 HN1
    go_wp2_with (first
     | (refine ldT 47 (HF.out.2.b2) ?_)
     | (refine stN ?_)
     | (refine zZ errKey Tryz.underlying155 HM.out rfl _ _ _ rfl rfl 45 rfl (.bool true) rfl ?_; intro w3 hm3 hg3 hz3)
     | (go_at_call 110; (with_reducible refine (HNC.out _).mono ?_); rintro e w2 ⟨rfl, hb2⟩
        have HB := zh (Below.alloc hb2 hb2.size (zo ⟨0, 0⟩))
        have HF := zh (And.intro (HF.out.1.below HB.out) (HF.out.2.stay HB.out))
        have hcf := fun o => cell_of_row _ (w.heap.size + 4) o _ _ _ HF.out.1.blk
        have HM := zh HF.out.1.mp
        clear hb2))
    go_meet
    rw [fall_none HFS.out HNX.out]
    exact ⟨_, _, _, _, zh (HF.out.1.issue hm3 hg3 rfl rfl rfl flow_exit), zh (HF.out.2.keep3 ((Below.refl _ _).grown hg3 HF.out.2.z3 (fun k e => by injection e with e; rw [← e]; exact HF.out.1.bi)))⟩
   | some q =>
    have HNX := zh hnx
    have HNC := zh (HN1.out q hnx)
    clear hnx HN0 HN1
    have HTO := zh (fun W l vn vc vt (h : yK (w.heap.size + 3) flow0 (w.heap.size + 4) (w.heap.size + 3) l vn vc vt W) (hB : w.heap.size + 3 ≤ W.heap.size) => to_yes (w.heap.size + 3) flow0 (w.heap.size + 4) (w.heap.size + 3) q W l vn vc vt h hB (by simp [flow0]))
    go_wp2_with (first
     | (refine ldT 47 (HF.out.2.b2) ?_)
     | (refine ldT 47 (heap_alloc_new _ _) ?_)
     | (refine stN ?_)
     | (go_at_call 111; (with_reducible refine (HTO.out _ _ _ _ _ HF.out.1 HF.out.2.z3).mono ?_); rintro e w3 ⟨rfl, hx3, hb3⟩; have HX := zh hx3; have HB3 := zh (HF.out.2.keep3 hb3); clear hx3 hb3)
     | (go_at_call 110; (with_reducible refine (HNC.out _).mono ?_); rintro e w2 ⟨rfl, hb2⟩
        have HB := zh (Below.alloc hb2 hb2.size (zo q))
        have HF := zh (And.intro (HF.out.1.below HB.out) (HF.out.2.stay HB.out))
        clear hb2))
    go_meet
    rw [fall_some HFS.out HNX.out]
    obtain ⟨l, vn, vc, vt, hxx⟩ := HX.out
    exact ⟨_, _, _, _, zh hxx, HB3⟩
 case rest =>
  obtain ⟨l, vn, vc, vt, HW, HX⟩ := hcut
  clear HF HH HN0 HN1 HFA hmm
  have hc1 := fun o => cell_of_row wc (w.heap.size + 1) o _ _ _ HX.out.b1
  go_upto_region 8 with (first
   | (refine ldT 53 (HX.out.b1) ?_)
   | (refine ldT 47 (HX.out.b2) ?_)
   | (refine stN ?_)
   | (go_at_call 94; (with_reducible refine (HTA.out _).mono ?_); rintro e w5 ⟨rfl, hb5⟩; have HB5 := zh hb5; clear hb5))
  clear hc1
  have HG := zh (And.intro (HW.out.below (Below.alloc HB5.out HB5.out.size (zo (zU x p).1))) (HX.out.stay (Below.alloc HB5.out HB5.out.size (zo (zU x p).1))))
  have HTP : (w5.alloc (zo (zU x p).1)).heap[w5.heap.size]? = some (zo (zU x p).1) := heap_alloc_new _ _
  have HTP := zh HTP
  have HTN : ∀ k, vc.ownBlock = some k → k = w5.heap.size → False := fun k h1 h2 => by have := (HW.out.oc.lt k h1).2; have := HB5.out.size; omega
  have HTN := zh (fun (k : Nat) (h : vc.ownBlock = some w5.heap.size) => HTN _ h rfl)
  have HZ5 := zh (Nat.le_trans HX.out.z3 HB5.out.size)
  clear HW HX HB5 HTA
  obtain ⟨q, tb, hT⟩ : ∃ q tb, zU x p = (q, tb) := ⟨_, _, rfl⟩
  have HT := zh hT
  rw [hT] at HG HTP ⊢
  dsimp only at HG HTP ⊢
  obtain ⟨W, hW⟩ : ∃ W, w5.alloc (zo q) = W := ⟨_, rfl⟩
  rw [hW] at HG HTP ⊢
  clear hT hW
  have hc1 := fun o => cell_of_row W (w.heap.size + 1) o _ _ _ HG.out.2.b1
  go_upto_region 9 with fail
  go_cut [42] (fun s wx => ∃ b : Bool, s = .bool b ∧ Hid (b = decide (x.op = 130 ∨ x.op = 132)) ∧ wx = W)
  case first =>
   by_cases h1 : x.op = 130
   ·have e1 : (x.op == 130) = true := by simp [h1]
    have HD := zh (show true = decide (x.op = 130 ∨ x.op = 132) by simp [h1])
    clear h1
    go_wp2_with fail
    go_meet
    exact ⟨_, rfl, HD, rfl⟩
   ·by_cases h2 : x.op = 132
    ·have e1 : (x.op == 130) = false := by simp [h1]
     have e2 : (x.op == 132) = true := by simp [h2]
     have HD := zh (show true = decide (x.op = 130 ∨ x.op = 132) by simp [h2])
     clear h1 h2
     go_wp2_with fail
     go_meet
     exact ⟨_, rfl, HD, rfl⟩
    ·have e1 : (x.op == 130) = false := by simp [h1]
     have e2 : (x.op == 132) = false := by simp [h2]
     have HD := zh (show false = decide (x.op = 130 ∨ x.op = 132) by simp [h1, h2])
     clear h1 h2
     go_wp2_with fail
     go_meet
     exact ⟨_, rfl, HD, rfl⟩
  case rest =>
   obtain ⟨b1, rfl, HD1, rfl⟩ := hcut
   cases b1 with
   | true =>
    cases tb with
    | true =>
     go_wp2_with fail
     refine zr (S := fun W' => (∀ o, W'.cell? ⟨w.heap.size + 4, o, none⟩ = (#[vn, vc, .map (some (w.heap.size + 3)), vt] : Array Value)[o]?) ∧ ∀ o, W'.cell? ⟨w5.heap.size, o, none⟩ = (#[.int .i64 q.bank, .int .u16 q.addr] : Array Value)[o]?) [8, 9, 10] (by kernel_rfl) ⟨fun o => cell_of_row _ _ _ _ _ _ (za (Below.refl _ _).drew HG.out.1.blk), fun o => cell_of_row _ _ _ _ _ _ (za (Below.refl _ _).drew HTP.out)⟩ (fun hHeld => ?_)
     (refine tz 0 ?_)
     (refine tz 1 ?_)
     (refine tz 2 ?_)
     (refine tz 3 ?_)
     (refine tz 4 ?_)
     (refine tz 5 ?_)
     refine yx 6 rfl (fun K hK => ?_)
     go_simp
     obtain ⟨we, hwe⟩ : ∃ we, (wc.alloc (zo q)).drew = we := ⟨_, rfl⟩
     have hn : Bx [zo q] wc we := hwe ▸ (Bx.one wc (zo q)).stay (Below.refl _ _).drew
     have HN := zh hn
     have HG := zh (And.intro (HG.out.1.below hn.bb) (HG.out.2.stay hn.bb))
     have HTP := zh (za hn.bb HTP.out)
     rw [hwe]
     refine hK.out _ _ (.inr ⟨fun o => cell_of_row _ _ _ _ _ _ HG.out.1.blk, fun o => cell_of_row _ _ _ _ _ _ HTP.out⟩) ?_
     (refine pts ?_)
     clear hK K hHeld hwe hn
     refine yx 7 rfl (fun K hK => ?_)
     have hcl := fall_cl x p
     have HCL := zh (show (zR x p).cl.length ≤ 1000 by rw [hcl]; simp)
     clear hcl
     refine xq (.tmp 54) (.tmp 56) 40 47 rfl 2 16 _ y7 Tryz.underlying40 rfl (by decide) (by decide) (w.heap.size + 3) HG.out.2.z3 vc (zR x p).cl.length (zp (zR x p).cl) rfl HG.out.1.oc (Nat.le_trans HCL.out (by decide)) wc.heap.size 1 _ _ _ rfl HN.out.b0 rfl rfl (by decide) (by decide) ?_
     intro ga cp w6 ho6 hg6 hv6
     have hc6 := HG.out.1.call (Below.refl _ _) (v' := .slice (some ⟨ga, 0, none⟩) ((zR x p).cl.length + 1) cp) (ps := [q]) (by simpa [zp, yQ] using ho6) hg6 hv6
     have HC6 := zh hc6
     have hb6 : Below (w.heap.size + 3) we w6 := (Below.refl _ _).grown hg6 HG.out.2.z3 (fun k hk => (HG.out.1.oc.lt k hk).1)
     have HG6 := zh (HG.out.2.keep3 hb6)
     have h5lt : w5.heap.size < we.heap.size := (Array.getElem?_eq_some_iff.1 HTP.out).1
     have HT6 := zh ((hg6.block w5.heap.size h5lt (fun e => HTN.out 0 e.symm)).trans HTP.out)
     clear ho6 hg6 hv6 hc6 hb6 h5lt
     refine hK.out _ _ (.inr ⟨fun o => cell_of_row _ _ _ _ _ _ HC6.out.2, fun o => cell_of_row _ _ _ _ _ _ HT6.out⟩) ?_
     (refine pts ?_)
     clear hK K
     refine z8 8 ?_
     simp only [List.drop_succ_cons, List.drop_zero]
     have hc9 : ∀ o, w6.cell? ⟨w.heap.size + 4, o, none⟩ = (#[vn, vc, .map (some (w.heap.size + 3)), vt] : Array Value)[o]? := fun o => cell_of_row _ _ _ _ _ _ HC6.out.2
     have hf9 : ∀ o, w6.frozen? ⟨w.heap.size + 4, o, none⟩ = false := fun o => frozen_of_row _ _ _ _ _ HC6.out.2
     go_wp2_with fail
     go_ret
     exact fwp_mk HC6.out.1 (HG6.out.keep3 ((Below.refl _ _).setCell (p := ⟨w.heap.size + 4, 1, none⟩) (by simp) _)) (fs_call HT.out HD1.out rfl)
    | false =>
     have hcf := fun o => cell_of_row _ (w.heap.size + 4) o _ _ _ HG.out.1.blk
     have HM := zh HG.out.1.mp
     go_wp2_with (refine zZ errKey Tryz.underlying155 HM.out rfl _ _ _ rfl rfl 42 rfl (.bool true) rfl ?_; intro w3 hm3 hg3 hz3)
     go_ret
     exact fwp_mk (HG.out.1.issue (f' := { zR x p with xb := true }) hm3 hg3 rfl rfl rfl flow_bank) (HG.out.2.keep3 ((Below.refl _ _).grown hg3 HG.out.2.z3 (fun k e => by injection e with e; rw [← e]; exact HG.out.1.bi))) (fs_callno HT.out HD1.out rfl)
   | false =>
    go_upto_region 13 with fail
    go_cut [64] (fun s wx => ∃ b : Bool, s = .bool b ∧ Hid (b = decide ((96 ≤ x.op ∧ x.op ≤ 129) ∨ x.op = 131)) ∧ wx = wc)
    case first =>
     by_cases h1 : x.op = 131
     ·have e1 : (x.op == 131) = true := by simp [h1]
      have HD := zh (show true = decide ((96 ≤ x.op ∧ x.op ≤ 129) ∨ x.op = 131) by simp [h1])
      clear h1
      go_wp2_with fail
      go_meet
      exact ⟨_, rfl, HD, rfl⟩
     ·have e1 : (x.op == 131) = false := by simp [h1]
      by_cases h2 : 96 ≤ x.op
      ·by_cases h3 : x.op ≤ 129
       ·have HD := zh (show true = decide ((96 ≤ x.op ∧ x.op ≤ 129) ∨ x.op = 131) by simp [h2, h3])
        clear h1
        go_wp2_with fail
        go_meet
        exact ⟨_, rfl, HD, rfl⟩
       ·have HD := zh (show false = decide ((96 ≤ x.op ∧ x.op ≤ 129) ∨ x.op = 131) by simp [h1, h3])
        clear h1
        go_wp2_with fail
        go_meet
        exact ⟨_, rfl, HD, rfl⟩
      ·have HD := zh (show false = decide ((96 ≤ x.op ∧ x.op ≤ 129) ∨ x.op = 131) by simp [h1, h2])
       clear h1
       go_wp2_with fail
       go_meet
       exact ⟨_, rfl, HD, rfl⟩
    case rest =>
     obtain ⟨b2, rfl, HD2, rfl⟩ := hcut
     have HTO := zh (to_any2 (w.heap.size + 3) (zR x p) (w.heap.size + 4) (w.heap.size + 3) (q, tb) wc l vn vc vt HG.out.1 HG.out.2.z3 (by have := (fall_len x p).1; omega))
     cases b2 with
     | true =>
      go_wp2_with (first
       | (refine ldT 47 (HTP.out) ?_)
       | (go_at_call 111; (with_reducible refine HTO.out.mono ?_); rintro e w6 ⟨rfl, hx6, hb6⟩; have HX6 := zh hx6; have HB6 := zh (HG.out.2.keep3 hb6); clear hx6 hb6))
      go_ret
      obtain ⟨l6, vn6, vc6, vt6, h6⟩ := HX6.out
      exact fwp_mk h6 HB6.out (fs_jump HT.out HD1.out HD2.out)
     | false =>
      by_cases h3 : x.op = 133
      ·have e3 : (x.op == 133) = true := by simp [h3]
       have HOP := zh h3
       clear h3
       have HV2 := zh (fun W (h : Below w.heap.size w W) => HV.out.below h)
       have HEN := zh (fun (k : Nat) W l vn vc vt (h : yK (w.heap.size + 3) (tabF I x p (toF (zR x p) (optT (q, tb))) k) (w.heap.size + 4) (w.heap.size + 3) l vn vc vt W) (hbx : Bx [z6 I ba bc da dc ra rn rc, xS x, zo p] w W) (hk : k ≤ 255) =>
        entry_any I hI ba bc da dc ra rn rc p p0 p1 ((x.aux + 2 * k) % 65536) (by omega) (by omega) (w.heap.size + 3) (tabF I x p (toF (zR x p) (optT (q, tb))) k) (w.heap.size + 4) (w.heap.size + 3) W l vn vc vt h hbx.z3 (HV.out.below hbx.bb)
         (by have h1 := (tab_len I x p (toF (zR x p) (optT (q, tb))) k).1; have h2 := (toF_len (zR x p) (optT (q, tb))).1; have h3 := (fall_len x p).1; omega)
         (by have h1 := (tab_len I x p (toF (zR x p) (optT (q, tb))) k).2; have h2 := (toF_len (zR x p) (optT (q, tb))).2; have h3 := (fall_len x p).2; rw [h2, h3] at h1; simp at h1; omega))
       go_upto_region 17 with (first
        | (refine ldT 47 (HTP.out) ?_)
        | (go_at_call 111; (with_reducible refine HTO.out.mono ?_); rintro e w6 ⟨rfl, hx6, hb6⟩; have HX6 := zh hx6; have HB6 := zh (HG.out.2.keep3 hb6); clear hx6 hb6))
       have hc6 := fun o => cell_of_row w6 (w.heap.size + 1) o _ _ _ HB6.out.b1
       go_wp2_with fail
       clear hc6
       go_loopw [88] (fun s88 wr => ∃ k : Nat, (k : Int) ≤ x.bank ∧ s88 = .int .i64 k ∧ Hid (∃ l vn vc vt, yK (w.heap.size + 3) (tabF I x p (toF (zR x p) (optT (q, tb))) k) (w.heap.size + 4) (w.heap.size + 3) l vn vc vt wr) ∧ Hid (Bx [z6 I ba bc da dc ra rn rc, xS x, zo p] w wr)) (fun s88 _ => x.bank.toNat - (intOf s88).toNat)
       case atStart => exact ⟨0, by omega, rfl, HX6, HB6⟩
       case round =>
        obtain ⟨k, hk, rfl, HXR, HBR⟩ := hrel
        by_cases hlt : (k : Int) < x.bank
        ·obtain ⟨lr, vnr, vcr, vtr, hr⟩ := HXR.out
         have HER := zh (HEN.out k wr lr vnr vcr vtr hr HBR.out (by omega))
         clear hr
         have hc7 := fun o => cell_of_row wr (w.heap.size + 1) o _ _ _ HBR.out.b1
         have hw1 : IntKind.i64.wrap (2 * (k : Int)) = 2 * k := IntWalk.i64_in _ (by omega)
         have hw2 : IntKind.u16.wrap (2 * (k : Int)) = 2 * k := by rw [wrap16]; omega
         have hw3 : IntKind.u16.wrap (x.aux + 2 * (k : Int)) = (x.aux + 2 * k) % 65536 := wrap16 _
         go_wp2_with (first
          | (refine ldT 31 (HBR.out.b0) ?_)
          | (refine ldT 47 (HBR.out.b2) ?_)
          | (go_at_call 112; (with_reducible refine HER.out.mono ?_); rintro e w7 ⟨rfl, hx7, hb7⟩; have HX7 := zh hx7; have HB7 := zh (HBR.out.keep3 hb7); clear hx7 hb7))
         go_roundw
         case rel => exact ⟨k + 1, by omega, by go_num, HX7, HB7⟩
         case measure => simp [intOf]; omega
        ·have HKE := zh (show x.bank.toNat = k by omega)
         go_wp2_with fail
         go_ret
         obtain ⟨lr, vnr, vcr, vtr, hr⟩ := HXR.out
         exact fwp_mk hr HBR.out (by rw [fs_table HT.out HD1.out HD2.out HOP.out, HKE.out])
      ·have e3 : (x.op == 133) = false := by simp [h3]
       have HM := zh HG.out.1.mp
       have hcf := fun o => cell_of_row _ (w.heap.size + 4) o _ _ _ HG.out.1.blk
       by_cases h4 : x.op = 134
       ·have e4 : (x.op == 134) = true := by simp [h4]
        have HD := zh (fs_134 (I := I) (p := p) HD1.out HD2.out h4)
        clear h3 h4
        go_wp2_with (refine zZ errKey Tryz.underlying155 HM.out rfl _ _ _ rfl rfl 41 rfl (.bool true) rfl ?_; intro w8 hm8 hg8 hz8)
        go_ret
        exact fwp_mk (HG.out.1.issue (f' := { zR x p with xt := true }) hm8 hg8 rfl rfl rfl flow_table) (HG.out.2.keep3 ((Below.refl _ _).grown hg8 HG.out.2.z3 (fun k e => by injection e with e; rw [← e]; exact HG.out.1.bi))) HD.out
       ·have e4 : (x.op == 134) = false := by simp [h4]
        by_cases h5 : x.op = 145
        ·have e5 : (x.op == 145) = true := by simp [h5]
         have hc7 := fun o => cell_of_row wc (w.heap.size + 1) o _ _ _ HG.out.2.b1
         by_cases h6 : x.imm = 0
         ·have e6 : (x.imm == 0) = true := by simp [h6]
          have HD := zh (fs_145 (I := I) (p := p) HD1.out HD2.out ⟨h5, h6⟩)
          clear h3 h4 h5 h6
          go_wp2_with (refine zZ errKey Tryz.underlying155 HM.out rfl _ _ _ rfl rfl 42 rfl (.bool true) rfl ?_; intro w8 hm8 hg8 hz8)
          go_ret
          exact fwp_mk (HG.out.1.issue (f' := { zR x p with xb := true }) hm8 hg8 rfl rfl rfl flow_bank) (HG.out.2.keep3 ((Below.refl _ _).grown hg8 HG.out.2.z3 (fun k e => by injection e with e; rw [← e]; exact HG.out.1.bi))) HD.out
         ·have e6 : (x.imm == 0) = false := by simp [h6]
          have HD := zh (fs_else (I := I) (p := p) HD1.out HD2.out h3 h4 (fun h => h6 h.2))
          clear h3 h4 h5 h6
          go_wp2_with fail
          go_ret
          exact fwp_mk HG.out.1 HG.out.2 HD.out
        ·have e5 : (x.op == 145) = false := by simp [h5]
         have HD := zh (fs_else (I := I) (p := p) HD1.out HD2.out h3 h4 (fun h => h5 h.1))
         clear h3 h4 h5
         go_wp2_with fail
         go_ret
         exact fwp_mk HG.out.1 HG.out.2 HD.out
end Go.Proofs.YteofmaiojepdkaaGreat
