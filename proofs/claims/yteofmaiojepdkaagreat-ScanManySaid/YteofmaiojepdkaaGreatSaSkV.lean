/- package scan: each of mark, walked. Condition: the image's banks have 4096 bytes; the place lies in the image. -/
import Derived.Test.YteofmaiojepdkaaGreatSaSkU
set_option linter.all false
namespace Go.Proofs.YteofmaiojepdkaaGreat
open Go Go.RowKit Go.Maps Go.Sort
def insV (x : Ins) : Value := .agg #[.int .i64 x.op, .int .i64 x.d, .int .i64 x.s, .int .u16 x.imm, .int .u16 x.aux, .int .i64 x.bank, .int .i64 x.size]
theorem zero_insV (w : World) : (zeroValue 53).run Tryz.prog w = .ok (insV ya) w := by kernel_rfl
@[go_sem] theorem cel_build (b o : Int) (W : World) : (Instr.build 153 #[(0, .int .i64 b), (1, .int .i64 o)]).run Tryz.prog W = .ok (.agg #[.int .i64 b, .int .i64 o]) W := run_build W _ _ _ (by kernel_rfl)
@[go_sem] theorem ins_size (o d s i u b z : Int) (W : World) : (Instr.field 53 (.agg #[.int .i64 o, .int .i64 d, .int .i64 s, .int .u16 i, .int .u16 u, .int .i64 b, .int .i64 z]) 6).run Tryz.prog W = .ok (.int .i64 z) W := by kernel_rfl
theorem offP_lt (p : zc) : zw p < 4096 := by unfold zw; omega
set_option maxRecDepth 100000 in
set_option maxHeartbeats 4000000 in
theorem each_any (I : zj) (hI : I.Ok) (ba : Option Addr) (bc : Nat) (da : Option Addr) (dc : Nat) (ra : Option Addr) (rn rc : Nat) (bi bt gi : Nat) (its : List (zc × Value)) (p : zc) (p0 : 0 ≤ p.addr) (p1 : p.addr < 65536) (hin : inI I p = true) (x : Ins) (n : Nat) (hx : x.size = n) (hn : n ≤ 100) (hget : z6 p its = some (insV x))
    (g : Nat) (caps : Array Value) (eg : ∀ args w, (callFunc g args).run Tryz.prog w = .ok (.enter g args) w) (J : Nat → World → Prop) (hbel : ∀ k W W', J k W → Below W.heap.size W W' → J k W')
    (hstep : ∀ k W, k < n → J k W → Calls Tryz.prog g (#[.agg #[.int .i64 p.bank, .int .i64 ((zw p : Int) + (k : Int))], .int .i64 k] ++ caps) W fun e w' => e = .returned (.tuple #[]) ∧ J (k + 1) w')
    (w : World) (hbi : w.heap[bi]? = some (imgB I ba bc da dc ra rn rc)) (hV : yL w I ba bc da dc) (hbt : w.heap[bt]? = some (.cells #[.map (some gi)] 100 (0, 0))) (hgi : w.heap[gi]? = some (zL xa its)) (h0 : J 0 w) :
    Calls Tryz.prog 76 #[.agg #[.int .i64 p.bank, .int .u16 p.addr], .func (.func g) #[] caps, .pointer (some ⟨bi, 0, none⟩), .pointer (some ⟨bt, 0, none⟩)] w fun e w' => e = .returned (.tuple #[]) ∧ J n w' := by
  have HA := Bx.one w (zo p)
  have HBI := zh (zb HA.bb hbi)
  have HBT := zh (zb HA.bb hbt)
  have HGI := zh (zb HA.bb hgi)
  have HP := zh HA.b0
  have HVI := zh (hV.below HA.bb)
  have HJ := zh (hbel 0 _ _ h0 HA.bb)
  have HOF := zh (fun W hv => ioff_in I hI ba bc da dc ra rn rc p p0 p1 W hv hin)
  have HST := zh hstep
  have HBE := zh hbel
  have hgd : (z6 p its).getD (insV ya) = .agg #[.int .i64 x.op, .int .i64 x.d, .int .i64 x.s, .int .u16 x.imm, .int .u16 x.aux, .int .i64 x.bank, .int .i64 x.size] := by rw [hget]; rfl
  rw [hx] at hgd
  have HGD := zh hgd
  have hof := offP_lt p
  clear HA hbi hbt hgi hV h0 hI hin hx hget hbel hstep hgd
  go_enter Tryz.func76, Tryz.ntmps76
  go_upto_region 1 with fail
  obtain ⟨w1, hw1⟩ : ∃ w1, w.alloc (zo p) = w1 := ⟨_, rfl⟩
  rw [hw1] at HBI HBT HGI HP HVI HJ ⊢
  clear hw1
  go_upto_region 2 with (first
    | (refine za 47 _ rfl _ rfl _ _ _ (HP.out) ?_ ?_ ?_; kernel_rfl; kernel_rfl)
    | (refine za 31 _ rfl _ rfl _ _ _ (HBI.out) ?_ ?_ ?_; kernel_rfl; kernel_rfl)
    | (go_at_call 64; (with_reducible refine (HOF.out _ HVI.out).mono ?_); rintro e2 w2 ⟨rfl, hb2⟩; have HB2 := zh hb2; clear hb2))
  have HP2 := zh (zb HB2.out HP.out)
  have HG2 := zh (zb HB2.out HGI.out)
  have HT2 := zh (zb HB2.out HBT.out)
  have HJ2 := zh (HBE.out 0 _ _ HJ.out HB2.out)
  have hct := fun o => cell_of_row w2 bt o _ _ _ HT2.out
  go_wp2_with (first
    | (refine za 47 _ rfl _ rfl _ _ _ (HP2.out) ?_ ?_ ?_; kernel_rfl; kernel_rfl)
    | (refine zT yg Tryz.underlying100 HG2.out rfl _ _ rfl rfl p rfl (zero_insV _) ?_; rw [HGD.out]))
  clear hct
  go_loopw [21] (fun i wr => ∃ k : Nat, k ≤ n ∧ i = .int .i64 k ∧ Hid (J k wr)) (fun i _ => n - (intOf i).toNat)
  case atStart => exact ⟨0, Nat.zero_le _, rfl, HJ2⟩
  case round =>
    clear HJ2
    obtain ⟨k, hk, rfl, HJ⟩ := hrel
    by_cases hlt : k < n
    · have HS := zh (HST.out k wr hlt HJ.out)
      have hk1 : k < n := hlt
      have hwo : wrap64 ((zw p : Int) + (k : Int)) = (zw p : Int) + k := by unfold wrap64; omega
      have HKL := zh hlt
      go_wp2_with (go_at_fn g; refine HS.out.mono ?_; rintro e3 w3 ⟨rfl, hj3⟩; have HJ3 := zh hj3; clear hj3)
      go_roundw
      case rel => exact ⟨k + 1, HKL.out, by go_num, HJ3⟩
      case measure => have h1 := HKL.out; simp [intOf]; omega
    · obtain rfl : k = n := by omega
      go_wp2
      go_end0
      exact ⟨rfl, HJ.out⟩
/-- The first k bytes of an instruction. -/
def inK (p : zc) (k b o : Nat) : Bool := decide (p.bank = b) && decide (zw p ≤ o) && decide (o < zw p + k)
theorem inK_zero (p : zc) (b o : Nat) : inK p 0 b o = false := by
  unfold inK
  by_cases h : zw p ≤ o
  · simp [h]
  · simp [h]
theorem inK_succ (p : zc) (k b o pb : Nat) (hb : p.bank = pb) : inK p (k + 1) b o = (inK p k b o || decide (b = pb ∧ o = zw p + k)) := by
  unfold inK
  rw [hb]
  by_cases h1 : b = pb
  · subst h1
    by_cases h2 : o = zw p + k
    · subst h2; simp
    · have e1 : decide (o < zw p + (k + 1)) = decide (o < zw p + k) := by
        rw [decide_eq_decide]; omega
      rw [e1]
      simp [h2]
  · have : ¬ ((pb : Int) = (b : Int)) := by omega
    simp [this, h1]
theorem inK_not (p : zc) (k b : Nat) : inK p k b (zw p + k) = false := by unfold inK; simp
/-- Each byte of an instruction is counted. -/
theorem each_cov (I : zj) (hI : I.Ok) (ba : Option Addr) (bc : Nat) (da : Option Addr) (dc : Nat) (ra : Option Addr) (rn rc : Nat) (bi bt gi : Nat) (its : List (zc × Value)) (p : zc) (p0 : 0 ≤ p.addr) (p1 : p.addr < 65536) (hin : inI I p = true) (x : Ins) (n : Nat) (hx : x.size = n) (hn : n ≤ 100) (hget : z6 p its = some (insV x))
    (bv gv : Nat) (f : Nat → Nat → Nat) (hf : ∀ b o, f b o ≤ 100000000) (w : World) (hbi : w.heap[bi]? = some (imgB I ba bc da dc ra rn rc)) (hV : yL w I ba bc da dc) (hbt : w.heap[bt]? = some (.cells #[.map (some gi)] 100 (0, 0))) (hgi : w.heap[gi]? = some (zL xa its)) (hc : CovW bv gv f w) :
    Calls Tryz.prog 76 #[.agg #[.int .i64 p.bank, .int .u16 p.addr], .func (.func 77) #[] #[.pointer (some ⟨bv, 0, none⟩)], .pointer (some ⟨bi, 0, none⟩), .pointer (some ⟨bt, 0, none⟩)] w fun e w' => e = .returned (.tuple #[]) ∧ CovW bv gv (fun b o => f b o + if inK p n b o then 1 else 0) w' ∧ y6 (fun k => k = gv) w w' := by
  have hcb := codeP_bd (inI_code hin).1
  obtain ⟨pb, hpb⟩ := Int.eq_ofNat_of_zero_le hcb.1
  refine each_any I hI ba bc da dc ra rn rc bi bt gi its p p0 p1 hin x n hx hn hget 77 #[.pointer (some ⟨bv, 0, none⟩)] (enters_of Tryz.func77 (by kernel_rfl) rfl)
    (fun k W => CovW bv gv (fun b o => f b o + if inK p k b o then 1 else 0) W ∧ y6 (fun k => k = gv) w W) (fun k W W' h hb => ⟨h.1.below hb, h.2.trans (y6.ofBelow (bs := fun _ => False) hb) (fun _ _ e => e.elim)⟩) (fun k W hk hJ => ?_) w hbi hV hbt hgi ⟨by simpa [inK_zero] using hc, y6.refl _ _⟩
  have h1 := cov_any bv gv (fun b o => f b o + if inK p k b o then 1 else 0) pb (zw p + k) (k : Int) W hJ.1 (by
    have := hf pb (zw p + k)
    split <;> omega)
  rw [hpb]
  refine h1.mono ?_
  rintro e w' ⟨rfl, h2, h3⟩
  refine ⟨rfl, ?_, hJ.2.trans h3 (fun _ _ e => e)⟩
  have he : (fun b' o' => if b' = pb ∧ o' = zw p + k then (f pb (zw p + k) + if inK p k pb (zw p + k) then 1 else 0) + 1 else f b' o' + if inK p k b' o' then 1 else 0) = fun b o => f b o + if inK p (k + 1) b o then 1 else 0 := by
    funext b o
    rw [inK_succ p k b o pb hpb]
    by_cases h : b = pb ∧ o = zw p + k
    · obtain ⟨rfl, rfl⟩ := h
      rw [if_pos ⟨rfl, rfl⟩, inK_not]
      simp
    · rw [if_neg h]
      simp [h]
  rw [← he]
  exact h2
theorem any_range_succ (q : Nat → Bool) (k : Nat) : (List.range (k + 1)).any q = ((List.range k).any q || q k) := by rw [List.range_succ, List.any_append]; simp
structure ClsJ (B bv gv bs bp bl : Nat) (f : Nat → Nat → Nat) (gs : List Nat) (c : Nat → Nat → Int) (vc vr vi : Value) (sh : Bool) (bs' : Nat → Prop) (w0 W : World) : Prop where
  cv : CovW bv gv f W
  hs : W.heap[bs]? = some (.cells #[.bool sh] 4 (0, 0))
  hp : W.heap[bp]? = some (.cells #[.pointer (some ⟨bl, 0, none⟩)] 102 (0, 0))
  hl : W.heap[bl]? = some (.cells #[vc, vr, vi] 38 (0, 0))
  cl : y3 B gs c vc W
  tr : y6 bs' w0 W
theorem ClsJ.below {B bv gv bs bp bl : Nat} {f : Nat → Nat → Nat} {gs : List Nat} {c : Nat → Nat → Int} {vc vr vi : Value} {sh : Bool} {bs' : Nat → Prop} {w0 W W' : World} (h : ClsJ B bv gv bs bp bl f gs c vc vr vi sh bs' w0 W) (hb : Below W.heap.size W W') : ClsJ B bv gv bs bp bl f gs c vc vr vi sh bs' w0 W' :=
  ⟨h.cv.below hb, zb hb h.hs, zb hb h.hp, zb hb h.hl, h.cl.below hb, h.tr.trans (y6.ofBelow (bs := fun _ => False) hb) (fun _ _ e => e.elim)⟩
/-- Each byte of an instruction gets its class. -/
theorem each_cls (I : zj) (hI : I.Ok) (ba : Option Addr) (bc : Nat) (da : Option Addr) (dc : Nat) (ra : Option Addr) (rn rc : Nat) (bi bt gi : Nat) (its : List (zc × Value)) (p : zc) (p0 : 0 ≤ p.addr) (p1 : p.addr < 65536) (hin : inI I p = true) (x : Ins) (n : Nat) (hx : x.size = n) (hn : n ≤ 100) (hend : zw p + n ≤ 4096) (hget : z6 p its = some (insV x))
    (B bv gv bs bp bl : Nat) (f : Nat → Nat → Nat) (hf : ∀ b o, f b o ≤ 100000000) (gs : List Nat) (hgs : gs.length = I.banks.length) (c : Nat → Nat → Int) (vc vr vi : Value) (sh : Bool) (w : World) (hbi : w.heap[bi]? = some (imgB I ba bc da dc ra rn rc)) (hV : yL w I ba bc da dc) (hbt : w.heap[bt]? = some (.cells #[.map (some gi)] 100 (0, 0))) (hgi : w.heap[gi]? = some (zL xa its))
    (hJ : ClsJ B bv gv bs bp bl f gs c vc vr vi sh (fun j => j = bs ∨ j ∈ gs) w w) :
    Calls Tryz.prog 76 #[.agg #[.int .i64 p.bank, .int .u16 p.addr], .func (.func 78) #[] #[.pointer (some ⟨bv, 0, none⟩), .pointer (some ⟨bs, 0, none⟩), .pointer (some ⟨bp, 0, none⟩)], .pointer (some ⟨bi, 0, none⟩), .pointer (some ⟨bt, 0, none⟩)] w fun e w' => e = .returned (.tuple #[]) ∧
      ClsJ B bv gv bs bp bl f gs (fun b o => if inK p n b o then clsK (f b o) ((o : Int) - zw p) else c b o) vc vr vi (sh || (List.range n).any fun j => decide (1 < f p.bank.toNat (zw p + j))) (fun j => j = bs ∨ j ∈ gs) w w' := by
  have hcb := codeP_bd (inI_code hin).1
  have hbl := (inI_code hin).2
  have hn64 := hI.n64
  obtain ⟨pb, hpb⟩ := Int.eq_ofNat_of_zero_le hcb.1
  obtain ⟨g, hg⟩ : ∃ g, gs[pb]? = some g := ⟨_, List.getElem?_eq_getElem (by omega)⟩
  have htn : p.bank.toNat = pb := by omega
  rw [htn]
  refine each_any I hI ba bc da dc ra rn rc bi bt gi its p p0 p1 hin x n hx hn hget 78 #[.pointer (some ⟨bv, 0, none⟩), .pointer (some ⟨bs, 0, none⟩), .pointer (some ⟨bp, 0, none⟩)] (enters_of Tryz.func78 (by kernel_rfl) rfl)
    (fun k W => ClsJ B bv gv bs bp bl f gs (fun b o => if inK p k b o then clsK (f b o) ((o : Int) - zw p) else c b o) vc vr vi (sh || (List.range k).any fun j => decide (1 < f pb (zw p + j))) (fun j => j = bs ∨ j ∈ gs) w W) (fun k W W' h hb => h.below hb) (fun k W hk hJ => ?_) w hbi hV hbt hgi (by simpa [inK_zero] using hJ)
  have h1 := cls_any B bv gv bs bp bl f (sh || (List.range k).any fun j => decide (1 < f pb (zw p + j))) gs _ vc vr vi pb (zw p + k) g k W hJ.cv hJ.hs hJ.hp hJ.hl hJ.cl hg (by omega) (Nat.le_trans (hf _ _) (by decide)) (by omega)
  rw [hpb]
  refine h1.mono ?_
  rintro e w' ⟨rfl, h2, h3, h4⟩
  have hgm : g ∈ gs := List.mem_of_getElem? hg
  have hcell : ∀ {b : Nat} {cs : Array Value} {T : TypeId} {fr : Nat × Nat}, W.heap[b]? = some (.cells cs T fr) → T ≠ 4 → T ≠ 5 → w'.heap[b]? = some (.cells cs T fr) := fun hb n1 n2 => h4.heap hb (fun e => by
    rcases e with rfl | rfl
    · rw [hJ.hs] at hb
      injection hb with hb
      injection hb with _ hb
      exact n1 hb.symm
    · rw [hJ.cl.row pb _ hg] at hb
      injection hb with hb
      injection hb with _ hb
      exact n2 hb.symm)
  obtain ⟨hb, L, hL, hM⟩ := hJ.cv
  refine ⟨rfl, ⟨hcell hb (by decide) (by decide), L, h4.heap hL (fun e => ?_), hM⟩, ?_, hcell hJ.hp (by decide) (by decide), hcell hJ.hl (by decide) (by decide), ?_, hJ.tr.trans h4 (fun _ _ e => e.imp id (fun e => by rw [e]; exact hgm))⟩
  · rcases e with e | e
    · rw [e, hJ.hs] at hL; cases hL
    · rw [e, hJ.cl.row pb _ hg] at hL; cases hL
  · rw [any_range_succ, ← Bool.or_assoc]
    exact h3
  · have he : (fun b' o' => if b' = pb ∧ o' = zw p + k then clsK (f pb (zw p + k)) k else if inK p k b' o' then clsK (f b' o') ((o' : Int) - zw p) else c b' o') = fun b o => if inK p (k + 1) b o then clsK (f b o) ((o : Int) - zw p) else c b o := by
      funext b o
      rw [inK_succ p k b o pb hpb]
      by_cases h : b = pb ∧ o = zw p + k
      · obtain ⟨rfl, rfl⟩ := h
        rw [if_pos ⟨rfl, rfl⟩, inK_not]
        simp
        congr 1
        omega
      · rw [if_neg h]
        simp [h]
    rw [← he]
    exact h2
end Go.Proofs.YteofmaiojepdkaaGreat
