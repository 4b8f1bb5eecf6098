/- Banks with few bytes that are not zero: plain. No condition beyond what each states. -/
import Derived.Test.YteofmaiojepdkaaGreatTeREnc3
import Derived.Test.YteofmaiojepdkaaGreatTeMade3
import Derived.Test.YteofmaiojepdkaaGreatTeRmA
import Derived.Test.YteofmaiojepdkaaGreatTeRmB
import Derived.Test.YteofmaiojepdkaaGreatTeRkA
set_option linter.all false
namespace Go.Proofs.YteofmaiojepdkaaGreat
open Go Go.RowKit Go.Maps Go.Sort
theorem conv_two {W : World} {a b : Int} {g : Nat} (h : W.heap[g]? = some (.cells #[.int .u8 a, .int .u8 b] 5 (0, 0))) : (convert 73 9 (.slice (some ⟨g, 0, none⟩) 2 2)).run Tryz.prog W = .ok (.string (strOfNums [a, b])) W := by
 refine run_convert_bytes_arg W _ _ Tryz.underlying73 Tryz.underlying5 g 0 2 2 [a, b] rfl (fun i hi => ?_) _ Tryz.underlying9
 rw [Nat.zero_add, cell_of_row _ _ _ _ _ _ h]
 match i, hi with
 | 0, _ => rfl
 | 1, _ => rfl
set_option maxRecDepth 100000 in
theorem put2_any (n : Int) (w : World) : Calls Tryz.prog 89 #[.int .u16 n] w fun e w' => (∃ s : ByteArray, s.size = 2 ∧ e = .returned (.string s)) ∧ Below w.heap.size w w' := by
 go_enter Tryz.func89, Tryz.ntmps89
 have hcv : ∀ a b, (convert 73 9 (.slice (some ⟨w.heap.size, 0, none⟩) 2 2)).run Tryz.prog (w.alloc (.cells #[.int .u8 a, .int .u8 b] 5)) = .ok (.string (strOfNums [a, b])) (w.alloc (.cells #[.int .u8 a, .int .u8 b] 5)) := fun a b => conv_two (heap_alloc_new w _)
 go_wp2_with fail
 go_ret
 exact ⟨⟨_, rfl, rfl⟩, (Below.refl _ _).alloc (zn _) _⟩
theorem enc_small (i : Ins) (hi : i.Ok) : (xu (encB i)).size ≤ 7 := by
 have h1 : (xu (encB i)).size = (encB i).length := strOf_size _
 rw [h1]
 cases hv : zw i with
 | false =>
  have e1 : encB i = [] := by unfold encB; rw [hv]; simp
  rw [e1]; simp
 | true =>
  obtain ⟨-, -, hl⟩ := enc_valid i hi hv
  obtain ⟨-, ho, -, -, -, hs⟩ := yS i hi hv
  have := rsizeS_bd i.op
  omega
def FivV (w : World) (v : Value) (n : Nat) (Q : Nat → Nat → Int) : Prop := ∃ p cap, v = .slice p n cap ∧ n ≤ cap ∧ (0 < n → ∃ g off c t fr, p = some ⟨g, off, none⟩ ∧ w.heap[g]? = some (.cells c t fr) ∧ ∀ i, i < n → (c.extract (off + i * 5) (off + i * 5 + 5)).toList = [.int .i64 (Q i 0), .int .i64 (Q i 1), .int .i64 (Q i 2), .int .i64 (Q i 3), .int .i64 (Q i 4)])
theorem FivV.below {w w' : World} {v : Value} {n : Nat} {Q : Nat → Nat → Int} (h : FivV w v n Q) (hb : Below w.heap.size w w') : FivV w' v n Q := by
 obtain ⟨p, cap, e, hc, h⟩ := h
 refine ⟨p, cap, e, hc, fun h0 => ?_⟩
 obtain ⟨g, off, c, t, fr, e, hg, hx⟩ := h h0
 exact ⟨g, off, c, t, fr, e, za hb hg, hx⟩
theorem ext_one {c : Array Value} {o : Nat} {a b d e f : Value} (h : (c.extract o (o + 5)).toList = [a, b, d, e, f]) : c[o + 4]? = some f := by
 have h1 := congrArg (fun l : List Value => l[4]?) h
 simp only [Array.getElem?_toList] at h1
 rw [Array.getElem?_extract] at h1
 have h6 : min 5 (c.size - o) = 5 := by simpa using congrArg List.length h
 rw [if_pos (by omega)] at h1
 exact h1
set_option maxRecDepth 100000 in
set_option maxHeartbeats 4000000 in
theorem code4_any (p : Option Addr) (n cap : Nat) (Q : Nat → Nat → Int) (hn : n ≤ 9223372036854775807) (w : World) (hQ : FivV w (.slice p n cap) n Q) :
  Calls Tryz.prog 90 #[.slice p n cap, .int .i64 40] w fun e w' => (∃ s : ByteArray, s.size ≤ 280 ∧ e = .returned (.string s)) ∧ Below w.heap.size w w' := by
 have HQ := zh hQ
 have HMA := zh (fun q0 q1 q2 q3 q4 W => show Calls Tryz.prog 117 #[.agg #[.int .i64 q0, .int .i64 q1, .int .i64 q2, .int .i64 q3, .int .i64 q4]] W fun e w' => (∃ j : Ins, j.Ok ∧ e = .returned (.agg #[.int .i64 j.op, .int .i64 j.d, .int .i64 j.s, .int .u16 j.imm, .int .u16 j.aux, .int .i64 j.bank, .int .i64 j.size])) ∧ Below W.heap.size W w' from (made_any q0 q1 q2 q3 q4 W).mono fun e w' ⟨h1, h2⟩ => ⟨⟨_, made_ok q0 q1 q2 q3 q4, h1⟩, h2⟩)
 have HTA := zh (fun (j : Ins) (hj : j.Ok) k W => show Calls Tryz.prog 116 #[.agg #[.int .i64 j.op, .int .i64 j.d, .int .i64 j.s, .int .u16 j.imm, .int .u16 j.aux, .int .i64 j.bank, .int .i64 j.size], .int .i64 k] W fun e w' => (∃ j : Ins, j.Ok ∧ e = .returned (.agg #[.int .i64 j.op, .int .i64 j.d, .int .i64 j.s, .int .u16 j.imm, .int .u16 j.aux, .int .i64 j.bank, .int .i64 j.size])) ∧ Below W.heap.size W w' from tame_any j hj k W)
 have HEN := zh (fun (j : Ins) (hj : j.Ok) W => show Calls Tryz.prog 28 #[.agg #[.int .i64 j.op, .int .i64 j.d, .int .i64 j.s, .int .u16 j.imm, .int .u16 j.aux, .int .i64 j.bank, .int .i64 j.size]] W fun e w' => (∃ (s : ByteArray) (er : Int), s.size ≤ 7 ∧ e = .returned (.tuple #[.string s, .int .i64 er])) ∧ Below W.heap.size W w' from (rencode_any j hj W).mono fun e w' ⟨h1, h2⟩ => ⟨⟨_, _, enc_small j hj, h1⟩, h2⟩)
 clear hQ
 go_enter Tryz.func90, Tryz.ntmps90
 go_wp2_with fail
 go_loopw [5, 6] (fun v i wr => ∃ (m : Nat) (s : ByteArray), m ≤ n ∧ m ≤ 40 ∧ v = .string s ∧ s.size ≤ 7 * m ∧ i = .int .i64 m ∧ Hid (Below w.heap.size w wr)) (fun v i _ => n - (intOf i).toNat)
 case atStart => exact ⟨0, ⟨#[]⟩, Nat.zero_le _, Nat.zero_le _, rfl, zn _, rfl, zh (Below.refl _ _)⟩
 case round =>
  obtain ⟨m, s, hm, hm40, rfl, hs, rfl, HB⟩ := hrel
  by_cases hlt : m < n
  ·by_cases h40 : m < 40
   ·obtain ⟨p', cap', he, hc, hx⟩ := HQ.out.below HB.out
    injection he with e1 _ e2
    subst e1 e2
    obtain ⟨g, off, c, t, fr, rfl, hg, hrow⟩ := hx (by omega)
    have hr5 := hrow m hlt
    have hr4 := ext_one hr5
    have HG := zh hg
    have HR5 := zh hr5
    have HR4 := zh hr4
    have HLT := zh hlt
    have H40 := zh h40
    have HS := zh hs
    clear hx hg hrow hr5 hr4 HQ
    go_upto_region 5 with fail
    refine zu (S := fun W => W.heap[g]? = some (.cells c t fr)) [16] (by kernel_rfl) HG.out (fun hHeld => ?_)
    (refine tz 0 ?_)
    (refine tz 1 ?_)
    (refine tz 2 ?_)
    (refine tkZ 3 (v := .agg #[.int .i64 (Q m 0), .int .i64 (Q m 1), .int .i64 (Q m 2), .int .i64 (Q m 3), .int .i64 (Q m 4)]) rfl (by assumption) (fun W hS => yk _ _ rfl _ _ rfl _ _ _ hS _ HR5.out (by kernel_rfl)) ?_; (refine pts ?_))
    (refine tz 5 ?_)
    (refine tz 6 ?_)
    (refine tz 7 ?_)
    (refine tz 8 ?_)
    (refine tkZ 9 (v := .int .i64 (Q m 4)) rfl (by assumption) (fun W hS => zW _ _ rfl _ _ rfl _ _ _ hS _ HR4.out (fun _ => by kernel_rfl)) ?_; (refine pts ?_))
    refine yI 4 rfl (fun K hK => ?_)
    go_simp
    go_at_call 117
    (with_reducible refine (HMA.out _ _ _ _ _ _).mono ?_)
    rintro e1 w1 ⟨⟨j1, hj1, rfl⟩, hb1⟩
    go_simp
    refine hK.out _ _ (.inr (za hb1 HG.out)) ?_
    (refine pts ?_)
    have HG1 := zh (za hb1 HG.out)
    have HB1 := zh (HB.out.drew.trans (hb1.mono HB.out.size))
    have HJ1 := zh hj1
    clear hK K hHeld hb1 hj1
    refine yI 10 rfl (fun K hK => ?_)
    go_simp
    go_at_call 116
    (with_reducible refine (HTA.out _ HJ1.out _ _).mono ?_)
    rintro e2 w2 ⟨⟨j2, hj2, rfl⟩, hb2⟩
    go_simp
    refine hK.out _ _ (.inr (za hb2 HG1.out)) ?_
    (refine pts ?_)
    have HG2 := zh (za hb2 HG1.out)
    have HB2 := zh (HB1.out.trans (hb2.mono HB1.out.size))
    have HJ2 := zh hj2
    clear hK K hb2 hj2
    refine yI 11 rfl (fun K hK => ?_)
    go_simp
    go_at_call 28
    (with_reducible refine (HEN.out _ HJ2.out _).mono ?_)
    rintro e3 w3 ⟨⟨s3, er3, hs3, rfl⟩, hb3⟩
    go_simp
    refine hK.out _ _ (.inr (za hb3 HG2.out)) ?_
    (refine pts ?_)
    have hHeld := za hb3 HG2.out
    have HB3 := zh (HB2.out.trans (hb3.mono HB2.out.size))
    have HS3 := zh hs3
    clear hK K hb3 hs3
    (refine tz 12 ?_)
    (refine tz 13 ?_)
    (refine tz 14 ?_)
    (refine tz 15 ?_)
    refine ys 16 ?_
    simp only [List.drop_succ_cons, List.drop_zero]
    have hsz : s.size + s3.size ≤ 9223372036854775807 := by have := HS.out; have := HS3.out; have := H40.out; omega
    go_wp2_with fail
    go_roundw
    case rel => exact ⟨m + 1, s ++ s3, HLT.out, H40.out, rfl, by have := HS.out; have := HS3.out; rw [ByteArray.size_append]; omega, by go_num, HB3⟩
    case measure => have h1 := HLT.out; simp [intOf]; omega
   ·obtain rfl : m = 40 := by omega
    go_wp2_with fail
    go_ret
    exact ⟨⟨s, by omega, rfl⟩, HB.out⟩
  ·go_wp2_with fail
   go_ret
   exact ⟨⟨s, by omega, rfl⟩, HB.out⟩
end Go.Proofs.YteofmaiojepdkaaGreat
namespace Go.Proofs.YteofmaiojepdkaaGreat
open Go Go.RowKit Go.Maps Go.Sort
section
variable {P : Program} {Q : Exit → Act → World → Prop} {ops : Array Oper} {S : World → Prop} {zs : List Nat}
theorem twoZ (i j : Nat) {oi oj : Oper} {fuel : Nat} {L : Array Bool} {a : Act} {w : World} (hi : ops[i]? = some oi) (hj : ops[j]? = some oj)
  (h1 : ∀ K : Act → World → Prop, Shut (∀ a' w', (zs.contains i = true ∨ S w') → x6 P ops Q S zs fuel (L.setIfInBounds i true) a' w' → K a' w') → oi.wp P a w K Q)
  (h2 : ∀ K : Act → World → Prop, Shut (∀ a' w', (zs.contains j = true ∨ S w') → x6 P ops Q S zs fuel (L.setIfInBounds j true) a' w' → K a' w') → oj.wp P a w K Q)
  (hr : Region.ready .any ops L = [i, j] := by kernel_rfl) (hwi : Region.wanted oi (yielded ops a.tmps) = true := by rfl) (hwj : Region.wanted oj (yielded ops a.tmps) = true := by rfl) : x6 P ops Q S zs (fuel + 1) L a w := by
 refine ⟨fun h0 => (by rw [hr] at h0; cases h0), fun k hk => ?_⟩
 rw [hr] at hk
 rcases List.mem_cons.1 hk with e | hk
 ·subst e
  exact wpOp_step hi fun K hK => by rw [if_pos hwi]; exact h1 K fun a' w' h1 h2 => hK a' w' ⟨h1, h2⟩
 ·obtain rfl := List.mem_singleton.1 hk
  exact wpOp_step hj fun K hK => by rw [if_pos hwj]; exact h2 K fun a' w' h1 h2 => hK a' w' ⟨h1, h2⟩
end
theorem wp_make_full {P : Program} (w : World) {o : Oper} {a : Act} {K : Act → World → Prop} {Q : Exit → Act → World → Prop}
  (l c : Operand) (t : TypeId) (hop : o.op = Op.makeSlice t l c)
  (base : Nat) (e : TypeId) (i : TypeInfo) (z : Value) (size : Nat) (h1 : P.underlying t = some (.slice e)) (h2 : P.info? e = some i) (h3 : i.zero = some z) (h4 : i.size = size)
  (kl kc : IntKind) (L C : Int) (n : Nat) (hl : a.eval l = .int kl L) (hc : a.eval c = .int kc C) (hL : L = (n : Int)) (hC : C = (n : Int)) (b2 : i.bytes * n ≤ 281474976710656) (b3 : n ≤ maxLen) (b4 : base ≤ w.heap.size)
  (hK : ∀ w', w'.ownsRow base e size (.slice (some ⟨w.heap.size, 0, none⟩) n n) n (madeCells z.cells (n * size)).toList → w.grownBy w' none → K (a.put o.dst (.slice (some ⟨w.heap.size, 0, none⟩) n n)) w') : o.wp P a w K Q := by
 obtain ⟨w', hrun, r1, r2⟩ := run_make_full (P := P) w base t e i z size h1 h2 h3 h4 kl kc n b2 b3 b4
 subst hL
 subst hC
 unfold Oper.wp
 simp [execOp, hop, hl, hc, hrun, Result.andThen]
 exact hK w' r1 r2
abbrev xc (r0 r1 r2 r3 r4 r5 r6 r7 sp f b : Int) (ram : ByteArray) (st : Value) : Array Value := #[.int .u16 r0, .int .u16 r1, .int .u16 r2, .int .u16 r3, .int .u16 r4, .int .u16 r5, .int .u16 r6, .int .u16 r7, .int .u16 0, .int .u16 sp, .int .u16 0, .int .u16 f, .int .i64 b, .int .i64 0, .int .i64 0, .int .i64 0, .string ram, st, .slice none 0 0]
abbrev snp0 : Obj := .cells (xc 0 0 0 0 0 0 0 0 0 0 0 ⟨#[]⟩ (.slice none 0 0)) 133
abbrev imgC (v : Value) (ve : Int) (d : Value) : Obj := .cells #[v, .int .u16 0, .int .u16 ve, d, .slice none 0 0] 31
@[go_sem] theorem sta_build (a : Int) (W : World) : (Instr.build 129 #[(1, .int .u16 a), (2, .int .u16 2)]).run Tryz.prog W = .ok (.agg #[.int .u16 0, .int .u16 0, .int .u16 0, .int .u16 0, .int .u16 0, .int .u16 0, .int .u16 0, .int .u16 0, .int .u16 a, .int .u16 2, .int .u16 0, .int .u16 0, .int .i64 0, .int .i64 0, .int .i64 0, .int .i64 0]) W := run_build W _ _ _ (by kernel_rfl)
@[go_sem] theorem snp_build (ram : ByteArray) (g : Nat) (W : World) : (Instr.build 133 #[(0, .agg #[.int .u16 0, .int .u16 0, .int .u16 0, .int .u16 0, .int .u16 0, .int .u16 0, .int .u16 0, .int .u16 0, .int .u16 0, .int .u16 2, .int .u16 0, .int .u16 0, .int .i64 0, .int .i64 0, .int .i64 0, .int .i64 0]), (1, .string ram), (2, .slice (some ⟨g, 0, none⟩) 2 2)]).run Tryz.prog W = .ok (.agg (xc 0 0 0 0 0 0 0 0 2 0 0 ram (.slice (some ⟨g, 0, none⟩) 2 2))) W := run_build W _ _ _ (by kernel_rfl)
theorem conv_fullN {w : World} {g n : Nat} (h : w.heap[g]? = some (.cells (rowN n fun _ => 0) 5 (0, 0))) : (convert 73 9 (.slice (some ⟨g, 0, none⟩) n n)).run Tryz.prog w = .ok (.string (filN n fun _ => 0)) w := conv_rowN h n
def StP (w : World) (e : Ending) (w' : World) : Prop := (∃ g, e = .returned (.agg (xc 0 0 0 0 0 0 0 0 2 0 0 (filN 8192 fun _ => 0) (.slice (some ⟨g, 0, none⟩) 2 2))) ∧ w.heap.size ≤ g ∧ w'.heap[g]? = some (.cells #[.int .u16 0, .int .u16 65535] 27 (0, 0))) ∧ Below w.heap.size w w'
set_option maxRecDepth 100000 in
set_option maxHeartbeats 4000000 in
theorem start_any (v d : Value) (ve : Int) (w : World) : Calls Tryz.prog 91 #[.agg #[v, .int .u16 0, .int .u16 ve, d, .slice none 0 0]] w (StP w) := by
 have HX := zh (Bx.two w (imgC v ve d) snp0)
 go_enter Tryz.func91, Tryz.ntmps91
 go_upto_region 1 with fail
 obtain ⟨wi, hwi⟩ : ∃ wi, (w.alloc (imgC v ve d)).alloc snp0 = wi := ⟨_, rfl⟩
 rw [hwi] at HX ⊢
 clear hwi
 obtain ⟨iU, hiU, hzU, hzU1, hzU2⟩ := info_parts infoU8
 have HIU := zh (And.intro hiU (And.intro hzU (And.intro hzU1 hzU2)))
 clear hiU hzU hzU1 hzU2
 refine zu (S := fun W => ∀ o : Nat, W.cell? ⟨w.heap.size, o, none⟩ = (#[v, .int .u16 0, .int .u16 ve, d, .slice none 0 0] : Array Value)[o]?) [6, 7] (by kernel_rfl) (fun o => cell_of_row _ _ o _ _ _ HX.out.b0) (fun hHeld => ?_)
 (refine tz 0 ?_)
 (refine tz 1 ?_)
 (refine tz 2 ?_)
 clear hHeld
 have HW := zh (HX.out.stay (Below.refl wi.heap.size wi).drew)
 obtain ⟨wd, hwd⟩ : ∃ wd, wi.drew = wd := ⟨_, rfl⟩
 rw [hwd] at HW ⊢
 clear hwd
 refine twoZ 3 5 rfl rfl (fun K hK => ?_) (fun K hK => ?_)
 ·obtain ⟨hiU, hzU, hzU1, hzU2⟩ := HIU.out
  refine wp_make_full _ _ _ 73 rfl wd.heap.size 5 iU (.int .u8 0) 1 Tryz.underlying73 hiU hzU hzU1 .i64 .i64 8192 8192 8192 rfl rfl rfl rfl (by rw [hzU2]; decide) (by decide) (zn _) ?_
  intro w3 ho3 hg3
  have h3 := own_fullS ho3
  rw [← made_zero] at h3
  have HB3 := zh (xV hg3)
  have H3 := zh h3
  have HW3 := zh (HW.out.stay HB3.out)
  clear ho3 hg3 h3 hiU hzU hzU1 hzU2
  refine hK.out _ _ (.inr (fun o => cell_of_row _ _ o _ _ _ HW3.out.b0)) ?_
  (refine pts ?_)
  clear hK K
  refine twoZ 4 5 rfl rfl (fun K hK => ?_) (fun K hK => ?_)
  ·have hcv := conv_fullN H3.out
   go_simp
   refine hK.out _ _ (.inr (fun o => cell_of_row _ _ o _ _ _ HW3.out.b0)) ?_
   (refine pts ?_)
   clear hK K hcv
   refine yI 5 rfl (fun K hK => ?_)
   go_simp
   have HW4 := zh (HW3.out.stay ((Below.refl _ _).alloc (zn _) (.cells #[.int .u16 0, .int .u16 65535] 27)))
   have HS4 := zh (heap_alloc_new w3 (.cells #[.int .u16 0, .int .u16 65535] 27))
   refine hK.out _ _ (.inr (fun o => cell_of_row _ _ o _ _ _ HW4.out.b0)) ?_
   (refine pts ?_)
   clear hK K
   refine ys 6 ?_
   simp only [List.drop_succ_cons, List.drop_zero]
   go_wp2_with (first | (refine stR (HW4.out.b1) ?_))
   refine bodyPost_ret (results_cell_row (cs := xc 0 0 0 0 0 0 0 0 2 0 0 (filN 8192 fun _ => 0) (.slice (some ⟨_, 0, none⟩) 2 2)) (fr := (0, 0)) Tryz.results91 _ _ (w.heap.size + 1) 133 _ ?_ (setRow_heap _ _ _ _ _ _ HW4.out.b1) Tryz.underlying133 rfl (by kernel_rfl)) rfl ?_
   ·rfl
   ·have hz9 := HW3.out.z
    simp only [List.length_cons, List.length_nil] at hz9
    refine ⟨⟨_, rfl, Nat.le_trans (Nat.le_add_right _ 2) hz9, ?_⟩, below_setRow HW4.out.bb (by omega) _⟩
    rw [setRow_other _ _ _ _ (by omega)]
    exact HS4.out
  ·go_simp
   have HW4 := zh (HW3.out.stay ((Below.refl _ _).alloc (zn _) (.cells #[.int .u16 0, .int .u16 65535] 27)))
   have HS4 := zh (heap_alloc_new w3 (.cells #[.int .u16 0, .int .u16 65535] 27))
   refine hK.out _ _ (.inr (fun o => cell_of_row _ _ o _ _ _ HW4.out.b0)) ?_
   (refine pts ?_)
   clear hK K
   have H4 := zh (za ((Below.refl _ _).alloc (zn _) (.cells #[.int .u16 0, .int .u16 65535] 27)) H3.out)
   refine yI 4 rfl (fun K hK => ?_)
   have hcv := conv_fullN H4.out
   go_simp
   refine hK.out _ _ (.inr (fun o => cell_of_row _ _ o _ _ _ HW4.out.b0)) ?_
   (refine pts ?_)
   clear hK K hcv
   refine ys 6 ?_
   simp only [List.drop_succ_cons, List.drop_zero]
   go_wp2_with (first | (refine stR (HW4.out.b1) ?_))
   refine bodyPost_ret (results_cell_row (cs := xc 0 0 0 0 0 0 0 0 2 0 0 (filN 8192 fun _ => 0) (.slice (some ⟨_, 0, none⟩) 2 2)) (fr := (0, 0)) Tryz.results91 _ _ (w.heap.size + 1) 133 _ ?_ (setRow_heap _ _ _ _ _ _ HW4.out.b1) Tryz.underlying133 rfl (by kernel_rfl)) rfl ?_
   ·rfl
   ·have hz9 := HW3.out.z
    simp only [List.length_cons, List.length_nil] at hz9
    refine ⟨⟨_, rfl, Nat.le_trans (Nat.le_add_right _ 2) hz9, ?_⟩, below_setRow HW4.out.bb (by omega) _⟩
    rw [setRow_other _ _ _ _ (by omega)]
    exact HS4.out
 ·go_simp
  have HW3 := zh (HW.out.stay ((Below.refl _ _).alloc (zn _) (.cells #[.int .u16 0, .int .u16 65535] 27)))
  have HS3 := zh (heap_alloc_new wd (.cells #[.int .u16 0, .int .u16 65535] 27))
  refine hK.out _ _ (.inr (fun o => cell_of_row _ _ o _ _ _ HW3.out.b0)) ?_
  (refine pts ?_)
  clear hK K
  have HS3' := HS3
  obtain ⟨w3, hw3⟩ : ∃ w3, wd.alloc (.cells #[.int .u16 0, .int .u16 65535] 27) = w3 := ⟨_, rfl⟩
  rw [hw3] at HW3 HS3 ⊢
  clear HS3' hw3
  refine yI 3 rfl (fun K hK => ?_)
  obtain ⟨hiU, hzU, hzU1, hzU2⟩ := HIU.out
  refine wp_make_full _ _ _ 73 rfl w3.heap.size 5 iU (.int .u8 0) 1 Tryz.underlying73 hiU hzU hzU1 .i64 .i64 8192 8192 8192 rfl rfl rfl rfl (by rw [hzU2]; decide) (by decide) (zn _) ?_
  intro w4 ho3 hg3
  have h3 := own_fullS ho3
  rw [← made_zero] at h3
  have HB4 := zh (xV hg3)
  have H4 := zh h3
  have HW4 := zh (HW3.out.stay HB4.out)
  clear ho3 hg3 h3 hiU hzU hzU1 hzU2
  refine hK.out _ _ (.inr (fun o => cell_of_row _ _ o _ _ _ HW4.out.b0)) ?_
  (refine pts ?_)
  clear hK K
  have HS4 := zh (za HB4.out HS3.out)
  refine yI 4 rfl (fun K hK => ?_)
  have hcv := conv_fullN H4.out
  go_simp
  refine hK.out _ _ (.inr (fun o => cell_of_row _ _ o _ _ _ HW4.out.b0)) ?_
  (refine pts ?_)
  clear hK K hcv
  refine ys 6 ?_
  simp only [List.drop_succ_cons, List.drop_zero]
  go_wp2_with (first | (refine stR (HW4.out.b1) ?_))
  refine bodyPost_ret (results_cell_row (cs := xc 0 0 0 0 0 0 0 0 2 0 0 (filN 8192 fun _ => 0) (.slice (some ⟨_, 0, none⟩) 2 2)) (fr := (0, 0)) Tryz.results91 _ _ (w.heap.size + 1) 133 _ ?_ (setRow_heap _ _ _ _ _ _ HW4.out.b1) Tryz.underlying133 rfl (by kernel_rfl)) rfl ?_
  ·rfl
  ·have hz9 := HW.out.z
   simp only [List.length_cons, List.length_nil] at hz9
   refine ⟨⟨_, rfl, Nat.le_trans (Nat.le_add_right _ 2) hz9, ?_⟩, below_setRow HW4.out.bb (by omega) _⟩
   rw [setRow_other _ _ _ _ (by omega)]
   exact HS4.out
end Go.Proofs.YteofmaiojepdkaaGreat
namespace Go.Proofs.YteofmaiojepdkaaGreat
open Go
theorem byt_extr (t : ByteArray) (o n k : Nat) (h : k < n) : byt (t.extract o (o + n)) k = byt t (o + k) := by
 unfold byt
 rw [ByteArray.data_extract, Array.toList_extract, List.getD_eq_getElem?_getD, List.getD_eq_getElem?_getD]
 simp only [List.extract_eq_take_drop, Nat.add_sub_cancel_left]
 rw [List.getElem?_take_of_lt h, List.getElem?_drop]
theorem dec_op {t : ByteArray} (h : xo t = 0) : (yQ t).op = byt t 0 := by
 have hI : yQ t = yG t := by unfold yQ; rw [if_pos h]
 rw [hI]
 unfold xo at h
 split at h
 ·cases h
 split at h
 ·rename_i hfo
  rw [readB_eq t (fun e => by rw [fOf_zero e] at hfo; cases hfo)]
  exact rdF_op _ _ _ _
 ·cases h
theorem ok_op {I : zp} {p : zb} (h : okI I p) : (atI I p).1.op = byt (bankI I p) (zx p) := by
 have ho := ok_at h
 have key : ∀ n : Int, 1 ≤ n → byt (zz I p n) 0 = byt (bankI I p) (zx p) := fun n hn => by
  unfold zz
  rw [if_pos ⟨ho.ii, hn⟩]
  exact byt_extr _ _ _ 0 (by omega)
 rw [ho.eq, dec_op ho.dec]
 exact key _ ho.sz1
def callB (n : Int) : Bool := decide (130 ≤ n) && decide (n ≤ 132)
def callC (s : ByteArray) : Nat := (List.range 4096).countP fun o => callB (byt s o)
theorem cl_op {I : zp} {p q : zb} (h : q ∈ (fl I p).cl) : ((atI I p).1.op = 130 ∨ (atI I p).1.op = 132) ∧ q = (yd (atI I p).1 p).1 := by
 have h0 : ∀ x, (yc x p).cl = [] := fun x => by
  unfold yc
  split
  ·split <;> rfl
  ·rfl
 have h1 : ∀ f o, (toF f o).cl = f.cl := fun f o => by unfold toF; split <;> rfl
 have h2 : ∀ f a, (entF I p f a).cl = f.cl := fun f a => by
  unfold entF
  split
  ·split
   ·rfl
   ·rw [h1]
  ·rfl
 have h3 : ∀ x f k, (tabF I x p f k).cl = f.cl := fun x f k => by
  induction k with
  | zero => rfl
  | succ k ih => show (entF I p (tabF I x p f k) _).cl = _; rw [h2, ih]
 unfold fl at h
 unfold xM at h
 split at h
 ·rename_i ho
  split at h
  ·rename_i q' hq'
   refine ⟨ho, ?_⟩
   rw [List.mem_singleton.1 h]
   unfold optT at hq'
   split at hq'
   ·injection hq' with e; exact e.symm
   ·cases hq'
  ·rw [h0] at h; cases h
 ·exfalso
  split at h
  ·rw [h1, h0] at h; cases h
  ·split at h
   ·rw [h3, h1, h0] at h; cases h
   ·split at h
    ·rw [h0] at h; cases h
    ·split at h
     ·rw [h0] at h; cases h
     ·rw [h0] at h; cases h
def plA : List zb := (List.range 4096).map (fun o : Nat => (⟨0, o⟩ : zb)) ++ ((List.range 4096).map (fun o : Nat => (⟨0, 4096 + o⟩ : zb)) ++ ((List.range 4096).map (fun o : Nat => (⟨1, 4096 + o⟩ : zb)) ++ (List.range 4096).map (fun o : Nat => (⟨2, 4096 + o⟩ : zb))))
theorem plA_len : plA.length = 16384 := by unfold plA; simp only [List.length_append, List.length_map, List.length_range]
theorem mem_plA {I : zp} (h3 : I.banks.length = 3) {p : zb} (hi : inI I p = true) (hp : xf p) : p ∈ plA := by
 have h1 := xU hi
 have h2 := xX h1.1
 unfold xf at hp
 have hb : p.bank < 3 := by have := h1.2; omega
 unfold plA
 simp only [List.mem_append, List.mem_map, List.mem_range]
 by_cases ha : p.addr < 4096
 ·exact .inl ⟨p.addr.toNat, by omega, zb.ext' (by dsimp only; omega) (by dsimp only; omega)⟩
 ·refine .inr ?_
  by_cases b0 : p.bank = 0
  ·exact .inl ⟨(p.addr - 4096).toNat, by omega, zb.ext' (by dsimp only; omega) (by dsimp only; omega)⟩
  ·refine .inr ?_
   by_cases b1 : p.bank = 1
   ·exact .inl ⟨(p.addr - 4096).toNat, by omega, zb.ext' (by dsimp only; omega) (by dsimp only; omega)⟩
   ·exact .inr ⟨(p.addr - 4096).toNat, by omega, zb.ext' (by dsimp only; omega) (by dsimp only; omega)⟩
structure FewI (I : zp) : Prop where
 n3 : I.banks.length = 3
 few : 2 * callC (I.banks.getD 0 ⟨#[]⟩) + callC (I.banks.getD 1 ⟨#[]⟩) + callC (I.banks.getD 2 ⟨#[]⟩) ≤ 1990
def callP (I : zp) (p : zb) : Bool := callB (byt (bankI I p) (zx p))
theorem offP_hi (b : Int) (o : Nat) (h : o < 4096) : zx ⟨b, 4096 + o⟩ = o := by unfold zx; dsimp only; omega
theorem offP_lo (b : Int) (o : Nat) (h : o < 4096) : zx ⟨b, o⟩ = o := by unfold zx; dsimp only; omega
theorem pcalls_len (I : zp) : (plA.filter (callP I)).length = 2 * callC (I.banks.getD 0 ⟨#[]⟩) + callC (I.banks.getD 1 ⟨#[]⟩) + callC (I.banks.getD 2 ⟨#[]⟩) := by
 rw [← List.countP_eq_length_filter]
 unfold plA
 simp only [List.countP_append, List.countP_map]
 have e0 : (List.range 4096).countP (callP I ∘ fun o : Nat => (⟨0, o⟩ : zb)) = callC (I.banks.getD 0 ⟨#[]⟩) := List.countP_congr fun o ho => by
  show callB (byt (I.banks.getD 0 ⟨#[]⟩) (zx ⟨0, o⟩)) = true ↔ _
  rw [offP_lo _ _ (List.mem_range.1 ho)]
 have e1 : ∀ b : Nat, (List.range 4096).countP (callP I ∘ fun o : Nat => (⟨b, 4096 + o⟩ : zb)) = callC (I.banks.getD b ⟨#[]⟩) := fun b => List.countP_congr fun o ho => by
  show callB (byt (I.banks.getD b ⟨#[]⟩) (zx ⟨b, 4096 + o⟩)) = true ↔ _
  rw [offP_hi _ _ (List.mem_range.1 ho)]
 have h0 := e1 0
 have h1 := e1 1
 have h2 := e1 2
 have hh : (List.countP (callP I ∘ fun o : Nat => (⟨0, o⟩ : zb)) (List.range 4096) + (List.countP (callP I ∘ fun o : Nat => (⟨((0 : Nat) : Int), 4096 + o⟩ : zb)) (List.range 4096) + (List.countP (callP I ∘ fun o : Nat => (⟨((1 : Nat) : Int), 4096 + o⟩ : zb)) (List.range 4096) + List.countP (callP I ∘ fun o : Nat => (⟨((2 : Nat) : Int), 4096 + o⟩ : zb)) (List.range 4096)))) = 2 * callC (I.banks.getD 0 ⟨#[]⟩) + callC (I.banks.getD 1 ⟨#[]⟩) + callC (I.banks.getD 2 ⟨#[]⟩) := by
  rw [e0, h0, h1, h2]
  omega
 exact hh
theorem mem_calls {I : zp} (h3 : I.banks.length = 3) {p : zb} (h : okI I p) (hp : xf p) (hop : (atI I p).1.op = 130 ∨ (atI I p).1.op = 131 ∨ (atI I p).1.op = 132) : p ∈ plA.filter (callP I) := by
 refine List.mem_filter.2 ⟨mem_plA h3 (ok_at h).ii hp, ?_⟩
 unfold callP callB
 rw [← ok_op h]
 rcases hop with e | e | e <;> rw [e] <;> rfl
theorem few_ents {I : zp} (hI : I.Ok) (hf : FewI I) {more : List zb} (hm : ∀ p ∈ more, xf p) (hl : more.length ≤ 8) {l : List zb} (hn : l.Nodup) (hE : ∀ p ∈ l, Ent I more p) : l.length ≤ 2000 := by
 have h := ym (m := (⟨0, I.entry⟩ : zb) :: ⟨0, I.vector⟩ :: (more ++ (plA.filter (callP I)).map fun p => (yd (atI I p).1 p).1)) hn fun p hp => by
  simp only [List.mem_cons, List.mem_append, List.mem_map]
  have key : ∀ q, okI I q → xf q → ((atI I q).1.op = 130 ∨ (atI I q).1.op = 131 ∨ (atI I q).1.op = 132) → p = (yd (atI I q).1 q).1 → ∃ a, a ∈ plA.filter (callP I) ∧ (yd (atI I a).1 a).1 = p := fun q h1 h2 h3 h4 => ⟨q, mem_calls hf.n3 h1 h2 h3, h4.symm⟩
  cases hE p hp with
  | first => exact .inl rfl
  | vec _ => exact .inr (.inl rfl)
  | more h => exact .inr (.inr (.inl h))
  | @call e _ r h1 h2 h3 =>
   have hpe := h1.plOk hI hm
   by_cases ht : yK I e
   ·rw [(h2.thk ht).2.2.1] at h3; cases h3
   ·obtain ⟨q, h4, h5, h6⟩ := (h2.ml ht p).1 h3
    obtain ⟨h7, h8⟩ := cl_op h6
    exact .inr (.inr (.inr (key q h5 (h4.plOk hpe) (h7.elim .inl fun h => .inr (.inr h)) h8)))
  | thunk h1 h2 => exact .inr (.inr (.inr (key _ h2.1 (h1.plOk hI hm) (.inr (.inl h2.2)) rfl)))
 rw [List.length_cons, List.length_cons, List.length_append, List.length_map, pcalls_len] at h
 have := hf.few
 omega
theorem few_lst {I : zp} (hI : I.Ok) (hf : FewI I) {more : List zb} (hm : ∀ p ∈ more, xf p) (hl : more.length ≤ 8) {L : LstS} (h : IsLst I more L) : ∃ rs its, yR I more (some rs) ∧ IsItems rs its ∧ (∀ p ∈ its, okI I p ∧ xf p) ∧ L = fullL I rs its := by
 rcases h with ⟨⟨l, h1, h2, h3⟩, -⟩ | ⟨rs, its, h1, h2, h3⟩
 ·have := few_ents hI hf hm hl h1 h2
  omega
 ·have hok : ∀ p ∈ its, okI I p ∧ xf p := fun p hp => by
   obtain ⟨r, hr, hc⟩ := (h2.me p).1 hp
   have he := (h1.2.2.2 r.entry).1 (List.mem_map.2 ⟨r, hr, rfl⟩)
   have hpe := he.plOk hI hm
   have hir := h1.2.2.1 r hr
   by_cases ht : yK I r.entry
   ·rw [(hir.thk ht).2.1, List.mem_singleton] at hc
    rw [hc]
    exact ⟨ht.1, hpe⟩
   ·obtain ⟨h4, h5⟩ := (hir.mc ht p).1 hc
    exact ⟨h5, h4.plOk hpe⟩
  have hlen : its.length ≤ 16384 := by
   rw [← plA_len]
   exact ym (xy zO.irr h2.so) fun p hp => mem_plA hf.n3 (ok_at (hok p hp).1).ii (hok p hp).2
  rcases h3 with ⟨h4, -⟩ | ⟨-, h5⟩
  ·omega
  ·exact ⟨rs, its, h1, h2, hok, h5⟩
theorem few_ne {I : zp} {more : List zb} {rs : List xp} (h : yR I more (some rs)) : rs ≠ [] := fun e => by
 have := (h.2.2.2 _).2 Ent.first
 rw [e] at this
 cases this
def nzB (s : ByteArray) : Nat := s.data.toList.countP fun b => b != 0
theorem nzB_append (s t : ByteArray) : nzB (s ++ t) = nzB s + nzB t := by
 unfold nzB
 rw [ByteArray.data_append, Array.toList_append, List.countP_append]
theorem nzB_le (s : ByteArray) : nzB s ≤ s.size := by
 unfold nzB
 exact Nat.le_trans List.countP_le_length (Nat.le_of_eq (by simp))
theorem nzB_extract (s : ByteArray) (a b : Nat) : nzB (s.extract a b) ≤ nzB s := by
 unfold nzB
 rw [ByteArray.data_extract, Array.toList_extract]
 simp only [List.extract_eq_take_drop]
 exact List.Sublist.countP_le ((List.take_sublist _ _).trans (List.drop_sublist _ _))
theorem count_get {p : UInt8 → Bool} : ∀ (l : List UInt8) (n : Nat), l.length = n → (List.range n).countP (fun o => p (l.getD o 0)) = l.countP p
 | [], n, h => by rw [← h]; rfl
 | a :: l, n, h => by
  rw [← h, List.length_cons, List.range_succ_eq_map, List.countP_cons, List.countP_map, List.countP_cons]
  have := count_get (p := p) l l.length rfl
  rw [← this]
  rfl
theorem callC_nz (s : ByteArray) (h : s.size = 4096) : callC s ≤ nzB s := by
 unfold nzB
 rw [← count_get (p := fun b => b != 0) s.data.toList 4096 (by simpa using h)]
 unfold callC
 refine List.countP_mono_left fun o _ ho => ?_
 unfold callB byt at ho
 simp only [Bool.and_eq_true, decide_eq_true_eq] at ho
 simp only [bne_iff_ne, ne_eq]
 intro e
 rw [e] at ho
 simp at ho
end Go.Proofs.YteofmaiojepdkaaGreat
namespace Go.Proofs.YteofmaiojepdkaaGreat
open Go
def segC {α : Type} (p : α → Bool) (l : List α) (a b : Nat) : Nat := ((l.drop a).take (b - a)).countP p
theorem seg_add {α : Type} (p : α → Bool) (l : List α) {a b c : Nat} (h1 : a ≤ b) (h2 : b ≤ c) : segC p l a b + segC p l b c = segC p l a c := by
 unfold segC
 rw [show c - a = (b - a) + (c - b) by omega, List.take_add, List.drop_drop, show a + (b - a) = b by omega, List.countP_append]
theorem nzB_seg (s : ByteArray) (a b : Nat) : nzB (s.extract a b) = segC (fun b => b != 0) s.data.toList a b := by
 unfold nzB segC
 rw [ByteArray.data_extract, Array.toList_extract]
theorem nzB_two (s : ByteArray) {a b c d : Nat} (h1 : a ≤ b) (h2 : b ≤ c) (h3 : c ≤ d) : nzB (s.extract a b) + nzB (s.extract c d) ≤ nzB (s.extract a d) := by
 simp only [nzB_seg]
 have e1 := seg_add (fun b : UInt8 => b != 0) s.data.toList h1 (Nat.le_trans h2 h3)
 have e2 := seg_add (fun b : UInt8 => b != 0) s.data.toList h2 h3
 omega
theorem size_ext (s : ByteArray) {a b : Nat} (h : a ≤ b) (hb : b ≤ s.size) : (s.extract a b).size = b - a := by rw [ByteArray.size_extract]; omega
theorem patch_one (s t : ByteArray) (a b : Nat) (hs : s.size = 4096) (hb : b ≤ 4096) (ht : a + t.size = b) : (s.extract 0 a ++ t ++ s.extract b s.size).size = 4096 ∧ nzB (s.extract 0 a ++ t ++ s.extract b s.size) ≤ nzB s + t.size := by
 have h1 := nzB_two s (a := 0) (b := a) (c := b) (d := s.size) (Nat.zero_le _) (by omega) (by omega)
 have h2 := nzB_extract s 0 s.size
 have h3 := nzB_le t
 have h4 := size_ext s (a := 0) (b := a) (Nat.zero_le _) (by omega)
 have h5 := size_ext s (a := b) (b := s.size) (by omega) (zn _)
 simp only [nzB_append, ByteArray.size_append]
 omega
theorem patch_two (s t u : ByteArray) (a b c d : Nat) (hs : s.size = 4096) (hb : b ≤ c) (hd : d ≤ 4096) (ht : a + t.size = b) (hu : c + u.size = d) : (s.extract 0 a ++ t ++ s.extract b c ++ u ++ s.extract d s.size).size = 4096 ∧ nzB (s.extract 0 a ++ t ++ s.extract b c ++ u ++ s.extract d s.size) ≤ nzB s + (t.size + u.size) := by
 have h0 := nzB_two s (a := 0) (b := a) (c := b) (d := c) (Nat.zero_le _) (by omega) hb
 have h1 := nzB_two s (a := 0) (b := c) (c := d) (d := s.size) (Nat.zero_le _) (by omega) (by omega)
 have h2 := nzB_extract s 0 s.size
 have h3 := nzB_le t
 have h3' := nzB_le u
 have h4 := size_ext s (a := 0) (b := a) (Nat.zero_le _) (by omega)
 have h4' := size_ext s (a := b) (b := c) hb (by omega)
 have h5 := size_ext s (a := d) (b := s.size) (by omega) (zn _)
 simp only [nzB_append, ByteArray.size_append]
 omega
theorem patch_end (s t : ByteArray) (a : Nat) (hs : s.size = 4096) (ht : a + t.size = 4096) : (s.extract 0 a ++ t).size = 4096 ∧ nzB (s.extract 0 a ++ t) ≤ nzB s + t.size := by
 have h2 := nzB_extract s 0 a
 have h3 := nzB_le t
 have h4 := size_ext s (a := 0) (b := a) (Nat.zero_le _) (by omega)
 simp only [nzB_append, ByteArray.size_append]
 omega
theorem patch_start (s t : ByteArray) (hs : s.size = 4096) (ht : t.size ≤ 4096) : (t ++ s.extract t.size s.size).size = 4096 ∧ nzB (t ++ s.extract t.size s.size) ≤ nzB s + t.size := by
 have h2 := nzB_extract s t.size s.size
 have h3 := nzB_le t
 have h5 := size_ext s (a := t.size) (b := s.size) (by omega) (zn _)
 simp only [nzB_append, ByteArray.size_append]
 omega
theorem count_lt (q : Nat → Bool) (n N : Nat) (h : ∀ o, q o = true → o < n) : (List.range N).countP q ≤ n := by
 rw [List.countP_eq_length_filter]
 have := ym (l := (List.range N).filter q) (m := List.range n) (List.nodup_range.filter _) fun x hx => List.mem_range.2 (h x (List.mem_filter.1 hx).2)
 rwa [List.length_range] at this
theorem nz_fil (f : Nat → Int) (n : Nat) (h : ∀ o, n ≤ o → f o = 0) : nzB (yW f) ≤ n := by
 unfold nzB yW
 rw [strOfNums_data]
 simp only [List.countP_map]
 refine count_lt _ n 4096 fun o ho => ?_
 rcases Nat.lt_or_ge o n with h1 | h1
 ·exact h1
 ·simp only [Function.comp_apply, h o h1] at ho
  cases ho
end Go.Proofs.YteofmaiojepdkaaGreat
