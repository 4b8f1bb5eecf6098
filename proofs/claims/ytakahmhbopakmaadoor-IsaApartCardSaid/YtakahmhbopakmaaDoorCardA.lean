/- From a law's walk to its card: what the rows of this seat share. The library's tables out of the rows' list, a world for the witness, arguments of plain data opened, and the post out of 'it returned true and what was there is as it was'. -/
import Derived.Test.YtakahmhbopakmaaDoorCards
import Derived.Test.YtakahmhbopakmaaDoorTie
import Derived.Test.YtakahmhbopakmaaDoorLineA
import Derived.ProofKit
import Derived.OpenShut
import Derived.Deep.DeepHandedRow
import Derived.Deep.DeepWitnessRowRef
import Derived.Lib.LaidTab
import Derived.Stop.LaidErr
import Derived.LaidMore
import Derived.Carry
set_option linter.all false
namespace Go.Proofs.YtakahmhbopakmaaDoor
open Go.ChangeShapes Go.WideShapes Go.ChangeAt Go.RowKit
set_option maxRecDepth 100000

theorem cOwn : ownKnob Tryd.prog.godebug = none := by kernel_rfl
theorem cLaidOut : laidOutB Tryd.prog = true := by kernel_rfl
/-- The rows' common list. -/
def laidAll : List (String × DataW Unit) := [("math/bits.deBruijn32tab", Rows.laid_math_bits_deBruijn32tab), ("math/bits.deBruijn64tab", Rows.laid_math_bits_deBruijn64tab), ("internal/strconv.uint64pow10", Rows.laid_internal_strconv_uint64pow10), ("unicode.White_Space", Rows.laid_unicode_White_Space), ("strings.asciiSpace", Rows.laid_strings_asciiSpace)]

def tab64 : List Int := [0, 1, 56, 2, 57, 49, 28, 3, 61, 58, 42, 50, 38, 29, 17, 4, 62, 47, 59, 36, 45, 43, 51, 22, 53, 39, 33, 30, 24, 18, 12, 5, 63, 55, 48, 27, 60, 41, 37, 16, 46, 35, 44, 21, 52, 32, 23, 11, 54, 26, 40, 15, 34, 20, 31, 10, 25, 14, 19, 9, 13, 8, 7, 6]
theorem tabs_of_laid {W : World} (h : laidMetH Tryd.prog laidAll W) : Tabs W := by
  rw [MakeChecks.laidMetH_plain _ _ _ (by kernel_rfl)] at h
  have h1 := laidMet.tail h
  have h2 := laidMet.tail h1
  have h3 := laidMet.tail (laidMet.tail h2)
  have t64 : Lib.TabIs Tryd.prog W "math/bits.deBruijn64tab" .u8 tab64 :=
    Lib.tabIs_of_head (g := 5) (by kernel_rfl) (t := 155) (by kernel_rfl) Tryd.underlying155 Tryd.underlying5 (by kernel_rfl) (by kernel_rfl) h1
  have tpow : Lib.TabIs Tryd.prog W "internal/strconv.uint64pow10" .u64 Lib.pow10Tab :=
    Lib.tabIs_of_head gPow (t := 150) (by kernel_rfl) Tryd.underlying150 Tryd.underlying111 (by kernel_rfl) (by kernel_rfl) h2
  have tasc : Lib.TabIs Tryd.prog W "strings.asciiSpace" .u8 Lib.asciiSpaceTab :=
    Lib.tabIs_of_head gAscii (t := 107) (by kernel_rfl) Tryd.underlying107 Tryd.underlying5 (by kernel_rfl) (by kernel_rfl) h3
  exact ⟨tasc, tpow, t64.cell (by kernel_rfl) 15 (by decide)⟩

/-- The heap that the door's own run leaves meets the list. -/
theorem door_met (os : Os) (args : Array Value) : laidMet Tryd.prog laidAll ((World.doorLaid Tryd.prog 48 os).forCall (fun _ _ => 0) ⟨#[], args, []⟩).memory :=
  laidMet_of_run' 8 (by kernel_rfl) (by kernel_rfl)

section
variable {H : Type} {enc : TypeId × Value → H}
/-- What lies below and is left alone reads as it did. -/
theorem trodAll_below {P : Program} (hl : laidOutB P = true) {W W' : World} (hb : Below W.heap.size W W') (sp : Nat → Bool) :
    ∀ (ts : List TypeId) (_ : (ts.all fun t => P.readableRec t && decide (t < P.types.size)) = true) (vs : List Value) (ds : List (DataW H)) (ps : List MemPlace),
      DataW.TrodAll enc P W 0 (fun _ => true) true ts vs ds ps → (∀ p ∈ ps, p.block < W.heap.size) → (∀ p ∈ ps, sp p.block = true) → DataW.TrodAll enc P W' 0 sp true ts vs ds ps
  | [], _, vs, ds, ps, h, _, _ => by
    obtain ⟨rfl, rfl, rfl⟩ := trodAll_nil h
    exact rfl
  | t :: ts, hts, vs, ds, ps, h, hlt, hsp => by
    obtain ⟨v, vs', d, ds', p, q, rfl, rfl, rfl, h0, hr⟩ := trodAll_cons h
    simp only [List.all_cons, Bool.and_eq_true, decide_eq_true_eq] at hts
    refine trodAll_cons_mk (WideElems.Trod_stays hl hts.1.1 hts.1.2 h0 (fun x hx => hb.same (hlt x (List.mem_append_left _ hx))) (fun x hx => hsp x (List.mem_append_left _ hx))) ?_
    exact trodAll_below hl hb sp ts hts.2 vs' ds' q hr (fun x hx => hlt x (List.mem_append_right _ hx)) (fun x hx => hsp x (List.mem_append_right _ hx))

/-- A law returned true and left all that was there alone: its post. -/
theorem post_law {P : Program} {f : Func} {s : ChangeSpec} {W W' : World} {args : Array Value} {ds gs : List (DataW H)} {before : List MemPlace} (hl : laidOutB P = true)
    (hts : (f.params.toList.all fun t => P.readableRec t && decide (t < P.types.size)) = true) (hv : s.vars = []) (tb : TypeId) (hres : f.resultTypes = #[tb]) (htb : P.underlying tb = some .bool)
    (hfn : s.fn H (ds ++ []) = { results := [.lit (.bool true)], args := ds })
    (hW : DataW.Whole enc P f.params.toList s.vars false W args.toList ds gs before) (hb : Below W.heap.size W W') :
    s.post enc P f false true false false W args (.bool true) W' := by
  have hlt : ∀ p ∈ before, p.block < W.heap.size := fun p hp => hW.lt p hp
  have hW' := hW
  obtain ⟨p, q, hA, hV, hpq, hz, hn⟩ := hW
  have hq : gs = [] ∧ q = [] := by
    rw [hv] at hV
    exact trodVars_none hV
  obtain ⟨rfl, rfl⟩ := hq
  have hpq' : before = p := by rw [hpq, List.append_nil]
  have e := hfn
  have hrs : (Value.bool true).resultList f.resultTypes.size = [.bool true] := by rw [hres]; rfl
  have hres' : ∀ (b : Nat) (sp : Nat → Bool) (hd : Bool), DataW.TrodAll enc P W' b sp hd f.resultTypes.toList ((Value.bool true).resultList f.resultTypes.size) (s.fn H (ds ++ [])).results [] := fun b sp hd => by
    rw [hrs, hres, e]
    exact trodAll_mk1 (shut_bool htb true)
  have hargs : ∀ sp : Nat → Bool, (∀ x ∈ before, sp x.block = true) → DataW.TrodAll enc P W' 0 sp true f.params.toList args.toList (s.fn H (ds ++ [])).args before := fun sp hsp => by
    rw [e]
    subst hpq'
    exact trodAll_below hl hb sp _ hts _ _ _ hA hlt hsp
  have hvars : ∀ sp : Nat → Bool, (∀ x ∈ before, sp x.block = true) → DataW.TrodVars enc P W' sp s.vars (s.fn H (ds ++ [])).vars [] := fun sp _ => by
    rw [e, hv]; exact rfl
  have hold : ∀ x ∈ before, (fun b => decide (b < W.heap.size)) x.block = true := fun x hx => by simpa using hlt x hx
  refine ⟨ds, [], before, [], before, [], hW', hres' _ _ _, hargs _ hold, hvars _ hold, World.keptBut_mono (fun x hx => ⟨hx, Or.inr (Or.inl hx)⟩) (hb.frame (· ∈ before)), fun _ => ?_⟩
  refine ⟨?_, _, _, ([] ++ before) ++ [], ⟨[] ++ before, [], trodAll_append (hargs _ (fun _ _ => rfl)) (hres' _ _ _), hvars _ (fun _ _ => rfl), rfl, ?_, ?_⟩, ?_⟩
  · intro j t r hj hr
    rw [hrs] at hr
    rw [hres] at hj
    rcases j with _ | j
    · simp at hj hr
      subst hj; subst hr
      exact okWide_bool_mk htb true
    · simp at hr
  · intro b off hp
    have hin : MemPlace.cell b off ∈ before := by simpa using hp
    rw [hb.frozen (hlt _ hin)]
    exact hz b off hin
  · intro ha; cases ha
  · intro x hx _
    simpa using hx
end

section
variable {P : Program} {w : World} {r : Reach} {base : Nat} {t : TypeId} {v : Value}
theorem cell_int {k : IntKind} (ht : P.underlying t = some (.int k)) (h : Cell.okWide P w r base t v) : ∃ n, v = .int k n ∧ k.has n := by
  unfold Cell.okWide at h
  rw [ht] at h
  cases v <;> simp [Cell.ok, ht] at h
  obtain ⟨rfl, h⟩ := h
  exact ⟨_, rfl, h⟩
theorem has_i64 {n : Int} (h : IntKind.i64.has n) : i64ok n := ⟨by have := h.1; simpa [IntKind.min, IntKind.signed, IntKind.bits] using this, by have := h.2; simpa [IntKind.max, IntKind.signed, IntKind.bits] using this⟩
theorem has_u16 {n : Int} (h : IntKind.u16.has n) : 0 ≤ n ∧ n < 65536 := by
  have h1 := h.1
  have h2 := h.2
  simp [IntKind.min, IntKind.max, IntKind.signed, IntKind.bits] at h1 h2
  omega
theorem has_u8 {n : Int} (h : IntKind.u8.has n) : 0 ≤ n ∧ n < 256 := by
  have h1 := h.1
  have h2 := h.2
  simp [IntKind.min, IntKind.max, IntKind.signed, IntKind.bits] at h1 h2
  omega
theorem value_int {k : IntKind} (ht : P.underlying t = some (.int k)) (h : Value.okWide P w r base t v) : ∃ n, v = .int k n ∧ k.has n := by
  unfold Value.okWide at h
  rw [ht] at h
  exact cell_int ht h
theorem value_str (ht : P.underlying t = some .string) (h : Value.okWide P w r base t v) : ∃ s : ByteArray, v = .string s ∧ s.size ≤ 9223372036854775807 := by
  unfold Value.okWide at h
  rw [ht] at h
  simp only [Cell.okWide, ht] at h
  cases v <;> simp [Cell.ok, ht] at h
  refine ⟨_, rfl, ?_⟩
  have : IntKind.i64.max = 9223372036854775807 := by decide
  omega
/-- A plain aggregate by value: its cells, each of its type. -/
theorem value_flat {ts : List TypeId} (hu : (match P.underlying t with | some (.struct _) | some (.array _ _) => true | _ => false) = true) (hts : P.cellTypes P.depth t = some ts) (hc : P.cellsOf t = ts.length) (h : Value.okWide P w r base t v) :
    ∃ cs : Array Value, v = .agg cs ∧ cs.size = ts.length ∧ ∀ (i : Nat) x u, cs[i]? = some x → ts[i]? = some u → Cell.okWide P w r base u x := by
  have h' : ∃ cs, v = .agg cs ∧ cs.size = P.cellsOf t ∧ Row.okWide P w r base t cs := by
    unfold Value.okWide at h
    split at h
    · exact h
    · exact h
    · rename_i h1 h2
      split at hu
      · rename_i fs e; exact absurd e (h1 fs)
      · rename_i n e' e; exact absurd e (h2 n e')
      · cases hu
  obtain ⟨cs, rfl, hsz, ts', hts', _, hall⟩ := h'
  obtain rfl := Option.some.inj (hts.symm.trans hts')
  rw [hc] at hsz
  refine ⟨cs, rfl, hsz, fun i x u hx hu' => ?_⟩
  obtain ⟨u', hu1, hok⟩ := hall i x hx
  have hi : i < ts.length := (List.getElem?_eq_some_iff.1 hu').1
  rw [Nat.mod_eq_of_lt hi, hu'] at hu1
  obtain rfl := Option.some.inj hu1
  exact hok
end
theorem arr7 {cs : Array Value} (h : cs.size = 7) : ∃ a b c d e f g, cs = #[a, b, c, d, e, f, g] := by
  obtain ⟨l⟩ := cs
  match l, h with
  | [a, b, c, d, e, f, g], _ => exact ⟨a, b, c, d, e, f, g, rfl⟩
theorem arr5 {cs : Array Value} (h : cs.size = 5) : ∃ a b c d e, cs = #[a, b, c, d, e] := by
  obtain ⟨l⟩ := cs
  match l, h with
  | [a, b, c, d, e], _ => exact ⟨a, b, c, d, e, rfl⟩
theorem arr2 {cs : Array Value} (h : cs.size = 2) : ∃ a b, cs = #[a, b] := by
  obtain ⟨l⟩ := cs
  match l, h with
  | [a, b], _ => exact ⟨a, b, rfl⟩
section
variable {w : World} {r : Reach} {base : Nat} {v : Value}
theorem arg_ins (h : Value.okWide Tryd.prog w r base 24 v) : ∃ i : Ins, i.Ok ∧ v = .agg #[.int .i64 (i).op, .int .i64 (i).d, .int .i64 (i).s, .int .u16 (i).imm, .int .u16 (i).aux, .int .i64 (i).bank, .int .i64 (i).size] := by
  obtain ⟨cs, rfl, hsz, hall⟩ := value_flat (ts := [3, 3, 3, 22, 22, 3, 3]) (by kernel_rfl) (by kernel_rfl) (by kernel_rfl) h
  obtain ⟨a, b, c, d, e, f, g, rfl⟩ := arr7 hsz
  obtain ⟨a, rfl, ha⟩ := cell_int Tryd.underlying3 (hall 0 _ _ rfl rfl)
  obtain ⟨b, rfl, hb⟩ := cell_int Tryd.underlying3 (hall 1 _ _ rfl rfl)
  obtain ⟨c, rfl, hc⟩ := cell_int Tryd.underlying3 (hall 2 _ _ rfl rfl)
  obtain ⟨d, rfl, hd⟩ := cell_int Tryd.underlying22 (hall 3 _ _ rfl rfl)
  obtain ⟨e, rfl, he⟩ := cell_int Tryd.underlying22 (hall 4 _ _ rfl rfl)
  obtain ⟨f, rfl, hf⟩ := cell_int Tryd.underlying3 (hall 5 _ _ rfl rfl)
  obtain ⟨g, rfl, hg⟩ := cell_int Tryd.underlying3 (hall 6 _ _ rfl rfl)
  exact ⟨⟨a, b, c, d, e, f, g⟩, ⟨has_i64 ha, has_i64 hb, has_i64 hc, has_u16 hd, has_u16 he, has_i64 hf, has_i64 hg⟩, rfl⟩
theorem arg_plc (h : Value.okWide Tryd.prog w r base 47 v) : ∃ (b a : Int), i64ok b ∧ (0 ≤ a ∧ a < 65536) ∧ v = .agg #[.int .i64 b, .int .u16 a] := by
  obtain ⟨cs, rfl, hsz, hall⟩ := value_flat (ts := [3, 22]) (by kernel_rfl) (by kernel_rfl) (by kernel_rfl) h
  obtain ⟨a, b, rfl⟩ := arr2 hsz
  obtain ⟨a, rfl, ha⟩ := cell_int Tryd.underlying3 (hall 0 _ _ rfl rfl)
  obtain ⟨b, rfl, hb⟩ := cell_int Tryd.underlying22 (hall 1 _ _ rfl rfl)
  exact ⟨a, b, has_i64 ha, has_u16 hb, rfl⟩
theorem arg_q5 (h : Value.okWide Tryd.prog w r base 25 v) : ∃ q0 q1 q2 q3 q4 : Int, (i64ok q0 ∧ i64ok q1 ∧ i64ok q2 ∧ i64ok q3 ∧ i64ok q4) ∧ v = .agg #[.int .i64 q0, .int .i64 q1, .int .i64 q2, .int .i64 q3, .int .i64 q4] := by
  obtain ⟨cs, rfl, hsz, hall⟩ := value_flat (ts := [3, 3, 3, 3, 3]) (by kernel_rfl) (by kernel_rfl) (by kernel_rfl) h
  obtain ⟨a, b, c, d, e, rfl⟩ := arr5 hsz
  obtain ⟨a, rfl, ha⟩ := cell_int Tryd.underlying3 (hall 0 _ _ rfl rfl)
  obtain ⟨b, rfl, hb⟩ := cell_int Tryd.underlying3 (hall 1 _ _ rfl rfl)
  obtain ⟨c, rfl, hc⟩ := cell_int Tryd.underlying3 (hall 2 _ _ rfl rfl)
  obtain ⟨d, rfl, hd⟩ := cell_int Tryd.underlying3 (hall 3 _ _ rfl rfl)
  obtain ⟨e, rfl, he⟩ := cell_int Tryd.underlying3 (hall 4 _ _ rfl rfl)
  exact ⟨a, b, c, d, e, ⟨has_i64 ha, has_i64 hb, has_i64 hc, has_i64 hd, has_i64 he⟩, rfl⟩
theorem arg_c2 (h : Value.okWide Tryd.prog w r base 26 v) : ∃ c0 c1 : Int, (i64ok c0 ∧ i64ok c1) ∧ v = .agg #[.int .i64 c0, .int .i64 c1] := by
  obtain ⟨cs, rfl, hsz, hall⟩ := value_flat (ts := [3, 3]) (by kernel_rfl) (by kernel_rfl) (by kernel_rfl) h
  obtain ⟨a, b, rfl⟩ := arr2 hsz
  obtain ⟨a, rfl, ha⟩ := cell_int Tryd.underlying3 (hall 0 _ _ rfl rfl)
  obtain ⟨b, rfl, hb⟩ := cell_int Tryd.underlying3 (hall 1 _ _ rfl rfl)
  exact ⟨a, b, ⟨has_i64 ha, has_i64 hb⟩, rfl⟩
theorem arg_r2 (h : Value.okWide Tryd.prog w r base 57 v) : ∃ c0 c1 : Int, ((0 ≤ c0 ∧ c0 < 256) ∧ (0 ≤ c1 ∧ c1 < 256)) ∧ v = .agg #[.int .u8 c0, .int .u8 c1] := by
  obtain ⟨cs, rfl, hsz, hall⟩ := value_flat (ts := [5, 5]) (by kernel_rfl) (by kernel_rfl) (by kernel_rfl) h
  obtain ⟨a, b, rfl⟩ := arr2 hsz
  obtain ⟨a, rfl, ha⟩ := cell_int Tryd.underlying5 (hall 0 _ _ rfl rfl)
  obtain ⟨b, rfl, hb⟩ := cell_int Tryd.underlying5 (hall 1 _ _ rfl rfl)
  exact ⟨a, b, ⟨has_u8 ha, has_u8 hb⟩, rfl⟩
theorem arg_u8 (h : Value.okWide Tryd.prog w r base 5 v) : ∃ n : Int, (0 ≤ n ∧ n < 256) ∧ v = .int .u8 n := by
  obtain ⟨n, rfl, hn⟩ := value_int Tryd.underlying5 h
  exact ⟨n, has_u8 hn, rfl⟩
theorem arg_u16 (h : Value.okWide Tryd.prog w r base 22 v) : ∃ n : Int, (0 ≤ n ∧ n < 65536) ∧ v = .int .u16 n := by
  obtain ⟨n, rfl, hn⟩ := value_int Tryd.underlying22 h
  exact ⟨n, has_u16 hn, rfl⟩
theorem arg_str (h : Value.okWide Tryd.prog w r base 9 v) : ∃ s : ByteArray, s.size ≤ 9223372036854775807 ∧ v = .string s := by
  obtain ⟨s, rfl, hs⟩ := value_str Tryd.underlying9 h
  exact ⟨s, hs, rfl⟩
end

end Go.Proofs.YtakahmhbopakmaaDoor
