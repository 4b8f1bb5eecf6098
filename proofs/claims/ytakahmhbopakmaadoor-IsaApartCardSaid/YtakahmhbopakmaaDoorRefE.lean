/- Valid of the reference implementation: every instruction. No condition. -/
import Derived.Test.YtakahmhbopakmaaDoorRefC0
import Derived.Test.YtakahmhbopakmaaDoorRefC1
import Derived.Test.YtakahmhbopakmaaDoorRefC2
import Derived.Test.YtakahmhbopakmaaDoorRefC3
import Derived.BigQuiet
import Derived.Deep.QuietTactic
set_option linter.all false
namespace Go.Proofs.YtakahmhbopakmaaDoor
open Go.RowKit

set_option maxRecDepth 100000 in
set_option maxHeartbeats 1000000 in
theorem rvalid_0 (i : Ins) (hf : fmtS i.op = 0) (w : World) :
    Calls Tryd.prog 21 #[.agg #[.int .i64 (i).op, .int .i64 (i).d, .int .i64 (i).s, .int .u16 (i).imm, .int .u16 (i).aux, .int .i64 (i).bank, .int .i64 (i).size]] w fun e w' => e = .returned (.bool (rvalidS i)) ∧ Below w.heap.size w w' := by
  have e0 : rvalidS i = false := by unfold rvalidS; rw [hf]; rfl
  have HF := Lib.hid hf
  rw [e0]
  clear hf e0
  go_enter Tryd.func21, Tryd.ntmps21
  go_wp2_with (first
    | (go_at_call 32; refine (fmt_any _ _).mono ?_; rintro e w1 ⟨rfl, hb1⟩; rw [HF.out]; have hz1 := hb1.size; simp at hz1))
  go_quiet (fail)
  go_wp2
  go_ret
  exact ⟨rfl, (((Below.refl _ _).alloc (Nat.le_refl _) _).trans (hb1.mono (by simp))).trans ⟨rfl, rfl, rfl, Nat.le_refl _, fun _ _ => rfl⟩⟩

theorem rvalid_any (i : Ins) (w : World) :
    Calls Tryd.prog 21 #[.agg #[.int .i64 (i).op, .int .i64 (i).d, .int .i64 (i).s, .int .u16 (i).imm, .int .u16 (i).aux, .int .i64 (i).bank, .int .i64 (i).size]] w fun e w' => e = .returned (.bool (rvalidS i)) ∧ Below w.heap.size w w' := by
  have := fmtS_bd i.op
  by_cases h0 : fmtS i.op = 0
  · exact rvalid_0 i h0 w
  by_cases h1 : fmtS i.op = 1
  · exact rvalid_1 i h1 w
  by_cases h2 : fmtS i.op = 2
  · exact rvalid_2 i h2 w
  by_cases h3 : fmtS i.op = 3
  · exact rvalid_3 i h3 w
  by_cases h4 : fmtS i.op = 4
  · exact rvalid_4 i h4 w
  by_cases h5 : fmtS i.op = 5
  · exact rvalid_5 i h5 w
  by_cases h6 : fmtS i.op = 6
  · exact rvalid_6 i h6 w
  by_cases h7 : fmtS i.op = 7
  · exact rvalid_7 i h7 w
  by_cases h8 : fmtS i.op = 8
  · exact rvalid_8 i h8 w
  by_cases h9 : fmtS i.op = 9
  · exact rvalid_9 i h9 w
  by_cases h10 : fmtS i.op = 10
  · exact rvalid_10 i h10 w
  by_cases h11 : fmtS i.op = 11
  · exact rvalid_11 i h11 w
  by_cases h12 : fmtS i.op = 12
  · exact rvalid_12 i h12 w
  by_cases h13 : fmtS i.op = 13
  · exact rvalid_13 i h13 w
  by_cases h14 : fmtS i.op = 14
  · exact rvalid_14 i h14 w
  by_cases h15 : fmtS i.op = 15
  · exact rvalid_15 i h15 w
  by_cases h16 : fmtS i.op = 16
  · exact rvalid_16 i h16 w
  by_cases h17 : fmtS i.op = 17
  · exact rvalid_17 i h17 w
  by_cases h18 : fmtS i.op = 18
  · exact rvalid_18 i h18 w
  omega

end Go.Proofs.YtakahmhbopakmaaDoor
