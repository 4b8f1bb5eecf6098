/- Encode of the reference: every instruction whose fields lie in their types' ranges. -/
import Derived.Test.YtakahmhbopakmaaDoorREnc0
import Derived.Test.YtakahmhbopakmaaDoorREnc1
import Derived.Test.YtakahmhbopakmaaDoorREnc2
import Derived.Test.YtakahmhbopakmaaDoorREnc3
set_option linter.all false
namespace Go.Proofs.YtakahmhbopakmaaDoor
open Go.RowKit

theorem rencode_good (i : Ins) (hi : i.Ok) (hv : validS i = true) (w : World) :
    Calls Tryd.prog 19 #[.agg #[.int .i64 (i).op, .int .i64 (i).d, .int .i64 (i).s, .int .u16 (i).imm, .int .u16 (i).aux, .int .i64 (i).bank, .int .i64 (i).size]] w fun e w' => e = .returned (.tuple #[.string (strOf (i.op :: refTail (fmtS i.op) i)), .int .i64 0]) ∧ Below w.heap.size w w' := by
  have hf := (valid_small i hi hv).1
  rcases fmt18' _ hf with e | e | e | e | e | e | e | e | e | e | e | e | e | e | e | e | e | e
  · exact rencode_1 i hi e hv w
  · exact rencode_2 i hi e hv w
  · exact rencode_3 i hi e hv w
  · exact rencode_4 i hi e hv w
  · exact rencode_5 i hi e hv w
  · exact rencode_6 i hi e hv w
  · exact rencode_7 i hi e hv w
  · exact rencode_8 i hi e hv w
  · exact rencode_9 i hi e hv w
  · exact rencode_10 i hi e hv w
  · exact rencode_11 i hi e hv w
  · exact rencode_12 i hi e hv w
  · exact rencode_13 i hi e hv w
  · exact rencode_14 i hi e hv w
  · exact rencode_15 i hi e hv w
  · exact rencode_16 i hi e hv w
  · exact rencode_17 i hi e hv w
  · exact rencode_18 i hi e hv w
theorem rencode_any (i : Ins) (hi : i.Ok) (w : World) :
    Calls Tryd.prog 19 #[.agg #[.int .i64 (i).op, .int .i64 (i).d, .int .i64 (i).s, .int .u16 (i).imm, .int .u16 (i).aux, .int .i64 (i).bank, .int .i64 (i).size]] w fun e w' => e = .returned (.tuple #[.string (strOf (encB i)), .int .i64 (encE i)]) ∧ Below w.heap.size w w' := by
  by_cases hf : fmtS i.op = 0
  · have e1 : encB i = [] := by unfold encB; rw [fOf_zero hf]; rfl
    have e2 : encE i = 11 := by unfold encE; rw [fOf_zero hf]; rfl
    rw [e1, e2]; exact rencode_none i hf w
  · cases hv : validS i with
    | false =>
      have e1 : encB i = [] := by unfold encB; rw [hv]; simp
      have e2 : encE i = 3 := by unfold encE; rw [(fOf_some hf).1, hv]; rfl
      rw [e1, e2]; exact rencode_bad i hf (by rw [← valid_eq i hi]; exact hv) w
    | true =>
      have e1 : encB i = i.op :: refTail (fmtS i.op) i := by unfold encB; rw [(fOf_some hf).1, hv]; exact bytes_tail i hf
      have e2 : encE i = 0 := by unfold encE; rw [(fOf_some hf).1, hv]; rfl
      rw [e1, e2]; exact rencode_good i hi hv w

end Go.Proofs.YtakahmhbopakmaaDoor
