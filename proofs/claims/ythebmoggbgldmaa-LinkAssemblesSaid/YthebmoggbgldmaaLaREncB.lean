/- Encode of the reference: every instruction whose fields lie in their types' ranges. -/
import Derived.Test.YthebmoggbgldmaaLaREnc0
import Derived.Test.YthebmoggbgldmaaLaREnc1
import Derived.Test.YthebmoggbgldmaaLaREnc2
import Derived.Test.YthebmoggbgldmaaLaREnc3
set_option linter.all false
namespace Go.Proofs.Ythebmoggbgldmaa
open Go.RowKit
theorem rencode_good (i : Ins) (hi : i.Ok) (hv : zQ i = true) (w : World) :
  Calls Try.prog 101 #[.agg #[.int .i64 (i).op, .int .i64 (i).d, .int .i64 (i).s, .int .u16 (i).imm, .int .u16 (i).aux, .int .i64 (i).bank, .int .i64 (i).size]] w fun e w' => e = .returned (.tuple #[.string (zO (i.op :: yg (zw i.op) i)), .int .i64 0]) ∧ Below w.heap.size w w' := by
 have hf := (xk i hi hv).1
 rcases fmt18' _ hf with e | e | e | e | e | e | e | e | e | e | e | e | e | e | e | e | e | e
 ·exact rencode_g0 i hi (by omega) hv w
 ·exact rencode_g0 i hi (by omega) hv w
 ·exact rencode_g0 i hi (by omega) hv w
 ·exact rencode_g0 i hi (by omega) hv w
 ·exact rencode_g0 i hi (by omega) hv w
 ·exact rencode_g1 i hi (by omega) hv w
 ·exact rencode_g1 i hi (by omega) hv w
 ·exact rencode_g2 i hi (by omega) hv w
 ·exact rencode_g2 i hi (by omega) hv w
 ·exact rencode_g1 i hi (by omega) hv w
 ·exact rencode_g2 i hi (by omega) hv w
 ·exact rencode_g3 i hi (by omega) hv w
 ·exact rencode_g3 i hi (by omega) hv w
 ·exact rencode_g2 i hi (by omega) hv w
 ·exact rencode_g1 i hi (by omega) hv w
 ·exact rencode_g3 i hi (by omega) hv w
 ·exact rencode_g3 i hi (by omega) hv w
 ·exact rencode_g1 i hi (by omega) hv w
theorem rencode_any (i : Ins) (hi : i.Ok) (w : World) :
  Calls Try.prog 101 #[.agg #[.int .i64 (i).op, .int .i64 (i).d, .int .i64 (i).s, .int .u16 (i).imm, .int .u16 (i).aux, .int .i64 (i).bank, .int .i64 (i).size]] w fun e w' => e = .returned (.tuple #[.string (zO (xl i)), .int .i64 (jx i)]) ∧ Below w.heap.size w w' := by
 by_cases hf : zw i.op = 0
 ·have e1 : xl i = [] := by unfold xl; rw [fOf_zero hf]; rfl
  have e2 : jx i = 11 := by unfold jx; rw [fOf_zero hf]; rfl
  rw [e1, e2]; exact rencode_none i hf w
 ·cases hv : zQ i with
  | false =>
   have e1 : xl i = [] := by unfold xl; rw [hv]; simp
   have e2 : jx i = 3 := by unfold jx; rw [(fOf_some hf).1, hv]; rfl
   rw [e1, e2]; exact rencode_bad i hf (by rw [← yR i hi]; exact hv) w
  | true =>
   have e1 : xl i = i.op :: yg (zw i.op) i := by unfold xl; rw [(fOf_some hf).1, hv]; exact bytes_tail i hf
   have e2 : jx i = 0 := by unfold jx; rw [(fOf_some hf).1, hv]; rfl
   rw [e1, e2]; exact rencode_good i hi hv w
end Go.Proofs.Ythebmoggbgldmaa
