/- fields of the reference: what its first statement leaves; word. -/
import Derived.Test.YtakahmhbopakmaaDoorPlainA
import Derived.Test.YtakahmhbopakmaaDoorMadeB
import Derived.BigQuiet
import Derived.Deep.QuietTactic
import Derived.Deep.DeepCutAuto
set_option linter.all false
namespace Go.Proofs.YtakahmhbopakmaaDoor
open Go.RowKit

set_option maxHeartbeats 1000000 in
theorem rword_any (s : ByteArray) (k : Nat) (h : k + 1 < s.size) (hm : s.size ≤ 9223372036854775807) (kk : Int) (hk : kk = k) (w : World) :
    Calls Tryd.prog 60 #[.string s, .int .i64 kk] w fun e w' => e = .returned (.int .u16 (byt s k + 256 * byt s (k + 1))) ∧ Below w.heap.size w w' := by
  have ix : ∀ W, (Instr.index 9 (.string s) (.int .i64 kk)).run Tryd.prog W = .ok (.int .u8 (byt s k)) W := by subst hk; exact index_byt s k (by omega)
  have hkw : IntKind.i64.wrap (kk + 1) = kk + 1 := IntWalk.i64_in _ (by omega)
  have ix1 : ∀ W, (Instr.index 9 (.string s) (.int .i64 (kk + 1))).run Tryd.prog W = .ok (.int .u8 (byt s (k + 1))) W := by
    subst hk; have := index_byt s (k + 1) h; simpa using this
  obtain ⟨b0, b1⟩ := byt_bd s k
  obtain ⟨c0, c1⟩ := byt_bd s (k + 1)
  have k0 : 0 ≤ kk := by omega
  have k1 : kk ≤ 9223372036854775805 := by omega
  clear hk h hm
  generalize byt s k = x at *
  generalize byt s (k + 1) = y at *
  have h1 : IntKind.u16.wrap x = x := IntWalk.u16_in _ (by omega)
  have h2 : IntKind.u16.wrap y = y := IntWalk.u16_in _ (by omega)
  have h3 : IntKind.u16.wrap (256 * y) = 256 * y := IntWalk.u16_in _ (by omega)
  have h4 : IntKind.u16.wrap (x + 256 * y) = x + 256 * y := IntWalk.u16_in _ (by omega)
  go_enter Tryd.func60, Tryd.ntmps60
  go_upto_region 1 with fail
  go_quiet (fail)
  go_wp2
  go_ret
  exact ⟨rfl, rfl, rfl, rfl, Nat.le_refl _, fun _ _ => rfl⟩

def RFCut (s : ByteArray) (w : World) (v : Value) (w' : World) : Prop :=
  ∃ g, v = .pointer (some ⟨g, 0, none⟩) ∧ w'.heap[g]? = some (.cells #[Value.int .i64 (byt s 0), .int .i64 0, .int .i64 0, .int .u16 0, .int .u16 0, .int .i64 0, .int .i64 (rsizeS (byt s 0))] 24 (0, 0)) ∧ w'.heap[w.heap.size]? = some (.cells #[Value.int .i64 0, .int .i64 0, .int .i64 0, .int .u16 0, .int .u16 0, .int .i64 0, .int .i64 0] 24 (0, 0)) ∧ w.heap.size < g ∧ g < w'.heap.size ∧ Below w.heap.size w w'
theorem RFCut.mk' {s w g w' W} (hW : w.alloc (.cells #[Value.int .i64 0, .int .i64 0, .int .i64 0, .int .u16 0, .int .u16 0, .int .i64 0, .int .i64 0] 24) = W) (h1 : w'.heap[g]? = some (.cells #[Value.int .i64 (byt s 0), .int .i64 0, .int .i64 0, .int .u16 0, .int .u16 0, .int .i64 0, .int .i64 (rsizeS (byt s 0))] 24 (0, 0))) (h2 : w.heap.size < g) (h3 : g < w'.heap.size) (hb : Below (w.heap.size + 1) W w') : RFCut s w (.pointer (some ⟨g, 0, none⟩)) w' := by
  subst hW
  refine ⟨g, rfl, h1, ?_, h2, h3, ((Below.refl _ _).alloc (Nat.le_refl _) _).trans (hb.mono (by omega))⟩
  rw [hb.block _ (by omega)]; exact heap_alloc_new _ _

end Go.Proofs.YtakahmhbopakmaaDoor
