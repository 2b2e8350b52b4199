/- The plain statement of ChangepointLimits: the printed function answers true after some number of rounds; it stands on no further condition than that the arguments' numbers fit their types. -/
import Derived.Test.YtcjgmofgfblmnaaOfL
namespace Go.Proofs.Ytcjgmofgfblmnaa.Pure
open Go.RowKit Go.Proofs.Ytcjgmofgfblmnaa.Q
set_option linter.unusedVariables false
set_option linter.unusedSimpArgs false
theorem u16_bd {x : Int} (h : (Lit.int .u16 x).wf = true) : 0 ≤ x ∧ x ≤ 65535 := by
  simp only [Lit.wf, IntKind.min, IntKind.max, IntKind.signed, IntKind.bits, Bool.and_eq_true, decide_eq_true_eq] at h
  simpa using h
theorem ChangepointLimits : sleuthlaw45_ChangepointLimits.Pure := fun a0 a1 w0 w1 => (Seg.lawLimits a0 a1 (u16_bd w0) (u16_bd w1)).rounds
end Go.Proofs.Ytcjgmofgfblmnaa.Pure
