/- The plain statement of ChangepointFair: the printed function answers true after some number of rounds; it stands on no further condition than that the arguments' numbers fit their types. -/
import Derived.Test.YtcjgmofgfblmnaaOfG
namespace Go.Proofs.Ytcjgmofgfblmnaa.Pure
open Go.RowKit Go.Proofs.Ytcjgmofgfblmnaa.Q
set_option linter.unusedVariables false
set_option linter.unusedSimpArgs false
theorem i16_bd {x : Int} (h : (Lit.int .i16 x).wf = true) : -32768 ≤ x ∧ x ≤ 32767 := by
  simp only [Lit.wf, IntKind.min, IntKind.max, IntKind.signed, IntKind.bits, Bool.and_eq_true, decide_eq_true_eq] at h
  simpa using h
theorem ChangepointFair : sleuthlaw45_ChangepointFair.Pure := fun l0 l1 a2 _ y0 w0 _ y1 w1 w2 =>
  (Seg.lawFair l0 l1 a2 (by omega) (by omega) (fun x hx => Seg.u8_bd (w0 x hx)) (fun x hx => Seg.u8_bd (w1 x hx)) (i16_bd w2)).rounds
end Go.Proofs.Ytcjgmofgfblmnaa.Pure
