/- The plain statement of ChangepointOf: the printed function answers true after some number of rounds; it stands on no further condition than that the arguments' numbers fit their types. -/
import Derived.Test.YtcjgmofgfblmnaaOfB
namespace Go.Proofs.Ytcjgmofgfblmnaa.Pure
open Go.RowKit Go.Proofs.Ytcjgmofgfblmnaa.Q
set_option linter.unusedVariables false
set_option linter.unusedSimpArgs false
theorem ChangepointOf : sleuthlaw45_ChangepointOf.Pure := fun a0 l1 a2 w0 _ _ w1 _ => (Seg.lawOf a0 l1 a2 (Seg.u8_bd w0) (fun x hx => Seg.u8_bd (w1 x hx))).rounds
end Go.Proofs.Ytcjgmofgfblmnaa.Pure
