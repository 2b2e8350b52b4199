/- The plain statement of ChangepointShifts: the printed function answers true after some number of rounds; it stands on no further condition than that the arguments' numbers fit their types. -/
import Derived.Test.YtcjgmofgfblmnaaOfC
namespace Go.Proofs.Ytcjgmofgfblmnaa.Pure
open Go.RowKit Go.Proofs.Ytcjgmofgfblmnaa.Q
set_option linter.unusedVariables false
set_option linter.unusedSimpArgs false
theorem ChangepointShifts (l0 : List Int) (a1 b0 b1 : Int) (hm : l0.length ≤ maxLen) (y : l0.length * 1 ≤ 140737488351232) (hw : ∀ x ∈ l0, (Lit.int .u8 x).wf = true) (w1 : (Lit.int .u8 a1).wf = true) (w2 : (Lit.int .u8 b0).wf = true) (w3 : (Lit.int .u8 b1).wf = true) :
    ∃ k, sleuthlaw45_ChangepointShifts.f k l0 a1 b0 b1 = some true := (Seg.lawShifts l0 a1 b0 b1 (fun x hx => Seg.u8_bd (hw x hx)) (Seg.u8_bd w1) (Seg.u8_bd w2) (Seg.u8_bd w3)).rounds
end Go.Proofs.Ytcjgmofgfblmnaa.Pure
