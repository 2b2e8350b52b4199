/- The plain statement of Checks: the printed function answers true after some number of rounds; it stands on no further condition than that the argument's numbers fit their types. -/
import Derived.Test.YtiimanpmidnffaaSegV
namespace Go.Proofs.Ytiimanpmidnffaa.Pure
open Go.RowKit Go.Proofs.Ytiimanpmidnffaa.Q
set_option linter.unusedVariables false
theorem SegmentationChecks (l : List Int) (p : Int) (hm : l.length ≤ maxLen) (y : l.length * 8 ≤ 140737488351232) (hw : ∀ x ∈ l, (Lit.int .i64 x).wf = true) (wp : (Lit.int .i64 p).wf = true) :
    ∃ k, sleuthlaw44_SegmentationChecks.f k l p = some true := (Seg.lawChecks l p).rounds
end Go.Proofs.Ytiimanpmidnffaa.Pure
