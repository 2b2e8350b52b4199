/- The plain statement of Costs: the printed function answers true after some number of rounds; it stands on no further condition than that the argument's numbers fit their types. -/
import Derived.Test.YtiimanpmidnffaaSegP
namespace Go.Proofs.Ytiimanpmidnffaa.Pure
open Go.RowKit Go.Proofs.Ytiimanpmidnffaa.Q
set_option linter.unusedVariables false
theorem SegmentationCosts (l0 : List Int) (a b c : Int) (hm : l0.length ≤ maxLen) (y : l0.length * 8 ≤ 140737488351232) (hw : ∀ x ∈ l0, (Lit.int .i64 x).wf = true) (wa : (Lit.int .i64 a).wf = true) (wb : (Lit.int .i64 b).wf = true) (wc : (Lit.int .i64 c).wf = true) :
    ∃ k, sleuthlaw44_SegmentationCosts.f k l0 a b c = some true := (Seg.lawCosts l0 a b c).rounds
end Go.Proofs.Ytiimanpmidnffaa.Pure
