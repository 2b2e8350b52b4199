/- The plain statement of Raw: the printed function answers true after some number of rounds; it stands on no further condition than that the argument's numbers fit their types. -/
import Derived.Test.YtiimanpmidnffaaSegR
namespace Go.Proofs.Ytiimanpmidnffaa.Pure
open Go.RowKit Go.Proofs.Ytiimanpmidnffaa.Q
set_option linter.unusedVariables false
theorem SegmentationRaw (l : List Int) (p x : Int) (f : List Int) (hm : l.length ≤ maxLen) (y : l.length * 8 ≤ 140737488351232) (hw : ∀ x ∈ l, (Lit.int .i64 x).wf = true) (wp : (Lit.int .i64 p).wf = true) (wx : (Lit.int .i64 x).wf = true)
    (hmf : f.length ≤ maxLen) (yf : f.length * 8 ≤ 140737488351232) (hwf : ∀ x ∈ f, (Lit.int .i64 x).wf = true) :
    ∃ k, sleuthlaw44_SegmentationRaw.f k l p x f = some true := (Seg.lawRaw l p x f).rounds
end Go.Proofs.Ytiimanpmidnffaa.Pure
