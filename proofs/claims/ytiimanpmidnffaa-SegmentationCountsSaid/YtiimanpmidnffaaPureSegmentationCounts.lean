/- The plain statement of Counts: the printed function answers true after some number of rounds; it stands on no further condition than that the argument's numbers fit their types. -/
import Derived.Test.YtiimanpmidnffaaSegU
namespace Go.Proofs.Ytiimanpmidnffaa.Pure
open Go.RowKit Go.Proofs.Ytiimanpmidnffaa.Q
set_option linter.unusedVariables false
theorem SegmentationCounts (l : List Int) (a : Int) (hm : l.length ≤ maxLen) (y : l.length * 1 ≤ 140737488351232) (hw : ∀ x ∈ l, (Lit.int .u8 x).wf = true) (wa : (Lit.int .i64 a).wf = true) :
    ∃ k, sleuthlaw44_SegmentationCounts.f k l a = some true := (Seg.lawCounts l a (fun x hx => Seg.u8_bd (hw x hx))).rounds
end Go.Proofs.Ytiimanpmidnffaa.Pure
