/- The plain statement of ChangepointClusters: the printed function answers true after some number of rounds, at any arguments. -/
import Derived.Test.YtcjgmofgfblmnaaOfM
namespace Go.Proofs.Ytcjgmofgfblmnaa.Pure
open Go.RowKit Go.Proofs.Ytcjgmofgfblmnaa.Q
set_option linter.unusedVariables false
set_option linter.unusedSimpArgs false
theorem ChangepointClusters (l0 : List Int) (a1 : Int) (hm : l0.length ≤ maxLen) (y : l0.length * 8 ≤ 140737488351232) (hw : ∀ x ∈ l0, (Lit.int .i64 x).wf = true) (w1 : (Lit.int .i64 a1).wf = true) :
    ∃ k, sleuthlaw45_ChangepointClusters.f k l0 a1 = some true := (Seg.lawClusters l0 a1).rounds
end Go.Proofs.Ytcjgmofgfblmnaa.Pure
