/- The plain statement of ChangepointMatches: the printed function answers true after some number of rounds, at any arguments. -/
import Derived.Test.YtcjgmofgfblmnaaOfF
namespace Go.Proofs.Ytcjgmofgfblmnaa.Pure
open Go.RowKit Go.Proofs.Ytcjgmofgfblmnaa.Q
set_option linter.unusedVariables false
set_option linter.unusedSimpArgs false
theorem ChangepointMatches (l0 l1 : List S92) (a2 : Int) (w2 : (Lit.int .i64 a2).wf = true) :
    ∃ k, sleuthlaw45_ChangepointMatches.f k l0 l1 a2 = some true := (Seg.lawMatches l0 l1 a2).rounds
end Go.Proofs.Ytcjgmofgfblmnaa.Pure
