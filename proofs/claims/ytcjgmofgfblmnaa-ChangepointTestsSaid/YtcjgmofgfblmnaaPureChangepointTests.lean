/- The plain statement of ChangepointTests: the printed function answers true after some number of rounds; it stands on no further condition than that the lists are no longer than memory. -/
import Derived.Test.YtcjgmofgfblmnaaOfE
namespace Go.Proofs.Ytcjgmofgfblmnaa.Pure
open Go.RowKit Go.Proofs.Ytcjgmofgfblmnaa.Q
set_option linter.unusedVariables false
set_option linter.unusedSimpArgs false
theorem ChangepointTests (l0 : List Int) (l1 : List Int) (hm0 : l0.length ≤ maxLen) (y0 : l0.length * 8 ≤ 140737488351232) (hw0 : ∀ x ∈ l0, (Lit.int .i64 x).wf = true) (hm1 : l1.length ≤ maxLen) (y1 : l1.length * 8 ≤ 140737488351232) (hw1 : ∀ x ∈ l1, (Lit.int .i64 x).wf = true) :
    ∃ k, sleuthlaw45_ChangepointTests.f k l0 l1 = some true := (Seg.lawTests l0 l1 (by omega) (by omega)).rounds
end Go.Proofs.Ytcjgmofgfblmnaa.Pure
