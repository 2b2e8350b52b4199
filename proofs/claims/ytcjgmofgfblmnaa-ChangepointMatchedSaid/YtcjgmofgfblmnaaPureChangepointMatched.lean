/- The plain statement of ChangepointMatched: the printed function answers true after some number of rounds, at any arguments whose numbers fit their types. -/
import Derived.Test.YtcjgmofgfblmnaaOfH
namespace Go.Proofs.Ytcjgmofgfblmnaa.Pure
open Go.RowKit Go.Proofs.Ytcjgmofgfblmnaa.Q
set_option linter.unusedVariables false
set_option linter.unusedSimpArgs false
theorem ChangepointMatched (l0 l1 : List S92) (b0 b1 : Int) (w0 : (Lit.int .u8 b0).wf = true) (w1 : (Lit.int .u8 b1).wf = true) :
    ∃ k, sleuthlaw45_ChangepointMatched.f k l0 l1 b0 b1 = some true := (Seg.lawMatched l0 l1 b0 b1 (Seg.u8_bd w0) (Seg.u8_bd w1)).rounds
end Go.Proofs.Ytcjgmofgfblmnaa.Pure
