/- The plain statement of ChangepointSizes: the printed function answers true after some number of rounds, at any arguments whose numbers fit their types. -/
import Derived.Test.YtcjgmofgfblmnaaOfN
import Derived.Test.YtcjgmofgfblmnaaRowB
namespace Go.Proofs.Ytcjgmofgfblmnaa.Pure
open Go.RowKit Go.Proofs.Ytcjgmofgfblmnaa.Q
set_option linter.unusedVariables false
set_option linter.unusedSimpArgs false
theorem ChangepointSizes (l0 : List S92) (a1 a2 : Int) (hb : ∀ x ∈ l0, RowB.Byt x) (w1 : (Lit.int .i64 a1).wf = true) (w2 : (Lit.int .i64 a2).wf = true) :
    ∃ k, sleuthlaw45_ChangepointSizes.f k l0 a1 a2 = some true := (Seg.lawSizes l0 a1 a2 (fun x hx => ⟨Seg.i8_bd (hb x hx).1, Seg.i8_bd (hb x hx).2.1, Seg.i8_bd (hb x hx).2.2⟩)).rounds
end Go.Proofs.Ytcjgmofgfblmnaa.Pure
