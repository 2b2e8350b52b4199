/- The plain statement of Verifies: the printed function answers true after some number of rounds; it stands on no further condition than that the argument's numbers fit their types. -/
import Derived.Test.YtiimanpmidnffaaSegN
namespace Go.Proofs.Ytiimanpmidnffaa.Pure
open Go.RowKit Go.Proofs.Ytiimanpmidnffaa.Q
set_option linter.unusedVariables false
theorem i8_bd {x : Int} (h : (Lit.int .i8 x).wf = true) : -128 ≤ x ∧ x ≤ 127 := by
  simp only [Lit.wf, IntKind.min, IntKind.max, IntKind.signed, IntKind.bits, Bool.and_eq_true, decide_eq_true_eq] at h
  simpa using h
theorem SegmentationVerifies (l0 : List Int) (a1 : Int) (b cuts : List Int) (c : Int) (more : Bool) (hm : l0.length ≤ maxLen) (y : l0.length * 1 ≤ 140737488351232) (hw : ∀ x ∈ l0, (Lit.int .u8 x).wf = true) (wa : (Lit.int .u8 a1).wf = true)
    (hmb : b.length ≤ maxLen) (hwb : ∀ x ∈ b, (Lit.int .i8 x).wf = true) (hmc : cuts.length ≤ maxLen) (hwc : ∀ x ∈ cuts, (Lit.int .i64 x).wf = true) (wc : (Lit.int .i8 c).wf = true) :
    ∃ k, sleuthlaw44_SegmentationVerifies.f k l0 a1 b cuts c more = some true :=
  (Seg.lawVerifies l0 a1 b cuts c more (fun x hx => Seg.u8_bd (hw x hx)) (Seg.u8_bd wa) (fun x hx => i8_bd (hwb x hx)) (i8_bd wc)).rounds
end Go.Proofs.Ytiimanpmidnffaa.Pure
