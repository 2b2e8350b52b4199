/- The plain statement of Moves: the printed function answers true after some number of rounds; it stands on no further condition than that the argument's numbers fit their types. -/
import Derived.Test.YtiimanpmidnffaaSegS
namespace Go.Proofs.Ytiimanpmidnffaa.Pure
open Go.RowKit Go.Proofs.Ytiimanpmidnffaa.Q
set_option linter.unusedVariables false
theorem i16_bd {x : Int} (h : (Lit.int .i16 x).wf = true) : -32768 ≤ x ∧ x ≤ 32767 := by
  simp only [Lit.wf, IntKind.min, IntKind.max, IntKind.signed, IntKind.bits, Bool.and_eq_true, decide_eq_true_eq] at h
  simpa using h
theorem SegmentationMoves (l : List Int) (a b c : Int) (hm : l.length ≤ maxLen) (y : l.length * 1 ≤ 140737488351232) (hw : ∀ x ∈ l, (Lit.int .u8 x).wf = true) (wa : (Lit.int .u8 a).wf = true) (wb : (Lit.int .u8 b).wf = true) (wc : (Lit.int .i16 c).wf = true) :
    ∃ k, sleuthlaw44_SegmentationMoves.f k l a b c = some true := (Seg.lawMoves l a b c (fun x hx => Seg.u8_bd (hw x hx)) (Seg.u8_bd wa) (Seg.u8_bd wb) (i16_bd wc)).rounds
end Go.Proofs.Ytiimanpmidnffaa.Pure
