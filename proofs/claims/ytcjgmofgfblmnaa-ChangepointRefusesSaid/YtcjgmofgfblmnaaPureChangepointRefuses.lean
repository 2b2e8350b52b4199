/- The plain statement of ChangepointRefuses: the printed function answers true after some number of rounds; it stands on no further condition than that the arguments' numbers fit their types. -/
import Derived.Test.YtcjgmofgfblmnaaOfD
namespace Go.Proofs.Ytcjgmofgfblmnaa.Pure
open Go.RowKit Go.Proofs.Ytcjgmofgfblmnaa.Q
set_option linter.unusedVariables false
set_option linter.unusedSimpArgs false
theorem i64_bd {x : Int} (h : (Lit.int .i64 x).wf = true) : -9223372036854775808 ≤ x ∧ x ≤ 9223372036854775807 := by
  simp only [Lit.wf, IntKind.min, IntKind.max, IntKind.signed, IntKind.bits, Bool.and_eq_true, decide_eq_true_eq] at h
  simpa using h
theorem ChangepointRefuses (s0 s1 : ByteArray) (s2 s3 s4 s5 : Int) (l : List Int) (p : Int) (x0 : s0.size ≤ maxLen) (x1 : s1.size ≤ maxLen) (w2 : (Lit.int .i64 s2).wf = true) (w3 : (Lit.int .i64 s3).wf = true) (w4 : (Lit.int .i64 s4).wf = true) (w5 : (Lit.int .i64 s5).wf = true) (hm : l.length ≤ maxLen) (hw : ∀ x ∈ l, (Lit.int .i64 x).wf = true) (w6 : (Lit.int .i64 p).wf = true) :
    ∃ k, sleuthlaw45_ChangepointRefuses.f k s0 s1 s2 s3 s4 s5 l p = some true := (Seg.lawRefuses s0 s1 s2 s3 s4 s5 l p (i64_bd w3) (i64_bd w4)).rounds
end Go.Proofs.Ytcjgmofgfblmnaa.Pure
