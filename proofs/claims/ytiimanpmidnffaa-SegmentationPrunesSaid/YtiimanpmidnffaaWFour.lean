-- Words of the kit's printer, less those that no text of this law names: cut by this session's prune.py
import Derived.Test.YtiimanpmidnffaaWTab
/-! ### 56. Four, five, six operations that may come up next, in any order -/
namespace Go.Proofs.YtiimanpmidnffaaW.PrintLast
section
variable {P : Program} {ops : Array Oper} {Q : Exit → Act → World → Prop} {md : Region.Mode} {S : World → Prop} {ds : List Nat} {T : Bool × List (List Nat × List Nat)}
end
end Go.Proofs.YtiimanpmidnffaaW.PrintLast
