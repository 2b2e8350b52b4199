-- Words of the kit's printer, less those that no text of this law names: cut by this session's prune.py
import Derived.Test.YtiimanpmidnffaaWInv
import Derived.Test.YtiimanpmidnffaaWFootNe
namespace Go.Proofs.YtiimanpmidnffaaW.PrintWords
open Go.RowKit
end Go.Proofs.YtiimanpmidnffaaW.PrintWords
namespace Go.Proofs.YtiimanpmidnffaaW.PrintLast
section
variable {ops : Array Oper} {a : Act} {o og : Oper} {g : Nat} {t : Tmp} {u : Bool}
end
end Go.Proofs.YtiimanpmidnffaaW.PrintLast
