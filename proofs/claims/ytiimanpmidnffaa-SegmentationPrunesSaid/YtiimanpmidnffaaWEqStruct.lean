-- Words of the kit's printer, less those that no text of this law names: cut by this session's prune.py
import Derived.Test.YtiimanpmidnffaaWWords
import Derived.Laws.StructEq
/-! ### 53. '==' of structs as_ one Bool -/
namespace Go.Proofs.YtiimanpmidnffaaW.PrintWords
open Go.RowKit
section
variable {P : Program} {d : Nat} {xs ys : Array Value} {f : Field} {fs : List Field} {a b : Value} {r s : Bool} {w : World}
end
end Go.Proofs.YtiimanpmidnffaaW.PrintWords
