/-
  No cell of these rows narrows 'for every input' (looked for: loops, veiled, ifaces, maps, wideKeys, modest, calm, conditions, laid).
  DERIVED. THE GIVEN ROWS OF THIS SEAT. 10 by the template 'for every input the law returns true; each argument reads behind the call as it read before'; 0 by the template 'total and deterministic' (their statements: YtcjgmofgfblmnaaTotals.lean).
  GIVEN WITH THE SEED: the statements are not yours to turn. If you find one false, say at which input.
  Laid BY PROGRAM, IN A SANDBOX (cutbox-rows.mjs): the forced cells as the released guide's own fill.sh prints them over the translation 6dbad239a79cc7a9… (all of the seat's roots in one cut). By AI agents, Wed Nov 11 2026. No macro, syntax, notation, axiom, sorry.
-/
import Derived.Test.YtcjgmofgfblmnaaChecked
import GoSem.Claim
import GoSem.ClaimJoined
import GoSem.ClaimMapViews
import Derived.JoinedTies
import Derived.KernelRfl
namespace Go.Proofs.Ytcjgmofgfblmnaa
/- THE CELL 'sum', in the pinned program and in every row, IS THE sha256 OF THE DUMP (.gsa) THAT YtcjgmofgfblmnaaProg.lean LOADS. Nothing in Lean hashes anything: it is a label: what it is worth is what the hold of that sum in a sandbox is worth. -/
noncomputable def Try.pinned : Pinned := { name := "ytcjgmofgfblmnaa", sum := "6dbad239a79cc7a94b6653950b62540af0cc077280af86919492b389c08fd203", checked := Try.checked }
namespace Rows
def none {H : Type} : Left H := { results := [], args := [] }

/-- 'sleuthlaw45.ChangepointOf': WHATEVER THE INPUT: true; the input reads as it did. -/
def changepointOfSpec : ChangeSpec := { name := "changepointOf", fn := fun _ => fun
  | [d1, d2, d3] => { results := [.lit (.bool true)], args := [d1, d2, d3] }
  | _ => none }
def changepointOfRow : OpenClaim := { program := "ytcjgmofgfblmnaa", sum := "6dbad239a79cc7a94b6653950b62540af0cc077280af86919492b389c08fd203", func := "sleuth/sleuthlaw45.ChangepointOf", spec := "changepointOf", inPlace := ["slices.overlaps[int]"], unfollowed := true, recurses := true, apart := false }
def ChangepointOfSaid : Prop := changepointOfRow.holds Try.pinned (OpenSpec.ofChange changepointOfSpec)

/-- ITS FALSE NEIGHBOUR: 'it returns false'. Refute it at one input. -/
def changepointOfWrong : ChangeSpec := { name := "changepointOf", fn := fun _ => fun
  | [d1, d2, d3] => { results := [.lit (.bool false)], args := [d1, d2, d3] }
  | _ => none }
def ChangepointOfWrongFalsely : Prop := changepointOfRow.holds Try.pinned (OpenSpec.ofChange changepointOfWrong)

/-- 'sleuthlaw45.ChangepointRefuses': WHATEVER THE INPUT: true; the input reads as it did. -/
def changepointRefusesSpec : ChangeSpec := { name := "changepointRefuses", fn := fun _ => fun
  | [d1, d2] => { results := [.lit (.bool true)], args := [d1, d2] }
  | _ => none }
def changepointRefusesRow : OpenClaim := { program := "ytcjgmofgfblmnaa", sum := "6dbad239a79cc7a94b6653950b62540af0cc077280af86919492b389c08fd203", func := "sleuth/sleuthlaw45.ChangepointRefuses", spec := "changepointRefuses", inPlace := ["slices.overlaps[int]"], unfollowed := true, recurses := true, apart := false }
def ChangepointRefusesSaid : Prop := changepointRefusesRow.holds Try.pinned (OpenSpec.ofChange changepointRefusesSpec)

/-- ITS FALSE NEIGHBOUR: 'it returns false'. Refute it at one input. -/
def changepointRefusesWrong : ChangeSpec := { name := "changepointRefuses", fn := fun _ => fun
  | [d1, d2] => { results := [.lit (.bool false)], args := [d1, d2] }
  | _ => none }
def ChangepointRefusesWrongFalsely : Prop := changepointRefusesRow.holds Try.pinned (OpenSpec.ofChange changepointRefusesWrong)

/-- 'sleuthlaw45.ChangepointTests': WHATEVER THE INPUT: true; the input reads as it did. -/
def changepointTestsSpec : ChangeSpec := { name := "changepointTests", fn := fun _ => fun
  | [d1, d2] => { results := [.lit (.bool true)], args := [d1, d2] }
  | _ => none }
def changepointTestsRow : OpenClaim := { program := "ytcjgmofgfblmnaa", sum := "6dbad239a79cc7a94b6653950b62540af0cc077280af86919492b389c08fd203", func := "sleuth/sleuthlaw45.ChangepointTests", spec := "changepointTests", inPlace := ["slices.overlaps[int]"], unfollowed := true, recurses := true, apart := false }
def ChangepointTestsSaid : Prop := changepointTestsRow.holds Try.pinned (OpenSpec.ofChange changepointTestsSpec)

/-- ITS FALSE NEIGHBOUR: 'it returns false'. Refute it at one input. -/
def changepointTestsWrong : ChangeSpec := { name := "changepointTests", fn := fun _ => fun
  | [d1, d2] => { results := [.lit (.bool false)], args := [d1, d2] }
  | _ => none }
def ChangepointTestsWrongFalsely : Prop := changepointTestsRow.holds Try.pinned (OpenSpec.ofChange changepointTestsWrong)

/-- 'sleuthlaw45.ChangepointFair': WHATEVER THE INPUT: true; the input reads as it did. -/
def changepointFairSpec : ChangeSpec := { name := "changepointFair", fn := fun _ => fun
  | [d1, d2, d3] => { results := [.lit (.bool true)], args := [d1, d2, d3] }
  | _ => none }
def changepointFairRow : OpenClaim := { program := "ytcjgmofgfblmnaa", sum := "6dbad239a79cc7a94b6653950b62540af0cc077280af86919492b389c08fd203", func := "sleuth/sleuthlaw45.ChangepointFair", spec := "changepointFair", inPlace := ["slices.overlaps[int]"], unfollowed := true, recurses := true, apart := false }
def ChangepointFairSaid : Prop := changepointFairRow.holds Try.pinned (OpenSpec.ofChange changepointFairSpec)

/-- ITS FALSE NEIGHBOUR: 'it returns false'. Refute it at one input. -/
def changepointFairWrong : ChangeSpec := { name := "changepointFair", fn := fun _ => fun
  | [d1, d2, d3] => { results := [.lit (.bool false)], args := [d1, d2, d3] }
  | _ => none }
def ChangepointFairWrongFalsely : Prop := changepointFairRow.holds Try.pinned (OpenSpec.ofChange changepointFairWrong)

/-- 'sleuthlaw45.ChangepointMatches': WHATEVER THE INPUT: true; the input reads as it did. -/
def changepointMatchesSpec : ChangeSpec := { name := "changepointMatches", fn := fun _ => fun
  | [d1, d2, d3] => { results := [.lit (.bool true)], args := [d1, d2, d3] }
  | _ => none }
def changepointMatchesRow : OpenClaim := { program := "ytcjgmofgfblmnaa", sum := "6dbad239a79cc7a94b6653950b62540af0cc077280af86919492b389c08fd203", func := "sleuth/sleuthlaw45.ChangepointMatches", spec := "changepointMatches", inPlace := ["slices.overlaps[int]"], unfollowed := true, recurses := true, apart := false }
def ChangepointMatchesSaid : Prop := changepointMatchesRow.holds Try.pinned (OpenSpec.ofChange changepointMatchesSpec)

/-- ITS FALSE NEIGHBOUR: 'it returns false'. Refute it at one input. -/
def changepointMatchesWrong : ChangeSpec := { name := "changepointMatches", fn := fun _ => fun
  | [d1, d2, d3] => { results := [.lit (.bool false)], args := [d1, d2, d3] }
  | _ => none }
def ChangepointMatchesWrongFalsely : Prop := changepointMatchesRow.holds Try.pinned (OpenSpec.ofChange changepointMatchesWrong)

/-- 'sleuthlaw45.ChangepointMatched': WHATEVER THE INPUT: true; the input reads as it did. -/
def changepointMatchedSpec : ChangeSpec := { name := "changepointMatched", fn := fun _ => fun
  | [d1, d2, d3] => { results := [.lit (.bool true)], args := [d1, d2, d3] }
  | _ => none }
def changepointMatchedRow : OpenClaim := { program := "ytcjgmofgfblmnaa", sum := "6dbad239a79cc7a94b6653950b62540af0cc077280af86919492b389c08fd203", func := "sleuth/sleuthlaw45.ChangepointMatched", spec := "changepointMatched", inPlace := ["slices.overlaps[int]"], unfollowed := true, recurses := true, apart := false }
def ChangepointMatchedSaid : Prop := changepointMatchedRow.holds Try.pinned (OpenSpec.ofChange changepointMatchedSpec)

/-- ITS FALSE NEIGHBOUR: 'it returns false'. Refute it at one input. -/
def changepointMatchedWrong : ChangeSpec := { name := "changepointMatched", fn := fun _ => fun
  | [d1, d2, d3] => { results := [.lit (.bool false)], args := [d1, d2, d3] }
  | _ => none }
def ChangepointMatchedWrongFalsely : Prop := changepointMatchedRow.holds Try.pinned (OpenSpec.ofChange changepointMatchedWrong)

/-- 'sleuthlaw45.ChangepointShifts': WHATEVER THE INPUT: true; the input reads as it did. -/
def changepointShiftsSpec : ChangeSpec := { name := "changepointShifts", fn := fun _ => fun
  | [d1, d2, d3] => { results := [.lit (.bool true)], args := [d1, d2, d3] }
  | _ => none }
def changepointShiftsRow : OpenClaim := { program := "ytcjgmofgfblmnaa", sum := "6dbad239a79cc7a94b6653950b62540af0cc077280af86919492b389c08fd203", func := "sleuth/sleuthlaw45.ChangepointShifts", spec := "changepointShifts", inPlace := ["slices.overlaps[int]"], unfollowed := true, recurses := true, apart := false }
def ChangepointShiftsSaid : Prop := changepointShiftsRow.holds Try.pinned (OpenSpec.ofChange changepointShiftsSpec)

/-- ITS FALSE NEIGHBOUR: 'it returns false'. Refute it at one input. -/
def changepointShiftsWrong : ChangeSpec := { name := "changepointShifts", fn := fun _ => fun
  | [d1, d2, d3] => { results := [.lit (.bool false)], args := [d1, d2, d3] }
  | _ => none }
def ChangepointShiftsWrongFalsely : Prop := changepointShiftsRow.holds Try.pinned (OpenSpec.ofChange changepointShiftsWrong)

/-- 'sleuthlaw45.ChangepointClusters': WHATEVER THE INPUT: true; the input reads as it did. -/
def changepointClustersSpec : ChangeSpec := { name := "changepointClusters", fn := fun _ => fun
  | [d1, d2] => { results := [.lit (.bool true)], args := [d1, d2] }
  | _ => none }
def changepointClustersRow : OpenClaim := { program := "ytcjgmofgfblmnaa", sum := "6dbad239a79cc7a94b6653950b62540af0cc077280af86919492b389c08fd203", func := "sleuth/sleuthlaw45.ChangepointClusters", spec := "changepointClusters", inPlace := ["slices.overlaps[int]"], unfollowed := true, recurses := true, apart := false }
def ChangepointClustersSaid : Prop := changepointClustersRow.holds Try.pinned (OpenSpec.ofChange changepointClustersSpec)

/-- ITS FALSE NEIGHBOUR: 'it returns false'. Refute it at one input. -/
def changepointClustersWrong : ChangeSpec := { name := "changepointClusters", fn := fun _ => fun
  | [d1, d2] => { results := [.lit (.bool false)], args := [d1, d2] }
  | _ => none }
def ChangepointClustersWrongFalsely : Prop := changepointClustersRow.holds Try.pinned (OpenSpec.ofChange changepointClustersWrong)

/-- 'sleuthlaw45.ChangepointLimits': WHATEVER THE INPUT: true; the input reads as it did. -/
def changepointLimitsSpec : ChangeSpec := { name := "changepointLimits", fn := fun _ => fun
  | [d1, d2] => { results := [.lit (.bool true)], args := [d1, d2] }
  | _ => none }
def changepointLimitsRow : OpenClaim := { program := "ytcjgmofgfblmnaa", sum := "6dbad239a79cc7a94b6653950b62540af0cc077280af86919492b389c08fd203", func := "sleuth/sleuthlaw45.ChangepointLimits", spec := "changepointLimits", inPlace := ["slices.overlaps[int]"], unfollowed := true, recurses := true, apart := false }
def ChangepointLimitsSaid : Prop := changepointLimitsRow.holds Try.pinned (OpenSpec.ofChange changepointLimitsSpec)

/-- ITS FALSE NEIGHBOUR: 'it returns false'. Refute it at one input. -/
def changepointLimitsWrong : ChangeSpec := { name := "changepointLimits", fn := fun _ => fun
  | [d1, d2] => { results := [.lit (.bool false)], args := [d1, d2] }
  | _ => none }
def ChangepointLimitsWrongFalsely : Prop := changepointLimitsRow.holds Try.pinned (OpenSpec.ofChange changepointLimitsWrong)

/-- 'sleuthlaw45.ChangepointSizes': WHATEVER THE INPUT: true; the input reads as it did. -/
def changepointSizesSpec : ChangeSpec := { name := "changepointSizes", fn := fun _ => fun
  | [d1, d2, d3] => { results := [.lit (.bool true)], args := [d1, d2, d3] }
  | _ => none }
def changepointSizesRow : OpenClaim := { program := "ytcjgmofgfblmnaa", sum := "6dbad239a79cc7a94b6653950b62540af0cc077280af86919492b389c08fd203", func := "sleuth/sleuthlaw45.ChangepointSizes", spec := "changepointSizes", inPlace := ["slices.overlaps[int]"], unfollowed := true, recurses := true, apart := false }
def ChangepointSizesSaid : Prop := changepointSizesRow.holds Try.pinned (OpenSpec.ofChange changepointSizesSpec)

/-- ITS FALSE NEIGHBOUR: 'it returns false'. Refute it at one input. -/
def changepointSizesWrong : ChangeSpec := { name := "changepointSizes", fn := fun _ => fun
  | [d1, d2, d3] => { results := [.lit (.bool false)], args := [d1, d2, d3] }
  | _ => none }
def ChangepointSizesWrongFalsely : Prop := changepointSizesRow.holds Try.pinned (OpenSpec.ofChange changepointSizesWrong)

/- THE SECOND FORM. 'bulk': how many values and letters a reading holds, each counted each time it is reached (what is shared counts as often as it is met; a slice's spare places count too). A statement '..UptoSaid' is the law's where the arguments, and the package variables that the reading takes, are together of bulk at most 1048576: NARROWER than '..Said'. Prove '..Said' where nothing that the law and all that it calls make is longer than what came in: it says more and counts as full. Else prove '..UptoSaid'. A law counts once. -/
mutual
def uptoBulk {H : Type} : DataW H → Nat
  | .lit (.string bytes) => bytes.length + 1
  | .lit _ => 1
  | .nil => 1
  | .ptr d => uptoBulk d + 1
  | .slice elems spare => uptoBulkAll elems + uptoBulkAll spare + 1
  | .agg parts => uptoBulkAll parts + 1
  | .iface _ d => uptoBulk d + 1
  | .map entries => uptoBulkEntries entries + 1
  | .held _ => 1
def uptoBulkAll {H : Type} : List (DataW H) → Nat
  | [] => 0
  | d :: r => uptoBulk d + uptoBulkAll r
def uptoBulkEntries {H : Type} : List (Lit × DataW H) → Nat
  | [] => 0
  | x :: r => uptoBulkEntry x + uptoBulkEntries r
def uptoBulkEntry {H : Type} : Lit × DataW H → Nat
  | (.string bytes, d) => bytes.length + uptoBulk d + 1
  | (_, d) => uptoBulk d + 1
 end
def uptoSmall : (H : Type) → List (DataW H) → Bool := fun _ ds => decide (uptoBulkAll ds ≤ 1048576)
def OpenSpec.upto (s : _root_.Go.ChangeSpec) : _root_.Go.OpenSpec := { _root_.Go.OpenSpec.ofChange s with cond := some uptoSmall }

/-- 'sleuthlaw45.ChangepointOf', WHERE WHAT IT READS IS OF BULK AT MOST 1048576: true; the input reads as it did. -/
def changepointOfUptoRow : OpenClaim := { program := "ytcjgmofgfblmnaa", sum := "6dbad239a79cc7a94b6653950b62540af0cc077280af86919492b389c08fd203", func := "sleuth/sleuthlaw45.ChangepointOf", spec := "changepointOf", inPlace := ["slices.overlaps[int]"], unfollowed := true, recurses := true, apart := false, narrowed := true }
def ChangepointOfUptoSaid : Prop := changepointOfUptoRow.holds Try.pinned (OpenSpec.upto changepointOfSpec)

/-- 'sleuthlaw45.ChangepointRefuses', WHERE WHAT IT READS IS OF BULK AT MOST 1048576: true; the input reads as it did. -/
def changepointRefusesUptoRow : OpenClaim := { program := "ytcjgmofgfblmnaa", sum := "6dbad239a79cc7a94b6653950b62540af0cc077280af86919492b389c08fd203", func := "sleuth/sleuthlaw45.ChangepointRefuses", spec := "changepointRefuses", inPlace := ["slices.overlaps[int]"], unfollowed := true, recurses := true, apart := false, narrowed := true }
def ChangepointRefusesUptoSaid : Prop := changepointRefusesUptoRow.holds Try.pinned (OpenSpec.upto changepointRefusesSpec)

/-- 'sleuthlaw45.ChangepointTests', WHERE WHAT IT READS IS OF BULK AT MOST 1048576: true; the input reads as it did. -/
def changepointTestsUptoRow : OpenClaim := { program := "ytcjgmofgfblmnaa", sum := "6dbad239a79cc7a94b6653950b62540af0cc077280af86919492b389c08fd203", func := "sleuth/sleuthlaw45.ChangepointTests", spec := "changepointTests", inPlace := ["slices.overlaps[int]"], unfollowed := true, recurses := true, apart := false, narrowed := true }
def ChangepointTestsUptoSaid : Prop := changepointTestsUptoRow.holds Try.pinned (OpenSpec.upto changepointTestsSpec)

/-- 'sleuthlaw45.ChangepointFair', WHERE WHAT IT READS IS OF BULK AT MOST 1048576: true; the input reads as it did. -/
def changepointFairUptoRow : OpenClaim := { program := "ytcjgmofgfblmnaa", sum := "6dbad239a79cc7a94b6653950b62540af0cc077280af86919492b389c08fd203", func := "sleuth/sleuthlaw45.ChangepointFair", spec := "changepointFair", inPlace := ["slices.overlaps[int]"], unfollowed := true, recurses := true, apart := false, narrowed := true }
def ChangepointFairUptoSaid : Prop := changepointFairUptoRow.holds Try.pinned (OpenSpec.upto changepointFairSpec)

/-- 'sleuthlaw45.ChangepointMatches', WHERE WHAT IT READS IS OF BULK AT MOST 1048576: true; the input reads as it did. -/
def changepointMatchesUptoRow : OpenClaim := { program := "ytcjgmofgfblmnaa", sum := "6dbad239a79cc7a94b6653950b62540af0cc077280af86919492b389c08fd203", func := "sleuth/sleuthlaw45.ChangepointMatches", spec := "changepointMatches", inPlace := ["slices.overlaps[int]"], unfollowed := true, recurses := true, apart := false, narrowed := true }
def ChangepointMatchesUptoSaid : Prop := changepointMatchesUptoRow.holds Try.pinned (OpenSpec.upto changepointMatchesSpec)

/-- 'sleuthlaw45.ChangepointMatched', WHERE WHAT IT READS IS OF BULK AT MOST 1048576: true; the input reads as it did. -/
def changepointMatchedUptoRow : OpenClaim := { program := "ytcjgmofgfblmnaa", sum := "6dbad239a79cc7a94b6653950b62540af0cc077280af86919492b389c08fd203", func := "sleuth/sleuthlaw45.ChangepointMatched", spec := "changepointMatched", inPlace := ["slices.overlaps[int]"], unfollowed := true, recurses := true, apart := false, narrowed := true }
def ChangepointMatchedUptoSaid : Prop := changepointMatchedUptoRow.holds Try.pinned (OpenSpec.upto changepointMatchedSpec)

/-- 'sleuthlaw45.ChangepointShifts', WHERE WHAT IT READS IS OF BULK AT MOST 1048576: true; the input reads as it did. -/
def changepointShiftsUptoRow : OpenClaim := { program := "ytcjgmofgfblmnaa", sum := "6dbad239a79cc7a94b6653950b62540af0cc077280af86919492b389c08fd203", func := "sleuth/sleuthlaw45.ChangepointShifts", spec := "changepointShifts", inPlace := ["slices.overlaps[int]"], unfollowed := true, recurses := true, apart := false, narrowed := true }
def ChangepointShiftsUptoSaid : Prop := changepointShiftsUptoRow.holds Try.pinned (OpenSpec.upto changepointShiftsSpec)

/-- 'sleuthlaw45.ChangepointClusters', WHERE WHAT IT READS IS OF BULK AT MOST 1048576: true; the input reads as it did. -/
def changepointClustersUptoRow : OpenClaim := { program := "ytcjgmofgfblmnaa", sum := "6dbad239a79cc7a94b6653950b62540af0cc077280af86919492b389c08fd203", func := "sleuth/sleuthlaw45.ChangepointClusters", spec := "changepointClusters", inPlace := ["slices.overlaps[int]"], unfollowed := true, recurses := true, apart := false, narrowed := true }
def ChangepointClustersUptoSaid : Prop := changepointClustersUptoRow.holds Try.pinned (OpenSpec.upto changepointClustersSpec)

/-- 'sleuthlaw45.ChangepointLimits', WHERE WHAT IT READS IS OF BULK AT MOST 1048576: true; the input reads as it did. -/
def changepointLimitsUptoRow : OpenClaim := { program := "ytcjgmofgfblmnaa", sum := "6dbad239a79cc7a94b6653950b62540af0cc077280af86919492b389c08fd203", func := "sleuth/sleuthlaw45.ChangepointLimits", spec := "changepointLimits", inPlace := ["slices.overlaps[int]"], unfollowed := true, recurses := true, apart := false, narrowed := true }
def ChangepointLimitsUptoSaid : Prop := changepointLimitsUptoRow.holds Try.pinned (OpenSpec.upto changepointLimitsSpec)

/-- 'sleuthlaw45.ChangepointSizes', WHERE WHAT IT READS IS OF BULK AT MOST 1048576: true; the input reads as it did. -/
def changepointSizesUptoRow : OpenClaim := { program := "ytcjgmofgfblmnaa", sum := "6dbad239a79cc7a94b6653950b62540af0cc077280af86919492b389c08fd203", func := "sleuth/sleuthlaw45.ChangepointSizes", spec := "changepointSizes", inPlace := ["slices.overlaps[int]"], unfollowed := true, recurses := true, apart := false, narrowed := true }
def ChangepointSizesUptoSaid : Prop := changepointSizesUptoRow.holds Try.pinned (OpenSpec.upto changepointSizesSpec)

end Rows
end Go.Proofs.Ytcjgmofgfblmnaa
