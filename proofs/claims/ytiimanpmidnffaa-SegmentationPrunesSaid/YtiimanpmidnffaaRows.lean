/-
  No cell of these rows narrows 'for every input' (looked for: loops, veiled, ifaces, maps, wideKeys, modest, calm, conditions, laid).
  DERIVED. THE GIVEN ROWS OF THIS SEAT. 10 by the template 'for every input the law returns true; each argument reads behind the call as it read before'; 0 by the template 'total and deterministic' (their statements: YtiimanpmidnffaaTotals.lean).
  GIVEN WITH THE SEED: the statements are not yours to turn. If you find one false, say at which input.
  Laid BY PROGRAM, IN A SANDBOX (cutbox-rows.mjs): the forced cells as the released guide's own fill.sh prints them over the translation c5640f6664ee2c99… (all of the seat's roots in one cut). By AI agents, Wed Nov 11 2026. No macro, syntax, notation, axiom, sorry.
-/
import Derived.Test.YtiimanpmidnffaaChecked
import GoSem.Claim
import GoSem.ClaimJoined
import GoSem.ClaimMapViews
import Derived.JoinedTies
import Derived.KernelRfl
namespace Go.Proofs.Ytiimanpmidnffaa
/- THE CELL 'sum', in the pinned program and in every row, IS THE sha256 OF THE DUMP (.gsa) THAT YtiimanpmidnffaaProg.lean LOADS. Nothing in Lean hashes anything: it is a label: what it is worth is what the hold of that sum in a sandbox is worth. -/
noncomputable def Try.pinned : Pinned := { name := "ytiimanpmidnffaa", sum := "c5640f6664ee2c99c1685f2b49fdeb12e7ce93ceb8c053a5b2052ff2be39bd2c", checked := Try.checked }
namespace Rows
def none {H : Type} : Left H := { results := [], args := [] }

/-- 'sleuthlaw44.SegmentationBest': WHATEVER THE INPUT: true; the input reads as it did. -/
def segmentationBestSpec : ChangeSpec := { name := "segmentationBest", fn := fun _ => fun
  | [d1, d2] => { results := [.lit (.bool true)], args := [d1, d2] }
  | _ => none }
def segmentationBestRow : OpenClaim := { program := "ytiimanpmidnffaa", sum := "c5640f6664ee2c99c1685f2b49fdeb12e7ce93ceb8c053a5b2052ff2be39bd2c", func := "sleuth/sleuthlaw44.SegmentationBest", spec := "segmentationBest", inPlace := ["slices.overlaps[int]"], unfollowed := true, recurses := true, apart := false }
def SegmentationBestSaid : Prop := segmentationBestRow.holds Try.pinned (OpenSpec.ofChange segmentationBestSpec)

/-- ITS FALSE NEIGHBOUR: 'it returns false'. Refute it at one input. -/
def segmentationBestWrong : ChangeSpec := { name := "segmentationBest", fn := fun _ => fun
  | [d1, d2] => { results := [.lit (.bool false)], args := [d1, d2] }
  | _ => none }
def SegmentationBestWrongFalsely : Prop := segmentationBestRow.holds Try.pinned (OpenSpec.ofChange segmentationBestWrong)

/-- 'sleuthlaw44.SegmentationPotentials': WHATEVER THE INPUT: true; the input reads as it did. -/
def segmentationPotentialsSpec : ChangeSpec := { name := "segmentationPotentials", fn := fun _ => fun
  | [d1, d2] => { results := [.lit (.bool true)], args := [d1, d2] }
  | _ => none }
def segmentationPotentialsRow : OpenClaim := { program := "ytiimanpmidnffaa", sum := "c5640f6664ee2c99c1685f2b49fdeb12e7ce93ceb8c053a5b2052ff2be39bd2c", func := "sleuth/sleuthlaw44.SegmentationPotentials", spec := "segmentationPotentials", inPlace := ["slices.overlaps[int]"], unfollowed := true, recurses := true, apart := false }
def SegmentationPotentialsSaid : Prop := segmentationPotentialsRow.holds Try.pinned (OpenSpec.ofChange segmentationPotentialsSpec)

/-- ITS FALSE NEIGHBOUR: 'it returns false'. Refute it at one input. -/
def segmentationPotentialsWrong : ChangeSpec := { name := "segmentationPotentials", fn := fun _ => fun
  | [d1, d2] => { results := [.lit (.bool false)], args := [d1, d2] }
  | _ => none }
def SegmentationPotentialsWrongFalsely : Prop := segmentationPotentialsRow.holds Try.pinned (OpenSpec.ofChange segmentationPotentialsWrong)

/-- 'sleuthlaw44.SegmentationVerifies': WHATEVER THE INPUT: true; the input reads as it did. -/
def segmentationVerifiesSpec : ChangeSpec := { name := "segmentationVerifies", fn := fun _ => fun
  | [d1, d2, d3] => { results := [.lit (.bool true)], args := [d1, d2, d3] }
  | _ => none }
def segmentationVerifiesRow : OpenClaim := { program := "ytiimanpmidnffaa", sum := "c5640f6664ee2c99c1685f2b49fdeb12e7ce93ceb8c053a5b2052ff2be39bd2c", func := "sleuth/sleuthlaw44.SegmentationVerifies", spec := "segmentationVerifies", inPlace := ["slices.overlaps[int]"], unfollowed := true, recurses := true, apart := false }
def SegmentationVerifiesSaid : Prop := segmentationVerifiesRow.holds Try.pinned (OpenSpec.ofChange segmentationVerifiesSpec)

/-- ITS FALSE NEIGHBOUR: 'it returns false'. Refute it at one input. -/
def segmentationVerifiesWrong : ChangeSpec := { name := "segmentationVerifies", fn := fun _ => fun
  | [d1, d2, d3] => { results := [.lit (.bool false)], args := [d1, d2, d3] }
  | _ => none }
def SegmentationVerifiesWrongFalsely : Prop := segmentationVerifiesRow.holds Try.pinned (OpenSpec.ofChange segmentationVerifiesWrong)

/-- 'sleuthlaw44.SegmentationRaw': WHATEVER THE INPUT: true; the input reads as it did. -/
def segmentationRawSpec : ChangeSpec := { name := "segmentationRaw", fn := fun _ => fun
  | [d1, d2, d3] => { results := [.lit (.bool true)], args := [d1, d2, d3] }
  | _ => none }
def segmentationRawRow : OpenClaim := { program := "ytiimanpmidnffaa", sum := "c5640f6664ee2c99c1685f2b49fdeb12e7ce93ceb8c053a5b2052ff2be39bd2c", func := "sleuth/sleuthlaw44.SegmentationRaw", spec := "segmentationRaw", inPlace := ["slices.overlaps[int]"], unfollowed := true, recurses := true, apart := false }
def SegmentationRawSaid : Prop := segmentationRawRow.holds Try.pinned (OpenSpec.ofChange segmentationRawSpec)

/-- ITS FALSE NEIGHBOUR: 'it returns false'. Refute it at one input. -/
def segmentationRawWrong : ChangeSpec := { name := "segmentationRaw", fn := fun _ => fun
  | [d1, d2, d3] => { results := [.lit (.bool false)], args := [d1, d2, d3] }
  | _ => none }
def SegmentationRawWrongFalsely : Prop := segmentationRawRow.holds Try.pinned (OpenSpec.ofChange segmentationRawWrong)

/-- 'sleuthlaw44.SegmentationMoves': WHATEVER THE INPUT: true; the input reads as it did. -/
def segmentationMovesSpec : ChangeSpec := { name := "segmentationMoves", fn := fun _ => fun
  | [d1, d2, d3] => { results := [.lit (.bool true)], args := [d1, d2, d3] }
  | _ => none }
def segmentationMovesRow : OpenClaim := { program := "ytiimanpmidnffaa", sum := "c5640f6664ee2c99c1685f2b49fdeb12e7ce93ceb8c053a5b2052ff2be39bd2c", func := "sleuth/sleuthlaw44.SegmentationMoves", spec := "segmentationMoves", inPlace := ["slices.overlaps[int]"], unfollowed := true, recurses := true, apart := false }
def SegmentationMovesSaid : Prop := segmentationMovesRow.holds Try.pinned (OpenSpec.ofChange segmentationMovesSpec)

/-- ITS FALSE NEIGHBOUR: 'it returns false'. Refute it at one input. -/
def segmentationMovesWrong : ChangeSpec := { name := "segmentationMoves", fn := fun _ => fun
  | [d1, d2, d3] => { results := [.lit (.bool false)], args := [d1, d2, d3] }
  | _ => none }
def SegmentationMovesWrongFalsely : Prop := segmentationMovesRow.holds Try.pinned (OpenSpec.ofChange segmentationMovesWrong)

/-- 'sleuthlaw44.SegmentationPrunes': WHATEVER THE INPUT: true; the input reads as it did. -/
def segmentationPrunesSpec : ChangeSpec := { name := "segmentationPrunes", fn := fun _ => fun
  | [d1, d2] => { results := [.lit (.bool true)], args := [d1, d2] }
  | _ => none }
def segmentationPrunesRow : OpenClaim := { program := "ytiimanpmidnffaa", sum := "c5640f6664ee2c99c1685f2b49fdeb12e7ce93ceb8c053a5b2052ff2be39bd2c", func := "sleuth/sleuthlaw44.SegmentationPrunes", spec := "segmentationPrunes", inPlace := ["slices.overlaps[int]"], unfollowed := true, recurses := true, apart := false }
def SegmentationPrunesSaid : Prop := segmentationPrunesRow.holds Try.pinned (OpenSpec.ofChange segmentationPrunesSpec)

/-- ITS FALSE NEIGHBOUR: 'it returns false'. Refute it at one input. -/
def segmentationPrunesWrong : ChangeSpec := { name := "segmentationPrunes", fn := fun _ => fun
  | [d1, d2] => { results := [.lit (.bool false)], args := [d1, d2] }
  | _ => none }
def SegmentationPrunesWrongFalsely : Prop := segmentationPrunesRow.holds Try.pinned (OpenSpec.ofChange segmentationPrunesWrong)

/-- 'sleuthlaw44.SegmentationTotals': WHATEVER THE INPUT: true; the input reads as it did. -/
def segmentationTotalsSpec : ChangeSpec := { name := "segmentationTotals", fn := fun _ => fun
  | [d1, d2, d3] => { results := [.lit (.bool true)], args := [d1, d2, d3] }
  | _ => none }
def segmentationTotalsRow : OpenClaim := { program := "ytiimanpmidnffaa", sum := "c5640f6664ee2c99c1685f2b49fdeb12e7ce93ceb8c053a5b2052ff2be39bd2c", func := "sleuth/sleuthlaw44.SegmentationTotals", spec := "segmentationTotals", inPlace := ["slices.overlaps[int]"], unfollowed := true, recurses := true, apart := false }
def SegmentationTotalsSaid : Prop := segmentationTotalsRow.holds Try.pinned (OpenSpec.ofChange segmentationTotalsSpec)

/-- ITS FALSE NEIGHBOUR: 'it returns false'. Refute it at one input. -/
def segmentationTotalsWrong : ChangeSpec := { name := "segmentationTotals", fn := fun _ => fun
  | [d1, d2, d3] => { results := [.lit (.bool false)], args := [d1, d2, d3] }
  | _ => none }
def SegmentationTotalsWrongFalsely : Prop := segmentationTotalsRow.holds Try.pinned (OpenSpec.ofChange segmentationTotalsWrong)

/-- 'sleuthlaw44.SegmentationCosts': WHATEVER THE INPUT: true; the input reads as it did. -/
def segmentationCostsSpec : ChangeSpec := { name := "segmentationCosts", fn := fun _ => fun
  | [d1, d2, d3] => { results := [.lit (.bool true)], args := [d1, d2, d3] }
  | _ => none }
def segmentationCostsRow : OpenClaim := { program := "ytiimanpmidnffaa", sum := "c5640f6664ee2c99c1685f2b49fdeb12e7ce93ceb8c053a5b2052ff2be39bd2c", func := "sleuth/sleuthlaw44.SegmentationCosts", spec := "segmentationCosts", inPlace := ["slices.overlaps[int]"], unfollowed := true, recurses := true, apart := false }
def SegmentationCostsSaid : Prop := segmentationCostsRow.holds Try.pinned (OpenSpec.ofChange segmentationCostsSpec)

/-- ITS FALSE NEIGHBOUR: 'it returns false'. Refute it at one input. -/
def segmentationCostsWrong : ChangeSpec := { name := "segmentationCosts", fn := fun _ => fun
  | [d1, d2, d3] => { results := [.lit (.bool false)], args := [d1, d2, d3] }
  | _ => none }
def SegmentationCostsWrongFalsely : Prop := segmentationCostsRow.holds Try.pinned (OpenSpec.ofChange segmentationCostsWrong)

/-- 'sleuthlaw44.SegmentationCounts': WHATEVER THE INPUT: true; the input reads as it did. -/
def segmentationCountsSpec : ChangeSpec := { name := "segmentationCounts", fn := fun _ => fun
  | [d1, d2] => { results := [.lit (.bool true)], args := [d1, d2] }
  | _ => none }
def segmentationCountsRow : OpenClaim := { program := "ytiimanpmidnffaa", sum := "c5640f6664ee2c99c1685f2b49fdeb12e7ce93ceb8c053a5b2052ff2be39bd2c", func := "sleuth/sleuthlaw44.SegmentationCounts", spec := "segmentationCounts", inPlace := ["slices.overlaps[int]"], unfollowed := true, recurses := true, apart := false }
def SegmentationCountsSaid : Prop := segmentationCountsRow.holds Try.pinned (OpenSpec.ofChange segmentationCountsSpec)

/-- ITS FALSE NEIGHBOUR: 'it returns false'. Refute it at one input. -/
def segmentationCountsWrong : ChangeSpec := { name := "segmentationCounts", fn := fun _ => fun
  | [d1, d2] => { results := [.lit (.bool false)], args := [d1, d2] }
  | _ => none }
def SegmentationCountsWrongFalsely : Prop := segmentationCountsRow.holds Try.pinned (OpenSpec.ofChange segmentationCountsWrong)

/-- 'sleuthlaw44.SegmentationChecks': WHATEVER THE INPUT: true; the input reads as it did. -/
def segmentationChecksSpec : ChangeSpec := { name := "segmentationChecks", fn := fun _ => fun
  | [d1, d2] => { results := [.lit (.bool true)], args := [d1, d2] }
  | _ => none }
def segmentationChecksRow : OpenClaim := { program := "ytiimanpmidnffaa", sum := "c5640f6664ee2c99c1685f2b49fdeb12e7ce93ceb8c053a5b2052ff2be39bd2c", func := "sleuth/sleuthlaw44.SegmentationChecks", spec := "segmentationChecks", inPlace := ["slices.overlaps[int]"], unfollowed := true, recurses := true, apart := false }
def SegmentationChecksSaid : Prop := segmentationChecksRow.holds Try.pinned (OpenSpec.ofChange segmentationChecksSpec)

/-- ITS FALSE NEIGHBOUR: 'it returns false'. Refute it at one input. -/
def segmentationChecksWrong : ChangeSpec := { name := "segmentationChecks", fn := fun _ => fun
  | [d1, d2] => { results := [.lit (.bool false)], args := [d1, d2] }
  | _ => none }
def SegmentationChecksWrongFalsely : Prop := segmentationChecksRow.holds Try.pinned (OpenSpec.ofChange segmentationChecksWrong)

/- THE SECOND FORM. 'bulk': how many values and letters a reading holds, each counted each time it is reached (what is shared counts as often as it is met; a slice's spare places count too). A statement '..UptoSaid' is the law's where the arguments, and the package variables that the reading takes, are together of bulk at most 1048576: NARROWER than '..Said'. Prove '..Said' where nothing that the law and all that it calls make is longer than what came in: it says more and counts as full. Else prove '..UptoSaid'. A law counts once. -/
mutual
def uptoBulk {H : Type} : DataW H → Nat
  | .lit (.string bytes) => bytes.length + 1
  | .lit _ => 1
  | .nil => 1
  | .ptr d => uptoBulk d + 1
  | .slice elems spare => uptoBulkAll elems + uptoBulkAll spare + 1
  | .agg parts => uptoBulkAll parts + 1
  | .iface _ d => uptoBulk d + 1
  | .map entries => uptoBulkEntries entries + 1
  | .held _ => 1
def uptoBulkAll {H : Type} : List (DataW H) → Nat
  | [] => 0
  | d :: r => uptoBulk d + uptoBulkAll r
def uptoBulkEntries {H : Type} : List (Lit × DataW H) → Nat
  | [] => 0
  | x :: r => uptoBulkEntry x + uptoBulkEntries r
def uptoBulkEntry {H : Type} : Lit × DataW H → Nat
  | (.string bytes, d) => bytes.length + uptoBulk d + 1
  | (_, d) => uptoBulk d + 1
 end
def uptoSmall : (H : Type) → List (DataW H) → Bool := fun _ ds => decide (uptoBulkAll ds ≤ 1048576)
def OpenSpec.upto (s : _root_.Go.ChangeSpec) : _root_.Go.OpenSpec := { _root_.Go.OpenSpec.ofChange s with cond := some uptoSmall }

/-- 'sleuthlaw44.SegmentationBest', WHERE WHAT IT READS IS OF BULK AT MOST 1048576: true; the input reads as it did. -/
def segmentationBestUptoRow : OpenClaim := { program := "ytiimanpmidnffaa", sum := "c5640f6664ee2c99c1685f2b49fdeb12e7ce93ceb8c053a5b2052ff2be39bd2c", func := "sleuth/sleuthlaw44.SegmentationBest", spec := "segmentationBest", inPlace := ["slices.overlaps[int]"], unfollowed := true, recurses := true, apart := false, narrowed := true }
def SegmentationBestUptoSaid : Prop := segmentationBestUptoRow.holds Try.pinned (OpenSpec.upto segmentationBestSpec)

/-- 'sleuthlaw44.SegmentationPotentials', WHERE WHAT IT READS IS OF BULK AT MOST 1048576: true; the input reads as it did. -/
def segmentationPotentialsUptoRow : OpenClaim := { program := "ytiimanpmidnffaa", sum := "c5640f6664ee2c99c1685f2b49fdeb12e7ce93ceb8c053a5b2052ff2be39bd2c", func := "sleuth/sleuthlaw44.SegmentationPotentials", spec := "segmentationPotentials", inPlace := ["slices.overlaps[int]"], unfollowed := true, recurses := true, apart := false, narrowed := true }
def SegmentationPotentialsUptoSaid : Prop := segmentationPotentialsUptoRow.holds Try.pinned (OpenSpec.upto segmentationPotentialsSpec)

/-- 'sleuthlaw44.SegmentationVerifies', WHERE WHAT IT READS IS OF BULK AT MOST 1048576: true; the input reads as it did. -/
def segmentationVerifiesUptoRow : OpenClaim := { program := "ytiimanpmidnffaa", sum := "c5640f6664ee2c99c1685f2b49fdeb12e7ce93ceb8c053a5b2052ff2be39bd2c", func := "sleuth/sleuthlaw44.SegmentationVerifies", spec := "segmentationVerifies", inPlace := ["slices.overlaps[int]"], unfollowed := true, recurses := true, apart := false, narrowed := true }
def SegmentationVerifiesUptoSaid : Prop := segmentationVerifiesUptoRow.holds Try.pinned (OpenSpec.upto segmentationVerifiesSpec)

/-- 'sleuthlaw44.SegmentationRaw', WHERE WHAT IT READS IS OF BULK AT MOST 1048576: true; the input reads as it did. -/
def segmentationRawUptoRow : OpenClaim := { program := "ytiimanpmidnffaa", sum := "c5640f6664ee2c99c1685f2b49fdeb12e7ce93ceb8c053a5b2052ff2be39bd2c", func := "sleuth/sleuthlaw44.SegmentationRaw", spec := "segmentationRaw", inPlace := ["slices.overlaps[int]"], unfollowed := true, recurses := true, apart := false, narrowed := true }
def SegmentationRawUptoSaid : Prop := segmentationRawUptoRow.holds Try.pinned (OpenSpec.upto segmentationRawSpec)

/-- 'sleuthlaw44.SegmentationMoves', WHERE WHAT IT READS IS OF BULK AT MOST 1048576: true; the input reads as it did. -/
def segmentationMovesUptoRow : OpenClaim := { program := "ytiimanpmidnffaa", sum := "c5640f6664ee2c99c1685f2b49fdeb12e7ce93ceb8c053a5b2052ff2be39bd2c", func := "sleuth/sleuthlaw44.SegmentationMoves", spec := "segmentationMoves", inPlace := ["slices.overlaps[int]"], unfollowed := true, recurses := true, apart := false, narrowed := true }
def SegmentationMovesUptoSaid : Prop := segmentationMovesUptoRow.holds Try.pinned (OpenSpec.upto segmentationMovesSpec)

/-- 'sleuthlaw44.SegmentationPrunes', WHERE WHAT IT READS IS OF BULK AT MOST 1048576: true; the input reads as it did. -/
def segmentationPrunesUptoRow : OpenClaim := { program := "ytiimanpmidnffaa", sum := "c5640f6664ee2c99c1685f2b49fdeb12e7ce93ceb8c053a5b2052ff2be39bd2c", func := "sleuth/sleuthlaw44.SegmentationPrunes", spec := "segmentationPrunes", inPlace := ["slices.overlaps[int]"], unfollowed := true, recurses := true, apart := false, narrowed := true }
def SegmentationPrunesUptoSaid : Prop := segmentationPrunesUptoRow.holds Try.pinned (OpenSpec.upto segmentationPrunesSpec)

/-- 'sleuthlaw44.SegmentationTotals', WHERE WHAT IT READS IS OF BULK AT MOST 1048576: true; the input reads as it did. -/
def segmentationTotalsUptoRow : OpenClaim := { program := "ytiimanpmidnffaa", sum := "c5640f6664ee2c99c1685f2b49fdeb12e7ce93ceb8c053a5b2052ff2be39bd2c", func := "sleuth/sleuthlaw44.SegmentationTotals", spec := "segmentationTotals", inPlace := ["slices.overlaps[int]"], unfollowed := true, recurses := true, apart := false, narrowed := true }
def SegmentationTotalsUptoSaid : Prop := segmentationTotalsUptoRow.holds Try.pinned (OpenSpec.upto segmentationTotalsSpec)

/-- 'sleuthlaw44.SegmentationCosts', WHERE WHAT IT READS IS OF BULK AT MOST 1048576: true; the input reads as it did. -/
def segmentationCostsUptoRow : OpenClaim := { program := "ytiimanpmidnffaa", sum := "c5640f6664ee2c99c1685f2b49fdeb12e7ce93ceb8c053a5b2052ff2be39bd2c", func := "sleuth/sleuthlaw44.SegmentationCosts", spec := "segmentationCosts", inPlace := ["slices.overlaps[int]"], unfollowed := true, recurses := true, apart := false, narrowed := true }
def SegmentationCostsUptoSaid : Prop := segmentationCostsUptoRow.holds Try.pinned (OpenSpec.upto segmentationCostsSpec)

/-- 'sleuthlaw44.SegmentationCounts', WHERE WHAT IT READS IS OF BULK AT MOST 1048576: true; the input reads as it did. -/
def segmentationCountsUptoRow : OpenClaim := { program := "ytiimanpmidnffaa", sum := "c5640f6664ee2c99c1685f2b49fdeb12e7ce93ceb8c053a5b2052ff2be39bd2c", func := "sleuth/sleuthlaw44.SegmentationCounts", spec := "segmentationCounts", inPlace := ["slices.overlaps[int]"], unfollowed := true, recurses := true, apart := false, narrowed := true }
def SegmentationCountsUptoSaid : Prop := segmentationCountsUptoRow.holds Try.pinned (OpenSpec.upto segmentationCountsSpec)

/-- 'sleuthlaw44.SegmentationChecks', WHERE WHAT IT READS IS OF BULK AT MOST 1048576: true; the input reads as it did. -/
def segmentationChecksUptoRow : OpenClaim := { program := "ytiimanpmidnffaa", sum := "c5640f6664ee2c99c1685f2b49fdeb12e7ce93ceb8c053a5b2052ff2be39bd2c", func := "sleuth/sleuthlaw44.SegmentationChecks", spec := "segmentationChecks", inPlace := ["slices.overlaps[int]"], unfollowed := true, recurses := true, apart := false, narrowed := true }
def SegmentationChecksUptoSaid : Prop := segmentationChecksUptoRow.holds Try.pinned (OpenSpec.upto segmentationChecksSpec)

end Rows
end Go.Proofs.Ytiimanpmidnffaa
