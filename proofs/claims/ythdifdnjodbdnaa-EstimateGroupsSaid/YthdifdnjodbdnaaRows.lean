/-
  No cell of these rows narrows 'for every input' (looked for: loops, veiled, ifaces, maps, wideKeys, modest, calm, conditions, laid).
  DERIVED. THE GIVEN ROWS OF THIS SEAT. 9 by the template 'for every input the law returns true; each argument reads behind the call as it read before'; 0 by the template 'total and deterministic' (their statements: YthdifdnjodbdnaaTotals.lean).
  GIVEN WITH THE SEED: the statements are not yours to turn. If you find one false, say at which input.
  Laid BY PROGRAM, IN A SANDBOX (cutbox-rows.mjs): the forced cells as the released guide's own fill.sh prints them over the translation 0618e865899bc954… (all of the seat's roots in one cut). By AI agents, Wed Nov 11 2026. No macro, syntax, notation, axiom, sorry.
-/
import Derived.Test.YthdifdnjodbdnaaChecked
import GoSem.Claim
import GoSem.ClaimJoined
import GoSem.ClaimMapViews
import Derived.JoinedTies
import Derived.KernelRfl
namespace Go.Proofs.Ythdifdnjodbdnaa
/- THE CELL 'sum', in the pinned program and in every row, IS THE sha256 OF THE DUMP (.gsa) THAT YthdifdnjodbdnaaProg.lean LOADS. Nothing in Lean hashes anything: it is a label: what it is worth is what the hold of that sum in a sandbox is worth. -/
noncomputable def Try.pinned : Pinned := { name := "ythdifdnjodbdnaa", sum := "0618e865899bc95427bd36da4229acbddbd80bb0db4c6ea46b6da78fd642bd94", checked := Try.checked }
namespace Rows
def none {H : Type} : Left H := { results := [], args := [] }

/-- 'sleuthlaw25.EstimateRefines': WHATEVER THE INPUT: true; the input reads as it did. -/
def estimateRefinesSpec : ChangeSpec := { name := "estimateRefines", fn := fun _ => fun
  | [d1, d2] => { results := [.lit (.bool true)], args := [d1, d2] }
  | _ => none }
def estimateRefinesRow : OpenClaim := { program := "ythdifdnjodbdnaa", sum := "0618e865899bc95427bd36da4229acbddbd80bb0db4c6ea46b6da78fd642bd94", func := "sleuth/sleuthlaw25.EstimateRefines", spec := "estimateRefines", unfollowed := true, recurses := true, plainKeys := false, apart := false }
def EstimateRefinesSaid : Prop := estimateRefinesRow.holds Try.pinned (OpenSpec.ofChange estimateRefinesSpec)

/-- ITS FALSE NEIGHBOUR: 'it returns false'. Refute it at one input. -/
def estimateRefinesWrong : ChangeSpec := { name := "estimateRefines", fn := fun _ => fun
  | [d1, d2] => { results := [.lit (.bool false)], args := [d1, d2] }
  | _ => none }
def EstimateRefinesWrongFalsely : Prop := estimateRefinesRow.holds Try.pinned (OpenSpec.ofChange estimateRefinesWrong)

/-- 'sleuthlaw25.EstimateContains': WHATEVER THE INPUT: true; the input reads as it did. -/
def estimateContainsSpec : ChangeSpec := { name := "estimateContains", fn := fun _ => fun
  | [d1, d2, d3] => { results := [.lit (.bool true)], args := [d1, d2, d3] }
  | _ => none }
def estimateContainsRow : OpenClaim := { program := "ythdifdnjodbdnaa", sum := "0618e865899bc95427bd36da4229acbddbd80bb0db4c6ea46b6da78fd642bd94", func := "sleuth/sleuthlaw25.EstimateContains", spec := "estimateContains", unfollowed := true, recurses := true, plainKeys := false, apart := false }
def EstimateContainsSaid : Prop := estimateContainsRow.holds Try.pinned (OpenSpec.ofChange estimateContainsSpec)

/-- ITS FALSE NEIGHBOUR: 'it returns false'. Refute it at one input. -/
def estimateContainsWrong : ChangeSpec := { name := "estimateContains", fn := fun _ => fun
  | [d1, d2, d3] => { results := [.lit (.bool false)], args := [d1, d2, d3] }
  | _ => none }
def EstimateContainsWrongFalsely : Prop := estimateContainsRow.holds Try.pinned (OpenSpec.ofChange estimateContainsWrong)

/-- 'sleuthlaw25.EstimateGroups': WHATEVER THE INPUT: true; the input reads as it did. -/
def estimateGroupsSpec : ChangeSpec := { name := "estimateGroups", fn := fun _ => fun
  | [d1, d2, d3] => { results := [.lit (.bool true)], args := [d1, d2, d3] }
  | _ => none }
def estimateGroupsRow : OpenClaim := { program := "ythdifdnjodbdnaa", sum := "0618e865899bc95427bd36da4229acbddbd80bb0db4c6ea46b6da78fd642bd94", func := "sleuth/sleuthlaw25.EstimateGroups", spec := "estimateGroups", unfollowed := true, recurses := true, plainKeys := false, apart := false }
def EstimateGroupsSaid : Prop := estimateGroupsRow.holds Try.pinned (OpenSpec.ofChange estimateGroupsSpec)

/-- ITS FALSE NEIGHBOUR: 'it returns false'. Refute it at one input. -/
def estimateGroupsWrong : ChangeSpec := { name := "estimateGroups", fn := fun _ => fun
  | [d1, d2, d3] => { results := [.lit (.bool false)], args := [d1, d2, d3] }
  | _ => none }
def EstimateGroupsWrongFalsely : Prop := estimateGroupsRow.holds Try.pinned (OpenSpec.ofChange estimateGroupsWrong)

/-- 'sleuthlaw25.EstimateExpects': WHATEVER THE INPUT: true; the input reads as it did. -/
def estimateExpectsSpec : ChangeSpec := { name := "estimateExpects", fn := fun _ => fun
  | [d1, d2, d3] => { results := [.lit (.bool true)], args := [d1, d2, d3] }
  | _ => none }
def estimateExpectsRow : OpenClaim := { program := "ythdifdnjodbdnaa", sum := "0618e865899bc95427bd36da4229acbddbd80bb0db4c6ea46b6da78fd642bd94", func := "sleuth/sleuthlaw25.EstimateExpects", spec := "estimateExpects", unfollowed := true, recurses := true, plainKeys := false, apart := false }
def EstimateExpectsSaid : Prop := estimateExpectsRow.holds Try.pinned (OpenSpec.ofChange estimateExpectsSpec)

/-- ITS FALSE NEIGHBOUR: 'it returns false'. Refute it at one input. -/
def estimateExpectsWrong : ChangeSpec := { name := "estimateExpects", fn := fun _ => fun
  | [d1, d2, d3] => { results := [.lit (.bool false)], args := [d1, d2, d3] }
  | _ => none }
def EstimateExpectsWrongFalsely : Prop := estimateExpectsRow.holds Try.pinned (OpenSpec.ofChange estimateExpectsWrong)

/-- 'sleuthlaw25.EstimateMerges': WHATEVER THE INPUT: true; the input reads as it did. -/
def estimateMergesSpec : ChangeSpec := { name := "estimateMerges", fn := fun _ => fun
  | [d1, d2, d3] => { results := [.lit (.bool true)], args := [d1, d2, d3] }
  | _ => none }
def estimateMergesRow : OpenClaim := { program := "ythdifdnjodbdnaa", sum := "0618e865899bc95427bd36da4229acbddbd80bb0db4c6ea46b6da78fd642bd94", func := "sleuth/sleuthlaw25.EstimateMerges", spec := "estimateMerges", unfollowed := true, recurses := true, plainKeys := false, apart := false }
def EstimateMergesSaid : Prop := estimateMergesRow.holds Try.pinned (OpenSpec.ofChange estimateMergesSpec)

/-- ITS FALSE NEIGHBOUR: 'it returns false'. Refute it at one input. -/
def estimateMergesWrong : ChangeSpec := { name := "estimateMerges", fn := fun _ => fun
  | [d1, d2, d3] => { results := [.lit (.bool false)], args := [d1, d2, d3] }
  | _ => none }
def EstimateMergesWrongFalsely : Prop := estimateMergesRow.holds Try.pinned (OpenSpec.ofChange estimateMergesWrong)

/-- 'sleuthlaw25.EstimateLatency': WHATEVER THE INPUT: true; the input reads as it did. -/
def estimateLatencySpec : ChangeSpec := { name := "estimateLatency", fn := fun _ => fun
  | [d1, d2, d3] => { results := [.lit (.bool true)], args := [d1, d2, d3] }
  | _ => none }
def estimateLatencyRow : OpenClaim := { program := "ythdifdnjodbdnaa", sum := "0618e865899bc95427bd36da4229acbddbd80bb0db4c6ea46b6da78fd642bd94", func := "sleuth/sleuthlaw25.EstimateLatency", spec := "estimateLatency", unfollowed := true, recurses := true, plainKeys := false, apart := false }
def EstimateLatencySaid : Prop := estimateLatencyRow.holds Try.pinned (OpenSpec.ofChange estimateLatencySpec)

/-- ITS FALSE NEIGHBOUR: 'it returns false'. Refute it at one input. -/
def estimateLatencyWrong : ChangeSpec := { name := "estimateLatency", fn := fun _ => fun
  | [d1, d2, d3] => { results := [.lit (.bool false)], args := [d1, d2, d3] }
  | _ => none }
def EstimateLatencyWrongFalsely : Prop := estimateLatencyRow.holds Try.pinned (OpenSpec.ofChange estimateLatencyWrong)

/-- 'sleuthlaw25.EstimateChecks': WHATEVER THE INPUT: true; the input reads as it did. -/
def estimateChecksSpec : ChangeSpec := { name := "estimateChecks", fn := fun _ => fun
  | [d1, d2] => { results := [.lit (.bool true)], args := [d1, d2] }
  | _ => none }
def estimateChecksRow : OpenClaim := { program := "ythdifdnjodbdnaa", sum := "0618e865899bc95427bd36da4229acbddbd80bb0db4c6ea46b6da78fd642bd94", func := "sleuth/sleuthlaw25.EstimateChecks", spec := "estimateChecks", unfollowed := true, recurses := true, plainKeys := false, apart := false }
def EstimateChecksSaid : Prop := estimateChecksRow.holds Try.pinned (OpenSpec.ofChange estimateChecksSpec)

/-- ITS FALSE NEIGHBOUR: 'it returns false'. Refute it at one input. -/
def estimateChecksWrong : ChangeSpec := { name := "estimateChecks", fn := fun _ => fun
  | [d1, d2] => { results := [.lit (.bool false)], args := [d1, d2] }
  | _ => none }
def EstimateChecksWrongFalsely : Prop := estimateChecksRow.holds Try.pinned (OpenSpec.ofChange estimateChecksWrong)

/-- 'sleuthlaw25.EstimateLimits': WHATEVER THE INPUT: true; the input reads as it did. -/
def estimateLimitsSpec : ChangeSpec := { name := "estimateLimits", fn := fun _ => fun
  | [d1, d2, d3] => { results := [.lit (.bool true)], args := [d1, d2, d3] }
  | _ => none }
def estimateLimitsRow : OpenClaim := { program := "ythdifdnjodbdnaa", sum := "0618e865899bc95427bd36da4229acbddbd80bb0db4c6ea46b6da78fd642bd94", func := "sleuth/sleuthlaw25.EstimateLimits", spec := "estimateLimits", unfollowed := true, recurses := true, plainKeys := false, apart := false }
def EstimateLimitsSaid : Prop := estimateLimitsRow.holds Try.pinned (OpenSpec.ofChange estimateLimitsSpec)

/-- ITS FALSE NEIGHBOUR: 'it returns false'. Refute it at one input. -/
def estimateLimitsWrong : ChangeSpec := { name := "estimateLimits", fn := fun _ => fun
  | [d1, d2, d3] => { results := [.lit (.bool false)], args := [d1, d2, d3] }
  | _ => none }
def EstimateLimitsWrongFalsely : Prop := estimateLimitsRow.holds Try.pinned (OpenSpec.ofChange estimateLimitsWrong)

/-- 'sleuthlaw25.EstimateSums': WHATEVER THE INPUT: true; the input reads as it did. -/
def estimateSumsSpec : ChangeSpec := { name := "estimateSums", fn := fun _ => fun
  | [d1, d2, d3] => { results := [.lit (.bool true)], args := [d1, d2, d3] }
  | _ => none }
def estimateSumsRow : OpenClaim := { program := "ythdifdnjodbdnaa", sum := "0618e865899bc95427bd36da4229acbddbd80bb0db4c6ea46b6da78fd642bd94", func := "sleuth/sleuthlaw25.EstimateSums", spec := "estimateSums", unfollowed := true, recurses := true, plainKeys := false, apart := false }
def EstimateSumsSaid : Prop := estimateSumsRow.holds Try.pinned (OpenSpec.ofChange estimateSumsSpec)

/-- ITS FALSE NEIGHBOUR: 'it returns false'. Refute it at one input. -/
def estimateSumsWrong : ChangeSpec := { name := "estimateSums", fn := fun _ => fun
  | [d1, d2, d3] => { results := [.lit (.bool false)], args := [d1, d2, d3] }
  | _ => none }
def EstimateSumsWrongFalsely : Prop := estimateSumsRow.holds Try.pinned (OpenSpec.ofChange estimateSumsWrong)

/- THE SECOND FORM. 'bulk': how many values and letters a reading holds, each counted each time it is reached (what is shared counts as often as it is met; a slice's spare places count too). A statement '..UptoSaid' is the law's where the arguments, and the package variables that the reading takes, are together of bulk at most 1048576: NARROWER than '..Said'. Prove '..Said' where nothing that the law and all that it calls make is longer than what came in: it says more and counts as full. Else prove '..UptoSaid'. A law counts once. -/
mutual
def uptoBulk {H : Type} : DataW H → Nat
  | .lit (.string bytes) => bytes.length + 1
  | .lit _ => 1
  | .nil => 1
  | .ptr d => uptoBulk d + 1
  | .slice elems spare => uptoBulkAll elems + uptoBulkAll spare + 1
  | .agg parts => uptoBulkAll parts + 1
  | .iface _ d => uptoBulk d + 1
  | .map entries => uptoBulkEntries entries + 1
  | .held _ => 1
def uptoBulkAll {H : Type} : List (DataW H) → Nat
  | [] => 0
  | d :: r => uptoBulk d + uptoBulkAll r
def uptoBulkEntries {H : Type} : List (Lit × DataW H) → Nat
  | [] => 0
  | x :: r => uptoBulkEntry x + uptoBulkEntries r
def uptoBulkEntry {H : Type} : Lit × DataW H → Nat
  | (.string bytes, d) => bytes.length + uptoBulk d + 1
  | (_, d) => uptoBulk d + 1
 end
def uptoSmall : (H : Type) → List (DataW H) → Bool := fun _ ds => decide (uptoBulkAll ds ≤ 1048576)
def OpenSpec.upto (s : _root_.Go.ChangeSpec) : _root_.Go.OpenSpec := { _root_.Go.OpenSpec.ofChange s with cond := some uptoSmall }

/-- 'sleuthlaw25.EstimateRefines', WHERE WHAT IT READS IS OF BULK AT MOST 1048576: true; the input reads as it did. -/
def estimateRefinesUptoRow : OpenClaim := { program := "ythdifdnjodbdnaa", sum := "0618e865899bc95427bd36da4229acbddbd80bb0db4c6ea46b6da78fd642bd94", func := "sleuth/sleuthlaw25.EstimateRefines", spec := "estimateRefines", unfollowed := true, recurses := true, plainKeys := false, apart := false, narrowed := true }
def EstimateRefinesUptoSaid : Prop := estimateRefinesUptoRow.holds Try.pinned (OpenSpec.upto estimateRefinesSpec)

/-- 'sleuthlaw25.EstimateContains', WHERE WHAT IT READS IS OF BULK AT MOST 1048576: true; the input reads as it did. -/
def estimateContainsUptoRow : OpenClaim := { program := "ythdifdnjodbdnaa", sum := "0618e865899bc95427bd36da4229acbddbd80bb0db4c6ea46b6da78fd642bd94", func := "sleuth/sleuthlaw25.EstimateContains", spec := "estimateContains", unfollowed := true, recurses := true, plainKeys := false, apart := false, narrowed := true }
def EstimateContainsUptoSaid : Prop := estimateContainsUptoRow.holds Try.pinned (OpenSpec.upto estimateContainsSpec)

/-- 'sleuthlaw25.EstimateGroups', WHERE WHAT IT READS IS OF BULK AT MOST 1048576: true; the input reads as it did. -/
def estimateGroupsUptoRow : OpenClaim := { program := "ythdifdnjodbdnaa", sum := "0618e865899bc95427bd36da4229acbddbd80bb0db4c6ea46b6da78fd642bd94", func := "sleuth/sleuthlaw25.EstimateGroups", spec := "estimateGroups", unfollowed := true, recurses := true, plainKeys := false, apart := false, narrowed := true }
def EstimateGroupsUptoSaid : Prop := estimateGroupsUptoRow.holds Try.pinned (OpenSpec.upto estimateGroupsSpec)

/-- 'sleuthlaw25.EstimateExpects', WHERE WHAT IT READS IS OF BULK AT MOST 1048576: true; the input reads as it did. -/
def estimateExpectsUptoRow : OpenClaim := { program := "ythdifdnjodbdnaa", sum := "0618e865899bc95427bd36da4229acbddbd80bb0db4c6ea46b6da78fd642bd94", func := "sleuth/sleuthlaw25.EstimateExpects", spec := "estimateExpects", unfollowed := true, recurses := true, plainKeys := false, apart := false, narrowed := true }
def EstimateExpectsUptoSaid : Prop := estimateExpectsUptoRow.holds Try.pinned (OpenSpec.upto estimateExpectsSpec)

/-- 'sleuthlaw25.EstimateMerges', WHERE WHAT IT READS IS OF BULK AT MOST 1048576: true; the input reads as it did. -/
def estimateMergesUptoRow : OpenClaim := { program := "ythdifdnjodbdnaa", sum := "0618e865899bc95427bd36da4229acbddbd80bb0db4c6ea46b6da78fd642bd94", func := "sleuth/sleuthlaw25.EstimateMerges", spec := "estimateMerges", unfollowed := true, recurses := true, plainKeys := false, apart := false, narrowed := true }
def EstimateMergesUptoSaid : Prop := estimateMergesUptoRow.holds Try.pinned (OpenSpec.upto estimateMergesSpec)

/-- 'sleuthlaw25.EstimateLatency', WHERE WHAT IT READS IS OF BULK AT MOST 1048576: true; the input reads as it did. -/
def estimateLatencyUptoRow : OpenClaim := { program := "ythdifdnjodbdnaa", sum := "0618e865899bc95427bd36da4229acbddbd80bb0db4c6ea46b6da78fd642bd94", func := "sleuth/sleuthlaw25.EstimateLatency", spec := "estimateLatency", unfollowed := true, recurses := true, plainKeys := false, apart := false, narrowed := true }
def EstimateLatencyUptoSaid : Prop := estimateLatencyUptoRow.holds Try.pinned (OpenSpec.upto estimateLatencySpec)

/-- 'sleuthlaw25.EstimateChecks', WHERE WHAT IT READS IS OF BULK AT MOST 1048576: true; the input reads as it did. -/
def estimateChecksUptoRow : OpenClaim := { program := "ythdifdnjodbdnaa", sum := "0618e865899bc95427bd36da4229acbddbd80bb0db4c6ea46b6da78fd642bd94", func := "sleuth/sleuthlaw25.EstimateChecks", spec := "estimateChecks", unfollowed := true, recurses := true, plainKeys := false, apart := false, narrowed := true }
def EstimateChecksUptoSaid : Prop := estimateChecksUptoRow.holds Try.pinned (OpenSpec.upto estimateChecksSpec)

/-- 'sleuthlaw25.EstimateLimits', WHERE WHAT IT READS IS OF BULK AT MOST 1048576: true; the input reads as it did. -/
def estimateLimitsUptoRow : OpenClaim := { program := "ythdifdnjodbdnaa", sum := "0618e865899bc95427bd36da4229acbddbd80bb0db4c6ea46b6da78fd642bd94", func := "sleuth/sleuthlaw25.EstimateLimits", spec := "estimateLimits", unfollowed := true, recurses := true, plainKeys := false, apart := false, narrowed := true }
def EstimateLimitsUptoSaid : Prop := estimateLimitsUptoRow.holds Try.pinned (OpenSpec.upto estimateLimitsSpec)

/-- 'sleuthlaw25.EstimateSums', WHERE WHAT IT READS IS OF BULK AT MOST 1048576: true; the input reads as it did. -/
def estimateSumsUptoRow : OpenClaim := { program := "ythdifdnjodbdnaa", sum := "0618e865899bc95427bd36da4229acbddbd80bb0db4c6ea46b6da78fd642bd94", func := "sleuth/sleuthlaw25.EstimateSums", spec := "estimateSums", unfollowed := true, recurses := true, plainKeys := false, apart := false, narrowed := true }
def EstimateSumsUptoSaid : Prop := estimateSumsUptoRow.holds Try.pinned (OpenSpec.upto estimateSumsSpec)

end Rows
end Go.Proofs.Ythdifdnjodbdnaa
