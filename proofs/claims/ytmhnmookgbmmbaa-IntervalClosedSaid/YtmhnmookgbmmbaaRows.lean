/-
  No cell of these rows narrows 'for every input' (looked for: loops, veiled, ifaces, maps, wideKeys, modest, calm, conditions, laid).
  DERIVED. THE GIVEN ROWS OF THIS SEAT. 8 by the template 'for every input the law returns true; each argument reads behind the call as it read before'; 0 by the template 'total and deterministic' (their statements: YtmhnmookgbmmbaaTotals.lean).
  GIVEN WITH THE SEED: the statements are not yours to turn. If you find one false, say at which input.
  Laid BY PROGRAM, IN A SANDBOX (cutbox-rows.mjs): the forced cells as the released guide's own fill.sh prints them over the translation f42f351aa4f9ac18… (all of the seat's roots in one cut). By AI agents, Wed Nov 11 2026. No macro, syntax, notation, axiom, sorry.
-/
import Derived.Test.YtmhnmookgbmmbaaChecked
import GoSem.Claim
import GoSem.ClaimJoined
import GoSem.ClaimMapViews
import Derived.JoinedTies
import Derived.KernelRfl
namespace Go.Proofs.Ytmhnmookgbmmbaa
/- THE CELL 'sum', in the pinned program and in every row, IS THE sha256 OF THE DUMP (.gsa) THAT YtmhnmookgbmmbaaProg.lean LOADS. Nothing in Lean hashes anything: it is a label: what it is worth is what the hold of that sum in a sandbox is worth. -/
noncomputable def Try.pinned : Pinned := { name := "ytmhnmookgbmmbaa", sum := "f42f351aa4f9ac1871b4d094cfffbeeac852c550a7484acb290aae64825ccf9f", checked := Try.checked }
namespace Rows
def none {H : Type} : Left H := { results := [], args := [] }

/-- 'elasticstorelaw10.GraphBuild': WHATEVER THE INPUT: true; the input reads as it did. -/
def graphBuildSpec : ChangeSpec := { name := "graphBuild", fn := fun _ => fun
  | [d1, d2, d3] => { results := [.lit (.bool true)], args := [d1, d2, d3] }
  | _ => none }
def graphBuildRow : OpenClaim := { program := "ytmhnmookgbmmbaa", sum := "f42f351aa4f9ac1871b4d094cfffbeeac852c550a7484acb290aae64825ccf9f", func := "elasticstore/elasticstorelaw10.GraphBuild", spec := "graphBuild", inPlace := ["slices.overlaps[elasticstore/api.Entry]", "slices.overlaps[elasticstore/api.Proposal]"], unfollowed := true, recurses := true, apart := false }
def GraphBuildSaid : Prop := graphBuildRow.holds Try.pinned (OpenSpec.ofChange graphBuildSpec)

/-- ITS FALSE NEIGHBOUR: 'it returns false'. Refute it at one input. -/
def graphBuildWrong : ChangeSpec := { name := "graphBuild", fn := fun _ => fun
  | [d1, d2, d3] => { results := [.lit (.bool false)], args := [d1, d2, d3] }
  | _ => none }
def GraphBuildWrongFalsely : Prop := graphBuildRow.holds Try.pinned (OpenSpec.ofChange graphBuildWrong)

/-- 'elasticstorelaw10.GraphContract': WHATEVER THE INPUT: true; the input reads as it did. -/
def graphContractSpec : ChangeSpec := { name := "graphContract", fn := fun _ => fun
  | [d1, d2, d3, d4] => { results := [.lit (.bool true)], args := [d1, d2, d3, d4] }
  | _ => none }
def graphContractRow : OpenClaim := { program := "ytmhnmookgbmmbaa", sum := "f42f351aa4f9ac1871b4d094cfffbeeac852c550a7484acb290aae64825ccf9f", func := "elasticstore/elasticstorelaw10.GraphContract", spec := "graphContract", inPlace := ["slices.overlaps[elasticstore/api.Entry]", "slices.overlaps[elasticstore/api.Proposal]"], unfollowed := true, recurses := true, apart := false }
def GraphContractSaid : Prop := graphContractRow.holds Try.pinned (OpenSpec.ofChange graphContractSpec)

/-- ITS FALSE NEIGHBOUR: 'it returns false'. Refute it at one input. -/
def graphContractWrong : ChangeSpec := { name := "graphContract", fn := fun _ => fun
  | [d1, d2, d3, d4] => { results := [.lit (.bool false)], args := [d1, d2, d3, d4] }
  | _ => none }
def GraphContractWrongFalsely : Prop := graphContractRow.holds Try.pinned (OpenSpec.ofChange graphContractWrong)

/-- 'elasticstorelaw10.GraphPrune': WHATEVER THE INPUT: true; the input reads as it did. -/
def graphPruneSpec : ChangeSpec := { name := "graphPrune", fn := fun _ => fun
  | [d1, d2, d3, d4] => { results := [.lit (.bool true)], args := [d1, d2, d3, d4] }
  | _ => none }
def graphPruneRow : OpenClaim := { program := "ytmhnmookgbmmbaa", sum := "f42f351aa4f9ac1871b4d094cfffbeeac852c550a7484acb290aae64825ccf9f", func := "elasticstore/elasticstorelaw10.GraphPrune", spec := "graphPrune", inPlace := ["slices.overlaps[elasticstore/api.Entry]", "slices.overlaps[elasticstore/api.Proposal]"], unfollowed := true, recurses := true, apart := false }
def GraphPruneSaid : Prop := graphPruneRow.holds Try.pinned (OpenSpec.ofChange graphPruneSpec)

/-- ITS FALSE NEIGHBOUR: 'it returns false'. Refute it at one input. -/
def graphPruneWrong : ChangeSpec := { name := "graphPrune", fn := fun _ => fun
  | [d1, d2, d3, d4] => { results := [.lit (.bool false)], args := [d1, d2, d3, d4] }
  | _ => none }
def GraphPruneWrongFalsely : Prop := graphPruneRow.holds Try.pinned (OpenSpec.ofChange graphPruneWrong)

/-- 'elasticstorelaw10.GraphLevels': WHATEVER THE INPUT: true; the input reads as it did. -/
def graphLevelsSpec : ChangeSpec := { name := "graphLevels", fn := fun _ => fun
  | [d1, d2, d3, d4, d5] => { results := [.lit (.bool true)], args := [d1, d2, d3, d4, d5] }
  | _ => none }
def graphLevelsRow : OpenClaim := { program := "ytmhnmookgbmmbaa", sum := "f42f351aa4f9ac1871b4d094cfffbeeac852c550a7484acb290aae64825ccf9f", func := "elasticstore/elasticstorelaw10.GraphLevels", spec := "graphLevels", inPlace := ["slices.overlaps[elasticstore/api.Entry]", "slices.overlaps[elasticstore/api.Proposal]"], unfollowed := true, recurses := true, apart := false }
def GraphLevelsSaid : Prop := graphLevelsRow.holds Try.pinned (OpenSpec.ofChange graphLevelsSpec)

/-- ITS FALSE NEIGHBOUR: 'it returns false'. Refute it at one input. -/
def graphLevelsWrong : ChangeSpec := { name := "graphLevels", fn := fun _ => fun
  | [d1, d2, d3, d4, d5] => { results := [.lit (.bool false)], args := [d1, d2, d3, d4, d5] }
  | _ => none }
def GraphLevelsWrongFalsely : Prop := graphLevelsRow.holds Try.pinned (OpenSpec.ofChange graphLevelsWrong)

/-- 'elasticstorelaw10.GraphPaths': WHATEVER THE INPUT: true; the input reads as it did. -/
def graphPathsSpec : ChangeSpec := { name := "graphPaths", fn := fun _ => fun
  | [d1, d2, d3, d4, d5, d6] => { results := [.lit (.bool true)], args := [d1, d2, d3, d4, d5, d6] }
  | _ => none }
def graphPathsRow : OpenClaim := { program := "ytmhnmookgbmmbaa", sum := "f42f351aa4f9ac1871b4d094cfffbeeac852c550a7484acb290aae64825ccf9f", func := "elasticstore/elasticstorelaw10.GraphPaths", spec := "graphPaths", inPlace := ["slices.overlaps[elasticstore/api.Entry]", "slices.overlaps[elasticstore/api.Proposal]"], unfollowed := true, recurses := true, apart := false }
def GraphPathsSaid : Prop := graphPathsRow.holds Try.pinned (OpenSpec.ofChange graphPathsSpec)

/-- ITS FALSE NEIGHBOUR: 'it returns false'. Refute it at one input. -/
def graphPathsWrong : ChangeSpec := { name := "graphPaths", fn := fun _ => fun
  | [d1, d2, d3, d4, d5, d6] => { results := [.lit (.bool false)], args := [d1, d2, d3, d4, d5, d6] }
  | _ => none }
def GraphPathsWrongFalsely : Prop := graphPathsRow.holds Try.pinned (OpenSpec.ofChange graphPathsWrong)

/-- 'elasticstorelaw10.GraphOrders': WHATEVER THE INPUT: true; the input reads as it did. -/
def graphOrdersSpec : ChangeSpec := { name := "graphOrders", fn := fun _ => fun
  | [d1, d2, d3] => { results := [.lit (.bool true)], args := [d1, d2, d3] }
  | _ => none }
def graphOrdersRow : OpenClaim := { program := "ytmhnmookgbmmbaa", sum := "f42f351aa4f9ac1871b4d094cfffbeeac852c550a7484acb290aae64825ccf9f", func := "elasticstore/elasticstorelaw10.GraphOrders", spec := "graphOrders", inPlace := ["slices.overlaps[elasticstore/api.Entry]", "slices.overlaps[elasticstore/api.Proposal]"], unfollowed := true, recurses := true, apart := false }
def GraphOrdersSaid : Prop := graphOrdersRow.holds Try.pinned (OpenSpec.ofChange graphOrdersSpec)

/-- ITS FALSE NEIGHBOUR: 'it returns false'. Refute it at one input. -/
def graphOrdersWrong : ChangeSpec := { name := "graphOrders", fn := fun _ => fun
  | [d1, d2, d3] => { results := [.lit (.bool false)], args := [d1, d2, d3] }
  | _ => none }
def GraphOrdersWrongFalsely : Prop := graphOrdersRow.holds Try.pinned (OpenSpec.ofChange graphOrdersWrong)

/-- 'elasticstorelaw09.IntervalCount': WHATEVER THE INPUT: true; the input reads as it did. -/
def intervalCountSpec : ChangeSpec := { name := "intervalCount", fn := fun _ => fun
  | [d1, d2, d3] => { results := [.lit (.bool true)], args := [d1, d2, d3] }
  | _ => none }
def intervalCountRow : OpenClaim := { program := "ytmhnmookgbmmbaa", sum := "f42f351aa4f9ac1871b4d094cfffbeeac852c550a7484acb290aae64825ccf9f", func := "elasticstore/elasticstorelaw09.IntervalCount", spec := "intervalCount", inPlace := ["slices.overlaps[elasticstore/api.Entry]", "slices.overlaps[int]", "slices.overlaps[elasticstore/api.WeightEntry]"], unfollowed := true, recurses := true, apart := false }
def IntervalCountSaid : Prop := intervalCountRow.holds Try.pinned (OpenSpec.ofChange intervalCountSpec)

/-- ITS FALSE NEIGHBOUR: 'it returns false'. Refute it at one input. -/
def intervalCountWrong : ChangeSpec := { name := "intervalCount", fn := fun _ => fun
  | [d1, d2, d3] => { results := [.lit (.bool false)], args := [d1, d2, d3] }
  | _ => none }
def IntervalCountWrongFalsely : Prop := intervalCountRow.holds Try.pinned (OpenSpec.ofChange intervalCountWrong)

/-- 'elasticstorelaw09.IntervalClosed': WHATEVER THE INPUT: true; the input reads as it did. -/
def intervalClosedSpec : ChangeSpec := { name := "intervalClosed", fn := fun _ => fun
  | [d1, d2, d3, d4, d5] => { results := [.lit (.bool true)], args := [d1, d2, d3, d4, d5] }
  | _ => none }
def intervalClosedRow : OpenClaim := { program := "ytmhnmookgbmmbaa", sum := "f42f351aa4f9ac1871b4d094cfffbeeac852c550a7484acb290aae64825ccf9f", func := "elasticstore/elasticstorelaw09.IntervalClosed", spec := "intervalClosed", inPlace := ["slices.overlaps[elasticstore/api.Entry]", "slices.overlaps[int]", "slices.overlaps[elasticstore/api.WeightEntry]"], unfollowed := true, recurses := true, apart := false }
def IntervalClosedSaid : Prop := intervalClosedRow.holds Try.pinned (OpenSpec.ofChange intervalClosedSpec)

/-- ITS FALSE NEIGHBOUR: 'it returns false'. Refute it at one input. -/
def intervalClosedWrong : ChangeSpec := { name := "intervalClosed", fn := fun _ => fun
  | [d1, d2, d3, d4, d5] => { results := [.lit (.bool false)], args := [d1, d2, d3, d4, d5] }
  | _ => none }
def IntervalClosedWrongFalsely : Prop := intervalClosedRow.holds Try.pinned (OpenSpec.ofChange intervalClosedWrong)

/- THE SECOND FORM. 'bulk': how many values and letters a reading holds, each counted each time it is reached (what is shared counts as often as it is met; a slice's spare places count too). A statement '..UptoSaid' is the law's where the arguments, and the package variables that the reading takes, are together of bulk at most 1048576: NARROWER than '..Said'. Prove '..Said' where nothing that the law and all that it calls make is longer than what came in: it says more and counts as full. Else prove '..UptoSaid'. A law counts once. -/
mutual
def uptoBulk {H : Type} : DataW H → Nat
  | .lit (.string bytes) => bytes.length + 1
  | .lit _ => 1
  | .nil => 1
  | .ptr d => uptoBulk d + 1
  | .slice elems spare => uptoBulkAll elems + uptoBulkAll spare + 1
  | .agg parts => uptoBulkAll parts + 1
  | .iface _ d => uptoBulk d + 1
  | .map entries => uptoBulkEntries entries + 1
  | .held _ => 1
def uptoBulkAll {H : Type} : List (DataW H) → Nat
  | [] => 0
  | d :: r => uptoBulk d + uptoBulkAll r
def uptoBulkEntries {H : Type} : List (Lit × DataW H) → Nat
  | [] => 0
  | x :: r => uptoBulkEntry x + uptoBulkEntries r
def uptoBulkEntry {H : Type} : Lit × DataW H → Nat
  | (.string bytes, d) => bytes.length + uptoBulk d + 1
  | (_, d) => uptoBulk d + 1
 end
def uptoSmall : (H : Type) → List (DataW H) → Bool := fun _ ds => decide (uptoBulkAll ds ≤ 1048576)
def OpenSpec.upto (s : _root_.Go.ChangeSpec) : _root_.Go.OpenSpec := { _root_.Go.OpenSpec.ofChange s with cond := some uptoSmall }

/-- 'elasticstorelaw10.GraphBuild', WHERE WHAT IT READS IS OF BULK AT MOST 1048576: true; the input reads as it did. -/
def graphBuildUptoRow : OpenClaim := { program := "ytmhnmookgbmmbaa", sum := "f42f351aa4f9ac1871b4d094cfffbeeac852c550a7484acb290aae64825ccf9f", func := "elasticstore/elasticstorelaw10.GraphBuild", spec := "graphBuild", inPlace := ["slices.overlaps[elasticstore/api.Entry]", "slices.overlaps[elasticstore/api.Proposal]"], unfollowed := true, recurses := true, apart := false, narrowed := true }
def GraphBuildUptoSaid : Prop := graphBuildUptoRow.holds Try.pinned (OpenSpec.upto graphBuildSpec)

/-- 'elasticstorelaw10.GraphContract', WHERE WHAT IT READS IS OF BULK AT MOST 1048576: true; the input reads as it did. -/
def graphContractUptoRow : OpenClaim := { program := "ytmhnmookgbmmbaa", sum := "f42f351aa4f9ac1871b4d094cfffbeeac852c550a7484acb290aae64825ccf9f", func := "elasticstore/elasticstorelaw10.GraphContract", spec := "graphContract", inPlace := ["slices.overlaps[elasticstore/api.Entry]", "slices.overlaps[elasticstore/api.Proposal]"], unfollowed := true, recurses := true, apart := false, narrowed := true }
def GraphContractUptoSaid : Prop := graphContractUptoRow.holds Try.pinned (OpenSpec.upto graphContractSpec)

/-- 'elasticstorelaw10.GraphPrune', WHERE WHAT IT READS IS OF BULK AT MOST 1048576: true; the input reads as it did. -/
def graphPruneUptoRow : OpenClaim := { program := "ytmhnmookgbmmbaa", sum := "f42f351aa4f9ac1871b4d094cfffbeeac852c550a7484acb290aae64825ccf9f", func := "elasticstore/elasticstorelaw10.GraphPrune", spec := "graphPrune", inPlace := ["slices.overlaps[elasticstore/api.Entry]", "slices.overlaps[elasticstore/api.Proposal]"], unfollowed := true, recurses := true, apart := false, narrowed := true }
def GraphPruneUptoSaid : Prop := graphPruneUptoRow.holds Try.pinned (OpenSpec.upto graphPruneSpec)

/-- 'elasticstorelaw10.GraphLevels', WHERE WHAT IT READS IS OF BULK AT MOST 1048576: true; the input reads as it did. -/
def graphLevelsUptoRow : OpenClaim := { program := "ytmhnmookgbmmbaa", sum := "f42f351aa4f9ac1871b4d094cfffbeeac852c550a7484acb290aae64825ccf9f", func := "elasticstore/elasticstorelaw10.GraphLevels", spec := "graphLevels", inPlace := ["slices.overlaps[elasticstore/api.Entry]", "slices.overlaps[elasticstore/api.Proposal]"], unfollowed := true, recurses := true, apart := false, narrowed := true }
def GraphLevelsUptoSaid : Prop := graphLevelsUptoRow.holds Try.pinned (OpenSpec.upto graphLevelsSpec)

/-- 'elasticstorelaw10.GraphPaths', WHERE WHAT IT READS IS OF BULK AT MOST 1048576: true; the input reads as it did. -/
def graphPathsUptoRow : OpenClaim := { program := "ytmhnmookgbmmbaa", sum := "f42f351aa4f9ac1871b4d094cfffbeeac852c550a7484acb290aae64825ccf9f", func := "elasticstore/elasticstorelaw10.GraphPaths", spec := "graphPaths", inPlace := ["slices.overlaps[elasticstore/api.Entry]", "slices.overlaps[elasticstore/api.Proposal]"], unfollowed := true, recurses := true, apart := false, narrowed := true }
def GraphPathsUptoSaid : Prop := graphPathsUptoRow.holds Try.pinned (OpenSpec.upto graphPathsSpec)

/-- 'elasticstorelaw10.GraphOrders', WHERE WHAT IT READS IS OF BULK AT MOST 1048576: true; the input reads as it did. -/
def graphOrdersUptoRow : OpenClaim := { program := "ytmhnmookgbmmbaa", sum := "f42f351aa4f9ac1871b4d094cfffbeeac852c550a7484acb290aae64825ccf9f", func := "elasticstore/elasticstorelaw10.GraphOrders", spec := "graphOrders", inPlace := ["slices.overlaps[elasticstore/api.Entry]", "slices.overlaps[elasticstore/api.Proposal]"], unfollowed := true, recurses := true, apart := false, narrowed := true }
def GraphOrdersUptoSaid : Prop := graphOrdersUptoRow.holds Try.pinned (OpenSpec.upto graphOrdersSpec)

/-- 'elasticstorelaw09.IntervalCount', WHERE WHAT IT READS IS OF BULK AT MOST 1048576: true; the input reads as it did. -/
def intervalCountUptoRow : OpenClaim := { program := "ytmhnmookgbmmbaa", sum := "f42f351aa4f9ac1871b4d094cfffbeeac852c550a7484acb290aae64825ccf9f", func := "elasticstore/elasticstorelaw09.IntervalCount", spec := "intervalCount", inPlace := ["slices.overlaps[elasticstore/api.Entry]", "slices.overlaps[int]", "slices.overlaps[elasticstore/api.WeightEntry]"], unfollowed := true, recurses := true, apart := false, narrowed := true }
def IntervalCountUptoSaid : Prop := intervalCountUptoRow.holds Try.pinned (OpenSpec.upto intervalCountSpec)

/-- 'elasticstorelaw09.IntervalClosed', WHERE WHAT IT READS IS OF BULK AT MOST 1048576: true; the input reads as it did. -/
def intervalClosedUptoRow : OpenClaim := { program := "ytmhnmookgbmmbaa", sum := "f42f351aa4f9ac1871b4d094cfffbeeac852c550a7484acb290aae64825ccf9f", func := "elasticstore/elasticstorelaw09.IntervalClosed", spec := "intervalClosed", inPlace := ["slices.overlaps[elasticstore/api.Entry]", "slices.overlaps[int]", "slices.overlaps[elasticstore/api.WeightEntry]"], unfollowed := true, recurses := true, apart := false, narrowed := true }
def IntervalClosedUptoSaid : Prop := intervalClosedUptoRow.holds Try.pinned (OpenSpec.upto intervalClosedSpec)

end Rows
end Go.Proofs.Ytmhnmookgbmmbaa
