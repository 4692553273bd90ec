/-
  No cell of these rows narrows 'for every input' (looked for: loops, veiled, ifaces, maps, wideKeys, modest, calm, conditions, laid).
  DERIVED. THE GIVEN ROWS OF THIS SEAT. 13 by the template 'for every input the law returns true; each argument reads behind the call as it read before'; 0 by the template 'total and deterministic' (their statements: YtndpgjcmmjeoiaaGreatTotals.lean).
  GIVEN WITH THE SEED: the statements are not yours to turn. If you find one false, say at which input.
  Laid BY PROGRAM, IN A SANDBOX (cutbox-rows.mjs): the forced cells as the released guide's own fill.sh prints them over the translation 7b1a1ea4c6ef6f27… (all of the seat's roots in one cut). By AI agents, Wed Nov 11 2026. No macro, syntax, notation, axiom, sorry.
-/
import Derived.Test.YtndpgjcmmjeoiaaGreatChecked
import GoSem.Claim
import GoSem.ClaimJoined
import GoSem.ClaimMapViews
import Derived.JoinedTies
import Derived.KernelRfl
namespace Go.Proofs.YtndpgjcmmjeoiaaGreat
/- THE CELL 'sum', in the pinned program and in every row, IS THE sha256 OF THE DUMP (.gsa) THAT YtndpgjcmmjeoiaaGreatProg.lean LOADS. Nothing in Lean hashes anything: it is a label: what it is worth is what the hold of that sum in a sandbox is worth. -/
noncomputable def Tryz.pinned : Pinned := { name := "ytndpgjcmmjeoiaagreat", sum := "7b1a1ea4c6ef6f27ebfc0f3bf0019abfac21cf2c366e748a9062b97b1c73f6c8", checked := Tryz.checked }
namespace Rows
def none {H : Type} : Left H := { results := [], args := [] }

/-- 'elasticstorelaw20.TransferBegin': WHATEVER THE INPUT: true; the input reads as it did. -/
def transferBeginSpec : ChangeSpec := { name := "transferBegin", fn := fun _ => fun
  | [d1, d2, d3, d4, d5] => { results := [.lit (.bool true)], args := [d1, d2, d3, d4, d5] }
  | _ => none }
def transferBeginRow : OpenClaim := { program := "ytndpgjcmmjeoiaagreat", sum := "7b1a1ea4c6ef6f27ebfc0f3bf0019abfac21cf2c366e748a9062b97b1c73f6c8", func := "elasticstore/elasticstorelaw20.TransferBegin", spec := "transferBegin", inPlace := ["slices.overlaps[elasticstore/api.Entry]", "slices.overlaps[int]", "slices.overlaps[elasticstore/api.WeightEntry]", "slices.overlaps[elasticstore/api.Proposal]"], unfollowed := true, recurses := true, apart := false }
def TransferBeginSaid : Prop := transferBeginRow.holds Tryz.pinned (OpenSpec.ofChange transferBeginSpec)

/-- ITS FALSE NEIGHBOUR: 'it returns false'. Refute it at one input. -/
def transferBeginWrong : ChangeSpec := { name := "transferBegin", fn := fun _ => fun
  | [d1, d2, d3, d4, d5] => { results := [.lit (.bool false)], args := [d1, d2, d3, d4, d5] }
  | _ => none }
def TransferBeginWrongFalsely : Prop := transferBeginRow.holds Tryz.pinned (OpenSpec.ofChange transferBeginWrong)

/-- 'elasticstorelaw20.TransferServe': WHATEVER THE INPUT: true; the input reads as it did. -/
def transferServeSpec : ChangeSpec := { name := "transferServe", fn := fun _ => fun
  | [d1, d2, d3, d4, d5, d6, d7] => { results := [.lit (.bool true)], args := [d1, d2, d3, d4, d5, d6, d7] }
  | _ => none }
def transferServeRow : OpenClaim := { program := "ytndpgjcmmjeoiaagreat", sum := "7b1a1ea4c6ef6f27ebfc0f3bf0019abfac21cf2c366e748a9062b97b1c73f6c8", func := "elasticstore/elasticstorelaw20.TransferServe", spec := "transferServe", inPlace := ["slices.overlaps[elasticstore/api.Proposal]", "slices.overlaps[elasticstore/api.Entry]", "slices.overlaps[int]", "slices.overlaps[elasticstore/api.WeightEntry]"], unfollowed := true, recurses := true, apart := false }
def TransferServeSaid : Prop := transferServeRow.holds Tryz.pinned (OpenSpec.ofChange transferServeSpec)

/-- ITS FALSE NEIGHBOUR: 'it returns false'. Refute it at one input. -/
def transferServeWrong : ChangeSpec := { name := "transferServe", fn := fun _ => fun
  | [d1, d2, d3, d4, d5, d6, d7] => { results := [.lit (.bool false)], args := [d1, d2, d3, d4, d5, d6, d7] }
  | _ => none }
def TransferServeWrongFalsely : Prop := transferServeRow.holds Tryz.pinned (OpenSpec.ofChange transferServeWrong)

/-- 'elasticstorelaw20.TransferReported': WHATEVER THE INPUT: true; the input reads as it did. -/
def transferReportedSpec : ChangeSpec := { name := "transferReported", fn := fun _ => fun
  | [d] => { results := [.lit (.bool true)], args := [d] }
  | _ => none }
def transferReportedRow : OpenClaim := { program := "ytndpgjcmmjeoiaagreat", sum := "7b1a1ea4c6ef6f27ebfc0f3bf0019abfac21cf2c366e748a9062b97b1c73f6c8", func := "elasticstore/elasticstorelaw20.TransferReported", spec := "transferReported", inPlace := ["slices.overlaps[elasticstore/api.Entry]", "slices.overlaps[int]", "slices.overlaps[elasticstore/api.WeightEntry]", "slices.overlaps[elasticstore/api.Proposal]"], unfollowed := true, recurses := true, apart := false }
def TransferReportedSaid : Prop := transferReportedRow.holds Tryz.pinned (OpenSpec.ofChange transferReportedSpec)

/-- ITS FALSE NEIGHBOUR: 'it returns false'. Refute it at one input. -/
def transferReportedWrong : ChangeSpec := { name := "transferReported", fn := fun _ => fun
  | [d] => { results := [.lit (.bool false)], args := [d] }
  | _ => none }
def TransferReportedWrongFalsely : Prop := transferReportedRow.holds Tryz.pinned (OpenSpec.ofChange transferReportedWrong)

/-- 'elasticstorelaw20.TransferQuorums': WHATEVER THE INPUT: true; the input reads as it did. -/
def transferQuorumsSpec : ChangeSpec := { name := "transferQuorums", fn := fun _ => fun
  | [d1, d2, d3, d4, d5, d6] => { results := [.lit (.bool true)], args := [d1, d2, d3, d4, d5, d6] }
  | _ => none }
def transferQuorumsRow : OpenClaim := { program := "ytndpgjcmmjeoiaagreat", sum := "7b1a1ea4c6ef6f27ebfc0f3bf0019abfac21cf2c366e748a9062b97b1c73f6c8", func := "elasticstore/elasticstorelaw20.TransferQuorums", spec := "transferQuorums", inPlace := ["slices.overlaps[elasticstore/api.Entry]", "slices.overlaps[int]", "slices.overlaps[elasticstore/api.WeightEntry]", "slices.overlaps[elasticstore/api.Proposal]"], unfollowed := true, recurses := true, apart := false }
def TransferQuorumsSaid : Prop := transferQuorumsRow.holds Tryz.pinned (OpenSpec.ofChange transferQuorumsSpec)

/-- ITS FALSE NEIGHBOUR: 'it returns false'. Refute it at one input. -/
def transferQuorumsWrong : ChangeSpec := { name := "transferQuorums", fn := fun _ => fun
  | [d1, d2, d3, d4, d5, d6] => { results := [.lit (.bool false)], args := [d1, d2, d3, d4, d5, d6] }
  | _ => none }
def TransferQuorumsWrongFalsely : Prop := transferQuorumsRow.holds Tryz.pinned (OpenSpec.ofChange transferQuorumsWrong)

/-- 'elasticstorelaw20.TransferMeets': WHATEVER THE INPUT: true; the input reads as it did. -/
def transferMeetsSpec : ChangeSpec := { name := "transferMeets", fn := fun _ => fun
  | [d1, d2, d3, d4, d5, d6, d7, d8] => { results := [.lit (.bool true)], args := [d1, d2, d3, d4, d5, d6, d7, d8] }
  | _ => none }
def transferMeetsRow : OpenClaim := { program := "ytndpgjcmmjeoiaagreat", sum := "7b1a1ea4c6ef6f27ebfc0f3bf0019abfac21cf2c366e748a9062b97b1c73f6c8", func := "elasticstore/elasticstorelaw20.TransferMeets", spec := "transferMeets", inPlace := ["slices.overlaps[elasticstore/api.Entry]", "slices.overlaps[int]", "slices.overlaps[elasticstore/api.WeightEntry]", "slices.overlaps[elasticstore/api.Proposal]"], unfollowed := true, recurses := true, apart := false }
def TransferMeetsSaid : Prop := transferMeetsRow.holds Tryz.pinned (OpenSpec.ofChange transferMeetsSpec)

/-- ITS FALSE NEIGHBOUR: 'it returns false'. Refute it at one input. -/
def transferMeetsWrong : ChangeSpec := { name := "transferMeets", fn := fun _ => fun
  | [d1, d2, d3, d4, d5, d6, d7, d8] => { results := [.lit (.bool false)], args := [d1, d2, d3, d4, d5, d6, d7, d8] }
  | _ => none }
def TransferMeetsWrongFalsely : Prop := transferMeetsRow.holds Tryz.pinned (OpenSpec.ofChange transferMeetsWrong)

/-- 'elasticstorelaw20.TransferChunks': WHATEVER THE INPUT: true; the input reads as it did. -/
def transferChunksSpec : ChangeSpec := { name := "transferChunks", fn := fun _ => fun
  | [d1, d2, d3] => { results := [.lit (.bool true)], args := [d1, d2, d3] }
  | _ => none }
def transferChunksRow : OpenClaim := { program := "ytndpgjcmmjeoiaagreat", sum := "7b1a1ea4c6ef6f27ebfc0f3bf0019abfac21cf2c366e748a9062b97b1c73f6c8", func := "elasticstore/elasticstorelaw20.TransferChunks", spec := "transferChunks", inPlace := ["slices.overlaps[elasticstore/api.Proposal]", "slices.overlaps[elasticstore/api.Entry]", "slices.overlaps[int]", "slices.overlaps[elasticstore/api.WeightEntry]"], unfollowed := true, recurses := true, apart := false }
def TransferChunksSaid : Prop := transferChunksRow.holds Tryz.pinned (OpenSpec.ofChange transferChunksSpec)

/-- ITS FALSE NEIGHBOUR: 'it returns false'. Refute it at one input. -/
def transferChunksWrong : ChangeSpec := { name := "transferChunks", fn := fun _ => fun
  | [d1, d2, d3] => { results := [.lit (.bool false)], args := [d1, d2, d3] }
  | _ => none }
def TransferChunksWrongFalsely : Prop := transferChunksRow.holds Tryz.pinned (OpenSpec.ofChange transferChunksWrong)

/-- 'elasticstorelaw19.AccessStart': WHATEVER THE INPUT: true; the input reads as it did. -/
def accessStartSpec : ChangeSpec := { name := "accessStart", fn := fun _ => fun
  | [d1, d2, d3, d4, d5, d6, d7] => { results := [.lit (.bool true)], args := [d1, d2, d3, d4, d5, d6, d7] }
  | _ => none }
def accessStartRow : OpenClaim := { program := "ytndpgjcmmjeoiaagreat", sum := "7b1a1ea4c6ef6f27ebfc0f3bf0019abfac21cf2c366e748a9062b97b1c73f6c8", func := "elasticstore/elasticstorelaw19.AccessStart", spec := "accessStart", inPlace := ["slices.overlaps[elasticstore/api.Proposal]", "slices.overlaps[elasticstore/api.Update]", "slices.overlaps[elasticstore/api.Entry]", "slices.overlaps[int]", "slices.overlaps[elasticstore/api.WeightEntry]", "slices.overlaps[elasticstore/api.Source]"], unfollowed := true, recurses := true, apart := false }
def AccessStartSaid : Prop := accessStartRow.holds Tryz.pinned (OpenSpec.ofChange accessStartSpec)

/-- ITS FALSE NEIGHBOUR: 'it returns false'. Refute it at one input. -/
def accessStartWrong : ChangeSpec := { name := "accessStart", fn := fun _ => fun
  | [d1, d2, d3, d4, d5, d6, d7] => { results := [.lit (.bool false)], args := [d1, d2, d3, d4, d5, d6, d7] }
  | _ => none }
def AccessStartWrongFalsely : Prop := accessStartRow.holds Tryz.pinned (OpenSpec.ofChange accessStartWrong)

/-- 'elasticstorelaw19.AccessPlays': WHATEVER THE INPUT: true; the input reads as it did. -/
def accessPlaysSpec : ChangeSpec := { name := "accessPlays", fn := fun _ => fun
  | [d1, d2, d3, d4, d5, d6] => { results := [.lit (.bool true)], args := [d1, d2, d3, d4, d5, d6] }
  | _ => none }
def accessPlaysRow : OpenClaim := { program := "ytndpgjcmmjeoiaagreat", sum := "7b1a1ea4c6ef6f27ebfc0f3bf0019abfac21cf2c366e748a9062b97b1c73f6c8", func := "elasticstore/elasticstorelaw19.AccessPlays", spec := "accessPlays", inPlace := ["slices.overlaps[elasticstore/api.Proposal]", "slices.overlaps[elasticstore/api.Update]", "slices.overlaps[elasticstore/api.Entry]", "slices.overlaps[int]", "slices.overlaps[elasticstore/api.WeightEntry]", "slices.overlaps[elasticstore/api.Source]"], unfollowed := true, recurses := true, apart := false }
def AccessPlaysSaid : Prop := accessPlaysRow.holds Tryz.pinned (OpenSpec.ofChange accessPlaysSpec)

/-- ITS FALSE NEIGHBOUR: 'it returns false'. Refute it at one input. -/
def accessPlaysWrong : ChangeSpec := { name := "accessPlays", fn := fun _ => fun
  | [d1, d2, d3, d4, d5, d6] => { results := [.lit (.bool false)], args := [d1, d2, d3, d4, d5, d6] }
  | _ => none }
def AccessPlaysWrongFalsely : Prop := accessPlaysRow.holds Tryz.pinned (OpenSpec.ofChange accessPlaysWrong)

/-- 'elasticstorelaw19.AccessGrows': WHATEVER THE INPUT: true; the input reads as it did. -/
def accessGrowsSpec : ChangeSpec := { name := "accessGrows", fn := fun _ => fun
  | [d1, d2, d3, d4, d5, d6] => { results := [.lit (.bool true)], args := [d1, d2, d3, d4, d5, d6] }
  | _ => none }
def accessGrowsRow : OpenClaim := { program := "ytndpgjcmmjeoiaagreat", sum := "7b1a1ea4c6ef6f27ebfc0f3bf0019abfac21cf2c366e748a9062b97b1c73f6c8", func := "elasticstore/elasticstorelaw19.AccessGrows", spec := "accessGrows", inPlace := ["slices.overlaps[elasticstore/api.Proposal]", "slices.overlaps[elasticstore/api.Update]", "slices.overlaps[elasticstore/api.Entry]", "slices.overlaps[int]", "slices.overlaps[elasticstore/api.WeightEntry]", "slices.overlaps[elasticstore/api.Source]"], unfollowed := true, recurses := true, apart := false }
def AccessGrowsSaid : Prop := accessGrowsRow.holds Tryz.pinned (OpenSpec.ofChange accessGrowsSpec)

/-- ITS FALSE NEIGHBOUR: 'it returns false'. Refute it at one input. -/
def accessGrowsWrong : ChangeSpec := { name := "accessGrows", fn := fun _ => fun
  | [d1, d2, d3, d4, d5, d6] => { results := [.lit (.bool false)], args := [d1, d2, d3, d4, d5, d6] }
  | _ => none }
def AccessGrowsWrongFalsely : Prop := accessGrowsRow.holds Tryz.pinned (OpenSpec.ofChange accessGrowsWrong)

/-- 'elasticstorelaw19.AccessQuorums': WHATEVER THE INPUT: true; the input reads as it did. -/
def accessQuorumsSpec : ChangeSpec := { name := "accessQuorums", fn := fun _ => fun
  | [d1, d2, d3, d4, d5, d6, d7] => { results := [.lit (.bool true)], args := [d1, d2, d3, d4, d5, d6, d7] }
  | _ => none }
def accessQuorumsRow : OpenClaim := { program := "ytndpgjcmmjeoiaagreat", sum := "7b1a1ea4c6ef6f27ebfc0f3bf0019abfac21cf2c366e748a9062b97b1c73f6c8", func := "elasticstore/elasticstorelaw19.AccessQuorums", spec := "accessQuorums", inPlace := ["slices.overlaps[elasticstore/api.Proposal]", "slices.overlaps[elasticstore/api.Update]", "slices.overlaps[elasticstore/api.Entry]", "slices.overlaps[int]", "slices.overlaps[elasticstore/api.WeightEntry]", "slices.overlaps[elasticstore/api.Source]"], unfollowed := true, recurses := true, apart := false }
def AccessQuorumsSaid : Prop := accessQuorumsRow.holds Tryz.pinned (OpenSpec.ofChange accessQuorumsSpec)

/-- ITS FALSE NEIGHBOUR: 'it returns false'. Refute it at one input. -/
def accessQuorumsWrong : ChangeSpec := { name := "accessQuorums", fn := fun _ => fun
  | [d1, d2, d3, d4, d5, d6, d7] => { results := [.lit (.bool false)], args := [d1, d2, d3, d4, d5, d6, d7] }
  | _ => none }
def AccessQuorumsWrongFalsely : Prop := accessQuorumsRow.holds Tryz.pinned (OpenSpec.ofChange accessQuorumsWrong)

/-- 'elasticstorelaw19.AccessFair': WHATEVER THE INPUT: true; the input reads as it did. -/
def accessFairSpec : ChangeSpec := { name := "accessFair", fn := fun _ => fun
  | [d1, d2, d3, d4, d5, d6] => { results := [.lit (.bool true)], args := [d1, d2, d3, d4, d5, d6] }
  | _ => none }
def accessFairRow : OpenClaim := { program := "ytndpgjcmmjeoiaagreat", sum := "7b1a1ea4c6ef6f27ebfc0f3bf0019abfac21cf2c366e748a9062b97b1c73f6c8", func := "elasticstore/elasticstorelaw19.AccessFair", spec := "accessFair", inPlace := ["slices.overlaps[elasticstore/api.Proposal]", "slices.overlaps[elasticstore/api.Update]", "slices.overlaps[elasticstore/api.Entry]", "slices.overlaps[int]", "slices.overlaps[elasticstore/api.WeightEntry]", "slices.overlaps[elasticstore/api.Source]"], unfollowed := true, recurses := true, apart := false }
def AccessFairSaid : Prop := accessFairRow.holds Tryz.pinned (OpenSpec.ofChange accessFairSpec)

/-- ITS FALSE NEIGHBOUR: 'it returns false'. Refute it at one input. -/
def accessFairWrong : ChangeSpec := { name := "accessFair", fn := fun _ => fun
  | [d1, d2, d3, d4, d5, d6] => { results := [.lit (.bool false)], args := [d1, d2, d3, d4, d5, d6] }
  | _ => none }
def AccessFairWrongFalsely : Prop := accessFairRow.holds Tryz.pinned (OpenSpec.ofChange accessFairWrong)

/-- 'elasticstorelaw19.AccessHelps': WHATEVER THE INPUT: true; the input reads as it did. -/
def accessHelpsSpec : ChangeSpec := { name := "accessHelps", fn := fun _ => fun
  | [d1, d2, d3, d4] => { results := [.lit (.bool true)], args := [d1, d2, d3, d4] }
  | _ => none }
def accessHelpsRow : OpenClaim := { program := "ytndpgjcmmjeoiaagreat", sum := "7b1a1ea4c6ef6f27ebfc0f3bf0019abfac21cf2c366e748a9062b97b1c73f6c8", func := "elasticstore/elasticstorelaw19.AccessHelps", spec := "accessHelps", inPlace := ["slices.overlaps[elasticstore/api.Proposal]", "slices.overlaps[elasticstore/api.Update]", "slices.overlaps[elasticstore/api.Entry]", "slices.overlaps[int]", "slices.overlaps[elasticstore/api.WeightEntry]", "slices.overlaps[elasticstore/api.Source]"], unfollowed := true, recurses := true, apart := false }
def AccessHelpsSaid : Prop := accessHelpsRow.holds Tryz.pinned (OpenSpec.ofChange accessHelpsSpec)

/-- ITS FALSE NEIGHBOUR: 'it returns false'. Refute it at one input. -/
def accessHelpsWrong : ChangeSpec := { name := "accessHelps", fn := fun _ => fun
  | [d1, d2, d3, d4] => { results := [.lit (.bool false)], args := [d1, d2, d3, d4] }
  | _ => none }
def AccessHelpsWrongFalsely : Prop := accessHelpsRow.holds Tryz.pinned (OpenSpec.ofChange accessHelpsWrong)

/-- 'elasticstorelaw19.AccessRounds': WHATEVER THE INPUT: true; the input reads as it did. -/
def accessRoundsSpec : ChangeSpec := { name := "accessRounds", fn := fun _ => fun
  | [d1, d2, d3, d4, d5, d6] => { results := [.lit (.bool true)], args := [d1, d2, d3, d4, d5, d6] }
  | _ => none }
def accessRoundsRow : OpenClaim := { program := "ytndpgjcmmjeoiaagreat", sum := "7b1a1ea4c6ef6f27ebfc0f3bf0019abfac21cf2c366e748a9062b97b1c73f6c8", func := "elasticstore/elasticstorelaw19.AccessRounds", spec := "accessRounds", inPlace := ["slices.overlaps[elasticstore/api.Proposal]", "slices.overlaps[elasticstore/api.Update]", "slices.overlaps[elasticstore/api.Entry]", "slices.overlaps[int]", "slices.overlaps[elasticstore/api.WeightEntry]", "slices.overlaps[elasticstore/api.Source]"], unfollowed := true, recurses := true, apart := false }
def AccessRoundsSaid : Prop := accessRoundsRow.holds Tryz.pinned (OpenSpec.ofChange accessRoundsSpec)

/-- ITS FALSE NEIGHBOUR: 'it returns false'. Refute it at one input. -/
def accessRoundsWrong : ChangeSpec := { name := "accessRounds", fn := fun _ => fun
  | [d1, d2, d3, d4, d5, d6] => { results := [.lit (.bool false)], args := [d1, d2, d3, d4, d5, d6] }
  | _ => none }
def AccessRoundsWrongFalsely : Prop := accessRoundsRow.holds Tryz.pinned (OpenSpec.ofChange accessRoundsWrong)

/- THE SECOND FORM. 'bulk': how many values and letters a reading holds, each counted each time it is reached (what is shared counts as often as it is met; a slice's spare places count too). A statement '..UptoSaid' is the law's where the arguments, and the package variables that the reading takes, are together of bulk at most 1048576: NARROWER than '..Said'. Prove '..Said' where nothing that the law and all that it calls make is longer than what came in: it says more and counts as full. Else prove '..UptoSaid'. A law counts once. -/
mutual
def uptoBulk {H : Type} : DataW H → Nat
  | .lit (.string bytes) => bytes.length + 1
  | .lit _ => 1
  | .nil => 1
  | .ptr d => uptoBulk d + 1
  | .slice elems spare => uptoBulkAll elems + uptoBulkAll spare + 1
  | .agg parts => uptoBulkAll parts + 1
  | .iface _ d => uptoBulk d + 1
  | .map entries => uptoBulkEntries entries + 1
  | .held _ => 1
def uptoBulkAll {H : Type} : List (DataW H) → Nat
  | [] => 0
  | d :: r => uptoBulk d + uptoBulkAll r
def uptoBulkEntries {H : Type} : List (Lit × DataW H) → Nat
  | [] => 0
  | x :: r => uptoBulkEntry x + uptoBulkEntries r
def uptoBulkEntry {H : Type} : Lit × DataW H → Nat
  | (.string bytes, d) => bytes.length + uptoBulk d + 1
  | (_, d) => uptoBulk d + 1
 end
def uptoSmall : (H : Type) → List (DataW H) → Bool := fun _ ds => decide (uptoBulkAll ds ≤ 1048576)
def OpenSpec.upto (s : _root_.Go.ChangeSpec) : _root_.Go.OpenSpec := { _root_.Go.OpenSpec.ofChange s with cond := some uptoSmall }

/-- 'elasticstorelaw20.TransferBegin', WHERE WHAT IT READS IS OF BULK AT MOST 1048576: true; the input reads as it did. -/
def transferBeginUptoRow : OpenClaim := { program := "ytndpgjcmmjeoiaagreat", sum := "7b1a1ea4c6ef6f27ebfc0f3bf0019abfac21cf2c366e748a9062b97b1c73f6c8", func := "elasticstore/elasticstorelaw20.TransferBegin", spec := "transferBegin", inPlace := ["slices.overlaps[elasticstore/api.Entry]", "slices.overlaps[int]", "slices.overlaps[elasticstore/api.WeightEntry]", "slices.overlaps[elasticstore/api.Proposal]"], unfollowed := true, recurses := true, apart := false, narrowed := true }
def TransferBeginUptoSaid : Prop := transferBeginUptoRow.holds Tryz.pinned (OpenSpec.upto transferBeginSpec)

/-- 'elasticstorelaw20.TransferServe', WHERE WHAT IT READS IS OF BULK AT MOST 1048576: true; the input reads as it did. -/
def transferServeUptoRow : OpenClaim := { program := "ytndpgjcmmjeoiaagreat", sum := "7b1a1ea4c6ef6f27ebfc0f3bf0019abfac21cf2c366e748a9062b97b1c73f6c8", func := "elasticstore/elasticstorelaw20.TransferServe", spec := "transferServe", inPlace := ["slices.overlaps[elasticstore/api.Proposal]", "slices.overlaps[elasticstore/api.Entry]", "slices.overlaps[int]", "slices.overlaps[elasticstore/api.WeightEntry]"], unfollowed := true, recurses := true, apart := false, narrowed := true }
def TransferServeUptoSaid : Prop := transferServeUptoRow.holds Tryz.pinned (OpenSpec.upto transferServeSpec)

/-- 'elasticstorelaw20.TransferReported', WHERE WHAT IT READS IS OF BULK AT MOST 1048576: true; the input reads as it did. -/
def transferReportedUptoRow : OpenClaim := { program := "ytndpgjcmmjeoiaagreat", sum := "7b1a1ea4c6ef6f27ebfc0f3bf0019abfac21cf2c366e748a9062b97b1c73f6c8", func := "elasticstore/elasticstorelaw20.TransferReported", spec := "transferReported", inPlace := ["slices.overlaps[elasticstore/api.Entry]", "slices.overlaps[int]", "slices.overlaps[elasticstore/api.WeightEntry]", "slices.overlaps[elasticstore/api.Proposal]"], unfollowed := true, recurses := true, apart := false, narrowed := true }
def TransferReportedUptoSaid : Prop := transferReportedUptoRow.holds Tryz.pinned (OpenSpec.upto transferReportedSpec)

/-- 'elasticstorelaw20.TransferQuorums', WHERE WHAT IT READS IS OF BULK AT MOST 1048576: true; the input reads as it did. -/
def transferQuorumsUptoRow : OpenClaim := { program := "ytndpgjcmmjeoiaagreat", sum := "7b1a1ea4c6ef6f27ebfc0f3bf0019abfac21cf2c366e748a9062b97b1c73f6c8", func := "elasticstore/elasticstorelaw20.TransferQuorums", spec := "transferQuorums", inPlace := ["slices.overlaps[elasticstore/api.Entry]", "slices.overlaps[int]", "slices.overlaps[elasticstore/api.WeightEntry]", "slices.overlaps[elasticstore/api.Proposal]"], unfollowed := true, recurses := true, apart := false, narrowed := true }
def TransferQuorumsUptoSaid : Prop := transferQuorumsUptoRow.holds Tryz.pinned (OpenSpec.upto transferQuorumsSpec)

/-- 'elasticstorelaw20.TransferMeets', WHERE WHAT IT READS IS OF BULK AT MOST 1048576: true; the input reads as it did. -/
def transferMeetsUptoRow : OpenClaim := { program := "ytndpgjcmmjeoiaagreat", sum := "7b1a1ea4c6ef6f27ebfc0f3bf0019abfac21cf2c366e748a9062b97b1c73f6c8", func := "elasticstore/elasticstorelaw20.TransferMeets", spec := "transferMeets", inPlace := ["slices.overlaps[elasticstore/api.Entry]", "slices.overlaps[int]", "slices.overlaps[elasticstore/api.WeightEntry]", "slices.overlaps[elasticstore/api.Proposal]"], unfollowed := true, recurses := true, apart := false, narrowed := true }
def TransferMeetsUptoSaid : Prop := transferMeetsUptoRow.holds Tryz.pinned (OpenSpec.upto transferMeetsSpec)

/-- 'elasticstorelaw20.TransferChunks', WHERE WHAT IT READS IS OF BULK AT MOST 1048576: true; the input reads as it did. -/
def transferChunksUptoRow : OpenClaim := { program := "ytndpgjcmmjeoiaagreat", sum := "7b1a1ea4c6ef6f27ebfc0f3bf0019abfac21cf2c366e748a9062b97b1c73f6c8", func := "elasticstore/elasticstorelaw20.TransferChunks", spec := "transferChunks", inPlace := ["slices.overlaps[elasticstore/api.Proposal]", "slices.overlaps[elasticstore/api.Entry]", "slices.overlaps[int]", "slices.overlaps[elasticstore/api.WeightEntry]"], unfollowed := true, recurses := true, apart := false, narrowed := true }
def TransferChunksUptoSaid : Prop := transferChunksUptoRow.holds Tryz.pinned (OpenSpec.upto transferChunksSpec)

/-- 'elasticstorelaw19.AccessStart', WHERE WHAT IT READS IS OF BULK AT MOST 1048576: true; the input reads as it did. -/
def accessStartUptoRow : OpenClaim := { program := "ytndpgjcmmjeoiaagreat", sum := "7b1a1ea4c6ef6f27ebfc0f3bf0019abfac21cf2c366e748a9062b97b1c73f6c8", func := "elasticstore/elasticstorelaw19.AccessStart", spec := "accessStart", inPlace := ["slices.overlaps[elasticstore/api.Proposal]", "slices.overlaps[elasticstore/api.Update]", "slices.overlaps[elasticstore/api.Entry]", "slices.overlaps[int]", "slices.overlaps[elasticstore/api.WeightEntry]", "slices.overlaps[elasticstore/api.Source]"], unfollowed := true, recurses := true, apart := false, narrowed := true }
def AccessStartUptoSaid : Prop := accessStartUptoRow.holds Tryz.pinned (OpenSpec.upto accessStartSpec)

/-- 'elasticstorelaw19.AccessPlays', WHERE WHAT IT READS IS OF BULK AT MOST 1048576: true; the input reads as it did. -/
def accessPlaysUptoRow : OpenClaim := { program := "ytndpgjcmmjeoiaagreat", sum := "7b1a1ea4c6ef6f27ebfc0f3bf0019abfac21cf2c366e748a9062b97b1c73f6c8", func := "elasticstore/elasticstorelaw19.AccessPlays", spec := "accessPlays", inPlace := ["slices.overlaps[elasticstore/api.Proposal]", "slices.overlaps[elasticstore/api.Update]", "slices.overlaps[elasticstore/api.Entry]", "slices.overlaps[int]", "slices.overlaps[elasticstore/api.WeightEntry]", "slices.overlaps[elasticstore/api.Source]"], unfollowed := true, recurses := true, apart := false, narrowed := true }
def AccessPlaysUptoSaid : Prop := accessPlaysUptoRow.holds Tryz.pinned (OpenSpec.upto accessPlaysSpec)

/-- 'elasticstorelaw19.AccessGrows', WHERE WHAT IT READS IS OF BULK AT MOST 1048576: true; the input reads as it did. -/
def accessGrowsUptoRow : OpenClaim := { program := "ytndpgjcmmjeoiaagreat", sum := "7b1a1ea4c6ef6f27ebfc0f3bf0019abfac21cf2c366e748a9062b97b1c73f6c8", func := "elasticstore/elasticstorelaw19.AccessGrows", spec := "accessGrows", inPlace := ["slices.overlaps[elasticstore/api.Proposal]", "slices.overlaps[elasticstore/api.Update]", "slices.overlaps[elasticstore/api.Entry]", "slices.overlaps[int]", "slices.overlaps[elasticstore/api.WeightEntry]", "slices.overlaps[elasticstore/api.Source]"], unfollowed := true, recurses := true, apart := false, narrowed := true }
def AccessGrowsUptoSaid : Prop := accessGrowsUptoRow.holds Tryz.pinned (OpenSpec.upto accessGrowsSpec)

/-- 'elasticstorelaw19.AccessQuorums', WHERE WHAT IT READS IS OF BULK AT MOST 1048576: true; the input reads as it did. -/
def accessQuorumsUptoRow : OpenClaim := { program := "ytndpgjcmmjeoiaagreat", sum := "7b1a1ea4c6ef6f27ebfc0f3bf0019abfac21cf2c366e748a9062b97b1c73f6c8", func := "elasticstore/elasticstorelaw19.AccessQuorums", spec := "accessQuorums", inPlace := ["slices.overlaps[elasticstore/api.Proposal]", "slices.overlaps[elasticstore/api.Update]", "slices.overlaps[elasticstore/api.Entry]", "slices.overlaps[int]", "slices.overlaps[elasticstore/api.WeightEntry]", "slices.overlaps[elasticstore/api.Source]"], unfollowed := true, recurses := true, apart := false, narrowed := true }
def AccessQuorumsUptoSaid : Prop := accessQuorumsUptoRow.holds Tryz.pinned (OpenSpec.upto accessQuorumsSpec)

/-- 'elasticstorelaw19.AccessFair', WHERE WHAT IT READS IS OF BULK AT MOST 1048576: true; the input reads as it did. -/
def accessFairUptoRow : OpenClaim := { program := "ytndpgjcmmjeoiaagreat", sum := "7b1a1ea4c6ef6f27ebfc0f3bf0019abfac21cf2c366e748a9062b97b1c73f6c8", func := "elasticstore/elasticstorelaw19.AccessFair", spec := "accessFair", inPlace := ["slices.overlaps[elasticstore/api.Proposal]", "slices.overlaps[elasticstore/api.Update]", "slices.overlaps[elasticstore/api.Entry]", "slices.overlaps[int]", "slices.overlaps[elasticstore/api.WeightEntry]", "slices.overlaps[elasticstore/api.Source]"], unfollowed := true, recurses := true, apart := false, narrowed := true }
def AccessFairUptoSaid : Prop := accessFairUptoRow.holds Tryz.pinned (OpenSpec.upto accessFairSpec)

/-- 'elasticstorelaw19.AccessHelps', WHERE WHAT IT READS IS OF BULK AT MOST 1048576: true; the input reads as it did. -/
def accessHelpsUptoRow : OpenClaim := { program := "ytndpgjcmmjeoiaagreat", sum := "7b1a1ea4c6ef6f27ebfc0f3bf0019abfac21cf2c366e748a9062b97b1c73f6c8", func := "elasticstore/elasticstorelaw19.AccessHelps", spec := "accessHelps", inPlace := ["slices.overlaps[elasticstore/api.Proposal]", "slices.overlaps[elasticstore/api.Update]", "slices.overlaps[elasticstore/api.Entry]", "slices.overlaps[int]", "slices.overlaps[elasticstore/api.WeightEntry]", "slices.overlaps[elasticstore/api.Source]"], unfollowed := true, recurses := true, apart := false, narrowed := true }
def AccessHelpsUptoSaid : Prop := accessHelpsUptoRow.holds Tryz.pinned (OpenSpec.upto accessHelpsSpec)

/-- 'elasticstorelaw19.AccessRounds', WHERE WHAT IT READS IS OF BULK AT MOST 1048576: true; the input reads as it did. -/
def accessRoundsUptoRow : OpenClaim := { program := "ytndpgjcmmjeoiaagreat", sum := "7b1a1ea4c6ef6f27ebfc0f3bf0019abfac21cf2c366e748a9062b97b1c73f6c8", func := "elasticstore/elasticstorelaw19.AccessRounds", spec := "accessRounds", inPlace := ["slices.overlaps[elasticstore/api.Proposal]", "slices.overlaps[elasticstore/api.Update]", "slices.overlaps[elasticstore/api.Entry]", "slices.overlaps[int]", "slices.overlaps[elasticstore/api.WeightEntry]", "slices.overlaps[elasticstore/api.Source]"], unfollowed := true, recurses := true, apart := false, narrowed := true }
def AccessRoundsUptoSaid : Prop := accessRoundsUptoRow.holds Tryz.pinned (OpenSpec.upto accessRoundsSpec)

end Rows
end Go.Proofs.YtndpgjcmmjeoiaaGreat
