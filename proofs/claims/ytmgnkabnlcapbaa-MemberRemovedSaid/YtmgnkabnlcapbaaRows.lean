/-
  No cell of these rows narrows 'for every input' (looked for: loops, veiled, ifaces, maps, wideKeys, modest, calm, conditions, laid).
  DERIVED. THE GIVEN ROWS OF THIS SEAT. 9 by the template 'for every input the law returns true; each argument reads behind the call as it read before'; 0 by the template 'total and deterministic' (their statements: YtmgnkabnlcapbaaTotals.lean).
  GIVEN WITH THE SEED: the statements are not yours to turn. If you find one false, say at which input.
  Laid BY PROGRAM, IN A SANDBOX (cutbox-rows.mjs): the forced cells as the released guide's own fill.sh prints them over the translation 0399371addfd126a… (all of the seat's roots in one cut). By AI agents, Wed Nov 11 2026. No macro, syntax, notation, axiom, sorry.
-/
import Derived.Test.YtmgnkabnlcapbaaChecked
import GoSem.Claim
import GoSem.ClaimJoined
import GoSem.ClaimMapViews
import Derived.JoinedTies
import Derived.KernelRfl
namespace Go.Proofs.Ytmgnkabnlcapbaa
/- THE CELL 'sum', in the pinned program and in every row, IS THE sha256 OF THE DUMP (.gsa) THAT YtmgnkabnlcapbaaProg.lean LOADS. Nothing in Lean hashes anything: it is a label: what it is worth is what the hold of that sum in a sandbox is worth. -/
noncomputable def Try.pinned : Pinned := { name := "ytmgnkabnlcapbaa", sum := "0399371addfd126ab5b1a290fb58207e4f4e306343e05702373b7543d38d32fa", checked := Try.checked }
namespace Rows
def none {H : Type} : Left H := { results := [], args := [] }

/-- 'elasticstorelaw07.MemberGenesis': WHATEVER THE INPUT: true; the input reads as it did. -/
def memberGenesisSpec : ChangeSpec := { name := "memberGenesis", fn := fun _ => fun
  | [d] => { results := [.lit (.bool true)], args := [d] }
  | _ => none }
def memberGenesisRow : OpenClaim := { program := "ytmgnkabnlcapbaa", sum := "0399371addfd126ab5b1a290fb58207e4f4e306343e05702373b7543d38d32fa", func := "elasticstore/elasticstorelaw07.MemberGenesis", spec := "memberGenesis", inPlace := ["slices.overlaps[int]", "slices.overlaps[elasticstore/api.WeightEntry]"], unfollowed := true, recurses := true, apart := false }
def MemberGenesisSaid : Prop := memberGenesisRow.holds Try.pinned (OpenSpec.ofChange memberGenesisSpec)

/-- ITS FALSE NEIGHBOUR: 'it returns false'. Refute it at one input. -/
def memberGenesisWrong : ChangeSpec := { name := "memberGenesis", fn := fun _ => fun
  | [d] => { results := [.lit (.bool false)], args := [d] }
  | _ => none }
def MemberGenesisWrongFalsely : Prop := memberGenesisRow.holds Try.pinned (OpenSpec.ofChange memberGenesisWrong)

/-- 'elasticstorelaw07.MemberValidate': WHATEVER THE INPUT: true; the input reads as it did. -/
def memberValidateSpec : ChangeSpec := { name := "memberValidate", fn := fun _ => fun
  | [d1, d2] => { results := [.lit (.bool true)], args := [d1, d2] }
  | _ => none }
def memberValidateRow : OpenClaim := { program := "ytmgnkabnlcapbaa", sum := "0399371addfd126ab5b1a290fb58207e4f4e306343e05702373b7543d38d32fa", func := "elasticstore/elasticstorelaw07.MemberValidate", spec := "memberValidate", inPlace := ["slices.overlaps[int]", "slices.overlaps[elasticstore/api.WeightEntry]"], unfollowed := true, recurses := true, apart := false }
def MemberValidateSaid : Prop := memberValidateRow.holds Try.pinned (OpenSpec.ofChange memberValidateSpec)

/-- ITS FALSE NEIGHBOUR: 'it returns false'. Refute it at one input. -/
def memberValidateWrong : ChangeSpec := { name := "memberValidate", fn := fun _ => fun
  | [d1, d2] => { results := [.lit (.bool false)], args := [d1, d2] }
  | _ => none }
def MemberValidateWrongFalsely : Prop := memberValidateRow.holds Try.pinned (OpenSpec.ofChange memberValidateWrong)

/-- 'elasticstorelaw07.MemberOf': WHATEVER THE INPUT: true; the input reads as it did. -/
def memberOfSpec : ChangeSpec := { name := "memberOf", fn := fun _ => fun
  | [d] => { results := [.lit (.bool true)], args := [d] }
  | _ => none }
def memberOfRow : OpenClaim := { program := "ytmgnkabnlcapbaa", sum := "0399371addfd126ab5b1a290fb58207e4f4e306343e05702373b7543d38d32fa", func := "elasticstore/elasticstorelaw07.MemberOf", spec := "memberOf", inPlace := ["slices.overlaps[int]", "slices.overlaps[elasticstore/api.WeightEntry]"], unfollowed := true, recurses := true, apart := false }
def MemberOfSaid : Prop := memberOfRow.holds Try.pinned (OpenSpec.ofChange memberOfSpec)

/-- ITS FALSE NEIGHBOUR: 'it returns false'. Refute it at one input. -/
def memberOfWrong : ChangeSpec := { name := "memberOf", fn := fun _ => fun
  | [d] => { results := [.lit (.bool false)], args := [d] }
  | _ => none }
def MemberOfWrongFalsely : Prop := memberOfRow.holds Try.pinned (OpenSpec.ofChange memberOfWrong)

/-- 'elasticstorelaw07.MemberJoin': WHATEVER THE INPUT: true; the input reads as it did. -/
def memberJoinSpec : ChangeSpec := { name := "memberJoin", fn := fun _ => fun
  | [d1, d2] => { results := [.lit (.bool true)], args := [d1, d2] }
  | _ => none }
def memberJoinRow : OpenClaim := { program := "ytmgnkabnlcapbaa", sum := "0399371addfd126ab5b1a290fb58207e4f4e306343e05702373b7543d38d32fa", func := "elasticstore/elasticstorelaw07.MemberJoin", spec := "memberJoin", inPlace := ["slices.overlaps[int]", "slices.overlaps[elasticstore/api.WeightEntry]"], unfollowed := true, recurses := true, apart := false }
def MemberJoinSaid : Prop := memberJoinRow.holds Try.pinned (OpenSpec.ofChange memberJoinSpec)

/-- ITS FALSE NEIGHBOUR: 'it returns false'. Refute it at one input. -/
def memberJoinWrong : ChangeSpec := { name := "memberJoin", fn := fun _ => fun
  | [d1, d2] => { results := [.lit (.bool false)], args := [d1, d2] }
  | _ => none }
def MemberJoinWrongFalsely : Prop := memberJoinRow.holds Try.pinned (OpenSpec.ofChange memberJoinWrong)

/-- 'elasticstorelaw07.MemberView': WHATEVER THE INPUT: true; the input reads as it did. -/
def memberViewSpec : ChangeSpec := { name := "memberView", fn := fun _ => fun
  | [d] => { results := [.lit (.bool true)], args := [d] }
  | _ => none }
def memberViewRow : OpenClaim := { program := "ytmgnkabnlcapbaa", sum := "0399371addfd126ab5b1a290fb58207e4f4e306343e05702373b7543d38d32fa", func := "elasticstore/elasticstorelaw07.MemberView", spec := "memberView", inPlace := ["slices.overlaps[int]", "slices.overlaps[elasticstore/api.WeightEntry]"], unfollowed := true, recurses := true, apart := false }
def MemberViewSaid : Prop := memberViewRow.holds Try.pinned (OpenSpec.ofChange memberViewSpec)

/-- ITS FALSE NEIGHBOUR: 'it returns false'. Refute it at one input. -/
def memberViewWrong : ChangeSpec := { name := "memberView", fn := fun _ => fun
  | [d] => { results := [.lit (.bool false)], args := [d] }
  | _ => none }
def MemberViewWrongFalsely : Prop := memberViewRow.holds Try.pinned (OpenSpec.ofChange memberViewWrong)

/-- 'elasticstorelaw07.MemberSummarize': WHATEVER THE INPUT: true; the input reads as it did. -/
def memberSummarizeSpec : ChangeSpec := { name := "memberSummarize", fn := fun _ => fun
  | [d1, d2] => { results := [.lit (.bool true)], args := [d1, d2] }
  | _ => none }
def memberSummarizeRow : OpenClaim := { program := "ytmgnkabnlcapbaa", sum := "0399371addfd126ab5b1a290fb58207e4f4e306343e05702373b7543d38d32fa", func := "elasticstore/elasticstorelaw07.MemberSummarize", spec := "memberSummarize", inPlace := ["slices.overlaps[int]", "slices.overlaps[elasticstore/api.WeightEntry]"], unfollowed := true, recurses := true, apart := false }
def MemberSummarizeSaid : Prop := memberSummarizeRow.holds Try.pinned (OpenSpec.ofChange memberSummarizeSpec)

/-- ITS FALSE NEIGHBOUR: 'it returns false'. Refute it at one input. -/
def memberSummarizeWrong : ChangeSpec := { name := "memberSummarize", fn := fun _ => fun
  | [d1, d2] => { results := [.lit (.bool false)], args := [d1, d2] }
  | _ => none }
def MemberSummarizeWrongFalsely : Prop := memberSummarizeRow.holds Try.pinned (OpenSpec.ofChange memberSummarizeWrong)

/-- 'elasticstorelaw07.MemberUnion': WHATEVER THE INPUT: true; the input reads as it did. -/
def memberUnionSpec : ChangeSpec := { name := "memberUnion", fn := fun _ => fun
  | [d1, d2, d3, d4, d5] => { results := [.lit (.bool true)], args := [d1, d2, d3, d4, d5] }
  | _ => none }
def memberUnionRow : OpenClaim := { program := "ytmgnkabnlcapbaa", sum := "0399371addfd126ab5b1a290fb58207e4f4e306343e05702373b7543d38d32fa", func := "elasticstore/elasticstorelaw07.MemberUnion", spec := "memberUnion", inPlace := ["slices.overlaps[int]", "slices.overlaps[elasticstore/api.WeightEntry]"], unfollowed := true, recurses := true, apart := false }
def MemberUnionSaid : Prop := memberUnionRow.holds Try.pinned (OpenSpec.ofChange memberUnionSpec)

/-- ITS FALSE NEIGHBOUR: 'it returns false'. Refute it at one input. -/
def memberUnionWrong : ChangeSpec := { name := "memberUnion", fn := fun _ => fun
  | [d1, d2, d3, d4, d5] => { results := [.lit (.bool false)], args := [d1, d2, d3, d4, d5] }
  | _ => none }
def MemberUnionWrongFalsely : Prop := memberUnionRow.holds Try.pinned (OpenSpec.ofChange memberUnionWrong)

/-- 'elasticstorelaw07.MemberRemoved': WHATEVER THE INPUT: true; the input reads as it did. -/
def memberRemovedSpec : ChangeSpec := { name := "memberRemoved", fn := fun _ => fun
  | [d1, d2, d3] => { results := [.lit (.bool true)], args := [d1, d2, d3] }
  | _ => none }
def memberRemovedRow : OpenClaim := { program := "ytmgnkabnlcapbaa", sum := "0399371addfd126ab5b1a290fb58207e4f4e306343e05702373b7543d38d32fa", func := "elasticstore/elasticstorelaw07.MemberRemoved", spec := "memberRemoved", inPlace := ["slices.overlaps[int]", "slices.overlaps[elasticstore/api.WeightEntry]"], unfollowed := true, recurses := true, apart := false }
def MemberRemovedSaid : Prop := memberRemovedRow.holds Try.pinned (OpenSpec.ofChange memberRemovedSpec)

/-- ITS FALSE NEIGHBOUR: 'it returns false'. Refute it at one input. -/
def memberRemovedWrong : ChangeSpec := { name := "memberRemoved", fn := fun _ => fun
  | [d1, d2, d3] => { results := [.lit (.bool false)], args := [d1, d2, d3] }
  | _ => none }
def MemberRemovedWrongFalsely : Prop := memberRemovedRow.holds Try.pinned (OpenSpec.ofChange memberRemovedWrong)

/-- 'elasticstorelaw07.MemberEncoding': WHATEVER THE INPUT: true; the input reads as it did. -/
def memberEncodingSpec : ChangeSpec := { name := "memberEncoding", fn := fun _ => fun
  | [d1, d2] => { results := [.lit (.bool true)], args := [d1, d2] }
  | _ => none }
def memberEncodingRow : OpenClaim := { program := "ytmgnkabnlcapbaa", sum := "0399371addfd126ab5b1a290fb58207e4f4e306343e05702373b7543d38d32fa", func := "elasticstore/elasticstorelaw07.MemberEncoding", spec := "memberEncoding", inPlace := ["slices.overlaps[int]", "slices.overlaps[elasticstore/api.WeightEntry]"], unfollowed := true, recurses := true, apart := false }
def MemberEncodingSaid : Prop := memberEncodingRow.holds Try.pinned (OpenSpec.ofChange memberEncodingSpec)

/-- ITS FALSE NEIGHBOUR: 'it returns false'. Refute it at one input. -/
def memberEncodingWrong : ChangeSpec := { name := "memberEncoding", fn := fun _ => fun
  | [d1, d2] => { results := [.lit (.bool false)], args := [d1, d2] }
  | _ => none }
def MemberEncodingWrongFalsely : Prop := memberEncodingRow.holds Try.pinned (OpenSpec.ofChange memberEncodingWrong)

/- THE SECOND FORM. 'bulk': how many values and letters a reading holds, each counted each time it is reached (what is shared counts as often as it is met; a slice's spare places count too). A statement '..UptoSaid' is the law's where the arguments, and the package variables that the reading takes, are together of bulk at most 1048576: NARROWER than '..Said'. Prove '..Said' where nothing that the law and all that it calls make is longer than what came in: it says more and counts as full. Else prove '..UptoSaid'. A law counts once. -/
mutual
def uptoBulk {H : Type} : DataW H → Nat
  | .lit (.string bytes) => bytes.length + 1
  | .lit _ => 1
  | .nil => 1
  | .ptr d => uptoBulk d + 1
  | .slice elems spare => uptoBulkAll elems + uptoBulkAll spare + 1
  | .agg parts => uptoBulkAll parts + 1
  | .iface _ d => uptoBulk d + 1
  | .map entries => uptoBulkEntries entries + 1
  | .held _ => 1
def uptoBulkAll {H : Type} : List (DataW H) → Nat
  | [] => 0
  | d :: r => uptoBulk d + uptoBulkAll r
def uptoBulkEntries {H : Type} : List (Lit × DataW H) → Nat
  | [] => 0
  | x :: r => uptoBulkEntry x + uptoBulkEntries r
def uptoBulkEntry {H : Type} : Lit × DataW H → Nat
  | (.string bytes, d) => bytes.length + uptoBulk d + 1
  | (_, d) => uptoBulk d + 1
 end
def uptoSmall : (H : Type) → List (DataW H) → Bool := fun _ ds => decide (uptoBulkAll ds ≤ 1048576)
def OpenSpec.upto (s : _root_.Go.ChangeSpec) : _root_.Go.OpenSpec := { _root_.Go.OpenSpec.ofChange s with cond := some uptoSmall }

/-- 'elasticstorelaw07.MemberGenesis', WHERE WHAT IT READS IS OF BULK AT MOST 1048576: true; the input reads as it did. -/
def memberGenesisUptoRow : OpenClaim := { program := "ytmgnkabnlcapbaa", sum := "0399371addfd126ab5b1a290fb58207e4f4e306343e05702373b7543d38d32fa", func := "elasticstore/elasticstorelaw07.MemberGenesis", spec := "memberGenesis", inPlace := ["slices.overlaps[int]", "slices.overlaps[elasticstore/api.WeightEntry]"], unfollowed := true, recurses := true, apart := false, narrowed := true }
def MemberGenesisUptoSaid : Prop := memberGenesisUptoRow.holds Try.pinned (OpenSpec.upto memberGenesisSpec)

/-- 'elasticstorelaw07.MemberValidate', WHERE WHAT IT READS IS OF BULK AT MOST 1048576: true; the input reads as it did. -/
def memberValidateUptoRow : OpenClaim := { program := "ytmgnkabnlcapbaa", sum := "0399371addfd126ab5b1a290fb58207e4f4e306343e05702373b7543d38d32fa", func := "elasticstore/elasticstorelaw07.MemberValidate", spec := "memberValidate", inPlace := ["slices.overlaps[int]", "slices.overlaps[elasticstore/api.WeightEntry]"], unfollowed := true, recurses := true, apart := false, narrowed := true }
def MemberValidateUptoSaid : Prop := memberValidateUptoRow.holds Try.pinned (OpenSpec.upto memberValidateSpec)

/-- 'elasticstorelaw07.MemberOf', WHERE WHAT IT READS IS OF BULK AT MOST 1048576: true; the input reads as it did. -/
def memberOfUptoRow : OpenClaim := { program := "ytmgnkabnlcapbaa", sum := "0399371addfd126ab5b1a290fb58207e4f4e306343e05702373b7543d38d32fa", func := "elasticstore/elasticstorelaw07.MemberOf", spec := "memberOf", inPlace := ["slices.overlaps[int]", "slices.overlaps[elasticstore/api.WeightEntry]"], unfollowed := true, recurses := true, apart := false, narrowed := true }
def MemberOfUptoSaid : Prop := memberOfUptoRow.holds Try.pinned (OpenSpec.upto memberOfSpec)

/-- 'elasticstorelaw07.MemberJoin', WHERE WHAT IT READS IS OF BULK AT MOST 1048576: true; the input reads as it did. -/
def memberJoinUptoRow : OpenClaim := { program := "ytmgnkabnlcapbaa", sum := "0399371addfd126ab5b1a290fb58207e4f4e306343e05702373b7543d38d32fa", func := "elasticstore/elasticstorelaw07.MemberJoin", spec := "memberJoin", inPlace := ["slices.overlaps[int]", "slices.overlaps[elasticstore/api.WeightEntry]"], unfollowed := true, recurses := true, apart := false, narrowed := true }
def MemberJoinUptoSaid : Prop := memberJoinUptoRow.holds Try.pinned (OpenSpec.upto memberJoinSpec)

/-- 'elasticstorelaw07.MemberView', WHERE WHAT IT READS IS OF BULK AT MOST 1048576: true; the input reads as it did. -/
def memberViewUptoRow : OpenClaim := { program := "ytmgnkabnlcapbaa", sum := "0399371addfd126ab5b1a290fb58207e4f4e306343e05702373b7543d38d32fa", func := "elasticstore/elasticstorelaw07.MemberView", spec := "memberView", inPlace := ["slices.overlaps[int]", "slices.overlaps[elasticstore/api.WeightEntry]"], unfollowed := true, recurses := true, apart := false, narrowed := true }
def MemberViewUptoSaid : Prop := memberViewUptoRow.holds Try.pinned (OpenSpec.upto memberViewSpec)

/-- 'elasticstorelaw07.MemberSummarize', WHERE WHAT IT READS IS OF BULK AT MOST 1048576: true; the input reads as it did. -/
def memberSummarizeUptoRow : OpenClaim := { program := "ytmgnkabnlcapbaa", sum := "0399371addfd126ab5b1a290fb58207e4f4e306343e05702373b7543d38d32fa", func := "elasticstore/elasticstorelaw07.MemberSummarize", spec := "memberSummarize", inPlace := ["slices.overlaps[int]", "slices.overlaps[elasticstore/api.WeightEntry]"], unfollowed := true, recurses := true, apart := false, narrowed := true }
def MemberSummarizeUptoSaid : Prop := memberSummarizeUptoRow.holds Try.pinned (OpenSpec.upto memberSummarizeSpec)

/-- 'elasticstorelaw07.MemberUnion', WHERE WHAT IT READS IS OF BULK AT MOST 1048576: true; the input reads as it did. -/
def memberUnionUptoRow : OpenClaim := { program := "ytmgnkabnlcapbaa", sum := "0399371addfd126ab5b1a290fb58207e4f4e306343e05702373b7543d38d32fa", func := "elasticstore/elasticstorelaw07.MemberUnion", spec := "memberUnion", inPlace := ["slices.overlaps[int]", "slices.overlaps[elasticstore/api.WeightEntry]"], unfollowed := true, recurses := true, apart := false, narrowed := true }
def MemberUnionUptoSaid : Prop := memberUnionUptoRow.holds Try.pinned (OpenSpec.upto memberUnionSpec)

/-- 'elasticstorelaw07.MemberRemoved', WHERE WHAT IT READS IS OF BULK AT MOST 1048576: true; the input reads as it did. -/
def memberRemovedUptoRow : OpenClaim := { program := "ytmgnkabnlcapbaa", sum := "0399371addfd126ab5b1a290fb58207e4f4e306343e05702373b7543d38d32fa", func := "elasticstore/elasticstorelaw07.MemberRemoved", spec := "memberRemoved", inPlace := ["slices.overlaps[int]", "slices.overlaps[elasticstore/api.WeightEntry]"], unfollowed := true, recurses := true, apart := false, narrowed := true }
def MemberRemovedUptoSaid : Prop := memberRemovedUptoRow.holds Try.pinned (OpenSpec.upto memberRemovedSpec)

/-- 'elasticstorelaw07.MemberEncoding', WHERE WHAT IT READS IS OF BULK AT MOST 1048576: true; the input reads as it did. -/
def memberEncodingUptoRow : OpenClaim := { program := "ytmgnkabnlcapbaa", sum := "0399371addfd126ab5b1a290fb58207e4f4e306343e05702373b7543d38d32fa", func := "elasticstore/elasticstorelaw07.MemberEncoding", spec := "memberEncoding", inPlace := ["slices.overlaps[int]", "slices.overlaps[elasticstore/api.WeightEntry]"], unfollowed := true, recurses := true, apart := false, narrowed := true }
def MemberEncodingUptoSaid : Prop := memberEncodingUptoRow.holds Try.pinned (OpenSpec.upto memberEncodingSpec)

end Rows
end Go.Proofs.Ytmgnkabnlcapbaa
