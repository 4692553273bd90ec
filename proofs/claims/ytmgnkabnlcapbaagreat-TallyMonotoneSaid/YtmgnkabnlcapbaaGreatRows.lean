/-
  No cell of these rows narrows 'for every input' (looked for: loops, veiled, ifaces, maps, wideKeys, modest, calm, conditions, laid).
  DERIVED. THE GIVEN ROWS OF THIS SEAT. 3 by the template 'for every input the law returns true; each argument reads behind the call as it read before'; 0 by the template 'total and deterministic' (their statements: YtmgnkabnlcapbaaGreatTotals.lean).
  GIVEN WITH THE SEED: the statements are not yours to turn. If you find one false, say at which input.
  Laid BY PROGRAM, IN A SANDBOX (cutbox-rows.mjs): the forced cells as the released guide's own fill.sh prints them over the translation 9203006611827f37… (all of the seat's roots in one cut). By AI agents, Wed Nov 11 2026. No macro, syntax, notation, axiom, sorry.
-/
import Derived.Test.YtmgnkabnlcapbaaGreatChecked
import GoSem.Claim
import GoSem.ClaimJoined
import GoSem.ClaimMapViews
import Derived.JoinedTies
import Derived.KernelRfl
namespace Go.Proofs.YtmgnkabnlcapbaaGreat
/- THE CELL 'sum', in the pinned program and in every row, IS THE sha256 OF THE DUMP (.gsa) THAT YtmgnkabnlcapbaaGreatProg.lean LOADS. Nothing in Lean hashes anything: it is a label: what it is worth is what the hold of that sum in a sandbox is worth. -/
noncomputable def Tryz.pinned : Pinned := { name := "ytmgnkabnlcapbaagreat", sum := "9203006611827f37d8018a24b953ce695c181e2014742434c236a86b13bdf280", checked := Tryz.checked }
namespace Rows
def none {H : Type} : Left H := { results := [], args := [] }

/-- 'elasticstorelaw18.TallyMonotone': WHATEVER THE INPUT: true; the input reads as it did. -/
def tallyMonotoneSpec : ChangeSpec := { name := "tallyMonotone", fn := fun _ => fun
  | [d1, d2, d3, d4, d5, d6] => { results := [.lit (.bool true)], args := [d1, d2, d3, d4, d5, d6] }
  | _ => none }
def tallyMonotoneRow : OpenClaim := { program := "ytmgnkabnlcapbaagreat", sum := "9203006611827f37d8018a24b953ce695c181e2014742434c236a86b13bdf280", func := "elasticstore/elasticstorelaw18.TallyMonotone", spec := "tallyMonotone", inPlace := ["slices.overlaps[elasticstore/api.Entry]", "slices.overlaps[int]", "slices.overlaps[elasticstore/api.WeightEntry]"], unfollowed := true, recurses := true, apart := false }
def TallyMonotoneSaid : Prop := tallyMonotoneRow.holds Tryz.pinned (OpenSpec.ofChange tallyMonotoneSpec)

/-- ITS FALSE NEIGHBOUR: 'it returns false'. Refute it at one input. -/
def tallyMonotoneWrong : ChangeSpec := { name := "tallyMonotone", fn := fun _ => fun
  | [d1, d2, d3, d4, d5, d6] => { results := [.lit (.bool false)], args := [d1, d2, d3, d4, d5, d6] }
  | _ => none }
def TallyMonotoneWrongFalsely : Prop := tallyMonotoneRow.holds Tryz.pinned (OpenSpec.ofChange tallyMonotoneWrong)

/-- 'elasticstorelaw18.TallyCovers': WHATEVER THE INPUT: true; the input reads as it did. -/
def tallyCoversSpec : ChangeSpec := { name := "tallyCovers", fn := fun _ => fun
  | [d1, d2, d3, d4, d5, d6] => { results := [.lit (.bool true)], args := [d1, d2, d3, d4, d5, d6] }
  | _ => none }
def tallyCoversRow : OpenClaim := { program := "ytmgnkabnlcapbaagreat", sum := "9203006611827f37d8018a24b953ce695c181e2014742434c236a86b13bdf280", func := "elasticstore/elasticstorelaw18.TallyCovers", spec := "tallyCovers", inPlace := ["slices.overlaps[elasticstore/api.Entry]", "slices.overlaps[int]", "slices.overlaps[elasticstore/api.WeightEntry]"], unfollowed := true, recurses := true, apart := false }
def TallyCoversSaid : Prop := tallyCoversRow.holds Tryz.pinned (OpenSpec.ofChange tallyCoversSpec)

/-- ITS FALSE NEIGHBOUR: 'it returns false'. Refute it at one input. -/
def tallyCoversWrong : ChangeSpec := { name := "tallyCovers", fn := fun _ => fun
  | [d1, d2, d3, d4, d5, d6] => { results := [.lit (.bool false)], args := [d1, d2, d3, d4, d5, d6] }
  | _ => none }
def TallyCoversWrongFalsely : Prop := tallyCoversRow.holds Tryz.pinned (OpenSpec.ofChange tallyCoversWrong)

/-- 'elasticstorelaw18.TallyMeet': WHATEVER THE INPUT: true; the input reads as it did. -/
def tallyMeetSpec : ChangeSpec := { name := "tallyMeet", fn := fun _ => fun
  | [d1, d2, d3, d4, d5, d6, d7, d8] => { results := [.lit (.bool true)], args := [d1, d2, d3, d4, d5, d6, d7, d8] }
  | _ => none }
def tallyMeetRow : OpenClaim := { program := "ytmgnkabnlcapbaagreat", sum := "9203006611827f37d8018a24b953ce695c181e2014742434c236a86b13bdf280", func := "elasticstore/elasticstorelaw18.TallyMeet", spec := "tallyMeet", inPlace := ["slices.overlaps[elasticstore/api.Entry]", "slices.overlaps[int]", "slices.overlaps[elasticstore/api.WeightEntry]"], unfollowed := true, recurses := true, apart := false }
def TallyMeetSaid : Prop := tallyMeetRow.holds Tryz.pinned (OpenSpec.ofChange tallyMeetSpec)

/-- ITS FALSE NEIGHBOUR: 'it returns false'. Refute it at one input. -/
def tallyMeetWrong : ChangeSpec := { name := "tallyMeet", fn := fun _ => fun
  | [d1, d2, d3, d4, d5, d6, d7, d8] => { results := [.lit (.bool false)], args := [d1, d2, d3, d4, d5, d6, d7, d8] }
  | _ => none }
def TallyMeetWrongFalsely : Prop := tallyMeetRow.holds Tryz.pinned (OpenSpec.ofChange tallyMeetWrong)

/- THE SECOND FORM. 'bulk': how many values and letters a reading holds, each counted each time it is reached (what is shared counts as often as it is met; a slice's spare places count too). A statement '..UptoSaid' is the law's where the arguments, and the package variables that the reading takes, are together of bulk at most 1048576: NARROWER than '..Said'. Prove '..Said' where nothing that the law and all that it calls make is longer than what came in: it says more and counts as full. Else prove '..UptoSaid'. A law counts once. -/
mutual
def uptoBulk {H : Type} : DataW H → Nat
  | .lit (.string bytes) => bytes.length + 1
  | .lit _ => 1
  | .nil => 1
  | .ptr d => uptoBulk d + 1
  | .slice elems spare => uptoBulkAll elems + uptoBulkAll spare + 1
  | .agg parts => uptoBulkAll parts + 1
  | .iface _ d => uptoBulk d + 1
  | .map entries => uptoBulkEntries entries + 1
  | .held _ => 1
def uptoBulkAll {H : Type} : List (DataW H) → Nat
  | [] => 0
  | d :: r => uptoBulk d + uptoBulkAll r
def uptoBulkEntries {H : Type} : List (Lit × DataW H) → Nat
  | [] => 0
  | x :: r => uptoBulkEntry x + uptoBulkEntries r
def uptoBulkEntry {H : Type} : Lit × DataW H → Nat
  | (.string bytes, d) => bytes.length + uptoBulk d + 1
  | (_, d) => uptoBulk d + 1
 end
def uptoSmall : (H : Type) → List (DataW H) → Bool := fun _ ds => decide (uptoBulkAll ds ≤ 1048576)
def OpenSpec.upto (s : _root_.Go.ChangeSpec) : _root_.Go.OpenSpec := { _root_.Go.OpenSpec.ofChange s with cond := some uptoSmall }

/-- 'elasticstorelaw18.TallyMonotone', WHERE WHAT IT READS IS OF BULK AT MOST 1048576: true; the input reads as it did. -/
def tallyMonotoneUptoRow : OpenClaim := { program := "ytmgnkabnlcapbaagreat", sum := "9203006611827f37d8018a24b953ce695c181e2014742434c236a86b13bdf280", func := "elasticstore/elasticstorelaw18.TallyMonotone", spec := "tallyMonotone", inPlace := ["slices.overlaps[elasticstore/api.Entry]", "slices.overlaps[int]", "slices.overlaps[elasticstore/api.WeightEntry]"], unfollowed := true, recurses := true, apart := false, narrowed := true }
def TallyMonotoneUptoSaid : Prop := tallyMonotoneUptoRow.holds Tryz.pinned (OpenSpec.upto tallyMonotoneSpec)

/-- 'elasticstorelaw18.TallyCovers', WHERE WHAT IT READS IS OF BULK AT MOST 1048576: true; the input reads as it did. -/
def tallyCoversUptoRow : OpenClaim := { program := "ytmgnkabnlcapbaagreat", sum := "9203006611827f37d8018a24b953ce695c181e2014742434c236a86b13bdf280", func := "elasticstore/elasticstorelaw18.TallyCovers", spec := "tallyCovers", inPlace := ["slices.overlaps[elasticstore/api.Entry]", "slices.overlaps[int]", "slices.overlaps[elasticstore/api.WeightEntry]"], unfollowed := true, recurses := true, apart := false, narrowed := true }
def TallyCoversUptoSaid : Prop := tallyCoversUptoRow.holds Tryz.pinned (OpenSpec.upto tallyCoversSpec)

/-- 'elasticstorelaw18.TallyMeet', WHERE WHAT IT READS IS OF BULK AT MOST 1048576: true; the input reads as it did. -/
def tallyMeetUptoRow : OpenClaim := { program := "ytmgnkabnlcapbaagreat", sum := "9203006611827f37d8018a24b953ce695c181e2014742434c236a86b13bdf280", func := "elasticstore/elasticstorelaw18.TallyMeet", spec := "tallyMeet", inPlace := ["slices.overlaps[elasticstore/api.Entry]", "slices.overlaps[int]", "slices.overlaps[elasticstore/api.WeightEntry]"], unfollowed := true, recurses := true, apart := false, narrowed := true }
def TallyMeetUptoSaid : Prop := tallyMeetUptoRow.holds Tryz.pinned (OpenSpec.upto tallyMeetSpec)

end Rows
end Go.Proofs.YtmgnkabnlcapbaaGreat
