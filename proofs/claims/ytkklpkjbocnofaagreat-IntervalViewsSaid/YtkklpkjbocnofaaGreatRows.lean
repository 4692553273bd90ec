/-
  No cell of these rows narrows 'for every input' (looked for: loops, veiled, ifaces, maps, wideKeys, modest, calm, conditions, laid).
  DERIVED. THE GIVEN ROWS OF THIS SEAT. 3 by the template 'for every input the law returns true; each argument reads behind the call as it read before'; 0 by the template 'total and deterministic' (their statements: YtkklpkjbocnofaaGreatTotals.lean).
  GIVEN WITH THE SEED: the statements are not yours to turn. If you find one false, say at which input.
  Laid BY PROGRAM, IN A SANDBOX (cutbox-rows.mjs): the forced cells as the released guide's own fill.sh prints them over the translation 7ec353c45f2c3754… (all of the seat's roots in one cut). By AI agents, Wed Nov 11 2026. No macro, syntax, notation, axiom, sorry.
-/
import Derived.Test.YtkklpkjbocnofaaGreatChecked
import GoSem.Claim
import GoSem.ClaimJoined
import GoSem.ClaimMapViews
import Derived.JoinedTies
import Derived.KernelRfl
namespace Go.Proofs.YtkklpkjbocnofaaGreat
/- THE CELL 'sum', in the pinned program and in every row, IS THE sha256 OF THE DUMP (.gsa) THAT YtkklpkjbocnofaaGreatProg.lean LOADS. Nothing in Lean hashes anything: it is a label: what it is worth is what the hold of that sum in a sandbox is worth. -/
noncomputable def Tryz.pinned : Pinned := { name := "ytkklpkjbocnofaagreat", sum := "7ec353c45f2c3754b9c635a4cfdf4fd1bc9d1ab76e4275e5ee779f721510611e", checked := Tryz.checked }
namespace Rows
def none {H : Type} : Left H := { results := [], args := [] }

/-- 'elasticstorelaw09.IntervalAll': WHATEVER THE INPUT: true; the input reads as it did. -/
def intervalAllSpec : ChangeSpec := { name := "intervalAll", fn := fun _ => fun
  | [d1, d2, d3] => { results := [.lit (.bool true)], args := [d1, d2, d3] }
  | _ => none }
def intervalAllRow : OpenClaim := { program := "ytkklpkjbocnofaagreat", sum := "7ec353c45f2c3754b9c635a4cfdf4fd1bc9d1ab76e4275e5ee779f721510611e", func := "elasticstore/elasticstorelaw09.IntervalAll", spec := "intervalAll", inPlace := ["slices.overlaps[elasticstore/api.Entry]", "slices.overlaps[int]", "slices.overlaps[elasticstore/api.WeightEntry]"], unfollowed := true, recurses := true, apart := false }
def IntervalAllSaid : Prop := intervalAllRow.holds Tryz.pinned (OpenSpec.ofChange intervalAllSpec)

/-- ITS FALSE NEIGHBOUR: 'it returns false'. Refute it at one input. -/
def intervalAllWrong : ChangeSpec := { name := "intervalAll", fn := fun _ => fun
  | [d1, d2, d3] => { results := [.lit (.bool false)], args := [d1, d2, d3] }
  | _ => none }
def IntervalAllWrongFalsely : Prop := intervalAllRow.holds Tryz.pinned (OpenSpec.ofChange intervalAllWrong)

/-- 'elasticstorelaw09.IntervalViews': WHATEVER THE INPUT: true; the input reads as it did. -/
def intervalViewsSpec : ChangeSpec := { name := "intervalViews", fn := fun _ => fun
  | [d1, d2, d3] => { results := [.lit (.bool true)], args := [d1, d2, d3] }
  | _ => none }
def intervalViewsRow : OpenClaim := { program := "ytkklpkjbocnofaagreat", sum := "7ec353c45f2c3754b9c635a4cfdf4fd1bc9d1ab76e4275e5ee779f721510611e", func := "elasticstore/elasticstorelaw09.IntervalViews", spec := "intervalViews", inPlace := ["slices.overlaps[elasticstore/api.Entry]", "slices.overlaps[int]", "slices.overlaps[elasticstore/api.WeightEntry]"], unfollowed := true, recurses := true, apart := false }
def IntervalViewsSaid : Prop := intervalViewsRow.holds Tryz.pinned (OpenSpec.ofChange intervalViewsSpec)

/-- ITS FALSE NEIGHBOUR: 'it returns false'. Refute it at one input. -/
def intervalViewsWrong : ChangeSpec := { name := "intervalViews", fn := fun _ => fun
  | [d1, d2, d3] => { results := [.lit (.bool false)], args := [d1, d2, d3] }
  | _ => none }
def IntervalViewsWrongFalsely : Prop := intervalViewsRow.holds Tryz.pinned (OpenSpec.ofChange intervalViewsWrong)

/-- 'elasticstorelaw09.IntervalSpan': WHATEVER THE INPUT: true; the input reads as it did. -/
def intervalSpanSpec : ChangeSpec := { name := "intervalSpan", fn := fun _ => fun
  | [d1, d2, d3, d4, d5] => { results := [.lit (.bool true)], args := [d1, d2, d3, d4, d5] }
  | _ => none }
def intervalSpanRow : OpenClaim := { program := "ytkklpkjbocnofaagreat", sum := "7ec353c45f2c3754b9c635a4cfdf4fd1bc9d1ab76e4275e5ee779f721510611e", func := "elasticstore/elasticstorelaw09.IntervalSpan", spec := "intervalSpan", inPlace := ["slices.overlaps[elasticstore/api.Entry]", "slices.overlaps[int]", "slices.overlaps[elasticstore/api.WeightEntry]"], unfollowed := true, recurses := true, apart := false }
def IntervalSpanSaid : Prop := intervalSpanRow.holds Tryz.pinned (OpenSpec.ofChange intervalSpanSpec)

/-- ITS FALSE NEIGHBOUR: 'it returns false'. Refute it at one input. -/
def intervalSpanWrong : ChangeSpec := { name := "intervalSpan", fn := fun _ => fun
  | [d1, d2, d3, d4, d5] => { results := [.lit (.bool false)], args := [d1, d2, d3, d4, d5] }
  | _ => none }
def IntervalSpanWrongFalsely : Prop := intervalSpanRow.holds Tryz.pinned (OpenSpec.ofChange intervalSpanWrong)

/- THE SECOND FORM. 'bulk': how many values and letters a reading holds, each counted each time it is reached (what is shared counts as often as it is met; a slice's spare places count too). A statement '..UptoSaid' is the law's where the arguments, and the package variables that the reading takes, are together of bulk at most 1048576: NARROWER than '..Said'. Prove '..Said' where nothing that the law and all that it calls make is longer than what came in: it says more and counts as full. Else prove '..UptoSaid'. A law counts once. -/
mutual
def uptoBulk {H : Type} : DataW H → Nat
  | .lit (.string bytes) => bytes.length + 1
  | .lit _ => 1
  | .nil => 1
  | .ptr d => uptoBulk d + 1
  | .slice elems spare => uptoBulkAll elems + uptoBulkAll spare + 1
  | .agg parts => uptoBulkAll parts + 1
  | .iface _ d => uptoBulk d + 1
  | .map entries => uptoBulkEntries entries + 1
  | .held _ => 1
def uptoBulkAll {H : Type} : List (DataW H) → Nat
  | [] => 0
  | d :: r => uptoBulk d + uptoBulkAll r
def uptoBulkEntries {H : Type} : List (Lit × DataW H) → Nat
  | [] => 0
  | x :: r => uptoBulkEntry x + uptoBulkEntries r
def uptoBulkEntry {H : Type} : Lit × DataW H → Nat
  | (.string bytes, d) => bytes.length + uptoBulk d + 1
  | (_, d) => uptoBulk d + 1
 end
def uptoSmall : (H : Type) → List (DataW H) → Bool := fun _ ds => decide (uptoBulkAll ds ≤ 1048576)
def OpenSpec.upto (s : _root_.Go.ChangeSpec) : _root_.Go.OpenSpec := { _root_.Go.OpenSpec.ofChange s with cond := some uptoSmall }

/-- 'elasticstorelaw09.IntervalAll', WHERE WHAT IT READS IS OF BULK AT MOST 1048576: true; the input reads as it did. -/
def intervalAllUptoRow : OpenClaim := { program := "ytkklpkjbocnofaagreat", sum := "7ec353c45f2c3754b9c635a4cfdf4fd1bc9d1ab76e4275e5ee779f721510611e", func := "elasticstore/elasticstorelaw09.IntervalAll", spec := "intervalAll", inPlace := ["slices.overlaps[elasticstore/api.Entry]", "slices.overlaps[int]", "slices.overlaps[elasticstore/api.WeightEntry]"], unfollowed := true, recurses := true, apart := false, narrowed := true }
def IntervalAllUptoSaid : Prop := intervalAllUptoRow.holds Tryz.pinned (OpenSpec.upto intervalAllSpec)

/-- 'elasticstorelaw09.IntervalViews', WHERE WHAT IT READS IS OF BULK AT MOST 1048576: true; the input reads as it did. -/
def intervalViewsUptoRow : OpenClaim := { program := "ytkklpkjbocnofaagreat", sum := "7ec353c45f2c3754b9c635a4cfdf4fd1bc9d1ab76e4275e5ee779f721510611e", func := "elasticstore/elasticstorelaw09.IntervalViews", spec := "intervalViews", inPlace := ["slices.overlaps[elasticstore/api.Entry]", "slices.overlaps[int]", "slices.overlaps[elasticstore/api.WeightEntry]"], unfollowed := true, recurses := true, apart := false, narrowed := true }
def IntervalViewsUptoSaid : Prop := intervalViewsUptoRow.holds Tryz.pinned (OpenSpec.upto intervalViewsSpec)

/-- 'elasticstorelaw09.IntervalSpan', WHERE WHAT IT READS IS OF BULK AT MOST 1048576: true; the input reads as it did. -/
def intervalSpanUptoRow : OpenClaim := { program := "ytkklpkjbocnofaagreat", sum := "7ec353c45f2c3754b9c635a4cfdf4fd1bc9d1ab76e4275e5ee779f721510611e", func := "elasticstore/elasticstorelaw09.IntervalSpan", spec := "intervalSpan", inPlace := ["slices.overlaps[elasticstore/api.Entry]", "slices.overlaps[int]", "slices.overlaps[elasticstore/api.WeightEntry]"], unfollowed := true, recurses := true, apart := false, narrowed := true }
def IntervalSpanUptoSaid : Prop := intervalSpanUptoRow.holds Tryz.pinned (OpenSpec.upto intervalSpanSpec)

end Rows
end Go.Proofs.YtkklpkjbocnofaaGreat
