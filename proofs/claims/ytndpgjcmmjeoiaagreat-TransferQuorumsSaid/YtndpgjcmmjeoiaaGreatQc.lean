/- Plain words of quorums: how many are present; the rows of a grid. -/
import Derived.Test.YtndpgjcmmjeoiaaGreatQb
set_option linter.unusedVariables false
set_option linter.unusedSimpArgs false
namespace Go.Proofs
def cntB (l : List Bool) : Nat := (l.filter id).length
theorem cntB_le (l : List Bool) : cntB l ≤ l.length := List.length_filter_le _ _
theorem cntB_snoc (l : List Bool) (b : Bool) : cntB (l ++ [b]) = cntB l + (if b = true then 1 else 0) := by
  unfold cntB; cases b <;> simp [List.filter_append]
def gRow (c : Nat) (bs : List Bool) (k : Nat) : List Bool := (bs.drop (k * c)).take c
theorem gRow_len (c : Nat) (bs : List Bool) (k : Nat) : (gRow c bs k).length = min c (bs.length - k * c) := by unfold gRow; rw [List.length_take, List.length_drop]
def fullB (c : Nat) (bs : List Bool) (k : Nat) : Bool := decide (cntB (gRow c bs k) = (gRow c bs k).length)
def someB (c : Nat) (bs : List Bool) (k : Nat) : Bool := decide (cntB (gRow c bs k) ≠ 0)
def gridB (c : Int) (bs : List Bool) : Bool := if c < 1 then false else (List.range (gK c.toNat bs.length)).all (someB c.toNat bs) && (List.range (gK c.toNat bs.length)).any (fullB c.toNat bs)
end Go.Proofs
