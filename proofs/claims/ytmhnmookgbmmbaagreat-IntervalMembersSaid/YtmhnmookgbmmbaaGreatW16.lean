/- Graphs: has, next, Paths. -/
import Derived.Test.YtmhnmookgbmmbaaGreatW14
set_option linter.unusedVariables false
set_option linter.unusedSimpArgs false
set_option maxRecDepth 8000
set_option maxHeartbeats 4000000
set_option pp.deepTerms false
set_option pp.deepTerms.threshold 6
namespace Go.Proofs
open Go.AM
attribute [local irreducible] AM.evalR AM.evalD AM.Runs AM.valK AM.dK AM.opK AM.stepR AM.CallS AM.St.Le

def idxF (k : Int → Bool) : List Int → Nat → Int
  | [], _ => -1
  | x :: xs, i => if k x then (i : Int) else idxF k xs (i + 1)
theorem idxF_any (k : Int → Bool) (l : List Int) (i : Nat) : decide (0 ≤ idxF k l i) = l.any k := by
  induction l generalizing i with
  | nil => simp [idxF]
  | cons x xs ih =>
    unfold idxF
    rw [List.any_cons]
    cases h : k x
    · simpa using ih (i + 1)
    · simp
/-! has, next -/
def badG (g : Graph) (n : Int) : Bool := decide (n < 0) || decide ((g.nodes.length : Int) ≤ n)
def hasG (g : Graph) (l : List Int) : Bool := !l.any (badG g)
def nextC (g : Graph) (n : Int) (e : Int × Int) : Bool := decide (e.1 = n) && decide (n < e.2) && hasG g [e.2]
def nextG (g : Graph) (n : Int) : List Int := sortI ((g.edges.filter (nextC g n)).map (·.2))
theorem nextG_len (g : Graph) (n : Int) : (nextG g n).length ≤ g.edges.length := by
  rw [nextG, sortI_length, List.length_map]; exact List.length_filter_le _ _
/-! Paths -/
/-- The int that a sum wraps to. -/
def wr (n : Int) : Int := IntKind.i64.wrap n
def addI (n : Int) (m : List (Int × Int)) (k : Int) : List (Int × Int) := setI m k (wr ((getI m k).getD 0 + n))
def stepW (g : Graph) (m : List (Int × Int)) (i : Int) : List (Int × Int) := match getI m i with
  | none => m
  | some n => (nextG g i).foldl (addI n) (delI m i)
def waysB (g : Graph) (a b : Int) : List (Int × Int) := (upto a (b - 1)).foldl (stepW g) [(a, 1)]
def pathsB (g : Graph) (a b : Int) : Int := if hasG g [a, b] then (getI (waysB g a b) b).getD 0 else 0
theorem v_addW {P : Program} {e : Operand → V} {H : Heap} {K : V → Prop} {t : TypeId} {x y : Operand} {ty : TypeId} {p q : Int} (hx : e x = .sc (.int .i64 p)) (hy : e y = .sc (.int .i64 q)) (h : K (.i (wr (p + q)))) : valK P (.binOp .add t x y ty) e H K := v_add hx hy h
theorem upto_le {a b : Int} : ∀ n ∈ upto a b, a ≤ n ∧ n ≤ b := by
  intro n hn
  obtain ⟨k, hk, rfl⟩ := List.mem_map.1 hn
  have := List.mem_range.1 hk
  omega
end Go.Proofs
