/- The kit: Rule, Change. -/
import Derived.Test.YtmhnmookgbmmbaaGreatW8
set_option linter.unusedVariables false
set_option linter.unusedSimpArgs false
set_option maxRecDepth 8000
set_option maxHeartbeats 4000000
set_option pp.deepTerms false
set_option pp.deepTerms.threshold 6
namespace Go.Proofs
open Go.AM
attribute [local irreducible] AM.evalR AM.evalD AM.Runs AM.valK AM.dK AM.opK AM.stepR AM.CallS AM.St.Le
theorem digitB (n b i : Int) (hb : 2 ≤ b) : 0 ≤ digitI n b i ∧ digitI n b i < b := by
  unfold digitI
  exact ⟨Int.emod_nonneg _ zo, Int.emod_lt_of_pos _ zo⟩
def ruleI (n : Int) : Rule := if digitI n 8 0 = 1 ∨ digitI n 8 0 = 2 then ⟨2, 0, 0⟩ else if digitI n 8 0 = 3 then ⟨3, 1 + digitI n 4 2, 0⟩ else if digitI n 8 0 = 4 then ⟨4, 0, digitI n 2 3⟩ else ⟨1, 0, 0⟩
theorem kit_Rule (n : Int) : AM.Fn Tryz.prog 54 [.i n] (ruV (ruleI n)) := by
  have d4 := digitB n 4 2 zd
  (refine spec_of_runs Tryz.func54 rfl ?_; simp only [Tryz.f54]; refine ys ?_)
  repeat' (first | refine yw ?_ | ((with_reducible refine Runs.is ?_); first | refine Runs.region ?_ | ((with_reducible refine Runs.isC ?_); refine Runs.cond rfl (zc ?_) (zc ?_) <;> intro hc <;> (try (first | contradiction | (exfalso; omega; done) | (have : hc = trivial := rfl; clear this; clear hc))))) | ((with_reducible refine r_is ?_); first | refine yr ?_ | (refine r_fn rfl (kit_Digit n 8 0 zd zd) HbF.h zL3 zD ?_; refine r_nn zN zH ?_) | (refine r_fn rfl (kit_Digit n 4 2 zd zd) HbF.h zL3 zD ?_; refine r_nn zN zH ?_) | (refine r_fn rfl (kit_Digit n 2 3 zd zd) HbF.h zL3 zD ?_; refine r_nn zN zH ?_)) | fail)
  all_goals ((refine Runs.retC Tryz.func54 rfl zM rfl TyF.h (And.intro zE zd) zD ?_; try exact zX))
  all_goals (unfold ruleI; repeat (first | rw [if_pos zo] | rw [if_neg zo]))
  all_goals (exact V.Le.refl _)
def changeI (n : Int) : Change :=
  if digitI n 8 0 = 0 ∨ digitI n 8 0 = 1 ∨ digitI n 8 0 = 2 then ⟨1, 1 + digitI n 8 1, 1 + digitI n 4 3, 0, ⟨0, 0, 0⟩⟩
  else if digitI n 8 0 = 3 ∨ digitI n 8 0 = 4 then ⟨2, 1 + digitI n 8 1, 0, 0, ⟨0, 0, 0⟩⟩
  else if digitI n 8 0 = 5 then ⟨3, 1 + digitI n 8 1, 1 + digitI n 4 3, 1 + digitI n 2 9, ⟨0, 0, 0⟩⟩
  else if digitI n 8 0 = 6 then ⟨4, 0, 0, 1 + digitI n 2 9, ruleI (indexI n 1099511627776 / 64)⟩
  else ⟨1, 1 + digitI n 12 1, 1, 0, ⟨0, 0, 0⟩⟩
theorem indexI_bd (n k : Int) (hk : 1 ≤ k) : 0 ≤ indexI n k ∧ indexI n k < k := by
  unfold indexI
  rw [if_neg zo]
  exact ⟨Int.emod_nonneg _ zo, Int.emod_lt_of_pos _ zo⟩
theorem kit_Change (n : Int) : AM.Fn Tryz.prog 49 [.i n] (chV (changeI n)) := by
  have d1 := digitB n 8 1 zd
  have d2 := digitB n 4 3 zd
  have d3 := digitB n 2 9 zd
  have d4 := digitB n 12 1 zd
  have d5 := indexI_bd n 1099511627776 zd
  (refine spec_of_runs Tryz.func49 rfl ?_; simp only [Tryz.f49]; refine ys ?_)
  repeat' (first | refine yw ?_ | ((with_reducible refine Runs.is ?_); first | refine Runs.region ?_ | ((with_reducible refine Runs.isC ?_); refine Runs.cond rfl (zc ?_) (zc ?_) <;> intro hc <;> (try (first | contradiction | (exfalso; omega; done) | (have : hc = trivial := rfl; clear this; clear hc))))) | ((with_reducible refine r_is ?_); first | refine yr ?_ | (refine r_fn rfl (kit_Digit n 8 1 zd zd) HbF.h zL3 zD ?_; refine r_nn zN zH ?_) | (refine r_fn rfl (kit_Digit n 8 0 zd zd) HbF.h zL3 zD ?_; refine r_nn zN zH ?_) | (refine r_fn rfl (kit_Digit n 4 3 zd zd) HbF.h zL3 zD ?_; refine r_nn zN zH ?_) | (refine r_fn rfl (kit_Digit n 2 9 zd zd) HbF.h zL3 zD ?_; refine r_nn zN zH ?_) | (refine r_fn rfl (kit_Digit n 12 1 zd zd) HbF.h zL3 zD ?_; refine r_nn zN zH ?_) | (refine r_fn rfl (kit_Index n 1099511627776 zd) HbF.h zL2 zD ?_; refine r_nn zN zH ?_) | (refine r_fn rfl (kit_Rule (indexI n 1099511627776 / 64)) HbF.h zL1 zD ?_; refine r_nn zN zH ?_)) | fail)
  all_goals ((refine Runs.retC Tryz.func49 rfl zM rfl TyF.h (And.intro zE zd) zD ?_; try exact zX))
  all_goals (unfold changeI; repeat (first | rw [if_pos zo] | rw [if_neg zo]))
  all_goals (exact V.Le.refl _)
/-- The proposal of administrator 201 + a with number i + 1, and the words at 'at'. -/
def extra (l : List Int) (at' : Int) : Bool := decide (digitI (atI l at') 2 12 = 1) && (decide ((changeI (atI l (at' + 1))).kind ≠ (changeI (atI l at')).kind) || decide ((changeI (atI l (at' + 1))).server ≠ (changeI (atI l at')).server))
def propI (l : List Int) (a i at' : Int) : Proposal := ⟨201 + a, i + 1, changeI (atI l at') :: if extra l at' then [changeI (atI l (at' + 1))] else []⟩
def groupI (l : List Int) (a at' : Int) (n : Nat) : Config := (List.range n).map fun i : Nat => propI l a i (at' + 2 * i)
def cntI (l : List Int) (a : Int) : Nat := (digitI (atI l a) 4 0).toNat
def poolI (l : List Int) : Config := groupI l 0 3 (cntI l 0) ++ groupI l 1 (3 + 2 * cntI l 0) (cntI l 1) ++ groupI l 2 (3 + 2 * cntI l 0 + 2 * cntI l 1) (cntI l 2)
theorem groupI_succ (l : List Int) (a at' : Int) (n : Nat) : groupI l a at' (n + 1) = groupI l a at' n ++ [propI l a n (at' + 2 * n)] := by
  simp [groupI, List.range_succ]
theorem cntI_bd (l : List Int) (a : Int) : (cntI l a : Int) = digitI (atI l a) 4 0 ∧ cntI l a < 4 := by
  have := digitB (atI l a) 4 0 zd
  unfold cntI; omega
/-- The pool as three cut groups: what stands before administrator a, and the place. -/
def poolUpto (l : List Int) : Nat → Config × Int
  | 0 => ([], 3)
  | a + 1 => ((poolUpto l a).1 ++ groupI l a (poolUpto l a).2 (cntI l a), (poolUpto l a).2 + 2 * cntI l a)
theorem poolUpto_bd (l : List Int) (a : Nat) : 3 ≤ (poolUpto l a).2 ∧ (poolUpto l a).2 ≤ 3 + 6 * a ∧ (poolUpto l a).1.length ≤ 3 * a := by
  induction a with
  | zero => simp [poolUpto]
  | succ a ih =>
    have h := (cntI_bd l a).2
    simp only [poolUpto, List.length_append, groupI, List.length_map, List.length_range]
    omega
end Go.Proofs
