/- Validation of configurations (the reference's), where they are valid. -/
import Derived.Test.YtmhnmookgbmmbaaGreatW51
set_option linter.unusedVariables false
set_option linter.unusedSimpArgs false
set_option maxRecDepth 8000
set_option maxHeartbeats 4000000
set_option pp.deepTerms false
set_option pp.deepTerms.threshold 6
namespace Go.Proofs
open Go.AM
attribute [local irreducible] AM.evalR AM.evalD AM.Runs AM.valK AM.dK AM.opK AM.stepR AM.CallS AM.St.Le
def RuleOK (r : Rule) : Prop := (1 ≤ r.kind ∧ r.kind ≤ 4) ∧ (r.kind = 3 → 1 ≤ r.columns ∧ r.columns ≤ 12) ∧ (r.kind ≠ 3 → r.columns = 0) ∧ (r.kind = 4 → 0 ≤ r.faulty ∧ r.faulty ≤ 12) ∧ (r.kind ≠ 4 → r.faulty = 0)
def ChangeOK (c : Change) : Prop := (c.kind = 1 ∧ (1 ≤ c.server ∧ c.server ≤ 12) ∧ (1 ≤ c.weight ∧ c.weight ≤ 9) ∧ c.version = 0 ∧ c.rule = ⟨0, 0, 0⟩) ∨ (c.kind = 2 ∧ (1 ≤ c.server ∧ c.server ≤ 12) ∧ c.weight = 0 ∧ c.version = 0 ∧ c.rule = ⟨0, 0, 0⟩) ∨
  (c.kind = 3 ∧ (1 ≤ c.server ∧ c.server ≤ 12) ∧ (1 ≤ c.weight ∧ c.weight ≤ 9) ∧ (1 ≤ c.version ∧ c.version ≤ 1000) ∧ c.rule = ⟨0, 0, 0⟩) ∨ (c.kind = 4 ∧ c.server = 0 ∧ c.weight = 0 ∧ (1 ≤ c.version ∧ c.version ≤ 1000) ∧ RuleOK c.rule)
def PropOK (p : Proposal) : Prop := (201 ≤ p.admin ∧ p.admin < 204) ∧ (1 ≤ p.number ∧ p.number ≤ 3) ∧ (1 ≤ p.changes.length ∧ p.changes.length ≤ 6) ∧ (∀ c ∈ p.changes, ChangeOK c) ∧
  ∀ i k : Nat, k < i → i < p.changes.length → ¬ ((p.changes.getD k default).kind = (p.changes.getD i default).kind ∧ (p.changes.getD k default).server = (p.changes.getD i default).server)
def ConfOK (c : Config) : Prop := (∀ p ∈ c, PropOK p) ∧ (∀ i : Nat, 0 < i → i < c.length → cmpP (c.getD (i - 1) default) (c.getD i default) < 0) ∧
  ∀ i : Nat, i < c.length → 1 < (c.getD i default).number → 0 < i ∧ (c.getD (i - 1) default).admin = (c.getD i default).admin ∧ (c.getD (i - 1) default).number = (c.getD i default).number - 1
theorem val_Server (n : Int) : AM.Fn Tryz.prog 63 [.i n] (.b (decide (1 ≤ n ∧ n ≤ 12))) := by
  (refine spec_of_runs Tryz.func63 rfl ?_; simp only [Tryz.f63]; refine ys ?_)
  repeat' (first | refine yw ?_ | ((with_reducible refine Runs.is ?_); first | refine Runs.region ?_ | ((with_reducible refine Runs.isC ?_); refine Runs.cond rfl (zc ?_) (zc ?_) <;> intro hc <;> (try (first | contradiction | (exfalso; omega; done) | (have : hc = trivial := rfl; clear this; clear hc))))) | ((with_reducible refine r_is ?_); first | refine yr ?_ | ((with_reducible refine r_gd ?_); (first | refine r_guardPt rfl rfl ?_ ?_ | refine r_guardNt rfl rfl ?_ ?_ | refine r_guard rfl rfl ?_ ?_) <;> intro hG <;> (try (exfalso; omega; done)) <;> refine r_nn zN zH ?_)) | fail)
  all_goals ((refine Runs.ret1 Tryz.func63 rfl zM zD ?_; try exact zX))
  all_goals (first | (refine V.Le.of_eq (congrArg V.b (decide_eq_decide.2 ?_)); omega) | (refine V.Le.of_eq (congrArg V.b (decide_eq_false ?_).symm); omega))
theorem val_Admin (n : Int) : AM.Fn Tryz.prog 76 [.i n] (.b (decide (201 ≤ n ∧ n < 204))) := by
  (refine spec_of_runs Tryz.func76 rfl ?_; simp only [Tryz.f76]; refine ys ?_)
  repeat' (first | refine yw ?_ | ((with_reducible refine Runs.is ?_); first | refine Runs.region ?_ | ((with_reducible refine Runs.isC ?_); refine Runs.cond rfl (zc ?_) (zc ?_) <;> intro hc <;> (try (first | contradiction | (exfalso; omega; done) | (have : hc = trivial := rfl; clear this; clear hc))))) | ((with_reducible refine r_is ?_); first | refine yr ?_ | ((with_reducible refine r_gd ?_); (first | refine r_guardPt rfl rfl ?_ ?_ | refine r_guardNt rfl rfl ?_ ?_ | refine r_guard rfl rfl ?_ ?_) <;> intro hG <;> (try (exfalso; omega; done)) <;> refine r_nn zN zH ?_)) | fail)
  all_goals ((refine Runs.ret1 Tryz.func76 rfl zM zD ?_; try exact zX))
  all_goals (first | (refine V.Le.of_eq (congrArg V.b (decide_eq_decide.2 ?_)); omega) | (refine V.Le.of_eq (congrArg V.b (decide_eq_false ?_).symm); omega))
theorem val_Rule (r : Rule) (h : RuleOK r) : AM.Fn Tryz.prog 62 [ruV r] (.i 0) := by
  obtain ⟨h1, h2, h3, h4, h5⟩ := h
  (refine spec_of_runs Tryz.func62 rfl ?_; simp only [Tryz.f62]; refine ys ?_)
  repeat' (first | refine yw ?_ | ((with_reducible refine Runs.is ?_); first | refine Runs.region ?_ | ((with_reducible refine Runs.isC ?_); refine Runs.cond rfl (zc ?_) (zc ?_) <;> intro hc <;> (try (first | contradiction | (exfalso; omega; done) | (have : hc = trivial := rfl; clear this; clear hc))))) | ((with_reducible refine r_is ?_); first | refine yr ?_ | (refine r_fn rfl (val_Server _) HbF.h zL1 zD ?_; refine r_nn zN zH ?_) | ((with_reducible refine r_gd ?_); (first | refine r_guardPf rfl rfl ?_ ?_ | refine r_guardNf rfl rfl ?_ ?_ | refine r_guardPt rfl rfl ?_ ?_ | refine r_guardNt rfl rfl ?_ ?_ | refine r_guard rfl rfl ?_ ?_) <;> intro hG <;> (try (exfalso; omega; done)) <;> refine r_nn zN zH ?_)) | fail)
  all_goals ((refine Runs.ret1 Tryz.func62 rfl zM zD ?_; try exact zX))
end Go.Proofs
