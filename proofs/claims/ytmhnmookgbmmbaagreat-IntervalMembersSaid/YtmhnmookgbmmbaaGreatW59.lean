/- Validation of configurations (the reference's), where they are valid. -/
import Derived.Test.YtmhnmookgbmmbaaGreatW56
set_option linter.unusedVariables false
set_option linter.unusedSimpArgs false
set_option maxRecDepth 8000
set_option maxHeartbeats 4000000
set_option pp.deepTerms false
set_option pp.deepTerms.threshold 6
namespace Go.Proofs
open Go.AM
attribute [local irreducible] AM.evalR AM.evalD AM.Runs AM.valK AM.dK AM.opK AM.stepR AM.CallS AM.St.Le
theorem val_Ch1 (s w : Int) (h2 : 1 ≤ s ∧ s ≤ 12) (h3 : 1 ≤ w ∧ w ≤ 9) : AM.Fn Tryz.prog 77 [chV ⟨1, s, w, 0, ⟨0, 0, 0⟩⟩] (.i 0) := by
  (refine spec_of_runs Tryz.func77 rfl ?_; simp only [Tryz.f77]; refine ys ?_)
  repeat' (first | refine yw ?_ | ((with_reducible refine Runs.is ?_); first | refine Runs.region ?_ | refine Runs.drawn mixed zK ?_ | ((with_reducible refine Runs.isC ?_); refine Runs.cond rfl (zc ?_) (zc ?_) <;> intro hc <;> (try (first | contradiction | (exfalso; omega; done) | (have : hc = trivial := rfl; clear this; clear hc))))) | ((with_reducible refine r_is ?_); first | refine yr ?_ | (refine r_fn rfl (val_Server _) HbF.h zL1 zD ?_; refine r_nn zN zH ?_) | ((with_reducible refine r_gd ?_); (first | refine r_guardPf rfl rfl ?_ ?_ | refine r_guardNf rfl rfl ?_ ?_ | refine r_guardPt rfl rfl ?_ ?_ | refine r_guardNt rfl rfl ?_ ?_ | refine r_guard rfl rfl ?_ ?_) <;> intro hG <;> (try (exfalso; omega; done)) <;> refine r_nn zN zH ?_)) | ((with_reducible refine d_is ?_); first | refine yd ?_) | fail)
  all_goals first | contradiction | ((refine Runs.ret1 Tryz.func77 rfl zM zD ?_; try exact zX); done) | skip
theorem val_Ch2 (s : Int) (h2 : 1 ≤ s ∧ s ≤ 12) : AM.Fn Tryz.prog 77 [chV ⟨2, s, 0, 0, ⟨0, 0, 0⟩⟩] (.i 0) := by
  (refine spec_of_runs Tryz.func77 rfl ?_; simp only [Tryz.f77]; refine ys ?_)
  repeat' (first | refine yw ?_ | ((with_reducible refine Runs.is ?_); first | refine Runs.region ?_ | refine Runs.drawn mixed zK ?_ | ((with_reducible refine Runs.isC ?_); refine Runs.cond rfl (zc ?_) (zc ?_) <;> intro hc <;> (try (first | contradiction | (exfalso; omega; done) | (have : hc = trivial := rfl; clear this; clear hc))))) | ((with_reducible refine r_is ?_); first | refine yr ?_ | (refine r_fn rfl (val_Server _) HbF.h zL1 zD ?_; refine r_nn zN zH ?_) | ((with_reducible refine r_gd ?_); (first | refine r_guardPf rfl rfl ?_ ?_ | refine r_guardNf rfl rfl ?_ ?_ | refine r_guardPt rfl rfl ?_ ?_ | refine r_guardNt rfl rfl ?_ ?_ | refine r_guard rfl rfl ?_ ?_) <;> intro hG <;> (try (exfalso; omega; done)) <;> refine r_nn zN zH ?_)) | ((with_reducible refine d_is ?_); first | refine yd ?_) | fail)
  all_goals first | contradiction | ((refine Runs.ret1 Tryz.func77 rfl zM zD ?_; try exact zX); done) | skip
theorem val_Ch3 (s w v : Int) (h2 : 1 ≤ s ∧ s ≤ 12) (h3 : 1 ≤ w ∧ w ≤ 9) (h4 : 1 ≤ v ∧ v ≤ 1000) : AM.Fn Tryz.prog 77 [chV ⟨3, s, w, v, ⟨0, 0, 0⟩⟩] (.i 0) := by
  (refine spec_of_runs Tryz.func77 rfl ?_; simp only [Tryz.f77]; refine ys ?_)
  repeat' (first | refine yw ?_ | ((with_reducible refine Runs.is ?_); first | refine Runs.region ?_ | refine Runs.drawn mixed zK ?_ | ((with_reducible refine Runs.isC ?_); refine Runs.cond rfl (zc ?_) (zc ?_) <;> intro hc <;> (try (first | contradiction | (exfalso; omega; done) | (have : hc = trivial := rfl; clear this; clear hc))))) | ((with_reducible refine r_is ?_); first | refine yr ?_ | (refine r_fn rfl (val_Server _) HbF.h zL1 zD ?_; refine r_nn zN zH ?_) | ((with_reducible refine r_gd ?_); (first | refine r_guardPf rfl rfl ?_ ?_ | refine r_guardNf rfl rfl ?_ ?_ | refine r_guardPt rfl rfl ?_ ?_ | refine r_guardNt rfl rfl ?_ ?_ | refine r_guard rfl rfl ?_ ?_) <;> intro hG <;> (try (exfalso; omega; done)) <;> refine r_nn zN zH ?_)) | ((with_reducible refine d_is ?_); first | refine yd ?_) | fail)
  all_goals first | contradiction | ((refine Runs.ret1 Tryz.func77 rfl zM zD ?_; try exact zX); done) | skip
theorem val_Ch4 (v : Int) (r : Rule) (h4 : 1 ≤ v ∧ v ≤ 1000) (h5 : RuleOK r) : AM.Fn Tryz.prog 77 [chV ⟨4, 0, 0, v, r⟩] (.i 0) := by
  (refine spec_of_runs Tryz.func77 rfl ?_; simp only [Tryz.f77]; refine ys ?_)
  repeat' (first | refine yw ?_ | ((with_reducible refine Runs.is ?_); first | refine Runs.region ?_ | refine Runs.drawn mixed zK ?_ | ((with_reducible refine Runs.isC ?_); refine Runs.cond rfl (zc ?_) (zc ?_) <;> intro hc <;> (try (first | contradiction | (exfalso; omega; done) | (have : hc = trivial := rfl; clear this; clear hc))))) | ((with_reducible refine r_is ?_); first | refine yr ?_ | (refine r_fn rfl (val_Rule r h5) HbF.h zL1 zD ?_; refine r_nn zN zH ?_) | ((with_reducible refine r_gd ?_); (first | refine r_guardPf rfl rfl ?_ ?_ | refine r_guardNf rfl rfl ?_ ?_ | refine r_guardPt rfl rfl ?_ ?_ | refine r_guardNt rfl rfl ?_ ?_ | refine r_guard rfl rfl ?_ ?_) <;> intro hG <;> (try (exfalso; omega; done)) <;> refine r_nn zN zH ?_)) | ((with_reducible refine d_is ?_); first | refine yd ?_) | fail)
  all_goals first | contradiction | ((refine Runs.ret1 Tryz.func77 rfl zM zD ?_; try exact zX); done) | skip
theorem val_Change (c : Change) (h : ChangeOK c) : AM.Fn Tryz.prog 77 [chV c] (.i 0) := by
  obtain ⟨k, s, w, v, r⟩ := c
  rcases h with ⟨h1, h2, h3, h4, h5⟩ | ⟨h1, h2, h3, h4, h5⟩ | ⟨h1, h2, h3, h4, h5⟩ | ⟨h1, h2, h3, h4, h5⟩ <;> dsimp only at h1 h2 h3 h4 h5
  · subst h1 h4 h5; exact val_Ch1 s w h2 h3
  · subst h1 h3 h4 h5; exact val_Ch2 s h2
  · subst h1 h5; exact val_Ch3 s w v h2 h3 h4
  · subst h1 h2 h3; exact val_Ch4 v r h4 h5
end Go.Proofs
