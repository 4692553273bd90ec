/- Validation of proposals (the reference's), where they are valid. -/
import Derived.Test.YtmhnmookgbmmbaaGreatW59
set_option linter.unusedVariables false
set_option linter.unusedSimpArgs false
set_option maxRecDepth 8000
set_option maxHeartbeats 4000000
set_option pp.deepTerms false
set_option pp.deepTerms.threshold 6
namespace Go.Proofs
open Go.AM
attribute [local irreducible] AM.evalR AM.evalD AM.Runs AM.valK AM.dK AM.opK AM.stepR AM.CallS AM.St.Le
theorem getD_in {α : Type} [Inhabited α] {l : List α} {i : Nat} (h : i < l.length) : l.getD i default ∈ l := by
  rw [List.getD_eq_getElem?_getD, List.getElem?_eq_getElem h]; exact List.getElem_mem h
theorem val_Prop (p : Proposal) (h : PropOK p) : AM.Fn Tryz.prog 51 [prV p] (.i 0) := by
  obtain ⟨h1, h2, h3, h4, h5⟩ := h
  have hA := val_Admin p.admin
  rw [decide_eq_true h1] at hA
  have hch := fun (i : Nat) (hi : i < p.changes.length) => val_Change (p.changes.getD i default) (h4 _ (getD_in hi))
  (refine spec_of_runs Tryz.func51 rfl ?_; simp only [Tryz.f51]; refine ys ?_)
  repeat' (first | refine yw ?_ | ((with_reducible refine Runs.is ?_); first | refine Runs.region (id := 0) ?_ | refine Runs.region (id := 1) ?_ | refine Runs.region (id := 2) ?_ | refine Runs.region (id := 3) ?_ | refine Runs.region (id := 4) ?_ | refine Runs.region (id := 5) ?_ | refine Runs.region (id := 6) ?_ | refine Runs.region (id := 7) ?_ | ((with_reducible refine Runs.isC ?_); refine Runs.cond rfl (zc ?_) (zc ?_) <;> intro hc <;> (try (first | contradiction | (exfalso; omega; done) | (have : hc = trivial := rfl; clear this; clear hc))))) | ((with_reducible refine r_is ?_); first | refine yr ?_ | (refine r_fn rfl (hA) HbF.h zL1 zD ?_; refine r_nn zN zH ?_) | ((with_reducible refine r_gd ?_); (first | refine r_guardPf rfl rfl ?_ ?_ | refine r_guardNf rfl rfl ?_ ?_ | refine r_guard rfl rfl ?_ ?_) <;> intro hG <;> (try (exfalso; omega; done)) <;> refine r_nn zN zH ?_)) | fail)
  refine Runs.loopI (fun i : Nat => p.changes.length - i) (fun i => i ≤ p.changes.length)
    (fun i => ⟨[.any, .ptr 1 0 0, .any, .i (i : Nat), .any, .any, .any, .any, .any, .any, .any, .any, .any, .any, .any, .any, .any, .any, .any, .any, .any, .any, .any, .any, .any, .any, .any, .any, .any, .any, .any, .any, .any, .any, .any, .any, .any, .any, .any, .any, .any, .any, .any, .any, .any, .any, .any, .any, .any, .any, .any, .any, .any, .any, .any, .any, .any, .any, .any, .any, .any, .any, .any, .any, .any, .any, .any, .any, .any, .any, .any, .any, .any, .any, .any, .any, .any, .any, .any, .any], [(1, .var 63 (prV p))]⟩) 0 zo ?_ ?_
  · (refine St.Le.clean zR zU zV)
  rintro i hi ih
  by_cases hlt : i < p.changes.length
  · have hC := hch i hlt
    have hd := fun k hk => h5 i k hk hlt
    repeat' (first | refine yw ?_ | ((with_reducible refine Runs.is ?_); first | refine Runs.region (id := 8) ?_ | refine Runs.region (id := 10) ?_ | refine Runs.region (id := 11) ?_ | refine Runs.region (id := 12) ?_ | refine Runs.region (id := 13) ?_ | refine Runs.region (id := 9) ?_ | ((with_reducible refine Runs.isC ?_); refine Runs.cond rfl (zc ?_) (zc ?_) <;> intro hc <;> (try (first | contradiction | (exfalso; omega; done) | (have : hc = trivial := rfl; clear this; clear hc))))) | ((with_reducible refine r_is ?_); first | refine yr ?_ | (refine r_fn rfl (hC) HbF.h zL1 zD ?_; refine r_nn zN zH ?_)) | fail)
    refine Runs.loopI (fun k : Nat => i - k) (fun k => k ≤ i)
      (fun k => ⟨[.any, .ptr 1 0 0, .any, .i (i : Nat), .any, .i (k : Nat), .any, .any, .any, .any, .any, .any, .any, .any, .any, .any, .any, .any, .any, .any, .any, .any, .any, .any, .any, .any, .any, .any, .any, .any, .any, .any, .any, .any, .any, .any, .any, .any, .any, .any, .any, .any, .any, .any, .any, .any, .any, .any, .any, .any, .any, .any, .any, .any, .any, .any, .any, .any, .any, .any, .any, .any, .any, .any, .any, .any, .any, .any, .any, .any, .any, .any, .any, .any, .any, .any, .any, .any, .any, .any], [(1, .var 63 (prV p))]⟩) 0 zo ?_ ?_
    · (refine St.Le.clean zR zU zV)
    rintro k hk ihk
    by_cases hkt : k < i
    · have hd2 := hd k hkt
      repeat' (first | refine yw ?_ | ((with_reducible refine Runs.is ?_); first | refine Runs.region (id := 14) ?_ | refine Runs.drawn (id := 16) mixed zK ?_ | refine Runs.region (id := 17) ?_ | refine Runs.region (id := 15) ?_ | ((with_reducible refine Runs.isC ?_); refine Runs.cond rfl (zc ?_) (zc ?_) <;> intro hc <;> (try (first | contradiction | (exfalso; omega; done) | (have : hc = trivial := rfl; clear this; clear hc))))) | ((with_reducible refine r_is ?_); first | refine yr ?_) | ((with_reducible refine d_is ?_); first | refine yd ?_ | ((with_reducible refine d_gd ?_); (first | refine d_guardPt rfl rfl ?_ ?_ | refine d_guardNt rfl rfl ?_ ?_ | refine d_guard rfl rfl ?_ ?_) <;> intro hG <;> (try (exfalso; omega; done)) <;> refine d_nn zN zH ?_)) | fail)
      all_goals first
        | (exact absurd ⟨by assumption, by assumption⟩ hd2)
        | (refine ihk (k + 1) _ zo zo ?_; (refine St.Le.clean zR zU zV); done)
        | fail
    · repeat' (first | refine yw ?_ | ((with_reducible refine Runs.is ?_); first | refine Runs.region (id := 14) ?_ | ((with_reducible refine Runs.isC ?_); refine Runs.cond rfl (zc ?_) (zc ?_) <;> intro hc <;> (try (first | contradiction | (exfalso; omega; done) | (have : hc = trivial := rfl; clear this; clear hc))))) | ((with_reducible refine r_is ?_); first | refine yr ?_) | fail)
      repeat' (first | refine yw ?_ | ((with_reducible refine Runs.is ?_); first | refine Runs.region (id := 9) ?_ | ((with_reducible refine Runs.isC ?_); refine Runs.cond rfl (zc ?_) (zc ?_) <;> intro hc <;> (try (first | contradiction | (exfalso; omega; done) | (have : hc = trivial := rfl; clear this; clear hc))))) | ((with_reducible refine r_is ?_); first | refine yr ?_) | fail)
      refine ih (i + 1) _ zo zo ?_
      (refine St.Le.clean zR zU zV)
  · repeat' (first | refine yw ?_ | ((with_reducible refine Runs.is ?_); first | refine Runs.region (id := 8) ?_ | ((with_reducible refine Runs.isC ?_); refine Runs.cond rfl (zc ?_) (zc ?_) <;> intro hc <;> (try (first | contradiction | (exfalso; omega; done) | (have : hc = trivial := rfl; clear this; clear hc))))) | ((with_reducible refine r_is ?_); first | refine yr ?_) | fail)
    repeat' (first | refine yw ?_ | ((with_reducible refine Runs.is ?_); first | refine Runs.region (id := 18) ?_ | ((with_reducible refine Runs.isC ?_); refine Runs.cond rfl (zc ?_) (zc ?_) <;> intro hc <;> (try (first | contradiction | (exfalso; omega; done) | (have : hc = trivial := rfl; clear this; clear hc))))) | ((with_reducible refine r_is ?_); first | refine yr ?_) | fail)
    (refine Runs.ret1 Tryz.func51 rfl zM zD ?_; try exact zX)
end Go.Proofs
