/- Law 09: IntervalMembers. -/
import Derived.Test.YtmhnmookgbmmbaaGreatW60
set_option linter.unusedVariables false
set_option linter.unusedSimpArgs false
set_option maxRecDepth 8000
set_option maxHeartbeats 4000000
set_option pp.deepTerms false
set_option pp.deepTerms.threshold 6
namespace Go.Proofs
open Go.AM
attribute [local irreducible] AM.evalR AM.evalD AM.Runs AM.valK AM.dK AM.opK AM.stepR AM.CallS AM.St.Le
theorem law_IntervalMembers (f : Bool) (l : List Int) (x y z : Int) (hl : l.length ≤ 4611686018427387904) : AM.Fn Tryz.prog 5 [.sl f (l.map .i), .i x, .i y, .i z] (.b true) := by
  have hf := pool_nice l
  have hli : Lite (poolF l) := pool_lite l
  have hpc := pool_cut l
  have hca := part_cut hf hpc x
  have hcb := part_cut hf hpc y
  have hcc := part_cut hf hpc z
  have hfacts := members_facts hf (fun a n => pool_ok l a n) hca hcb hcc
  have hfew := (all_is hf hli hca hcb).2.2
  rw [← (all_is hf hli hca hcb).1] at hfew
  have s0 := hpc.small hli
  have s1 := hca.small hli
  have s2 := hcb.small hli
  have s3 := hcc.small hli
  have fn1 := hcb.fine hf
  have hP := kit_Pool f l hl
  have hP1 := kit_Part false (poolI l) x zo
  have hP2 := kit_Part false (poolI l) y zo
  have hP3 := kit_Part false (poolI l) z zo
  generalize partI (poolI l) x = fr at *
  generalize partI (poolI l) y = to at *
  generalize partI (poolI l) z = c at *
  obtain ⟨hcn, hmem, hwr⟩ := hfacts
  have hA := interval_All false false fr to zo s2.2 zo fn1
  have hW := interval_Within false false false fr to c
  have hR1 := ref_Contains false false c fr
  have hR2 := ref_Contains false false to c
  have hWk := fun d => interval_Within false false false fr to d
  generalize allB fr to = all at *
  have hlen : all.length ≤ 100000 := hfew.1
  (refine spec_of_runs Tryz.func5 rfl ?_; simp only [Tryz.f5]; refine ys ?_)
  repeat' (first | refine yw ?_ | ((with_reducible refine Runs.is ?_); first | refine Runs.region (id := 0) ?_ | refine Runs.region (id := 1) ?_ | refine Runs.region (id := 2) ?_ | refine Runs.region (id := 3) ?_ | refine Runs.region (id := 4) ?_ | refine Runs.region (id := 5) ?_ | ((with_reducible refine Runs.isC ?_); refine Runs.cond rfl (zc ?_) (zc ?_) <;> intro hc <;> (try (first | contradiction | (exfalso; omega; done) | (have : hc = trivial := rfl; clear this; clear hc))))) | ((with_reducible refine r_is ?_); first | refine yr ?_ | (refine r_fn rfl (hP) HbF.h zL1 zD ?_; refine r_nn zN zH ?_) | (refine r_fn rfl (hP1) HbF.h zL2 zD ?_; refine r_nn zN zH ?_) | (refine r_fn rfl (hP2) HbF.h zL2 zD ?_; refine r_nn zN zH ?_) | (refine r_fn rfl (hP3) HbF.h zL2 zD ?_; refine r_nn zN zH ?_) | (refine r_fn rfl (hA) HbF.h zL2 zD ?_; refine r_nn zN zH ?_)) | fail)
  refine Runs.loopI (fun k : Nat => all.length - k) (fun k => k ≤ all.length)
    (fun k => ⟨[.any, .any, .any, .any, .any, .any, .any, .any, .any, .any, .sl false (fr.map prV), .sl false (to.map prV), .sl false (c.map prV), .sl false (all.map cfV), .i ((((all.take k).filter fun d => decide (d = c)).length : Nat) : Int), .i (k : Nat), .any, .any, .any, .any, .any, .any, .any, .any, .any, .any, .any, .any, .any, .any, .any, .any, .any, .any, .any, .any, .any, .any, .any, .any, .any, .any, .any, .any, .any, .any, .any, .any, .any, .any, .any, .any, .any, .any, .any, .any, .any, .any, .any, .any, .any, .any, .any, .any, .any, .any, .any, .any, .any, .any, .any, .any, .any, .any, .any, .any, .any, .any, .any, .any, .any, .any, .any, .any, .any, .any, .any, .any, .any], []⟩) 0 zo ?_ ?_
  · (refine St.Le.clean zR zU zV)
  rintro k hk ih
  have htk := fun (h : k < all.length) => take_getD (xs := all) h
  have hcl : ((all.take k).filter fun d => decide (d = c)).length ≤ k := by
    refine Nat.le_trans (List.length_filter_le _ _) ?_
    rw [List.length_take]; omega
  have hend : all.length ≤ k → ((all.take k).filter fun d => decide (d = c)).length = (if withinB fr to c = true then 1 else 0) := fun h => by rw [List.take_of_length_le h]; exact hcn
  have hst : k < all.length → ((all.take (k + 1)).filter fun d => decide (d = c)).length = ((all.take k).filter fun d => decide (d = c)).length + (if all.getD k default = c then 1 else 0) := fun h => by
    rw [htk h, List.filter_append, List.length_append]
    congr 1
    by_cases e : all.getD k default = c <;> simp only [List.filter_cons, List.filter_nil, e, decide_true, decide_false, if_true, if_false, Bool.false_eq_true, List.length_cons, List.length_nil]
  generalize ((all.take k).filter fun d => decide (d = c)).length = n at hcl hend hst ⊢
  by_cases hlt : k < all.length
  · have hst2 := hst hlt
    obtain ⟨m1, m2, m3⟩ := hmem (all.getD k default) (getD_in hlt)
    have hE := ref_EqualConfig false false (all.getD k default) c
    have hW2 := hWk (all.getD k default)
    rw [m1] at hW2
    have hV := val_Conf false (all.getD k default) m2 zo
    clear hW hR1 hR2 hWk hmem hA hP hP1 hP2 hP3
    repeat' (first | refine yw ?_ | ((with_reducible refine Runs.is ?_); first | refine Runs.region (id := 6) ?_ | refine Runs.region (id := 8) ?_ | refine Runs.region (id := 9) ?_ | refine Runs.region (id := 7) ?_ | ((with_reducible refine Runs.isC ?_); refine Runs.cond rfl (zc ?_) (zc ?_) <;> intro hc <;> (try (first | contradiction | (exfalso; omega; done) | (have : hc = trivial := rfl; clear this; clear hc))))) | ((with_reducible refine r_is ?_); first | refine yr ?_ | (refine r_fn rfl (hE) HbF.h zL2 zD ?_; refine r_nn zN zH ?_)) | fail)
    all_goals (repeat' (first | refine yw ?_ | ((with_reducible refine Runs.is ?_); first | refine Runs.region (id := 10) ?_ | ((with_reducible refine Runs.isC ?_); refine Runs.cond rfl (zc ?_) (zc ?_) <;> intro hc <;> (try (first | contradiction | (exfalso; omega; done) | (have : hc = trivial := rfl; clear this; clear hc))))) | ((with_reducible refine r_is ?_); first | refine yr ?_ | (refine r_fn rfl (hW2) HbF.h zL3 zD ?_; refine r_nn zN zH ?_) | (refine r_fn rfl (hV) HbF.h zL1 zD ?_; refine r_nn zN zH ?_) | ((with_reducible refine r_gd ?_); (first | refine r_guardPf rfl rfl ?_ ?_ | refine r_guardNf rfl rfl ?_ ?_ | refine r_guard rfl rfl ?_ ?_) <;> intro hG <;> (try (exfalso; omega; done)) <;> refine r_nn zN zH ?_)) | fail))
    all_goals (repeat' (first | refine yw ?_ | ((with_reducible refine Runs.is ?_); first | refine Runs.region (id := 7) ?_ | ((with_reducible refine Runs.isC ?_); refine Runs.cond rfl (zc ?_) (zc ?_) <;> intro hc <;> (try (first | contradiction | (exfalso; omega; done) | (have : hc = trivial := rfl; clear this; clear hc))))) | ((with_reducible refine r_is ?_); first | refine yr ?_) | fail))
    all_goals (refine ih (k + 1) _ zo zo ?_)
    · rw [hst2, if_pos (by assumption)]
      (refine St.Le.clean zR zU zV)
    · rw [hst2, if_neg (by assumption)]
      (refine St.Le.clean zR zU zV)
  · have hn := hend zo
    clear hend hst htk ih hcn hmem hWk hA hP hP1 hP2 hP3
    generalize withinB fr to c = w at hn hwr hW
    generalize containsR c fr = r1 at hwr hR1
    generalize containsR to c = r2 at hwr hR2
    subst hwr
    repeat' (first | refine yw ?_ | ((with_reducible refine Runs.is ?_); first | refine Runs.region (id := 6) ?_ | ((with_reducible refine Runs.isC ?_); refine Runs.cond rfl (zc ?_) (zc ?_) <;> intro hc <;> (try (first | contradiction | (exfalso; omega; done) | (have : hc = trivial := rfl; clear this; clear hc))))) | ((with_reducible refine r_is ?_); first | refine yr ?_) | fail)
    cases r1 <;> cases r2 <;> simp only [Bool.and_true, Bool.and_false, Bool.false_eq_true, if_true, if_false, Bool.and_self] at hn hW <;> subst hn
    all_goals (repeat' (first | refine yw ?_ | ((with_reducible refine Runs.is ?_); first | refine Runs.region (id := 12) ?_ | ((with_reducible refine Runs.isC ?_); refine Runs.cond rfl (zc ?_) (zc ?_) <;> intro hc <;> (try (first | contradiction | (exfalso; omega; done) | (have : hc = trivial := rfl; clear this; clear hc))))) | ((with_reducible refine r_is ?_); first | refine yr ?_ | (refine r_fn rfl (hW) HbF.h zL3 zD ?_; refine r_nn zN zH ?_) | (refine r_fn rfl (hR1) HbF.h zL2 zD ?_; refine r_nn zN zH ?_) | (refine r_fn rfl (hR2) HbF.h zL2 zD ?_; refine r_nn zN zH ?_) | (refine r_fn rfl (law_awake) HbF.h zL0 zD ?_; refine r_nn zN zH ?_) | ((with_reducible refine r_gd ?_); (first | refine r_guardPt rfl rfl ?_ ?_ | refine r_guardNt rfl rfl ?_ ?_ | refine r_guard rfl rfl ?_ ?_) <;> intro hG <;> (try (exfalso; omega; done)) <;> refine r_nn zN zH ?_)) | fail))
    all_goals ((refine Runs.ret1 Tryz.func5 rfl zM zD ?_; try exact zX))
end Go.Proofs
