/- The laws' Part. -/
import Derived.Test.YtmhnmookgbmmbaaGreatW7
set_option linter.unusedVariables false
set_option linter.unusedSimpArgs false
set_option maxRecDepth 8000
set_option maxHeartbeats 4000000
set_option pp.deepTerms false
set_option pp.deepTerms.threshold 6
namespace Go.Proofs
open Go.AM
attribute [local irreducible] AM.evalR AM.evalD AM.Runs AM.valK AM.dK AM.opK AM.stepR AM.CallS AM.St.Le

theorem digit4 (n i : Int) : 0 ≤ digitI n 4 i ∧ digitI n 4 i < 4 := by unfold digitI; omega
/-- The vector of 'Part'. -/
def partV (n : Int) (k : Nat) : Vector := (List.range k).filterMap fun i : Nat => if digitI n 4 i > 0 then some ⟨201 + i, digitI n 4 i⟩ else none
def partI (c : Config) (n : Int) : Config := restrictR c (partV n 3)
theorem partV_succ (n : Int) (k : Nat) : partV n (k + 1) = partV n k ++ if digitI n 4 k > 0 then [⟨201 + k, digitI n 4 k⟩] else [] := by
  unfold partV; rw [List.range_succ, List.filterMap_append]; congr 1; simp [List.filterMap_cons]; split <;> simp_all
theorem partV3 (n : Int) : partV n 3 = (if 0 < digitI n 4 0 then [⟨201 + 0, digitI n 4 0⟩] else []) ++ (if 0 < digitI n 4 1 then [⟨201 + (0 + 1), digitI n 4 1⟩] else []) ++ (if 0 < digitI n 4 2 then [⟨201 + (0 + 1 + 1), digitI n 4 2⟩] else []) := by
  rw [partV_succ, partV_succ, partV_succ]; rfl
theorem kit_Part (f : Bool) (c : Config) (n : Int) (hs1 : c.length ≤ 1000000000) : AM.Fn Tryz.prog 23 [.sl f (c.map prV), .i n] (.sl false ((partI c n).map prV)) := by
  have d0 := digit4 n 0
  have d1 := digit4 n 1
  have d2 := digit4 n 2
  (refine spec_of_runs Tryz.func23 rfl ?_; simp only [Tryz.f23]; refine ys ?_)
  repeat' (first | refine yw ?_ | ((with_reducible refine Runs.is ?_); first | refine Runs.region (id := 0) ?_ | refine Runs.region (id := 1) ?_ | refine Runs.region (id := 2) ?_ | ((with_reducible refine Runs.isC ?_); refine Runs.cond rfl (zc ?_) (zc ?_) <;> intro hc <;> (try (first | contradiction | (exfalso; omega; done) | (have : hc = trivial := rfl; clear this; clear hc))))) | ((with_reducible refine r_is ?_); first | refine yr ?_) | fail)
  refine Runs.loop ?_
  repeat' (first | refine yw ?_ | ((with_reducible refine Runs.is ?_); first | refine Runs.region (id := 3) ?_ | refine Runs.region (id := 5) ?_ | refine Runs.region (id := 6) ?_ | refine Runs.region (id := 4) ?_ | ((with_reducible refine Runs.isC ?_); refine Runs.cond rfl (zc ?_) (zc ?_) <;> intro hc <;> (try (first | contradiction | (exfalso; omega; done) | (have : hc = trivial := rfl; clear this; clear hc))))) | ((with_reducible refine r_is ?_); first | refine yr ?_ | (refine r_fn rfl (kit_Digit n 4 0 zd zd) HbF.h zL3 zD ?_; refine r_nn zN zH ?_) | (refine r_fn rfl (kit_Digit n 4 1 zd zd) HbF.h zL3 zD ?_; refine r_nn zN zH ?_) | (refine r_fn rfl (kit_Digit n 4 2 zd zd) HbF.h zL3 zD ?_; refine r_nn zN zH ?_) | (refine r_append_full SlF.h SlF.s ZoF.h zd rfl rfl zC zJ zS rfl (fun hn => ?_) (fun hn => ?_) <;> refine r_nn zN zH ?_)) | fail)
  all_goals (try omega)
  all_goals (refine Runs.inLoop ?_)
  all_goals
    repeat' (first | refine yw ?_ | ((with_reducible refine Runs.is ?_); first | refine Runs.region (id := 3) ?_ | refine Runs.region (id := 5) ?_ | refine Runs.region (id := 6) ?_ | refine Runs.region (id := 4) ?_ | ((with_reducible refine Runs.isC ?_); refine Runs.cond rfl (zc ?_) (zc ?_) <;> intro hc <;> (try (first | contradiction | (exfalso; omega; done) | (have : hc = trivial := rfl; clear this; clear hc))))) | ((with_reducible refine r_is ?_); first | refine yr ?_ | (refine r_fn rfl (kit_Digit n 4 0 zd zd) HbF.h zL3 zD ?_; refine r_nn zN zH ?_) | (refine r_fn rfl (kit_Digit n 4 1 zd zd) HbF.h zL3 zD ?_; refine r_nn zN zH ?_) | (refine r_fn rfl (kit_Digit n 4 2 zd zd) HbF.h zL3 zD ?_; refine r_nn zN zH ?_) | (refine r_append_full SlF.h SlF.s ZoF.h zd rfl rfl zC zJ zS rfl (fun hn => ?_) (fun hn => ?_) <;> refine r_nn zN zH ?_)) | fail)
  all_goals (try omega)
  all_goals (refine Runs.inLoop ?_)
  all_goals
    repeat' (first | refine yw ?_ | ((with_reducible refine Runs.is ?_); first | refine Runs.region (id := 3) ?_ | refine Runs.region (id := 5) ?_ | refine Runs.region (id := 6) ?_ | refine Runs.region (id := 4) ?_ | ((with_reducible refine Runs.isC ?_); refine Runs.cond rfl (zc ?_) (zc ?_) <;> intro hc <;> (try (first | contradiction | (exfalso; omega; done) | (have : hc = trivial := rfl; clear this; clear hc))))) | ((with_reducible refine r_is ?_); first | refine yr ?_ | (refine r_fn rfl (kit_Digit n 4 0 zd zd) HbF.h zL3 zD ?_; refine r_nn zN zH ?_) | (refine r_fn rfl (kit_Digit n 4 1 zd zd) HbF.h zL3 zD ?_; refine r_nn zN zH ?_) | (refine r_fn rfl (kit_Digit n 4 2 zd zd) HbF.h zL3 zD ?_; refine r_nn zN zH ?_) | (refine r_append_full SlF.h SlF.s ZoF.h zd rfl rfl zC zJ zS rfl (fun hn => ?_) (fun hn => ?_) <;> refine r_nn zN zH ?_)) | fail)
  all_goals (try omega)
  all_goals (refine Runs.inLoop ?_)
  all_goals
    repeat' (first | refine yw ?_ | ((with_reducible refine Runs.is ?_); first | refine Runs.region (id := 3) ?_ | refine Runs.region (id := 5) ?_ | refine Runs.region (id := 6) ?_ | refine Runs.region (id := 4) ?_ | ((with_reducible refine Runs.isC ?_); refine Runs.cond rfl (zc ?_) (zc ?_) <;> intro hc <;> (try (first | contradiction | (exfalso; omega; done) | (have : hc = trivial := rfl; clear this; clear hc))))) | ((with_reducible refine r_is ?_); first | refine yr ?_ | (refine r_fn rfl (kit_Digit n 4 0 zd zd) HbF.h zL3 zD ?_; refine r_nn zN zH ?_) | (refine r_fn rfl (kit_Digit n 4 1 zd zd) HbF.h zL3 zD ?_; refine r_nn zN zH ?_) | (refine r_fn rfl (kit_Digit n 4 2 zd zd) HbF.h zL3 zD ?_; refine r_nn zN zH ?_) | (refine r_append_full SlF.h SlF.s ZoF.h zd rfl rfl zC zJ zS rfl (fun hn => ?_) (fun hn => ?_) <;> refine r_nn zN zH ?_)) | fail)
  all_goals (try omega)
  all_goals (have e := partV3 n)
  all_goals (simp (disch := omega) only [if_pos, if_neg, List.nil_append, List.append_nil, List.cons_append] at e)
  all_goals (try (refine Runs.weaken (St.Le.freeze_lst 24 rfl) ?_; simp only [V.frzL, V.frz, frzH, if_true, ↓reduceIte, Nat.reduceEqDiff]))
  all_goals (refine Runs.weaken (St.Le.clean (s' := ⟨[.sl f (c.map prV), .any, .any, .any, .any, .sl false ((partV n 3).map enV), .any, .any, .any, .any, .any, .any, .any, .any, .any, .any, .any, .any, .any, .any, .any, .any, .any, .any, .any, .any, .any, .any], []⟩) (by rw [e]; repeat' (first | exact V.LeL.refl _ | exact V.LeL.nil | refine V.LeL.cons ?_ ?_ | exact V.Le.refl _ | exact V.Le.full _ | exact V.Le.nil _ | exact V.Le.any _ | refine V.Le.aggL ?_ | assumption)) (by simp [V.usesL, V.uses]) trivial) ?_)
  all_goals
    repeat' (first | refine yw ?_ | ((with_reducible refine Runs.is ?_); first | refine Runs.region (id := 7) ?_ | ((with_reducible refine Runs.isC ?_); refine Runs.cond rfl (zc ?_) (zc ?_) <;> intro hc <;> (try (first | contradiction | (exfalso; omega; done) | (have : hc = trivial := rfl; clear this; clear hc))))) | ((with_reducible refine r_is ?_); first | refine yr ?_ | (refine r_fn rfl (Fn.of_own (ref_Restrict f false c (partV n 3) hs1)) HbF.h zL2 zD ?_; refine r_nn zN zH ?_)) | fail)
  all_goals ((refine Runs.ret1 Tryz.func23 rfl zM zD ?_; try exact zX))
end Go.Proofs
