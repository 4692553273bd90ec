/- Layer 9: awake. -/
import Derived.Test.YtmhnmookgbmmbaaGreatW49
set_option linter.unusedVariables false
set_option linter.unusedSimpArgs false
set_option maxRecDepth 8000
set_option maxHeartbeats 4000000
set_option pp.deepTerms false
set_option pp.deepTerms.threshold 6
namespace Go.Proofs
open Go.AM
attribute [local irreducible] AM.evalR AM.evalD AM.Runs AM.valK AM.dK AM.opK AM.stepR AM.CallS AM.St.Le
theorem aw_of (a : Int) : ofS ⟨a, 1, [⟨1, 9, 1, 0, ⟨0, 0, 0⟩⟩]⟩ = ⟨[9], [], [⟨9, 1, 0, a, 1⟩], ⟨0, 0, 0⟩, 0, 0, 0⟩ := by
  have h : ofAcc ⟨a, 1, [⟨1, 9, 1, 0, ⟨0, 0, 0⟩⟩]⟩ = ⟨[9], [], [(9, ⟨9, 1, 0, a, 1⟩)], ⟨0, 0, 0⟩, 0, 0, 0⟩ := rfl
  unfold ofS
  rw [h]
  dsimp only
  rw [sortI_perm (zs := [9]) (ys := [9]) zd (List.Perm.refl _), sortI_perm (zs := []) (ys := []) zd (List.Perm.refl _)]
  rfl
theorem aw_allE : allB [] awC = [[], [⟨202, 1, [⟨1, 9, 1, 0, ⟨0, 0, 0⟩⟩]⟩], [⟨201, 1, [⟨1, 9, 1, 0, ⟨0, 0, 0⟩⟩]⟩], [⟨201, 1, [⟨1, 9, 1, 0, ⟨0, 0, 0⟩⟩]⟩, ⟨202, 1, [⟨1, 9, 1, 0, ⟨0, 0, 0⟩⟩]⟩]] := by decide +kernel
theorem aw_srv : ((allB [] awC).map (viewOf awV)).map srv = [[1], [1, 9], [1, 9], [1, 9]] := by
  rw [aw_allE]
  simp only [List.map_cons, List.map_nil, viewOf, sumS, List.foldl_cons, List.foldl_nil, sumStep, aw_of]
  decide +kernel
theorem aw_span : spanI ((allB [] awC).map (viewOf awV)) = [1, 9] := by unfold spanI; rw [aw_srv]; exact aw_spanS
theorem aw_mem : ∀ v ∈ (allB [] awC).map (viewOf awV), v.members.length ≤ 1000000 := by
  intro v hv
  have h1 : srv v ∈ ((allB [] awC).map (viewOf awV)).map srv := List.mem_map.2 ⟨v, hv, rfl⟩
  rw [aw_srv] at h1
  have h2 : (srv v).length ≤ 2 := by revert h1; generalize srv v = l; revert l; decide
  unfold srv at h2
  rw [List.length_map] at h2; omega
theorem aw_get (x : Int) : getV (vectorV []) x = 0 := by rw [show vectorV [] = [] from rfl]; simp [getV]
theorem law_awake : AM.Fn Tryz.prog 8 [] (.b true) := by
  (refine spec_of_runs Tryz.func8 rfl ?_; simp only [Tryz.f8]; refine ys ?_)
  repeat' (first | refine yw ?_ | ((with_reducible refine Runs.is ?_); first | refine Runs.region (id := 0) ?_ | refine Runs.region (id := 1) ?_ | ((with_reducible refine Runs.isC ?_); refine Runs.cond rfl (zc ?_) (zc ?_) <;> intro hc <;> (try (first | contradiction | (exfalso; omega; done) | (have : hc = trivial := rfl; clear this; clear hc))))) | ((with_reducible refine r_is ?_); first | refine yrb ?_ | (refine r_buildOwn (D := 6) SlF.h ZoF.h zd zB zd rfl ?_; refine r_nn zN zH ?_) | (refine r_build SlF.h ZoF.h zd zB ?_; refine r_n zN ?_)) | fail)
  (refine Runs.weaken (St.Le.freeze_lst 6 rfl) ?_; refine yf ?_)
  repeat' (first | refine yw ?_ | ((with_reducible refine Runs.is ?_); first | refine Runs.region (id := 2) ?_ | refine Runs.region (id := 3) ?_ | ((with_reducible refine Runs.isC ?_); refine Runs.cond rfl (zc ?_) (zc ?_) <;> intro hc <;> (try (first | contradiction | (exfalso; omega; done) | (have : hc = trivial := rfl; clear this; clear hc))))) | ((with_reducible refine r_is ?_); first | refine yrb ?_ | (refine r_buildOwn (D := 13) SlF.h ZoF.h zd zB zd rfl ?_; refine r_nn zN zH ?_) | (refine r_build SlF.h ZoF.h zd zB ?_; refine r_n zN ?_)) | fail)
  (refine Runs.weaken (St.Le.freeze_lst 13 rfl) ?_; refine yf ?_)
  refine Runs.weaken (St.Le.clean (s' := ⟨[.any, .any, .sl false (awC.map prV), .ptr 3 0 0, .any, .any, .any, .any, .any, .any, .any, .any, .any, .any, .any, .any, .any, .any, .any, .any, .any, .any, .any, .any, .any, .any, .any, .any, .any, .any, .any, .any, .any, .any, .any, .any, .any, .any, .any, .any, .any, .any, .any, .any, .any, .any, .any, .any, .any, .any, .any, .any, .any], [(3, .var 35 (viV awV))]⟩) (by repeat' (first | exact V.LeL.nil | refine V.LeL.cons ?_ ?_ | exact V.Le.any _ | exact V.Le.full _ | exact V.Le.refl _)) (by simp [V.usesL, V.uses, AM.look_cons, V.usesL_data, da_prV]) (by simp [AM.sub, AM.look_cons, V.uses, V.uses_data, da_viV]; try rfl)) ?_
  have hA := interval_All false false [] awC zd aw_small zd aw_fine
  have hA1 := interval_All false false awC awC zd aw_small zd aw_fine
  have hV := interval_Views false false awV [] awC hA (by rw [aw_all]; decide) zd aw_plain
  have hV1 := interval_Views false false awV awC awC hA1 (by rw [aw_all1]; decide) zd (by rw [aw_all1]; intro c hc; rw [List.mem_singleton.1 hc]; exact aw_plain awC (by rw [aw_allE]; decide))
  have hS := interval_Span false false awV [] awC _ hV (by rw [List.length_map, aw_all]; decide) aw_mem (by rw [aw_srv]; decide)
  rw [aw_span] at hS
  have hW := interval_Within false false false [] awC (awC.take 1)
  rw [aw_within, List.map_take] at hW
  have hC := interval_Count false false [] awC zd zd (by decide +kernel) (fun _ => by decide +kernel) (by decide +kernel) (fun x => by rw [aw_get]; decide)
  rw [aw_count] at hC
  have h4 := aw_all
  have h1 : ((allB awC awC).map (viewOf awV)).length = 1 := by rw [aw_all1]; rfl
  have hl2 : awC.length = 2 := rfl
  have hsl : ([1, 9] : List Int).length = 2 := rfl
  have hs1 : ([1, 9] : List Int).getD 1 default = 9 := rfl
  have hda : V.dataL (List.take 1 (awC.map prV)) = true := by rw [← List.map_take]; exact dl_prV _
  clear hA1 hV
  generalize ([1, 9] : List Int) = sp at hS hsl hs1
  generalize (allB awC awC).map (viewOf awV) = vs at hV1 h1
  generalize allB [] awC = l at hA h4
  generalize awC = c at *
  generalize awV = v at *
  repeat' (first | refine yw ?_ | ((with_reducible refine Runs.is ?_); first | refine Runs.region (id := 4) ?_ | refine Runs.region (id := 5) ?_ | ((with_reducible refine Runs.isC ?_); refine Runs.cond rfl (zc ?_) (zc ?_) <;> intro hc <;> (try (first | contradiction | (exfalso; omega; done) | (have : hc = trivial := rfl; clear this; clear hc))))) | ((with_reducible refine r_is ?_); first | refine yr ?_ | (refine r_fn rfl (hS) HbF.h zL3 zD ?_; refine r_nn zN zH ?_) | (refine r_fn rfl (hC) HbF.h zL2 zD ?_; refine r_nn zN zH ?_) | (refine r_fn rfl (hA) HbF.h zL2 zD ?_; refine r_nn zN zH ?_) | (refine r_fn rfl (hW) HbF.h zL3 zD ?_; refine r_nn zN zH ?_) | (refine r_fn rfl (hV1) HbF.h zL3 zD ?_; refine r_nn zN zH ?_) | ((with_reducible refine r_gd ?_); (first | refine r_guardPt rfl rfl ?_ ?_ | refine r_guardNt rfl rfl ?_ ?_ | refine r_guard rfl rfl ?_ ?_) <;> intro hG <;> (try (exfalso; omega; done)) <;> refine r_nn zN zH ?_)) | fail)
  all_goals ((refine Runs.ret1 Tryz.func8 rfl zM zD ?_; try exact zX))
  all_goals (exact V.Le.of_eq (by simp [h1]))
end Go.Proofs
