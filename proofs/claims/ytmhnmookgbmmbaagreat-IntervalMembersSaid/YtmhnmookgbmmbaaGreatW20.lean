/- The kit: Pool. -/
import Derived.Test.YtmhnmookgbmmbaaGreatW19
set_option linter.unusedVariables false
set_option linter.unusedSimpArgs false
set_option maxRecDepth 8000
set_option maxHeartbeats 4000000
set_option pp.deepTerms false
set_option pp.deepTerms.threshold 6
namespace Go.Proofs
open Go.AM
attribute [local irreducible] AM.evalR AM.evalD AM.Runs AM.valK AM.dK AM.opK AM.stepR AM.CallS AM.St.Le
theorem kit_Pool (f : Bool) (l : List Int) (hl : l.length ≤ 4611686018427387904) : AM.Fn Tryz.prog 22 [.sl f (l.map .i)] (.sl false ((poolI l).map prV)) := by
  (refine spec_of_runs Tryz.func22 rfl ?_; simp only [Tryz.f22]; refine ys ?_)
  repeat' (first | refine yw ?_ | ((with_reducible refine Runs.is ?_); first | refine Runs.region (id := 0) ?_ | refine Runs.region (id := 1) ?_ | refine Runs.region (id := 2) ?_ | refine Runs.region (id := 3) ?_ | ((with_reducible refine Runs.isC ?_); refine Runs.cond rfl (zc ?_) (zc ?_) <;> intro hc <;> (try (first | contradiction | (exfalso; omega; done) | (have : hc = trivial := rfl; clear this; clear hc))))) | ((with_reducible refine r_is ?_); first | refine yr ?_) | fail)
  (refine Runs.weaken (St.Le.nil 3 63 3 3 zd rfl rfl zE) ?_)
  refine Runs.loopI (fun a : Nat => 3 - a) (fun a => a ≤ 3)
    (fun a => ⟨[.sl f (l.map .i), .any, .any, .own 3, .i (poolUpto l a).2, .i (a : Nat), .any, .any, .any, .any, .any, .any, .any, .any, .any, .any, .any, .any, .any, .any, .any, .any, .any, .any, .any, .any, .any, .any, .any, .any, .any, .any, .any, .any, .any, .any, .any, .any, .any, .any, .any, .any, .any, .any, .any, .any, .any, .any, .any, .any, .any, .any, .any, .any, .any, .any, .any, .any, .any, .any, .any, .any, .any, .any, .any, .any, .any, .any, .any, .any, .any, .any, .any, .any], [(3, .lst 63 3 ((poolUpto l a).1.map prV))]⟩) 0 (by simp) ?_ ?_
  · (refine St.Le.clean zR zU zV)
  rintro a h0 ih
  have hb := poolUpto_bd l a
  by_cases ha : a < 3
  · repeat' (first | refine yw ?_ | ((with_reducible refine Runs.is ?_); first | refine Runs.region (id := 4) ?_ | refine Runs.region (id := 6) ?_ | refine Runs.region (id := 5) ?_ | ((with_reducible refine Runs.isC ?_); refine Runs.cond rfl (zc ?_) (zc ?_) <;> intro hc <;> (try (first | contradiction | (exfalso; omega; done) | (have : hc = trivial := rfl; clear this; clear hc))))) | ((with_reducible refine r_is ?_); first | refine yr ?_) | fail)
    refine Runs.loopI (fun i : Nat => cntI l a - i) (fun i => i ≤ cntI l a)
      (fun i => ⟨[.sl f (l.map .i), .any, .any, .own 3, .i ((poolUpto l a).2 + 2 * i), .i (a : Nat), .i (i : Nat), .any, .any, .any, .any, .any, .any, .any, .any, .any, .any, .any, .any, .any, .any, .any, .any, .any, .any, .any, .any, .any, .any, .any, .any, .any, .any, .any, .any, .any, .any, .any, .any, .any, .any, .any, .any, .any, .any, .any, .any, .any, .any, .any, .any, .any, .any, .any, .any, .any, .any, .any, .any, .any, .any, .any, .any, .any, .any, .any, .any, .any, .any, .any, .any, .any, .any, .any], [(3, .lst 63 3 (((poolUpto l a).1 ++ groupI l a (poolUpto l a).2 i).map prV))]⟩) 0 (by simp) ?_ ?_
    · rw [show groupI l a (poolUpto l a).2 0 = [] from rfl, List.append_nil, show (poolUpto l a).2 + 2 * ((0:Nat):Int) = (poolUpto l a).2 by omega]
      (refine St.Le.clean zR zU zV)
    rintro i h1 ihi
    have hc0 := cntI_bd l a
    have hgl : ((poolUpto l a).1 ++ groupI l a (poolUpto l a).2 i).length ≤ 20 := by
      rw [List.length_append, groupI, List.length_map, List.length_range]; omega
    have hst : (poolUpto l a).1 ++ groupI l a (poolUpto l a).2 (i + 1) = ((poolUpto l a).1 ++ groupI l a (poolUpto l a).2 i) ++ [propI l a i ((poolUpto l a).2 + 2 * i)] := by
      rw [groupI_succ, List.append_assoc]
    have hE1 : digitI (atI l ((poolUpto l a).2 + 2 * i)) 2 12 = 1 → (changeI (atI l ((poolUpto l a).2 + 2 * i + 1))).kind = (changeI (atI l ((poolUpto l a).2 + 2 * i))).kind → ¬ (changeI (atI l ((poolUpto l a).2 + 2 * i + 1))).server = (changeI (atI l ((poolUpto l a).2 + 2 * i))).server → extra l ((poolUpto l a).2 + 2 * i) = true := fun h1 h2 h3 => by unfold extra; simp [h1, h2, h3]
    have hE2 : digitI (atI l ((poolUpto l a).2 + 2 * i)) 2 12 = 1 → (changeI (atI l ((poolUpto l a).2 + 2 * i + 1))).kind = (changeI (atI l ((poolUpto l a).2 + 2 * i))).kind → (changeI (atI l ((poolUpto l a).2 + 2 * i + 1))).server = (changeI (atI l ((poolUpto l a).2 + 2 * i))).server → extra l ((poolUpto l a).2 + 2 * i) = false := fun h1 h2 h3 => by unfold extra; simp [h1, h2, h3]
    have hE3 : digitI (atI l ((poolUpto l a).2 + 2 * i)) 2 12 = 1 → ¬ (changeI (atI l ((poolUpto l a).2 + 2 * i + 1))).kind = (changeI (atI l ((poolUpto l a).2 + 2 * i))).kind → extra l ((poolUpto l a).2 + 2 * i) = true := fun h1 h2 => by unfold extra; simp [h1, h2]
    have hE4 : ¬ digitI (atI l ((poolUpto l a).2 + 2 * i)) 2 12 = 1 → extra l ((poolUpto l a).2 + 2 * i) = false := fun h1 => by unfold extra; simp [h1]
    have hat : (poolUpto l a).2 + 2 * ((i + 1 : Nat) : Int) = (poolUpto l a).2 + 2 * i + 2 := by omega
    generalize hacc : (poolUpto l a).1 ++ groupI l a (poolUpto l a).2 i = acc at hgl hst ⊢
    repeat' (first | refine yw ?_ | ((with_reducible refine Runs.is ?_); first | refine Runs.region (id := 7) ?_ | refine Runs.region (id := 9) ?_ | refine Runs.region (id := 10) ?_ | refine Runs.region (id := 8) ?_ | ((with_reducible refine Runs.isC ?_); refine Runs.cond rfl (zc ?_) (zc ?_) <;> intro hc <;> (try (first | contradiction | (exfalso; omega; done) | (have : hc = trivial := rfl; clear this; clear hc))))) | ((with_reducible refine r_is ?_); first | refine yrb ?_ | (refine r_buildOwn (D := 29) SlF.h ZoF.h zd zB zd rfl ?_; refine r_nn zN zH ?_) | (refine r_build SlF.h ZoF.h zd zB ?_; refine r_n zN ?_) | (refine r_fn rfl (kit_At f l _ hl) HbF.h zL2 zD ?_; refine r_nn zN zH ?_) | (refine r_fn rfl (kit_Digit _ 4 0 zd zd) HbF.h zL3 zD ?_; refine r_nn zN zH ?_) | (refine r_fn rfl (kit_Change _) HbF.h zL1 zD ?_; refine r_nn zN zH ?_)) | fail)
    · repeat' (first | refine yw ?_ | ((with_reducible refine Runs.is ?_); first | refine Runs.drawn (id := 11) mixed zK ?_ | refine Runs.region (id := 12) ?_ | ((with_reducible refine Runs.isC ?_); refine Runs.cond rfl (zc ?_) (zc ?_) <;> intro hc <;> (try (first | contradiction | (exfalso; omega; done) | (have : hc = trivial := rfl; clear this; clear hc))))) | ((with_reducible refine r_is ?_); first | refine yr ?_ | (refine r_append_full SlF.h SlF.s ZoF.h zd rfl rfl zC zJ zS rfl (fun hn => ?_) (fun hn => ?_) <;> refine r_nn zN zH ?_)) | ((with_reducible refine d_is ?_); first | refine yd ?_ | (refine d_fn rfl (kit_At f l _ hl) HbF.h zL2 zD ?_; refine d_nn zN zH ?_) | (refine d_fn rfl (kit_Digit _ 2 12 zd zd) HbF.h zL3 zD ?_; refine d_nn zN zH ?_) | ((with_reducible refine d_gd ?_); (first | refine d_guardPf rfl rfl ?_ ?_ | refine d_guardNf rfl rfl ?_ ?_ | refine d_guardPt rfl rfl ?_ ?_ | refine d_guardNt rfl rfl ?_ ?_ | refine d_guard rfl rfl ?_ ?_) <;> intro hG <;> (try (exfalso; omega; done)) <;> refine d_nn zN zH ?_)) | fail)
      all_goals ((refine Runs.weaken (St.Le.freeze_lst 29 rfl) ?_; refine yf ?_))
      all_goals
        repeat' (first | refine yw ?_ | ((with_reducible refine Runs.is ?_); first | refine Runs.region (id := 9) ?_ | refine Runs.region (id := 10) ?_ | refine Runs.drawn (id := 11) mixed zK ?_ | refine Runs.region (id := 12) ?_ | refine Runs.region (id := 13) ?_ | refine Runs.region (id := 14) ?_ | refine Runs.region (id := 8) ?_ | ((with_reducible refine Runs.isC ?_); refine Runs.cond rfl (zc ?_) (zc ?_) <;> intro hc <;> (try (first | contradiction | (exfalso; omega; done) | (have : hc = trivial := rfl; clear this; clear hc))))) | ((with_reducible refine r_is ?_); first | refine yr ?_ | (refine r_append_full SlF.h SlF.s ZoF.h zd rfl rfl zC zJ zS rfl (fun hn => ?_) (fun hn => ?_) <;> refine r_nn zN zH ?_)) | ((with_reducible refine d_is ?_); first | refine yd ?_ | ((with_reducible refine d_gd ?_); (first | refine d_guardPf rfl rfl ?_ ?_ | refine d_guardNf rfl rfl ?_ ?_ | refine d_guardPt rfl rfl ?_ ?_ | refine d_guardNt rfl rfl ?_ ?_ | refine d_guard rfl rfl ?_ ?_) <;> intro hG <;> (try (exfalso; omega; done)) <;> refine d_nn zN zH ?_)) | fail)
      all_goals (refine ihi (i + 1) _ zo zo ?_)
      all_goals (rw [hst])
      all_goals (rw [hat, propI])
      all_goals (first | rw [hE1 (by assumption) (by assumption) (by assumption), if_pos rfl] | rw [hE2 (by assumption) (by assumption) (by assumption), if_neg Bool.false_ne_true] | rw [hE3 (by assumption) (by assumption), if_pos rfl] | rw [hE4 (by assumption), if_neg Bool.false_ne_true])
      all_goals (clear hE1 hE2 hE3 hE4)
      all_goals ((refine St.Le.clean zR (by first | (simp [V.usesL, V.uses, AM.look_cons]; done) | (simp [V.usesL, V.uses, AM.look_cons, V.usesL_data, V.uses_data, da_i, da_chV, da_ruV, da_prV, da_enV, da_cfV, da_veV, da_inV, da_edV, da_grV, da_weV, da_mbV, da_suV, da_viV]; done)) ?_; (repeat' (first | exact True.intro | refine And.intro ?_ ?_)); all_goals (first | rfl | (simp [AM.look_cons, prV, chV]; done) | (simp [V.uses, V.usesL, AM.look_cons, V.usesL_data, V.uses_data, da_i, da_chV, da_ruV, da_prV, da_enV, da_cfV, da_veV, da_inV, da_edV, da_grV, da_weV, da_mbV, da_suV, da_viV]; done))))
    · have hi : i = cntI l a := by omega
      subst hi
      repeat' (first | refine yw ?_ | ((with_reducible refine Runs.is ?_); first | refine Runs.region (id := 6) ?_ | refine Runs.region (id := 5) ?_ | ((with_reducible refine Runs.isC ?_); refine Runs.cond rfl (zc ?_) (zc ?_) <;> intro hc <;> (try (first | contradiction | (exfalso; omega; done) | (have : hc = trivial := rfl; clear this; clear hc))))) | ((with_reducible refine r_is ?_); first | refine yr ?_) | fail)
      refine ih (a + 1) _ zo zo ?_
      rw [show poolUpto l (a + 1) = ((poolUpto l a).1 ++ groupI l a (poolUpto l a).2 (cntI l a), (poolUpto l a).2 + 2 * cntI l a) from rfl]
      dsimp only
      rw [hacc]
      (refine St.Le.clean zR zU zV)
  · have : a = 3 := by omega
    subst this
    repeat' (first | refine yw ?_ | ((with_reducible refine Runs.is ?_); first | refine Runs.region (id := 4) ?_ | ((with_reducible refine Runs.isC ?_); refine Runs.cond rfl (zc ?_) (zc ?_) <;> intro hc <;> (try (first | contradiction | (exfalso; omega; done) | (have : hc = trivial := rfl; clear this; clear hc))))) | ((with_reducible refine r_is ?_); first | refine yr ?_) | fail)
    repeat' (first | refine yw ?_ | ((with_reducible refine Runs.is ?_); first | refine Runs.region (id := 15) ?_ | ((with_reducible refine Runs.isC ?_); refine Runs.cond rfl (zc ?_) (zc ?_) <;> intro hc <;> (try (first | contradiction | (exfalso; omega; done) | (have : hc = trivial := rfl; clear this; clear hc))))) | ((with_reducible refine r_is ?_); first | refine yr ?_) | fail)
    refine Runs.ret_frz Tryz.func22 rfl rfl rfl ?_
    rfl
end Go.Proofs
