/- Vectors of configurations, and what lies between two. -/
import Derived.Test.YtmhnmookgbmmbaaGreatW8
set_option linter.unusedVariables false
set_option linter.unusedSimpArgs false
set_option maxRecDepth 8000
set_option maxHeartbeats 4000000
set_option pp.deepTerms false
set_option pp.deepTerms.threshold 6
namespace Go.Proofs
open Go.AM
attribute [local irreducible] AM.evalR AM.evalD AM.Runs AM.valK AM.dK AM.opK AM.stepR AM.CallS AM.St.Le

/-! config.Vector -/
def vecStepV (v : Vector) (p : Proposal) : Vector :=
  if 0 < v.length ∧ (v.getD (v.length - 1) default).author = p.admin then v.set (v.length - 1) ⟨(v.getD (v.length - 1) default).author, (v.getD (v.length - 1) default).count + 1⟩ else v ++ [⟨p.admin, 1⟩]
def vectorV (c : Config) : Vector := c.foldl vecStepV []
theorem vecFoldV (c : Config) (v : Vector) (b : Nat) (hb : b + c.length ≤ 100000000) (h : ∀ e ∈ v, 0 ≤ e.count ∧ e.count ≤ b) : (∀ e ∈ c.foldl vecStepV v, 0 ≤ e.count ∧ e.count ≤ b + c.length) ∧ (c.foldl vecStepV v).length ≤ v.length + c.length := by
  induction c generalizing v b with
  | nil => exact ⟨by simpa using h, by simp⟩
  | cons p c ih =>
    simp only [List.length_cons] at hb
    have := ih (vecStepV v p) (b + 1) zo (by
      intro e he
      unfold vecStepV at he
      split at he
      · rename_i hl
        rcases List.mem_or_eq_of_mem_set he with h1 | rfl
        · have := h e h1; omega
        · have hm : v.getD (v.length - 1) default ∈ v := by
            rw [List.getD_eq_getElem?_getD, List.getElem?_eq_getElem zo]; exact List.getElem_mem _
          have := h _ hm
          simp only []; omega
      · rcases List.mem_append.1 he with h1 | h1
        · have := h e h1; omega
        · have : e = ⟨p.admin, 1⟩ := by simpa using h1
          subst this; simp only []; omega)
    refine ⟨fun e he => by have := this.1 e he; simp only [List.length_cons]; omega, Nat.le_trans this.2 ?_⟩
    have : (vecStepV v p).length ≤ v.length + 1 := by unfold vecStepV; split <;> simp
    simp only [List.length_cons]; omega
theorem config_Vector (f : Bool) (c : Config) (hs1 : c.length ≤ 10000000) : AM.Fn Tryz.prog 37 [.sl f (c.map prV)] (.sl false ((vectorV c).map enV)) := by
  (refine spec_of_runs Tryz.func37 rfl ?_; simp only [Tryz.f37]; refine ys ?_)
  repeat' (first | refine yw ?_ | ((with_reducible refine Runs.is ?_); first | refine Runs.region (id := 0) ?_ | refine Runs.region (id := 1) ?_ | refine Runs.region (id := 2) ?_ | ((with_reducible refine Runs.isC ?_); refine Runs.cond rfl (zc ?_) (zc ?_) <;> intro hc <;> (try (first | contradiction | (exfalso; omega; done) | (have : hc = trivial := rfl; clear this; clear hc))))) | ((with_reducible refine r_is ?_); first | refine yr ?_) | fail)
  (refine Runs.weaken (St.Le.nil 3 73 2 3 zd rfl rfl zE) ?_)
  refine Runs.loopI (fun i : Nat => c.length - i) (fun i => i ≤ c.length)
    (fun i => ⟨[.any, .any, .any, .own 3, .any, .any, .any, .sl f (c.map prV), .i (c.length : Nat), .i (i : Nat), .any, .any, .any, .any, .any, .any, .any, .any, .any, .any, .any, .any, .any, .any, .any, .any, .any, .any, .any, .any, .any, .any, .any, .any, .any, .any, .any, .any, .any, .any, .any, .any, .any, .any, .any], [(3, .lst 73 2 ((vectorV (c.take i)).map enV))]⟩) 0 (by simp) ?_ ?_
  · (refine St.Le.clean zR zU zV)
  rintro i h0 ih
  have hv := vecFoldV (c.take i) [] 0 (by simp; omega) (by intro e he; cases he)
  rw [List.length_take, Nat.min_eq_left h0] at hv
  simp only [List.length_nil, Nat.zero_add] at hv
  have hst := fun (h : i < c.length) => foldl_take (g := vecStepV) (s := []) h
  unfold vectorV
  generalize hs : (c.take i).foldl vecStepV [] = v at hv hst ⊢
  have hgd : 0 < v.length → 0 ≤ (v.getD (v.length - 1) default).count ∧ (v.getD (v.length - 1) default).count ≤ 10000000 := fun h => by
    have := hv.1 (v.getD (v.length - 1) default) (by rw [List.getD_eq_getElem?_getD, List.getElem?_eq_getElem zo]; exact List.getElem_mem _)
    omega
  by_cases hl : 0 < v.length
  · have hc2 := hgd hl
    have hidx : ((v.length : Int) - 1).toNat = v.length - 1 := by omega
    have hgm : (v.map enV).getD (v.length - 1) .any = enV (v.getD (v.length - 1) default) := getD_map enV v _ .any zo
    by_cases ha : (v.getD (v.length - 1) default).author = (c.getD i default).admin
    · rw [← hidx] at ha hc2
      repeat' (first | refine yw ?_ | ((with_reducible refine Runs.is ?_); first | refine Runs.region (id := 3) ?_ | refine Runs.region (id := 4) ?_ | refine Runs.region (id := 5) ?_ | refine Runs.drawn (id := 6) mixed zK ?_ | refine Runs.region (id := 7) ?_ | refine Runs.region (id := 8) ?_ | refine Runs.region (id := 9) ?_ | refine Runs.region (id := 10) ?_ | ((with_reducible refine Runs.isC ?_); refine Runs.cond rfl (zc ?_) (zc ?_) <;> intro hc <;> (try (first | contradiction | (exfalso; omega; done) | (have : hc = trivial := rfl; clear this; clear hc))))) | ((with_reducible refine r_is ?_); first | refine yr ?_ | (refine r_append_full SlF.h SlF.s ZoF.h zd rfl rfl zC zJ zS rfl (fun hn => ?_) (fun hn => ?_) <;> refine r_nn zN zH ?_)) | ((with_reducible refine d_is ?_); first | refine yd ?_ | ((with_reducible refine d_gd ?_); (first | refine d_guardPt rfl rfl ?_ ?_ | refine d_guardNt rfl rfl ?_ ?_ | refine d_guard rfl rfl ?_ ?_) <;> intro hG <;> (try (exfalso; omega; done)) <;> refine d_nn zN zH ?_)) | fail)
      · refine ih (i + 1) _ zo zo ?_
        rw [hidx] at ha
        unfold vectorV
        rw [hst zo, show vecStepV v (c.getD i default) = _ from if_pos ⟨hl, ha⟩]
        refine St.Le.clean zR (by simp [V.usesL, V.uses, AM.look_cons]) ⟨⟨?_, trivial⟩, trivial⟩
        rw [hidx, List.map_set]
        rfl
      · rw [List.take_of_length_le zo] at hs
        exact Runs.ret_frz Tryz.func37 rfl rfl rfl (by rw [hs])
    · rw [← hidx] at ha
      repeat' (first | refine yw ?_ | ((with_reducible refine Runs.is ?_); first | refine Runs.region (id := 3) ?_ | refine Runs.region (id := 4) ?_ | refine Runs.region (id := 5) ?_ | refine Runs.drawn (id := 6) mixed zK ?_ | refine Runs.region (id := 7) ?_ | refine Runs.region (id := 8) ?_ | refine Runs.region (id := 9) ?_ | refine Runs.region (id := 10) ?_ | ((with_reducible refine Runs.isC ?_); refine Runs.cond rfl (zc ?_) (zc ?_) <;> intro hc <;> (try (first | contradiction | (exfalso; omega; done) | (have : hc = trivial := rfl; clear this; clear hc))))) | ((with_reducible refine r_is ?_); first | refine yr ?_ | (refine r_append_full SlF.h SlF.s ZoF.h zd rfl rfl zC zJ zS rfl (fun hn => ?_) (fun hn => ?_) <;> refine r_nn zN zH ?_)) | ((with_reducible refine d_is ?_); first | refine yd ?_ | ((with_reducible refine d_gd ?_); (first | refine d_guardPt rfl rfl ?_ ?_ | refine d_guardNt rfl rfl ?_ ?_ | refine d_guard rfl rfl ?_ ?_) <;> intro hG <;> (try (exfalso; omega; done)) <;> refine d_nn zN zH ?_)) | fail)
      · refine ih (i + 1) _ zo zo ?_
        rw [hidx] at ha
        unfold vectorV
        rw [hst zo, show vecStepV v (c.getD i default) = v ++ [⟨(c.getD i default).admin, 1⟩] from if_neg zo]
        (refine St.Le.clean zR (by first | (simp [V.usesL, V.uses, AM.look_cons]; done) | (simp [V.usesL, V.uses, AM.look_cons, V.usesL_data, V.uses_data, da_i, da_chV, da_ruV, da_prV, da_enV, da_cfV, da_veV, da_inV, da_edV, da_grV, da_weV, da_mbV, da_suV, da_viV]; done)) ?_; (repeat' (first | exact True.intro | refine And.intro ?_ ?_)); all_goals (first | rfl | (simp [AM.look_cons, enV]; done) | (simp [V.uses, V.usesL, AM.look_cons, V.usesL_data, V.uses_data, da_i, da_chV, da_ruV, da_prV, da_enV, da_cfV, da_veV, da_inV, da_edV, da_grV, da_weV, da_mbV, da_suV, da_viV]; done)))
      · rw [List.take_of_length_le zo] at hs
        exact Runs.ret_frz Tryz.func37 rfl rfl rfl (by rw [hs])
  · repeat' (first | refine yw ?_ | ((with_reducible refine Runs.is ?_); first | refine Runs.region (id := 3) ?_ | refine Runs.region (id := 4) ?_ | refine Runs.region (id := 5) ?_ | refine Runs.drawn (id := 6) mixed zK ?_ | refine Runs.region (id := 7) ?_ | refine Runs.region (id := 8) ?_ | refine Runs.region (id := 9) ?_ | refine Runs.region (id := 10) ?_ | ((with_reducible refine Runs.isC ?_); refine Runs.cond rfl (zc ?_) (zc ?_) <;> intro hc <;> (try (first | contradiction | (exfalso; omega; done) | (have : hc = trivial := rfl; clear this; clear hc))))) | ((with_reducible refine r_is ?_); first | refine yr ?_ | (refine r_append_full SlF.h SlF.s ZoF.h zd rfl rfl zC zJ zS rfl (fun hn => ?_) (fun hn => ?_) <;> refine r_nn zN zH ?_)) | ((with_reducible refine d_is ?_); first | refine yd ?_ | ((with_reducible refine d_gd ?_); (first | refine d_guardPt rfl rfl ?_ ?_ | refine d_guardNt rfl rfl ?_ ?_ | refine d_guard rfl rfl ?_ ?_) <;> intro hG <;> (try (exfalso; omega; done)) <;> refine d_nn zN zH ?_)) | fail)
    · refine ih (i + 1) _ zo zo ?_
      unfold vectorV
      rw [hst zo, show vecStepV v (c.getD i default) = v ++ [⟨(c.getD i default).admin, 1⟩] from if_neg zo]
      (refine St.Le.clean zR (by first | (simp [V.usesL, V.uses, AM.look_cons]; done) | (simp [V.usesL, V.uses, AM.look_cons, V.usesL_data, V.uses_data, da_i, da_chV, da_ruV, da_prV, da_enV, da_cfV, da_veV, da_inV, da_edV, da_grV, da_weV, da_mbV, da_suV, da_viV]; done)) ?_; (repeat' (first | exact True.intro | refine And.intro ?_ ?_)); all_goals (first | rfl | (simp [AM.look_cons, enV]; done) | (simp [V.uses, V.usesL, AM.look_cons, V.usesL_data, V.uses_data, da_i, da_chV, da_ruV, da_prV, da_enV, da_cfV, da_veV, da_inV, da_edV, da_grV, da_weV, da_mbV, da_suV, da_viV]; done)))
    · rw [List.take_of_length_le zo] at hs
      exact Runs.ret_frz Tryz.func37 rfl rfl rfl (by rw [hs])

/-! vector.With, where the author comes behind all others -/
theorem clone_entry (f : Bool) (v : Vector) (hv : v ≠ []) (hl : v.length ≤ 1000000000) : AM.Spec Tryz.prog 80 [.sl f (v.map enV)] [] (OwnPost 73 2 fun l => l = v.map enV) := by
  have hne : v.map enV ≠ [] := by simpa using hv
  (refine spec_of_runs Tryz.func80 rfl ?_; simp only [Tryz.f80]; refine ys ?_)
  repeat' (first | refine yw ?_ | ((with_reducible refine Runs.is ?_); first | refine Runs.region ?_ | ((with_reducible refine Runs.isC ?_); refine Runs.cond rfl (zc ?_) (zc ?_) <;> intro hc <;> (try (first | contradiction | (exfalso; omega; done) | (have : hc = trivial := rfl; clear this; clear hc))))) | ((with_reducible refine r_is ?_); first | refine yr ?_ | (refine r_isNil rfl rfl SlF.s (fun hn => ?_) (fun hn b => ?_) <;> refine r_n zN ?_) | (refine r_append_full SlF.h SlF.s ZoF.h zd rfl rfl zC zJ zS rfl (fun hn => ?_) (fun hn => ?_) <;> refine r_nn zN zH ?_)) | fail)
  all_goals first
    | contradiction
    | exact Runs.ret_own Tryz.func80 rfl rfl rfl rfl
theorem clone_entry_nil (f : Bool) : AM.Fn Tryz.prog 80 [.sl f []] (.sl true []) := by
  (refine spec_of_runs Tryz.func80 rfl ?_; simp only [Tryz.f80]; refine ys ?_)
  repeat' (first | refine yw ?_ | ((with_reducible refine Runs.is ?_); first | refine Runs.region ?_ | ((with_reducible refine Runs.isC ?_); refine Runs.cond rfl (zc ?_) (zc ?_) <;> intro hc <;> (try (first | contradiction | (exfalso; omega; done) | (have : hc = trivial := rfl; clear this; clear hc))))) | ((with_reducible refine r_is ?_); first | refine yr ?_ | (refine r_isNil rfl rfl SlF.s (fun hn => ?_) (fun hn b => ?_) <;> refine r_n zN ?_) | (refine r_append_full SlF.h SlF.s ZoF.h zd rfl rfl zC zJ zS rfl (fun hn => ?_) (fun hn => ?_) <;> refine r_nn zN zH ?_)) | fail)
  all_goals first
    | contradiction
    | ((refine Runs.ret1 Tryz.func80 rfl zM zD ?_; try exact zX); done)
    | ((refine Runs.ret1 Tryz.func80 rfl zM zD ?_; try exact zX); exact V.Le.nil _)
    | ((refine Runs.ret1 Tryz.func80 rfl zM zD ?_; try exact zX); exact V.Le.refl _)
    | fail
theorem insert_entry (v : Vector) (e : Entry) (hl : v.length ≤ 1000000000) (hv : v ≠ []) : AM.Gives Tryz.prog 82 1000 [.i v.length, .sl true [enV e]] 73 2 (v.map enV) (fun l => l = (v ++ [e]).map enV) := by
  (refine spec_of_runs Tryz.func82 rfl ?_; simp only [Tryz.f82]; refine ys ?_)
  repeat' (first | refine yw ?_ | ((with_reducible refine Runs.is ?_); first | refine Runs.region (id := 0) ?_ | refine Runs.region (id := 1) ?_ | refine Runs.region (id := 2) ?_ | refine Runs.region (id := 3) ?_ | refine Runs.region (id := 4) ?_ | refine Runs.region (id := 5) ?_ | refine Runs.region (id := 6) ?_ | refine Runs.region (id := 7) ?_ | ((with_reducible refine Runs.isC ?_); refine Runs.cond rfl (zc ?_) (zc ?_) <;> intro hc <;> (try (first | contradiction | (exfalso; omega; done) | (have : hc = trivial := rfl; clear this; clear hc))))) | ((with_reducible refine r_is ?_); first | refine yr ?_ | (refine r_append_full SlF.h SlF.s ZoF.h zd rfl rfl zC zJ zS rfl (fun hn => ?_) (fun hn => ?_) <;> refine r_nn zN zH ?_)) | fail)
  all_goals first
    | (refine Runs.ret_give Tryz.func82 rfl rfl rfl ?_; simp; done)
    | (exfalso; simp at hc; done)
    | fail
theorem insert_entry_nil (e : Entry) : AM.Fn Tryz.prog 82 [.sl true [], .i 0, .sl true [enV e]] (.sl false ([e].map enV)) := by
  (refine spec_of_runs Tryz.func82 rfl ?_; simp only [Tryz.f82]; refine ys ?_)
  repeat' (first | refine yw ?_ | ((with_reducible refine Runs.is ?_); first | refine Runs.region (id := 0) ?_ | refine Runs.region (id := 1) ?_ | refine Runs.region (id := 2) ?_ | refine Runs.region (id := 3) ?_ | refine Runs.region (id := 4) ?_ | refine Runs.region (id := 5) ?_ | refine Runs.region (id := 6) ?_ | refine Runs.region (id := 7) ?_ | ((with_reducible refine Runs.isC ?_); refine Runs.cond rfl (zc ?_) (zc ?_) <;> intro hc <;> (try (first | contradiction | (exfalso; omega; done) | (have : hc = trivial := rfl; clear this; clear hc))))) | ((with_reducible refine r_is ?_); first | refine yr ?_ | (refine r_append_full SlF.h SlF.s ZoF.h zd rfl rfl zC zJ zS rfl (fun hn => ?_) (fun hn => ?_) <;> refine r_nn zN zH ?_)) | fail)
  all_goals first
    | contradiction
    | exact Runs.ret_frz Tryz.func82 rfl rfl rfl rfl
/-- An entry behind all others. -/
def withA (v : Vector) (a n : Int) : Vector := if n = 0 then v else v ++ [⟨a, n⟩]
theorem bs_end (k : Nat → Int) (i j : Nat) (hij : i ≤ j) (h : ∀ t, i ≤ t → t < j → k t < 0) : bs k i j = j := by
  induction hn : j - i using Nat.strongRecOn generalizing i j with
  | _ n ih =>
    rw [bs]
    split
    · rename_i hlt
      rw [if_pos (h _ zo zo)]
      exact ih (j - ((i + j) / 2 + 1)) zo _ _ zo (fun t h1 h2 => h t zo h2) rfl
    · omega
theorem vbs_end {v : Vector} {a : Int} (h : ∀ e ∈ v, e.author < a) : vbs v a = v.length := by
  refine bs_end _ _ _ (Nat.zero_le _) fun t _ ht => ?_
  have : (v.getD t default).author < a := by
    rw [List.getD_eq_getElem?_getD, List.getElem?_eq_getElem ht]; exact h _ (List.getElem_mem ht)
  show cmpI _ _ < 0
  unfold cmpI; rw [if_pos this]; decide
theorem vector_With (f : Bool) (v : Vector) (a n : Int) (hl : v.length ≤ 1000000000) (ha : 1 ≤ a) (hn : 0 ≤ n ∧ n ≤ 1000000) (hv : ∀ e ∈ v, e.author < a) : AM.Fn Tryz.prog 58 [.sl f (v.map enV), .i a, .i n] (.sl false ((withA v a n).map enV)) := by
  have hend := vbs_end hv
  by_cases hv0 : v = []
  · subst hv0
    have hs := vector_search true [] a
    rw [hend] at hs
    (refine spec_of_runs Tryz.func58 rfl ?_; simp only [Tryz.f58]; refine ys ?_)
    repeat' (first | refine yw ?_ | ((with_reducible refine Runs.is ?_); first | refine Runs.region ?_ | ((with_reducible refine Runs.isC ?_); refine Runs.cond rfl (zc ?_) (zc ?_) <;> intro hc <;> (try (first | contradiction | (exfalso; omega; done) | (have : hc = trivial := rfl; clear this; clear hc))))) | ((with_reducible refine r_is ?_); first | refine yr ?_ | (refine r_fn rfl (clone_entry_nil f) HbF.h zL1 zD ?_; refine r_nn zN zH ?_) | (refine r_fn rfl (hs) HbF.h zL2 zD ?_; refine r_nn zN zH ?_) | (refine r_fn rfl (insert_entry_nil ⟨a, n⟩) HbF.h zL3 zD ?_; refine r_nn zN zH ?_) | ((with_reducible refine r_gd ?_); (first | refine r_guardPf rfl rfl ?_ ?_ | refine r_guardNf rfl rfl ?_ ?_ | refine r_guardPt rfl rfl ?_ ?_ | refine r_guardNt rfl rfl ?_ ?_ | refine r_guard rfl rfl ?_ ?_) <;> intro hG <;> (try (exfalso; omega; done)) <;> refine r_nn zN zH ?_)) | fail)
    · (refine Runs.ret1 Tryz.func58 rfl zM zD ?_; try exact zX)
      rw [withA, if_neg zo]; exact V.Le.refl _
    · (refine Runs.ret1 Tryz.func58 rfl zM zD ?_; try exact zX)
      rw [withA, if_pos zo]; exact V.Le.full _
  · have hs := vector_search false v a
    rw [hend] at hs
    (refine spec_of_runs Tryz.func58 rfl ?_; simp only [Tryz.f58]; refine ys ?_)
    repeat' (first | refine yw ?_ | ((with_reducible refine Runs.is ?_); first | refine Runs.region ?_ | ((with_reducible refine Runs.isC ?_); refine Runs.cond rfl (zc ?_) (zc ?_) <;> intro hc <;> (try (first | contradiction | (exfalso; omega; done) | (have : hc = trivial := rfl; clear this; clear hc))))) | ((with_reducible refine r_is ?_); first | refine yr ?_ | (refine r_own rfl (clone_entry f v hv0 hl) HbF.h zL1 zD rfl (fun _ hq _ => ?_); (try subst hq); refine r_nn zN zH ?_) | (refine r_lend rfl (hs) HbF.h zY rfl ?_; refine r_nn zN zH ?_) | (refine r_give rfl (insert_entry v ⟨a, n⟩ hl hv0) HbF.h rfl rfl zL2 zD ?_; refine r_nn zN zH ?_) | ((with_reducible refine r_gd ?_); (first | refine r_guardPf rfl rfl ?_ ?_ | refine r_guardNf rfl rfl ?_ ?_ | refine r_guardPt rfl rfl ?_ ?_ | refine r_guardNt rfl rfl ?_ ?_ | refine r_guard rfl rfl ?_ ?_) <;> intro hG <;> (try (exfalso; omega; done)) <;> refine r_nn zN zH ?_)) | fail)
    · refine Runs.ret_frz Tryz.func58 rfl rfl rfl ?_
      rw [withA, if_neg zo]
    · refine Runs.ret_frz Tryz.func58 rfl rfl rfl ?_
      rw [withA, if_pos zo]
/-! interval.vectors -/
def upto (a b : Int) : List Int := (List.range (b + 1 - a).toNat).map fun k : Nat => a + k
theorem upto_succ {a b : Int} (h : a ≤ b + 1) : upto a (b + 1) = upto a b ++ [b + 1] := by
  unfold upto
  have e : (b + 1 + 1 - a).toNat = (b + 1 - a).toNat + 1 := by omega
  rw [e, List.range_succ, List.map_append, List.map_cons, List.map_nil]
  congr 2; omega
theorem upto_snoc {lo n : Int} (h : lo ≤ n) : upto lo n = upto lo (n - 1) ++ [n] := by
  have := upto_succ (a := lo) (b := n - 1) zo
  rwa [show n - 1 + 1 = n by omega] at this
theorem upto_end {lo hi n : Int} (h : hi < n) (h2 : n ≤ hi + 1 ∨ n = lo) (h1 : lo ≤ n) : upto lo (n - 1) = upto lo hi := by
  rcases h2 with h2 | rfl
  · rw [show n - 1 = hi by omega]
  · have e1 : (n - 1 + 1 - n).toNat = 0 := by omega
    have e2 : (hi + 1 - n).toNat = 0 := by omega
    simp [upto, e1, e2]
theorem upto_nil {lo : Int} : upto lo (lo - 1) = [] := by
  have e1 : (lo - 1 + 1 - lo).toNat = 0 := by omega
  simp [upto, e1]
theorem upto_len (a b : Int) : (upto a b).length = (b + 1 - a).toNat := by simp [upto]
def stepI (low : Vector) (e : Entry) (v : Vector) : List Vector := (upto (getV low e.author) e.count).map fun n => withA v e.author n
def vectorsStep (low : Vector) (out : List Vector) (e : Entry) : List Vector := out.flatMap (stepI low e)
def vectorsV (low high : Vector) : List Vector := high.foldl (vectorsStep low) [[]]
/-- A vector of few entries, ascending, of small counts. -/
def Fine (v : Vector) : Prop := v.length ≤ 3 ∧ v.Pairwise (fun x y => x.author < y.author) ∧ ∀ e ∈ v, 1 ≤ e.author ∧ 0 ≤ e.count ∧ e.count ≤ 3
theorem getV_nonneg {v : Vector} (h : ∀ e ∈ v, 0 ≤ e.count) (a : Int) : 0 ≤ getV v a := by
  unfold getV
  split
  · rename_i hh
    refine h _ ?_
    rw [List.getD_eq_getElem?_getD, List.getElem?_eq_getElem hh.1]; exact List.getElem_mem hh.1
  · omega
theorem stepI_len (low : Vector) (h : ∀ e ∈ low, 0 ≤ e.count) (e : Entry) (he : e.count ≤ 3) (v : Vector) : (stepI low e v).length ≤ 4 := by
  have := getV_nonneg h e.author
  rw [stepI, List.length_map, upto_len]; omega
theorem flatMap_len {α β : Type} (f : α → List β) (k : Nat) (l : List α) (h : ∀ x ∈ l, (f x).length ≤ k) : (l.flatMap f).length ≤ l.length * k := by
  induction l with
  | nil => simp
  | cons x l ih =>
    rw [List.flatMap_cons, List.length_append, List.length_cons, Nat.add_mul, Nat.one_mul]
    have := h x (by simp)
    have := ih fun y hy => h y (List.mem_cons_of_mem _ hy)
    omega
/-- What is known of the vectors on the way: their authors. -/
def Below (a : Int) (k : Nat) (out : List Vector) : Prop := ∀ v ∈ out, v.length ≤ k ∧ ∀ e ∈ v, e.author < a
theorem withA_below {v : Vector} {a n b : Int} {k : Nat} (h : v.length ≤ k ∧ ∀ e ∈ v, e.author < a) (hb : a < b) : (withA v a n).length ≤ k + 1 ∧ ∀ e ∈ withA v a n, e.author < b := by
  unfold withA
  split
  · exact ⟨by omega, fun e he => by have := h.2 e he; omega⟩
  · refine ⟨by simp; omega, fun e he => ?_⟩
    rcases List.mem_append.1 he with h1 | h1
    · have := h.2 e h1; omega
    · have : e = ⟨a, n⟩ := by simpa using h1
      subst this; exact hb
theorem step_below {low : Vector} {out : List Vector} {e : Entry} {k : Nat} {b : Int} (h : Below e.author k out) (hb : e.author < b) : Below b (k + 1) (vectorsStep low out e) := by
  intro v hv
  obtain ⟨u, hu, h2⟩ := List.mem_flatMap.1 hv
  obtain ⟨n, _, rfl⟩ := List.mem_map.1 h2
  exact withA_below (h u hu) hb
theorem fold_below {low high : Vector} (hh : Fine high) (i : Nat) (hi : i ≤ high.length) (hl : ∀ e ∈ low, 0 ≤ e.count) :
    (∀ h : i < high.length, Below (high.getD i default).author i ((high.take i).foldl (vectorsStep low) [[]])) ∧ ((high.take i).foldl (vectorsStep low) [[]]).length ≤ 4 ^ i := by
  induction i with
  | zero => exact ⟨fun _ => by intro v hv; simp at hv; subst hv; simp, by simp⟩
  | succ i ih =>
    obtain ⟨h1, h2⟩ := ih zo
    have hlt : i < high.length := by omega
    have hmem : high.getD i default ∈ high := by rw [List.getD_eq_getElem?_getD, List.getElem?_eq_getElem hlt]; exact List.getElem_mem hlt
    rw [foldl_take hlt]
    refine ⟨fun h => step_below (h1 hlt) ?_, ?_⟩
    · have := List.pairwise_iff_getElem.1 hh.2.1 i (i + 1) hlt h zo
      simpa [List.getD_eq_getElem?_getD, hlt, h] using this
    · refine Nat.le_trans (flatMap_len _ 4 _ fun v _ => stepI_len low hl _ (hh.2.2 _ hmem).2.2 v) ?_
      rw [Nat.pow_succ]; exact Nat.mul_le_mul_right _ h2
theorem le_nilVec : V.Le (.sl true [.sc (.slice none 0 0)]) (.sl false (([[]] : List Vector).map veV)) :=
  .slE _ _ _ rfl rfl (by intro i hi; have : i = 0 := by simpa using hi
                         subst this; rfl) (by
    intro i j hi hj
    have : i = 0 := by simpa using hi
    subst this
    have : j = 0 := by simpa [V.cells] using hj
    subst this
    exact V.Le.nil _)
theorem interval_vectors (f g : Bool) (low high : Vector) (hl : ∀ e ∈ low, 0 ≤ e.count) (hh : Fine high) : AM.Fn Tryz.prog 36 [.sl f (low.map enV), .sl g (high.map enV)] (.sl false ((vectorsV low high).map veV)) := by
  have hlen := hh.1
  (refine spec_of_runs Tryz.func36 rfl ?_; simp only [Tryz.f36]; refine ys ?_)
  repeat' (first | refine yw ?_ | ((with_reducible refine Runs.is ?_); first | refine Runs.region (id := 0) ?_ | refine Runs.region (id := 1) ?_ | refine Runs.region (id := 2) ?_ | ((with_reducible refine Runs.isC ?_); refine Runs.cond rfl (zc ?_) (zc ?_) <;> intro hc <;> (try (first | contradiction | (exfalso; omega; done) | (have : hc = trivial := rfl; clear this; clear hc))))) | ((with_reducible refine r_is ?_); first | refine yr ?_) | fail)
  refine Runs.loopI (fun i : Nat => high.length - i) (fun i => i ≤ high.length)
    (fun i => ⟨[.sl f (low.map enV), .any, .any, .any, .any, .sl false (((high.take i).foldl (vectorsStep low) [[]]).map veV), .any, .any, .any, .any, .any, .any, .any, .sl g (high.map enV), .i (high.length : Nat), .i (i : Nat), .any, .any, .any, .any, .any, .any, .any, .any, .any, .any, .any, .any, .any, .any, .any, .any, .any, .any, .any, .any, .any, .any, .any, .any, .any, .any, .any, .any, .any, .any, .any], []⟩) 0 (by simp) ?_ ?_
  · have hn0 := le_nilVec
    refine St.Le.clean zR (by simp [V.usesL, V.uses]) trivial
  rintro i h0 ih
  have hfb := fold_below hh i h0 hl
  have hpow : 4 ^ i ≤ 64 := by
    have : i ≤ 3 := by omega
    have h1 : (4 : Nat) ^ i ≤ 4 ^ 3 := Nat.pow_le_pow_right zd this
    omega
  have hst := fun (h : i < high.length) => foldl_take (g := vectorsStep low) (s := [[]]) h
  have hend : high.length ≤ i → (high.take i).foldl (vectorsStep low) [[]] = vectorsV low high := fun h => by rw [List.take_of_length_le h]; rfl
  generalize hs : (high.take i).foldl (vectorsStep low) [[]] = out at hfb hst hend ⊢
  repeat' (first | refine yw ?_ | ((with_reducible refine Runs.is ?_); first | refine Runs.region (id := 3) ?_ | refine Runs.region (id := 4) ?_ | refine Runs.region (id := 5) ?_ | refine Runs.region (id := 6) ?_ | ((with_reducible refine Runs.isC ?_); refine Runs.cond rfl (zc ?_) (zc ?_) <;> intro hc <;> (try (first | contradiction | (exfalso; omega; done) | (have : hc = trivial := rfl; clear this; clear hc))))) | ((with_reducible refine r_is ?_); first | refine yr ?_) | fail)
  · have hmem : high.getD i default ∈ high := by rw [List.getD_eq_getElem?_getD, List.getElem?_eq_getElem (by assumption)]; exact List.getElem_mem _
    have he := hh.2.2 _ hmem
    have hb := hfb.1 (by assumption)
    generalize high.getD i default = e at he hb hst ⊢
    have hlow := getV_nonneg hl e.author
    refine Runs.weaken (St.Le.nil 8 66 1 8 zd rfl rfl zE) ?_
    refine Runs.loopI (fun j : Nat => out.length - j) (fun j => j ≤ out.length)
      (fun j => ⟨[.sl f (low.map enV), .any, .any, .any, .any, .any, .any, .ptr 7 0 0, .own 8, .any, .any, .any, .any, .sl g (high.map enV), .i (high.length : Nat), .i (i : Nat), .any, .any, .any, .sl false (out.map veV), .i (out.length : Nat), .i (j : Nat), .any, .any, .any, .any, .any, .any, .any, .any, .any, .any, .any, .any, .any, .any, .any, .any, .any, .any, .any, .any, .any, .any, .any, .any, .any], [(8, .lst 66 1 (((out.take j).flatMap (stepI low e)).map veV)), (7, .var 73 (enV e))]⟩) 0 (by simp) ?_ ?_
    · (refine St.Le.clean zR zU zV)
    rintro j hj ihj
    have hjl : ((out.take j).flatMap (stepI low e)).length ≤ 256 := by
      refine Nat.le_trans (flatMap_len _ 4 _ fun v _ => stepI_len low hl e he.2.2 v) ?_
      rw [List.length_take]; omega
    repeat' (first | refine yw ?_ | ((with_reducible refine Runs.is ?_); first | refine Runs.region (id := 7) ?_ | refine Runs.region (id := 8) ?_ | refine Runs.region (id := 9) ?_ | ((with_reducible refine Runs.isC ?_); refine Runs.cond rfl (zc ?_) (zc ?_) <;> intro hc <;> (try (first | contradiction | (exfalso; omega; done) | (have : hc = trivial := rfl; clear this; clear hc))))) | ((with_reducible refine r_is ?_); first | refine yr ?_ | (refine r_fn rfl (vector_Get f low _) HbF.h zL2 zD ?_; refine r_nn zN zH ?_)) | fail)
    · have hjo : j < out.length := by omega
      have hvm : out.getD j default ∈ out := by rw [List.getD_eq_getElem?_getD, List.getElem?_eq_getElem hjo]; exact List.getElem_mem hjo
      have hv := hb _ hvm
      have hbase : (out.take (j + 1)).flatMap (stepI low e) = (out.take j).flatMap (stepI low e) ++ stepI low e (out.getD j default) := by
        rw [take_getD hjo]; simp
      generalize (out.take j).flatMap (stepI low e) = acc at hjl hbase ⊢
      generalize hvv : out.getD j default = v at hv hbase ⊢
      by_cases hle : getV low e.author ≤ e.count + 1
      · refine Runs.loopI (α := Int) (fun n => (e.count + 1 - n).toNat) (fun n => getV low e.author ≤ n ∧ n ≤ e.count + 1)
          (fun n => ⟨[.sl f (low.map enV), .any, .any, .any, .any, .any, .any, .ptr 7 0 0, .own 8, .any, veV v, .i n, .any, .sl g (high.map enV), .i (high.length : Nat), .i (i : Nat), .any, .any, .any, .sl false (out.map veV), .i (out.length : Nat), .i (j : Nat), .any, .any, .any, .any, .any, .any, .any, .any, .any, .any, .any, .any, .any, .any, .any, .any, .any, .any, .any, .any, .any, .any, .any, .any, .any], [(8, .lst 66 1 ((acc ++ (upto (getV low e.author) (n - 1)).map fun n => withA v e.author n).map veV)), (7, .var 73 (enV e))]⟩) (getV low e.author) ⟨by omega, by omega⟩ ?_ ?_
        · have e0 : upto (getV low e.author) (getV low e.author - 1) = [] := by
            have : (getV low e.author - 1 + 1 - getV low e.author).toNat = 0 := by omega
            simp [upto, this]
          rw [e0]
          (refine St.Le.clean zR zU zV)
        rintro n ⟨hn1, hn2⟩ ihn
        have hul := upto_len (getV low e.author) (n - 1)
        repeat' (first | refine yw ?_ | ((with_reducible refine Runs.is ?_); first | refine Runs.region (id := 10) ?_ | refine Runs.region (id := 12) ?_ | refine Runs.region (id := 11) ?_ | ((with_reducible refine Runs.isC ?_); refine Runs.cond rfl (zc ?_) (zc ?_) <;> intro hc <;> (try (first | contradiction | (exfalso; omega; done) | (have : hc = trivial := rfl; clear this; clear hc))))) | ((with_reducible refine r_is ?_); first | refine yr ?_ | (refine r_fn rfl (vector_With false v e.author n zo zo zo hv.2) HbF.h zL3 zD ?_; refine r_nn zN zH ?_) | (refine r_append_full SlF.h SlF.s ZoF.h zd rfl rfl zC zJ zS rfl (fun hn => ?_) (fun hn => ?_) <;> refine r_nn zN zH ?_)) | fail)
        · refine ihn (n + 1) _ ⟨by omega, by omega⟩ zo ?_
          have e1 : upto (getV low e.author) (n + 1 - 1) = upto (getV low e.author) (n - 1) ++ [n] := by
            have := upto_succ (a := getV low e.author) (b := n - 1) zo
            rw [show n - 1 + 1 = n by omega] at this
            rw [show n + 1 - 1 = n by omega]; exact this
          rw [e1]
          (refine St.Le.clean zR zU zV)
        · repeat' (first | refine yw ?_ | ((with_reducible refine Runs.is ?_); first | refine Runs.region (id := 13) ?_ | ((with_reducible refine Runs.isC ?_); refine Runs.cond rfl (zc ?_) (zc ?_) <;> intro hc <;> (try (first | contradiction | (exfalso; omega; done) | (have : hc = trivial := rfl; clear this; clear hc))))) | ((with_reducible refine r_is ?_); first | refine yr ?_) | fail)
          refine ihj (j + 1) _ zo zo ?_
          rw [hbase, stepI]
          have : n - 1 = e.count := by omega
          rw [this]
          (refine St.Le.clean zR zU zV)
      · refine Runs.loop ?_
        repeat' (first | refine yw ?_ | ((with_reducible refine Runs.is ?_); first | refine Runs.region (id := 10) ?_ | refine Runs.region (id := 12) ?_ | refine Runs.region (id := 11) ?_ | refine Runs.region (id := 13) ?_ | ((with_reducible refine Runs.isC ?_); refine Runs.cond rfl (zc ?_) (zc ?_) <;> intro hc <;> (try (first | contradiction | (exfalso; omega; done) | (have : hc = trivial := rfl; clear this; clear hc))))) | ((with_reducible refine r_is ?_); first | refine yr ?_ | (refine r_append_full SlF.h SlF.s ZoF.h zd rfl rfl zC zJ zS rfl (fun hn => ?_) (fun hn => ?_) <;> refine r_nn zN zH ?_)) | fail)
        refine ihj (j + 1) _ zo zo ?_
        have e0 : stepI low e v = [] := by
          have : (e.count + 1 - getV low e.author).toNat = 0 := by omega
          simp [stepI, upto, this]
        rw [hbase, e0]
        (refine St.Le.clean zR zU zV)
    · repeat' (first | refine yw ?_ | ((with_reducible refine Runs.is ?_); first | refine Runs.region (id := 14) ?_ | refine Runs.region (id := 15) ?_ | ((with_reducible refine Runs.isC ?_); refine Runs.cond rfl (zc ?_) (zc ?_) <;> intro hc <;> (try (first | contradiction | (exfalso; omega; done) | (have : hc = trivial := rfl; clear this; clear hc))))) | ((with_reducible refine r_is ?_); first | refine yr ?_) | fail)
      (refine Runs.weaken (St.Le.freeze_lst 8 rfl) ?_; refine yf ?_)
      refine ih (i + 1) _ zo zo ?_
      rw [hst zo, vectorsStep]
      rw [List.take_of_length_le zo]
      refine St.Le.clean zR (by simp [V.usesL, V.uses]) trivial
  · have e1 := hend zo
    subst e1
    repeat' (first | refine yw ?_ | ((with_reducible refine Runs.is ?_); first | refine Runs.region (id := 16) ?_ | ((with_reducible refine Runs.isC ?_); refine Runs.cond rfl (zc ?_) (zc ?_) <;> intro hc <;> (try (first | contradiction | (exfalso; omega; done) | (have : hc = trivial := rfl; clear this; clear hc))))) | ((with_reducible refine r_is ?_); first | refine yr ?_) | fail)
    (refine Runs.ret1 Tryz.func36 rfl zM zD ?_; try exact zX)
end Go.Proofs
