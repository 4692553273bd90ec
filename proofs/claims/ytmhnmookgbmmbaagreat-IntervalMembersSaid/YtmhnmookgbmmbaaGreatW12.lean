/- Intervals and graphs: All, of, Build, keep, Contract, Prune. -/
import Derived.Test.YtmhnmookgbmmbaaGreatW11
import Derived.Test.YtmhnmookgbmmbaaGreatW9
set_option linter.unusedVariables false
set_option linter.unusedSimpArgs false
set_option maxRecDepth 8000
set_option maxHeartbeats 4000000
set_option pp.deepTerms false
set_option pp.deepTerms.threshold 6
namespace Go.Proofs
open Go.AM
attribute [local irreducible] AM.evalR AM.evalD AM.Runs AM.valK AM.dK AM.opK AM.stepR AM.CallS AM.St.Le

def allB (a b : Config) : List Config := if containsB b a then (vectorsV (vectorV a) (vectorV b)).map (restrictV b) else []
theorem vectorV_nonneg (c : Config) (h : c.length ≤ 100000000) : ∀ e ∈ vectorV c, 0 ≤ e.count := fun e he => ((vecFoldV c [] 0 (by simpa using h) (by intro e he; cases he)).1 e he).1
theorem interval_All (f g : Bool) (a b : Config) (ha : a.length ≤ 10000000) (hb : Small b) (hb2 : b.length ≤ 10000000) (hv : Fine (vectorV b)) : AM.Fn Tryz.prog 11 [.sl f (a.map prV), .sl g (b.map prV)] (.sl false ((allB a b).map cfV)) := by
  have hn := vectorV_nonneg a zo
  have hlen : (vectorsV (vectorV a) (vectorV b)).length ≤ 64 := by
    have h1 := (fold_below hv _ (Nat.le_refl _) hn).2
    rw [List.take_of_length_le (Nat.le_refl _)] at h1
    have h2 : (4 : Nat) ^ (vectorV b).length ≤ 4 ^ 3 := Nat.pow_le_pow_right zd hv.1
    exact Nat.le_trans h1 h2
  (refine spec_of_runs Tryz.func11 rfl ?_; simp only [Tryz.f11]; refine ys ?_)
  repeat' (first | refine yw ?_ | ((with_reducible refine Runs.is ?_); first | refine Runs.region (id := 0) ?_ | refine Runs.region (id := 1) ?_ | refine Runs.region (id := 2) ?_ | refine Runs.region (id := 3) ?_ | refine Runs.region (id := 4) ?_ | ((with_reducible refine Runs.isC ?_); refine Runs.cond rfl (zc ?_) (zc ?_) <;> intro hc <;> (try (first | contradiction | (exfalso; omega; done) | (have : hc = trivial := rfl; clear this; clear hc))))) | ((with_reducible refine r_is ?_); first | refine yr ?_ | (refine r_fn rfl (config_Contains g f _ _) HbF.h zL2 zD ?_; refine r_nn zN zH ?_) | (refine r_fn rfl (config_Vector f a ha) HbF.h zL1 zD ?_; refine r_nn zN zH ?_) | (refine r_fn rfl (config_Vector g b hb2) HbF.h zL1 zD ?_; refine r_nn zN zH ?_) | (refine r_fn rfl (interval_vectors false false _ _ hn hv) HbF.h zL2 zD ?_; refine r_nn zN zH ?_)) | fail)
  · (refine Runs.ret1 Tryz.func11 rfl zM zD ?_; try exact zX)
    rw [allB, hc]; exact V.Le.nil _
  · rw [allB, if_pos (by assumption)]
    generalize vectorsV (vectorV a) (vectorV b) = vs at hlen ⊢
    (refine Runs.weaken (St.Le.nil 5 23 1 5 zd rfl rfl zE) ?_)
    refine Runs.loopI (fun i : Nat => vs.length - i) (fun i => i ≤ vs.length)
      (fun i => ⟨[.any, .sl g (b.map prV), .any, .any, .any, .own 5, .any, .any, .any, .any, .any, .any, .any, .any, .any, .any, .sl false (vs.map veV), .i (vs.length : Nat), .i (i : Nat), .any, .any, .any, .any, .any, .any, .any, .any, .any, .any, .any], [(5, .lst 23 1 (((vs.take i).map (restrictV b)).map cfV))]⟩) 0 (by simp) ?_ ?_
    · (refine St.Le.clean zR zU zV)
    rintro i h0 ih
    have hl1 : (vs.take i).length ≤ 64 := by rw [List.length_take]; omega
    have hst := fun (h : i < vs.length) => take_getD h
    generalize hacc : vs.take i = acc at hl1 hst ⊢
    repeat' (first | refine yw ?_ | ((with_reducible refine Runs.is ?_); first | refine Runs.region (id := 5) ?_ | refine Runs.region (id := 6) ?_ | refine Runs.region (id := 7) ?_ | refine Runs.region (id := 8) ?_ | refine Runs.region (id := 9) ?_ | ((with_reducible refine Runs.isC ?_); refine Runs.cond rfl (zc ?_) (zc ?_) <;> intro hc <;> (try (first | contradiction | (exfalso; omega; done) | (have : hc = trivial := rfl; clear this; clear hc))))) | ((with_reducible refine r_is ?_); first | refine yr ?_ | (refine r_fn rfl (config_Restrict g false b _ hb) HbF.h zL2 zD ?_; refine r_nn zN zH ?_) | (refine r_append_full SlF.h SlF.s ZoF.h zd rfl rfl zC zJ zS rfl (fun hn => ?_) (fun hn => ?_) <;> refine r_nn zN zH ?_)) | fail)
    · refine ih (i + 1) _ zo zo ?_
      rw [hst zo]
      (refine St.Le.clean zR zU zV)
    · rw [List.take_of_length_le zo] at hacc
      subst hacc
      exact Runs.ret_frz Tryz.func11 rfl rfl rfl rfl
/-! Graphs -/
def adjB (nodes : List Config) (i j : Nat) : Bool := decide (((nodes.getD j default).length : Int) = (nodes.getD i default).length + 1) && containsB (nodes.getD j default) (nodes.getD i default)
def edgesB (nodes : List Config) : List (Int × Int) := edgesN (adjB nodes) nodes.length nodes.length
/-- Not too many nodes, none too long. -/
def Few (nodes : List Config) : Prop := nodes.length ≤ 100000 ∧ ∀ c ∈ nodes, c.length ≤ 1000000000
theorem Few.getD {nodes : List Config} (h : Few nodes) (i : Nat) : (nodes.getD i default).length ≤ 1000000000 := by
  by_cases hi : i < nodes.length
  · rw [List.getD_eq_getElem?_getD, List.getElem?_eq_getElem hi]; exact h.2 _ (List.getElem_mem hi)
  · rw [List.getD_eq_getElem?_getD, List.getElem?_eq_none zo]; exact Nat.zero_le _
/-- What 'of' makes of nodes. -/
def ofB (nodes : List Config) : Graph := ⟨nodes, edgesB nodes⟩
def contractB (nodes : List Config) (base : Config) : List Config := nodes.filter fun c => containsB c base
def pruneB (nodes : List Config) (l : Config) : List Config := nodes.filter fun c => containsB c l || containsB l c
end Go.Proofs
