/- Copies and filters of configurations. -/
import Derived.Test.YtmhnmookgbmmbaaGreatW3
set_option linter.unusedVariables false
set_option linter.unusedSimpArgs false
set_option maxRecDepth 8000
set_option pp.deepTerms false
set_option pp.deepTerms.threshold 6
namespace Go.Proofs
open Go.AM
attribute [local irreducible] AM.evalR AM.evalD AM.Runs AM.valK AM.dK AM.opK AM.stepR AM.CallS AM.St.Le

theorem clone_change (f : Bool) (l : List Change) (hl : l.length ≤ 1000000000000) : AM.Fn Tryz.prog 100 [.sl f (l.map chV)] (.sl false (l.map chV)) := by
  (refine spec_of_runs Tryz.func100 rfl ?_; simp only [Tryz.f100]; refine ys ?_)
  repeat' (first | refine yw ?_ | ((with_reducible refine Runs.is ?_); first | refine Runs.region ?_ | ((with_reducible refine Runs.isC ?_); refine Runs.cond rfl (zc ?_) (zc ?_) <;> intro hc <;> (try (first | contradiction | (exfalso; omega; done) | (have : hc = trivial := rfl; clear this; clear hc))))) | ((with_reducible refine r_is ?_); first | refine yr ?_ | (refine r_isNil rfl rfl SlF.s (fun hn => ?_) (fun hn b => ?_) <;> refine r_n zN ?_) | (refine r_append_full SlF.h SlF.s ZoF.h zd rfl rfl zC zJ zS rfl (fun hn => ?_) (fun hn => ?_) <;> refine r_nn zN zH ?_)) | fail)
  · contradiction
  · exact Runs.ret_frz Tryz.func100 rfl rfl rfl rfl
  · (refine Runs.ret1 Tryz.func100 rfl zM zD ?_; try exact zX)
    rw [hn]; exact V.Le.nil _
  · (refine Runs.ret1 Tryz.func100 rfl zM zD ?_; try exact zX)
    rw [hn]; exact V.Le.full _
  · contradiction
theorem config_clone (p : Proposal) (hl : p.changes.length ≤ 1000000000000) : AM.Fn Tryz.prog 83 [prV p] (prV p) := by
  (refine spec_of_runs Tryz.func83 rfl ?_; simp only [Tryz.f83]; refine ys ?_)
  repeat' (first | refine yw ?_ | ((with_reducible refine Runs.is ?_); first | refine Runs.region ?_ | ((with_reducible refine Runs.isC ?_); refine Runs.cond rfl (zc ?_) (zc ?_) <;> intro hc <;> (try (first | contradiction | (exfalso; omega; done) | (have : hc = trivial := rfl; clear this; clear hc))))) | ((with_reducible refine r_is ?_); first | refine yr ?_ | (refine r_fn rfl (clone_change false _ hl) HbF.h zL1 zD ?_; refine r_nn zN zH ?_)) | fail)
  (refine Runs.retC Tryz.func83 rfl zM rfl TyF.h (And.intro zE zd) zD ?_; try exact zX)
theorem filter_take {α : Type} [Inhabited α] {k : α → Bool} {xs : List α} {i : Nat} (h : i < xs.length) : (xs.take (i + 1)).filter k = (xs.take i).filter k ++ if k (xs.getD i default) then [xs.getD i default] else [] := by
  rw [take_getD h, List.filter_append]
  congr 1
  generalize xs.getD i default = x
  cases hk : k x <;> simp [hk]
theorem filter_take_t {α : Type} [Inhabited α] {k : α → Bool} {xs : List α} {i : Nat} (h : i < xs.length) (hk : k (xs.getD i default) = true) : (xs.take (i + 1)).filter k = (xs.take i).filter k ++ [xs.getD i default] := by
  rw [filter_take h, if_pos hk]
theorem filter_take_f {α : Type} [Inhabited α] {k : α → Bool} {xs : List α} {i : Nat} (h : i < xs.length) (hk : k (xs.getD i default) = false) : (xs.take (i + 1)).filter k = (xs.take i).filter k := by
  rw [filter_take h, if_neg (by rw [hk]; simp), List.append_nil]
/-- Every proposal of a configuration has few changes. -/
def Small (c : Config) : Prop := c.length ≤ 1000000000 ∧ ∀ p ∈ c, p.changes.length ≤ 1000000000000
theorem Small.getD {c : Config} (h : Small c) (i : Nat) : (c.getD i default).changes.length ≤ 1000000000000 := by
  by_cases hi : i < c.length
  · rw [List.getD_eq_getElem?_getD, List.getElem?_eq_getElem hi]; exact h.2 _ (List.getElem_mem hi)
  · rw [List.getD_eq_getElem?_getD, List.getElem?_eq_none zo]; exact Nat.zero_le _
theorem config_filter (f : Bool) (c : Config) (g : FuncId) (caps : List V) (k : Proposal → Bool) (hsm : Small c) (hg : ∀ p, AM.Fn Tryz.prog g (prV p :: caps) (.b (k p))) (hb : hasBody Tryz.prog g) (hd : V.dataL caps = true) :
    AM.Spec Tryz.prog 59 [.sl f (c.map prV), .fn g caps] [] (OwnPost 63 3 fun l => l = (c.filter k).map prV) := by
  (refine spec_of_runs Tryz.func59 rfl ?_; simp only [Tryz.f59]; refine ys ?_)
  (refine Runs.lens 0 ?_; refine yl ?_)
  intro hl
  repeat' (first | refine yw ?_ | ((with_reducible refine Runs.is ?_); first | refine Runs.region (id := 0) ?_ | refine Runs.region (id := 1) ?_ | refine Runs.region (id := 2) ?_ | ((with_reducible refine Runs.isC ?_); refine Runs.cond rfl (zc ?_) (zc ?_) <;> intro hc <;> (try (first | contradiction | (exfalso; omega; done) | (have : hc = trivial := rfl; clear this; clear hc))))) | ((with_reducible refine r_is ?_); first | refine yr ?_) | fail)
  refine Runs.weaken (St.Le.nil 5 63 3 5 zd rfl rfl zE) ?_
  refine Runs.loopI (fun i : Nat => c.length - i) (fun i => i ≤ c.length)
    (fun i => ⟨[.any, .fn g caps, .any, .any, .any, .own 5, .any, .any, .sl f (c.map prV), .i (c.length : Nat), .i (i : Nat), .any, .any, .any, .any, .any, .any, .any, .any, .any, .any, .any, .any, .any], [(5, .lst 63 3 (((c.take i).filter k).map prV))]⟩) 0 (by simp) ?_ ?_
  · refine St.Le.clean zR ?_ ?_
    · simp [V.usesL, V.uses, AM.look_cons, V.usesL_data _ _ hd]
    · exact ⟨⟨rfl, trivial⟩, trivial⟩
  rintro i h0 ih
  have hs1 := hsm.1
  have hfl : ((c.take i).filter k).length ≤ i := Nat.le_trans (List.length_filter_le _ _) (by rw [List.length_take]; omega)
  repeat' (first | refine yw ?_ | ((with_reducible refine Runs.is ?_); first | refine Runs.region (id := 3) ?_ | refine Runs.region (id := 4) ?_ | refine Runs.region (id := 5) ?_ | refine Runs.region (id := 6) ?_ | refine Runs.region (id := 7) ?_ | refine Runs.region (id := 8) ?_ | ((with_reducible refine Runs.isC ?_); refine Runs.cond rfl (zc ?_) (zc ?_) <;> intro hc <;> (try (first | contradiction | (exfalso; omega; done) | (have : hc = trivial := rfl; clear this; clear hc))))) | ((with_reducible refine r_is ?_); first | refine yr ?_ | (refine r_fn rfl (hg _) (hb) zL1 zD ?_; refine r_nn zN zH ?_) | (refine r_fn rfl (config_clone _ (hsm.getD _)) HbF.h zL1 zD ?_; refine r_nn zN zH ?_) | (refine r_append_full SlF.h SlF.s ZoF.h zd rfl rfl zC zJ zS rfl (fun hn => ?_) (fun hn => ?_) <;> refine r_nn zN zH ?_)) | fail)
  · refine ih (i + 1) _ zo zo ?_
    rw [V.killL_data _ _ hd]
    refine St.Le.clean zR ?_ ?_
    · simp [V.usesL, V.uses, AM.look_cons, V.usesL_data _ _ hd]
    · rw [filter_take zo, if_pos hc]
      exact ⟨⟨by simp [AM.look_cons], trivial⟩, trivial⟩
  · refine ih (i + 1) _ zo zo ?_
    refine St.Le.clean zR ?_ ?_
    · simp [V.usesL, V.uses, AM.look_cons, V.usesL_data _ _ hd]
    · rw [filter_take zo, hc]
      exact ⟨⟨by simp [AM.look_cons], trivial⟩, trivial⟩
  · refine Runs.ret_own Tryz.func59 rfl rfl rfl ?_
    rw [List.take_of_length_le zo]
end Go.Proofs
