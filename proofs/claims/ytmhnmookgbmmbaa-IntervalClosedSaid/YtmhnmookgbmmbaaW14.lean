/- Graphs: Equal, Levels. -/
import Derived.Test.YtmhnmookgbmmbaaW12
import Derived.Test.YtmhnmookgbmmbaaSk
set_option linter.unusedVariables false
set_option linter.unusedSimpArgs false
set_option maxRecDepth 8000
set_option maxHeartbeats 4000000
set_option pp.deepTerms false
set_option pp.deepTerms.threshold 6
namespace Go.Proofs
open Go.AM
attribute [local irreducible] AM.evalR AM.evalD AM.Runs AM.valK AM.dK AM.opK AM.stepR AM.CallS AM.St.Le

theorem config_Equal (f g : Bool) (a b : Config) : AM.Fn Try.prog 54 [.sl f (a.map prV), .sl g (b.map prV)] (.b (containsB a b && containsB b a)) := by
  (refine spec_of_runs Try.func54 rfl ?_; simp only [Try.f54]; refine ys ?_)
  repeat' (first | refine yw ?_ | ((with_reducible refine Runs.is ?_); first | refine Runs.region ?_ | ((with_reducible refine Runs.isC ?_); refine Runs.cond rfl (zc ?_) (zc ?_) <;> intro hc <;> (try (first | contradiction | (exfalso; omega; done) | (have : hc = trivial := rfl; clear this; clear hc))))) | ((with_reducible refine r_is ?_); first | refine yr ?_ | (refine r_fn rfl (config_Contains f g _ _) HbF.h zL2 zD ?_; refine r_nn zN zH ?_) | (refine r_fn rfl (config_Contains g f _ _) HbF.h zL2 zD ?_; refine r_nn zN zH ?_) | ((with_reducible refine r_gd ?_); (first | refine r_guardPt rfl rfl ?_ ?_ | refine r_guardNt rfl rfl ?_ ?_ | refine r_guard rfl rfl ?_ ?_) <;> intro hG <;> (try (exfalso; omega; done)) <;> refine r_nn zN zH ?_)) | fail)
  all_goals ((refine Runs.ret1 Try.func54 rfl zM zD ?_; try exact zX); refine V.Le.of_eq ?_; simp_all)
/-- Comparison with itself, element by element. -/
theorem equalFunc_refl (f g : Bool) (l : List Config) (fn : FuncId) (k : Config → Config → Bool) (hg : ∀ x y, AM.Fn Try.prog fn [cfV x, cfV y] (.b (k x y))) (hb : hasBody Try.prog fn) (hk : ∀ x ∈ l, k x x = true) :
    AM.Fn Try.prog 53 [.sl f (l.map cfV), .sl g (l.map cfV), .fn fn []] (.b true) := by
  have hkg : ∀ i, i < l.length → k (l.getD i default) (l.getD i default) = true := fun i hi => by
    rw [List.getD_eq_getElem?_getD, List.getElem?_eq_getElem hi]; exact hk _ (List.getElem_mem hi)
  (refine spec_of_runs Try.func53 rfl ?_; simp only [Try.f53]; refine ys ?_)
  (refine Runs.lens 0 ?_; refine yl ?_)
  intro hl
  repeat' (first | refine yw ?_ | ((with_reducible refine Runs.is ?_); first | refine Runs.region (id := 0) ?_ | refine Runs.region (id := 1) ?_ | refine Runs.region (id := 2) ?_ | refine Runs.region (id := 3) ?_ | ((with_reducible refine Runs.isC ?_); refine Runs.cond rfl (zc ?_) (zc ?_) <;> intro hc <;> (try (first | contradiction | (exfalso; omega; done) | (have : hc = trivial := rfl; clear this; clear hc))))) | ((with_reducible refine r_is ?_); first | refine yr ?_) | fail)
  all_goals (try (exfalso; simp at hc; done))
  refine Runs.loopI (fun i : Nat => l.length - i) (fun i => i ≤ l.length)
    (fun i => ⟨[.any, .sl g (l.map cfV), .fn fn [], .any, .any, .any, .any, .any, .any, .any, .any, .any, .any, .any, .any, .sl f (l.map cfV), .i (l.length : Nat), .i (i : Nat), .any, .any, .any, .any, .any, .any, .any, .any, .any, .any, .any, .any, .any, .any], []⟩) 0 (by simp) ?_ ?_
  · (refine St.Le.clean zR (by simp [V.usesL, V.uses, AM.look_cons, AM.look_nil, V.uses_data, da_i, da_chV, da_ruV, da_prV, da_enV, da_cfV, da_veV, da_inV, da_edV, da_grV, da_weV, da_mbV, da_suV, da_viV]) (by simp [AM.sub, AM.look_cons, AM.look_nil, V.uses, V.usesL, V.uses_data, da_i, da_chV, da_ruV, da_prV, da_enV, da_cfV, da_veV, da_inV, da_edV, da_grV, da_weV, da_mbV, da_suV, da_viV]))
  rintro i h0 ih
  by_cases hi : i < l.length
  · have h1 := hkg i hi
    repeat' (first | refine yw ?_ | ((with_reducible refine Runs.is ?_); first | refine Runs.region (id := 4) ?_ | refine Runs.region (id := 5) ?_ | refine Runs.region (id := 6) ?_ | refine Runs.region (id := 7) ?_ | refine Runs.region (id := 8) ?_ | refine Runs.region (id := 9) ?_ | refine Runs.region (id := 10) ?_ | ((with_reducible refine Runs.isC ?_); refine Runs.cond rfl (zc ?_) (zc ?_) <;> intro hc <;> (try (first | contradiction | (exfalso; omega; done) | (have : hc = trivial := rfl; clear this; clear hc))))) | ((with_reducible refine r_is ?_); first | refine yr ?_ | (refine r_fn rfl (hg _ _) (hb) zL2 zD ?_; refine r_nn zN zH ?_)) | fail)
    · rw [h1] at hc; cases hc
    · refine ih (i + 1) _ zo zo (by (refine St.Le.clean zR (by simp [V.usesL, V.uses, AM.look_cons, AM.look_nil, V.uses_data, da_i, da_chV, da_ruV, da_prV, da_enV, da_cfV, da_veV, da_inV, da_edV, da_grV, da_weV, da_mbV, da_suV, da_viV]) (by simp [AM.sub, AM.look_cons, AM.look_nil, V.uses, V.usesL, V.uses_data, da_i, da_chV, da_ruV, da_prV, da_enV, da_cfV, da_veV, da_inV, da_edV, da_grV, da_weV, da_mbV, da_suV, da_viV])))
  · repeat' (first | refine yw ?_ | ((with_reducible refine Runs.is ?_); first | refine Runs.region (id := 4) ?_ | refine Runs.region (id := 5) ?_ | refine Runs.region (id := 6) ?_ | refine Runs.region (id := 7) ?_ | refine Runs.region (id := 8) ?_ | refine Runs.region (id := 9) ?_ | refine Runs.region (id := 10) ?_ | ((with_reducible refine Runs.isC ?_); refine Runs.cond rfl (zc ?_) (zc ?_) <;> intro hc <;> (try (first | contradiction | (exfalso; omega; done) | (have : hc = trivial := rfl; clear this; clear hc))))) | ((with_reducible refine r_is ?_); first | refine yr ?_ | (refine r_fn rfl (hg _ _) (hb) zL2 zD ?_; refine r_nn zN zH ?_)) | fail)
    (refine Runs.ret1 Try.func53 rfl zM zD ?_; try exact zX)
theorem equal_edges (f g : Bool) (l : List (Int × Int)) : AM.Fn Try.prog 55 [.sl f (l.map edV), .sl g (l.map edV)] (.b true) := by
  (refine spec_of_runs Try.func55 rfl ?_; simp only [Try.f55]; refine ys ?_)
  (refine Runs.lens 0 ?_; refine yl ?_)
  intro hl
  repeat' (first | refine yw ?_ | ((with_reducible refine Runs.is ?_); first | refine Runs.region (id := 0) ?_ | refine Runs.region (id := 1) ?_ | refine Runs.region (id := 2) ?_ | refine Runs.region (id := 3) ?_ | ((with_reducible refine Runs.isC ?_); refine Runs.cond rfl (zc ?_) (zc ?_) <;> intro hc <;> (try (first | contradiction | (exfalso; omega; done) | (have : hc = trivial := rfl; clear this; clear hc))))) | ((with_reducible refine r_is ?_); first | refine yr ?_) | fail)
  all_goals (try (exfalso; simp at hc; done))
  refine Runs.loopI (fun i : Nat => l.length - i) (fun i => i ≤ l.length)
    (fun i => ⟨[.sl f (l.map edV), .sl g (l.map edV), .any, .any, .any, .any, .any, .any, .any, .any, .any, .any, .i (l.length : Nat), .i (i : Nat), .any, .any, .any, .any, .any, .any, .any, .any, .any, .any, .any, .any], []⟩) 0 (by simp) ?_ ?_
  · (refine St.Le.clean zR (by simp [V.usesL, V.uses, AM.look_cons, AM.look_nil, V.uses_data, da_i, da_chV, da_ruV, da_prV, da_enV, da_cfV, da_veV, da_inV, da_edV, da_grV, da_weV, da_mbV, da_suV, da_viV]) (by simp [AM.sub, AM.look_cons, AM.look_nil, V.uses, V.usesL, V.uses_data, da_i, da_chV, da_ruV, da_prV, da_enV, da_cfV, da_veV, da_inV, da_edV, da_grV, da_weV, da_mbV, da_suV, da_viV]))
  rintro i h0 ih
  repeat' (first | refine yw ?_ | ((with_reducible refine Runs.is ?_); first | refine Runs.region (id := 4) ?_ | refine Runs.region (id := 5) ?_ | refine Runs.drawn (id := 6) mixed zK ?_ | refine Runs.region (id := 7) ?_ | refine Runs.region (id := 8) ?_ | refine Runs.region (id := 9) ?_ | ((with_reducible refine Runs.isC ?_); refine Runs.cond rfl (zc ?_) (zc ?_) <;> intro hc <;> (try (first | contradiction | (exfalso; omega; done) | (have : hc = trivial := rfl; clear this; clear hc))))) | ((with_reducible refine r_is ?_); first | refine yr ?_) | ((with_reducible refine d_is ?_); first | refine yd ?_) | fail)
  all_goals (try (exfalso; simp at hc; done))
  · refine ih (i + 1) _ zo zo (by (refine St.Le.clean zR (by simp [V.usesL, V.uses, AM.look_cons, AM.look_nil, V.uses_data, da_i, da_chV, da_ruV, da_prV, da_enV, da_cfV, da_veV, da_inV, da_edV, da_grV, da_weV, da_mbV, da_suV, da_viV]) (by simp [AM.sub, AM.look_cons, AM.look_nil, V.uses, V.usesL, V.uses_data, da_i, da_chV, da_ruV, da_prV, da_enV, da_cfV, da_veV, da_inV, da_edV, da_grV, da_weV, da_mbV, da_suV, da_viV])))
  · (refine Runs.ret1 Try.func55 rfl zM zD ?_; try exact zX)
theorem graph_Equal_refl (g : Graph) (h : ∀ c ∈ g.nodes, containsB c c = true) : AM.Fn Try.prog 21 [grV g, grV g] (.b true) := by
  obtain ⟨nodes, edges⟩ := g
  (refine spec_of_runs Try.func21 rfl ?_; simp only [Try.f21]; refine ys ?_)
  repeat' (first | refine yw ?_ | ((with_reducible refine Runs.is ?_); first | refine Runs.region ?_ | ((with_reducible refine Runs.isC ?_); refine Runs.cond rfl (zc ?_) (zc ?_) <;> intro hc <;> (try (first | contradiction | (exfalso; omega; done) | (have : hc = trivial := rfl; clear this; clear hc))))) | ((with_reducible refine r_is ?_); first | refine yr ?_ | (refine r_fn rfl (equalFunc_refl false false nodes 54 (fun a b => containsB a b && containsB b a) (fun x y => config_Equal false false x y) hb54 (fun x hx => by rw [h x hx]; rfl)) HbF.h zL3 zD ?_; refine r_nn zN zH ?_) | (refine r_fn rfl (equal_edges false false edges) HbF.h zL2 zD ?_; refine r_nn zN zH ?_) | ((with_reducible refine r_gd ?_); (first | refine r_guardPt rfl rfl ?_ ?_ | refine r_guardNt rfl rfl ?_ ?_ | refine r_guard rfl rfl ?_ ?_) <;> intro hG <;> (try (exfalso; omega; done)) <;> refine r_nn zN zH ?_)) | fail)
  (refine Runs.ret1 Try.func21 rfl zM zD ?_; try exact zX)
theorem ref_EqualInts (f g : Bool) (a b : List Int) : AM.Fn Try.prog 26 [.sl f (a.map .i), .sl g (b.map .i)] (.b (decide (a = b))) := by
  (refine spec_of_runs Try.func26 rfl ?_; simp only [Try.f26]; refine ys ?_)
  (refine Runs.lens 0 ?_; refine yl ?_)
  intro hl0
  repeat' (first | refine yw ?_ | ((with_reducible refine Runs.is ?_); first | refine Runs.region (id := 0) ?_ | refine Runs.region (id := 1) ?_ | refine Runs.region (id := 2) ?_ | refine Runs.region (id := 3) ?_ | ((with_reducible refine Runs.isC ?_); refine Runs.cond rfl (zc ?_) (zc ?_) <;> intro hc <;> (try (first | contradiction | (exfalso; omega; done) | (have : hc = trivial := rfl; clear this; clear hc))))) | ((with_reducible refine r_is ?_); first | refine yr ?_) | fail)
  all_goals (try ((refine Runs.ret1 Try.func26 rfl zM zD ?_; try exact zX); rw [decide_eq_false (by intro e; subst e; simp at *)]; exact V.Le.refl _))
  refine Runs.loopI (fun i : Nat => a.length - i) (fun i => i ≤ a.length ∧ a.take i = b.take i)
    (fun i => ⟨[.sl f (a.map .i), .sl g (b.map .i), .any, .any, .any, .i (i : Nat), .any, .any, .any, .any, .any, .any, .any, .any, .any, .any, .any, .any, .any, .any, .any, .any, .any, .any, .any, .any], []⟩) 0 (by simp) ?_ ?_
  · (refine St.Le.clean zR (by simp [V.usesL, V.uses, AM.look_cons, AM.look_nil, V.uses_data, da_i, da_chV, da_ruV, da_prV, da_enV, da_cfV, da_veV, da_inV, da_edV, da_grV, da_weV, da_mbV, da_suV, da_viV]) (by simp [AM.sub, AM.look_cons, AM.look_nil, V.uses, V.usesL, V.uses_data, da_i, da_chV, da_ruV, da_prV, da_enV, da_cfV, da_veV, da_inV, da_edV, da_grV, da_weV, da_mbV, da_suV, da_viV]))
  rintro i ⟨h0, h1⟩ ih
  repeat' (first | refine yw ?_ | ((with_reducible refine Runs.is ?_); first | refine Runs.region (id := 4) ?_ | refine Runs.drawn (id := 6) mixed zK ?_ | refine Runs.region (id := 7) ?_ | refine Runs.region (id := 5) ?_ | refine Runs.region (id := 8) ?_ | ((with_reducible refine Runs.isC ?_); refine Runs.cond rfl (zc ?_) (zc ?_) <;> intro hc <;> (try (first | contradiction | (exfalso; omega; done) | (have : hc = trivial := rfl; clear this; clear hc))))) | ((with_reducible refine r_is ?_); first | refine yr ?_) | ((with_reducible refine d_is ?_); first | refine yd ?_) | fail)
  · (refine Runs.ret1 Try.func26 rfl zM zD ?_; try exact zX)
    rw [decide_eq_false (ne_at hc)]; exact V.Le.refl _
  · refine ih (i + 1) _ ⟨by omega, take_eq_succ zo zo h1 hc⟩ zo (by (refine St.Le.clean zR (by simp [V.usesL, V.uses, AM.look_cons, AM.look_nil, V.uses_data, da_i, da_chV, da_ruV, da_prV, da_enV, da_cfV, da_veV, da_inV, da_edV, da_grV, da_weV, da_mbV, da_suV, da_viV]) (by simp [AM.sub, AM.look_cons, AM.look_nil, V.uses, V.usesL, V.uses_data, da_i, da_chV, da_ruV, da_prV, da_enV, da_cfV, da_veV, da_inV, da_edV, da_grV, da_weV, da_mbV, da_suV, da_viV])))
  · (refine Runs.ret1 Try.func26 rfl zM zD ?_; try exact zX)
    rw [decide_eq_true (eq_of_take zo zo h1)]; exact V.Le.refl _
end Go.Proofs
