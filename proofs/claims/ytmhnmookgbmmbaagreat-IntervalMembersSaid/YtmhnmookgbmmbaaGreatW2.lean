/- Searching: BinarySearchFunc, has, Contains. -/
import Derived.Test.YtmhnmookgbmmbaaGreatW1
set_option linter.unusedVariables false
set_option linter.unusedSimpArgs false
set_option maxRecDepth 8000
set_option pp.deepTerms false
set_option pp.deepTerms.threshold 6
namespace Go.Proofs
open Go.AM
attribute [local irreducible] AM.evalR AM.evalD AM.Runs AM.valK AM.dK AM.opK AM.stepR AM.CallS AM.St.Le

/-- Where a binary search ends. -/
def bs (k : Nat → Int) (i j : Nat) : Nat := if h : i < j then (if k ((i + j) / 2) < 0 then bs k ((i + j) / 2 + 1) j else bs k i ((i + j) / 2)) else i
termination_by j - i
decreasing_by all_goals omega
theorem bsf_config (f : Bool) (c : Config) (p : Proposal) (g : FuncId) (k : Proposal → Int) (hg : ∀ x, AM.Fn Tryz.prog g [prV x, prV p] (.i (k x))) (hb : hasBody Tryz.prog g) :
    AM.Fn Tryz.prog 78 [.sl f (c.map prV), prV p, .fn g []]
      (.tup [.i (bs (fun i => k (c.getD i default)) 0 c.length : Nat), .b (decide (bs (fun i => k (c.getD i default)) 0 c.length < c.length ∧ k (c.getD (bs (fun i => k (c.getD i default)) 0 c.length) default) = 0))]) := by
  (refine spec_of_runs Tryz.func78 rfl ?_; simp only [Tryz.f78]; refine ys ?_)
  (refine Runs.lens 0 ?_; refine yl ?_)
  intro hl
  repeat' (first | refine yw ?_ | ((with_reducible refine Runs.is ?_); first | refine Runs.region (id := 0) ?_ | refine Runs.region (id := 1) ?_ | refine Runs.region (id := 2) ?_ | ((with_reducible refine Runs.isC ?_); refine Runs.cond rfl (zc ?_) (zc ?_) <;> intro hc <;> (try (first | contradiction | (exfalso; omega; done) | (have : hc = trivial := rfl; clear this; clear hc))))) | ((with_reducible refine r_is ?_); first | refine yr ?_) | fail)
  refine Runs.loopI (α := Nat × Nat) (fun a => a.2 - a.1) (fun a => a.1 ≤ a.2 ∧ a.2 ≤ c.length ∧ bs (fun i => k (c.getD i default)) a.1 a.2 = bs (fun i => k (c.getD i default)) 0 c.length)
    (fun a => ⟨[.sl f (c.map prV), .any, .fn g [], .any, .ptr 4 0 0, .any, .any, .any, .i (c.length : Nat), .i (a.1 : Nat), .i (a.2 : Nat), .any, .any, .any, .any, .any, .any, .any, .any, .any, .any, .any, .any, .any, .any, .any, .any, .any, .any, .any, .any, .any, .any, .any, .any, .any, .any, .any, .any, .any, .any, .any, .any, .any, .any, .any, .any, .any, .any], [(4, .var 63 (prV p))]⟩) (0, c.length) (by simp) ?_ ?_
  · (refine St.Le.clean zR (by simp [V.usesL, V.uses, AM.look_cons, AM.look_nil, V.uses_data, da_i, da_chV, da_ruV, da_prV, da_enV, da_cfV, da_veV, da_inV, da_edV, da_grV, da_weV, da_mbV, da_suV, da_viV]) (by simp [AM.sub, AM.look_cons, AM.look_nil, V.uses, V.usesL, V.uses_data, da_i, da_chV, da_ruV, da_prV, da_enV, da_cfV, da_veV, da_inV, da_edV, da_grV, da_weV, da_mbV, da_suV, da_viV]))
  rintro ⟨i, j⟩ ⟨h0, h1, h2⟩ ih
  dsimp only at h0 h1 h2
  repeat' (first | refine yw ?_ | ((with_reducible refine Runs.is ?_); first | refine Runs.region (id := 3) ?_ | refine Runs.region (id := 4) ?_ | refine Runs.drawn (id := 5) mixed zK ?_ | refine Runs.region (id := 6) ?_ | refine Runs.region (id := 7) ?_ | refine Runs.drawn (id := 8) mixed zK ?_ | ((with_reducible refine Runs.isC ?_); refine Runs.cond rfl (zc ?_) (zc ?_) <;> intro hc <;> (try (first | contradiction | (exfalso; omega; done) | (have : hc = trivial := rfl; clear this; clear hc))))) | ((with_reducible refine r_is ?_); first | refine yr ?_) | ((with_reducible refine d_is ?_); first | refine yd ?_ | (refine d_fn rfl (hg _) (hb) zL2 zD ?_; refine d_nn zN zH ?_) | ((with_reducible refine d_gd ?_); (first | refine d_guardPt rfl rfl ?_ ?_ | refine d_guardNt rfl rfl ?_ ?_ | refine d_guard rfl rfl ?_ ?_) <;> intro hG <;> (try (exfalso; omega; done)) <;> refine d_nn zN zH ?_)) | fail)
  · have e : (((i : Int) + (j : Int)) / 2).toNat = (i + j) / 2 := by omega
    rw [e] at hc
    refine ih ((i + j) / 2 + 1, j) _ ⟨by dsimp only; omega, h1, ?_⟩ (by dsimp only; omega) (by (refine St.Le.clean zR (by simp [V.usesL, V.uses, AM.look_cons, AM.look_nil, V.uses_data, da_i, da_chV, da_ruV, da_prV, da_enV, da_cfV, da_veV, da_inV, da_edV, da_grV, da_weV, da_mbV, da_suV, da_viV]) (by simp [AM.sub, AM.look_cons, AM.look_nil, V.uses, V.usesL, V.uses_data, da_i, da_chV, da_ruV, da_prV, da_enV, da_cfV, da_veV, da_inV, da_edV, da_grV, da_weV, da_mbV, da_suV, da_viV])))
    rw [← h2, bs.eq_1 _ i j]; simp_all
  · have e : (((i : Int) + (j : Int)) / 2).toNat = (i + j) / 2 := by omega
    rw [e] at hc
    refine ih (i, (i + j) / 2) _ ⟨by dsimp only; omega, by dsimp only; omega, ?_⟩ (by dsimp only; omega) (by (refine St.Le.clean zR (by simp [V.usesL, V.uses, AM.look_cons, AM.look_nil, V.uses_data, da_i, da_chV, da_ruV, da_prV, da_enV, da_cfV, da_veV, da_inV, da_edV, da_grV, da_weV, da_mbV, da_suV, da_viV]) (by simp [AM.sub, AM.look_cons, AM.look_nil, V.uses, V.usesL, V.uses_data, da_i, da_chV, da_ruV, da_prV, da_enV, da_cfV, da_veV, da_inV, da_edV, da_grV, da_weV, da_mbV, da_suV, da_viV])))
    rw [← h2, bs.eq_1 _ i j, dif_pos (by assumption), if_neg zo]
  all_goals (have e : bs (fun i => k (c.getD i default)) i j = i := by rw [bs.eq_1, dif_neg zo])
  all_goals (rw [e] at h2; (refine Runs.ret2 Tryz.func78 rfl zM zM zD ?_; try exact zX); refine V.Le.of_eq ?_; rw [← h2])
  · have hG' : i < c.length := by omega
    simp [hG']
  · have hG' : ¬ i < c.length := by omega
    simp [hG']
/-- 'has' of package config. -/
def hasB (c : Config) (p : Proposal) : Bool :=
  let r := bs (fun i => cmpP (c.getD i default) p) 0 c.length
  decide (r < c.length ∧ cmpP (c.getD r default) p = 0)
theorem config_has (f : Bool) (c : Config) (p : Proposal) : AM.Fn Tryz.prog 57 [.sl f (c.map prV), prV p] (.b (hasB c p)) := by
  (refine spec_of_runs Tryz.func57 rfl ?_; simp only [Tryz.f57]; refine ys ?_)
  repeat' (first | refine yw ?_ | ((with_reducible refine Runs.is ?_); first | refine Runs.region ?_ | ((with_reducible refine Runs.isC ?_); refine Runs.cond rfl (zc ?_) (zc ?_) <;> intro hc <;> (try (first | contradiction | (exfalso; omega; done) | (have : hc = trivial := rfl; clear this; clear hc))))) | ((with_reducible refine r_is ?_); first | refine yr ?_ | (refine r_fn rfl (bsf_config f c p _ (fun x => cmpP x p) (fun x => proposal_Compare x p) hb79) HbF.h zL3 zD ?_; refine r_nn zN zH ?_)) | fail)
  (refine Runs.ret1 Tryz.func57 rfl zM zD ?_; try exact zX)
def containsB (a b : Config) : Bool := b.all (hasB a)
theorem config_Contains (f g : Bool) (a b : Config) : AM.Fn Tryz.prog 35 [.sl f (a.map prV), .sl g (b.map prV)] (.b (containsB a b)) := by
  (refine spec_of_runs Tryz.func35 rfl ?_; simp only [Tryz.f35]; refine ys ?_)
  (refine Runs.lens 1 ?_; refine yl ?_)
  intro hl
  repeat' (first | refine yw ?_ | ((with_reducible refine Runs.is ?_); first | refine Runs.region (id := 0) ?_ | refine Runs.region (id := 1) ?_ | ((with_reducible refine Runs.isC ?_); refine Runs.cond rfl (zc ?_) (zc ?_) <;> intro hc <;> (try (first | contradiction | (exfalso; omega; done) | (have : hc = trivial := rfl; clear this; clear hc))))) | ((with_reducible refine r_is ?_); first | refine yr ?_) | fail)
  refine Runs.loopI (fun i : Nat => b.length - i) (fun i => i ≤ b.length ∧ ∀ k, k < i → hasB a (b.getD k default) = true)
    (fun i => ⟨[.sl f (a.map prV), .any, .any, .any, .any, .any, .any, .sl g (b.map prV), .i (b.length : Nat), .i (i : Nat), .any, .any, .any, .any, .any, .any, .any, .any], []⟩) 0 (by simp) ?_ ?_
  · (refine St.Le.clean zR (by simp [V.usesL, V.uses, AM.look_cons, AM.look_nil, V.uses_data, da_i, da_chV, da_ruV, da_prV, da_enV, da_cfV, da_veV, da_inV, da_edV, da_grV, da_weV, da_mbV, da_suV, da_viV]) (by simp [AM.sub, AM.look_cons, AM.look_nil, V.uses, V.usesL, V.uses_data, da_i, da_chV, da_ruV, da_prV, da_enV, da_cfV, da_veV, da_inV, da_edV, da_grV, da_weV, da_mbV, da_suV, da_viV]))
  rintro i ⟨h0, h1⟩ ih
  repeat' (first | refine yw ?_ | ((with_reducible refine Runs.is ?_); first | refine Runs.region (id := 2) ?_ | refine Runs.region (id := 3) ?_ | refine Runs.region (id := 4) ?_ | refine Runs.region (id := 5) ?_ | refine Runs.region (id := 6) ?_ | refine Runs.region (id := 7) ?_ | ((with_reducible refine Runs.isC ?_); refine Runs.cond rfl (zc ?_) (zc ?_) <;> intro hc <;> (try (first | contradiction | (exfalso; omega; done) | (have : hc = trivial := rfl; clear this; clear hc))))) | ((with_reducible refine r_is ?_); first | refine yr ?_ | (refine r_fn rfl (config_has f a _) HbF.h zL2 zD ?_; refine r_nn zN zH ?_)) | fail)
  · (refine Runs.ret1 Tryz.func35 rfl zM zD ?_; try exact zX)
    refine V.Le.of_eq (congrArg V.b ?_)
    symm; unfold containsB; rw [List.all_eq_false]
    exact ⟨b.getD i default, by simp [List.getD_eq_getElem?_getD, *], by simpa using hc⟩
  · refine ih (i + 1) _ ⟨by omega, ?_⟩ zo (by (refine St.Le.clean zR (by simp [V.usesL, V.uses, AM.look_cons, AM.look_nil, V.uses_data, da_i, da_chV, da_ruV, da_prV, da_enV, da_cfV, da_veV, da_inV, da_edV, da_grV, da_weV, da_mbV, da_suV, da_viV]) (by simp [AM.sub, AM.look_cons, AM.look_nil, V.uses, V.usesL, V.uses_data, da_i, da_chV, da_ruV, da_prV, da_enV, da_cfV, da_veV, da_inV, da_edV, da_grV, da_weV, da_mbV, da_suV, da_viV])))
    intro k hk
    by_cases e : k < i
    · exact h1 k e
    · have : k = i := by omega
      subst this; simpa using hc
  · (refine Runs.ret1 Tryz.func35 rfl zM zD ?_; try exact zX)
    refine V.Le.of_eq (congrArg V.b ?_)
    symm; unfold containsB; rw [List.all_eq_true]
    intro x hx
    obtain ⟨k, hk, rfl⟩ := List.mem_iff_getElem.1 hx
    have := h1 k zo
    simpa [List.getD_eq_getElem?_getD, hk] using this
end Go.Proofs
