/- The reference: equality, edges. -/
import Derived.Test.YtmhnmookgbmmbaaGreatW8
set_option linter.unusedVariables false
set_option linter.unusedSimpArgs false
set_option maxRecDepth 8000
set_option maxHeartbeats 4000000
set_option pp.deepTerms false
set_option pp.deepTerms.threshold 6
namespace Go.Proofs
open Go.AM
attribute [local irreducible] AM.evalR AM.evalD AM.Runs AM.valK AM.dK AM.opK AM.stepR AM.CallS AM.St.Le

theorem take_eq_succ {α : Type} [Inhabited α] {xs ys : List α} {i : Nat} (h1 : i < xs.length) (h2 : i < ys.length) (h : xs.take i = ys.take i) (he : xs.getD i default = ys.getD i default) : xs.take (i + 1) = ys.take (i + 1) := by
  rw [take_getD h1, take_getD h2, h, he]
theorem eq_of_take {α : Type} {xs ys : List α} {i : Nat} (hl : xs.length = ys.length) (hi : xs.length ≤ i) (h : xs.take i = ys.take i) : xs = ys := by
  rwa [List.take_of_length_le hi, List.take_of_length_le zo] at h
theorem ne_at {α : Type} [Inhabited α] {xs ys : List α} {i : Nat} (h : ¬ xs.getD i default = ys.getD i default) : ¬ xs = ys := fun e => h (by rw [e])
theorem prV_lens {p : Proposal} (h : (prV p).lens) : p.changes.length ≤ 9223372036854775807 := by
  have := h.2.2.1.1
  simpa using this
/-- 'EqualProposal' of the reference. -/
theorem ref_EqualProposal (p q : Proposal) : AM.Fn Tryz.prog 50 [prV p, prV q] (.b (decide (p = q))) := by
  (refine spec_of_runs Tryz.func50 rfl ?_; simp only [Tryz.f50]; refine ys ?_)
  (refine Runs.lens 0 ?_; refine yl ?_)
  intro hl0
  replace hl0 := prV_lens hl0
  repeat' (first | refine yw ?_ | ((with_reducible refine Runs.is ?_); first | refine Runs.region (id := 0) ?_ | refine Runs.region (id := 1) ?_ | refine Runs.region (id := 2) ?_ | refine Runs.region (id := 3) ?_ | ((with_reducible refine Runs.isC ?_); refine Runs.cond rfl (zc ?_) (zc ?_) <;> intro hc <;> (try (first | contradiction | (exfalso; omega; done) | (have : hc = trivial := rfl; clear this; clear hc))))) | ((with_reducible refine r_is ?_); first | refine yr ?_ | ((with_reducible refine r_gd ?_); (first | refine r_guardPf rfl rfl ?_ ?_ | refine r_guardNf rfl rfl ?_ ?_ | refine r_guard rfl rfl ?_ ?_) <;> intro hG <;> (try (exfalso; omega; done)) <;> refine r_nn zN zH ?_)) | fail)
  all_goals (try ((refine Runs.ret1 Tryz.func50 rfl zM zD ?_; try exact zX); rw [decide_eq_false (by intro e; subst e; simp at *)]; exact V.Le.refl _))
  refine Runs.loopI (fun i : Nat => p.changes.length - i) (fun i => i ≤ p.changes.length ∧ p.changes.take i = q.changes.take i)
    (fun i => ⟨[.any, .any, .ptr 2 0 0, .ptr 3 0 0, .any, .i (i : Nat), .any, .any, .any, .any, .any, .any, .any, .any, .any, .any, .any, .any, .any, .any, .any, .any, .any, .any, .any, .any, .any, .any, .any, .any, .any, .any, .any, .any, .any, .any, .any, .any, .any, .any, .any, .any, .any, .any, .any], [(3, .var 63 (prV q)), (2, .var 63 (prV p))]⟩) 0 (by simp) ?_ ?_
  · (refine St.Le.clean zR (by simp [V.usesL, V.uses, AM.look_cons, AM.look_nil, V.uses_data, da_i, da_chV, da_ruV, da_prV, da_enV, da_cfV, da_veV, da_inV, da_edV, da_grV, da_weV, da_mbV, da_suV, da_viV]) (by simp [AM.sub, AM.look_cons, AM.look_nil, V.uses, V.usesL, V.uses_data, da_i, da_chV, da_ruV, da_prV, da_enV, da_cfV, da_veV, da_inV, da_edV, da_grV, da_weV, da_mbV, da_suV, da_viV]))
  rintro i ⟨h0, h1⟩ ih
  have hpq : p = q ↔ p.changes = q.changes := ⟨fun e => by rw [e], fun e => by cases p; cases q; simp_all⟩
  repeat' (first | refine yw ?_ | ((with_reducible refine Runs.is ?_); first | refine Runs.region (id := 4) ?_ | refine Runs.drawn (id := 6) mixed zK ?_ | refine Runs.region (id := 7) ?_ | refine Runs.region (id := 5) ?_ | refine Runs.region (id := 8) ?_ | ((with_reducible refine Runs.isC ?_); refine Runs.cond rfl (zc ?_) (zc ?_) <;> intro hc <;> (try (first | contradiction | (exfalso; omega; done) | (have : hc = trivial := rfl; clear this; clear hc))))) | ((with_reducible refine r_is ?_); first | refine yr ?_) | ((with_reducible refine d_is ?_); first | refine yd ?_) | fail)
  · (refine Runs.ret1 Tryz.func50 rfl zM zD ?_; try exact zX)
    rw [decide_eq_false (by rw [hpq]; exact ne_at hc)]; exact V.Le.refl _
  · refine ih (i + 1) _ ⟨by omega, take_eq_succ zo zo h1 hc⟩ zo (by (refine St.Le.clean zR (by simp [V.usesL, V.uses, AM.look_cons, AM.look_nil, V.uses_data, da_i, da_chV, da_ruV, da_prV, da_enV, da_cfV, da_veV, da_inV, da_edV, da_grV, da_weV, da_mbV, da_suV, da_viV]) (by simp [AM.sub, AM.look_cons, AM.look_nil, V.uses, V.usesL, V.uses_data, da_i, da_chV, da_ruV, da_prV, da_enV, da_cfV, da_veV, da_inV, da_edV, da_grV, da_weV, da_mbV, da_suV, da_viV])))
  · (refine Runs.ret1 Tryz.func50 rfl zM zD ?_; try exact zX)
    rw [decide_eq_true (by rw [hpq]; exact eq_of_take zo zo h1)]; exact V.Le.refl _
/-- 'EqualConfig' of the reference. -/
theorem ref_EqualConfig (f g : Bool) (a b : Config) : AM.Fn Tryz.prog 24 [.sl f (a.map prV), .sl g (b.map prV)] (.b (decide (a = b))) := by
  (refine spec_of_runs Tryz.func24 rfl ?_; simp only [Tryz.f24]; refine ys ?_)
  (refine Runs.lens 0 ?_; refine yl ?_)
  intro hl0
  repeat' (first | refine yw ?_ | ((with_reducible refine Runs.is ?_); first | refine Runs.region (id := 0) ?_ | refine Runs.region (id := 1) ?_ | refine Runs.region (id := 2) ?_ | refine Runs.region (id := 3) ?_ | ((with_reducible refine Runs.isC ?_); refine Runs.cond rfl (zc ?_) (zc ?_) <;> intro hc <;> (try (first | contradiction | (exfalso; omega; done) | (have : hc = trivial := rfl; clear this; clear hc))))) | ((with_reducible refine r_is ?_); first | refine yr ?_) | fail)
  all_goals (try ((refine Runs.ret1 Tryz.func24 rfl zM zD ?_; try exact zX); rw [decide_eq_false (by intro e; subst e; simp at *)]; exact V.Le.refl _))
  refine Runs.loopI (fun i : Nat => a.length - i) (fun i => i ≤ a.length ∧ a.take i = b.take i)
    (fun i => ⟨[.sl f (a.map prV), .sl g (b.map prV), .any, .any, .any, .i (i : Nat), .any, .any, .any, .any, .any, .any, .any, .any, .any, .any, .any, .any, .any, .any, .any, .any, .any, .any, .any, .any, .any], []⟩) 0 (by simp) ?_ ?_
  · (refine St.Le.clean zR (by simp [V.usesL, V.uses, AM.look_cons, AM.look_nil, V.uses_data, da_i, da_chV, da_ruV, da_prV, da_enV, da_cfV, da_veV, da_inV, da_edV, da_grV, da_weV, da_mbV, da_suV, da_viV]) (by simp [AM.sub, AM.look_cons, AM.look_nil, V.uses, V.usesL, V.uses_data, da_i, da_chV, da_ruV, da_prV, da_enV, da_cfV, da_veV, da_inV, da_edV, da_grV, da_weV, da_mbV, da_suV, da_viV]))
  rintro i ⟨h0, h1⟩ ih
  repeat' (first | refine yw ?_ | ((with_reducible refine Runs.is ?_); first | refine Runs.region (id := 4) ?_ | refine Runs.drawn (id := 6) mixed zK ?_ | refine Runs.region (id := 7) ?_ | refine Runs.region (id := 5) ?_ | refine Runs.region (id := 8) ?_ | ((with_reducible refine Runs.isC ?_); refine Runs.cond rfl (zc ?_) (zc ?_) <;> intro hc <;> (try (first | contradiction | (exfalso; omega; done) | (have : hc = trivial := rfl; clear this; clear hc))))) | ((with_reducible refine r_is ?_); first | refine yr ?_) | ((with_reducible refine d_is ?_); first | refine yd ?_ | (refine d_fn rfl (ref_EqualProposal _ _) HbF.h zL2 zD ?_; refine d_nn zN zH ?_)) | fail)
  · (refine Runs.ret1 Tryz.func24 rfl zM zD ?_; try exact zX)
    rw [decide_eq_false (ne_at hc)]; exact V.Le.refl _
  · refine ih (i + 1) _ ⟨by omega, take_eq_succ zo zo h1 hc⟩ zo (by (refine St.Le.clean zR (by simp [V.usesL, V.uses, AM.look_cons, AM.look_nil, V.uses_data, da_i, da_chV, da_ruV, da_prV, da_enV, da_cfV, da_veV, da_inV, da_edV, da_grV, da_weV, da_mbV, da_suV, da_viV]) (by simp [AM.sub, AM.look_cons, AM.look_nil, V.uses, V.usesL, V.uses_data, da_i, da_chV, da_ruV, da_prV, da_enV, da_cfV, da_veV, da_inV, da_edV, da_grV, da_weV, da_mbV, da_suV, da_viV])))
  · (refine Runs.ret1 Tryz.func24 rfl zM zD ?_; try exact zX)
    rw [decide_eq_true (eq_of_take zo zo h1)]; exact V.Le.refl _
/-! Edges. -/
def edgeRow (P : Nat → Nat → Bool) (i m : Nat) : List (Int × Int) := ((List.range m).filter (P i)).map fun j : Nat => ((i : Int), (j : Int))
def edgesN (P : Nat → Nat → Bool) (n m : Nat) : List (Int × Int) := (List.range n).flatMap fun i => edgeRow P i m
theorem edgeRow_succ (P : Nat → Nat → Bool) (i m : Nat) : edgeRow P i (m + 1) = edgeRow P i m ++ if P i m then [((i : Int), (m : Int))] else [] := by
  unfold edgeRow
  rw [List.range_succ, List.filter_append, List.map_append]
  cases h : P i m <;> simp [h]
theorem edgesN_succ (P : Nat → Nat → Bool) (n m : Nat) : edgesN P (n + 1) m = edgesN P n m ++ edgeRow P n m := by
  unfold edgesN; rw [List.range_succ]; simp
theorem edgeRow_len (P : Nat → Nat → Bool) (i m : Nat) : (edgeRow P i m).length ≤ m := by
  unfold edgeRow; rw [List.length_map]; exact Nat.le_trans (List.length_filter_le _ _) (by simp)
theorem edgesN_len (P : Nat → Nat → Bool) (n m : Nat) : (edgesN P n m).length ≤ n * m := by
  induction n with
  | zero => simp [edgesN]
  | succ n ih => rw [edgesN_succ, List.length_append, Nat.add_mul, Nat.one_mul]; have := edgeRow_len P n m; omega
def adjR (nodes : List Config) (i j : Nat) : Bool := decide (((nodes.getD j default).length : Int) = (nodes.getD i default).length + 1) && containsR (nodes.getD j default) (nodes.getD i default)
def edgesR (nodes : List Config) : List (Int × Int) := edgesN (adjR nodes) nodes.length nodes.length
end Go.Proofs
