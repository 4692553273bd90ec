/- Walks of small functions. -/
import Derived.Test.YtmhnmookgbmmbaaGreatHd
set_option linter.unusedVariables false
set_option linter.unusedSimpArgs false
set_option maxRecDepth 8000
set_option pp.deepTerms false
set_option pp.deepTerms.threshold 6
namespace Go.Proofs
open Go.AM
attribute [local irreducible] AM.evalR AM.evalD AM.Runs AM.valK AM.dK AM.opK AM.stepR AM.CallS AM.St.Le

theorem cmp_isNaN (a : Int) : AM.Fn Tryz.prog 101 [.i a] (.b false) := by
  (refine spec_of_runs Tryz.func101 rfl ?_; simp only [Tryz.f101]; refine ys ?_)
  repeat' (first | refine yw ?_ | ((with_reducible refine Runs.is ?_); first | refine Runs.region ?_ | ((with_reducible refine Runs.isC ?_); refine Runs.cond rfl (zc ?_) (zc ?_) <;> intro hc <;> (try (first | contradiction | (exfalso; omega; done) | (have : hc = trivial := rfl; clear this; clear hc))))) | ((with_reducible refine r_is ?_); first | refine yr ?_) | fail)
  (refine Runs.ret1 Tryz.func101 rfl zM zD ?_; try exact zX)
def cmpI (a b : Int) : Int := if a < b then -1 else if b < a then 1 else 0
theorem cmp_Compare (a b : Int) : AM.Fn Tryz.prog 86 [.i a, .i b] (.i (cmpI a b)) := by
  (refine spec_of_runs Tryz.func86 rfl ?_; simp only [Tryz.f86]; refine ys ?_)
  repeat' (first | refine yw ?_ | ((with_reducible refine Runs.is ?_); first | refine Runs.region ?_ | ((with_reducible refine Runs.isC ?_); refine Runs.cond rfl (zc ?_) (zc ?_) <;> intro hc <;> (try (first | contradiction | (exfalso; omega; done) | (have : hc = trivial := rfl; clear this; clear hc))))) | ((with_reducible refine r_is ?_); first | refine yr ?_ | (refine r_fn rfl (cmp_isNaN _) HbF.h zL1 zD ?_; refine r_nn zN zH ?_)) | fail)
  all_goals ((refine Runs.ret1 Tryz.func86 rfl zM zD ?_; try exact zX))
  all_goals (refine V.Le.of_eq (congrArg V.i ?_); unfold cmpI; split <;> (try split) <;> omega)
def orI : List Int → Int
  | [] => 0
  | x :: xs => if x = 0 then orI xs else x
theorem orI_drop {xs : List Int} {i : Nat} (h : i < xs.length) : orI (xs.drop i) = if xs.getD i default = 0 then orI (xs.drop (i+1)) else xs.getD i default := by
  rw [drop_getD h]; rfl
theorem cmp_Or (f : Bool) (xs : List Int) : AM.Fn Tryz.prog 97 [.sl f (xs.map .i)] (.i (orI xs)) := by
  (refine spec_of_runs Tryz.func97 rfl ?_; simp only [Tryz.f97]; refine ys ?_)
  (refine Runs.lens 0 ?_; refine yl ?_)
  intro hl
  repeat' (first | refine yw ?_ | ((with_reducible refine Runs.is ?_); first | refine Runs.region ?_ | ((with_reducible refine Runs.isC ?_); refine Runs.cond rfl (zc ?_) (zc ?_) <;> intro hc <;> (try (first | contradiction | (exfalso; omega; done) | (have : hc = trivial := rfl; clear this; clear hc))))) | ((with_reducible refine r_is ?_); first | refine yr ?_) | fail)
  refine Runs.loopI (fun i : Nat => xs.length - i) (fun i => i ≤ xs.length ∧ orI (xs.drop i) = orI xs) (fun i => ⟨[.any, .any, .any, .i 0, .any, .any, .sl f (xs.map .i), .i (xs.length : Nat), .i (i : Nat), .any, .any, .any, .any, .any, .any, .any, .any, .any], []⟩) 0 (by simp) ?_ ?_
  · (refine St.Le.clean zR (by simp [V.usesL, V.uses, AM.look_cons, AM.look_nil, V.uses_data, da_i, da_chV, da_ruV, da_prV, da_enV, da_cfV, da_veV, da_inV, da_edV, da_grV, da_weV, da_mbV, da_suV, da_viV]) (by simp [AM.sub, AM.look_cons, AM.look_nil, V.uses, V.usesL, V.uses_data, da_i, da_chV, da_ruV, da_prV, da_enV, da_cfV, da_veV, da_inV, da_edV, da_grV, da_weV, da_mbV, da_suV, da_viV]))
  rintro i ⟨h1, h2⟩ ih
  repeat' (first | refine yw ?_ | ((with_reducible refine Runs.is ?_); first | refine Runs.region ?_ | ((with_reducible refine Runs.isC ?_); refine Runs.cond rfl (zc ?_) (zc ?_) <;> intro hc <;> (try (first | contradiction | (exfalso; omega; done) | (have : hc = trivial := rfl; clear this; clear hc))))) | ((with_reducible refine r_is ?_); first | refine yr ?_) | fail)
  · (refine Runs.ret1 Tryz.func97 rfl zM zD ?_; try exact zX)
    refine V.Le.of_eq (congrArg V.i ?_)
    rw [← h2, orI_drop zo, if_neg (by assumption)]
  · refine ih (i + 1) _ ⟨by omega, ?_⟩ zo (by (refine St.Le.clean zR (by simp [V.usesL, V.uses, AM.look_cons, AM.look_nil, V.uses_data, da_i, da_chV, da_ruV, da_prV, da_enV, da_cfV, da_veV, da_inV, da_edV, da_grV, da_weV, da_mbV, da_suV, da_viV]) (by simp [AM.sub, AM.look_cons, AM.look_nil, V.uses, V.usesL, V.uses_data, da_i, da_chV, da_ruV, da_prV, da_enV, da_cfV, da_veV, da_inV, da_edV, da_grV, da_weV, da_mbV, da_suV, da_viV])))
    rw [← h2, orI_drop (i := i) zo, if_pos (by assumption)]
  · (refine Runs.ret1 Tryz.func97 rfl zM zD ?_; try exact zX)
    rw [List.drop_eq_nil_of_le zo] at h2; rw [← h2]; exact V.Le.refl _
def cmpP (a b : Proposal) : Int := orI [cmpI a.admin b.admin, cmpI a.number b.number]
theorem proposal_Compare (p q : Proposal) : AM.Fn Tryz.prog 79 [prV p, prV q] (.i (cmpP p q)) := by
  (refine spec_of_runs Tryz.func79 rfl ?_; simp only [Tryz.f79]; refine ys ?_)
  repeat' (first | refine yw ?_ | ((with_reducible refine Runs.is ?_); first | refine Runs.region ?_ | refine Runs.drawn mixed zK ?_ | ((with_reducible refine Runs.isC ?_); refine Runs.cond rfl (zc ?_) (zc ?_) <;> intro hc <;> (try (first | contradiction | (exfalso; omega; done) | (have : hc = trivial := rfl; clear this; clear hc))))) | ((with_reducible refine r_is ?_); first | refine yr ?_) | ((with_reducible refine d_is ?_); first | refine yd ?_ | (refine d_fn rfl (cmp_Compare _ _) HbF.h zL2 zD ?_; refine d_nn zN zH ?_) | (refine d_fn rfl (cmp_Or true [_, _]) HbF.h zL1 zD ?_; refine d_nn zN zH ?_)) | fail)
  (refine Runs.ret1 Tryz.func79 rfl zM zD ?_; try exact zX)
end Go.Proofs
