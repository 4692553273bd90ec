/- Package member: Join, Initial, Of, Summarize, View. -/
import Derived.Test.YtmhnmookgbmmbaaGreatW44
set_option linter.unusedVariables false
set_option linter.unusedSimpArgs false
set_option maxRecDepth 8000
set_option maxHeartbeats 4000000
set_option pp.deepTerms false
set_option pp.deepTerms.threshold 6
namespace Go.Proofs
open Go.AM
attribute [local irreducible] AM.evalR AM.evalD AM.Runs AM.valK AM.dK AM.opK AM.stepR AM.CallS AM.St.Le
/-- The summary whose rule a union takes. -/
def joinR (a b : Summary) : Summary := if b.rule ≠ ⟨0, 0, 0⟩ ∧ (a.rule = ⟨0, 0, 0⟩ ∨ newerW (originW a) (originW b) = true) then b else a
def joinS (a b : Summary) : Summary := ⟨unionI a.joined b.joined, unionI a.removed b.removed, weightsI a.weights b.weights, (joinR a b).rule, (joinR a b).version, (joinR a b).admin, (joinR a b).number⟩
theorem rz_p {r : Rule} {b : Bool} (e : eqCells [.i r.kind, .i r.columns, .i r.faulty] [.i 0, .i 0, .i 0] = b) : decide (r = ⟨0, 0, 0⟩) = b := (eqc_ru0 r).symm.trans e
theorem rz_n {r : Rule} {b : Bool} (e : (!eqCells [.i r.kind, .i r.columns, .i r.faulty] [.i 0, .i 0, .i 0]) = b) : decide (r = ⟨0, 0, 0⟩) = !b := by rw [← e, Bool.not_not]; exact (eqc_ru0 r).symm
theorem member_Join (a b : Summary) (hJ : AM.Fn Tryz.prog 90 [.sl false (a.joined.map .i), .sl false (b.joined.map .i)] (.sl false ((unionI a.joined b.joined).map .i)))
    (hR : AM.Fn Tryz.prog 90 [.sl false (a.removed.map .i), .sl false (b.removed.map .i)] (.sl false ((unionI a.removed b.removed).map .i)))
    (hW : AM.Fn Tryz.prog 91 [.sl false (a.weights.map weV), .sl false (b.weights.map weV)] (.sl false ((weightsI a.weights b.weights).map weV))) :
    AM.Fn Tryz.prog 66 [suV a, suV b] (suV (joinS a b)) := by
  have hN := member_newer (originW a) (originW b)
  rw [show decide (0 < orI [cmpI (originW b).version (originW a).version, cmpI (originW b).admin (originW a).admin, cmpI (originW b).number (originW a).number]) = newerW (originW a) (originW b) from rfl] at hN
  have hgo : ∀ r, joinR a b = r → (⟨unionI a.joined b.joined, unionI a.removed b.removed, weightsI a.weights b.weights, r.rule, r.version, r.admin, r.number⟩ : Summary) = joinS a b := fun r h => by subst h; rfl
  generalize joinS a b = res at *
  unfold joinR at hgo
  (refine spec_of_runs Tryz.func66 rfl ?_; simp only [Tryz.f66]; refine ys ?_)
  repeat' (first | refine yw ?_ | ((with_reducible refine Runs.is ?_); first | refine Runs.region (id := 0) ?_ | refine Runs.region (id := 1) ?_ | ((with_reducible refine Runs.isC ?_); refine Runs.cond rfl (zc ?_) (zc ?_) <;> intro hc <;> (try (first | contradiction | (exfalso; omega; done) | (have : hc = trivial := rfl; clear this; clear hc))))) | ((with_reducible refine r_is ?_); first | refine yr ?_) | fail)
  repeat' (first | refine yw ?_ | ((with_reducible refine Runs.is ?_); first | refine Runs.drawn (id := 2) mixed zK ?_ | ((with_reducible refine Runs.isC ?_); refine Runs.cond rfl (zc ?_) (zc ?_) <;> intro hc <;> (try (first | contradiction | (exfalso; omega; done) | (have : hc = trivial := rfl; clear this; clear hc))))) | ((with_reducible refine d_is ?_); first | refine yd ?_ | (refine d_fn rfl (member_origin a) HbF.h zL1 zD ?_; refine d_nn zN zH ?_) | (refine d_fn rfl (member_origin b) HbF.h zL1 zD ?_; refine d_nn zN zH ?_) | (refine d_fn rfl (hN) HbF.h zL2 zD ?_; refine d_nn zN zH ?_) | ((with_reducible refine d_gd ?_); (first | refine d_guardPf rfl rfl ?_ ?_ | refine d_guardNf rfl rfl ?_ ?_ | refine d_guardPt rfl rfl ?_ ?_ | refine d_guardNt rfl rfl ?_ ?_ | refine d_guard rfl rfl ?_ ?_) <;> intro hG <;> (try (exfalso; omega; done)) <;> refine d_nn zN zH ?_)) | fail)
  · rename_i h1
    have hr := hgo b (if_pos ⟨of_decide_eq_false (rz_n h1), .inr hc⟩)
    subst hr
    clear hgo hG h1 hc
    repeat' (first | refine yw ?_ | ((with_reducible refine Runs.is ?_); first | refine Runs.region (id := 3) ?_ | refine Runs.drawn (id := 4) mixed zK ?_ | ((with_reducible refine Runs.isC ?_); refine Runs.cond rfl (zc ?_) (zc ?_) <;> intro hc <;> (try (first | contradiction | (exfalso; omega; done) | (have : hc = trivial := rfl; clear this; clear hc))))) | ((with_reducible refine r_is ?_); first | refine yr ?_) | ((with_reducible refine d_is ?_); first | refine yd ?_ | (refine d_fn rfl (hJ) HbF.h zL2 zD ?_; refine d_nn zN zH ?_) | (refine d_fn rfl (hR) HbF.h zL2 zD ?_; refine d_nn zN zH ?_) | (refine d_fn rfl (hW) HbF.h zL2 zD ?_; refine d_nn zN zH ?_)) | fail)
    (refine Runs.retC Tryz.func66 rfl zM rfl TyF.h (And.intro zE zd) zD ?_; try exact zX)
  · have hr := hgo a (if_neg (fun q => q.2.elim (of_decide_eq_false (rz_p hG)) (fun e => by rw [hc] at e; cases e)))
    subst hr
    clear hgo hG hc
    repeat' (first | refine yw ?_ | ((with_reducible refine Runs.is ?_); first | refine Runs.region (id := 3) ?_ | refine Runs.drawn (id := 4) mixed zK ?_ | ((with_reducible refine Runs.isC ?_); refine Runs.cond rfl (zc ?_) (zc ?_) <;> intro hc <;> (try (first | contradiction | (exfalso; omega; done) | (have : hc = trivial := rfl; clear this; clear hc))))) | ((with_reducible refine r_is ?_); first | refine yr ?_) | ((with_reducible refine d_is ?_); first | refine yd ?_ | (refine d_fn rfl (hJ) HbF.h zL2 zD ?_; refine d_nn zN zH ?_) | (refine d_fn rfl (hR) HbF.h zL2 zD ?_; refine d_nn zN zH ?_) | (refine d_fn rfl (hW) HbF.h zL2 zD ?_; refine d_nn zN zH ?_)) | fail)
    (refine Runs.retC Tryz.func66 rfl zM rfl TyF.h (And.intro zE zd) zD ?_; try exact zX)
  · rename_i h1
    have hr := hgo b (if_pos ⟨of_decide_eq_false (rz_n h1), .inl (of_decide_eq_true (rz_p hG))⟩)
    subst hr
    clear hgo hG h1
    repeat' (first | refine yw ?_ | ((with_reducible refine Runs.is ?_); first | refine Runs.region (id := 3) ?_ | refine Runs.drawn (id := 4) mixed zK ?_ | ((with_reducible refine Runs.isC ?_); refine Runs.cond rfl (zc ?_) (zc ?_) <;> intro hc <;> (try (first | contradiction | (exfalso; omega; done) | (have : hc = trivial := rfl; clear this; clear hc))))) | ((with_reducible refine r_is ?_); first | refine yr ?_) | ((with_reducible refine d_is ?_); first | refine yd ?_ | (refine d_fn rfl (hJ) HbF.h zL2 zD ?_; refine d_nn zN zH ?_) | (refine d_fn rfl (hR) HbF.h zL2 zD ?_; refine d_nn zN zH ?_) | (refine d_fn rfl (hW) HbF.h zL2 zD ?_; refine d_nn zN zH ?_)) | fail)
    (refine Runs.retC Tryz.func66 rfl zM rfl TyF.h (And.intro zE zd) zD ?_; try exact zX)
  · have hr := hgo a (if_neg (fun q => q.1 (of_decide_eq_true (rz_n hG))))
    subst hr
    clear hgo hG
    repeat' (first | refine yw ?_ | ((with_reducible refine Runs.is ?_); first | refine Runs.region (id := 3) ?_ | refine Runs.drawn (id := 4) mixed zK ?_ | ((with_reducible refine Runs.isC ?_); refine Runs.cond rfl (zc ?_) (zc ?_) <;> intro hc <;> (try (first | contradiction | (exfalso; omega; done) | (have : hc = trivial := rfl; clear this; clear hc))))) | ((with_reducible refine r_is ?_); first | refine yr ?_) | ((with_reducible refine d_is ?_); first | refine yd ?_ | (refine d_fn rfl (hJ) HbF.h zL2 zD ?_; refine d_nn zN zH ?_) | (refine d_fn rfl (hR) HbF.h zL2 zD ?_; refine d_nn zN zH ?_) | (refine d_fn rfl (hW) HbF.h zL2 zD ?_; refine d_nn zN zH ?_)) | fail)
    (refine Runs.retC Tryz.func66 rfl zM rfl TyF.h (And.intro zE zd) zD ?_; try exact zX)
end Go.Proofs
