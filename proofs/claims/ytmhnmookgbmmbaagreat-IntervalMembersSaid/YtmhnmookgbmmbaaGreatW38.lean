/- Lists of numbers: search, duplicate, Index, Contains. -/
import Derived.Test.YtmhnmookgbmmbaaGreatW16
set_option linter.unusedVariables false
set_option linter.unusedSimpArgs false
set_option maxRecDepth 8000
set_option maxHeartbeats 4000000
set_option pp.deepTerms false
set_option pp.deepTerms.threshold 6
namespace Go.Proofs
open Go.AM
attribute [local irreducible] AM.evalR AM.evalD AM.Runs AM.valK AM.dK AM.opK AM.stepR AM.CallS AM.St.Le
theorem cmp_Less (a b : Int) : AM.Fn Tryz.prog 115 [.i a, .i b] (.b (decide (a < b))) := by
  (refine spec_of_runs Tryz.func115 rfl ?_; simp only [Tryz.f115]; refine ys ?_)
  repeat' (first | refine yw ?_ | ((with_reducible refine Runs.is ?_); first | refine Runs.region ?_ | ((with_reducible refine Runs.isC ?_); refine Runs.cond rfl (zc ?_) (zc ?_) <;> intro hc <;> (try (first | contradiction | (exfalso; omega; done) | (have : hc = trivial := rfl; clear this; clear hc))))) | ((with_reducible refine r_is ?_); first | refine yr ?_ | (refine r_fn rfl (cmp_isNaN _) HbF.h zL1 zD ?_; refine r_nn zN zH ?_) | ((with_reducible refine r_gd ?_); (first | refine r_guardPf rfl rfl ?_ ?_ | refine r_guardNf rfl rfl ?_ ?_ | refine r_guardPt rfl rfl ?_ ?_ | refine r_guardNt rfl rfl ?_ ?_ | refine r_guard rfl rfl ?_ ?_) <;> intro hG <;> (try (exfalso; omega; done)) <;> refine r_nn zN zH ?_)) | fail)
  (refine Runs.ret1 Tryz.func115 rfl zM zD ?_; try exact zX)
theorem sl_isNaN (a : Int) : AM.Fn Tryz.prog 121 [.i a] (.b false) := by
  (refine spec_of_runs Tryz.func121 rfl ?_; simp only [Tryz.f121]; refine ys ?_)
  repeat' (first | refine yw ?_ | ((with_reducible refine Runs.is ?_); first | refine Runs.region ?_ | ((with_reducible refine Runs.isC ?_); refine Runs.cond rfl (zc ?_) (zc ?_) <;> intro hc <;> (try (first | contradiction | (exfalso; omega; done) | (have : hc = trivial := rfl; clear this; clear hc))))) | ((with_reducible refine r_is ?_); first | refine yr ?_) | fail)
  (refine Runs.ret1 Tryz.func121 rfl zM zD ?_; try exact zX)
def ltK (l : List Int) (x : Int) (t : Nat) : Int := if l.getD t default < x then -1 else 1
def bsI (l : List Int) (x : Int) : Nat := bs (ltK l x) 0 l.length
def foundI (l : List Int) (x : Int) : Bool := decide (bsI l x < l.length ∧ l.getD (bsI l x) default = x)
theorem ltK_neg {l : List Int} {x : Int} {t : Nat} : ltK l x t < 0 ↔ l.getD t default < x := by unfold ltK; split <;> omega
theorem search_ints (f : Bool) (l : List Int) (x : Int) : AM.Fn Tryz.prog 103 [.sl f (l.map .i), .i x] (.tup [.i (bsI l x : Nat), .b (foundI l x)]) := by
  (refine spec_of_runs Tryz.func103 rfl ?_; simp only [Tryz.f103]; refine ys ?_)
  (refine Runs.lens 0 ?_; refine yl ?_)
  intro hl
  repeat' (first | refine yw ?_ | ((with_reducible refine Runs.is ?_); first | refine Runs.region (id := 0) ?_ | refine Runs.region (id := 1) ?_ | refine Runs.region (id := 2) ?_ | ((with_reducible refine Runs.isC ?_); refine Runs.cond rfl (zc ?_) (zc ?_) <;> intro hc <;> (try (first | contradiction | (exfalso; omega; done) | (have : hc = trivial := rfl; clear this; clear hc))))) | ((with_reducible refine r_is ?_); first | refine yr ?_) | fail)
  refine Runs.loopI (α := Nat × Nat) (fun a => a.2 - a.1) (fun a => a.1 ≤ a.2 ∧ a.2 ≤ l.length ∧ bs (ltK l x) a.1 a.2 = bs (ltK l x) 0 l.length)
    (fun a => ⟨[.sl f (l.map .i), .i x, .any, .any, .any, .any, .i (l.length : Nat), .i (a.1 : Nat), .i (a.2 : Nat), .any, .any, .any, .any, .any, .any, .any, .any, .any, .any, .any, .any, .any, .any, .any, .any, .any, .any, .any, .any, .any, .any, .any, .any, .any, .any, .any, .any, .any, .any, .any, .any, .any, .any, .any, .any, .any, .any, .any, .any, .any, .any, .any, .any, .any], []⟩) (0, l.length) (by simp) ?_ ?_
  · (refine St.Le.clean zR zU zV)
  rintro ⟨i, j⟩ ⟨h0, h1, h2⟩ ih
  dsimp only at h0 h1 h2
  by_cases hij : i < j
  · repeat' (first | refine yw ?_ | ((with_reducible refine Runs.is ?_); first | refine Runs.region (id := 3) ?_ | refine Runs.region (id := 4) ?_ | refine Runs.region (id := 5) ?_ | refine Runs.region (id := 6) ?_ | refine Runs.region (id := 7) ?_ | ((with_reducible refine Runs.isC ?_); refine Runs.cond rfl (zc ?_) (zc ?_) <;> intro hc <;> (try (first | contradiction | (exfalso; omega; done) | (have : hc = trivial := rfl; clear this; clear hc))))) | ((with_reducible refine r_is ?_); first | refine yr ?_ | (refine r_fn rfl (cmp_Less _ _) HbF.h zL2 zD ?_; refine r_nn zN zH ?_)) | fail)
    · have e : (((i : Int) + (j : Int)) / 2).toNat = (i + j) / 2 := by omega
      rw [e] at hc
      refine ih ((i + j) / 2 + 1, j) _ ⟨by dsimp only; omega, h1, ?_⟩ (by dsimp only; omega) (by (refine St.Le.clean zR zU zV))
      rw [← h2, bs.eq_1 _ i j, dif_pos hij, if_pos (ltK_neg.2 hc)]
    · have e : (((i : Int) + (j : Int)) / 2).toNat = (i + j) / 2 := by omega
      rw [e] at hc
      refine ih (i, (i + j) / 2) _ ⟨by dsimp only; omega, by dsimp only; omega, ?_⟩ (by dsimp only; omega) (by (refine St.Le.clean zR zU zV))
      rw [← h2, bs.eq_1 _ i j, dif_pos hij, if_neg (fun h => by have := ltK_neg.1 h; omega)]
  · have e : bs (ltK l x) i j = i := by rw [bs.eq_1, dif_neg zo]
    rw [e] at h2
    have hr : bsI l x = i := h2.symm
    rw [foundI, hr]
    repeat' (first | refine yw ?_ | ((with_reducible refine Runs.is ?_); first | refine Runs.region (id := 3) ?_ | ((with_reducible refine Runs.isC ?_); refine Runs.cond rfl (zc ?_) (zc ?_) <;> intro hc <;> (try (first | contradiction | (exfalso; omega; done) | (have : hc = trivial := rfl; clear this; clear hc))))) | ((with_reducible refine r_is ?_); first | refine yr ?_) | fail)
    repeat' (first | refine yw ?_ | ((with_reducible refine Runs.is ?_); first | refine Runs.region (id := 8) ?_ | ((with_reducible refine Runs.isC ?_); refine Runs.cond rfl (zc ?_) (zc ?_) <;> intro hc <;> (try (first | contradiction | (exfalso; omega; done) | (have : hc = trivial := rfl; clear this; clear hc))))) | ((with_reducible refine r_is ?_); first | refine yr ?_ | (refine r_fn rfl (sl_isNaN _) HbF.h zL1 zD ?_; refine r_nn zN zH ?_) | ((with_reducible refine r_gd ?_); (first | refine r_guardPf rfl rfl ?_ ?_ | refine r_guardNf rfl rfl ?_ ?_ | refine r_guardPt rfl rfl ?_ ?_ | refine r_guardNt rfl rfl ?_ ?_ | refine r_guard rfl rfl ?_ ?_) <;> intro hG <;> (try (exfalso; omega; done)) <;> refine r_nn zN zH ?_)) | fail)
    all_goals ((refine Runs.ret2 Tryz.func103 rfl zM zM zD ?_; try exact zX))
    all_goals (refine V.Le.of_eq ?_; congr 3; refine congrArg V.b (Eq.symm ?_); first | exact decide_eq_true ⟨by omega, hG⟩ | exact decide_eq_false (fun q => hG q.2) | exact decide_eq_false (fun q => by have := q.1; omega))
theorem duplicate_ints (f : Bool) (l : List Int) (hl : l.length ≤ 1000000000) : AM.Spec Tryz.prog 102 [.sl f (l.map .i)] [] (OwnPost 3 1 fun r => r = l.map .i) := by
  (refine spec_of_runs Tryz.func102 rfl ?_; simp only [Tryz.f102]; refine ys ?_)
  repeat' (first | refine yw ?_ | ((with_reducible refine Runs.is ?_); first | refine Runs.region ?_ | ((with_reducible refine Runs.isC ?_); refine Runs.cond rfl (zc ?_) (zc ?_) <;> intro hc <;> (try (first | contradiction | (exfalso; omega; done) | (have : hc = trivial := rfl; clear this; clear hc))))) | ((with_reducible refine r_is ?_); first | refine yr ?_ | (refine r_copyA SlF.h SlF.s rfl rfl rfl zC (by simp) ?_; refine r_nn zN zH ?_)) | fail)
  · obtain rfl : l = [] := List.eq_nil_of_length_eq_zero zo
    exact Runs.ret_nil Tryz.func102 rfl rfl zd rfl rfl
  · exact Runs.ret_own Tryz.func102 rfl rfl rfl rfl
theorem index_ints (f : Bool) (l : List Int) (x : Int) : AM.Fn Tryz.prog 87 [.sl f (l.map .i), .i x] (.i (idxF (fun y => decide (y = x)) l 0)) := by
  (refine spec_of_runs Tryz.func87 rfl ?_; simp only [Tryz.f87]; refine ys ?_)
  (refine Runs.lens 0 ?_; refine yl ?_)
  intro hl
  repeat' (first | refine yw ?_ | ((with_reducible refine Runs.is ?_); first | refine Runs.region (id := 0) ?_ | refine Runs.region (id := 1) ?_ | ((with_reducible refine Runs.isC ?_); refine Runs.cond rfl (zc ?_) (zc ?_) <;> intro hc <;> (try (first | contradiction | (exfalso; omega; done) | (have : hc = trivial := rfl; clear this; clear hc))))) | ((with_reducible refine r_is ?_); first | refine yr ?_) | fail)
  refine Runs.loopI (fun i : Nat => l.length - i) (fun i => i ≤ l.length ∧ idxF (fun y => decide (y = x)) (l.drop i) i = idxF (fun y => decide (y = x)) l 0)
    (fun i => ⟨[.sl f (l.map .i), .i x, .any, .any, .any, .any, .any, .i (l.length : Nat), .i (i : Nat), .any, .any, .any, .any, .any, .any, .any, .any, .any, .any], []⟩) 0 (by simp) ?_ ?_
  · (refine St.Le.clean zR zU zV)
  rintro i ⟨h0, h1⟩ ih
  by_cases hi : i < l.length
  · rw [drop_getD hi, idxF] at h1
    repeat' (first | refine yw ?_ | ((with_reducible refine Runs.is ?_); first | refine Runs.region (id := 2) ?_ | refine Runs.region (id := 3) ?_ | refine Runs.region (id := 4) ?_ | refine Runs.region (id := 5) ?_ | refine Runs.region (id := 6) ?_ | refine Runs.region (id := 7) ?_ | ((with_reducible refine Runs.isC ?_); refine Runs.cond rfl (zc ?_) (zc ?_) <;> intro hc <;> (try (first | contradiction | (exfalso; omega; done) | (have : hc = trivial := rfl; clear this; clear hc))))) | ((with_reducible refine r_is ?_); first | refine yr ?_) | fail)
    · (refine Runs.ret1 Tryz.func87 rfl zM zD ?_; try exact zX)
      rw [← h1, if_pos (by simpa using hc.symm)]; exact V.Le.refl _
    · refine ih (i + 1) _ ⟨by omega, by rw [← h1, if_neg (by simpa using fun e => hc e.symm)]⟩ zo ?_
      (refine St.Le.clean zR zU zV)
  · repeat' (first | refine yw ?_ | ((with_reducible refine Runs.is ?_); first | refine Runs.region (id := 2) ?_ | refine Runs.region (id := 3) ?_ | refine Runs.region (id := 4) ?_ | refine Runs.region (id := 5) ?_ | refine Runs.region (id := 6) ?_ | refine Runs.region (id := 7) ?_ | ((with_reducible refine Runs.isC ?_); refine Runs.cond rfl (zc ?_) (zc ?_) <;> intro hc <;> (try (first | contradiction | (exfalso; omega; done) | (have : hc = trivial := rfl; clear this; clear hc))))) | ((with_reducible refine r_is ?_); first | refine yr ?_) | fail)
    (refine Runs.ret1 Tryz.func87 rfl zM zD ?_; try exact zX)
    rw [← h1, List.drop_eq_nil_of_le zo]; exact V.Le.refl _
theorem contains_ints (f : Bool) (l : List Int) (x : Int) : AM.Fn Tryz.prog 64 [.sl f (l.map .i), .i x] (.b (l.contains x)) := by
  have h := index_ints f l x
  have e : l.contains x = decide (0 ≤ idxF (fun y => decide (y = x)) l 0) := by
    rw [idxF_any, List.contains_eq_any_beq]
    congr 1
    funext y
    rw [Bool.eq_iff_iff, beq_iff_eq, decide_eq_true_eq]; exact ⟨Eq.symm, Eq.symm⟩
  rw [e]
  (refine spec_of_runs Tryz.func64 rfl ?_; simp only [Tryz.f64]; refine ys ?_)
  repeat' (first | refine yw ?_ | ((with_reducible refine Runs.is ?_); first | refine Runs.region ?_ | ((with_reducible refine Runs.isC ?_); refine Runs.cond rfl (zc ?_) (zc ?_) <;> intro hc <;> (try (first | contradiction | (exfalso; omega; done) | (have : hc = trivial := rfl; clear this; clear hc))))) | ((with_reducible refine r_is ?_); first | refine yr ?_ | (refine r_fn rfl (h) HbF.h zL2 zD ?_; refine r_nn zN zH ?_)) | fail)
  (refine Runs.ret1 Tryz.func64 rfl zM zD ?_; try exact zX)
end Go.Proofs
