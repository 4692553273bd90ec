/- Contracts of functions and plain laws: W38, W39, W44, W42, W45, W43. -/
import Derived.Test.YtndpgjcmmjeoiaaGreatG1
set_option linter.unusedVariables false
set_option linter.unusedSimpArgs false
set_option maxRecDepth 8000
set_option maxHeartbeats 4000000
set_option pp.deepTerms false
set_option pp.deepTerms.threshold 6
namespace Go.Proofs
open Go.AM
attribute [local irreducible] AM.evalR AM.evalD AM.Runs AM.valK AM.dK AM.opK AM.stepR AM.CallS AM.St.Le
theorem cmp_Less (a b : Int) : AM.Fn Tryz.prog 262 [.i a, .i b] (.b (decide (a < b))) := by
  (refine spec_of_runs Tryz.func262 rfl ?_; simp only [Tryz.f262]; refine ys ?_)
  repeat' (first | refine yw ?_ | ((with_reducible refine Runs.is ?_); first | refine Runs.region ?_ | ((with_reducible refine Runs.isC ?_); refine Runs.cond rfl (zc ?_) (zc ?_) <;> intro hc <;> (try (first | contradiction | (exfalso; omega; done) | (have : hc = trivial := rfl; clear this; clear hc))))) | ((with_reducible refine r_is ?_); first | refine yr ?_ | (refine r_fn rfl (cmp_isNaN _) HbF.h zL1 zD ?_; refine r_nn zN zH ?_) | ((with_reducible refine r_gd ?_); (first | refine r_guardPf rfl rfl ?_ ?_ | refine r_guardNf rfl rfl ?_ ?_ | refine r_guardPt rfl rfl ?_ ?_ | refine r_guardNt rfl rfl ?_ ?_ | refine r_guard rfl rfl ?_ ?_) <;> intro hG <;> (try (exfalso; omega; done)) <;> refine r_nn zN zH ?_)) | fail)
  (refine Runs.ret1 Tryz.func262 rfl zM zD ?_; try exact zX)
theorem sl_isNaN (a : Int) : AM.Fn Tryz.prog 288 [.i a] (.b false) := by
  (refine spec_of_runs Tryz.func288 rfl ?_; simp only [Tryz.f288]; refine ys ?_)
  repeat' (first | refine yw ?_ | ((with_reducible refine Runs.is ?_); first | refine Runs.region ?_ | ((with_reducible refine Runs.isC ?_); refine Runs.cond rfl (zc ?_) (zc ?_) <;> intro hc <;> (try (first | contradiction | (exfalso; omega; done) | (have : hc = trivial := rfl; clear this; clear hc))))) | ((with_reducible refine r_is ?_); first | refine yr ?_) | fail)
  (refine Runs.ret1 Tryz.func288 rfl zM zD ?_; try exact zX)
def ltK (l : List Int) (x : Int) (t : Nat) : Int := if l.getD t default < x then -1 else 1
def bsI (l : List Int) (x : Int) : Nat := bs (ltK l x) 0 l.length
def foundI (l : List Int) (x : Int) : Bool := decide (bsI l x < l.length ∧ l.getD (bsI l x) default = x)
theorem ltK_neg {l : List Int} {x : Int} {t : Nat} : ltK l x t < 0 ↔ l.getD t default < x := by unfold ltK; split <;> omega
theorem search_ints (f : Bool) (l : List Int) (x : Int) : AM.Fn Tryz.prog 272 [.sl f (l.map .i), .i x] (.tup [.i (bsI l x : Nat), .b (foundI l x)]) := by
  (refine spec_of_runs Tryz.func272 rfl ?_; simp only [Tryz.f272]; refine ys ?_)
  (refine Runs.lens 0 ?_; refine yl ?_)
  intro hl
  repeat' (first | refine yw ?_ | ((with_reducible refine Runs.is ?_); first | refine Runs.region (id := 0) ?_ | refine Runs.region (id := 1) ?_ | refine Runs.region (id := 2) ?_ | ((with_reducible refine Runs.isC ?_); refine Runs.cond rfl (zc ?_) (zc ?_) <;> intro hc <;> (try (first | contradiction | (exfalso; omega; done) | (have : hc = trivial := rfl; clear this; clear hc))))) | ((with_reducible refine r_is ?_); first | refine yr ?_) | fail)
  refine Runs.loopI (α := Nat × Nat) (fun a => a.2 - a.1) (fun a => a.1 ≤ a.2 ∧ a.2 ≤ l.length ∧ bs (ltK l x) a.1 a.2 = bs (ltK l x) 0 l.length)
    (fun a => ⟨[.sl f (l.map .i), .i x, .any, .any, .any, .any, .i (l.length : Nat), .i (a.1 : Nat), .i (a.2 : Nat), .any, .any, .any, .any, .any, .any, .any, .any, .any, .any, .any, .any, .any, .any, .any, .any, .any, .any, .any, .any, .any, .any, .any, .any, .any, .any, .any, .any, .any, .any, .any, .any, .any, .any, .any, .any, .any, .any, .any, .any, .any, .any, .any, .any, .any], []⟩) (0, l.length) (by simp) ?_ ?_
  · (refine St.Le.clean zR zU zV)
  rintro ⟨i, j⟩ ⟨h0, h1, h2⟩ ih
  dsimp only at h0 h1 h2
  by_cases hij : i < j
  · repeat' (first | refine yw ?_ | ((with_reducible refine Runs.is ?_); first | refine Runs.region (id := 3) ?_ | refine Runs.region (id := 4) ?_ | refine Runs.region (id := 5) ?_ | refine Runs.region (id := 6) ?_ | refine Runs.region (id := 7) ?_ | ((with_reducible refine Runs.isC ?_); refine Runs.cond rfl (zc ?_) (zc ?_) <;> intro hc <;> (try (first | contradiction | (exfalso; omega; done) | (have : hc = trivial := rfl; clear this; clear hc))))) | ((with_reducible refine r_is ?_); first | refine yr ?_ | (refine r_fn rfl (cmp_Less _ _) HbF.h zL2 zD ?_; refine r_nn zN zH ?_)) | fail)
    · have e : (((i : Int) + (j : Int)) / 2).toNat = (i + j) / 2 := by omega
      rw [e] at hc
      refine ih ((i + j) / 2 + 1, j) _ ⟨by dsimp only; omega, h1, ?_⟩ (by dsimp only; omega) (by (refine St.Le.clean zR zU zV))
      rw [← h2, bs.eq_1 _ i j, dif_pos hij, if_pos (ltK_neg.2 hc)]
    · have e : (((i : Int) + (j : Int)) / 2).toNat = (i + j) / 2 := by omega
      rw [e] at hc
      refine ih (i, (i + j) / 2) _ ⟨by dsimp only; omega, by dsimp only; omega, ?_⟩ (by dsimp only; omega) (by (refine St.Le.clean zR zU zV))
      rw [← h2, bs.eq_1 _ i j, dif_pos hij, if_neg (fun h => by have := ltK_neg.1 h; omega)]
  · have e : bs (ltK l x) i j = i := by rw [bs.eq_1, dif_neg zo]
    rw [e] at h2
    have hr : bsI l x = i := h2.symm
    rw [foundI, hr]
    repeat' (first | refine yw ?_ | ((with_reducible refine Runs.is ?_); first | refine Runs.region (id := 3) ?_ | ((with_reducible refine Runs.isC ?_); refine Runs.cond rfl (zc ?_) (zc ?_) <;> intro hc <;> (try (first | contradiction | (exfalso; omega; done) | (have : hc = trivial := rfl; clear this; clear hc))))) | ((with_reducible refine r_is ?_); first | refine yr ?_) | fail)
    repeat' (first | refine yw ?_ | ((with_reducible refine Runs.is ?_); first | refine Runs.region (id := 8) ?_ | ((with_reducible refine Runs.isC ?_); refine Runs.cond rfl (zc ?_) (zc ?_) <;> intro hc <;> (try (first | contradiction | (exfalso; omega; done) | (have : hc = trivial := rfl; clear this; clear hc))))) | ((with_reducible refine r_is ?_); first | refine yr ?_ | (refine r_fn rfl (sl_isNaN _) HbF.h zL1 zD ?_; refine r_nn zN zH ?_) | ((with_reducible refine r_gd ?_); (first | refine r_guardPf rfl rfl ?_ ?_ | refine r_guardNf rfl rfl ?_ ?_ | refine r_guardPt rfl rfl ?_ ?_ | refine r_guardNt rfl rfl ?_ ?_ | refine r_guard rfl rfl ?_ ?_) <;> intro hG <;> (try (exfalso; omega; done)) <;> refine r_nn zN zH ?_)) | fail)
    all_goals ((refine Runs.ret2 Tryz.func272 rfl zM zM zD ?_; try exact zX))
    all_goals (refine V.Le.of_eq ?_; congr 3; refine congrArg V.b (Eq.symm ?_); first | exact decide_eq_true ⟨by omega, hG⟩ | exact decide_eq_false (fun q => hG q.2) | exact decide_eq_false (fun q => by have := q.1; omega))
theorem duplicate_ints (f : Bool) (l : List Int) (hl : l.length ≤ 1000000000) : AM.Spec Tryz.prog 271 [.sl f (l.map .i)] [] (OwnPost 3 1 fun r => r = l.map .i) := by
  (refine spec_of_runs Tryz.func271 rfl ?_; simp only [Tryz.f271]; refine ys ?_)
  repeat' (first | refine yw ?_ | ((with_reducible refine Runs.is ?_); first | refine Runs.region ?_ | ((with_reducible refine Runs.isC ?_); refine Runs.cond rfl (zc ?_) (zc ?_) <;> intro hc <;> (try (first | contradiction | (exfalso; omega; done) | (have : hc = trivial := rfl; clear this; clear hc))))) | ((with_reducible refine r_is ?_); first | refine yr ?_ | (refine r_copyA SlF.h SlF.s rfl rfl rfl zC (by simp) ?_; refine r_nn zN zH ?_)) | fail)
  · obtain rfl : l = [] := List.eq_nil_of_length_eq_zero zo
    exact Runs.ret_nil Tryz.func271 rfl rfl zd rfl rfl
  · exact Runs.ret_own Tryz.func271 rfl rfl rfl rfl
theorem index_ints (f : Bool) (l : List Int) (x : Int) : AM.Fn Tryz.prog 212 [.sl f (l.map .i), .i x] (.i (idxF (fun y => decide (y = x)) l 0)) := by
  (refine spec_of_runs Tryz.func212 rfl ?_; simp only [Tryz.f212]; refine ys ?_)
  (refine Runs.lens 0 ?_; refine yl ?_)
  intro hl
  repeat' (first | refine yw ?_ | ((with_reducible refine Runs.is ?_); first | refine Runs.region (id := 0) ?_ | refine Runs.region (id := 1) ?_ | ((with_reducible refine Runs.isC ?_); refine Runs.cond rfl (zc ?_) (zc ?_) <;> intro hc <;> (try (first | contradiction | (exfalso; omega; done) | (have : hc = trivial := rfl; clear this; clear hc))))) | ((with_reducible refine r_is ?_); first | refine yr ?_) | fail)
  refine Runs.loopI (fun i : Nat => l.length - i) (fun i => i ≤ l.length ∧ idxF (fun y => decide (y = x)) (l.drop i) i = idxF (fun y => decide (y = x)) l 0)
    (fun i => ⟨[.sl f (l.map .i), .i x, .any, .any, .any, .any, .any, .i (l.length : Nat), .i (i : Nat), .any, .any, .any, .any, .any, .any, .any, .any, .any, .any], []⟩) 0 (by simp) ?_ ?_
  · (refine St.Le.clean zR zU zV)
  rintro i ⟨h0, h1⟩ ih
  by_cases hi : i < l.length
  · rw [drop_getD hi, idxF] at h1
    repeat' (first | refine yw ?_ | ((with_reducible refine Runs.is ?_); first | refine Runs.region (id := 2) ?_ | refine Runs.region (id := 3) ?_ | refine Runs.region (id := 4) ?_ | refine Runs.region (id := 5) ?_ | refine Runs.region (id := 6) ?_ | refine Runs.region (id := 7) ?_ | ((with_reducible refine Runs.isC ?_); refine Runs.cond rfl (zc ?_) (zc ?_) <;> intro hc <;> (try (first | contradiction | (exfalso; omega; done) | (have : hc = trivial := rfl; clear this; clear hc))))) | ((with_reducible refine r_is ?_); first | refine yr ?_) | fail)
    · (refine Runs.ret1 Tryz.func212 rfl zM zD ?_; try exact zX)
      rw [← h1, if_pos (by simpa using hc.symm)]; exact V.Le.refl _
    · refine ih (i + 1) _ ⟨by omega, by rw [← h1, if_neg (by simpa using fun e => hc e.symm)]⟩ zo ?_
      (refine St.Le.clean zR zU zV)
  · repeat' (first | refine yw ?_ | ((with_reducible refine Runs.is ?_); first | refine Runs.region (id := 2) ?_ | refine Runs.region (id := 3) ?_ | refine Runs.region (id := 4) ?_ | refine Runs.region (id := 5) ?_ | refine Runs.region (id := 6) ?_ | refine Runs.region (id := 7) ?_ | ((with_reducible refine Runs.isC ?_); refine Runs.cond rfl (zc ?_) (zc ?_) <;> intro hc <;> (try (first | contradiction | (exfalso; omega; done) | (have : hc = trivial := rfl; clear this; clear hc))))) | ((with_reducible refine r_is ?_); first | refine yr ?_) | fail)
    (refine Runs.ret1 Tryz.func212 rfl zM zD ?_; try exact zX)
    rw [← h1, List.drop_eq_nil_of_le zo]; exact V.Le.refl _
theorem contains_ints (f : Bool) (l : List Int) (x : Int) : AM.Fn Tryz.prog 169 [.sl f (l.map .i), .i x] (.b (l.contains x)) := by
  have h := index_ints f l x
  have e : l.contains x = decide (0 ≤ idxF (fun y => decide (y = x)) l 0) := by
    rw [idxF_any, List.contains_eq_any_beq]
    congr 1
    funext y
    rw [Bool.eq_iff_iff, beq_iff_eq, decide_eq_true_eq]; exact ⟨Eq.symm, Eq.symm⟩
  rw [e]
  (refine spec_of_runs Tryz.func169 rfl ?_; simp only [Tryz.f169]; refine ys ?_)
  repeat' (first | refine yw ?_ | ((with_reducible refine Runs.is ?_); first | refine Runs.region ?_ | ((with_reducible refine Runs.isC ?_); refine Runs.cond rfl (zc ?_) (zc ?_) <;> intro hc <;> (try (first | contradiction | (exfalso; omega; done) | (have : hc = trivial := rfl; clear this; clear hc))))) | ((with_reducible refine r_is ?_); first | refine yr ?_ | (refine r_fn rfl (h) HbF.h zL2 zD ?_; refine r_nn zN zH ?_)) | fail)
  (refine Runs.ret1 Tryz.func169 rfl zM zD ?_; try exact zX)
end Go.Proofs
namespace Go.Proofs
open Go.AM
attribute [local irreducible] AM.evalR AM.evalD AM.Runs AM.valK AM.dK AM.opK AM.stepR AM.CallS AM.St.Le
def putI (l : List Int) (x : Int) : List Int := l.take (bsI l x) ++ x :: l.drop (bsI l x)
def insI (l : List Int) (x : Int) : List Int := if foundI l x then l else putI l x
def unionI (a b : List Int) : List Int := b.foldl insI a
def InsI (l : List Int) (x : Int) : Prop := AM.Gives Tryz.prog 273 1000 [.i (bsI l x : Nat), .sl true [.i x]] 3 1 (l.map .i) (fun r => r = (putI l x).map .i)
theorem member_union (f g : Bool) (a b : List Int) (ha : a.length ≤ 1000000000) (hI : ∀ k, k < b.length → foundI ((b.take k).foldl insI a) (b.getD k default) = false → InsI ((b.take k).foldl insI a) (b.getD k default)) :
    AM.Fn Tryz.prog 244 [.sl f (a.map .i), .sl g (b.map .i)] (.sl false ((unionI a b).map .i)) := by
  (refine spec_of_runs Tryz.func244 rfl ?_; simp only [Tryz.f244]; refine ys ?_)
  (refine Runs.lens 1 ?_; refine yl ?_)
  intro hlb
  repeat' (first | refine yw ?_ | ((with_reducible refine Runs.is ?_); first | refine Runs.region (id := 0) ?_ | refine Runs.region (id := 1) ?_ | refine Runs.region (id := 2) ?_ | ((with_reducible refine Runs.isC ?_); refine Runs.cond rfl (zc ?_) (zc ?_) <;> intro hc <;> (try (first | contradiction | (exfalso; omega; done) | (have : hc = trivial := rfl; clear this; clear hc))))) | ((with_reducible refine r_is ?_); first | refine yr ?_ | (refine r_own rfl (duplicate_ints f a ha) HbF.h zL1 zD rfl (fun _ hq _ => ?_); (try subst hq); refine r_nn zN zH ?_)) | fail)
  refine Runs.loopI (fun k : Nat => b.length - k) (fun k => k ≤ b.length)
    (fun k => ⟨[.any, .any, .any, .any, .any, .own 11, .any, .any, .any, .any, .any, .any, .sl g (b.map .i), .i (b.length : Nat), .i (k : Nat), .any, .any, .any, .any, .any, .any, .any, .any, .any, .any, .any, .any, .any, .any, .any, .any, .any, .any], [(11, .lst 3 1 (((b.take k).foldl insI a).map .i))]⟩) 0 (by simp) ?_ ?_
  · (refine St.Le.clean zR zU zV)
  rintro k hk ih
  have hst := fun (h : k < b.length) => foldl_take (g := insI) (s := a) h
  have hend : b.length ≤ k → (b.take k).foldl insI a = unionI a b := fun h => by rw [List.take_of_length_le h]; rfl
  have hIk := hI k
  generalize (b.take k).foldl insI a = l at hst hend hIk ⊢
  by_cases hlt : k < b.length
  · have hst2 := hst hlt
    have hI2 := hIk hlt
    by_cases hf : foundI l (b.getD k default) = true
    · rw [insI, if_pos hf] at hst2
      repeat' (first | refine yw ?_ | ((with_reducible refine Runs.is ?_); first | refine Runs.region (id := 3) ?_ | refine Runs.region (id := 4) ?_ | refine Runs.region (id := 5) ?_ | refine Runs.region (id := 6) ?_ | refine Runs.region (id := 7) ?_ | refine Runs.region (id := 8) ?_ | ((with_reducible refine Runs.isC ?_); refine Runs.cond rfl (zc ?_) (zc ?_) <;> intro hc <;> (try (first | contradiction | (exfalso; omega; done) | (have : hc = trivial := rfl; clear this; clear hc))))) | ((with_reducible refine r_is ?_); first | refine yr ?_ | (refine r_lend rfl (search_ints false _ _) HbF.h zY rfl ?_; refine r_nn zN zH ?_)) | fail)
      · exfalso; rw [hf] at hc; cases hc
      · refine ih (k + 1) _ zo zo ?_
        rw [hst2]
        (refine St.Le.clean zR zU zV)
    · have hf2 : foundI l (b.getD k default) = false := by simpa using hf
      rw [insI, if_neg hf] at hst2
      have hI3 := hI2 hf2
      unfold InsI at hI3
      repeat' (first | refine yw ?_ | ((with_reducible refine Runs.is ?_); first | refine Runs.region (id := 3) ?_ | refine Runs.region (id := 4) ?_ | refine Runs.region (id := 5) ?_ | refine Runs.region (id := 6) ?_ | refine Runs.region (id := 7) ?_ | refine Runs.region (id := 8) ?_ | ((with_reducible refine Runs.isC ?_); refine Runs.cond rfl (zc ?_) (zc ?_) <;> intro hc <;> (try (first | contradiction | (exfalso; omega; done) | (have : hc = trivial := rfl; clear this; clear hc))))) | ((with_reducible refine r_is ?_); first | refine yr ?_ | (refine r_lend rfl (search_ints false _ _) HbF.h zY rfl ?_; refine r_nn zN zH ?_) | (refine r_give rfl (hI3) HbF.h rfl rfl zL2 zD ?_; refine r_nn zN zH ?_)) | fail)
      · refine ih (k + 1) _ zo zo ?_
        rw [hst2]
        (refine St.Le.clean zR zU zV)
  · repeat' (first | refine yw ?_ | ((with_reducible refine Runs.is ?_); first | refine Runs.region (id := 3) ?_ | ((with_reducible refine Runs.isC ?_); refine Runs.cond rfl (zc ?_) (zc ?_) <;> intro hc <;> (try (first | contradiction | (exfalso; omega; done) | (have : hc = trivial := rfl; clear this; clear hc))))) | ((with_reducible refine r_is ?_); first | refine yr ?_) | fail)
    rw [hend zo]
    repeat' (first | refine yw ?_ | ((with_reducible refine Runs.is ?_); first | refine Runs.region (id := 9) ?_ | ((with_reducible refine Runs.isC ?_); refine Runs.cond rfl (zc ?_) (zc ?_) <;> intro hc <;> (try (first | contradiction | (exfalso; omega; done) | (have : hc = trivial := rfl; clear this; clear hc))))) | ((with_reducible refine r_is ?_); first | refine yr ?_) | fail)
    exact Runs.ret_frz Tryz.func244 rfl rfl rfl rfl
theorem member_newer (a b : WeightEntry) : AM.Fn Tryz.prog 242 [weV a, weV b] (.b (decide (0 < orI [cmpI b.version a.version, cmpI b.admin a.admin, cmpI b.number a.number]))) := by
  (refine spec_of_runs Tryz.func242 rfl ?_; simp only [Tryz.f242]; refine ys ?_)
  repeat' (first | refine yw ?_ | ((with_reducible refine Runs.is ?_); first | refine Runs.region ?_ | refine Runs.drawn mixed zK ?_ | ((with_reducible refine Runs.isC ?_); refine Runs.cond rfl (zc ?_) (zc ?_) <;> intro hc <;> (try (first | contradiction | (exfalso; omega; done) | (have : hc = trivial := rfl; clear this; clear hc))))) | ((with_reducible refine r_is ?_); first | refine yr ?_) | ((with_reducible refine d_is ?_); first | refine yd ?_ | (refine d_fn rfl (cmp_Compare _ _) HbF.h zL2 zD ?_; refine d_nn zN zH ?_) | (refine d_fn rfl (cmp_Or true [_, _, _]) HbF.h zL1 zD ?_; refine d_nn zN zH ?_)) | fail)
  (refine Runs.ret1 Tryz.func242 rfl zM zD ?_; try exact zX)
def newerW (a b : WeightEntry) : Bool := decide (0 < orI [cmpI b.version a.version, cmpI b.admin a.admin, cmpI b.number a.number])
def originW (s : Summary) : WeightEntry := ⟨0, 0, s.version, s.admin, s.number⟩
theorem member_origin (s : Summary) : AM.Fn Tryz.prog 243 [suV s] (weV (originW s)) := by
  (refine spec_of_runs Tryz.func243 rfl ?_; simp only [Tryz.f243]; refine ys ?_)
  repeat' (first | refine yw ?_ | ((with_reducible refine Runs.is ?_); first | refine Runs.region ?_ | ((with_reducible refine Runs.isC ?_); refine Runs.cond rfl (zc ?_) (zc ?_) <;> intro hc <;> (try (first | contradiction | (exfalso; omega; done) | (have : hc = trivial := rfl; clear this; clear hc))))) | ((with_reducible refine r_is ?_); first | refine yr ?_) | fail)
  (refine Runs.retC Tryz.func243 rfl zM rfl TyF.h (And.intro zE zd) zD ?_; try exact zX)
theorem weights1 (a b : WeightEntry) : AM.Fn Tryz.prog 276 [weV a, weV b] (.i (cmpI a.server b.server)) := by
  (refine spec_of_runs Tryz.func276 rfl ?_; simp only [Tryz.f276]; refine ys ?_)
  repeat' (first | refine yw ?_ | ((with_reducible refine Runs.is ?_); first | refine Runs.region ?_ | ((with_reducible refine Runs.isC ?_); refine Runs.cond rfl (zc ?_) (zc ?_) <;> intro hc <;> (try (first | contradiction | (exfalso; omega; done) | (have : hc = trivial := rfl; clear this; clear hc))))) | ((with_reducible refine r_is ?_); first | refine yr ?_ | (refine r_fn rfl (cmp_Compare _ _) HbF.h zL2 zD ?_; refine r_nn zN zH ?_)) | fail)
  (refine Runs.ret1 Tryz.func276 rfl zM zD ?_; try exact zX)
theorem duplicate_we (f : Bool) (l : List WeightEntry) (hl : l.length ≤ 1000000000) : AM.Spec Tryz.prog 274 [.sl f (l.map weV)] [] (OwnPost 241 5 fun r => r = l.map weV) := by
  (refine spec_of_runs Tryz.func274 rfl ?_; simp only [Tryz.f274]; refine ys ?_)
  repeat' (first | refine yw ?_ | ((with_reducible refine Runs.is ?_); first | refine Runs.region ?_ | ((with_reducible refine Runs.isC ?_); refine Runs.cond rfl (zc ?_) (zc ?_) <;> intro hc <;> (try (first | contradiction | (exfalso; omega; done) | (have : hc = trivial := rfl; clear this; clear hc))))) | ((with_reducible refine r_is ?_); first | refine yr ?_ | (refine r_copyA SlF.h SlF.s rfl rfl rfl zC (by simp) ?_; refine r_nn zN zH ?_)) | fail)
  · obtain rfl : l = [] := List.eq_nil_of_length_eq_zero zo
    exact Runs.ret_nil Tryz.func274 rfl rfl zd rfl rfl
  · exact Runs.ret_own Tryz.func274 rfl rfl rfl rfl
def weK (l : List WeightEntry) (w : WeightEntry) (t : Nat) : Int := cmpI (l.getD t default).server w.server
def bsW (l : List WeightEntry) (w : WeightEntry) : Nat := bs (weK l w) 0 l.length
def foundW (l : List WeightEntry) (w : WeightEntry) : Bool := decide (bsW l w < l.length ∧ cmpI (l.getD (bsW l w) default).server w.server = 0)
theorem search_we (f : Bool) (l : List WeightEntry) (w : WeightEntry) (g : FuncId) (hg : ∀ x, AM.Fn Tryz.prog g [weV x, weV w] (.i (cmpI x.server w.server))) (hb : hasBody Tryz.prog g) :
    AM.Fn Tryz.prog 275 [.sl f (l.map weV), weV w, .fn g []] (.tup [.i (bsW l w : Nat), .b (foundW l w)]) := by
  (refine spec_of_runs Tryz.func275 rfl ?_; simp only [Tryz.f275]; refine ys ?_)
  (refine Runs.lens 0 ?_; refine yl ?_)
  intro hl
  repeat' (first | refine yw ?_ | ((with_reducible refine Runs.is ?_); first | refine Runs.region (id := 0) ?_ | refine Runs.region (id := 1) ?_ | refine Runs.region (id := 2) ?_ | ((with_reducible refine Runs.isC ?_); refine Runs.cond rfl (zc ?_) (zc ?_) <;> intro hc <;> (try (first | contradiction | (exfalso; omega; done) | (have : hc = trivial := rfl; clear this; clear hc))))) | ((with_reducible refine r_is ?_); first | refine yr ?_) | fail)
  refine Runs.loopI (α := Nat × Nat) (fun a => a.2 - a.1) (fun a => a.1 ≤ a.2 ∧ a.2 ≤ l.length ∧ bs (weK l w) a.1 a.2 = bs (weK l w) 0 l.length)
    (fun a => ⟨[.sl f (l.map weV), .any, .fn g [], .any, .ptr 4 0 0, .any, .any, .any, .i (l.length : Nat), .i (a.1 : Nat), .i (a.2 : Nat), .any, .any, .any, .any, .any, .any, .any, .any, .any, .any, .any, .any, .any, .any, .any, .any, .any, .any, .any, .any, .any, .any, .any, .any, .any, .any, .any, .any, .any, .any, .any, .any, .any, .any, .any, .any, .any, .any], [(4, .var 241 (weV w))]⟩) (0, l.length) (by simp) ?_ ?_
  · (refine St.Le.clean zR zU zV)
  rintro ⟨i, j⟩ ⟨h0, h1, h2⟩ ih
  dsimp only at h0 h1 h2
  by_cases hij : i < j
  · repeat' (first | refine yw ?_ | ((with_reducible refine Runs.is ?_); first | refine Runs.region (id := 3) ?_ | refine Runs.region (id := 4) ?_ | refine Runs.drawn (id := 5) mixed zK ?_ | refine Runs.region (id := 6) ?_ | refine Runs.region (id := 7) ?_ | ((with_reducible refine Runs.isC ?_); refine Runs.cond rfl (zc ?_) (zc ?_) <;> intro hc <;> (try (first | contradiction | (exfalso; omega; done) | (have : hc = trivial := rfl; clear this; clear hc))))) | ((with_reducible refine r_is ?_); first | refine yr ?_) | ((with_reducible refine d_is ?_); first | refine yd ?_ | (refine d_fn rfl (hg _) (hb) zL2 zD ?_; refine d_nn zN zH ?_)) | fail)
    · have e : (((i : Int) + (j : Int)) / 2).toNat = (i + j) / 2 := by omega
      rw [e] at hc
      refine ih ((i + j) / 2 + 1, j) _ ⟨by dsimp only; omega, h1, ?_⟩ (by dsimp only; omega) (by (refine St.Le.clean zR zU zV))
      rw [← h2, bs.eq_1 _ i j, dif_pos hij, if_pos (show weK l w ((i + j) / 2) < 0 from hc)]
    · have e : (((i : Int) + (j : Int)) / 2).toNat = (i + j) / 2 := by omega
      rw [e] at hc
      refine ih (i, (i + j) / 2) _ ⟨by dsimp only; omega, by dsimp only; omega, ?_⟩ (by dsimp only; omega) (by (refine St.Le.clean zR zU zV))
      rw [← h2, bs.eq_1 _ i j, dif_pos hij, if_neg (show ¬ weK l w ((i + j) / 2) < 0 by unfold weK; omega)]
  · have e : bs (weK l w) i j = i := by rw [bs.eq_1, dif_neg zo]
    rw [e] at h2
    have hr : bsW l w = i := h2.symm
    rw [foundW, hr]
    repeat' (first | refine yw ?_ | ((with_reducible refine Runs.is ?_); first | refine Runs.region (id := 3) ?_ | ((with_reducible refine Runs.isC ?_); refine Runs.cond rfl (zc ?_) (zc ?_) <;> intro hc <;> (try (first | contradiction | (exfalso; omega; done) | (have : hc = trivial := rfl; clear this; clear hc))))) | ((with_reducible refine r_is ?_); first | refine yr ?_) | fail)
    repeat' (first | refine yw ?_ | ((with_reducible refine Runs.is ?_); first | refine Runs.drawn (id := 8) mixed zK ?_ | ((with_reducible refine Runs.isC ?_); refine Runs.cond rfl (zc ?_) (zc ?_) <;> intro hc <;> (try (first | contradiction | (exfalso; omega; done) | (have : hc = trivial := rfl; clear this; clear hc))))) | ((with_reducible refine d_is ?_); first | refine yd ?_ | (refine d_fn rfl (hg _) (hb) zL2 zD ?_; refine d_nn zN zH ?_) | ((with_reducible refine d_gd ?_); (first | refine d_guardPt rfl rfl ?_ ?_ | refine d_guardNt rfl rfl ?_ ?_ | refine d_guard rfl rfl ?_ ?_) <;> intro hG <;> (try (exfalso; omega; done)) <;> refine d_nn zN zH ?_)) | fail)
    all_goals ((refine Runs.ret2 Tryz.func275 rfl zM zM zD ?_; try exact zX))
    all_goals (refine V.Le.of_eq ?_; congr 3)
    · refine congrArg V.b (decide_eq_decide.2 ⟨fun h => ⟨by omega, h⟩, fun h => h.2⟩)
    · exact congrArg V.b (Eq.symm (decide_eq_false (fun q => by have := q.1; omega)))
def putW (l : List WeightEntry) (w : WeightEntry) : List WeightEntry := l.take (bsW l w) ++ w :: l.drop (bsW l w)
def insW (l : List WeightEntry) (w : WeightEntry) : List WeightEntry :=
  if foundW l w then (if newerW (l.getD (bsW l w) default) w then l.set (bsW l w) w else l) else putW l w
def weightsI (a b : List WeightEntry) : List WeightEntry := b.foldl insW a
def InsW (l : List WeightEntry) (w : WeightEntry) : Prop := AM.Gives Tryz.prog 277 1000 [.i (bsW l w : Nat), .sl true [weV w]] 241 5 (l.map weV) (fun r => r = (putW l w).map weV)
theorem member_weights (f g : Bool) (a b : List WeightEntry) (ha : a.length ≤ 1000000000) (hI : ∀ k, k < b.length → foundW ((b.take k).foldl insW a) (b.getD k default) = false → InsW ((b.take k).foldl insW a) (b.getD k default)) :
    AM.Fn Tryz.prog 245 [.sl f (a.map weV), .sl g (b.map weV)] (.sl false ((weightsI a b).map weV)) := by
  (refine spec_of_runs Tryz.func245 rfl ?_; simp only [Tryz.f245]; refine ys ?_)
  (refine Runs.lens 1 ?_; refine yl ?_)
  intro hlb
  repeat' (first | refine yw ?_ | ((with_reducible refine Runs.is ?_); first | refine Runs.region (id := 0) ?_ | refine Runs.region (id := 1) ?_ | refine Runs.region (id := 2) ?_ | ((with_reducible refine Runs.isC ?_); refine Runs.cond rfl (zc ?_) (zc ?_) <;> intro hc <;> (try (first | contradiction | (exfalso; omega; done) | (have : hc = trivial := rfl; clear this; clear hc))))) | ((with_reducible refine r_is ?_); first | refine yr ?_ | (refine r_own rfl (duplicate_we f a ha) HbF.h zL1 zD rfl (fun _ hq _ => ?_); (try subst hq); refine r_nn zN zH ?_)) | fail)
  refine Runs.loopI (fun k : Nat => b.length - k) (fun k => k ≤ b.length)
    (fun k => ⟨[.any, .any, .any, .any, .any, .own 11, .any, .any, .any, .any, .any, .any, .sl g (b.map weV), .i (b.length : Nat), .i (k : Nat), .any, .any, .any, .any, .any, .any, .any, .any, .any, .any, .any, .any, .any, .any, .any, .any, .any, .any, .any, .any, .any, .any, .any, .any, .any, .any, .any, .any, .any, .any], [(11, .lst 241 5 (((b.take k).foldl insW a).map weV))]⟩) 0 (by simp) ?_ ?_
  · (refine St.Le.clean zR zU zV)
  rintro k hk ih
  have hst := fun (h : k < b.length) => foldl_take (g := insW) (s := a) h
  have hend : b.length ≤ k → (b.take k).foldl insW a = weightsI a b := fun h => by rw [List.take_of_length_le h]; rfl
  have hIk := hI k
  generalize (b.take k).foldl insW a = l at hst hend hIk ⊢
  by_cases hlt : k < b.length
  · have hst2 := hst hlt
    have hI2 := hIk hlt
    by_cases hf : foundW l (b.getD k default) = true
    · rw [insW, if_pos hf] at hst2
      have hb : bsW l (b.getD k default) < l.length := by
        unfold foundW at hf; exact (of_decide_eq_true hf).1
      repeat' (first | refine yw ?_ | ((with_reducible refine Runs.is ?_); first | refine Runs.region (id := 3) ?_ | refine Runs.region (id := 4) ?_ | refine Runs.region (id := 5) ?_ | refine Runs.region (id := 6) ?_ | refine Runs.region (id := 7) ?_ | refine Runs.drawn (id := 8) mixed zK ?_ | refine Runs.region (id := 9) ?_ | refine Runs.region (id := 10) ?_ | ((with_reducible refine Runs.isC ?_); refine Runs.cond rfl (zc ?_) (zc ?_) <;> intro hc <;> (try (first | contradiction | (exfalso; omega; done) | (have : hc = trivial := rfl; clear this; clear hc))))) | ((with_reducible refine r_is ?_); first | refine yr ?_ | (refine r_lend rfl (search_we false _ _ _ (fun x => weights1 x _) hb276) HbF.h zY rfl ?_; refine r_nn zN zH ?_)) | ((with_reducible refine d_is ?_); first | refine yd ?_ | (refine d_fn rfl (member_newer _ _) HbF.h zL2 zD ?_; refine d_nn zN zH ?_)) | fail)
      · exfalso; rw [hf] at hc; cases hc
      · refine ih (k + 1) _ zo zo ?_
        rw [hst2, newerW, if_pos (by simpa using hc)]
        (refine St.Le.clean zR (by first | (simp [V.usesL, V.uses, AM.look_cons]; done) | (simp [V.usesL, V.uses, AM.look_cons, V.usesL_data, V.uses_data, da_i, da_chV, da_ruV, da_prV, da_enV, da_cfV, da_veV, da_inV, da_edV, da_grV, da_weV, da_mbV, da_suV, da_viV]; done)) ?_; (repeat' (first | exact True.intro | refine And.intro ?_ ?_)); all_goals (first | rfl | (simp [AM.look_cons, List.map_set, weV]; done) | (simp [V.uses, V.usesL, AM.look_cons, V.usesL_data, V.uses_data, da_i, da_chV, da_ruV, da_prV, da_enV, da_cfV, da_veV, da_inV, da_edV, da_grV, da_weV, da_mbV, da_suV, da_viV]; done)))
      · refine ih (k + 1) _ zo zo ?_
        rw [hst2, newerW, if_neg (by simpa using hc)]
        (refine St.Le.clean zR zU zV)
    · have hf2 : foundW l (b.getD k default) = false := by simpa using hf
      rw [insW, if_neg hf] at hst2
      have hI3 := hI2 hf2
      unfold InsW at hI3
      repeat' (first | refine yw ?_ | ((with_reducible refine Runs.is ?_); first | refine Runs.region (id := 3) ?_ | refine Runs.region (id := 4) ?_ | refine Runs.region (id := 5) ?_ | refine Runs.region (id := 6) ?_ | refine Runs.region (id := 7) ?_ | refine Runs.drawn (id := 8) mixed zK ?_ | refine Runs.region (id := 9) ?_ | refine Runs.region (id := 10) ?_ | ((with_reducible refine Runs.isC ?_); refine Runs.cond rfl (zc ?_) (zc ?_) <;> intro hc <;> (try (first | contradiction | (exfalso; omega; done) | (have : hc = trivial := rfl; clear this; clear hc))))) | ((with_reducible refine r_is ?_); first | refine yr ?_ | (refine r_lend rfl (search_we false _ _ _ (fun x => weights1 x _) hb276) HbF.h zY rfl ?_; refine r_nn zN zH ?_) | (refine r_give rfl (hI3) HbF.h rfl rfl zL2 zD ?_; refine r_nn zN zH ?_)) | ((with_reducible refine d_is ?_); first | refine yd ?_) | fail)
      · refine ih (k + 1) _ zo zo ?_
        rw [hst2]
        (refine St.Le.clean zR zU zV)
  · repeat' (first | refine yw ?_ | ((with_reducible refine Runs.is ?_); first | refine Runs.region (id := 3) ?_ | ((with_reducible refine Runs.isC ?_); refine Runs.cond rfl (zc ?_) (zc ?_) <;> intro hc <;> (try (first | contradiction | (exfalso; omega; done) | (have : hc = trivial := rfl; clear this; clear hc))))) | ((with_reducible refine r_is ?_); first | refine yr ?_) | fail)
    rw [hend zo]
    repeat' (first | refine yw ?_ | ((with_reducible refine Runs.is ?_); first | refine Runs.region (id := 11) ?_ | ((with_reducible refine Runs.isC ?_); refine Runs.cond rfl (zc ?_) (zc ?_) <;> intro hc <;> (try (first | contradiction | (exfalso; omega; done) | (have : hc = trivial := rfl; clear this; clear hc))))) | ((with_reducible refine r_is ?_); first | refine yr ?_) | fail)
    exact Runs.ret_frz Tryz.func245 rfl rfl rfl rfl
end Go.Proofs
namespace Go.Proofs
open Go.AM
attribute [local irreducible] AM.evalR AM.evalD AM.Runs AM.valK AM.dK AM.opK AM.stepR AM.CallS AM.St.Le
section
variable {α : Type} {row L : List α} {x z : α} {i n c : Nat}
theorem insA (h : row.take n = L) (hi : i < n) : row.take (i + 1) ++ (((row.drop i).take (n + 1 - i)).take (n - i) ++ row.drop (i + 1 + (n - i))) = row.take (i + 1) ++ (L.drop i ++ row.drop (n + 1)) := by
  rw [List.take_take, Nat.min_eq_left zo, List.take_drop, show i + (n - i) = n by omega, h, show i + 1 + (n - i) = n + 1 by omega]
theorem insB (h : row.take n = L) (hi : i < n) (hc : n + 1 ≤ row.length) :
    (row.take (i + 1) ++ (L.drop i ++ row.drop (n + 1))).take i ++ ([x].take 1 ++ (row.take (i + 1) ++ (L.drop i ++ row.drop (n + 1))).drop (i + 1)) = L.take i ++ ([x] ++ (L.drop i ++ row.drop (n + 1))) := by
  have h1 : (row.take (i + 1)).length = i + 1 := by rw [List.length_take]; omega
  rw [List.take_append_of_le_length zo, List.take_take, Nat.min_eq_left zo, List.drop_left' h1, ← h, List.take_take, Nat.min_eq_left zo]
  rfl
theorem insC {rest : List α} (hL : L.length = n) (hi : i < n) : (L.take i ++ ([x] ++ (L.drop i ++ rest))).take (n + 1) = L.take i ++ x :: L.drop i := by
  have e : L.take i ++ ([x] ++ (L.drop i ++ rest)) = (L.take i ++ x :: L.drop i) ++ rest := by simp
  rw [e, List.take_left' (by simp; omega)]
theorem insD (hL : L.length = n) (hi : i < n) (hc : n + 1 ≤ c) : (L.take i ++ List.replicate (c - i) z).take i ++ ([x].take 1 ++ (L.take i ++ List.replicate (c - i) z).drop (i + 1)) = L.take i ++ ([x] ++ List.replicate (c - (i + 1)) z) := by
  have h1 : (L.take i).length = i := by rw [List.length_take]; omega
  rw [List.take_left' h1, List.drop_append, h1, List.drop_of_length_le zo, show i + 1 - i = 1 by omega, List.drop_replicate, show c - i - 1 = c - (i + 1) by omega]
  rfl
theorem insE (h : row.take n = L) (hL : L.length = n) (hi : i < n) (hc : n + 1 ≤ c) :
    (L.take i ++ ([x] ++ List.replicate (c - (i + 1)) z)).take (i + 1) ++ (((row.drop i).take (n - i)).take (n - i) ++ (L.take i ++ ([x] ++ List.replicate (c - (i + 1)) z)).drop (i + 1 + (n - i))) = L.take i ++ ([x] ++ (L.drop i ++ List.replicate (c - (n + 1)) z)) := by
  have h1 : (L.take i ++ [x]).length = i + 1 := by rw [List.length_append, List.length_take]; simp; omega
  have e : L.take i ++ ([x] ++ List.replicate (c - (i + 1)) z) = (L.take i ++ [x]) ++ List.replicate (c - (i + 1)) z := (List.append_assoc ..).symm
  rw [e, List.take_left' h1, List.take_take, Nat.min_self, List.take_drop, show i + (n - i) = n by omega, h, List.drop_append, List.drop_of_length_le (l := L.take i ++ [x]) (by rw [h1]; omega), h1, List.nil_append, show i + 1 + (n - i) - (i + 1) = n - i by omega, List.drop_replicate, show c - (i + 1) - (n - i) = c - (n + 1) by omega]
  simp
end
section
variable {P : Program} {e : Operand → V} {H : Heap} {K : V → Prop} {t te te' : TypeId} {x : Operand} {sz by_ id off len cap : Nat} {es : List V} {k k' : IntKind}
theorem v_slice_vloN {lo : Operand} {li : Int} (l : Nat) {off' len' cap' : Nat} (hs : slv P t = some (te, sz, by_)) (hx : e x = .vw id off len cap) (ho : AM.look H id = some (.row te' sz es)) (hl : e lo = .sc (.int k li)) (hli : li = (l : Nat)) (hb : l ≤ len ∧ l < cap) (h1 : off + l = off') (h2 : len - l = len') (h3 : cap - l = cap')
    (h : K (.vw id off' len' cap')) : valK P (.slice t x (some lo) none none) e H K := by
  subst hli
  refine v_slice_vlo hs hx ho hl ⟨by omega, by omega⟩ ?_
  rw [Int.toNat_natCast, if_neg zo, h1, h2, h3]; exact h
theorem v_slice_vhiN {hi : Operand} {li : Int} (l : Nat) (hs : slv P t = some (te, sz, by_)) (hx : e x = .vw id off len cap) (ho : AM.look H id = some (.row te' sz es)) (hl : e hi = .sc (.int k li)) (hli : li = (l : Nat)) (hb : l ≤ cap) (h : K (.vw id off l cap)) : valK P (.slice t x none (some hi) none) e H K := by
  subst hli
  refine v_slice_vhi hs hx ho hl ⟨by omega, by omega⟩ ?_
  rw [Int.toNat_natCast]; exact h
end
theorem insert_ints_mid (l : List Int) (i : Nat) (x : Int) (hi : i < l.length) (hl : l.length ≤ 1000000000) :
    AM.Gives Tryz.prog 273 1000 [.i (i : Nat), .sl true [.i x]] 3 1 (l.map .i) (fun r => r = (l.take i ++ x :: l.drop i).map .i) := by
  have hne : l.map V.i ≠ [] := by intro e; rw [List.map_eq_nil_iff] at e; subst e; simp at hi
  (refine gives_open Tryz.func273 rfl ?_ ?_ fun c hc0 => ?_; rotate_left; rotate_left; simp only [Tryz.f273]; refine ys ?_)
  · rw [List.length_map] at hc0 ⊢
    generalize hrow : l.map V.i ++ List.replicate (c - l.length) _ = row
    have hrl : row.length = c := by rw [← hrow]; simp; omega
    have hrt : row.take l.length = l.map V.i := by rw [← hrow, List.take_left' (by simp)]
    clear hrow
    have hL : (l.map V.i).length = l.length := by simp
    have hst : Storable (l.map V.i) := st_i l
    have hfin : (l.take i ++ x :: l.drop i).map V.i = (l.map V.i).take i ++ V.i x :: (l.map V.i).drop i := by simp
    rw [hfin]
    clear hfin
    generalize l.map V.i = L at hrt hL hst hne ⊢
    generalize l.length = n at *
    have hsd : Storable (L.drop i) := fun v hv => hst v (List.mem_of_mem_drop hv)
    repeat' (first | refine yw ?_ | ((with_reducible refine Runs.is ?_); first | refine Runs.region (id := 0) ?_ | refine Runs.region (id := 1) ?_ | ((with_reducible refine Runs.isC ?_); refine Runs.cond rfl (zc ?_) (zc ?_) <;> intro hc <;> (try (first | contradiction | (exfalso; omega; done) | (have : hc = trivial := rfl; clear this; clear hc))))) | ((with_reducible refine r_is ?_); first | refine yr ?_) | fail)
    refine r_v rfl (v_slice_vloN i SlF.h rfl rfl rfl rfl ⟨by omega, by omega⟩ (show 0 + i = i by omega) rfl rfl ?_)
    refine r_n zN ?_
    repeat' (first | refine yw ?_ | ((with_reducible refine Runs.is ?_); first | refine Runs.region (id := 2) ?_ | refine Runs.region (id := 3) ?_ | refine Runs.region (id := 4) ?_ | refine Runs.region (id := 5) ?_ | refine Runs.region (id := 6) ?_ | refine Runs.region (id := 7) ?_ | refine Runs.region (id := 8) ?_ | ((with_reducible refine Runs.isC ?_); refine Runs.cond rfl (zc ?_) (zc ?_) <;> intro hc <;> (try (first | contradiction | (exfalso; omega; done) | (have : hc = trivial := rfl; clear this; clear hc))))) | ((with_reducible refine r_is ?_); first | refine yr ?_ | (refine r_append_full SlF.h SlF.s ZoF.h zd rfl rfl zC zJ zS rfl (fun hn => ?_) (fun hn => ?_) <;> refine r_nn zN zH ?_)) | fail)
    · repeat' (first | refine yw ?_ | ((with_reducible refine Runs.is ?_); first | refine Runs.region (id := 9) ?_ | ((with_reducible refine Runs.isC ?_); refine Runs.cond rfl (zc ?_) (zc ?_) <;> intro hc <;> (try (first | contradiction | (exfalso; omega; done) | (have : hc = trivial := rfl; clear this; clear hc))))) | ((with_reducible refine r_is ?_); first | refine yr ?_ | (refine r_append_full SlF.h SlF.s ZoF.h zd rfl rfl zC zJ zS rfl (fun hn => ?_) (fun hn => ?_) <;> refine r_nn zN zH ?_)) | fail)
      refine r_v rfl (v_slice_vhiN i SlF.h rfl rfl rfl rfl zo ?_)
      refine r_n zN ?_
      repeat' (first | refine yw ?_ | ((with_reducible refine Runs.is ?_); first | refine Runs.region (id := 9) ?_ | ((with_reducible refine Runs.isC ?_); refine Runs.cond rfl (zc ?_) (zc ?_) <;> intro hc <;> (try (first | contradiction | (exfalso; omega; done) | (have : hc = trivial := rfl; clear this; clear hc))))) | ((with_reducible refine r_is ?_); first | refine yr ?_ | (refine r_append_full SlF.h SlF.s ZoF.h zd rfl rfl zC zJ zS rfl (fun hn => ?_) (fun hn => ?_) <;> refine r_nn zN zH ?_)) | fail)
      refine r_zap (m := n + 1 - i) (z := .i 0) SlF.h UnF.h rfl (congrArg (fun q => V.sc (.int .i64 q)) zo) rfl zo ⟨by omega, by omega, by omega, by omega⟩ ZvF.h ⟨rfl, rfl⟩ rfl (show _ = L.take i by rw [List.drop_zero, ← hrt, List.take_take, Nat.min_eq_left zo]) fun c' hc' => ?_
      refine r_nn zN zH ?_
      rw [show i + (n + 1 - i) = n + 1 by omega] at hc' ⊢
      repeat' (first | refine yw ?_ | ((with_reducible refine Runs.is ?_); first | refine Runs.region (id := 9) ?_ | refine Runs.region (id := 10) ?_ | ((with_reducible refine Runs.isC ?_); refine Runs.cond rfl (zc ?_) (zc ?_) <;> intro hc <;> (try (first | contradiction | (exfalso; omega; done) | (have : hc = trivial := rfl; clear this; clear hc))))) | ((with_reducible refine r_is ?_); first | refine yr ?_ | (refine r_copyA SlF.h SlF.s rfl rfl rfl zC (by simp) ?_; refine r_nn zN zH ?_) | (refine r_append_full SlF.h SlF.s ZoF.h zd rfl rfl zC zJ zS rfl (fun hn => ?_) (fun hn => ?_) <;> refine r_nn zN zH ?_)) | fail)
      refine r_v rfl (v_slice_vloN i SlF.h rfl rfl rfl rfl ⟨by omega, by omega⟩ (show 0 + i = i by omega) rfl rfl ?_)
      refine r_n zN ?_
      repeat' (first | refine yw ?_ | ((with_reducible refine Runs.is ?_); first | refine Runs.region (id := 10) ?_ | ((with_reducible refine Runs.isC ?_); refine Runs.cond rfl (zc ?_) (zc ?_) <;> intro hc <;> (try (first | contradiction | (exfalso; omega; done) | (have : hc = trivial := rfl; clear this; clear hc))))) | ((with_reducible refine r_is ?_); first | refine yr ?_ | (refine r_copyA SlF.h SlF.s rfl rfl rfl zC (by simp) ?_; refine r_nn zN zH ?_)) | fail)
      refine r_copyVS (n := 1) SlF.h SlF.s rfl rfl rfl (by simp; omega) (sd_i [x]) (by simp; omega) (fun v hv => by rw [List.mem_singleton.1 hv]; rfl) (insD hL hi hc') ?_
      refine r_nn zN zH ?_
      repeat' (first | refine yw ?_ | ((with_reducible refine Runs.is ?_); first | refine Runs.region (id := 10) ?_ | refine Runs.drawn (id := 11) mixed zK ?_ | ((with_reducible refine Runs.isC ?_); refine Runs.cond rfl (zc ?_) (zc ?_) <;> intro hc <;> (try (first | contradiction | (exfalso; omega; done) | (have : hc = trivial := rfl; clear this; clear hc))))) | ((with_reducible refine r_is ?_); first | refine yr ?_ | (refine r_copyA SlF.h SlF.s rfl rfl rfl zC (by simp) ?_; refine r_nn zN zH ?_)) | ((with_reducible refine d_is ?_); first | refine yd ?_) | fail)
      refine d_v rfl (v_slice_vloN (i + 1) SlF.h rfl rfl rfl zo ⟨by omega, by omega⟩ (show 0 + (i + 1) = i + 1 by omega) (show n + 1 - (i + 1) = n - i by omega) rfl ?_)
      refine d_n zN ?_
      repeat' (first | refine yw ?_ | ((with_reducible refine Runs.is ?_); first | refine Runs.drawn (id := 11) mixed zK ?_ | ((with_reducible refine Runs.isC ?_); refine Runs.cond rfl (zc ?_) (zc ?_) <;> intro hc <;> (try (first | contradiction | (exfalso; omega; done) | (have : hc = trivial := rfl; clear this; clear hc))))) | ((with_reducible refine d_is ?_); first | refine yd ?_) | fail)
      refine d_v rfl (v_slice_vloN i SlF.h rfl rfl rfl rfl ⟨by omega, by omega⟩ (show 0 + i = i by omega) rfl rfl ?_)
      refine d_n zN ?_
      repeat' (first | refine yw ?_ | ((with_reducible refine Runs.is ?_); first | refine Runs.drawn (id := 11) mixed zK ?_ | ((with_reducible refine Runs.isC ?_); refine Runs.cond rfl (zc ?_) (zc ?_) <;> intro hc <;> (try (first | contradiction | (exfalso; omega; done) | (have : hc = trivial := rfl; clear this; clear hc))))) | ((with_reducible refine d_is ?_); first | refine yd ?_) | fail)
      refine d_copyVV (n := n - i) SlF.h SlF.s rfl rfl rfl rfl (by simp; omega) zo zo (by rw [List.take_take, Nat.min_self, List.take_drop, show i + (n - i) = n by omega, hrt]; exact hsd) (insE hrt hL hi hc') ?_
      refine d_nn zN zH ?_
      repeat' (first | refine yw ?_ | ((with_reducible refine Runs.is ?_); first | refine Runs.drawn (id := 11) mixed zK ?_ | refine Runs.region (id := 12) ?_ | ((with_reducible refine Runs.isC ?_); refine Runs.cond rfl (zc ?_) (zc ?_) <;> intro hc <;> (try (first | contradiction | (exfalso; omega; done) | (have : hc = trivial := rfl; clear this; clear hc))))) | ((with_reducible refine r_is ?_); first | refine yr ?_ | (refine r_copyA SlF.h SlF.s rfl rfl rfl zC (by simp) ?_; refine r_nn zN zH ?_)) | ((with_reducible refine d_is ?_); first | refine yd ?_) | fail)
      exact Runs.ret_giveV Tryz.func273 rfl rfl rfl (by simp; omega) (insC hL hi) rfl
    · repeat' (first | refine yw ?_ | ((with_reducible refine Runs.is ?_); first | refine Runs.region (id := 13) ?_ | ((with_reducible refine Runs.isC ?_); refine Runs.cond rfl (zc ?_) (zc ?_) <;> intro hc <;> (try (first | contradiction | (exfalso; omega; done) | (have : hc = trivial := rfl; clear this; clear hc))))) | ((with_reducible refine r_is ?_); first | refine yr ?_) | fail)
      refine r_v rfl (v_slice_vhiN (n + 1) SlF.h rfl rfl rfl zo zo ?_)
      refine r_n zN ?_
      repeat' (first | refine yw ?_ | ((with_reducible refine Runs.is ?_); first | refine Runs.region (id := 13) ?_ | refine Runs.region (id := 14) ?_ | ((with_reducible refine Runs.isC ?_); refine Runs.cond rfl (zc ?_) (zc ?_) <;> intro hc <;> (try (first | contradiction | (exfalso; omega; done) | (have : hc = trivial := rfl; clear this; clear hc))))) | ((with_reducible refine r_is ?_); first | refine yr ?_) | fail)
      refine r_v rfl (v_slice_vloN (i + 1) SlF.h rfl rfl rfl zo ⟨by omega, by omega⟩ (show 0 + (i + 1) = i + 1 by omega) (show n + 1 - (i + 1) = n - i by omega) rfl ?_)
      refine r_n zN ?_
      repeat' (first | refine yw ?_ | ((with_reducible refine Runs.is ?_); first | refine Runs.region (id := 14) ?_ | ((with_reducible refine Runs.isC ?_); refine Runs.cond rfl (zc ?_) (zc ?_) <;> intro hc <;> (try (first | contradiction | (exfalso; omega; done) | (have : hc = trivial := rfl; clear this; clear hc))))) | ((with_reducible refine r_is ?_); first | refine yr ?_) | fail)
      refine r_overlaps (tS := 46) (tR := 4) Tryz.func289 (by kernel_rfl) (by kernel_rfl) (by kernel_rfl) (by kernel_rfl) SlF.h rfl rfl rfl ?_
      refine r_n zN ?_
      repeat' (first | refine yw ?_ | ((with_reducible refine Runs.is ?_); first | refine Runs.region (id := 14) ?_ | refine Runs.drawn (id := 15) mixed zK ?_ | ((with_reducible refine Runs.isC ?_); refine Runs.cond rfl (zc ?_) (zc ?_) <;> intro hc <;> (try (first | contradiction | (exfalso; omega; done) | (have : hc = trivial := rfl; clear this; clear hc))))) | ((with_reducible refine r_is ?_); first | refine yr ?_ | (refine r_copyA SlF.h SlF.s rfl rfl rfl zC (by simp) ?_; refine r_nn zN zH ?_)) | ((with_reducible refine d_is ?_); first | refine yd ?_) | fail)
      refine d_v rfl (v_slice_vloN (i + 1) SlF.h rfl rfl rfl zo ⟨by omega, by omega⟩ (show 0 + (i + 1) = i + 1 by omega) (show n + 1 - (i + 1) = n - i by omega) rfl ?_)
      refine d_n zN ?_
      repeat' (first | refine yw ?_ | ((with_reducible refine Runs.is ?_); first | refine Runs.drawn (id := 15) mixed zK ?_ | ((with_reducible refine Runs.isC ?_); refine Runs.cond rfl (zc ?_) (zc ?_) <;> intro hc <;> (try (first | contradiction | (exfalso; omega; done) | (have : hc = trivial := rfl; clear this; clear hc))))) | ((with_reducible refine d_is ?_); first | refine yd ?_) | fail)
      refine d_v rfl (v_slice_vloN i SlF.h rfl rfl rfl rfl ⟨by omega, by omega⟩ (show 0 + i = i by omega) rfl rfl ?_)
      refine d_n zN ?_
      repeat' (first | refine yw ?_ | ((with_reducible refine Runs.is ?_); first | refine Runs.drawn (id := 15) mixed zK ?_ | ((with_reducible refine Runs.isC ?_); refine Runs.cond rfl (zc ?_) (zc ?_) <;> intro hc <;> (try (first | contradiction | (exfalso; omega; done) | (have : hc = trivial := rfl; clear this; clear hc))))) | ((with_reducible refine d_is ?_); first | refine yd ?_) | fail)
      refine d_copyVV (n := n - i) SlF.h SlF.s rfl rfl rfl rfl zo zo zo (by rw [List.take_take, Nat.min_eq_left zo, List.take_drop, show i + (n - i) = n by omega, hrt]; exact hsd) (insA hrt hi) ?_
      refine d_nn zN zH ?_
      repeat' (first | refine yw ?_ | ((with_reducible refine Runs.is ?_); first | refine Runs.drawn (id := 15) mixed zK ?_ | refine Runs.region (id := 16) ?_ | ((with_reducible refine Runs.isC ?_); refine Runs.cond rfl (zc ?_) (zc ?_) <;> intro hc <;> (try (first | contradiction | (exfalso; omega; done) | (have : hc = trivial := rfl; clear this; clear hc))))) | ((with_reducible refine r_is ?_); first | refine yr ?_ | (refine r_copyA SlF.h SlF.s rfl rfl rfl zC (by simp) ?_; refine r_nn zN zH ?_)) | ((with_reducible refine d_is ?_); first | refine yd ?_) | fail)
      refine r_v rfl (v_slice_vloN i SlF.h rfl rfl rfl rfl ⟨by omega, by omega⟩ (show 0 + i = i by omega) rfl rfl ?_)
      refine r_n zN ?_
      repeat' (first | refine yw ?_ | ((with_reducible refine Runs.is ?_); first | refine Runs.region (id := 16) ?_ | ((with_reducible refine Runs.isC ?_); refine Runs.cond rfl (zc ?_) (zc ?_) <;> intro hc <;> (try (first | contradiction | (exfalso; omega; done) | (have : hc = trivial := rfl; clear this; clear hc))))) | ((with_reducible refine r_is ?_); first | refine yr ?_ | (refine r_copyA SlF.h SlF.s rfl rfl rfl zC (by simp) ?_; refine r_nn zN zH ?_)) | fail)
      refine r_copyVS (n := 1) SlF.h SlF.s rfl rfl rfl (by simp; omega) (sd_i [x]) (by simp; omega) (fun v hv => by rw [List.mem_singleton.1 hv]; rfl) (insB hrt hi zo) ?_
      refine r_nn zN zH ?_
      repeat' (first | refine yw ?_ | ((with_reducible refine Runs.is ?_); first | refine Runs.region (id := 16) ?_ | refine Runs.region (id := 17) ?_ | ((with_reducible refine Runs.isC ?_); refine Runs.cond rfl (zc ?_) (zc ?_) <;> intro hc <;> (try (first | contradiction | (exfalso; omega; done) | (have : hc = trivial := rfl; clear this; clear hc))))) | ((with_reducible refine r_is ?_); first | refine yr ?_ | (refine r_copyA SlF.h SlF.s rfl rfl rfl zC (by simp) ?_; refine r_nn zN zH ?_)) | fail)
      exact Runs.ret_giveV Tryz.func273 rfl rfl rfl (by simp; omega) (insC hL hi) rfl
  · exact hne
  · rfl
theorem insert_ints (l : List Int) (i : Nat) (x : Int) (hi : i ≤ l.length) (hl : l.length ≤ 1000000000) :
    AM.Gives Tryz.prog 273 1000 [.i (i : Nat), .sl true [.i x]] 3 1 (l.map .i) (fun r => r = (l.take i ++ x :: l.drop i).map .i) := by
  by_cases h : i < l.length
  · exact insert_ints_mid l i x h hl
  obtain rfl : i = l.length := by omega
  (refine spec_of_runs Tryz.func273 rfl ?_; simp only [Tryz.f273]; refine ys ?_)
  repeat' (first | refine yw ?_ | ((with_reducible refine Runs.is ?_); first | refine Runs.region (id := 0) ?_ | refine Runs.region (id := 1) ?_ | refine Runs.region (id := 2) ?_ | refine Runs.region (id := 3) ?_ | refine Runs.region (id := 4) ?_ | refine Runs.region (id := 5) ?_ | refine Runs.region (id := 6) ?_ | refine Runs.region (id := 7) ?_ | ((with_reducible refine Runs.isC ?_); refine Runs.cond rfl (zc ?_) (zc ?_) <;> intro hc <;> (try (first | contradiction | (exfalso; omega; done) | (have : hc = trivial := rfl; clear this; clear hc))))) | ((with_reducible refine r_is ?_); first | refine yr ?_ | (refine r_append_full SlF.h SlF.s ZoF.h zd rfl rfl zC zJ zS rfl (fun hn => ?_) (fun hn => ?_) <;> refine r_nn zN zH ?_)) | fail)
  all_goals first
    | (refine Runs.ret_give Tryz.func273 rfl rfl rfl ?_; simp; done)
    | (exfalso; simp at hc; done)
    | fail
theorem insert_we_mid (l : List WeightEntry) (i : Nat) (x : WeightEntry) (hi : i < l.length) (hl : l.length ≤ 1000000000) :
    AM.Gives Tryz.prog 277 1000 [.i (i : Nat), .sl true [weV x]] 241 5 (l.map weV) (fun r => r = (l.take i ++ x :: l.drop i).map weV) := by
  have hne : l.map weV ≠ [] := by intro e; rw [List.map_eq_nil_iff] at e; subst e; simp at hi
  (refine gives_open Tryz.func277 rfl ?_ ?_ fun c hc0 => ?_; rotate_left; rotate_left; simp only [Tryz.f277]; refine ys ?_)
  · rw [List.length_map] at hc0 ⊢
    generalize hrow : l.map weV ++ List.replicate (c - l.length) _ = row
    have hrl : row.length = c := by rw [← hrow]; simp; omega
    have hrt : row.take l.length = l.map weV := by rw [← hrow, List.take_left' (by simp)]
    clear hrow
    have hL : (l.map weV).length = l.length := by simp
    have hst : Storable (l.map weV) := st_weV l
    have hfin : (l.take i ++ x :: l.drop i).map weV = (l.map weV).take i ++ weV x :: (l.map weV).drop i := by simp
    rw [hfin]
    clear hfin
    generalize l.map weV = L at hrt hL hst hne ⊢
    generalize l.length = n at *
    have hsd : Storable (L.drop i) := fun v hv => hst v (List.mem_of_mem_drop hv)
    repeat' (first | refine yw ?_ | ((with_reducible refine Runs.is ?_); first | refine Runs.region (id := 0) ?_ | refine Runs.region (id := 1) ?_ | ((with_reducible refine Runs.isC ?_); refine Runs.cond rfl (zc ?_) (zc ?_) <;> intro hc <;> (try (first | contradiction | (exfalso; omega; done) | (have : hc = trivial := rfl; clear this; clear hc))))) | ((with_reducible refine r_is ?_); first | refine yr ?_) | fail)
    refine r_v rfl (v_slice_vloN i SlF.h rfl rfl rfl rfl ⟨by omega, by omega⟩ (show 0 + i = i by omega) rfl rfl ?_)
    refine r_n zN ?_
    repeat' (first | refine yw ?_ | ((with_reducible refine Runs.is ?_); first | refine Runs.region (id := 2) ?_ | refine Runs.region (id := 3) ?_ | refine Runs.region (id := 4) ?_ | refine Runs.region (id := 5) ?_ | refine Runs.region (id := 6) ?_ | refine Runs.region (id := 7) ?_ | refine Runs.region (id := 8) ?_ | ((with_reducible refine Runs.isC ?_); refine Runs.cond rfl (zc ?_) (zc ?_) <;> intro hc <;> (try (first | contradiction | (exfalso; omega; done) | (have : hc = trivial := rfl; clear this; clear hc))))) | ((with_reducible refine r_is ?_); first | refine yr ?_ | (refine r_append_full SlF.h SlF.s ZoF.h zd rfl rfl zC zJ zS rfl (fun hn => ?_) (fun hn => ?_) <;> refine r_nn zN zH ?_)) | fail)
    · repeat' (first | refine yw ?_ | ((with_reducible refine Runs.is ?_); first | refine Runs.region (id := 9) ?_ | ((with_reducible refine Runs.isC ?_); refine Runs.cond rfl (zc ?_) (zc ?_) <;> intro hc <;> (try (first | contradiction | (exfalso; omega; done) | (have : hc = trivial := rfl; clear this; clear hc))))) | ((with_reducible refine r_is ?_); first | refine yr ?_ | (refine r_append_full SlF.h SlF.s ZoF.h zd rfl rfl zC zJ zS rfl (fun hn => ?_) (fun hn => ?_) <;> refine r_nn zN zH ?_)) | fail)
      refine r_v rfl (v_slice_vhiN i SlF.h rfl rfl rfl rfl zo ?_)
      refine r_n zN ?_
      repeat' (first | refine yw ?_ | ((with_reducible refine Runs.is ?_); first | refine Runs.region (id := 9) ?_ | ((with_reducible refine Runs.isC ?_); refine Runs.cond rfl (zc ?_) (zc ?_) <;> intro hc <;> (try (first | contradiction | (exfalso; omega; done) | (have : hc = trivial := rfl; clear this; clear hc))))) | ((with_reducible refine r_is ?_); first | refine yr ?_ | (refine r_append_full SlF.h SlF.s ZoF.h zd rfl rfl zC zJ zS rfl (fun hn => ?_) (fun hn => ?_) <;> refine r_nn zN zH ?_)) | fail)
      refine r_zap (m := n + 1 - i) (z := weV ⟨0, 0, 0, 0, 0⟩) SlF.h UnF.h rfl (congrArg (fun q => V.sc (.int .i64 q)) zo) rfl zo ⟨by omega, by omega, by omega, by omega⟩ ZvF.h ⟨rfl, rfl⟩ rfl (show _ = L.take i by rw [List.drop_zero, ← hrt, List.take_take, Nat.min_eq_left zo]) fun c' hc' => ?_
      refine r_nn zN zH ?_
      rw [show i + (n + 1 - i) = n + 1 by omega] at hc' ⊢
      repeat' (first | refine yw ?_ | ((with_reducible refine Runs.is ?_); first | refine Runs.region (id := 9) ?_ | refine Runs.region (id := 10) ?_ | ((with_reducible refine Runs.isC ?_); refine Runs.cond rfl (zc ?_) (zc ?_) <;> intro hc <;> (try (first | contradiction | (exfalso; omega; done) | (have : hc = trivial := rfl; clear this; clear hc))))) | ((with_reducible refine r_is ?_); first | refine yr ?_ | (refine r_copyA SlF.h SlF.s rfl rfl rfl zC (by simp) ?_; refine r_nn zN zH ?_) | (refine r_append_full SlF.h SlF.s ZoF.h zd rfl rfl zC zJ zS rfl (fun hn => ?_) (fun hn => ?_) <;> refine r_nn zN zH ?_)) | fail)
      refine r_v rfl (v_slice_vloN i SlF.h rfl rfl rfl rfl ⟨by omega, by omega⟩ (show 0 + i = i by omega) rfl rfl ?_)
      refine r_n zN ?_
      repeat' (first | refine yw ?_ | ((with_reducible refine Runs.is ?_); first | refine Runs.region (id := 10) ?_ | ((with_reducible refine Runs.isC ?_); refine Runs.cond rfl (zc ?_) (zc ?_) <;> intro hc <;> (try (first | contradiction | (exfalso; omega; done) | (have : hc = trivial := rfl; clear this; clear hc))))) | ((with_reducible refine r_is ?_); first | refine yr ?_ | (refine r_copyA SlF.h SlF.s rfl rfl rfl zC (by simp) ?_; refine r_nn zN zH ?_)) | fail)
      refine r_copyVS (n := 1) SlF.h SlF.s rfl rfl rfl (by simp; omega) (sd_weV [x]) (by simp; omega) (fun v hv => by rw [List.mem_singleton.1 hv]; rfl) (insD hL hi hc') ?_
      refine r_nn zN zH ?_
      repeat' (first | refine yw ?_ | ((with_reducible refine Runs.is ?_); first | refine Runs.region (id := 10) ?_ | refine Runs.drawn (id := 11) mixed zK ?_ | ((with_reducible refine Runs.isC ?_); refine Runs.cond rfl (zc ?_) (zc ?_) <;> intro hc <;> (try (first | contradiction | (exfalso; omega; done) | (have : hc = trivial := rfl; clear this; clear hc))))) | ((with_reducible refine r_is ?_); first | refine yr ?_ | (refine r_copyA SlF.h SlF.s rfl rfl rfl zC (by simp) ?_; refine r_nn zN zH ?_)) | ((with_reducible refine d_is ?_); first | refine yd ?_) | fail)
      refine d_v rfl (v_slice_vloN (i + 1) SlF.h rfl rfl rfl zo ⟨by omega, by omega⟩ (show 0 + (i + 1) = i + 1 by omega) (show n + 1 - (i + 1) = n - i by omega) rfl ?_)
      refine d_n zN ?_
      repeat' (first | refine yw ?_ | ((with_reducible refine Runs.is ?_); first | refine Runs.drawn (id := 11) mixed zK ?_ | ((with_reducible refine Runs.isC ?_); refine Runs.cond rfl (zc ?_) (zc ?_) <;> intro hc <;> (try (first | contradiction | (exfalso; omega; done) | (have : hc = trivial := rfl; clear this; clear hc))))) | ((with_reducible refine d_is ?_); first | refine yd ?_) | fail)
      refine d_v rfl (v_slice_vloN i SlF.h rfl rfl rfl rfl ⟨by omega, by omega⟩ (show 0 + i = i by omega) rfl rfl ?_)
      refine d_n zN ?_
      repeat' (first | refine yw ?_ | ((with_reducible refine Runs.is ?_); first | refine Runs.drawn (id := 11) mixed zK ?_ | ((with_reducible refine Runs.isC ?_); refine Runs.cond rfl (zc ?_) (zc ?_) <;> intro hc <;> (try (first | contradiction | (exfalso; omega; done) | (have : hc = trivial := rfl; clear this; clear hc))))) | ((with_reducible refine d_is ?_); first | refine yd ?_) | fail)
      refine d_copyVV (n := n - i) SlF.h SlF.s rfl rfl rfl rfl (by simp; omega) zo zo (by rw [List.take_take, Nat.min_self, List.take_drop, show i + (n - i) = n by omega, hrt]; exact hsd) (insE hrt hL hi hc') ?_
      refine d_nn zN zH ?_
      repeat' (first | refine yw ?_ | ((with_reducible refine Runs.is ?_); first | refine Runs.drawn (id := 11) mixed zK ?_ | refine Runs.region (id := 12) ?_ | ((with_reducible refine Runs.isC ?_); refine Runs.cond rfl (zc ?_) (zc ?_) <;> intro hc <;> (try (first | contradiction | (exfalso; omega; done) | (have : hc = trivial := rfl; clear this; clear hc))))) | ((with_reducible refine r_is ?_); first | refine yr ?_ | (refine r_copyA SlF.h SlF.s rfl rfl rfl zC (by simp) ?_; refine r_nn zN zH ?_)) | ((with_reducible refine d_is ?_); first | refine yd ?_) | fail)
      exact Runs.ret_giveV Tryz.func277 rfl rfl rfl (by simp; omega) (insC hL hi) rfl
    · repeat' (first | refine yw ?_ | ((with_reducible refine Runs.is ?_); first | refine Runs.region (id := 13) ?_ | ((with_reducible refine Runs.isC ?_); refine Runs.cond rfl (zc ?_) (zc ?_) <;> intro hc <;> (try (first | contradiction | (exfalso; omega; done) | (have : hc = trivial := rfl; clear this; clear hc))))) | ((with_reducible refine r_is ?_); first | refine yr ?_) | fail)
      refine r_v rfl (v_slice_vhiN (n + 1) SlF.h rfl rfl rfl zo zo ?_)
      refine r_n zN ?_
      repeat' (first | refine yw ?_ | ((with_reducible refine Runs.is ?_); first | refine Runs.region (id := 13) ?_ | refine Runs.region (id := 14) ?_ | ((with_reducible refine Runs.isC ?_); refine Runs.cond rfl (zc ?_) (zc ?_) <;> intro hc <;> (try (first | contradiction | (exfalso; omega; done) | (have : hc = trivial := rfl; clear this; clear hc))))) | ((with_reducible refine r_is ?_); first | refine yr ?_) | fail)
      refine r_v rfl (v_slice_vloN (i + 1) SlF.h rfl rfl rfl zo ⟨by omega, by omega⟩ (show 0 + (i + 1) = i + 1 by omega) (show n + 1 - (i + 1) = n - i by omega) rfl ?_)
      refine r_n zN ?_
      repeat' (first | refine yw ?_ | ((with_reducible refine Runs.is ?_); first | refine Runs.region (id := 14) ?_ | ((with_reducible refine Runs.isC ?_); refine Runs.cond rfl (zc ?_) (zc ?_) <;> intro hc <;> (try (first | contradiction | (exfalso; omega; done) | (have : hc = trivial := rfl; clear this; clear hc))))) | ((with_reducible refine r_is ?_); first | refine yr ?_) | fail)
      refine r_overlaps (tS := 152) (tR := 4) Tryz.func291 (by kernel_rfl) (by kernel_rfl) (by kernel_rfl) (by kernel_rfl) SlF.h rfl rfl rfl ?_
      refine r_n zN ?_
      repeat' (first | refine yw ?_ | ((with_reducible refine Runs.is ?_); first | refine Runs.region (id := 14) ?_ | refine Runs.drawn (id := 15) mixed zK ?_ | ((with_reducible refine Runs.isC ?_); refine Runs.cond rfl (zc ?_) (zc ?_) <;> intro hc <;> (try (first | contradiction | (exfalso; omega; done) | (have : hc = trivial := rfl; clear this; clear hc))))) | ((with_reducible refine r_is ?_); first | refine yr ?_ | (refine r_copyA SlF.h SlF.s rfl rfl rfl zC (by simp) ?_; refine r_nn zN zH ?_)) | ((with_reducible refine d_is ?_); first | refine yd ?_) | fail)
      refine d_v rfl (v_slice_vloN (i + 1) SlF.h rfl rfl rfl zo ⟨by omega, by omega⟩ (show 0 + (i + 1) = i + 1 by omega) (show n + 1 - (i + 1) = n - i by omega) rfl ?_)
      refine d_n zN ?_
      repeat' (first | refine yw ?_ | ((with_reducible refine Runs.is ?_); first | refine Runs.drawn (id := 15) mixed zK ?_ | ((with_reducible refine Runs.isC ?_); refine Runs.cond rfl (zc ?_) (zc ?_) <;> intro hc <;> (try (first | contradiction | (exfalso; omega; done) | (have : hc = trivial := rfl; clear this; clear hc))))) | ((with_reducible refine d_is ?_); first | refine yd ?_) | fail)
      refine d_v rfl (v_slice_vloN i SlF.h rfl rfl rfl rfl ⟨by omega, by omega⟩ (show 0 + i = i by omega) rfl rfl ?_)
      refine d_n zN ?_
      repeat' (first | refine yw ?_ | ((with_reducible refine Runs.is ?_); first | refine Runs.drawn (id := 15) mixed zK ?_ | ((with_reducible refine Runs.isC ?_); refine Runs.cond rfl (zc ?_) (zc ?_) <;> intro hc <;> (try (first | contradiction | (exfalso; omega; done) | (have : hc = trivial := rfl; clear this; clear hc))))) | ((with_reducible refine d_is ?_); first | refine yd ?_) | fail)
      refine d_copyVV (n := n - i) SlF.h SlF.s rfl rfl rfl rfl zo zo zo (by rw [List.take_take, Nat.min_eq_left zo, List.take_drop, show i + (n - i) = n by omega, hrt]; exact hsd) (insA hrt hi) ?_
      refine d_nn zN zH ?_
      repeat' (first | refine yw ?_ | ((with_reducible refine Runs.is ?_); first | refine Runs.drawn (id := 15) mixed zK ?_ | refine Runs.region (id := 16) ?_ | ((with_reducible refine Runs.isC ?_); refine Runs.cond rfl (zc ?_) (zc ?_) <;> intro hc <;> (try (first | contradiction | (exfalso; omega; done) | (have : hc = trivial := rfl; clear this; clear hc))))) | ((with_reducible refine r_is ?_); first | refine yr ?_ | (refine r_copyA SlF.h SlF.s rfl rfl rfl zC (by simp) ?_; refine r_nn zN zH ?_)) | ((with_reducible refine d_is ?_); first | refine yd ?_) | fail)
      refine r_v rfl (v_slice_vloN i SlF.h rfl rfl rfl rfl ⟨by omega, by omega⟩ (show 0 + i = i by omega) rfl rfl ?_)
      refine r_n zN ?_
      repeat' (first | refine yw ?_ | ((with_reducible refine Runs.is ?_); first | refine Runs.region (id := 16) ?_ | ((with_reducible refine Runs.isC ?_); refine Runs.cond rfl (zc ?_) (zc ?_) <;> intro hc <;> (try (first | contradiction | (exfalso; omega; done) | (have : hc = trivial := rfl; clear this; clear hc))))) | ((with_reducible refine r_is ?_); first | refine yr ?_ | (refine r_copyA SlF.h SlF.s rfl rfl rfl zC (by simp) ?_; refine r_nn zN zH ?_)) | fail)
      refine r_copyVS (n := 1) SlF.h SlF.s rfl rfl rfl (by simp; omega) (sd_weV [x]) (by simp; omega) (fun v hv => by rw [List.mem_singleton.1 hv]; rfl) (insB hrt hi zo) ?_
      refine r_nn zN zH ?_
      repeat' (first | refine yw ?_ | ((with_reducible refine Runs.is ?_); first | refine Runs.region (id := 16) ?_ | refine Runs.region (id := 17) ?_ | ((with_reducible refine Runs.isC ?_); refine Runs.cond rfl (zc ?_) (zc ?_) <;> intro hc <;> (try (first | contradiction | (exfalso; omega; done) | (have : hc = trivial := rfl; clear this; clear hc))))) | ((with_reducible refine r_is ?_); first | refine yr ?_ | (refine r_copyA SlF.h SlF.s rfl rfl rfl zC (by simp) ?_; refine r_nn zN zH ?_)) | fail)
      exact Runs.ret_giveV Tryz.func277 rfl rfl rfl (by simp; omega) (insC hL hi) rfl
  · exact hne
  · rfl
theorem insert_we (l : List WeightEntry) (i : Nat) (x : WeightEntry) (hi : i ≤ l.length) (hl : l.length ≤ 1000000000) :
    AM.Gives Tryz.prog 277 1000 [.i (i : Nat), .sl true [weV x]] 241 5 (l.map weV) (fun r => r = (l.take i ++ x :: l.drop i).map weV) := by
  by_cases h : i < l.length
  · exact insert_we_mid l i x h hl
  obtain rfl : i = l.length := by omega
  (refine spec_of_runs Tryz.func277 rfl ?_; simp only [Tryz.f277]; refine ys ?_)
  repeat' (first | refine yw ?_ | ((with_reducible refine Runs.is ?_); first | refine Runs.region (id := 0) ?_ | refine Runs.region (id := 1) ?_ | refine Runs.region (id := 2) ?_ | refine Runs.region (id := 3) ?_ | refine Runs.region (id := 4) ?_ | refine Runs.region (id := 5) ?_ | refine Runs.region (id := 6) ?_ | refine Runs.region (id := 7) ?_ | ((with_reducible refine Runs.isC ?_); refine Runs.cond rfl (zc ?_) (zc ?_) <;> intro hc <;> (try (first | contradiction | (exfalso; omega; done) | (have : hc = trivial := rfl; clear this; clear hc))))) | ((with_reducible refine r_is ?_); first | refine yr ?_ | (refine r_append_full SlF.h SlF.s ZoF.h zd rfl rfl zC zJ zS rfl (fun hn => ?_) (fun hn => ?_) <;> refine r_nn zN zH ?_)) | fail)
  all_goals first
    | (refine Runs.ret_give Tryz.func277 rfl rfl rfl ?_; simp; done)
    | (exfalso; simp at hc; done)
    | fail
theorem bs_le0 (k : Nat → Int) (i j : Nat) (h : i ≤ j) : i ≤ bs k i j ∧ bs k i j ≤ j := by
  induction hn : j - i using Nat.strongRecOn generalizing i j with
  | _ n ih =>
    rw [bs]
    split
    · rename_i hlt
      split
      · have := ih (j - ((i + j) / 2 + 1)) zo ((i + j) / 2 + 1) j zo rfl; omega
      · have := ih ((i + j) / 2 - i) zo i ((i + j) / 2) zo rfl; omega
    · omega
theorem bsI_le (l : List Int) (x : Int) : bsI l x ≤ l.length := (bs_le0 _ _ _ (Nat.zero_le _)).2
theorem bsW_le (l : List WeightEntry) (x : WeightEntry) : bsW l x ≤ l.length := (bs_le0 _ _ _ (Nat.zero_le _)).2
theorem putI_len (l : List Int) (x : Int) : (putI l x).length = l.length + 1 := by
  have := bsI_le l x
  simp [putI]; omega
theorem putW_len (l : List WeightEntry) (x : WeightEntry) : (putW l x).length = l.length + 1 := by
  have := bsW_le l x
  simp [putW]; omega
theorem insI_len (l : List Int) (x : Int) : (insI l x).length ≤ l.length + 1 := by
  unfold insI; split
  · omega
  · rw [putI_len]; omega
theorem insW_len (l : List WeightEntry) (x : WeightEntry) : (insW l x).length ≤ l.length + 1 := by
  unfold insW; split
  · split
    · rw [List.length_set]; omega
    · omega
  · rw [putW_len]; omega
theorem unionI_len (a b : List Int) : (unionI a b).length ≤ a.length + b.length := by
  unfold unionI
  induction b generalizing a with
  | nil => simp
  | cons x b ih => have := ih (insI a x); have := insI_len a x; rw [List.foldl_cons, List.length_cons]; omega
theorem weightsI_len (a b : List WeightEntry) : (weightsI a b).length ≤ a.length + b.length := by
  unfold weightsI
  induction b generalizing a with
  | nil => simp
  | cons x b ih => have := ih (insW a x); have := insW_len a x; rw [List.foldl_cons, List.length_cons]; omega
theorem member_union_all (f g : Bool) (a b : List Int) (h : a.length + b.length ≤ 1000000000) : AM.Fn Tryz.prog 244 [.sl f (a.map .i), .sl g (b.map .i)] (.sl false ((unionI a b).map .i)) := by
  refine member_union f g a b zo fun k hk _ => ?_
  have := unionI_len a (b.take k)
  unfold unionI at this
  rw [List.length_take] at this
  exact insert_ints _ _ _ (bsI_le _ _) zo
theorem member_weights_all (f g : Bool) (a b : List WeightEntry) (h : a.length + b.length ≤ 1000000000) : AM.Fn Tryz.prog 245 [.sl f (a.map weV), .sl g (b.map weV)] (.sl false ((weightsI a b).map weV)) := by
  refine member_weights f g a b zo fun k hk _ => ?_
  have := weightsI_len a (b.take k)
  unfold weightsI at this
  rw [List.length_take] at this
  exact insert_we _ _ _ (bsW_le _ _) zo
end Go.Proofs
namespace Go.Proofs
open Go.AM
attribute [local irreducible] AM.evalR AM.evalD AM.Runs AM.valK AM.dK AM.opK AM.stepR AM.CallS AM.St.Le
def joinR (a b : Summary) : Summary := if b.rule ≠ ⟨0, 0, 0⟩ ∧ (a.rule = ⟨0, 0, 0⟩ ∨ newerW (originW a) (originW b) = true) then b else a
def joinS (a b : Summary) : Summary := ⟨unionI a.joined b.joined, unionI a.removed b.removed, weightsI a.weights b.weights, (joinR a b).rule, (joinR a b).version, (joinR a b).admin, (joinR a b).number⟩
theorem rz_p {r : Rule} {b : Bool} (e : eqCells [.i r.kind, .i r.columns, .i r.faulty] [.i 0, .i 0, .i 0] = b) : decide (r = ⟨0, 0, 0⟩) = b := (eqc_ru0 r).symm.trans e
theorem rz_n {r : Rule} {b : Bool} (e : (!eqCells [.i r.kind, .i r.columns, .i r.faulty] [.i 0, .i 0, .i 0]) = b) : decide (r = ⟨0, 0, 0⟩) = !b := by rw [← e, Bool.not_not]; exact (eqc_ru0 r).symm
theorem member_Join (a b : Summary) (hJ : AM.Fn Tryz.prog 244 [.sl false (a.joined.map .i), .sl false (b.joined.map .i)] (.sl false ((unionI a.joined b.joined).map .i)))
    (hR : AM.Fn Tryz.prog 244 [.sl false (a.removed.map .i), .sl false (b.removed.map .i)] (.sl false ((unionI a.removed b.removed).map .i)))
    (hW : AM.Fn Tryz.prog 245 [.sl false (a.weights.map weV), .sl false (b.weights.map weV)] (.sl false ((weightsI a.weights b.weights).map weV))) :
    AM.Fn Tryz.prog 217 [suV a, suV b] (suV (joinS a b)) := by
  have hN := member_newer (originW a) (originW b)
  rw [show decide (0 < orI [cmpI (originW b).version (originW a).version, cmpI (originW b).admin (originW a).admin, cmpI (originW b).number (originW a).number]) = newerW (originW a) (originW b) from rfl] at hN
  have hgo : ∀ r, joinR a b = r → (⟨unionI a.joined b.joined, unionI a.removed b.removed, weightsI a.weights b.weights, r.rule, r.version, r.admin, r.number⟩ : Summary) = joinS a b := fun r h => by subst h; rfl
  generalize joinS a b = res at *
  unfold joinR at hgo
  (refine spec_of_runs Tryz.func217 rfl ?_; simp only [Tryz.f217]; refine ys ?_)
  repeat' (first | refine yw ?_ | ((with_reducible refine Runs.is ?_); first | refine Runs.region (id := 0) ?_ | refine Runs.region (id := 1) ?_ | ((with_reducible refine Runs.isC ?_); refine Runs.cond rfl (zc ?_) (zc ?_) <;> intro hc <;> (try (first | contradiction | (exfalso; omega; done) | (have : hc = trivial := rfl; clear this; clear hc))))) | ((with_reducible refine r_is ?_); first | refine yr ?_) | fail)
  repeat' (first | refine yw ?_ | ((with_reducible refine Runs.is ?_); first | refine Runs.drawn (id := 2) mixed zK ?_ | ((with_reducible refine Runs.isC ?_); refine Runs.cond rfl (zc ?_) (zc ?_) <;> intro hc <;> (try (first | contradiction | (exfalso; omega; done) | (have : hc = trivial := rfl; clear this; clear hc))))) | ((with_reducible refine d_is ?_); first | refine yd ?_ | (refine d_fn rfl (member_origin a) HbF.h zL1 zD ?_; refine d_nn zN zH ?_) | (refine d_fn rfl (member_origin b) HbF.h zL1 zD ?_; refine d_nn zN zH ?_) | (refine d_fn rfl (hN) HbF.h zL2 zD ?_; refine d_nn zN zH ?_) | ((with_reducible refine d_gd ?_); (first | refine d_guardPf rfl rfl ?_ ?_ | refine d_guardNf rfl rfl ?_ ?_ | refine d_guardPt rfl rfl ?_ ?_ | refine d_guardNt rfl rfl ?_ ?_ | refine d_guard rfl rfl ?_ ?_) <;> intro hG <;> (try (exfalso; omega; done)) <;> refine d_nn zN zH ?_)) | fail)
  · rename_i h1
    have hr := hgo b (if_pos ⟨of_decide_eq_false (rz_n h1), .inr hc⟩)
    subst hr
    clear hgo hG h1 hc
    repeat' (first | refine yw ?_ | ((with_reducible refine Runs.is ?_); first | refine Runs.region (id := 3) ?_ | refine Runs.drawn (id := 4) mixed zK ?_ | ((with_reducible refine Runs.isC ?_); refine Runs.cond rfl (zc ?_) (zc ?_) <;> intro hc <;> (try (first | contradiction | (exfalso; omega; done) | (have : hc = trivial := rfl; clear this; clear hc))))) | ((with_reducible refine r_is ?_); first | refine yr ?_) | ((with_reducible refine d_is ?_); first | refine yd ?_ | (refine d_fn rfl (hJ) HbF.h zL2 zD ?_; refine d_nn zN zH ?_) | (refine d_fn rfl (hR) HbF.h zL2 zD ?_; refine d_nn zN zH ?_) | (refine d_fn rfl (hW) HbF.h zL2 zD ?_; refine d_nn zN zH ?_)) | fail)
    (refine Runs.retC Tryz.func217 rfl zM rfl TyF.h (And.intro zE zd) zD ?_; try exact zX)
  · have hr := hgo a (if_neg (fun q => q.2.elim (of_decide_eq_false (rz_p hG)) (fun e => by rw [hc] at e; cases e)))
    subst hr
    clear hgo hG hc
    repeat' (first | refine yw ?_ | ((with_reducible refine Runs.is ?_); first | refine Runs.region (id := 3) ?_ | refine Runs.drawn (id := 4) mixed zK ?_ | ((with_reducible refine Runs.isC ?_); refine Runs.cond rfl (zc ?_) (zc ?_) <;> intro hc <;> (try (first | contradiction | (exfalso; omega; done) | (have : hc = trivial := rfl; clear this; clear hc))))) | ((with_reducible refine r_is ?_); first | refine yr ?_) | ((with_reducible refine d_is ?_); first | refine yd ?_ | (refine d_fn rfl (hJ) HbF.h zL2 zD ?_; refine d_nn zN zH ?_) | (refine d_fn rfl (hR) HbF.h zL2 zD ?_; refine d_nn zN zH ?_) | (refine d_fn rfl (hW) HbF.h zL2 zD ?_; refine d_nn zN zH ?_)) | fail)
    (refine Runs.retC Tryz.func217 rfl zM rfl TyF.h (And.intro zE zd) zD ?_; try exact zX)
  · rename_i h1
    have hr := hgo b (if_pos ⟨of_decide_eq_false (rz_n h1), .inl (of_decide_eq_true (rz_p hG))⟩)
    subst hr
    clear hgo hG h1
    repeat' (first | refine yw ?_ | ((with_reducible refine Runs.is ?_); first | refine Runs.region (id := 3) ?_ | refine Runs.drawn (id := 4) mixed zK ?_ | ((with_reducible refine Runs.isC ?_); refine Runs.cond rfl (zc ?_) (zc ?_) <;> intro hc <;> (try (first | contradiction | (exfalso; omega; done) | (have : hc = trivial := rfl; clear this; clear hc))))) | ((with_reducible refine r_is ?_); first | refine yr ?_) | ((with_reducible refine d_is ?_); first | refine yd ?_ | (refine d_fn rfl (hJ) HbF.h zL2 zD ?_; refine d_nn zN zH ?_) | (refine d_fn rfl (hR) HbF.h zL2 zD ?_; refine d_nn zN zH ?_) | (refine d_fn rfl (hW) HbF.h zL2 zD ?_; refine d_nn zN zH ?_)) | fail)
    (refine Runs.retC Tryz.func217 rfl zM rfl TyF.h (And.intro zE zd) zD ?_; try exact zX)
  · have hr := hgo a (if_neg (fun q => q.1 (of_decide_eq_true (rz_n hG))))
    subst hr
    clear hgo hG
    repeat' (first | refine yw ?_ | ((with_reducible refine Runs.is ?_); first | refine Runs.region (id := 3) ?_ | refine Runs.drawn (id := 4) mixed zK ?_ | ((with_reducible refine Runs.isC ?_); refine Runs.cond rfl (zc ?_) (zc ?_) <;> intro hc <;> (try (first | contradiction | (exfalso; omega; done) | (have : hc = trivial := rfl; clear this; clear hc))))) | ((with_reducible refine r_is ?_); first | refine yr ?_) | ((with_reducible refine d_is ?_); first | refine yd ?_ | (refine d_fn rfl (hJ) HbF.h zL2 zD ?_; refine d_nn zN zH ?_) | (refine d_fn rfl (hR) HbF.h zL2 zD ?_; refine d_nn zN zH ?_) | (refine d_fn rfl (hW) HbF.h zL2 zD ?_; refine d_nn zN zH ?_)) | fail)
    (refine Runs.retC Tryz.func217 rfl zM rfl TyF.h (And.intro zE zd) zD ?_; try exact zX)
end Go.Proofs
namespace Go.Proofs
open Go.AM
attribute [local irreducible] AM.evalR AM.evalD AM.Runs AM.valK AM.dK AM.opK AM.stepR AM.CallS AM.St.Le
structure Acc where
  j : List Int
  r : List Int
  m : List (Int × WeightEntry)
  rule : Rule
  ver : Int
  adm : Int
  num : Int
def wC (p : Proposal) (c : Change) : WeightEntry := ⟨c.server, c.weight, c.version, p.admin, p.number⟩
def ofStep (p : Proposal) (s : Acc) (c : Change) : Acc :=
  if c.kind = 1 then { s with j := s.j ++ [c.server], m := if (getI s.m c.server).isSome then s.m else setI s.m c.server (wC p c) }
  else if c.kind = 2 then { s with r := s.r ++ [c.server] }
  else if c.kind = 3 then { s with m := setI s.m c.server (wC p c) }
  else if c.kind = 4 then { s with rule := c.rule, ver := c.version, adm := p.admin, num := p.number }
  else s
def acc0 : Acc := ⟨[], [], [], ⟨0, 0, 0⟩, 0, 0, 0⟩
def ofAcc (p : Proposal) : Acc := p.changes.foldl (ofStep p) acc0
def weightsOf (m : List (Int × WeightEntry)) : List WeightEntry := (upto 1 12).filterMap (getI m)
def ofS (p : Proposal) : Summary := ⟨sortI (ofAcc p).j, sortI (ofAcc p).r, weightsOf (ofAcc p).m, (ofAcc p).rule, (ofAcc p).ver, (ofAcc p).adm, (ofAcc p).num⟩
def accV (s : Acc) : V := .agg [.own 41, .own 63, .own 107, .i s.rule.kind, .i s.rule.columns, .i s.rule.faulty, .i s.ver, .i s.adm, .i s.num]
theorem ofStep_len (p : Proposal) (s : Acc) (c : Change) : (ofStep p s c).j.length ≤ s.j.length + 1 ∧ (ofStep p s c).r.length ≤ s.r.length + 1 := by
  unfold ofStep
  split
  · simp
  · split
    · simp
    · split
      · simp
      · split <;> simp
theorem ofAcc_len (p : Proposal) (k : Nat) (hk : k ≤ p.changes.length) : ((p.changes.take k).foldl (ofStep p) acc0).j.length ≤ k ∧ ((p.changes.take k).foldl (ofStep p) acc0).r.length ≤ k := by
  induction k with
  | zero => simp [acc0]
  | succ k ih =>
    rw [foldl_take zo]
    have := ih zo
    have := ofStep_len p ((p.changes.take k).foldl (ofStep p) acc0) (p.changes.getD k default)
    omega
theorem shows_of {ids : List (Tmp × Nat)} {slots : List V} (h : ∀ p ∈ ids, ∃ j fo, slots.getD p.1 .any = .ptr p.2 j fo) : Shows ids slots := by
  intro a i hi
  unfold idT at hi
  cases hf : ids.find? fun p => p.1 == a with
  | none => rw [hf] at hi; cases hi
  | some q =>
    rw [hf] at hi
    have h1 := List.mem_of_find?_eq_some hf
    have h2 : (q.1 == a) = true := List.find?_some (p := fun p : Tmp × Nat => p.1 == a) hf
    simp only [Option.map_some, Option.some.injEq] at hi
    have h3 : q.1 = a := by simpa using h2
    rw [← hi, ← h3]; exact h q h1
theorem member_Of (p : Proposal) (hp : p.changes.length ≤ 1000000) : AM.Fn Tryz.prog 218 [prV p] (suV (ofS p)) := by
  (refine spec_of_runs Tryz.func218 rfl ?_; simp only [Tryz.f218]; refine ys ?_)
  repeat' (first | refine yw ?_ | ((with_reducible refine Runs.is ?_); first | refine Runs.region (id := 0) ?_ | refine Runs.region (id := 1) ?_ | refine Runs.region (id := 2) ?_ | refine Runs.region (id := 3) ?_ | ((with_reducible refine Runs.isC ?_); refine Runs.cond rfl (zc ?_) (zc ?_) <;> intro hc <;> (try (first | contradiction | (exfalso; omega; done) | (have : hc = trivial := rfl; clear this; clear hc))))) | ((with_reducible refine r_is ?_); first | refine yr ?_) | fail)
  refine Runs.weaken (St.Le.nilVar 41 3 0 3 1 zd rfl rfl rfl) ?_
  refine Runs.weaken (St.Le.nilVar 63 3 1 3 1 zd rfl rfl rfl) ?_
  refine Runs.weaken (St.Le.nilVar 107 3 2 241 5 zd rfl rfl rfl) ?_
  refine Runs.loopI (fun k : Nat => p.changes.length - k) (fun k => k ≤ p.changes.length)
    (fun k => ⟨[.any, .ptr 1 0 0, .ptr 2 0 0, .ptr 3 0 0, .mp 13, .any, .any, .any, .any, .any, .any, .any, .any, .any, .any, .sl false (p.changes.map chV), .i (p.changes.length : Nat), .i (k : Nat), .any, .any, .any, .any, .any, .any, .any, .any, .any, .any, .any, .any, .any, .any, .any, .any, .any, .any, .any, .any, .any, .any, .any, .any, .any, .any, .any, .any, .any, .any, .any, .any, .any, .any, .any, .any, .any, .any, .any, .any, .any, .any, .any, .any, .any, .any, .any, .any, .any, .any, .any, .any, .any, .any, .any, .any, .any, .any, .any, .any, .any, .any, .any, .any, .any, .any, .any, .any, .any, .any, .any, .any, .any, .any, .any, .any, .any, .any, .any, .any, .any, .any, .any, .any, .any, .any, .any, .any, .any, .any, .any, .any], [(107, .lst 241 5 (([] : List WeightEntry).map weV)), (63, .lst 3 1 (((p.changes.take k).foldl (ofStep p) acc0).r.map .i)), (41, .lst 3 1 (((p.changes.take k).foldl (ofStep p) acc0).j.map .i)), (13, mapO weV ((p.changes.take k).foldl (ofStep p) acc0).m), (3, .var 154 (accV ((p.changes.take k).foldl (ofStep p) acc0))), (2, .var 154 (.agg [.sc (.slice none 0 0), .sc (.slice none 0 0), .sc (.slice none 0 0), .i 0, .i 0, .i 0, .i 0, .i 0, .i 0])), (1, .var 129 (prV p))]⟩) 0 (by simp) ?_ ?_
  · (refine St.Le.clean zR zU zV)
  rintro k hk ih
  have hst := fun (h : k < p.changes.length) => foldl_take (g := ofStep p) (s := acc0) h
  have hend : p.changes.length ≤ k → (p.changes.take k).foldl (ofStep p) acc0 = ofAcc p := fun h => by rw [List.take_of_length_le h]; rfl
  have hlen := ofAcc_len p k hk
  generalize (p.changes.take k).foldl (ofStep p) acc0 = s at hst hend hlen ⊢
  obtain ⟨J, R, m, ru, ver, adm, num⟩ := s
  unfold accV
  dsimp only at hlen ⊢
  repeat' (first | refine yw ?_ | ((with_reducible refine Runs.is ?_); first | refine Runs.region (id := 4) ?_ | refine Runs.region (id := 5) ?_ | refine Runs.region (id := 6) ?_ | refine Runs.region (id := 7) ?_ | refine Runs.region (id := 8) ?_ | refine Runs.region (id := 9) ?_ | refine Runs.region (id := 10) ?_ | refine Runs.region (id := 11) ?_ | refine Runs.region (id := 12) ?_ | refine Runs.region (id := 13) ?_ | refine Runs.region (id := 14) ?_ | refine Runs.region (id := 15) ?_ | refine Runs.region (id := 16) ?_ | refine Runs.region (id := 17) ?_ | ((with_reducible refine Runs.isC ?_); refine Runs.cond rfl (zc ?_) (zc ?_) <;> intro hc <;> (try (first | contradiction | (exfalso; omega; done) | (have : hc = trivial := rfl; clear this; clear hc))))) | ((with_reducible refine r_is ?_); first | refine yr ?_ | (refine r_append_full SlF.h SlF.s ZoF.h zd rfl rfl zC zJ zS rfl (fun hn => ?_) (fun hn => ?_) <;> refine r_nn zN zH ?_)) | fail)
  · rename_i h0 h1
    refine r_mapUpd (b := wC p (p.changes.getD k default)) MpF.h rfl rfl rfl rfl zD ?_
    refine r_nn zN zH ?_
    repeat' (first | refine yw ?_ | ((with_reducible refine Runs.is ?_); first | refine Runs.region (id := 12) ?_ | ((with_reducible refine Runs.isC ?_); refine Runs.cond rfl (zc ?_) (zc ?_) <;> intro hc <;> (try (first | contradiction | (exfalso; omega; done) | (have : hc = trivial := rfl; clear this; clear hc))))) | ((with_reducible refine r_is ?_); first | refine yr ?_) | fail)
    repeat' (first | refine yw ?_ | ((with_reducible refine Runs.is ?_); first | refine Runs.region (id := 19) ?_ | ((with_reducible refine Runs.isC ?_); refine Runs.cond rfl (zc ?_) (zc ?_) <;> intro hc <;> (try (first | contradiction | (exfalso; omega; done) | (have : hc = trivial := rfl; clear this; clear hc))))) | ((with_reducible refine r_is ?_); first | refine yr ?_) | fail)
    refine ih (k + 1) _ zo zo ?_
    rw [hst h0, ofStep, if_pos h1, hc]
    (refine St.Le.clean zR zU zV)
  · rename_i h0 h1
    repeat' (first | refine yw ?_ | ((with_reducible refine Runs.is ?_); first | refine Runs.region (id := 19) ?_ | ((with_reducible refine Runs.isC ?_); refine Runs.cond rfl (zc ?_) (zc ?_) <;> intro hc <;> (try (first | contradiction | (exfalso; omega; done) | (have : hc = trivial := rfl; clear this; clear hc))))) | ((with_reducible refine r_is ?_); first | refine yr ?_) | fail)
    refine ih (k + 1) _ zo zo ?_
    rw [hst h0, ofStep, if_pos h1, hc]
    (refine St.Le.clean zR zU zV)
  · rename_i h0 h1
    repeat' (first | refine yw ?_ | ((with_reducible refine Runs.is ?_); first | refine Runs.region (id := 19) ?_ | ((with_reducible refine Runs.isC ?_); refine Runs.cond rfl (zc ?_) (zc ?_) <;> intro hc <;> (try (first | contradiction | (exfalso; omega; done) | (have : hc = trivial := rfl; clear this; clear hc))))) | ((with_reducible refine r_is ?_); first | refine yr ?_) | fail)
    refine ih (k + 1) _ zo zo ?_
    rw [hst h0, ofStep, if_neg h1, if_pos hc]
    (refine St.Le.clean zR zU zV)
  · rename_i h0 h1 h2
    refine r_mapUpd (b := wC p (p.changes.getD k default)) MpF.h rfl rfl rfl rfl zD ?_
    refine r_nn zN zH ?_
    repeat' (first | refine yw ?_ | ((with_reducible refine Runs.is ?_); first | refine Runs.region (id := 16) ?_ | ((with_reducible refine Runs.isC ?_); refine Runs.cond rfl (zc ?_) (zc ?_) <;> intro hc <;> (try (first | contradiction | (exfalso; omega; done) | (have : hc = trivial := rfl; clear this; clear hc))))) | ((with_reducible refine r_is ?_); first | refine yr ?_) | fail)
    repeat' (first | refine yw ?_ | ((with_reducible refine Runs.is ?_); first | refine Runs.region (id := 19) ?_ | ((with_reducible refine Runs.isC ?_); refine Runs.cond rfl (zc ?_) (zc ?_) <;> intro hc <;> (try (first | contradiction | (exfalso; omega; done) | (have : hc = trivial := rfl; clear this; clear hc))))) | ((with_reducible refine r_is ?_); first | refine yr ?_) | fail)
    refine ih (k + 1) _ zo zo ?_
    rw [hst h0, ofStep, if_neg h1, if_neg h2, if_pos hc]
    (refine St.Le.clean zR zU zV)
  · rename_i h0 h1 h2 h3
    refine Runs.drawnF [(73, 6), (75, 6), (77, 1), (79, 1), (81, 3), (82, 3), (83, 3), (84, 3)] mixed zK ?_
    refine yd ?_
    refine And.intro (shows_of (by intro p hp; simp only [List.mem_cons, List.not_mem_nil, or_false] at hp; rcases hp with rfl | rfl | rfl | rfl | rfl | rfl | rfl | rfl <;> exact ⟨_, _, rfl⟩)) ?_
    repeat' (first | refine yw ?_ | ((with_reducible refine Runs.is ?_); first | refine Runs.region (id := 19) ?_ | ((with_reducible refine Runs.isC ?_); refine Runs.cond rfl (zc ?_) (zc ?_) <;> intro hc <;> (try (first | contradiction | (exfalso; omega; done) | (have : hc = trivial := rfl; clear this; clear hc))))) | ((with_reducible refine r_is ?_); first | refine yr ?_) | fail)
    refine ih (k + 1) _ zo zo ?_
    rw [hst h0, ofStep, if_neg h1, if_neg h2, if_neg h3, if_pos hc]
    (refine St.Le.clean zR zU zV)
  · rename_i h0 h1 h2 h3
    repeat' (first | refine yw ?_ | ((with_reducible refine Runs.is ?_); first | refine Runs.region (id := 19) ?_ | ((with_reducible refine Runs.isC ?_); refine Runs.cond rfl (zc ?_) (zc ?_) <;> intro hc <;> (try (first | contradiction | (exfalso; omega; done) | (have : hc = trivial := rfl; clear this; clear hc))))) | ((with_reducible refine r_is ?_); first | refine yr ?_) | fail)
    refine ih (k + 1) _ zo zo ?_
    rw [hst h0, ofStep, if_neg h1, if_neg h2, if_neg h3, if_neg hc]
    (refine St.Le.clean zR zU zV)
  · have he := hend zo
    unfold ofS
    rw [← he]
    dsimp only
    clear hst hend he ih
    repeat' (first | refine yw ?_ | ((with_reducible refine Runs.is ?_); first | refine Runs.region (id := 20) ?_ | refine Runs.region (id := 21) ?_ | refine Runs.region (id := 22) ?_ | ((with_reducible refine Runs.isC ?_); refine Runs.cond rfl (zc ?_) (zc ?_) <;> intro hc <;> (try (first | contradiction | (exfalso; omega; done) | (have : hc = trivial := rfl; clear this; clear hc))))) | ((with_reducible refine r_is ?_); first | refine yr ?_ | (refine r_turn rfl (sort_turns J zo) HbF.h rfl rfl ?_; refine r_nn zN zH ?_) | (refine r_turn rfl (sort_turns R zo) HbF.h rfl rfl ?_; refine r_nn zN zH ?_)) | fail)
    refine Runs.loopI (α := Int) (fun i => (13 - i).toNat) (fun i => 1 ≤ i ∧ i ≤ 13)
      (fun i => ⟨[.any, .any, .ptr 2 0 0, .ptr 3 0 0, .mp 13, .any, .any, .any, .any, .any, .i i, .any, .any, .any, .any, .any, .any, .any, .any, .any, .any, .any, .any, .any, .any, .any, .any, .any, .any, .any, .any, .any, .any, .any, .any, .any, .any, .any, .any, .any, .any, .any, .any, .any, .any, .any, .any, .any, .any, .any, .any, .any, .any, .any, .any, .any, .any, .any, .any, .any, .any, .any, .any, .any, .any, .any, .any, .any, .any, .any, .any, .any, .any, .any, .any, .any, .any, .any, .any, .any, .any, .any, .any, .any, .any, .any, .any, .any, .any, .any, .any, .any, .any, .any, .any, .any, .any, .any, .any, .any, .any, .any, .any, .any, .any, .any, .any, .any, .any, .any], [(107, .lst 241 5 (((upto 1 (i - 1)).filterMap (getI m)).map weV)), (63, .lst 3 1 ((sortI R).map .i)), (41, .lst 3 1 ((sortI J).map .i)), (13, mapO weV m), (3, .var 154 (.agg [.own 41, .own 63, .own 107, .i ru.kind, .i ru.columns, .i ru.faulty, .i ver, .i adm, .i num])), (2, .var 154 (.agg [.sc (.slice none 0 0), .sc (.slice none 0 0), .sc (.slice none 0 0), .i 0, .i 0, .i 0, .i 0, .i 0, .i 0]))]⟩) 1 ⟨by decide, by decide⟩ ?_ ?_
    · rw [show upto 1 (1 - 1) = [] from rfl]
      (refine St.Le.clean zR zU zV)
    rintro i ⟨hi1, hi2⟩ ih
    have hl : ((upto 1 (i - 1)).filterMap (getI m)).length ≤ 12 := by
      have h1 := List.length_filterMap_le (getI m) (upto 1 (i - 1))
      rw [upto_len] at h1; omega
    have hst : (upto 1 (i + 1 - 1)).filterMap (getI m) = (upto 1 (i - 1)).filterMap (getI m) ++ (getI m i).toList := by
      rw [show i + 1 - 1 = i by omega, upto_snoc hi1, List.filterMap_append]
      congr 1
    have hend : ¬ i ≤ 12 → (upto 1 (i - 1)).filterMap (getI m) = weightsOf m := fun h => by rw [show i - 1 = 12 by omega]; rfl
    generalize (upto 1 (i - 1)).filterMap (getI m) = ws at hl hst hend ⊢
    repeat' (first | refine yw ?_ | ((with_reducible refine Runs.is ?_); first | refine Runs.region (id := 23) ?_ | refine Runs.region (id := 25) ?_ | refine Runs.region (id := 26) ?_ | refine Runs.region (id := 27) ?_ | refine Runs.region (id := 24) ?_ | ((with_reducible refine Runs.isC ?_); refine Runs.cond rfl (zc ?_) (zc ?_) <;> intro hc <;> (try (first | contradiction | (exfalso; omega; done) | (have : hc = trivial := rfl; clear this; clear hc))))) | ((with_reducible refine r_is ?_); first | refine yr ?_ | (refine r_append_full SlF.h SlF.s ZoF.h zd rfl rfl zC zJ zS rfl (fun hn => ?_) (fun hn => ?_) <;> refine r_nn zN zH ?_)) | fail)
    · obtain ⟨w, hw⟩ := Option.isSome_iff_exists.1 hc
      rw [hw] at hst
      simp only [hw, Option.getD_some]
      refine ih (i + 1) _ ⟨by omega, by omega⟩ zo ?_
      rw [hst]
      (refine St.Le.clean zR zU zV)
    · have hw : getI m i = none := by cases h : getI m i <;> simp_all
      rw [hw] at hst
      refine ih (i + 1) _ ⟨by omega, by omega⟩ zo ?_
      rw [hst, show ws ++ (none : Option WeightEntry).toList = ws by simp]
      (refine St.Le.clean zR zU zV)
    · have hw := hend zo
      subst hw
      repeat' (first | refine yw ?_ | ((with_reducible refine Runs.is ?_); first | refine Runs.region (id := 28) ?_ | ((with_reducible refine Runs.isC ?_); refine Runs.cond rfl (zc ?_) (zc ?_) <;> intro hc <;> (try (first | contradiction | (exfalso; omega; done) | (have : hc = trivial := rfl; clear this; clear hc))))) | ((with_reducible refine r_is ?_); first | refine yr ?_) | fail)
      (refine Runs.weaken (St.Le.freeze_lst 41 rfl) ?_; refine yf ?_)
      (refine Runs.weaken (St.Le.freeze_lst 63 rfl) ?_; refine yf ?_)
      (refine Runs.weaken (St.Le.freeze_lst 107 rfl) ?_; refine yf ?_)
      (refine Runs.retC Tryz.func218 rfl zM rfl TyF.h (And.intro zE zd) zD ?_; try exact zX)
end Go.Proofs
namespace Go.Proofs
open Go.AM
attribute [local irreducible] AM.evalR AM.evalD AM.Runs AM.valK AM.dK AM.opK AM.stepR AM.CallS AM.St.Le
def wOf (m : Member) : WeightEntry := ⟨m.server, m.weight, 0, 0, 0⟩
def initS (g : View) : Summary := ⟨g.members.map (·.server), [], g.members.map wOf, g.rule, 0, 0, 0⟩
theorem member_Initial (g : View) (hg : g.members.length ≤ 1000000) : AM.Fn Tryz.prog 216 [viV g] (suV (initS g)) := by
  obtain ⟨ms, r⟩ := g
  dsimp only at hg
  (refine spec_of_runs Tryz.func216 rfl ?_; simp only [Tryz.f216]; refine ys ?_)
  repeat' (first | refine yw ?_ | ((with_reducible refine Runs.is ?_); first | refine Runs.region (id := 0) ?_ | refine Runs.region (id := 1) ?_ | refine Runs.region (id := 2) ?_ | ((with_reducible refine Runs.isC ?_); refine Runs.cond rfl (zc ?_) (zc ?_) <;> intro hc <;> (try (first | contradiction | (exfalso; omega; done) | (have : hc = trivial := rfl; clear this; clear hc))))) | ((with_reducible refine r_is ?_); first | refine yr ?_) | fail)
  refine Runs.weaken (St.Le.nilVar 21 3 0 3 1 zd rfl rfl rfl) ?_
  refine Runs.weaken (St.Le.nilVar 31 3 2 241 5 zd rfl rfl rfl) ?_
  refine Runs.loopI (fun k : Nat => ms.length - k) (fun k => k ≤ ms.length)
    (fun k => ⟨[.any, .any, .ptr 2 0 0, .ptr 3 0 0, .any, .any, .any, .any, .any, .any, .sl false (ms.map mbV), .i (ms.length : Nat), .i (k : Nat), .any, .any, .any, .any, .any, .any, .any, .any, .any, .any, .any, .any, .any, .any, .any, .any, .any, .any, .any, .any, .any, .any], [(31, .lst 241 5 (((ms.take k).map wOf).map weV)), (21, .lst 3 1 (((ms.take k).map (·.server)).map .i)), (3, .var 154 (.agg [.own 21, .sc (.slice none 0 0), .own 31, .i r.kind, .i r.columns, .i r.faulty, .i 0, .i 0, .i 0])), (2, .var 154 (.agg [.sc (.slice none 0 0), .sc (.slice none 0 0), .sc (.slice none 0 0), .i 0, .i 0, .i 0, .i 0, .i 0, .i 0]))]⟩) 0 (by simp) ?_ ?_
  · (refine St.Le.clean zR zU zV)
  rintro k hk ih
  have hst := fun (h : k < ms.length) => take_getD (xs := ms) h
  have hl1 : ((ms.take k).map wOf).length ≤ 1000000 := by simp; omega
  have hl2 : ((ms.take k).map (·.server)).length ≤ 1000000 := by simp; omega
  by_cases hlt : k < ms.length
  · have hst2 := hst hlt
    repeat' (first | refine yw ?_ | ((with_reducible refine Runs.is ?_); first | refine Runs.region (id := 3) ?_ | refine Runs.region (id := 4) ?_ | refine Runs.region (id := 5) ?_ | refine Runs.region (id := 6) ?_ | refine Runs.region (id := 7) ?_ | ((with_reducible refine Runs.isC ?_); refine Runs.cond rfl (zc ?_) (zc ?_) <;> intro hc <;> (try (first | contradiction | (exfalso; omega; done) | (have : hc = trivial := rfl; clear this; clear hc))))) | ((with_reducible refine r_is ?_); first | refine yr ?_ | (refine r_append_full SlF.h SlF.s ZoF.h zd rfl rfl zC zJ zS rfl (fun hn => ?_) (fun hn => ?_) <;> refine r_nn zN zH ?_)) | fail)
    refine ih (k + 1) _ zo zo ?_
    rw [hst2]
    (refine St.Le.clean zR (by first | (simp [V.usesL, V.uses, AM.look_cons]; done) | (simp [V.usesL, V.uses, AM.look_cons, V.usesL_data, V.uses_data, da_i, da_chV, da_ruV, da_prV, da_enV, da_cfV, da_veV, da_inV, da_edV, da_grV, da_weV, da_mbV, da_suV, da_viV]; done)) ?_; (repeat' (first | exact True.intro | refine And.intro ?_ ?_)); all_goals (first | rfl | (simp [AM.look_cons, weV, wOf]; done) | (simp [V.uses, V.usesL, AM.look_cons, V.usesL_data, V.uses_data, da_i, da_chV, da_ruV, da_prV, da_enV, da_cfV, da_veV, da_inV, da_edV, da_grV, da_weV, da_mbV, da_suV, da_viV]; done)))
  · have hk2 : k = ms.length := by omega
    subst hk2
    rw [List.take_length] at hl1 hl2 ⊢
    repeat' (first | refine yw ?_ | ((with_reducible refine Runs.is ?_); first | refine Runs.region (id := 3) ?_ | ((with_reducible refine Runs.isC ?_); refine Runs.cond rfl (zc ?_) (zc ?_) <;> intro hc <;> (try (first | contradiction | (exfalso; omega; done) | (have : hc = trivial := rfl; clear this; clear hc))))) | ((with_reducible refine r_is ?_); first | refine yr ?_) | fail)
    repeat' (first | refine yw ?_ | ((with_reducible refine Runs.is ?_); first | refine Runs.region (id := 8) ?_ | ((with_reducible refine Runs.isC ?_); refine Runs.cond rfl (zc ?_) (zc ?_) <;> intro hc <;> (try (first | contradiction | (exfalso; omega; done) | (have : hc = trivial := rfl; clear this; clear hc))))) | ((with_reducible refine r_is ?_); first | refine yr ?_) | fail)
    (refine Runs.weaken (St.Le.freeze_lst 21 rfl) ?_; refine yf ?_)
    (refine Runs.weaken (St.Le.freeze_lst 31 rfl) ?_; refine yf ?_)
    (refine Runs.retC Tryz.func216 rfl zM rfl TyF.h (And.intro zE zd) zD ?_; try exact zX)
def weightIn (ws : List WeightEntry) (x : Int) (n : Int) : Int := ws.foldl (fun n w => if w.server = x then w.weight else n) n
def viewMs (s : Summary) : List Member := (s.joined.filter fun x => !s.removed.contains x).map fun x => ⟨x, weightIn s.weights x 1⟩
def viewRule (r : Rule) : Rule := if r = ⟨0, 0, 0⟩ then ⟨1, 0, 0⟩ else r
def viewS (s : Summary) : View := ⟨viewMs s, viewRule s.rule⟩
end Go.Proofs
