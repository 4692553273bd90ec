/- Package member: union, weights, Join. The contract of slices.Insert is asked for where it is used ('InsOK'). -/
import Derived.Test.YtmhnmookgbmmbaaGreatW38
set_option linter.unusedVariables false
set_option linter.unusedSimpArgs false
set_option maxRecDepth 8000
set_option maxHeartbeats 4000000
set_option pp.deepTerms false
set_option pp.deepTerms.threshold 6
namespace Go.Proofs
open Go.AM
attribute [local irreducible] AM.evalR AM.evalD AM.Runs AM.valK AM.dK AM.opK AM.stepR AM.CallS AM.St.Le
def putI (l : List Int) (x : Int) : List Int := l.take (bsI l x) ++ x :: l.drop (bsI l x)
def insI (l : List Int) (x : Int) : List Int := if foundI l x then l else putI l x
def unionI (a b : List Int) : List Int := b.foldl insI a
/-- 'slices.Insert' of a number at its place. -/
def InsI (l : List Int) (x : Int) : Prop := AM.Gives Tryz.prog 104 1000 [.i (bsI l x : Nat), .sl true [.i x]] 3 1 (l.map .i) (fun r => r = (putI l x).map .i)
theorem member_union (f g : Bool) (a b : List Int) (ha : a.length ≤ 1000000000) (hI : ∀ k, k < b.length → foundI ((b.take k).foldl insI a) (b.getD k default) = false → InsI ((b.take k).foldl insI a) (b.getD k default)) :
    AM.Fn Tryz.prog 90 [.sl f (a.map .i), .sl g (b.map .i)] (.sl false ((unionI a b).map .i)) := by
  (refine spec_of_runs Tryz.func90 rfl ?_; simp only [Tryz.f90]; refine ys ?_)
  (refine Runs.lens 1 ?_; refine yl ?_)
  intro hlb
  repeat' (first | refine yw ?_ | ((with_reducible refine Runs.is ?_); first | refine Runs.region (id := 0) ?_ | refine Runs.region (id := 1) ?_ | refine Runs.region (id := 2) ?_ | ((with_reducible refine Runs.isC ?_); refine Runs.cond rfl (zc ?_) (zc ?_) <;> intro hc <;> (try (first | contradiction | (exfalso; omega; done) | (have : hc = trivial := rfl; clear this; clear hc))))) | ((with_reducible refine r_is ?_); first | refine yr ?_ | (refine r_own rfl (duplicate_ints f a ha) HbF.h zL1 zD rfl (fun _ hq _ => ?_); (try subst hq); refine r_nn zN zH ?_)) | fail)
  refine Runs.loopI (fun k : Nat => b.length - k) (fun k => k ≤ b.length)
    (fun k => ⟨[.any, .any, .any, .any, .any, .own 11, .any, .any, .any, .any, .any, .any, .sl g (b.map .i), .i (b.length : Nat), .i (k : Nat), .any, .any, .any, .any, .any, .any, .any, .any, .any, .any, .any, .any, .any, .any, .any, .any, .any, .any], [(11, .lst 3 1 (((b.take k).foldl insI a).map .i))]⟩) 0 (by simp) ?_ ?_
  · (refine St.Le.clean zR zU zV)
  rintro k hk ih
  have hst := fun (h : k < b.length) => foldl_take (g := insI) (s := a) h
  have hend : b.length ≤ k → (b.take k).foldl insI a = unionI a b := fun h => by rw [List.take_of_length_le h]; rfl
  have hIk := hI k
  generalize (b.take k).foldl insI a = l at hst hend hIk ⊢
  by_cases hlt : k < b.length
  · have hst2 := hst hlt
    have hI2 := hIk hlt
    by_cases hf : foundI l (b.getD k default) = true
    · rw [insI, if_pos hf] at hst2
      repeat' (first | refine yw ?_ | ((with_reducible refine Runs.is ?_); first | refine Runs.region (id := 3) ?_ | refine Runs.region (id := 4) ?_ | refine Runs.region (id := 5) ?_ | refine Runs.region (id := 6) ?_ | refine Runs.region (id := 7) ?_ | refine Runs.region (id := 8) ?_ | ((with_reducible refine Runs.isC ?_); refine Runs.cond rfl (zc ?_) (zc ?_) <;> intro hc <;> (try (first | contradiction | (exfalso; omega; done) | (have : hc = trivial := rfl; clear this; clear hc))))) | ((with_reducible refine r_is ?_); first | refine yr ?_ | (refine r_lend rfl (search_ints false _ _) HbF.h zY rfl ?_; refine r_nn zN zH ?_)) | fail)
      · exfalso; rw [hf] at hc; cases hc
      · refine ih (k + 1) _ zo zo ?_
        rw [hst2]
        (refine St.Le.clean zR zU zV)
    · have hf2 : foundI l (b.getD k default) = false := by simpa using hf
      rw [insI, if_neg hf] at hst2
      have hI3 := hI2 hf2
      unfold InsI at hI3
      repeat' (first | refine yw ?_ | ((with_reducible refine Runs.is ?_); first | refine Runs.region (id := 3) ?_ | refine Runs.region (id := 4) ?_ | refine Runs.region (id := 5) ?_ | refine Runs.region (id := 6) ?_ | refine Runs.region (id := 7) ?_ | refine Runs.region (id := 8) ?_ | ((with_reducible refine Runs.isC ?_); refine Runs.cond rfl (zc ?_) (zc ?_) <;> intro hc <;> (try (first | contradiction | (exfalso; omega; done) | (have : hc = trivial := rfl; clear this; clear hc))))) | ((with_reducible refine r_is ?_); first | refine yr ?_ | (refine r_lend rfl (search_ints false _ _) HbF.h zY rfl ?_; refine r_nn zN zH ?_) | (refine r_give rfl (hI3) HbF.h rfl rfl zL2 zD ?_; refine r_nn zN zH ?_)) | fail)
      · refine ih (k + 1) _ zo zo ?_
        rw [hst2]
        (refine St.Le.clean zR zU zV)
  · repeat' (first | refine yw ?_ | ((with_reducible refine Runs.is ?_); first | refine Runs.region (id := 3) ?_ | ((with_reducible refine Runs.isC ?_); refine Runs.cond rfl (zc ?_) (zc ?_) <;> intro hc <;> (try (first | contradiction | (exfalso; omega; done) | (have : hc = trivial := rfl; clear this; clear hc))))) | ((with_reducible refine r_is ?_); first | refine yr ?_) | fail)
    rw [hend zo]
    repeat' (first | refine yw ?_ | ((with_reducible refine Runs.is ?_); first | refine Runs.region (id := 9) ?_ | ((with_reducible refine Runs.isC ?_); refine Runs.cond rfl (zc ?_) (zc ?_) <;> intro hc <;> (try (first | contradiction | (exfalso; omega; done) | (have : hc = trivial := rfl; clear this; clear hc))))) | ((with_reducible refine r_is ?_); first | refine yr ?_) | fail)
    exact Runs.ret_frz Tryz.func90 rfl rfl rfl rfl
/-! weights -/
theorem member_newer (a b : WeightEntry) : AM.Fn Tryz.prog 88 [weV a, weV b] (.b (decide (0 < orI [cmpI b.version a.version, cmpI b.admin a.admin, cmpI b.number a.number]))) := by
  (refine spec_of_runs Tryz.func88 rfl ?_; simp only [Tryz.f88]; refine ys ?_)
  repeat' (first | refine yw ?_ | ((with_reducible refine Runs.is ?_); first | refine Runs.region ?_ | refine Runs.drawn mixed zK ?_ | ((with_reducible refine Runs.isC ?_); refine Runs.cond rfl (zc ?_) (zc ?_) <;> intro hc <;> (try (first | contradiction | (exfalso; omega; done) | (have : hc = trivial := rfl; clear this; clear hc))))) | ((with_reducible refine r_is ?_); first | refine yr ?_) | ((with_reducible refine d_is ?_); first | refine yd ?_ | (refine d_fn rfl (cmp_Compare _ _) HbF.h zL2 zD ?_; refine d_nn zN zH ?_) | (refine d_fn rfl (cmp_Or true [_, _, _]) HbF.h zL1 zD ?_; refine d_nn zN zH ?_)) | fail)
  (refine Runs.ret1 Tryz.func88 rfl zM zD ?_; try exact zX)
def newerW (a b : WeightEntry) : Bool := decide (0 < orI [cmpI b.version a.version, cmpI b.admin a.admin, cmpI b.number a.number])
def originW (s : Summary) : WeightEntry := ⟨0, 0, s.version, s.admin, s.number⟩
theorem member_origin (s : Summary) : AM.Fn Tryz.prog 89 [suV s] (weV (originW s)) := by
  (refine spec_of_runs Tryz.func89 rfl ?_; simp only [Tryz.f89]; refine ys ?_)
  repeat' (first | refine yw ?_ | ((with_reducible refine Runs.is ?_); first | refine Runs.region ?_ | ((with_reducible refine Runs.isC ?_); refine Runs.cond rfl (zc ?_) (zc ?_) <;> intro hc <;> (try (first | contradiction | (exfalso; omega; done) | (have : hc = trivial := rfl; clear this; clear hc))))) | ((with_reducible refine r_is ?_); first | refine yr ?_) | fail)
  (refine Runs.retC Tryz.func89 rfl zM rfl TyF.h (And.intro zE zd) zD ?_; try exact zX)
theorem weights1 (a b : WeightEntry) : AM.Fn Tryz.prog 107 [weV a, weV b] (.i (cmpI a.server b.server)) := by
  (refine spec_of_runs Tryz.func107 rfl ?_; simp only [Tryz.f107]; refine ys ?_)
  repeat' (first | refine yw ?_ | ((with_reducible refine Runs.is ?_); first | refine Runs.region ?_ | ((with_reducible refine Runs.isC ?_); refine Runs.cond rfl (zc ?_) (zc ?_) <;> intro hc <;> (try (first | contradiction | (exfalso; omega; done) | (have : hc = trivial := rfl; clear this; clear hc))))) | ((with_reducible refine r_is ?_); first | refine yr ?_ | (refine r_fn rfl (cmp_Compare _ _) HbF.h zL2 zD ?_; refine r_nn zN zH ?_)) | fail)
  (refine Runs.ret1 Tryz.func107 rfl zM zD ?_; try exact zX)
theorem duplicate_we (f : Bool) (l : List WeightEntry) (hl : l.length ≤ 1000000000) : AM.Spec Tryz.prog 105 [.sl f (l.map weV)] [] (OwnPost 99 5 fun r => r = l.map weV) := by
  (refine spec_of_runs Tryz.func105 rfl ?_; simp only [Tryz.f105]; refine ys ?_)
  repeat' (first | refine yw ?_ | ((with_reducible refine Runs.is ?_); first | refine Runs.region ?_ | ((with_reducible refine Runs.isC ?_); refine Runs.cond rfl (zc ?_) (zc ?_) <;> intro hc <;> (try (first | contradiction | (exfalso; omega; done) | (have : hc = trivial := rfl; clear this; clear hc))))) | ((with_reducible refine r_is ?_); first | refine yr ?_ | (refine r_copyA SlF.h SlF.s rfl rfl rfl zC (by simp) ?_; refine r_nn zN zH ?_)) | fail)
  · obtain rfl : l = [] := List.eq_nil_of_length_eq_zero zo
    exact Runs.ret_nil Tryz.func105 rfl rfl zd rfl rfl
  · exact Runs.ret_own Tryz.func105 rfl rfl rfl rfl
def weK (l : List WeightEntry) (w : WeightEntry) (t : Nat) : Int := cmpI (l.getD t default).server w.server
def bsW (l : List WeightEntry) (w : WeightEntry) : Nat := bs (weK l w) 0 l.length
def foundW (l : List WeightEntry) (w : WeightEntry) : Bool := decide (bsW l w < l.length ∧ cmpI (l.getD (bsW l w) default).server w.server = 0)
theorem search_we (f : Bool) (l : List WeightEntry) (w : WeightEntry) (g : FuncId) (hg : ∀ x, AM.Fn Tryz.prog g [weV x, weV w] (.i (cmpI x.server w.server))) (hb : hasBody Tryz.prog g) :
    AM.Fn Tryz.prog 106 [.sl f (l.map weV), weV w, .fn g []] (.tup [.i (bsW l w : Nat), .b (foundW l w)]) := by
  (refine spec_of_runs Tryz.func106 rfl ?_; simp only [Tryz.f106]; refine ys ?_)
  (refine Runs.lens 0 ?_; refine yl ?_)
  intro hl
  repeat' (first | refine yw ?_ | ((with_reducible refine Runs.is ?_); first | refine Runs.region (id := 0) ?_ | refine Runs.region (id := 1) ?_ | refine Runs.region (id := 2) ?_ | ((with_reducible refine Runs.isC ?_); refine Runs.cond rfl (zc ?_) (zc ?_) <;> intro hc <;> (try (first | contradiction | (exfalso; omega; done) | (have : hc = trivial := rfl; clear this; clear hc))))) | ((with_reducible refine r_is ?_); first | refine yr ?_) | fail)
  refine Runs.loopI (α := Nat × Nat) (fun a => a.2 - a.1) (fun a => a.1 ≤ a.2 ∧ a.2 ≤ l.length ∧ bs (weK l w) a.1 a.2 = bs (weK l w) 0 l.length)
    (fun a => ⟨[.sl f (l.map weV), .any, .fn g [], .any, .ptr 4 0 0, .any, .any, .any, .i (l.length : Nat), .i (a.1 : Nat), .i (a.2 : Nat), .any, .any, .any, .any, .any, .any, .any, .any, .any, .any, .any, .any, .any, .any, .any, .any, .any, .any, .any, .any, .any, .any, .any, .any, .any, .any, .any, .any, .any, .any, .any, .any, .any, .any, .any, .any, .any, .any], [(4, .var 99 (weV w))]⟩) (0, l.length) (by simp) ?_ ?_
  · (refine St.Le.clean zR zU zV)
  rintro ⟨i, j⟩ ⟨h0, h1, h2⟩ ih
  dsimp only at h0 h1 h2
  by_cases hij : i < j
  · repeat' (first | refine yw ?_ | ((with_reducible refine Runs.is ?_); first | refine Runs.region (id := 3) ?_ | refine Runs.region (id := 4) ?_ | refine Runs.drawn (id := 5) mixed zK ?_ | refine Runs.region (id := 6) ?_ | refine Runs.region (id := 7) ?_ | ((with_reducible refine Runs.isC ?_); refine Runs.cond rfl (zc ?_) (zc ?_) <;> intro hc <;> (try (first | contradiction | (exfalso; omega; done) | (have : hc = trivial := rfl; clear this; clear hc))))) | ((with_reducible refine r_is ?_); first | refine yr ?_) | ((with_reducible refine d_is ?_); first | refine yd ?_ | (refine d_fn rfl (hg _) (hb) zL2 zD ?_; refine d_nn zN zH ?_)) | fail)
    · have e : (((i : Int) + (j : Int)) / 2).toNat = (i + j) / 2 := by omega
      rw [e] at hc
      refine ih ((i + j) / 2 + 1, j) _ ⟨by dsimp only; omega, h1, ?_⟩ (by dsimp only; omega) (by (refine St.Le.clean zR zU zV))
      rw [← h2, bs.eq_1 _ i j, dif_pos hij, if_pos (show weK l w ((i + j) / 2) < 0 from hc)]
    · have e : (((i : Int) + (j : Int)) / 2).toNat = (i + j) / 2 := by omega
      rw [e] at hc
      refine ih (i, (i + j) / 2) _ ⟨by dsimp only; omega, by dsimp only; omega, ?_⟩ (by dsimp only; omega) (by (refine St.Le.clean zR zU zV))
      rw [← h2, bs.eq_1 _ i j, dif_pos hij, if_neg (show ¬ weK l w ((i + j) / 2) < 0 by unfold weK; omega)]
  · have e : bs (weK l w) i j = i := by rw [bs.eq_1, dif_neg zo]
    rw [e] at h2
    have hr : bsW l w = i := h2.symm
    rw [foundW, hr]
    repeat' (first | refine yw ?_ | ((with_reducible refine Runs.is ?_); first | refine Runs.region (id := 3) ?_ | ((with_reducible refine Runs.isC ?_); refine Runs.cond rfl (zc ?_) (zc ?_) <;> intro hc <;> (try (first | contradiction | (exfalso; omega; done) | (have : hc = trivial := rfl; clear this; clear hc))))) | ((with_reducible refine r_is ?_); first | refine yr ?_) | fail)
    repeat' (first | refine yw ?_ | ((with_reducible refine Runs.is ?_); first | refine Runs.drawn (id := 8) mixed zK ?_ | ((with_reducible refine Runs.isC ?_); refine Runs.cond rfl (zc ?_) (zc ?_) <;> intro hc <;> (try (first | contradiction | (exfalso; omega; done) | (have : hc = trivial := rfl; clear this; clear hc))))) | ((with_reducible refine d_is ?_); first | refine yd ?_ | (refine d_fn rfl (hg _) (hb) zL2 zD ?_; refine d_nn zN zH ?_) | ((with_reducible refine d_gd ?_); (first | refine d_guardPt rfl rfl ?_ ?_ | refine d_guardNt rfl rfl ?_ ?_ | refine d_guard rfl rfl ?_ ?_) <;> intro hG <;> (try (exfalso; omega; done)) <;> refine d_nn zN zH ?_)) | fail)
    all_goals ((refine Runs.ret2 Tryz.func106 rfl zM zM zD ?_; try exact zX))
    all_goals (refine V.Le.of_eq ?_; congr 3)
    · refine congrArg V.b (decide_eq_decide.2 ⟨fun h => ⟨by omega, h⟩, fun h => h.2⟩)
    · exact congrArg V.b (Eq.symm (decide_eq_false (fun q => by have := q.1; omega)))
def putW (l : List WeightEntry) (w : WeightEntry) : List WeightEntry := l.take (bsW l w) ++ w :: l.drop (bsW l w)
def insW (l : List WeightEntry) (w : WeightEntry) : List WeightEntry :=
  if foundW l w then (if newerW (l.getD (bsW l w) default) w then l.set (bsW l w) w else l) else putW l w
def weightsI (a b : List WeightEntry) : List WeightEntry := b.foldl insW a
def InsW (l : List WeightEntry) (w : WeightEntry) : Prop := AM.Gives Tryz.prog 108 1000 [.i (bsW l w : Nat), .sl true [weV w]] 99 5 (l.map weV) (fun r => r = (putW l w).map weV)
theorem member_weights (f g : Bool) (a b : List WeightEntry) (ha : a.length ≤ 1000000000) (hI : ∀ k, k < b.length → foundW ((b.take k).foldl insW a) (b.getD k default) = false → InsW ((b.take k).foldl insW a) (b.getD k default)) :
    AM.Fn Tryz.prog 91 [.sl f (a.map weV), .sl g (b.map weV)] (.sl false ((weightsI a b).map weV)) := by
  (refine spec_of_runs Tryz.func91 rfl ?_; simp only [Tryz.f91]; refine ys ?_)
  (refine Runs.lens 1 ?_; refine yl ?_)
  intro hlb
  repeat' (first | refine yw ?_ | ((with_reducible refine Runs.is ?_); first | refine Runs.region (id := 0) ?_ | refine Runs.region (id := 1) ?_ | refine Runs.region (id := 2) ?_ | ((with_reducible refine Runs.isC ?_); refine Runs.cond rfl (zc ?_) (zc ?_) <;> intro hc <;> (try (first | contradiction | (exfalso; omega; done) | (have : hc = trivial := rfl; clear this; clear hc))))) | ((with_reducible refine r_is ?_); first | refine yr ?_ | (refine r_own rfl (duplicate_we f a ha) HbF.h zL1 zD rfl (fun _ hq _ => ?_); (try subst hq); refine r_nn zN zH ?_)) | fail)
  refine Runs.loopI (fun k : Nat => b.length - k) (fun k => k ≤ b.length)
    (fun k => ⟨[.any, .any, .any, .any, .any, .own 11, .any, .any, .any, .any, .any, .any, .sl g (b.map weV), .i (b.length : Nat), .i (k : Nat), .any, .any, .any, .any, .any, .any, .any, .any, .any, .any, .any, .any, .any, .any, .any, .any, .any, .any, .any, .any, .any, .any, .any, .any, .any, .any, .any, .any, .any, .any], [(11, .lst 99 5 (((b.take k).foldl insW a).map weV))]⟩) 0 (by simp) ?_ ?_
  · (refine St.Le.clean zR zU zV)
  rintro k hk ih
  have hst := fun (h : k < b.length) => foldl_take (g := insW) (s := a) h
  have hend : b.length ≤ k → (b.take k).foldl insW a = weightsI a b := fun h => by rw [List.take_of_length_le h]; rfl
  have hIk := hI k
  generalize (b.take k).foldl insW a = l at hst hend hIk ⊢
  by_cases hlt : k < b.length
  · have hst2 := hst hlt
    have hI2 := hIk hlt
    by_cases hf : foundW l (b.getD k default) = true
    · rw [insW, if_pos hf] at hst2
      have hb : bsW l (b.getD k default) < l.length := by
        unfold foundW at hf; exact (of_decide_eq_true hf).1
      repeat' (first | refine yw ?_ | ((with_reducible refine Runs.is ?_); first | refine Runs.region (id := 3) ?_ | refine Runs.region (id := 4) ?_ | refine Runs.region (id := 5) ?_ | refine Runs.region (id := 6) ?_ | refine Runs.region (id := 7) ?_ | refine Runs.drawn (id := 8) mixed zK ?_ | refine Runs.region (id := 9) ?_ | refine Runs.region (id := 10) ?_ | ((with_reducible refine Runs.isC ?_); refine Runs.cond rfl (zc ?_) (zc ?_) <;> intro hc <;> (try (first | contradiction | (exfalso; omega; done) | (have : hc = trivial := rfl; clear this; clear hc))))) | ((with_reducible refine r_is ?_); first | refine yr ?_ | (refine r_lend rfl (search_we false _ _ _ (fun x => weights1 x _) hb107) HbF.h zY rfl ?_; refine r_nn zN zH ?_)) | ((with_reducible refine d_is ?_); first | refine yd ?_ | (refine d_fn rfl (member_newer _ _) HbF.h zL2 zD ?_; refine d_nn zN zH ?_)) | fail)
      · exfalso; rw [hf] at hc; cases hc
      · refine ih (k + 1) _ zo zo ?_
        rw [hst2, newerW, if_pos (by simpa using hc)]
        (refine St.Le.clean zR (by first | (simp [V.usesL, V.uses, AM.look_cons]; done) | (simp [V.usesL, V.uses, AM.look_cons, V.usesL_data, V.uses_data, da_i, da_chV, da_ruV, da_prV, da_enV, da_cfV, da_veV, da_inV, da_edV, da_grV, da_weV, da_mbV, da_suV, da_viV]; done)) ?_; (repeat' (first | exact True.intro | refine And.intro ?_ ?_)); all_goals (first | rfl | (simp [AM.look_cons, List.map_set, weV]; done) | (simp [V.uses, V.usesL, AM.look_cons, V.usesL_data, V.uses_data, da_i, da_chV, da_ruV, da_prV, da_enV, da_cfV, da_veV, da_inV, da_edV, da_grV, da_weV, da_mbV, da_suV, da_viV]; done)))
      · refine ih (k + 1) _ zo zo ?_
        rw [hst2, newerW, if_neg (by simpa using hc)]
        (refine St.Le.clean zR zU zV)
    · have hf2 : foundW l (b.getD k default) = false := by simpa using hf
      rw [insW, if_neg hf] at hst2
      have hI3 := hI2 hf2
      unfold InsW at hI3
      repeat' (first | refine yw ?_ | ((with_reducible refine Runs.is ?_); first | refine Runs.region (id := 3) ?_ | refine Runs.region (id := 4) ?_ | refine Runs.region (id := 5) ?_ | refine Runs.region (id := 6) ?_ | refine Runs.region (id := 7) ?_ | refine Runs.drawn (id := 8) mixed zK ?_ | refine Runs.region (id := 9) ?_ | refine Runs.region (id := 10) ?_ | ((with_reducible refine Runs.isC ?_); refine Runs.cond rfl (zc ?_) (zc ?_) <;> intro hc <;> (try (first | contradiction | (exfalso; omega; done) | (have : hc = trivial := rfl; clear this; clear hc))))) | ((with_reducible refine r_is ?_); first | refine yr ?_ | (refine r_lend rfl (search_we false _ _ _ (fun x => weights1 x _) hb107) HbF.h zY rfl ?_; refine r_nn zN zH ?_) | (refine r_give rfl (hI3) HbF.h rfl rfl zL2 zD ?_; refine r_nn zN zH ?_)) | ((with_reducible refine d_is ?_); first | refine yd ?_) | fail)
      · refine ih (k + 1) _ zo zo ?_
        rw [hst2]
        (refine St.Le.clean zR zU zV)
  · repeat' (first | refine yw ?_ | ((with_reducible refine Runs.is ?_); first | refine Runs.region (id := 3) ?_ | ((with_reducible refine Runs.isC ?_); refine Runs.cond rfl (zc ?_) (zc ?_) <;> intro hc <;> (try (first | contradiction | (exfalso; omega; done) | (have : hc = trivial := rfl; clear this; clear hc))))) | ((with_reducible refine r_is ?_); first | refine yr ?_) | fail)
    rw [hend zo]
    repeat' (first | refine yw ?_ | ((with_reducible refine Runs.is ?_); first | refine Runs.region (id := 11) ?_ | ((with_reducible refine Runs.isC ?_); refine Runs.cond rfl (zc ?_) (zc ?_) <;> intro hc <;> (try (first | contradiction | (exfalso; omega; done) | (have : hc = trivial := rfl; clear this; clear hc))))) | ((with_reducible refine r_is ?_); first | refine yr ?_) | fail)
    exact Runs.ret_frz Tryz.func91 rfl rfl rfl rfl
end Go.Proofs
