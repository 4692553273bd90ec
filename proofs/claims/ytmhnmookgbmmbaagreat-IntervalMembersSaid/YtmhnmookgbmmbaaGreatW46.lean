/- Package member: View, Summarize. -/
import Derived.Test.YtmhnmookgbmmbaaGreatW45
import Derived.Test.YtmhnmookgbmmbaaGreatW43
set_option linter.unusedVariables false
set_option linter.unusedSimpArgs false
set_option maxRecDepth 8000
set_option maxHeartbeats 4000000
set_option pp.deepTerms false
set_option pp.deepTerms.threshold 6
namespace Go.Proofs
open Go.AM
attribute [local irreducible] AM.evalR AM.evalD AM.Runs AM.valK AM.dK AM.opK AM.stepR AM.CallS AM.St.Le
def vAcc (R : List Int) (W : List WeightEntry) (l : List Int) : List Member := (l.filter fun x => !R.contains x).map fun x => ⟨x, weightIn W x 1⟩
theorem vAcc_snoc (R : List Int) (W : List WeightEntry) (l : List Int) (x : Int) : vAcc R W (l ++ [x]) = vAcc R W l ++ (if R.contains x = true then [] else [⟨x, weightIn W x 1⟩]) := by
  unfold vAcc
  rw [List.filter_append, List.map_append]
  congr 1
  by_cases h : x ∈ R <;> simp [h]
theorem vAcc_len (R : List Int) (W : List WeightEntry) (l : List Int) : (vAcc R W l).length ≤ l.length := by
  unfold vAcc; rw [List.length_map]; exact List.length_filter_le _ _
theorem member_View (s : Summary) (hs : s.joined.length ≤ 1000000) (hw0 : s.weights.length ≤ 1000000) : AM.Fn Tryz.prog 41 [suV s] (viV (viewS s)) := by
  obtain ⟨J, R, W, ru, ver, adm, num⟩ := s
  dsimp only at hs hw0
  (refine spec_of_runs Tryz.func41 rfl ?_; simp only [Tryz.f41]; refine ys ?_)
  repeat' (first | refine yw ?_ | ((with_reducible refine Runs.is ?_); first | refine Runs.region (id := 0) ?_ | refine Runs.region (id := 1) ?_ | refine Runs.region (id := 2) ?_ | refine Runs.region (id := 3) ?_ | refine Runs.region (id := 4) ?_ | ((with_reducible refine Runs.isC ?_); refine Runs.cond rfl (zc ?_) (zc ?_) <;> intro hc <;> (try (first | contradiction | (exfalso; omega; done) | (have : hc = trivial := rfl; clear this; clear hc))))) | ((with_reducible refine r_is ?_); first | refine yr ?_) | fail)
  · have hr : ru = ⟨0, 0, 0⟩ := hc
    clear hc
    subst hr
    rw [show viewS ⟨J, R, W, ⟨0, 0, 0⟩, ver, adm, num⟩ = ⟨vAcc R W J, ⟨1, 0, 0⟩⟩ from rfl]
    refine Runs.weaken (St.Le.nilVar 50 3 0 56 2 zd rfl rfl rfl) ?_
    refine Runs.loopI (fun k : Nat => J.length - k) (fun k => k ≤ J.length)
      (fun k => ⟨[.any, .ptr 1 0 0, .ptr 2 0 0, .ptr 3 0 0, .any, .any, .any, .any, .any, .any, .any, .any, .any, .any, .any, .any, .any, .any, .any, .sl false (J.map .i), .i (J.length : Nat), .i (k : Nat), .any, .any, .any, .any, .any, .any, .any, .any, .any, .any, .any, .any, .any, .any, .any, .any, .any, .any, .any, .any, .any, .any, .any, .any, .any, .any, .any, .any, .any, .any, .any, .any], [(50, .lst 56 2 ((vAcc R W (J.take k)).map mbV)), (3, .var 41 (.agg [.own 50, .i (⟨1, 0, 0⟩ : Rule).kind, .i (⟨1, 0, 0⟩ : Rule).columns, .i (⟨1, 0, 0⟩ : Rule).faulty])), (2, .var 41 (.agg [.sc (.slice none 0 0), .i 0, .i 0, .i 0])), (1, .var 79 (suV ⟨J, R, W, ⟨0, 0, 0⟩, ver, adm, num⟩))]⟩) 0 (by simp) ?_ ?_
    · (refine St.Le.clean zR zU zV)
    rintro k hk ih
    have hst := fun (h : k < J.length) => vAcc_snoc R W (J.take k) (J.getD k default)
    have htk := fun (h : k < J.length) => take_getD (xs := J) h
    have hend : J.length ≤ k → vAcc R W (J.take k) = vAcc R W J := fun h => by rw [List.take_of_length_le h]
    have hl : (vAcc R W (J.take k)).length ≤ 1000000 := by
      have := vAcc_len R W (J.take k)
      rw [List.length_take] at this; omega
    generalize vAcc R W (J.take k) = acc at hst hend hl ⊢
    repeat' (first | refine yw ?_ | ((with_reducible refine Runs.is ?_); first | refine Runs.region (id := 5) ?_ | refine Runs.region (id := 6) ?_ | refine Runs.region (id := 7) ?_ | refine Runs.region (id := 8) ?_ | refine Runs.region (id := 9) ?_ | ((with_reducible refine Runs.isC ?_); refine Runs.cond rfl (zc ?_) (zc ?_) <;> intro hc <;> (try (first | contradiction | (exfalso; omega; done) | (have : hc = trivial := rfl; clear this; clear hc))))) | ((with_reducible refine r_is ?_); first | refine yr ?_ | (refine r_fn rfl (contains_ints false _ _) HbF.h zL2 zD ?_; refine r_nn zN zH ?_)) | fail)
    · rename_i h0
      repeat' (first | refine yw ?_ | ((with_reducible refine Runs.is ?_); first | refine Runs.region (id := 16) ?_ | ((with_reducible refine Runs.isC ?_); refine Runs.cond rfl (zc ?_) (zc ?_) <;> intro hc <;> (try (first | contradiction | (exfalso; omega; done) | (have : hc = trivial := rfl; clear this; clear hc))))) | ((with_reducible refine r_is ?_); first | refine yr ?_) | fail)
      refine ih (k + 1) _ zo zo ?_
      rw [htk h0, hst h0, if_pos hc, List.append_nil]
      (refine St.Le.clean zR zU zV)
    · rename_i h0
      have hst2 := hst h0
      have htk2 := htk h0
      rw [if_neg (by rw [hc]; decide)] at hst2
      generalize J.getD k default = x at hst2 htk2 ⊢
      clear hst htk
      refine Runs.loopI (fun j : Nat => W.length - j) (fun j => j ≤ W.length)
        (fun j => ⟨[.any, .ptr 1 0 0, .ptr 2 0 0, .ptr 3 0 0, .any, .i x, .ptr 6 0 0, .any, .any, .any, .any, .any, .any, .any, .any, .any, .any, .any, .any, .sl false (J.map .i), .i (J.length : Nat), .i (k : Nat), .any, .any, .any, .any, .any, .any, .any, .any, .any, .any, .sl false (W.map weV), .i (W.length : Nat), .i (j : Nat), .any, .any, .any, .any, .any, .any, .any, .any, .any, .any, .any, .any, .any, .any, .any, .any, .any, .any, .any], [(6, .var 56 (mbV ⟨x, weightIn (W.take j) x 1⟩)), (50, .lst 56 2 (acc.map mbV)), (3, .var 41 (.agg [.own 50, .i (⟨1, 0, 0⟩ : Rule).kind, .i (⟨1, 0, 0⟩ : Rule).columns, .i (⟨1, 0, 0⟩ : Rule).faulty])), (2, .var 41 (.agg [.sc (.slice none 0 0), .i 0, .i 0, .i 0])), (1, .var 79 (suV ⟨J, R, W, ⟨0, 0, 0⟩, ver, adm, num⟩))]⟩) 0 (by simp) ?_ ?_
      · (refine St.Le.clean zR zU zV)
      rintro j hj ihj
      have hw := fun (h : j < W.length) => foldl_take (g := fun n (w : WeightEntry) => if w.server = x then w.weight else n) (s := (1 : Int)) h
      have hwe : W.length ≤ j → weightIn (W.take j) x 1 = weightIn W x 1 := fun h => by rw [List.take_of_length_le h]
      change j < W.length → weightIn (W.take (j + 1)) x 1 = (fun n (w : WeightEntry) => if w.server = x then w.weight else n) (weightIn (W.take j) x 1) (W.getD j default) at hw
      dsimp only at hw
      generalize weightIn (W.take j) x 1 = n at hw hwe ⊢
      repeat' (first | refine yw ?_ | ((with_reducible refine Runs.is ?_); first | refine Runs.region (id := 10) ?_ | refine Runs.region (id := 11) ?_ | refine Runs.region (id := 12) ?_ | refine Runs.region (id := 13) ?_ | ((with_reducible refine Runs.isC ?_); refine Runs.cond rfl (zc ?_) (zc ?_) <;> intro hc <;> (try (first | contradiction | (exfalso; omega; done) | (have : hc = trivial := rfl; clear this; clear hc))))) | ((with_reducible refine r_is ?_); first | refine yr ?_) | fail)
      · rename_i h1
        repeat' (first | refine yw ?_ | ((with_reducible refine Runs.is ?_); first | refine Runs.region (id := 14) ?_ | ((with_reducible refine Runs.isC ?_); refine Runs.cond rfl (zc ?_) (zc ?_) <;> intro hc <;> (try (first | contradiction | (exfalso; omega; done) | (have : hc = trivial := rfl; clear this; clear hc))))) | ((with_reducible refine r_is ?_); first | refine yr ?_) | fail)
        refine ihj (j + 1) _ zo zo ?_
        rw [hw h1, if_pos hc]
        (refine St.Le.clean zR zU zV)
      · rename_i h1
        repeat' (first | refine yw ?_ | ((with_reducible refine Runs.is ?_); first | refine Runs.region (id := 14) ?_ | ((with_reducible refine Runs.isC ?_); refine Runs.cond rfl (zc ?_) (zc ?_) <;> intro hc <;> (try (first | contradiction | (exfalso; omega; done) | (have : hc = trivial := rfl; clear this; clear hc))))) | ((with_reducible refine r_is ?_); first | refine yr ?_) | fail)
        refine ihj (j + 1) _ zo zo ?_
        rw [hw h1, if_neg hc]
        (refine St.Le.clean zR zU zV)
      · have := hwe zo
        subst this
        repeat' (first | refine yw ?_ | ((with_reducible refine Runs.is ?_); first | refine Runs.region (id := 15) ?_ | refine Runs.region (id := 16) ?_ | ((with_reducible refine Runs.isC ?_); refine Runs.cond rfl (zc ?_) (zc ?_) <;> intro hc <;> (try (first | contradiction | (exfalso; omega; done) | (have : hc = trivial := rfl; clear this; clear hc))))) | ((with_reducible refine r_is ?_); first | refine yr ?_ | (refine r_append_full SlF.h SlF.s ZoF.h zd rfl rfl zC zJ zS rfl (fun hn => ?_) (fun hn => ?_) <;> refine r_nn zN zH ?_)) | fail)
        refine ih (k + 1) _ zo zo ?_
        rw [htk2, hst2]
        (refine St.Le.clean zR zU zV)
    · have he := hend zo
      subst he
      repeat' (first | refine yw ?_ | ((with_reducible refine Runs.is ?_); first | refine Runs.region (id := 17) ?_ | ((with_reducible refine Runs.isC ?_); refine Runs.cond rfl (zc ?_) (zc ?_) <;> intro hc <;> (try (first | contradiction | (exfalso; omega; done) | (have : hc = trivial := rfl; clear this; clear hc))))) | ((with_reducible refine r_is ?_); first | refine yr ?_) | fail)
      (refine Runs.weaken (St.Le.freeze_lst 50 rfl) ?_; refine yf ?_)
      (refine Runs.retC Tryz.func41 rfl zM rfl TyF.h (And.intro zE zd) zD ?_; try exact zX)
  · have hr : ¬ ru = ⟨0, 0, 0⟩ := hc
    clear hc
    rw [show viewS ⟨J, R, W, ru, ver, adm, num⟩ = ⟨vAcc R W J, ru⟩ from by unfold viewS viewRule; rw [if_neg hr]; rfl]
    refine Runs.weaken (St.Le.nilVar 50 3 0 56 2 zd rfl rfl rfl) ?_
    refine Runs.loopI (fun k : Nat => J.length - k) (fun k => k ≤ J.length)
      (fun k => ⟨[.any, .ptr 1 0 0, .ptr 2 0 0, .ptr 3 0 0, .any, .any, .any, .any, .any, .any, .any, .any, .any, .any, .any, .any, .any, .any, .any, .sl false (J.map .i), .i (J.length : Nat), .i (k : Nat), .any, .any, .any, .any, .any, .any, .any, .any, .any, .any, .any, .any, .any, .any, .any, .any, .any, .any, .any, .any, .any, .any, .any, .any, .any, .any, .any, .any, .any, .any, .any, .any], [(50, .lst 56 2 ((vAcc R W (J.take k)).map mbV)), (3, .var 41 (.agg [.own 50, .i (ru : Rule).kind, .i (ru : Rule).columns, .i (ru : Rule).faulty])), (2, .var 41 (.agg [.sc (.slice none 0 0), .i 0, .i 0, .i 0])), (1, .var 79 (suV ⟨J, R, W, ru, ver, adm, num⟩))]⟩) 0 (by simp) ?_ ?_
    · (refine St.Le.clean zR zU zV)
    rintro k hk ih
    have hst := fun (h : k < J.length) => vAcc_snoc R W (J.take k) (J.getD k default)
    have htk := fun (h : k < J.length) => take_getD (xs := J) h
    have hend : J.length ≤ k → vAcc R W (J.take k) = vAcc R W J := fun h => by rw [List.take_of_length_le h]
    have hl : (vAcc R W (J.take k)).length ≤ 1000000 := by
      have := vAcc_len R W (J.take k)
      rw [List.length_take] at this; omega
    generalize vAcc R W (J.take k) = acc at hst hend hl ⊢
    repeat' (first | refine yw ?_ | ((with_reducible refine Runs.is ?_); first | refine Runs.region (id := 5) ?_ | refine Runs.region (id := 6) ?_ | refine Runs.region (id := 7) ?_ | refine Runs.region (id := 8) ?_ | refine Runs.region (id := 9) ?_ | ((with_reducible refine Runs.isC ?_); refine Runs.cond rfl (zc ?_) (zc ?_) <;> intro hc <;> (try (first | contradiction | (exfalso; omega; done) | (have : hc = trivial := rfl; clear this; clear hc))))) | ((with_reducible refine r_is ?_); first | refine yr ?_ | (refine r_fn rfl (contains_ints false _ _) HbF.h zL2 zD ?_; refine r_nn zN zH ?_)) | fail)
    · rename_i h0
      repeat' (first | refine yw ?_ | ((with_reducible refine Runs.is ?_); first | refine Runs.region (id := 16) ?_ | ((with_reducible refine Runs.isC ?_); refine Runs.cond rfl (zc ?_) (zc ?_) <;> intro hc <;> (try (first | contradiction | (exfalso; omega; done) | (have : hc = trivial := rfl; clear this; clear hc))))) | ((with_reducible refine r_is ?_); first | refine yr ?_) | fail)
      refine ih (k + 1) _ zo zo ?_
      rw [htk h0, hst h0, if_pos hc, List.append_nil]
      (refine St.Le.clean zR zU zV)
    · rename_i h0
      have hst2 := hst h0
      have htk2 := htk h0
      rw [if_neg (by rw [hc]; decide)] at hst2
      generalize J.getD k default = x at hst2 htk2 ⊢
      clear hst htk
      refine Runs.loopI (fun j : Nat => W.length - j) (fun j => j ≤ W.length)
        (fun j => ⟨[.any, .ptr 1 0 0, .ptr 2 0 0, .ptr 3 0 0, .any, .i x, .ptr 6 0 0, .any, .any, .any, .any, .any, .any, .any, .any, .any, .any, .any, .any, .sl false (J.map .i), .i (J.length : Nat), .i (k : Nat), .any, .any, .any, .any, .any, .any, .any, .any, .any, .any, .sl false (W.map weV), .i (W.length : Nat), .i (j : Nat), .any, .any, .any, .any, .any, .any, .any, .any, .any, .any, .any, .any, .any, .any, .any, .any, .any, .any, .any], [(6, .var 56 (mbV ⟨x, weightIn (W.take j) x 1⟩)), (50, .lst 56 2 (acc.map mbV)), (3, .var 41 (.agg [.own 50, .i (ru : Rule).kind, .i (ru : Rule).columns, .i (ru : Rule).faulty])), (2, .var 41 (.agg [.sc (.slice none 0 0), .i 0, .i 0, .i 0])), (1, .var 79 (suV ⟨J, R, W, ru, ver, adm, num⟩))]⟩) 0 (by simp) ?_ ?_
      · (refine St.Le.clean zR zU zV)
      rintro j hj ihj
      have hw := fun (h : j < W.length) => foldl_take (g := fun n (w : WeightEntry) => if w.server = x then w.weight else n) (s := (1 : Int)) h
      have hwe : W.length ≤ j → weightIn (W.take j) x 1 = weightIn W x 1 := fun h => by rw [List.take_of_length_le h]
      change j < W.length → weightIn (W.take (j + 1)) x 1 = (fun n (w : WeightEntry) => if w.server = x then w.weight else n) (weightIn (W.take j) x 1) (W.getD j default) at hw
      dsimp only at hw
      generalize weightIn (W.take j) x 1 = n at hw hwe ⊢
      repeat' (first | refine yw ?_ | ((with_reducible refine Runs.is ?_); first | refine Runs.region (id := 10) ?_ | refine Runs.region (id := 11) ?_ | refine Runs.region (id := 12) ?_ | refine Runs.region (id := 13) ?_ | ((with_reducible refine Runs.isC ?_); refine Runs.cond rfl (zc ?_) (zc ?_) <;> intro hc <;> (try (first | contradiction | (exfalso; omega; done) | (have : hc = trivial := rfl; clear this; clear hc))))) | ((with_reducible refine r_is ?_); first | refine yr ?_) | fail)
      · rename_i h1
        repeat' (first | refine yw ?_ | ((with_reducible refine Runs.is ?_); first | refine Runs.region (id := 14) ?_ | ((with_reducible refine Runs.isC ?_); refine Runs.cond rfl (zc ?_) (zc ?_) <;> intro hc <;> (try (first | contradiction | (exfalso; omega; done) | (have : hc = trivial := rfl; clear this; clear hc))))) | ((with_reducible refine r_is ?_); first | refine yr ?_) | fail)
        refine ihj (j + 1) _ zo zo ?_
        rw [hw h1, if_pos hc]
        (refine St.Le.clean zR zU zV)
      · rename_i h1
        repeat' (first | refine yw ?_ | ((with_reducible refine Runs.is ?_); first | refine Runs.region (id := 14) ?_ | ((with_reducible refine Runs.isC ?_); refine Runs.cond rfl (zc ?_) (zc ?_) <;> intro hc <;> (try (first | contradiction | (exfalso; omega; done) | (have : hc = trivial := rfl; clear this; clear hc))))) | ((with_reducible refine r_is ?_); first | refine yr ?_) | fail)
        refine ihj (j + 1) _ zo zo ?_
        rw [hw h1, if_neg hc]
        (refine St.Le.clean zR zU zV)
      · have := hwe zo
        subst this
        repeat' (first | refine yw ?_ | ((with_reducible refine Runs.is ?_); first | refine Runs.region (id := 15) ?_ | refine Runs.region (id := 16) ?_ | ((with_reducible refine Runs.isC ?_); refine Runs.cond rfl (zc ?_) (zc ?_) <;> intro hc <;> (try (first | contradiction | (exfalso; omega; done) | (have : hc = trivial := rfl; clear this; clear hc))))) | ((with_reducible refine r_is ?_); first | refine yr ?_ | (refine r_append_full SlF.h SlF.s ZoF.h zd rfl rfl zC zJ zS rfl (fun hn => ?_) (fun hn => ?_) <;> refine r_nn zN zH ?_)) | fail)
        refine ih (k + 1) _ zo zo ?_
        rw [htk2, hst2]
        (refine St.Le.clean zR zU zV)
    · have he := hend zo
      subst he
      repeat' (first | refine yw ?_ | ((with_reducible refine Runs.is ?_); first | refine Runs.region (id := 17) ?_ | ((with_reducible refine Runs.isC ?_); refine Runs.cond rfl (zc ?_) (zc ?_) <;> intro hc <;> (try (first | contradiction | (exfalso; omega; done) | (have : hc = trivial := rfl; clear this; clear hc))))) | ((with_reducible refine r_is ?_); first | refine yr ?_) | fail)
      (refine Runs.weaken (St.Le.freeze_lst 50 rfl) ?_; refine yf ?_)
      (refine Runs.retC Tryz.func41 rfl zM rfl TyF.h (And.intro zE zd) zD ?_; try exact zX)
end Go.Proofs
