/- Contracts of functions and plain laws: W46, W47, W48, W49, W50, W63, W64, W19, W65, W66, W67, W68. -/
import Derived.Test.YtndpgjcmmjeoiaaGreatG2
set_option linter.unusedVariables false
set_option linter.unusedSimpArgs false
set_option maxRecDepth 8000
set_option maxHeartbeats 4000000
set_option pp.deepTerms false
set_option pp.deepTerms.threshold 6
namespace Go.Proofs
open Go.AM
attribute [local irreducible] AM.evalR AM.evalD AM.Runs AM.valK AM.dK AM.opK AM.stepR AM.CallS AM.St.Le
def vAcc (R : List Int) (W : List WeightEntry) (l : List Int) : List Member := (l.filter fun x => !R.contains x).map fun x => ⟨x, weightIn W x 1⟩
theorem vAcc_snoc (R : List Int) (W : List WeightEntry) (l : List Int) (x : Int) : vAcc R W (l ++ [x]) = vAcc R W l ++ (if R.contains x = true then [] else [⟨x, weightIn W x 1⟩]) := by
  unfold vAcc
  rw [List.filter_append, List.map_append]
  congr 1
  by_cases h : x ∈ R <;> simp [h]
theorem vAcc_len (R : List Int) (W : List WeightEntry) (l : List Int) : (vAcc R W l).length ≤ l.length := by
  unfold vAcc; rw [List.length_map]; exact List.length_filter_le _ _
theorem member_View (s : Summary) (hs : s.joined.length ≤ 1000000) (hw0 : s.weights.length ≤ 1000000) : AM.Fn Tryz.prog 171 [suV s] (viV (viewS s)) := by
  obtain ⟨J, R, W, ru, ver, adm, num⟩ := s
  dsimp only at hs hw0
  (refine spec_of_runs Tryz.func171 rfl ?_; simp only [Tryz.f171]; refine ys ?_)
  repeat' (first | refine yw ?_ | ((with_reducible refine Runs.is ?_); first | refine Runs.region (id := 0) ?_ | refine Runs.region (id := 1) ?_ | refine Runs.region (id := 2) ?_ | refine Runs.region (id := 3) ?_ | refine Runs.region (id := 4) ?_ | ((with_reducible refine Runs.isC ?_); refine Runs.cond rfl (zc ?_) (zc ?_) <;> intro hc <;> (try (first | contradiction | (exfalso; omega; done) | (have : hc = trivial := rfl; clear this; clear hc))))) | ((with_reducible refine r_is ?_); first | refine yr ?_) | fail)
  · have hr : ru = ⟨0, 0, 0⟩ := hc
    clear hc
    subst hr
    rw [show viewS ⟨J, R, W, ⟨0, 0, 0⟩, ver, adm, num⟩ = ⟨vAcc R W J, ⟨1, 0, 0⟩⟩ from rfl]
    refine Runs.weaken (St.Le.nilVar 50 3 0 87 2 zd rfl rfl rfl) ?_
    refine Runs.loopI (fun k : Nat => J.length - k) (fun k => k ≤ J.length)
      (fun k => ⟨[.any, .ptr 1 0 0, .ptr 2 0 0, .ptr 3 0 0, .any, .any, .any, .any, .any, .any, .any, .any, .any, .any, .any, .any, .any, .any, .any, .sl false (J.map .i), .i (J.length : Nat), .i (k : Nat), .any, .any, .any, .any, .any, .any, .any, .any, .any, .any, .any, .any, .any, .any, .any, .any, .any, .any, .any, .any, .any, .any, .any, .any, .any, .any, .any, .any, .any, .any, .any, .any], [(50, .lst 87 2 ((vAcc R W (J.take k)).map mbV)), (3, .var 79 (.agg [.own 50, .i (⟨1, 0, 0⟩ : Rule).kind, .i (⟨1, 0, 0⟩ : Rule).columns, .i (⟨1, 0, 0⟩ : Rule).faulty])), (2, .var 79 (.agg [.sc (.slice none 0 0), .i 0, .i 0, .i 0])), (1, .var 154 (suV ⟨J, R, W, ⟨0, 0, 0⟩, ver, adm, num⟩))]⟩) 0 (by simp) ?_ ?_
    · (refine St.Le.clean zR zU zV)
    rintro k hk ih
    have hst := fun (h : k < J.length) => vAcc_snoc R W (J.take k) (J.getD k default)
    have htk := fun (h : k < J.length) => take_getD (xs := J) h
    have hend : J.length ≤ k → vAcc R W (J.take k) = vAcc R W J := fun h => by rw [List.take_of_length_le h]
    have hl : (vAcc R W (J.take k)).length ≤ 1000000 := by
      have := vAcc_len R W (J.take k)
      rw [List.length_take] at this; omega
    generalize vAcc R W (J.take k) = acc at hst hend hl ⊢
    repeat' (first | refine yw ?_ | ((with_reducible refine Runs.is ?_); first | refine Runs.region (id := 5) ?_ | refine Runs.region (id := 6) ?_ | refine Runs.region (id := 7) ?_ | refine Runs.region (id := 8) ?_ | refine Runs.region (id := 9) ?_ | ((with_reducible refine Runs.isC ?_); refine Runs.cond rfl (zc ?_) (zc ?_) <;> intro hc <;> (try (first | contradiction | (exfalso; omega; done) | (have : hc = trivial := rfl; clear this; clear hc))))) | ((with_reducible refine r_is ?_); first | refine yr ?_ | (refine r_fn rfl (contains_ints false _ _) HbF.h zL2 zD ?_; refine r_nn zN zH ?_)) | fail)
    · rename_i h0
      repeat' (first | refine yw ?_ | ((with_reducible refine Runs.is ?_); first | refine Runs.region (id := 16) ?_ | ((with_reducible refine Runs.isC ?_); refine Runs.cond rfl (zc ?_) (zc ?_) <;> intro hc <;> (try (first | contradiction | (exfalso; omega; done) | (have : hc = trivial := rfl; clear this; clear hc))))) | ((with_reducible refine r_is ?_); first | refine yr ?_) | fail)
      refine ih (k + 1) _ zo zo ?_
      rw [htk h0, hst h0, if_pos hc, List.append_nil]
      (refine St.Le.clean zR zU zV)
    · rename_i h0
      have hst2 := hst h0
      have htk2 := htk h0
      rw [if_neg (by rw [hc]; decide)] at hst2
      generalize J.getD k default = x at hst2 htk2 ⊢
      clear hst htk
      refine Runs.loopI (fun j : Nat => W.length - j) (fun j => j ≤ W.length)
        (fun j => ⟨[.any, .ptr 1 0 0, .ptr 2 0 0, .ptr 3 0 0, .any, .i x, .ptr 6 0 0, .any, .any, .any, .any, .any, .any, .any, .any, .any, .any, .any, .any, .sl false (J.map .i), .i (J.length : Nat), .i (k : Nat), .any, .any, .any, .any, .any, .any, .any, .any, .any, .any, .sl false (W.map weV), .i (W.length : Nat), .i (j : Nat), .any, .any, .any, .any, .any, .any, .any, .any, .any, .any, .any, .any, .any, .any, .any, .any, .any, .any, .any], [(6, .var 87 (mbV ⟨x, weightIn (W.take j) x 1⟩)), (50, .lst 87 2 (acc.map mbV)), (3, .var 79 (.agg [.own 50, .i (⟨1, 0, 0⟩ : Rule).kind, .i (⟨1, 0, 0⟩ : Rule).columns, .i (⟨1, 0, 0⟩ : Rule).faulty])), (2, .var 79 (.agg [.sc (.slice none 0 0), .i 0, .i 0, .i 0])), (1, .var 154 (suV ⟨J, R, W, ⟨0, 0, 0⟩, ver, adm, num⟩))]⟩) 0 (by simp) ?_ ?_
      · (refine St.Le.clean zR zU zV)
      rintro j hj ihj
      have hw := fun (h : j < W.length) => foldl_take (g := fun n (w : WeightEntry) => if w.server = x then w.weight else n) (s := (1 : Int)) h
      have hwe : W.length ≤ j → weightIn (W.take j) x 1 = weightIn W x 1 := fun h => by rw [List.take_of_length_le h]
      change j < W.length → weightIn (W.take (j + 1)) x 1 = (fun n (w : WeightEntry) => if w.server = x then w.weight else n) (weightIn (W.take j) x 1) (W.getD j default) at hw
      dsimp only at hw
      generalize weightIn (W.take j) x 1 = n at hw hwe ⊢
      repeat' (first | refine yw ?_ | ((with_reducible refine Runs.is ?_); first | refine Runs.region (id := 10) ?_ | refine Runs.region (id := 11) ?_ | refine Runs.region (id := 12) ?_ | refine Runs.region (id := 13) ?_ | ((with_reducible refine Runs.isC ?_); refine Runs.cond rfl (zc ?_) (zc ?_) <;> intro hc <;> (try (first | contradiction | (exfalso; omega; done) | (have : hc = trivial := rfl; clear this; clear hc))))) | ((with_reducible refine r_is ?_); first | refine yr ?_) | fail)
      · rename_i h1
        repeat' (first | refine yw ?_ | ((with_reducible refine Runs.is ?_); first | refine Runs.region (id := 14) ?_ | ((with_reducible refine Runs.isC ?_); refine Runs.cond rfl (zc ?_) (zc ?_) <;> intro hc <;> (try (first | contradiction | (exfalso; omega; done) | (have : hc = trivial := rfl; clear this; clear hc))))) | ((with_reducible refine r_is ?_); first | refine yr ?_) | fail)
        refine ihj (j + 1) _ zo zo ?_
        rw [hw h1, if_pos hc]
        (refine St.Le.clean zR zU zV)
      · rename_i h1
        repeat' (first | refine yw ?_ | ((with_reducible refine Runs.is ?_); first | refine Runs.region (id := 14) ?_ | ((with_reducible refine Runs.isC ?_); refine Runs.cond rfl (zc ?_) (zc ?_) <;> intro hc <;> (try (first | contradiction | (exfalso; omega; done) | (have : hc = trivial := rfl; clear this; clear hc))))) | ((with_reducible refine r_is ?_); first | refine yr ?_) | fail)
        refine ihj (j + 1) _ zo zo ?_
        rw [hw h1, if_neg hc]
        (refine St.Le.clean zR zU zV)
      · have := hwe zo
        subst this
        repeat' (first | refine yw ?_ | ((with_reducible refine Runs.is ?_); first | refine Runs.region (id := 15) ?_ | refine Runs.region (id := 16) ?_ | ((with_reducible refine Runs.isC ?_); refine Runs.cond rfl (zc ?_) (zc ?_) <;> intro hc <;> (try (first | contradiction | (exfalso; omega; done) | (have : hc = trivial := rfl; clear this; clear hc))))) | ((with_reducible refine r_is ?_); first | refine yr ?_ | (refine r_append_full SlF.h SlF.s ZoF.h zd rfl rfl zC zJ zS rfl (fun hn => ?_) (fun hn => ?_) <;> refine r_nn zN zH ?_)) | fail)
        refine ih (k + 1) _ zo zo ?_
        rw [htk2, hst2]
        (refine St.Le.clean zR zU zV)
    · have he := hend zo
      subst he
      repeat' (first | refine yw ?_ | ((with_reducible refine Runs.is ?_); first | refine Runs.region (id := 17) ?_ | ((with_reducible refine Runs.isC ?_); refine Runs.cond rfl (zc ?_) (zc ?_) <;> intro hc <;> (try (first | contradiction | (exfalso; omega; done) | (have : hc = trivial := rfl; clear this; clear hc))))) | ((with_reducible refine r_is ?_); first | refine yr ?_) | fail)
      (refine Runs.weaken (St.Le.freeze_lst 50 rfl) ?_; refine yf ?_)
      (refine Runs.retC Tryz.func171 rfl zM rfl TyF.h (And.intro zE zd) zD ?_; try exact zX)
  · have hr : ¬ ru = ⟨0, 0, 0⟩ := hc
    clear hc
    rw [show viewS ⟨J, R, W, ru, ver, adm, num⟩ = ⟨vAcc R W J, ru⟩ from by unfold viewS viewRule; rw [if_neg hr]; rfl]
    refine Runs.weaken (St.Le.nilVar 50 3 0 87 2 zd rfl rfl rfl) ?_
    refine Runs.loopI (fun k : Nat => J.length - k) (fun k => k ≤ J.length)
      (fun k => ⟨[.any, .ptr 1 0 0, .ptr 2 0 0, .ptr 3 0 0, .any, .any, .any, .any, .any, .any, .any, .any, .any, .any, .any, .any, .any, .any, .any, .sl false (J.map .i), .i (J.length : Nat), .i (k : Nat), .any, .any, .any, .any, .any, .any, .any, .any, .any, .any, .any, .any, .any, .any, .any, .any, .any, .any, .any, .any, .any, .any, .any, .any, .any, .any, .any, .any, .any, .any, .any, .any], [(50, .lst 87 2 ((vAcc R W (J.take k)).map mbV)), (3, .var 79 (.agg [.own 50, .i (ru : Rule).kind, .i (ru : Rule).columns, .i (ru : Rule).faulty])), (2, .var 79 (.agg [.sc (.slice none 0 0), .i 0, .i 0, .i 0])), (1, .var 154 (suV ⟨J, R, W, ru, ver, adm, num⟩))]⟩) 0 (by simp) ?_ ?_
    · (refine St.Le.clean zR zU zV)
    rintro k hk ih
    have hst := fun (h : k < J.length) => vAcc_snoc R W (J.take k) (J.getD k default)
    have htk := fun (h : k < J.length) => take_getD (xs := J) h
    have hend : J.length ≤ k → vAcc R W (J.take k) = vAcc R W J := fun h => by rw [List.take_of_length_le h]
    have hl : (vAcc R W (J.take k)).length ≤ 1000000 := by
      have := vAcc_len R W (J.take k)
      rw [List.length_take] at this; omega
    generalize vAcc R W (J.take k) = acc at hst hend hl ⊢
    repeat' (first | refine yw ?_ | ((with_reducible refine Runs.is ?_); first | refine Runs.region (id := 5) ?_ | refine Runs.region (id := 6) ?_ | refine Runs.region (id := 7) ?_ | refine Runs.region (id := 8) ?_ | refine Runs.region (id := 9) ?_ | ((with_reducible refine Runs.isC ?_); refine Runs.cond rfl (zc ?_) (zc ?_) <;> intro hc <;> (try (first | contradiction | (exfalso; omega; done) | (have : hc = trivial := rfl; clear this; clear hc))))) | ((with_reducible refine r_is ?_); first | refine yr ?_ | (refine r_fn rfl (contains_ints false _ _) HbF.h zL2 zD ?_; refine r_nn zN zH ?_)) | fail)
    · rename_i h0
      repeat' (first | refine yw ?_ | ((with_reducible refine Runs.is ?_); first | refine Runs.region (id := 16) ?_ | ((with_reducible refine Runs.isC ?_); refine Runs.cond rfl (zc ?_) (zc ?_) <;> intro hc <;> (try (first | contradiction | (exfalso; omega; done) | (have : hc = trivial := rfl; clear this; clear hc))))) | ((with_reducible refine r_is ?_); first | refine yr ?_) | fail)
      refine ih (k + 1) _ zo zo ?_
      rw [htk h0, hst h0, if_pos hc, List.append_nil]
      (refine St.Le.clean zR zU zV)
    · rename_i h0
      have hst2 := hst h0
      have htk2 := htk h0
      rw [if_neg (by rw [hc]; decide)] at hst2
      generalize J.getD k default = x at hst2 htk2 ⊢
      clear hst htk
      refine Runs.loopI (fun j : Nat => W.length - j) (fun j => j ≤ W.length)
        (fun j => ⟨[.any, .ptr 1 0 0, .ptr 2 0 0, .ptr 3 0 0, .any, .i x, .ptr 6 0 0, .any, .any, .any, .any, .any, .any, .any, .any, .any, .any, .any, .any, .sl false (J.map .i), .i (J.length : Nat), .i (k : Nat), .any, .any, .any, .any, .any, .any, .any, .any, .any, .any, .sl false (W.map weV), .i (W.length : Nat), .i (j : Nat), .any, .any, .any, .any, .any, .any, .any, .any, .any, .any, .any, .any, .any, .any, .any, .any, .any, .any, .any], [(6, .var 87 (mbV ⟨x, weightIn (W.take j) x 1⟩)), (50, .lst 87 2 (acc.map mbV)), (3, .var 79 (.agg [.own 50, .i (ru : Rule).kind, .i (ru : Rule).columns, .i (ru : Rule).faulty])), (2, .var 79 (.agg [.sc (.slice none 0 0), .i 0, .i 0, .i 0])), (1, .var 154 (suV ⟨J, R, W, ru, ver, adm, num⟩))]⟩) 0 (by simp) ?_ ?_
      · (refine St.Le.clean zR zU zV)
      rintro j hj ihj
      have hw := fun (h : j < W.length) => foldl_take (g := fun n (w : WeightEntry) => if w.server = x then w.weight else n) (s := (1 : Int)) h
      have hwe : W.length ≤ j → weightIn (W.take j) x 1 = weightIn W x 1 := fun h => by rw [List.take_of_length_le h]
      change j < W.length → weightIn (W.take (j + 1)) x 1 = (fun n (w : WeightEntry) => if w.server = x then w.weight else n) (weightIn (W.take j) x 1) (W.getD j default) at hw
      dsimp only at hw
      generalize weightIn (W.take j) x 1 = n at hw hwe ⊢
      repeat' (first | refine yw ?_ | ((with_reducible refine Runs.is ?_); first | refine Runs.region (id := 10) ?_ | refine Runs.region (id := 11) ?_ | refine Runs.region (id := 12) ?_ | refine Runs.region (id := 13) ?_ | ((with_reducible refine Runs.isC ?_); refine Runs.cond rfl (zc ?_) (zc ?_) <;> intro hc <;> (try (first | contradiction | (exfalso; omega; done) | (have : hc = trivial := rfl; clear this; clear hc))))) | ((with_reducible refine r_is ?_); first | refine yr ?_) | fail)
      · rename_i h1
        repeat' (first | refine yw ?_ | ((with_reducible refine Runs.is ?_); first | refine Runs.region (id := 14) ?_ | ((with_reducible refine Runs.isC ?_); refine Runs.cond rfl (zc ?_) (zc ?_) <;> intro hc <;> (try (first | contradiction | (exfalso; omega; done) | (have : hc = trivial := rfl; clear this; clear hc))))) | ((with_reducible refine r_is ?_); first | refine yr ?_) | fail)
        refine ihj (j + 1) _ zo zo ?_
        rw [hw h1, if_pos hc]
        (refine St.Le.clean zR zU zV)
      · rename_i h1
        repeat' (first | refine yw ?_ | ((with_reducible refine Runs.is ?_); first | refine Runs.region (id := 14) ?_ | ((with_reducible refine Runs.isC ?_); refine Runs.cond rfl (zc ?_) (zc ?_) <;> intro hc <;> (try (first | contradiction | (exfalso; omega; done) | (have : hc = trivial := rfl; clear this; clear hc))))) | ((with_reducible refine r_is ?_); first | refine yr ?_) | fail)
        refine ihj (j + 1) _ zo zo ?_
        rw [hw h1, if_neg hc]
        (refine St.Le.clean zR zU zV)
      · have := hwe zo
        subst this
        repeat' (first | refine yw ?_ | ((with_reducible refine Runs.is ?_); first | refine Runs.region (id := 15) ?_ | refine Runs.region (id := 16) ?_ | ((with_reducible refine Runs.isC ?_); refine Runs.cond rfl (zc ?_) (zc ?_) <;> intro hc <;> (try (first | contradiction | (exfalso; omega; done) | (have : hc = trivial := rfl; clear this; clear hc))))) | ((with_reducible refine r_is ?_); first | refine yr ?_ | (refine r_append_full SlF.h SlF.s ZoF.h zd rfl rfl zC zJ zS rfl (fun hn => ?_) (fun hn => ?_) <;> refine r_nn zN zH ?_)) | fail)
        refine ih (k + 1) _ zo zo ?_
        rw [htk2, hst2]
        (refine St.Le.clean zR zU zV)
    · have he := hend zo
      subst he
      repeat' (first | refine yw ?_ | ((with_reducible refine Runs.is ?_); first | refine Runs.region (id := 17) ?_ | ((with_reducible refine Runs.isC ?_); refine Runs.cond rfl (zc ?_) (zc ?_) <;> intro hc <;> (try (first | contradiction | (exfalso; omega; done) | (have : hc = trivial := rfl; clear this; clear hc))))) | ((with_reducible refine r_is ?_); first | refine yr ?_) | fail)
      (refine Runs.weaken (St.Le.freeze_lst 50 rfl) ?_; refine yf ?_)
      (refine Runs.retC Tryz.func171 rfl zM rfl TyF.h (And.intro zE zd) zD ?_; try exact zX)
end Go.Proofs
namespace Go.Proofs
open Go.AM
attribute [local irreducible] AM.evalR AM.evalD AM.Runs AM.valK AM.dK AM.opK AM.stepR AM.CallS AM.St.Le
def sumStep (s : Summary) (p : Proposal) : Summary := joinS s (ofS p)
def sumS (g : View) (c : Config) : Summary := c.foldl sumStep (initS g)
def Plain (p : Proposal) : Prop := p.changes.length ≤ 1000 ∧ True
def Short (s : Summary) (n : Nat) : Prop := s.joined.length ≤ n ∧ s.removed.length ≤ n ∧ s.weights.length ≤ n
theorem ofS_short {p : Proposal} (h : p.changes.length ≤ 1000) : Short (ofS p) 1000 := by
  have h1 := ofAcc_len p p.changes.length (Nat.le_refl _)
  rw [List.take_of_length_le (Nat.le_refl _)] at h1
  have h2 : (weightsOf (ofAcc p).m).length ≤ 12 := by
    have := List.length_filterMap_le (getI (ofAcc p).m) (upto 1 12)
    rw [upto_len] at this; exact this
  refine ⟨?_, ?_, ?_⟩
  · show (sortI (ofAcc p).j).length ≤ _
    rw [sortI_length]; exact Nat.le_trans h1.1 h
  · show (sortI (ofAcc p).r).length ≤ _
    rw [sortI_length]; exact Nat.le_trans h1.2 h
  · show (weightsOf (ofAcc p).m).length ≤ _
    omega
theorem joinS_short {a b : Summary} {m n : Nat} (ha : Short a m) (hb : Short b n) : Short (joinS a b) (m + n) := by
  have h1 := unionI_len a.joined b.joined
  have h2 := unionI_len a.removed b.removed
  have h3 := weightsI_len a.weights b.weights
  obtain ⟨a1, a2, a3⟩ := ha
  obtain ⟨b1, b2, b3⟩ := hb
  exact ⟨Nat.le_trans h1 zo, Nat.le_trans h2 zo, Nat.le_trans h3 zo⟩
theorem initS_short {g : View} (h : g.members.length ≤ 1000) : Short (initS g) 1000 := by
  refine ⟨?_, ?_, ?_⟩ <;> simp [initS] <;> omega
theorem sumS_short {g : View} (hg : g.members.length ≤ 1000) : ∀ (c : Config), (∀ p ∈ c, p.changes.length ≤ 1000) → Short (sumS g c) (1000 + 1000 * c.length) := by
  intro c
  have gen : ∀ (c : Config) (s : Summary) (n : Nat), Short s n → (∀ p ∈ c, p.changes.length ≤ 1000) → Short (c.foldl sumStep s) (n + 1000 * c.length) := by
    intro c
    induction c with
    | nil => intro s n hs _; simpa using hs
    | cons p c ih =>
      intro s n hs hc
      have h1 := joinS_short hs (ofS_short (hc p (by simp)))
      have h2 := ih (sumStep s p) (n + 1000) h1 (fun q hq => hc q (by simp [hq]))
      rw [List.foldl_cons, List.length_cons]
      rw [show n + 1000 * (c.length + 1) = n + 1000 + 1000 * c.length by omega]; exact h2
  exact gen c (initS g) 1000 (initS_short hg)
theorem member_Summarize (f : Bool) (g : View) (c : Config) (hg : g.members.length ≤ 1000) (hc : c.length ≤ 100) (hp : ∀ p ∈ c, Plain p) : AM.Fn Tryz.prog 172 [viV g, .sl f (c.map prV)] (suV (sumS g c)) := by
  (refine spec_of_runs Tryz.func172 rfl ?_; simp only [Tryz.f172]; refine ys ?_)
  repeat' (first | refine yw ?_ | ((with_reducible refine Runs.is ?_); first | refine Runs.region (id := 0) ?_ | refine Runs.region (id := 1) ?_ | refine Runs.region (id := 2) ?_ | ((with_reducible refine Runs.isC ?_); refine Runs.cond rfl (zc ?_) (zc ?_) <;> intro hc <;> (try (first | contradiction | (exfalso; omega; done) | (have : hc = trivial := rfl; clear this; clear hc))))) | ((with_reducible refine r_is ?_); first | refine yr ?_ | (refine r_fn rfl (member_Initial g zo) HbF.h zL1 zD ?_; refine r_nn zN zH ?_)) | fail)
  refine Runs.loopI (fun k : Nat => c.length - k) (fun k => k ≤ c.length)
    (fun k => ⟨[.any, .any, .any, .any, .ptr 4 0 0, .ptr 5 0 0, .any, .any, .any, .any, .sl f (c.map prV), .i (c.length : Nat), .i (k : Nat), .any, .any, .any, .any, .any, .any, .any, .any, .any], [(5, .var 154 (suV (sumS g (c.take k)))), (4, .var 154 (.agg [.sc (.slice none 0 0), .sc (.slice none 0 0), .sc (.slice none 0 0), .i 0, .i 0, .i 0, .i 0, .i 0, .i 0]))]⟩) 0 (by simp) ?_ ?_
  · (refine St.Le.clean zR zU zV)
  rintro k hk ih
  have hst := fun (h : k < c.length) => foldl_take (g := sumStep) (s := initS g) h
  have hend : c.length ≤ k → sumS g (c.take k) = sumS g c := fun h => by rw [List.take_of_length_le h]
  have hsh := sumS_short hg (c.take k) (fun p q => (hp p (List.mem_of_mem_take q)).1)
  rw [List.length_take] at hsh
  have hpl : k < c.length → Plain (c.getD k default) := fun h => hp _ (by rw [List.getD_eq_getElem?_getD, List.getElem?_eq_getElem h]; exact List.getElem_mem h)
  change k < c.length → sumS g (c.take (k + 1)) = sumStep (sumS g (c.take k)) (c.getD k default) at hst
  generalize sumS g (c.take k) = s at hst hend hsh ⊢
  by_cases hlt : k < c.length
  · have hst2 : sumS g (c.take (k + 1)) = joinS s (ofS (c.getD k default)) := hst hlt
    have hp2 := hpl hlt
    have ho := ofS_short hp2.1
    obtain ⟨s1, s2, s3⟩ := hsh
    obtain ⟨o1, o2, o3⟩ := ho
    have hOf := member_Of (c.getD k default) (Nat.le_trans hp2.1 zd)
    have hJn := member_Join s (ofS (c.getD k default)) (member_union_all false false _ _ zo) (member_union_all false false _ _ zo) (member_weights_all false false _ _ zo)
    generalize ofS (c.getD k default) = q at hOf hJn hst2
    repeat' (first | refine yw ?_ | ((with_reducible refine Runs.is ?_); first | refine Runs.region (id := 3) ?_ | refine Runs.region (id := 4) ?_ | refine Runs.drawn (id := 5) mixed zK ?_ | refine Runs.region (id := 6) ?_ | ((with_reducible refine Runs.isC ?_); refine Runs.cond rfl (zc ?_) (zc ?_) <;> intro hc <;> (try (first | contradiction | (exfalso; omega; done) | (have : hc = trivial := rfl; clear this; clear hc))))) | ((with_reducible refine r_is ?_); first | refine yr ?_) | ((with_reducible refine d_is ?_); first | refine yd ?_ | (refine d_fn rfl (hOf) HbF.h zL1 zD ?_; refine d_nn zN zH ?_) | (refine d_fn rfl (hJn) HbF.h zL2 zD ?_; refine d_nn zN zH ?_)) | fail)
    refine ih (k + 1) _ zo zo ?_
    rw [hst2]
    (refine St.Le.clean zR zU zV)
  · have he := hend zo
    subst he
    repeat' (first | refine yw ?_ | ((with_reducible refine Runs.is ?_); first | refine Runs.region (id := 3) ?_ | ((with_reducible refine Runs.isC ?_); refine Runs.cond rfl (zc ?_) (zc ?_) <;> intro hc <;> (try (first | contradiction | (exfalso; omega; done) | (have : hc = trivial := rfl; clear this; clear hc))))) | ((with_reducible refine r_is ?_); first | refine yr ?_) | fail)
    repeat' (first | refine yw ?_ | ((with_reducible refine Runs.is ?_); first | refine Runs.region (id := 7) ?_ | ((with_reducible refine Runs.isC ?_); refine Runs.cond rfl (zc ?_) (zc ?_) <;> intro hc <;> (try (first | contradiction | (exfalso; omega; done) | (have : hc = trivial := rfl; clear this; clear hc))))) | ((with_reducible refine r_is ?_); first | refine yr ?_) | fail)
    (refine Runs.retC Tryz.func172 rfl zM rfl TyF.h (And.intro zE zd) zD ?_; try exact zX)
end Go.Proofs
namespace Go.Proofs
open Go.AM
attribute [local irreducible] AM.evalR AM.evalD AM.Runs AM.valK AM.dK AM.opK AM.stepR AM.CallS AM.St.Le
def viewOf (g : View) (c : Config) : View := viewS (sumS g c)
theorem interval_Views (f h : Bool) (g : View) (a b : Config) (hA : AM.Fn Tryz.prog 100 [.sl f (a.map prV), .sl h (b.map prV)] (.sl false ((allB a b).map cfV))) (hn : (allB a b).length ≤ 100000) (hg : g.members.length ≤ 1000)
    (hc0 : ∀ c ∈ allB a b, c.length ≤ 100 ∧ ∀ p ∈ c, Plain p) : AM.Fn Tryz.prog 146 [viV g, .sl f (a.map prV), .sl h (b.map prV)] (.sl false (((allB a b).map (viewOf g)).map viV)) := by
  (refine spec_of_runs Tryz.func146 rfl ?_; simp only [Tryz.f146]; refine ys ?_)
  generalize allB a b = l at *
  repeat' (first | refine yw ?_ | ((with_reducible refine Runs.is ?_); first | refine Runs.region (id := 0) ?_ | refine Runs.region (id := 1) ?_ | refine Runs.region (id := 2) ?_ | ((with_reducible refine Runs.isC ?_); refine Runs.cond rfl (zc ?_) (zc ?_) <;> intro hc <;> (try (first | contradiction | (exfalso; omega; done) | (have : hc = trivial := rfl; clear this; clear hc))))) | ((with_reducible refine r_is ?_); first | refine yr ?_ | (refine r_fn rfl (hA) HbF.h zL2 zD ?_; refine r_nn zN zH ?_)) | fail)
  (refine Runs.weaken (St.Le.nil 7 79 4 7 zd rfl rfl zE) ?_)
  refine Runs.loopI (fun k : Nat => l.length - k) (fun k => k ≤ l.length)
    (fun k => ⟨[.any, .any, .any, .ptr 3 0 0, .any, .any, .any, .own 7, .any, .any, .any, .any, .sl false (l.map cfV), .i (l.length : Nat), .i (k : Nat), .any, .any, .any, .any, .any, .any, .any, .any, .any, .any, .any, .any], [(7, .lst 79 4 (((l.take k).map (viewOf g)).map viV)), (3, .var 26 (viV g))]⟩) 0 (by simp) ?_ ?_
  · (refine St.Le.clean zR zU zV)
  rintro k hk ih
  have htk := fun (h : k < l.length) => take_getD (xs := l) h
  have hl1 : ((l.take k).map (viewOf g)).length ≤ 100000 := by rw [List.length_map, List.length_take]; omega
  by_cases hlt : k < l.length
  · have hcc := hc0 (l.getD k default) (by rw [List.getD_eq_getElem?_getD, List.getElem?_eq_getElem hlt]; exact List.getElem_mem hlt)
    have htk2 := htk hlt
    have hS := member_Summarize false g (l.getD k default) hg hcc.1 hcc.2
    have hsh := sumS_short hg (l.getD k default) (fun p q => (hcc.2 p q).1)
    have hlen := hcc.1
    have hV := member_View (sumS g (l.getD k default)) (by have := hsh.1; omega) (by have := hsh.2.2; omega)
    have hm : (l.take (k + 1)).map (viewOf g) = (l.take k).map (viewOf g) ++ [viewS (sumS g (l.getD k default))] := by rw [htk2, List.map_append]; rfl
    repeat' (first | refine yw ?_ | ((with_reducible refine Runs.is ?_); first | refine Runs.region (id := 3) ?_ | refine Runs.region (id := 4) ?_ | refine Runs.region (id := 5) ?_ | ((with_reducible refine Runs.isC ?_); refine Runs.cond rfl (zc ?_) (zc ?_) <;> intro hc <;> (try (first | contradiction | (exfalso; omega; done) | (have : hc = trivial := rfl; clear this; clear hc))))) | ((with_reducible refine r_is ?_); first | refine yr ?_ | (refine r_fn rfl (hS) HbF.h zL2 zD ?_; refine r_nn zN zH ?_) | (refine r_fn rfl (hV) HbF.h zL1 zD ?_; refine r_nn zN zH ?_) | (refine r_append_full SlF.h SlF.s ZoF.h zd rfl rfl zC zJ zS rfl (fun hn => ?_) (fun hn => ?_) <;> refine r_nn zN zH ?_)) | fail)
    repeat' (first | refine yw ?_ | ((with_reducible refine Runs.is ?_); first | refine Runs.region (id := 6) ?_ | ((with_reducible refine Runs.isC ?_); refine Runs.cond rfl (zc ?_) (zc ?_) <;> intro hc <;> (try (first | contradiction | (exfalso; omega; done) | (have : hc = trivial := rfl; clear this; clear hc))))) | ((with_reducible refine r_is ?_); first | refine yr ?_) | fail)
    refine ih (k + 1) _ zo zo ?_
    rw [hm]
    (refine St.Le.clean zR zU zV)
  · repeat' (first | refine yw ?_ | ((with_reducible refine Runs.is ?_); first | refine Runs.region (id := 3) ?_ | ((with_reducible refine Runs.isC ?_); refine Runs.cond rfl (zc ?_) (zc ?_) <;> intro hc <;> (try (first | contradiction | (exfalso; omega; done) | (have : hc = trivial := rfl; clear this; clear hc))))) | ((with_reducible refine r_is ?_); first | refine yr ?_) | fail)
    rw [List.take_of_length_le zo]
    repeat' (first | refine yw ?_ | ((with_reducible refine Runs.is ?_); first | refine Runs.region (id := 7) ?_ | ((with_reducible refine Runs.isC ?_); refine Runs.cond rfl (zc ?_) (zc ?_) <;> intro hc <;> (try (first | contradiction | (exfalso; omega; done) | (have : hc = trivial := rfl; clear this; clear hc))))) | ((with_reducible refine r_is ?_); first | refine yr ?_) | fail)
    exact Runs.ret_frz Tryz.func146 rfl rfl rfl rfl
theorem grow_nil (n : Nat) (hn : n ≤ 1000000000) : AM.Spec Tryz.prog 232 [.sc (.slice none 0 0), .i (n : Nat)] [] (OwnPost 3 1 fun l => l = ([] : List Int).map .i) := by
  (refine spec_of_runs Tryz.func232 rfl ?_; simp only [Tryz.f232]; refine ys ?_)
  repeat' (first | refine yw ?_ | ((with_reducible refine Runs.is ?_); first | refine Runs.region ?_ | ((with_reducible refine Runs.isC ?_); refine Runs.cond rfl (zc ?_) (zc ?_) <;> intro hc <;> (try (first | contradiction | (exfalso; omega; done) | (have : hc = trivial := rfl; clear this; clear hc))))) | ((with_reducible refine r_is ?_); first | refine yr ?_ | (refine r_append_full SlF.h SlF.s ZoF.h zd rfl rfl zC zJ zS rfl (fun hn => ?_) (fun hn => ?_) <;> refine r_nn zN zH ?_)) | fail)
  · exact Runs.ret_own Tryz.func232 rfl rfl rfl (by simp)
  · exact Runs.ret_nil Tryz.func232 rfl rfl zd rfl rfl
theorem sum_take (ls : List (List Int)) (k : Nat) (h : k < ls.length) : ((ls.take (k + 1)).map List.length).sum = ((ls.take k).map List.length).sum + (ls.getD k default).length := by
  rw [take_getD h, List.map_append, List.sum_append]; simp
theorem sum_take_le (ls : List (List Int)) (k : Nat) : ((ls.take k).map List.length).sum ≤ (ls.map List.length).sum := by
  have h : ls.map List.length = (ls.take k).map List.length ++ (ls.drop k).map List.length := by rw [← List.map_append, List.take_append_drop]
  rw [h, List.sum_append]; omega
theorem flatten_len (ls : List (List Int)) : ls.flatten.length = (ls.map List.length).sum := List.length_flatten
theorem concat_ints (f : Bool) (ls : List (List Int)) (hs : (ls.map List.length).sum ≤ 1000000000) : AM.Spec Tryz.prog 198 [.sl f (ls.map inV)] [] (OwnPost 3 1 fun l => l = ls.flatten.map .i) := by
  (refine spec_of_runs Tryz.func198 rfl ?_; simp only [Tryz.f198]; refine ys ?_)
  (refine Runs.lens 0 ?_; refine yl ?_)
  intro hlb
  repeat' (first | refine yw ?_ | ((with_reducible refine Runs.is ?_); first | refine Runs.region (id := 0) ?_ | refine Runs.region (id := 1) ?_ | refine Runs.region (id := 2) ?_ | ((with_reducible refine Runs.isC ?_); refine Runs.cond rfl (zc ?_) (zc ?_) <;> intro hc <;> (try (first | contradiction | (exfalso; omega; done) | (have : hc = trivial := rfl; clear this; clear hc))))) | ((with_reducible refine r_is ?_); first | refine yr ?_) | fail)
  refine Runs.loopI (fun k : Nat => ls.length - k) (fun k => k ≤ ls.length)
    (fun k => ⟨[.sl f (ls.map inV), .any, .any, .i ((((ls.take k).map List.length).sum : Nat) : Int), .any, .any, .any, .any, .any, .sl f (ls.map inV), .i (ls.length : Nat), .i (k : Nat), .any, .any, .any, .any, .any, .any, .any, .any, .any, .any, .any, .any, .any, .any, .any, .any, .any, .any, .any, .any, .any, .any, .any, .any], []⟩) 0 (by simp) ?_ ?_
  · (refine St.Le.clean zR zU zV)
  rintro k hk ih
  have hst := fun (h : k < ls.length) => sum_take ls k h
  have hle := sum_take_le ls k
  have hle2 := sum_take_le ls (k + 1)
  have hend : ls.length ≤ k → ((ls.take k).map List.length).sum = (ls.map List.length).sum := fun h => by rw [List.take_of_length_le h]
  generalize ((ls.take k).map List.length).sum = n at hst hle hend ⊢
  by_cases hlt : k < ls.length
  · have hst2 := hst hlt
    repeat' (first | refine yw ?_ | ((with_reducible refine Runs.is ?_); first | refine Runs.region (id := 3) ?_ | refine Runs.region (id := 4) ?_ | refine Runs.region (id := 5) ?_ | refine Runs.region (id := 6) ?_ | ((with_reducible refine Runs.isC ?_); refine Runs.cond rfl (zc ?_) (zc ?_) <;> intro hc <;> (try (first | contradiction | (exfalso; omega; done) | (have : hc = trivial := rfl; clear this; clear hc))))) | ((with_reducible refine r_is ?_); first | refine yr ?_) | fail)
    repeat' (first | refine yw ?_ | ((with_reducible refine Runs.is ?_); first | refine Runs.region (id := 8) ?_ | ((with_reducible refine Runs.isC ?_); refine Runs.cond rfl (zc ?_) (zc ?_) <;> intro hc <;> (try (first | contradiction | (exfalso; omega; done) | (have : hc = trivial := rfl; clear this; clear hc))))) | ((with_reducible refine r_is ?_); first | refine yr ?_) | fail)
    refine ih (k + 1) _ zo zo ?_
    rw [hst2]
    (refine St.Le.clean zR zU zV)
  · have hn := hend zo
    clear hst hend hle2 ih
    repeat' (first | refine yw ?_ | ((with_reducible refine Runs.is ?_); first | refine Runs.region (id := 3) ?_ | ((with_reducible refine Runs.isC ?_); refine Runs.cond rfl (zc ?_) (zc ?_) <;> intro hc <;> (try (first | contradiction | (exfalso; omega; done) | (have : hc = trivial := rfl; clear this; clear hc))))) | ((with_reducible refine r_is ?_); first | refine yr ?_) | fail)
    repeat' (first | refine yw ?_ | ((with_reducible refine Runs.is ?_); first | refine Runs.region (id := 9) ?_ | refine Runs.region (id := 10) ?_ | ((with_reducible refine Runs.isC ?_); refine Runs.cond rfl (zc ?_) (zc ?_) <;> intro hc <;> (try (first | contradiction | (exfalso; omega; done) | (have : hc = trivial := rfl; clear this; clear hc))))) | ((with_reducible refine r_is ?_); first | refine yr ?_ | (refine r_own rfl (grow_nil n zo) HbF.h zL2 zD rfl (fun _ hq _ => ?_); (try subst hq); refine r_nn zN zH ?_)) | fail)
    refine Runs.loopI (fun k : Nat => ls.length - k) (fun k => k ≤ ls.length)
      (fun k => ⟨[.any, .any, .any, .any, .any, .any, .own 24, .any, .any, .any, .any, .any, .any, .any, .any, .any, .any, .any, .any, .any, .any, .any, .any, .any, .any, .sl f (ls.map inV), .i (ls.length : Nat), .i (k : Nat), .any, .any, .any, .any, .any, .any, .any, .any], [(24, .lst 3 1 ((ls.take k).flatten.map .i))]⟩) 0 (by simp) ?_ ?_
    · (refine St.Le.clean zR zU zV)
    rintro k hk ih
    have hle := sum_take_le ls (k + 1)
    have hfl := flatten_len (ls.take k)
    have hle1 := sum_take_le ls k
    have hend : ls.length ≤ k → (ls.take k).flatten = ls.flatten := fun h => by rw [List.take_of_length_le h]
    have hst := fun (h : k < ls.length) => take_getD (xs := ls) h
    have hsm := fun (h : k < ls.length) => sum_take ls k h
    by_cases hlt : k < ls.length
    · have hfl2 : (ls.take (k + 1)).flatten = (ls.take k).flatten ++ ls.getD k default := by rw [hst hlt, List.flatten_append]; simp
      have hsm2 := hsm hlt
      generalize (ls.take k).flatten = acc at hfl hend hfl2 ⊢
      repeat' (first | refine yw ?_ | ((with_reducible refine Runs.is ?_); first | refine Runs.region (id := 11) ?_ | refine Runs.region (id := 12) ?_ | refine Runs.region (id := 13) ?_ | refine Runs.region (id := 14) ?_ | ((with_reducible refine Runs.isC ?_); refine Runs.cond rfl (zc ?_) (zc ?_) <;> intro hc <;> (try (first | contradiction | (exfalso; omega; done) | (have : hc = trivial := rfl; clear this; clear hc))))) | ((with_reducible refine r_is ?_); first | refine yr ?_ | (refine r_append_full SlF.h SlF.s ZoF.h zd rfl rfl zC zJ zS rfl (fun hn => ?_) (fun hn => ?_) <;> refine r_nn zN zH ?_)) | fail)
      refine ih (k + 1) _ zo zo ?_
      rw [hfl2]
      (refine St.Le.clean zR zU zV)
    · repeat' (first | refine yw ?_ | ((with_reducible refine Runs.is ?_); first | refine Runs.region (id := 11) ?_ | ((with_reducible refine Runs.isC ?_); refine Runs.cond rfl (zc ?_) (zc ?_) <;> intro hc <;> (try (first | contradiction | (exfalso; omega; done) | (have : hc = trivial := rfl; clear this; clear hc))))) | ((with_reducible refine r_is ?_); first | refine yr ?_) | fail)
      rw [hend zo]
      repeat' (first | refine yw ?_ | ((with_reducible refine Runs.is ?_); first | refine Runs.region (id := 15) ?_ | ((with_reducible refine Runs.isC ?_); refine Runs.cond rfl (zc ?_) (zc ?_) <;> intro hc <;> (try (first | contradiction | (exfalso; omega; done) | (have : hc = trivial := rfl; clear this; clear hc))))) | ((with_reducible refine r_is ?_); first | refine yr ?_) | fail)
      exact Runs.ret_own Tryz.func198 rfl rfl rfl rfl
def distinctI (ls : List (List Int)) : List Int := compactI (sortI ls.flatten)
theorem distinct_ints (f : Bool) (ls : List (List Int)) (hs : (ls.map List.length).sum ≤ 1000000000) : AM.Fn Tryz.prog 147 [.sl f (ls.map inV)] (.sl false ((distinctI ls).map .i)) := by
  have hl : ls.flatten.length ≤ 1000000000 := by rw [flatten_len]; exact hs
  have hl2 : (sortI ls.flatten).length ≤ 1000000000 := by rw [sortI_length]; exact hl
  unfold distinctI
  (refine spec_of_runs Tryz.func147 rfl ?_; simp only [Tryz.f147]; refine ys ?_)
  repeat' (first | refine yw ?_ | ((with_reducible refine Runs.is ?_); first | refine Runs.region ?_ | ((with_reducible refine Runs.isC ?_); refine Runs.cond rfl (zc ?_) (zc ?_) <;> intro hc <;> (try (first | contradiction | (exfalso; omega; done) | (have : hc = trivial := rfl; clear this; clear hc))))) | ((with_reducible refine r_is ?_); first | refine yr ?_ | (refine r_own rfl (concat_ints f ls hs) HbF.h zL1 zD rfl (fun _ hq _ => ?_); (try subst hq); refine r_nn zN zH ?_) | (refine r_turn rfl (sort_turns ls.flatten zo) HbF.h rfl rfl ?_; refine r_nn zN zH ?_) | (refine r_give rfl (compact_gives 1000 (sortI ls.flatten) zo) HbF.h rfl rfl zL0 zD ?_; refine r_nn zN zH ?_)) | fail)
  exact Runs.ret_frz Tryz.func147 rfl rfl rfl rfl
def srv (v : View) : List Int := v.members.map (·.server)
def spanI (vs : List View) : List Int := distinctI (vs.map srv)
theorem interval_Span (f h : Bool) (g : View) (a b : Config) (vs : List View) (hV : AM.Fn Tryz.prog 146 [viV g, .sl f (a.map prV), .sl h (b.map prV)] (.sl false (vs.map viV))) (hn : vs.length ≤ 100000) (hm : ∀ v ∈ vs, v.members.length ≤ 1000000)
    (hs : ((vs.map srv).map List.length).sum ≤ 1000000000) : AM.Fn Tryz.prog 79 [viV g, .sl f (a.map prV), .sl h (b.map prV)] (.sl false ((spanI vs).map .i)) := by
  (refine spec_of_runs Tryz.func79 rfl ?_; simp only [Tryz.f79]; refine ys ?_)
  repeat' (first | refine yw ?_ | ((with_reducible refine Runs.is ?_); first | refine Runs.region (id := 0) ?_ | refine Runs.region (id := 1) ?_ | refine Runs.region (id := 2) ?_ | ((with_reducible refine Runs.isC ?_); refine Runs.cond rfl (zc ?_) (zc ?_) <;> intro hc <;> (try (first | contradiction | (exfalso; omega; done) | (have : hc = trivial := rfl; clear this; clear hc))))) | ((with_reducible refine r_is ?_); first | refine yr ?_ | (refine r_fn rfl (hV) HbF.h zL3 zD ?_; refine r_nn zN zH ?_)) | fail)
  (refine Runs.weaken (St.Le.nil 7 46 1 7 zd rfl rfl zE) ?_)
  refine Runs.loopI (fun k : Nat => vs.length - k) (fun k => k ≤ vs.length)
    (fun k => ⟨[.any, .any, .any, .any, .any, .any, .any, .own 7, .any, .any, .any, .any, .any, .any, .any, .any, .sl false (vs.map viV), .i (vs.length : Nat), .i (k : Nat), .any, .any, .any, .any, .any, .any, .any, .any, .any, .any, .any, .any, .any, .any, .any, .any, .any, .any, .any, .any, .any, .any, .any], [(7, .lst 46 1 (((vs.take k).map srv).map inV))]⟩) 0 (by simp) ?_ ?_
  · (refine St.Le.clean zR zU zV)
  rintro k hk ih
  have htk := fun (h : k < vs.length) => take_getD (xs := vs) h
  have hl1 : ((vs.take k).map srv).length ≤ 100000 := by rw [List.length_map, List.length_take]; omega
  by_cases hlt : k < vs.length
  · have hmm := hm (vs.getD k default) (by rw [List.getD_eq_getElem?_getD, List.getElem?_eq_getElem hlt]; exact List.getElem_mem hlt)
    have hst : (vs.take (k + 1)).map srv = (vs.take k).map srv ++ [srv (vs.getD k default)] := by rw [htk hlt, List.map_append]; rfl
    generalize (vs.take k).map srv = acc at hl1 hst ⊢
    repeat' (first | refine yw ?_ | ((with_reducible refine Runs.is ?_); first | refine Runs.region (id := 3) ?_ | refine Runs.region (id := 4) ?_ | refine Runs.region (id := 5) ?_ | refine Runs.region (id := 6) ?_ | ((with_reducible refine Runs.isC ?_); refine Runs.cond rfl (zc ?_) (zc ?_) <;> intro hc <;> (try (first | contradiction | (exfalso; omega; done) | (have : hc = trivial := rfl; clear this; clear hc))))) | ((with_reducible refine r_is ?_); first | refine yr ?_) | fail)
    generalize vs.getD k default = v at hmm hst ⊢
    obtain ⟨ms, ru⟩ := v
    change (vs.take (k + 1)).map srv = acc ++ [ms.map (·.server)] at hst
    dsimp only at hmm ⊢
    (refine Runs.weaken (St.Le.nil 10 3 1 10 zd rfl rfl zE) ?_)
    refine Runs.loopI (fun j : Nat => ms.length - j) (fun j => j ≤ ms.length)
      (fun j => ⟨[.any, .any, .any, .any, .any, .any, .any, .own 7, .any, .any, .own 10, .any, .any, .any, .any, .any, .sl false (vs.map viV), .i (vs.length : Nat), .i (k : Nat), .any, .any, .any, .any, .sl false (ms.map mbV), .i (ms.length : Nat), .i (j : Nat), .any, .any, .any, .any, .any, .any, .any, .any, .any, .any, .any, .any, .any, .any, .any, .any], [(10, .lst 3 1 (((ms.take j).map (·.server)).map .i)), (7, .lst 46 1 (acc.map inV))]⟩) 0 (by simp) ?_ ?_
    · (refine St.Le.clean zR zU zV)
    rintro j hj ihj
    have htj := fun (h : j < ms.length) => take_getD (xs := ms) h
    have hl2 : ((ms.take j).map (·.server)).length ≤ 1000000 := by rw [List.length_map, List.length_take]; omega
    by_cases hjt : j < ms.length
    · have htj2 : (ms.take (j + 1)).map (·.server) = (ms.take j).map (·.server) ++ [(ms.getD j default).server] := by rw [htj hjt, List.map_append]; rfl
      generalize (ms.take j).map (·.server) = acc2 at hl2 htj2 ⊢
      repeat' (first | refine yw ?_ | ((with_reducible refine Runs.is ?_); first | refine Runs.region (id := 7) ?_ | refine Runs.region (id := 8) ?_ | refine Runs.region (id := 9) ?_ | refine Runs.region (id := 10) ?_ | ((with_reducible refine Runs.isC ?_); refine Runs.cond rfl (zc ?_) (zc ?_) <;> intro hc <;> (try (first | contradiction | (exfalso; omega; done) | (have : hc = trivial := rfl; clear this; clear hc))))) | ((with_reducible refine r_is ?_); first | refine yr ?_ | (refine r_append_full SlF.h SlF.s ZoF.h zd rfl rfl zC zJ zS rfl (fun hn => ?_) (fun hn => ?_) <;> refine r_nn zN zH ?_)) | fail)
      refine ihj (j + 1) _ zo zo ?_
      rw [htj2]
      (refine St.Le.clean zR zU zV)
    · repeat' (first | refine yw ?_ | ((with_reducible refine Runs.is ?_); first | refine Runs.region (id := 7) ?_ | ((with_reducible refine Runs.isC ?_); refine Runs.cond rfl (zc ?_) (zc ?_) <;> intro hc <;> (try (first | contradiction | (exfalso; omega; done) | (have : hc = trivial := rfl; clear this; clear hc))))) | ((with_reducible refine r_is ?_); first | refine yr ?_) | fail)
      rw [List.take_of_length_le zo]
      (refine Runs.weaken (St.Le.freeze_lst 10 rfl) ?_; refine yf ?_)
      repeat' (first | refine yw ?_ | ((with_reducible refine Runs.is ?_); first | refine Runs.region (id := 11) ?_ | refine Runs.region (id := 12) ?_ | ((with_reducible refine Runs.isC ?_); refine Runs.cond rfl (zc ?_) (zc ?_) <;> intro hc <;> (try (first | contradiction | (exfalso; omega; done) | (have : hc = trivial := rfl; clear this; clear hc))))) | ((with_reducible refine r_is ?_); first | refine yr ?_ | (refine r_append_full SlF.h SlF.s ZoF.h zd rfl rfl zC zJ zS rfl (fun hn => ?_) (fun hn => ?_) <;> refine r_nn zN zH ?_)) | fail)
      refine ih (k + 1) _ zo zo ?_
      rw [hst]
      (refine St.Le.clean zR zU zV)
  · repeat' (first | refine yw ?_ | ((with_reducible refine Runs.is ?_); first | refine Runs.region (id := 3) ?_ | ((with_reducible refine Runs.isC ?_); refine Runs.cond rfl (zc ?_) (zc ?_) <;> intro hc <;> (try (first | contradiction | (exfalso; omega; done) | (have : hc = trivial := rfl; clear this; clear hc))))) | ((with_reducible refine r_is ?_); first | refine yr ?_) | fail)
    rw [List.take_of_length_le zo]
    (refine Runs.weaken (St.Le.freeze_lst 7 rfl) ?_; refine yf ?_)
    repeat' (first | refine yw ?_ | ((with_reducible refine Runs.is ?_); first | refine Runs.region (id := 13) ?_ | ((with_reducible refine Runs.isC ?_); refine Runs.cond rfl (zc ?_) (zc ?_) <;> intro hc <;> (try (first | contradiction | (exfalso; omega; done) | (have : hc = trivial := rfl; clear this; clear hc))))) | ((with_reducible refine r_is ?_); first | refine yr ?_ | (refine r_fn rfl (distinct_ints false (vs.map srv) hs) HbF.h zL1 zD ?_; refine r_nn zN zH ?_)) | fail)
    (refine Runs.ret1 Tryz.func79 rfl zM zD ?_; try exact zX)
end Go.Proofs
namespace Go.Proofs
open Go.AM
attribute [local irreducible] AM.evalR AM.evalD AM.Runs AM.valK AM.dK AM.opK AM.stepR AM.CallS AM.St.Le
end Go.Proofs
namespace Go.Proofs
open Go.AM
attribute [local irreducible] AM.evalR AM.evalD AM.Runs AM.valK AM.dK AM.opK AM.stepR AM.CallS AM.St.Le
end Go.Proofs
namespace Go.Proofs
open Go.AM
attribute [local irreducible] AM.evalR AM.evalD AM.Runs AM.valK AM.dK AM.opK AM.stepR AM.CallS AM.St.Le
theorem drop_any {α : Type} [Inhabited α] {p : α → Bool} {l : List α} {i : Nat} (h : i < l.length) : (l.drop i).any p = (p (l.getD i default) || (l.drop (i + 1)).any p) := by
  rw [drop_getD h, List.any_cons]
theorem ref_In (f : Bool) (l : List Int) (n : Int) : AM.Fn Tryz.prog 47 [.sl f (l.map .i), .i n] (.b (l.any fun y => decide (y = n))) := by
  (refine spec_of_runs Tryz.func47 rfl ?_; simp only [Tryz.f47]; refine ys ?_)
  (refine Runs.lens 0 ?_; refine yl ?_)
  intro hl
  repeat' (first | refine yw ?_ | ((with_reducible refine Runs.is ?_); first | refine Runs.region (id := 0) ?_ | refine Runs.region (id := 1) ?_ | ((with_reducible refine Runs.isC ?_); refine Runs.cond rfl (zc ?_) (zc ?_) <;> intro hc <;> (try (first | contradiction | (exfalso; omega; done) | (have : hc = trivial := rfl; clear this; clear hc))))) | ((with_reducible refine r_is ?_); first | refine yr ?_) | fail)
  refine Runs.loopI (fun i : Nat => l.length - i) (fun i => i ≤ l.length ∧ (l.any fun y => decide (y = n)) = ((l.drop i).any fun y => decide (y = n)))
    (fun i => ⟨[.sl f (l.map .i), .i n, .any, .any, .any, .i (i : Nat), .any, .any, .any, .any, .any, .any, .any, .any, .any, .any, .any, .any], []⟩) 0 (by simp) ?_ ?_
  · (refine St.Le.clean zR zU zV)
  rintro i ⟨hi, he⟩ ih
  rw [he]
  by_cases hlt : i < l.length
  · rw [drop_any hlt]
    rw [drop_any hlt] at he
    repeat' (first | refine yw ?_ | ((with_reducible refine Runs.is ?_); first | refine Runs.region (id := 2) ?_ | refine Runs.region (id := 4) ?_ | refine Runs.region (id := 5) ?_ | refine Runs.region (id := 3) ?_ | ((with_reducible refine Runs.isC ?_); refine Runs.cond rfl (zc ?_) (zc ?_) <;> intro hc <;> (try (first | contradiction | (exfalso; omega; done) | (have : hc = trivial := rfl; clear this; clear hc))))) | ((with_reducible refine r_is ?_); first | refine yr ?_) | fail)
    · (refine Runs.ret1 Tryz.func47 rfl zM zD ?_; try exact zX)
      exact V.Le.of_eq (congrArg V.b (by rw [decide_eq_true hc]; rfl))
    · rw [decide_eq_false hc, Bool.false_or] at he ⊢
      rw [← he]
      refine ih (i + 1) _ ⟨by omega, he⟩ zo ?_
      (refine St.Le.clean zR zU zV)
  · rw [List.drop_of_length_le zo]
    repeat' (first | refine yw ?_ | ((with_reducible refine Runs.is ?_); first | refine Runs.region (id := 2) ?_ | ((with_reducible refine Runs.isC ?_); refine Runs.cond rfl (zc ?_) (zc ?_) <;> intro hc <;> (try (first | contradiction | (exfalso; omega; done) | (have : hc = trivial := rfl; clear this; clear hc))))) | ((with_reducible refine r_is ?_); first | refine yr ?_) | fail)
    repeat' (first | refine yw ?_ | ((with_reducible refine Runs.is ?_); first | refine Runs.region (id := 6) ?_ | ((with_reducible refine Runs.isC ?_); refine Runs.cond rfl (zc ?_) (zc ?_) <;> intro hc <;> (try (first | contradiction | (exfalso; omega; done) | (have : hc = trivial := rfl; clear this; clear hc))))) | ((with_reducible refine r_is ?_); first | refine yr ?_) | fail)
    (refine Runs.ret1 Tryz.func47 rfl zM zD ?_; try exact zX)
def laterB (a b : WeightEntry) : Bool := if a.version ≠ b.version then decide (b.version < a.version) else if a.admin ≠ b.admin then decide (b.admin < a.admin) else decide (b.number < a.number)
theorem ref_later (a b : WeightEntry) : AM.Fn Tryz.prog 220 [weV a, weV b] (.b (laterB a b)) := by
  unfold laterB
  (refine spec_of_runs Tryz.func220 rfl ?_; simp only [Tryz.f220]; refine ys ?_)
  repeat' (first | refine yw ?_ | ((with_reducible refine Runs.is ?_); first | refine Runs.region ?_ | ((with_reducible refine Runs.isC ?_); refine Runs.cond rfl (zc ?_) (zc ?_) <;> intro hc <;> (try (first | contradiction | (exfalso; omega; done) | (have : hc = trivial := rfl; clear this; clear hc))))) | ((with_reducible refine r_is ?_); first | refine yr ?_) | fail)
  · (refine Runs.ret1 Tryz.func220 rfl zM zD ?_; try exact zX)
    rw [if_pos (by assumption)]; exact V.Le.refl _
  · (refine Runs.ret1 Tryz.func220 rfl zM zD ?_; try exact zX)
    rw [if_neg zo, if_pos (by assumption)]; exact V.Le.refl _
  · (refine Runs.ret1 Tryz.func220 rfl zM zD ?_; try exact zX)
    rw [if_neg zo, if_neg zo]; exact V.Le.refl _
def insStep (n : Int) (s : List Int × Bool) (y : Int) : List Int × Bool :=
  let t := if s.2 = false ∧ n ≤ y then (s.1 ++ [n], true) else s
  if y ≠ n then (t.1 ++ [y], t.2) else t
def insR (l : List Int) (n : Int) : List Int := let s := l.foldl (insStep n) ([], false); if s.2 = false then s.1 ++ [n] else s.1
theorem insStep_len (n : Int) (s : List Int × Bool) (y : Int) : (insStep n s y).1.length ≤ s.1.length + 2 := by
  unfold insStep
  dsimp only
  split <;> split <;> simp
theorem insFold_len (n : Int) (l : List Int) (k : Nat) (hk : k ≤ l.length) : ((l.take k).foldl (insStep n) ([], false)).1.length ≤ 2 * k := by
  induction k with
  | zero => simp
  | succ k ih =>
    rw [foldl_take zo]
    have := ih zo
    have := insStep_len n ((l.take k).foldl (insStep n) ([], false)) (l.getD k default)
    omega
theorem insStep_a {n y : Int} {acc : List Int} (h1 : n ≤ y) (h2 : ¬ y = n) : insStep n (acc, false) y = (acc ++ [n] ++ [y], true) := by simp [insStep, h1, h2]
theorem insStep_b {n y : Int} {acc : List Int} (h1 : n ≤ y) (h2 : y = n) : insStep n (acc, false) y = (acc ++ [n], true) := by simp [insStep, h2]
theorem insStep_c {n y : Int} {acc : List Int} (h1 : y < n) (h2 : ¬ y = n) : insStep n (acc, false) y = (acc ++ [y], false) := by
  have : ¬ n ≤ y := by omega
  simp [insStep, h2, this]
theorem insStep_d {n y : Int} {acc : List Int} (h2 : ¬ y = n) : insStep n (acc, true) y = (acc ++ [y], true) := by simp [insStep, h2]
theorem insStep_e {n y : Int} {acc : List Int} (h2 : y = n) : insStep n (acc, true) y = (acc, true) := by simp [insStep, h2]
theorem ref_Insert (f : Bool) (l : List Int) (n : Int) (hl : l.length ≤ 1000000) : AM.Fn Tryz.prog 138 [.sl f (l.map .i), .i n] (.sl false ((insR l n).map .i)) := by
  (refine spec_of_runs Tryz.func138 rfl ?_; simp only [Tryz.f138]; refine ys ?_)
  repeat' (first | refine yw ?_ | ((with_reducible refine Runs.is ?_); first | refine Runs.region (id := 0) ?_ | refine Runs.region (id := 1) ?_ | refine Runs.region (id := 2) ?_ | refine Runs.region (id := 3) ?_ | ((with_reducible refine Runs.isC ?_); refine Runs.cond rfl (zc ?_) (zc ?_) <;> intro hc <;> (try (first | contradiction | (exfalso; omega; done) | (have : hc = trivial := rfl; clear this; clear hc))))) | ((with_reducible refine r_is ?_); first | refine yr ?_) | fail)
  (refine Runs.weaken (St.Le.nil 5 3 1 5 zd rfl rfl zE) ?_)
  refine Runs.loopI (fun k : Nat => l.length - k) (fun k => k ≤ l.length)
    (fun k => ⟨[.sl f (l.map .i), .i n, .any, .any, .any, .own 5, .b ((l.take k).foldl (insStep n) ([], false)).2, .i (k : Nat), .any, .any, .any, .any, .any, .any, .any, .any, .any, .any, .any, .any, .any, .any, .any, .any, .any, .any, .any, .any, .any, .any, .any, .any, .any, .any, .any, .any, .any, .any, .any, .any, .any, .any, .any, .any, .any, .any, .any, .any], [(5, .lst 3 1 (((l.take k).foldl (insStep n) ([], false)).1.map .i))]⟩) 0 (by simp) ?_ ?_
  · (refine St.Le.clean zR zU zV)
  rintro k hk ih
  have hst := fun (h : k < l.length) => foldl_take (g := insStep n) (s := ([], false)) h
  have hend : l.length ≤ k → insR l n = (if ((l.take k).foldl (insStep n) ([], false)).2 = false then ((l.take k).foldl (insStep n) ([], false)).1 ++ [n] else ((l.take k).foldl (insStep n) ([], false)).1) := fun h => by rw [List.take_of_length_le h]; rfl
  have hlen := insFold_len n l k hk
  generalize (l.take k).foldl (insStep n) ([], false) = s at hst hend hlen ⊢
  obtain ⟨acc, put⟩ := s
  dsimp only at hst hend hlen ⊢
  by_cases hlt : k < l.length
  · have hst2 := hst hlt
    cases put
    · repeat' (first | refine yw ?_ | ((with_reducible refine Runs.is ?_); first | refine Runs.region (id := 4) ?_ | refine Runs.region (id := 6) ?_ | refine Runs.region (id := 7) ?_ | refine Runs.region (id := 8) ?_ | refine Runs.region (id := 9) ?_ | refine Runs.region (id := 10) ?_ | refine Runs.region (id := 5) ?_ | ((with_reducible refine Runs.isC ?_); refine Runs.cond rfl (zc ?_) (zc ?_) <;> intro hc <;> (try (first | contradiction | (exfalso; omega; done) | (have : hc = trivial := rfl; clear this; clear hc))))) | ((with_reducible refine r_is ?_); first | refine yr ?_ | (refine r_append_full SlF.h SlF.s ZoF.h zd rfl rfl zC zJ zS rfl (fun hn => ?_) (fun hn => ?_) <;> refine r_nn zN zH ?_) | ((with_reducible refine r_gd ?_); (first | refine r_guardPt rfl rfl ?_ ?_ | refine r_guardNt rfl rfl ?_ ?_ | refine r_guard rfl rfl ?_ ?_) <;> intro hG <;> (try (exfalso; omega; done)) <;> refine r_nn zN zH ?_)) | fail)
      all_goals (repeat' (first | refine yw ?_ | ((with_reducible refine Runs.is ?_); first | refine Runs.region (id := 5) ?_ | ((with_reducible refine Runs.isC ?_); refine Runs.cond rfl (zc ?_) (zc ?_) <;> intro hc <;> (try (first | contradiction | (exfalso; omega; done) | (have : hc = trivial := rfl; clear this; clear hc))))) | ((with_reducible refine r_is ?_); first | refine yr ?_) | fail))
      all_goals (refine ih (k + 1) _ zo zo ?_)
      · rw [hst2, insStep_a (by assumption) (by assumption)]
        (refine St.Le.clean zR zU zV)
      · rw [hst2, insStep_b (by assumption) (by assumption)]
        (refine St.Le.clean zR zU zV)
      · rw [hst2, insStep_c (by assumption) (by assumption)]
        (refine St.Le.clean zR zU zV)
    · repeat' (first | refine yw ?_ | ((with_reducible refine Runs.is ?_); first | refine Runs.region (id := 4) ?_ | refine Runs.region (id := 6) ?_ | refine Runs.region (id := 7) ?_ | refine Runs.region (id := 8) ?_ | refine Runs.region (id := 9) ?_ | refine Runs.region (id := 10) ?_ | refine Runs.region (id := 5) ?_ | ((with_reducible refine Runs.isC ?_); refine Runs.cond rfl (zc ?_) (zc ?_) <;> intro hc <;> (try (first | contradiction | (exfalso; omega; done) | (have : hc = trivial := rfl; clear this; clear hc))))) | ((with_reducible refine r_is ?_); first | refine yr ?_ | (refine r_append_full SlF.h SlF.s ZoF.h zd rfl rfl zC zJ zS rfl (fun hn => ?_) (fun hn => ?_) <;> refine r_nn zN zH ?_) | ((with_reducible refine r_gd ?_); (first | refine r_guardPt rfl rfl ?_ ?_ | refine r_guardNt rfl rfl ?_ ?_ | refine r_guard rfl rfl ?_ ?_) <;> intro hG <;> (try (exfalso; omega; done)) <;> refine r_nn zN zH ?_)) | fail)
      all_goals (repeat' (first | refine yw ?_ | ((with_reducible refine Runs.is ?_); first | refine Runs.region (id := 5) ?_ | ((with_reducible refine Runs.isC ?_); refine Runs.cond rfl (zc ?_) (zc ?_) <;> intro hc <;> (try (first | contradiction | (exfalso; omega; done) | (have : hc = trivial := rfl; clear this; clear hc))))) | ((with_reducible refine r_is ?_); first | refine yr ?_) | fail))
      all_goals (refine ih (k + 1) _ zo zo ?_)
      · rw [hst2, insStep_d (by assumption)]
        (refine St.Le.clean zR zU zV)
      · rw [hst2, insStep_e (by assumption)]
        (refine St.Le.clean zR zU zV)
  · rw [hend zo]
    cases put
    · repeat' (first | refine yw ?_ | ((with_reducible refine Runs.is ?_); first | refine Runs.region (id := 4) ?_ | ((with_reducible refine Runs.isC ?_); refine Runs.cond rfl (zc ?_) (zc ?_) <;> intro hc <;> (try (first | contradiction | (exfalso; omega; done) | (have : hc = trivial := rfl; clear this; clear hc))))) | ((with_reducible refine r_is ?_); first | refine yr ?_) | fail)
      repeat' (first | refine yw ?_ | ((with_reducible refine Runs.is ?_); first | refine Runs.region (id := 11) ?_ | refine Runs.region (id := 12) ?_ | refine Runs.region (id := 13) ?_ | ((with_reducible refine Runs.isC ?_); refine Runs.cond rfl (zc ?_) (zc ?_) <;> intro hc <;> (try (first | contradiction | (exfalso; omega; done) | (have : hc = trivial := rfl; clear this; clear hc))))) | ((with_reducible refine r_is ?_); first | refine yr ?_ | (refine r_append_full SlF.h SlF.s ZoF.h zd rfl rfl zC zJ zS rfl (fun hn => ?_) (fun hn => ?_) <;> refine r_nn zN zH ?_)) | fail)
      exact Runs.ret_frz Tryz.func138 rfl rfl rfl (by simp)
    · repeat' (first | refine yw ?_ | ((with_reducible refine Runs.is ?_); first | refine Runs.region (id := 4) ?_ | ((with_reducible refine Runs.isC ?_); refine Runs.cond rfl (zc ?_) (zc ?_) <;> intro hc <;> (try (first | contradiction | (exfalso; omega; done) | (have : hc = trivial := rfl; clear this; clear hc))))) | ((with_reducible refine r_is ?_); first | refine yr ?_) | fail)
      repeat' (first | refine yw ?_ | ((with_reducible refine Runs.is ?_); first | refine Runs.region (id := 11) ?_ | refine Runs.region (id := 12) ?_ | refine Runs.region (id := 13) ?_ | ((with_reducible refine Runs.isC ?_); refine Runs.cond rfl (zc ?_) (zc ?_) <;> intro hc <;> (try (first | contradiction | (exfalso; omega; done) | (have : hc = trivial := rfl; clear this; clear hc))))) | ((with_reducible refine r_is ?_); first | refine yr ?_ | (refine r_append_full SlF.h SlF.s ZoF.h zd rfl rfl zC zJ zS rfl (fun hn => ?_) (fun hn => ?_) <;> refine r_nn zN zH ?_)) | fail)
      exact Runs.ret_frz Tryz.func138 rfl rfl rfl (by simp)
def weightR : List WeightEntry → Int → Int
  | [], _ => 1
  | w :: ws, x => if w.server = x then w.weight else weightR ws x
theorem ref_weight (s : Summary) (x : Int) (hw : s.weights.length ≤ 1000000) : AM.Fn Tryz.prog 173 [suV s, .i x] (.i (weightR s.weights x)) := by
  obtain ⟨J, R, W, ru, ver, adm, num⟩ := s
  dsimp only at hw ⊢
  (refine spec_of_runs Tryz.func173 rfl ?_; simp only [Tryz.f173]; refine ys ?_)
  repeat' (first | refine yw ?_ | ((with_reducible refine Runs.is ?_); first | refine Runs.region (id := 0) ?_ | refine Runs.region (id := 1) ?_ | ((with_reducible refine Runs.isC ?_); refine Runs.cond rfl (zc ?_) (zc ?_) <;> intro hc <;> (try (first | contradiction | (exfalso; omega; done) | (have : hc = trivial := rfl; clear this; clear hc))))) | ((with_reducible refine r_is ?_); first | refine yr ?_) | fail)
  refine Runs.loopI (fun i : Nat => W.length - i) (fun i => i ≤ W.length ∧ weightR W x = weightR (W.drop i) x)
    (fun i => ⟨[.any, .i x, .ptr 2 0 0, .any, .any, .i (i : Nat), .any, .any, .any, .any, .any, .any, .any, .any, .any, .any, .any, .any, .any, .any, .any, .any, .any, .any, .any, .any, .any], [(2, .var 154 (suV ⟨J, R, W, ru, ver, adm, num⟩))]⟩) 0 (by simp) ?_ ?_
  · (refine St.Le.clean zR zU zV)
  rintro i ⟨hi, he⟩ ih
  by_cases hlt : i < W.length
  · have hd : weightR (W.drop i) x = (if (W.getD i default).server = x then (W.getD i default).weight else weightR (W.drop (i + 1)) x) := by rw [drop_getD hlt]; rfl
    rw [he, hd]
    repeat' (first | refine yw ?_ | ((with_reducible refine Runs.is ?_); first | refine Runs.region (id := 2) ?_ | refine Runs.region (id := 4) ?_ | refine Runs.region (id := 5) ?_ | refine Runs.region (id := 3) ?_ | ((with_reducible refine Runs.isC ?_); refine Runs.cond rfl (zc ?_) (zc ?_) <;> intro hc <;> (try (first | contradiction | (exfalso; omega; done) | (have : hc = trivial := rfl; clear this; clear hc))))) | ((with_reducible refine r_is ?_); first | refine yr ?_) | fail)
    · (refine Runs.ret1 Tryz.func173 rfl zM zD ?_; try exact zX)
      rw [if_pos (by assumption)]; exact V.Le.refl _
    · rw [if_neg (by assumption)] at hd ⊢
      rw [← hd, ← he]
      refine ih (i + 1) _ ⟨by omega, by rw [he, hd]⟩ zo ?_
      (refine St.Le.clean zR zU zV)
  · rw [he, List.drop_of_length_le zo]
    repeat' (first | refine yw ?_ | ((with_reducible refine Runs.is ?_); first | refine Runs.region (id := 2) ?_ | ((with_reducible refine Runs.isC ?_); refine Runs.cond rfl (zc ?_) (zc ?_) <;> intro hc <;> (try (first | contradiction | (exfalso; omega; done) | (have : hc = trivial := rfl; clear this; clear hc))))) | ((with_reducible refine r_is ?_); first | refine yr ?_) | fail)
    repeat' (first | refine yw ?_ | ((with_reducible refine Runs.is ?_); first | refine Runs.region (id := 6) ?_ | ((with_reducible refine Runs.isC ?_); refine Runs.cond rfl (zc ?_) (zc ?_) <;> intro hc <;> (try (first | contradiction | (exfalso; omega; done) | (have : hc = trivial := rfl; clear this; clear hc))))) | ((with_reducible refine r_is ?_); first | refine yr ?_) | fail)
    (refine Runs.ret1 Tryz.func173 rfl zM zD ?_; try exact zX)
end Go.Proofs
namespace Go.Proofs
open Go.AM
attribute [local irreducible] AM.evalR AM.evalD AM.Runs AM.valK AM.dK AM.opK AM.stepR AM.CallS AM.St.Le
end Go.Proofs
namespace Go.Proofs
open Go.AM
attribute [local irreducible] AM.evalR AM.evalD AM.Runs AM.valK AM.dK AM.opK AM.stepR AM.CallS AM.St.Le
theorem digitB (n b i : Int) (hb : 2 ≤ b) : 0 ≤ digitI n b i ∧ digitI n b i < b := by
  unfold digitI
  exact ⟨Int.emod_nonneg _ zo, Int.emod_lt_of_pos _ zo⟩
def ruleI (n : Int) : Rule := if digitI n 8 0 = 1 ∨ digitI n 8 0 = 2 then ⟨2, 0, 0⟩ else if digitI n 8 0 = 3 then ⟨3, 1 + digitI n 4 2, 0⟩ else if digitI n 8 0 = 4 then ⟨4, 0, digitI n 2 3⟩ else ⟨1, 0, 0⟩
theorem kit_Rule (n : Int) : AM.Fn Tryz.prog 86 [.i n] (ruV (ruleI n)) := by
  have d4 := digitB n 4 2 zd
  (refine spec_of_runs Tryz.func86 rfl ?_; simp only [Tryz.f86]; refine ys ?_)
  repeat' (first | refine yw ?_ | ((with_reducible refine Runs.is ?_); first | refine Runs.region ?_ | ((with_reducible refine Runs.isC ?_); refine Runs.cond rfl (zc ?_) (zc ?_) <;> intro hc <;> (try (first | contradiction | (exfalso; omega; done) | (have : hc = trivial := rfl; clear this; clear hc))))) | ((with_reducible refine r_is ?_); first | refine yr ?_ | (refine r_fn rfl (kit_Digit n 8 0 zd zd) HbF.h zL3 zD ?_; refine r_nn zN zH ?_) | (refine r_fn rfl (kit_Digit n 4 2 zd zd) HbF.h zL3 zD ?_; refine r_nn zN zH ?_) | (refine r_fn rfl (kit_Digit n 2 3 zd zd) HbF.h zL3 zD ?_; refine r_nn zN zH ?_)) | fail)
  all_goals ((refine Runs.retC Tryz.func86 rfl zM rfl TyF.h (And.intro zE zd) zD ?_; try exact zX))
  all_goals (unfold ruleI; repeat (first | rw [if_pos zo] | rw [if_neg zo]))
  all_goals (exact V.Le.refl _)
def changeI (n : Int) : Change :=
  if digitI n 8 0 = 0 ∨ digitI n 8 0 = 1 ∨ digitI n 8 0 = 2 then ⟨1, 1 + digitI n 8 1, 1 + digitI n 4 3, 0, ⟨0, 0, 0⟩⟩
  else if digitI n 8 0 = 3 ∨ digitI n 8 0 = 4 then ⟨2, 1 + digitI n 8 1, 0, 0, ⟨0, 0, 0⟩⟩
  else if digitI n 8 0 = 5 then ⟨3, 1 + digitI n 8 1, 1 + digitI n 4 3, 1 + digitI n 2 9, ⟨0, 0, 0⟩⟩
  else if digitI n 8 0 = 6 then ⟨4, 0, 0, 1 + digitI n 2 9, ruleI (indexI n 1099511627776 / 64)⟩
  else ⟨1, 1 + digitI n 12 1, 1, 0, ⟨0, 0, 0⟩⟩
theorem indexI_bd (n k : Int) (hk : 1 ≤ k) : 0 ≤ indexI n k ∧ indexI n k < k := by
  unfold indexI
  rw [if_neg zo]
  exact ⟨Int.emod_nonneg _ zo, Int.emod_lt_of_pos _ zo⟩
theorem kit_Change (n : Int) : AM.Fn Tryz.prog 84 [.i n] (chV (changeI n)) := by
  have d1 := digitB n 8 1 zd
  have d2 := digitB n 4 3 zd
  have d3 := digitB n 2 9 zd
  have d4 := digitB n 12 1 zd
  have d5 := indexI_bd n 1099511627776 zd
  (refine spec_of_runs Tryz.func84 rfl ?_; simp only [Tryz.f84]; refine ys ?_)
  repeat' (first | refine yw ?_ | ((with_reducible refine Runs.is ?_); first | refine Runs.region ?_ | ((with_reducible refine Runs.isC ?_); refine Runs.cond rfl (zc ?_) (zc ?_) <;> intro hc <;> (try (first | contradiction | (exfalso; omega; done) | (have : hc = trivial := rfl; clear this; clear hc))))) | ((with_reducible refine r_is ?_); first | refine yr ?_ | (refine r_fn rfl (kit_Digit n 8 1 zd zd) HbF.h zL3 zD ?_; refine r_nn zN zH ?_) | (refine r_fn rfl (kit_Digit n 8 0 zd zd) HbF.h zL3 zD ?_; refine r_nn zN zH ?_) | (refine r_fn rfl (kit_Digit n 4 3 zd zd) HbF.h zL3 zD ?_; refine r_nn zN zH ?_) | (refine r_fn rfl (kit_Digit n 2 9 zd zd) HbF.h zL3 zD ?_; refine r_nn zN zH ?_) | (refine r_fn rfl (kit_Digit n 12 1 zd zd) HbF.h zL3 zD ?_; refine r_nn zN zH ?_) | (refine r_fn rfl (kit_Index n 1099511627776 zd) HbF.h zL2 zD ?_; refine r_nn zN zH ?_) | (refine r_fn rfl (kit_Rule (indexI n 1099511627776 / 64)) HbF.h zL1 zD ?_; refine r_nn zN zH ?_)) | fail)
  all_goals ((refine Runs.retC Tryz.func84 rfl zM rfl TyF.h (And.intro zE zd) zD ?_; try exact zX))
  all_goals (unfold changeI; repeat (first | rw [if_pos zo] | rw [if_neg zo]))
  all_goals (exact V.Le.refl _)
def extra (l : List Int) (at' : Int) : Bool := decide (digitI (atI l at') 2 12 = 1) && (decide ((changeI (atI l (at' + 1))).kind ≠ (changeI (atI l at')).kind) || decide ((changeI (atI l (at' + 1))).server ≠ (changeI (atI l at')).server))
def propI (l : List Int) (a i at' : Int) : Proposal := ⟨201 + a, i + 1, changeI (atI l at') :: if extra l at' then [changeI (atI l (at' + 1))] else []⟩
def groupI (l : List Int) (a at' : Int) (n : Nat) : Config := (List.range n).map fun i : Nat => propI l a i (at' + 2 * i)
def cntI (l : List Int) (a : Int) : Nat := (digitI (atI l a) 4 0).toNat
def poolI (l : List Int) : Config := groupI l 0 3 (cntI l 0) ++ groupI l 1 (3 + 2 * cntI l 0) (cntI l 1) ++ groupI l 2 (3 + 2 * cntI l 0 + 2 * cntI l 1) (cntI l 2)
theorem groupI_succ (l : List Int) (a at' : Int) (n : Nat) : groupI l a at' (n + 1) = groupI l a at' n ++ [propI l a n (at' + 2 * n)] := by
  simp [groupI, List.range_succ]
theorem cntI_bd (l : List Int) (a : Int) : (cntI l a : Int) = digitI (atI l a) 4 0 ∧ cntI l a < 4 := by
  have := digitB (atI l a) 4 0 zd
  unfold cntI; omega
def poolUpto (l : List Int) : Nat → Config × Int
  | 0 => ([], 3)
  | a + 1 => ((poolUpto l a).1 ++ groupI l a (poolUpto l a).2 (cntI l a), (poolUpto l a).2 + 2 * cntI l a)
theorem poolUpto_bd (l : List Int) (a : Nat) : 3 ≤ (poolUpto l a).2 ∧ (poolUpto l a).2 ≤ 3 + 6 * a ∧ (poolUpto l a).1.length ≤ 3 * a := by
  induction a with
  | zero => simp [poolUpto]
  | succ a ih =>
    have h := (cntI_bd l a).2
    simp only [poolUpto, List.length_append, groupI, List.length_map, List.length_range]
    omega
end Go.Proofs
namespace Go.Proofs
open Go.AM
attribute [local irreducible] AM.evalR AM.evalD AM.Runs AM.valK AM.dK AM.opK AM.stepR AM.CallS AM.St.Le
def gmI (n : Int) (k : Nat) : Member := ⟨(k : Int) + 1, 1 + digitI n 3 (6 + k)⟩
def genesisI (n : Int) : View := ⟨(List.range ((digitI n 5 4).toNat + 1)).map (gmI n), ruleI n⟩
theorem kit_Genesis (n : Int) : AM.Fn Tryz.prog 27 [.i n] (viV (genesisI n)) := by
  have d5 := digitB n 5 4 zd
  unfold genesisI
  (refine spec_of_runs Tryz.func27 rfl ?_; simp only [Tryz.f27]; refine ys ?_)
  repeat' (first | refine yw ?_ | ((with_reducible refine Runs.is ?_); first | refine Runs.region (id := 0) ?_ | refine Runs.region (id := 1) ?_ | refine Runs.region (id := 2) ?_ | ((with_reducible refine Runs.isC ?_); refine Runs.cond rfl (zc ?_) (zc ?_) <;> intro hc <;> (try (first | contradiction | (exfalso; omega; done) | (have : hc = trivial := rfl; clear this; clear hc))))) | ((with_reducible refine r_is ?_); first | refine yr ?_ | (refine r_fn rfl (kit_Rule n) HbF.h zL1 zD ?_; refine r_nn zN zH ?_)) | fail)
  refine Runs.weaken (St.Le.nilVar 25 3 0 87 2 zd rfl rfl rfl) ?_
  refine Runs.loopI (fun k : Nat => (digitI n 5 4).toNat + 1 - k) (fun k => k ≤ (digitI n 5 4).toNat + 1)
    (fun k => ⟨[.i n, .any, .ptr 2 0 0, .ptr 3 0 0, .i (k : Nat), .any, .any, .any, .any, .any, .any, .any, .any, .any, .any, .any, .any, .any, .any, .any, .any, .any, .any, .any, .any, .any, .any, .any], [(25, .lst 87 2 (((List.range k).map (gmI n)).map mbV)), (3, .var 26 (.agg [.own 25, .i (ruleI n).kind, .i (ruleI n).columns, .i (ruleI n).faulty])), (2, .var 26 (.agg [.sc (.slice none 0 0), .i 0, .i 0, .i 0]))]⟩) 0 (by simp) ?_ ?_
  · (refine St.Le.clean zR zU zV)
  rintro k hk ih
  have hl1 : ((List.range k).map (gmI n)).length ≤ 6 := by rw [List.length_map, List.length_range]; omega
  have hst : (List.range (k + 1)).map (gmI n) = (List.range k).map (gmI n) ++ [⟨(k : Int) + 1, 1 + digitI n 3 (6 + k)⟩] := by rw [List.range_succ, List.map_append]; rfl
  have d3 := digitB n 3 (6 + k) zd
  have hD := kit_Digit n 3 (6 + k) zd zo
  by_cases hlt : (k : Int) ≤ digitI n 5 4
  · generalize (List.range k).map (gmI n) = acc at hl1 hst ⊢
    repeat' (first | refine yw ?_ | ((with_reducible refine Runs.is ?_); first | refine Runs.region (id := 3) ?_ | ((with_reducible refine Runs.isC ?_); refine Runs.cond rfl (zc ?_) (zc ?_) <;> intro hc <;> (try (first | contradiction | (exfalso; omega; done) | (have : hc = trivial := rfl; clear this; clear hc))))) | ((with_reducible refine r_is ?_); first | refine yr ?_ | (refine r_fn rfl (kit_Digit n 5 4 zd zd) HbF.h zL3 zD ?_; refine r_nn zN zH ?_)) | fail)
    refine Runs.drawnT [] 11 mixed zK zd ?_
    dsimp only [List.take, List.drop]
    repeat' (first | (with_reducible refine And.intro (by intro a i h; cases h) ?_) | refine yw ?_ | ((with_reducible refine Runs.is ?_); first | (refine Runs.drawnT (id := 5) [] 11 mixed zK (by decide +kernel) ?_; dsimp only [List.take, List.drop]) | refine Runs.drawn (id := 5) mixed zK ?_ | ((with_reducible refine Runs.isC ?_); refine Runs.cond rfl (zc ?_) (zc ?_) <;> intro hc <;> (try (first | contradiction | (exfalso; omega; done) | (have : hc = trivial := rfl; clear this; clear hc))))) | ((with_reducible refine r_is ?_); first | refine yr ?_ | (refine r_append_full SlF.h SlF.s ZoF.h zd rfl rfl zC zJ zS rfl (fun hn => ?_) (fun hn => ?_) <;> refine r_nn zN zH ?_)) | ((with_reducible refine d_is ?_); first | refine yd ?_ | (refine d_fn rfl (hD) HbF.h zL3 zD ?_; refine d_nn zN zH ?_)) | fail)
    refine And.intro (by intro a i h; cases h) ?_
    refine yr ?_
    repeat' (first | refine yw ?_ | ((with_reducible refine Runs.is ?_); first | refine Runs.region (id := 4) ?_ | ((with_reducible refine Runs.isC ?_); refine Runs.cond rfl (zc ?_) (zc ?_) <;> intro hc <;> (try (first | contradiction | (exfalso; omega; done) | (have : hc = trivial := rfl; clear this; clear hc))))) | ((with_reducible refine r_is ?_); first | refine yr ?_) | fail)
    refine ih (k + 1) _ zo zo ?_
    rw [hst]
    (refine St.Le.clean zR (by first | (simp [V.usesL, V.uses, AM.look_cons]; done) | (simp [V.usesL, V.uses, AM.look_cons, V.usesL_data, V.uses_data, da_i, da_chV, da_ruV, da_prV, da_enV, da_cfV, da_veV, da_inV, da_edV, da_grV, da_weV, da_mbV, da_suV, da_viV]; done)) ?_; (repeat' (first | exact True.intro | refine And.intro ?_ ?_)); all_goals (first | rfl | (simp [AM.look_cons, mbV]; done) | (simp [V.uses, V.usesL, AM.look_cons, V.usesL_data, V.uses_data, da_i, da_chV, da_ruV, da_prV, da_enV, da_cfV, da_veV, da_inV, da_edV, da_grV, da_weV, da_mbV, da_suV, da_viV]; done)))
  · obtain rfl : k = (digitI n 5 4).toNat + 1 := by omega
    clear ih hst
    generalize (List.range ((digitI n 5 4).toNat + 1)).map (gmI n) = L at hl1 ⊢
    repeat' (first | refine yw ?_ | ((with_reducible refine Runs.is ?_); first | refine Runs.region (id := 3) ?_ | ((with_reducible refine Runs.isC ?_); refine Runs.cond rfl (zc ?_) (zc ?_) <;> intro hc <;> (try (first | contradiction | (exfalso; omega; done) | (have : hc = trivial := rfl; clear this; clear hc))))) | ((with_reducible refine r_is ?_); first | refine yr ?_ | (refine r_fn rfl (kit_Digit n 5 4 zd zd) HbF.h zL3 zD ?_; refine r_nn zN zH ?_)) | fail)
    repeat' (first | refine yw ?_ | ((with_reducible refine Runs.is ?_); first | refine Runs.region (id := 6) ?_ | ((with_reducible refine Runs.isC ?_); refine Runs.cond rfl (zc ?_) (zc ?_) <;> intro hc <;> (try (first | contradiction | (exfalso; omega; done) | (have : hc = trivial := rfl; clear this; clear hc))))) | ((with_reducible refine r_is ?_); first | refine yr ?_) | fail)
    (refine Runs.weaken (St.Le.freeze_lst 25 rfl) ?_; refine yf ?_)
    (refine Runs.retC Tryz.func27 rfl zM rfl TyF.h (And.intro zE zd) zD ?_; try exact zX)
end Go.Proofs
namespace Go.Proofs
open Go.AM
attribute [local irreducible] AM.evalR AM.evalD AM.Runs AM.valK AM.dK AM.opK AM.stepR AM.CallS AM.St.Le
def weighStep (w : WeightEntry) (s : List WeightEntry × Bool) (x : WeightEntry) : List WeightEntry × Bool :=
  if x.server = w.server then (s.1 ++ [if laterB w x = true then w else x], true)
  else if s.2 = false ∧ w.server < x.server then (s.1 ++ [w, x], true) else (s.1 ++ [x], s.2)
def weighR (l : List WeightEntry) (w : WeightEntry) : List WeightEntry := let s := l.foldl (weighStep w) ([], false); if s.2 = false then s.1 ++ [w] else s.1
theorem weighStep_len (w : WeightEntry) (s : List WeightEntry × Bool) (x : WeightEntry) : (weighStep w s x).1.length ≤ s.1.length + 2 := by
  unfold weighStep
  split
  · simp
  · split <;> simp
theorem weighFold_len (w : WeightEntry) (l : List WeightEntry) (k : Nat) (hk : k ≤ l.length) : ((l.take k).foldl (weighStep w) ([], false)).1.length ≤ 2 * k := by
  induction k with
  | zero => simp
  | succ k ih =>
    rw [foldl_take zo]
    have := ih zo
    have := weighStep_len w ((l.take k).foldl (weighStep w) ([], false)) (l.getD k default)
    omega
theorem weighStep_a {w x : WeightEntry} {acc : List WeightEntry} {put : Bool} (h1 : x.server = w.server) (h2 : laterB w x = true) : weighStep w (acc, put) x = (acc ++ [w], true) := by simp [weighStep, h1, h2]
theorem weighStep_b {w x : WeightEntry} {acc : List WeightEntry} {put : Bool} (h1 : x.server = w.server) (h2 : laterB w x = false) : weighStep w (acc, put) x = (acc ++ [x], true) := by simp [weighStep, h1, h2]
theorem weighStep_c {w x : WeightEntry} {acc : List WeightEntry} (h1 : ¬ x.server = w.server) (h2 : w.server < x.server) : weighStep w (acc, false) x = (acc ++ [w, x], true) := by simp [weighStep, h1, h2]
theorem weighStep_d {w x : WeightEntry} {acc : List WeightEntry} (h1 : ¬ x.server = w.server) (h2 : ¬ w.server < x.server) : weighStep w (acc, false) x = (acc ++ [x], false) := by simp [weighStep, h1, h2]
theorem weighStep_e {w x : WeightEntry} {acc : List WeightEntry} (h1 : ¬ x.server = w.server) : weighStep w (acc, true) x = (acc ++ [x], true) := by simp [weighStep, h1]
theorem ref_Weigh (f : Bool) (l : List WeightEntry) (w : WeightEntry) (hl : l.length ≤ 1000000) : AM.Fn Tryz.prog 219 [.sl f (l.map weV), weV w] (.sl false ((weighR l w).map weV)) := by
  (refine spec_of_runs Tryz.func219 rfl ?_; simp only [Tryz.f219]; refine ys ?_)
  repeat' (first | refine yw ?_ | ((with_reducible refine Runs.is ?_); first | refine Runs.region (id := 0) ?_ | refine Runs.region (id := 1) ?_ | refine Runs.region (id := 2) ?_ | refine Runs.region (id := 3) ?_ | ((with_reducible refine Runs.isC ?_); refine Runs.cond rfl (zc ?_) (zc ?_) <;> intro hc <;> (try (first | contradiction | (exfalso; omega; done) | (have : hc = trivial := rfl; clear this; clear hc))))) | ((with_reducible refine r_is ?_); first | refine yr ?_) | fail)
  (refine Runs.weaken (St.Le.nil 5 241 5 5 zd rfl rfl zE) ?_)
  refine Runs.loopI (fun k : Nat => l.length - k) (fun k => k ≤ l.length)
    (fun k => ⟨[.sl f (l.map weV), .any, .any, .ptr 3 0 0, .any, .own 5, .b ((l.take k).foldl (weighStep w) ([], false)).2, .i (k : Nat), .any, .any, .any, .any, .any, .any, .any, .any, .any, .any, .any, .any, .any, .any, .any, .any, .any, .any, .any, .any, .any, .any, .any, .any, .any, .any, .any, .any, .any, .any, .any, .any, .any, .any, .any, .any, .any, .any, .any, .any, .any, .any, .any, .any, .any, .any, .any, .any, .any, .any, .any, .any, .any, .any, .any, .any, .any, .any, .any, .any, .any, .any, .any, .any, .any, .any, .any, .any, .any, .any, .any, .any, .any, .any, .any, .any, .any, .any], [(5, .lst 241 5 (((l.take k).foldl (weighStep w) ([], false)).1.map weV)), (3, .var 241 (weV w))]⟩) 0 (by simp) ?_ ?_
  · (refine St.Le.clean zR zU zV)
  rintro k hk ih
  have hst := fun (h : k < l.length) => foldl_take (g := weighStep w) (s := ([], false)) h
  have hend : l.length ≤ k → weighR l w = (if ((l.take k).foldl (weighStep w) ([], false)).2 = false then ((l.take k).foldl (weighStep w) ([], false)).1 ++ [w] else ((l.take k).foldl (weighStep w) ([], false)).1) := fun h => by rw [List.take_of_length_le h]; rfl
  have hlen := weighFold_len w l k hk
  generalize (l.take k).foldl (weighStep w) ([], false) = s at hst hend hlen ⊢
  obtain ⟨acc, put⟩ := s
  dsimp only at hst hend hlen ⊢
  by_cases hlt : k < l.length
  · have hst2 := hst hlt
    have hL := ref_later w (l.getD k default)
    cases put
    · repeat' (first | refine yw ?_ | ((with_reducible refine Runs.is ?_); first | refine Runs.region (id := 4) ?_ | refine Runs.drawn (id := 7) mixed zK ?_ | refine Runs.region (id := 8) ?_ | refine Runs.region (id := 9) ?_ | refine Runs.drawn (id := 10) mixed zK ?_ | refine Runs.region (id := 11) ?_ | refine Runs.region (id := 12) ?_ | refine Runs.drawn (id := 13) mixed zK ?_ | refine Runs.region (id := 6) ?_ | refine Runs.region (id := 5) ?_ | ((with_reducible refine Runs.isC ?_); refine Runs.cond rfl (zc ?_) (zc ?_) <;> intro hc <;> (try (first | contradiction | (exfalso; omega; done) | (have : hc = trivial := rfl; clear this; clear hc))))) | ((with_reducible refine r_is ?_); first | refine yr ?_ | (refine r_append_full SlF.h SlF.s ZoF.h zd rfl rfl zC zJ zS rfl (fun hn => ?_) (fun hn => ?_) <;> refine r_nn zN zH ?_)) | ((with_reducible refine d_is ?_); first | refine yd ?_ | (refine d_fn rfl (hL) HbF.h zL2 zD ?_; refine d_nn zN zH ?_) | ((with_reducible refine d_gd ?_); (first | refine d_guardPt rfl rfl ?_ ?_ | refine d_guardNt rfl rfl ?_ ?_ | refine d_guard rfl rfl ?_ ?_) <;> intro hG <;> (try (exfalso; omega; done)) <;> refine d_nn zN zH ?_)) | fail)
      · refine ih (k + 1) _ zo zo ?_
        rw [hst2, weighStep_a (by assumption) (by assumption)]
        (refine St.Le.clean zR zU zV)
      · refine ih (k + 1) _ zo zo ?_
        rw [hst2, weighStep_b (by assumption) (by assumption)]
        (refine St.Le.clean zR zU zV)
      · refine Runs.drawnT [] 7 mixed zK zd ?_
        dsimp only [List.take, List.drop]
        repeat' (first | (with_reducible refine And.intro (by intro a i h; cases h) ?_) | refine yw ?_ | ((with_reducible refine Runs.is ?_); first | (refine Runs.drawnT (id := 14) [] 7 mixed zK (by decide +kernel) ?_; dsimp only [List.take, List.drop]) | refine Runs.drawn (id := 14) mixed zK ?_ | ((with_reducible refine Runs.isC ?_); refine Runs.cond rfl (zc ?_) (zc ?_) <;> intro hc <;> (try (first | contradiction | (exfalso; omega; done) | (have : hc = trivial := rfl; clear this; clear hc))))) | ((with_reducible refine r_is ?_); first | refine yr ?_ | (refine r_append_full SlF.h SlF.s ZoF.h zd rfl rfl zC zJ zS rfl (fun hn => ?_) (fun hn => ?_) <;> refine r_nn zN zH ?_)) | ((with_reducible refine d_is ?_); first | refine yd ?_) | fail)
        refine And.intro (by intro a i h; cases h) ?_
        refine yr ?_
        repeat' (first | refine yw ?_ | ((with_reducible refine Runs.is ?_); first | refine Runs.region (id := 15) ?_ | ((with_reducible refine Runs.isC ?_); refine Runs.cond rfl (zc ?_) (zc ?_) <;> intro hc <;> (try (first | contradiction | (exfalso; omega; done) | (have : hc = trivial := rfl; clear this; clear hc))))) | ((with_reducible refine r_is ?_); first | refine yr ?_) | fail)
        repeat' (first | refine yw ?_ | ((with_reducible refine Runs.is ?_); first | refine Runs.region (id := 5) ?_ | ((with_reducible refine Runs.isC ?_); refine Runs.cond rfl (zc ?_) (zc ?_) <;> intro hc <;> (try (first | contradiction | (exfalso; omega; done) | (have : hc = trivial := rfl; clear this; clear hc))))) | ((with_reducible refine r_is ?_); first | refine yr ?_) | fail)
        refine ih (k + 1) _ zo zo ?_
        rw [hst2, weighStep_c (by assumption) (by assumption)]
        (refine St.Le.clean zR zU zV)
      · repeat' (first | refine yw ?_ | ((with_reducible refine Runs.is ?_); first | refine Runs.region (id := 6) ?_ | refine Runs.region (id := 5) ?_ | ((with_reducible refine Runs.isC ?_); refine Runs.cond rfl (zc ?_) (zc ?_) <;> intro hc <;> (try (first | contradiction | (exfalso; omega; done) | (have : hc = trivial := rfl; clear this; clear hc))))) | ((with_reducible refine r_is ?_); first | refine yr ?_ | (refine r_append_full SlF.h SlF.s ZoF.h zd rfl rfl zC zJ zS rfl (fun hn => ?_) (fun hn => ?_) <;> refine r_nn zN zH ?_)) | fail)
        refine ih (k + 1) _ zo zo ?_
        rw [hst2, weighStep_d (by assumption) zo]
        (refine St.Le.clean zR zU zV)
    · repeat' (first | refine yw ?_ | ((with_reducible refine Runs.is ?_); first | refine Runs.region (id := 4) ?_ | refine Runs.drawn (id := 7) mixed zK ?_ | refine Runs.region (id := 8) ?_ | refine Runs.region (id := 9) ?_ | refine Runs.drawn (id := 10) mixed zK ?_ | refine Runs.region (id := 11) ?_ | refine Runs.region (id := 12) ?_ | refine Runs.drawn (id := 13) mixed zK ?_ | refine Runs.region (id := 6) ?_ | refine Runs.region (id := 5) ?_ | ((with_reducible refine Runs.isC ?_); refine Runs.cond rfl (zc ?_) (zc ?_) <;> intro hc <;> (try (first | contradiction | (exfalso; omega; done) | (have : hc = trivial := rfl; clear this; clear hc))))) | ((with_reducible refine r_is ?_); first | refine yr ?_ | (refine r_append_full SlF.h SlF.s ZoF.h zd rfl rfl zC zJ zS rfl (fun hn => ?_) (fun hn => ?_) <;> refine r_nn zN zH ?_)) | ((with_reducible refine d_is ?_); first | refine yd ?_ | (refine d_fn rfl (hL) HbF.h zL2 zD ?_; refine d_nn zN zH ?_) | ((with_reducible refine d_gd ?_); (first | refine d_guardPt rfl rfl ?_ ?_ | refine d_guardNt rfl rfl ?_ ?_ | refine d_guard rfl rfl ?_ ?_) <;> intro hG <;> (try (exfalso; omega; done)) <;> refine d_nn zN zH ?_)) | fail)
      · refine ih (k + 1) _ zo zo ?_
        rw [hst2, weighStep_a (by assumption) (by assumption)]
        (refine St.Le.clean zR zU zV)
      · refine ih (k + 1) _ zo zo ?_
        rw [hst2, weighStep_b (by assumption) (by assumption)]
        (refine St.Le.clean zR zU zV)
      · repeat' (first | refine yw ?_ | ((with_reducible refine Runs.is ?_); first | refine Runs.region (id := 6) ?_ | refine Runs.region (id := 5) ?_ | ((with_reducible refine Runs.isC ?_); refine Runs.cond rfl (zc ?_) (zc ?_) <;> intro hc <;> (try (first | contradiction | (exfalso; omega; done) | (have : hc = trivial := rfl; clear this; clear hc))))) | ((with_reducible refine r_is ?_); first | refine yr ?_ | (refine r_append_full SlF.h SlF.s ZoF.h zd rfl rfl zC zJ zS rfl (fun hn => ?_) (fun hn => ?_) <;> refine r_nn zN zH ?_)) | fail)
        refine ih (k + 1) _ zo zo ?_
        rw [hst2, weighStep_e (by assumption)]
        (refine St.Le.clean zR zU zV)
  · rw [hend zo]
    cases put
    · repeat' (first | refine yw ?_ | ((with_reducible refine Runs.is ?_); first | refine Runs.region (id := 4) ?_ | ((with_reducible refine Runs.isC ?_); refine Runs.cond rfl (zc ?_) (zc ?_) <;> intro hc <;> (try (first | contradiction | (exfalso; omega; done) | (have : hc = trivial := rfl; clear this; clear hc))))) | ((with_reducible refine r_is ?_); first | refine yr ?_) | fail)
      repeat' (first | refine yw ?_ | ((with_reducible refine Runs.is ?_); first | refine Runs.region (id := 16) ?_ | refine Runs.region (id := 17) ?_ | refine Runs.region (id := 18) ?_ | ((with_reducible refine Runs.isC ?_); refine Runs.cond rfl (zc ?_) (zc ?_) <;> intro hc <;> (try (first | contradiction | (exfalso; omega; done) | (have : hc = trivial := rfl; clear this; clear hc))))) | ((with_reducible refine r_is ?_); first | refine yr ?_ | (refine r_append_full SlF.h SlF.s ZoF.h zd rfl rfl zC zJ zS rfl (fun hn => ?_) (fun hn => ?_) <;> refine r_nn zN zH ?_)) | fail)
      exact Runs.ret_frz Tryz.func219 rfl rfl rfl (by simp)
    · repeat' (first | refine yw ?_ | ((with_reducible refine Runs.is ?_); first | refine Runs.region (id := 4) ?_ | ((with_reducible refine Runs.isC ?_); refine Runs.cond rfl (zc ?_) (zc ?_) <;> intro hc <;> (try (first | contradiction | (exfalso; omega; done) | (have : hc = trivial := rfl; clear this; clear hc))))) | ((with_reducible refine r_is ?_); first | refine yr ?_) | fail)
      repeat' (first | refine yw ?_ | ((with_reducible refine Runs.is ?_); first | refine Runs.region (id := 16) ?_ | refine Runs.region (id := 17) ?_ | refine Runs.region (id := 18) ?_ | ((with_reducible refine Runs.isC ?_); refine Runs.cond rfl (zc ?_) (zc ?_) <;> intro hc <;> (try (first | contradiction | (exfalso; omega; done) | (have : hc = trivial := rfl; clear this; clear hc))))) | ((with_reducible refine r_is ?_); first | refine yr ?_ | (refine r_append_full SlF.h SlF.s ZoF.h zd rfl rfl zC zJ zS rfl (fun hn => ?_) (fun hn => ?_) <;> refine r_nn zN zH ?_)) | fail)
      exact Runs.ret_frz Tryz.func219 rfl rfl rfl (by simp)
end Go.Proofs
namespace Go.Proofs
open Go.AM
attribute [local irreducible] AM.evalR AM.evalD AM.Runs AM.valK AM.dK AM.opK AM.stepR AM.CallS AM.St.Le
theorem insFold_len1 (n : Int) (l : List Int) : ∀ (s : List Int × Bool) (m : Nat), s.1.length ≤ m + (if s.2 then 1 else 0) → (l.foldl (insStep n) s).1.length ≤ m + l.length + (if (l.foldl (insStep n) s).2 then 1 else 0) := by
  induction l with
  | nil => intro s m h; exact h
  | cons y l ih =>
    intro s m h
    have := ih (insStep n s y) (m + 1) (by
      obtain ⟨t, put⟩ := s
      cases put <;> unfold insStep <;> dsimp only at h ⊢ <;> split <;> split <;> simp at * <;> omega)
    rw [List.foldl_cons, List.length_cons]
    omega
theorem insR_len (l : List Int) (n : Int) : (insR l n).length ≤ l.length + 1 := by
  have h := insFold_len1 n l ([], false) 0 (by simp)
  unfold insR
  dsimp only
  split
  · rename_i h2; rw [h2] at h; simp at h ⊢; omega
  · rename_i h2; simp at h2; rw [h2] at h; simp at h ⊢; omega
theorem weighFold_len1 (w : WeightEntry) (l : List WeightEntry) : ∀ (s : List WeightEntry × Bool) (m : Nat), s.1.length ≤ m + (if s.2 then 1 else 0) → (l.foldl (weighStep w) s).1.length ≤ m + l.length + (if (l.foldl (weighStep w) s).2 then 1 else 0) := by
  induction l with
  | nil => intro s m h; exact h
  | cons y l ih =>
    intro s m h
    have := ih (weighStep w s y) (m + 1) (by
      obtain ⟨t, put⟩ := s
      cases put <;> unfold weighStep <;> dsimp only at h ⊢ <;> (repeat' split) <;> simp at * <;> omega)
    rw [List.foldl_cons, List.length_cons]
    omega
theorem weighR_len (l : List WeightEntry) (w : WeightEntry) : (weighR l w).length ≤ l.length + 1 := by
  have h := weighFold_len1 w l ([], false) 0 (by simp)
  unfold weighR
  dsimp only
  split
  · rename_i h2; rw [h2] at h; simp at h ⊢; omega
  · rename_i h2; simp at h2; rw [h2] at h; simp at h ⊢; omega
theorem foldl_len {α β : Type} {f : List α → β → List α} (hf : ∀ l x, (f l x).length ≤ l.length + 1) : ∀ (xs : List β) (l : List α), (xs.foldl f l).length ≤ l.length + xs.length
  | [], l => by simp
  | x :: xs, l => by
    have := foldl_len hf xs (f l x)
    have := hf l x
    rw [List.foldl_cons, List.length_cons]; omega
theorem ref_Initial (g : View) (hg : g.members.length ≤ 1000000) : AM.Fn Tryz.prog 174 [viV g] (suV (initS g)) := by
  obtain ⟨ms, r⟩ := g
  dsimp only at hg
  (refine spec_of_runs Tryz.func174 rfl ?_; simp only [Tryz.f174]; refine ys ?_)
  repeat' (first | refine yw ?_ | ((with_reducible refine Runs.is ?_); first | refine Runs.region (id := 0) ?_ | refine Runs.region (id := 1) ?_ | refine Runs.region (id := 2) ?_ | ((with_reducible refine Runs.isC ?_); refine Runs.cond rfl (zc ?_) (zc ?_) <;> intro hc <;> (try (first | contradiction | (exfalso; omega; done) | (have : hc = trivial := rfl; clear this; clear hc))))) | ((with_reducible refine r_is ?_); first | refine yr ?_) | fail)
  refine Runs.weaken (St.Le.nilVar 21 3 0 3 1 zd rfl rfl rfl) ?_
  refine Runs.weaken (St.Le.nilVar 31 3 2 241 5 zd rfl rfl rfl) ?_
  refine Runs.loopI (fun k : Nat => ms.length - k) (fun k => k ≤ ms.length)
    (fun k => ⟨[.any, .ptr 1 0 0, .ptr 2 0 0, .ptr 3 0 0, .i (k : Nat), .any, .any, .any, .any, .any, .any, .any, .any, .any, .any, .any, .any, .any, .any, .any, .any, .any, .any, .any, .any, .any, .any, .any, .any, .any, .any, .any, .any, .any, .any, .any, .any, .any, .any, .any, .any, .any, .any, .any, .any], [(31, .lst 241 5 (((ms.take k).map wOf).map weV)), (21, .lst 3 1 (((ms.take k).map (·.server)).map .i)), (3, .var 154 (.agg [.own 21, .sc (.slice none 0 0), .own 31, .i r.kind, .i r.columns, .i r.faulty, .i 0, .i 0, .i 0])), (2, .var 154 (.agg [.sc (.slice none 0 0), .sc (.slice none 0 0), .sc (.slice none 0 0), .i 0, .i 0, .i 0, .i 0, .i 0, .i 0])), (1, .var 26 (viV ⟨ms, r⟩))]⟩) 0 (by simp) ?_ ?_
  · (refine St.Le.clean zR zU zV)
  rintro k hk ih
  have hst := fun (h : k < ms.length) => take_getD (xs := ms) h
  have hl1 : ((ms.take k).map wOf).length ≤ 1000000 := by simp; omega
  have hl2 : ((ms.take k).map (·.server)).length ≤ 1000000 := by simp; omega
  by_cases hlt : k < ms.length
  · have hst2 := hst hlt
    repeat' (first | refine yw ?_ | ((with_reducible refine Runs.is ?_); first | refine Runs.region (id := 3) ?_ | ((with_reducible refine Runs.isC ?_); refine Runs.cond rfl (zc ?_) (zc ?_) <;> intro hc <;> (try (first | contradiction | (exfalso; omega; done) | (have : hc = trivial := rfl; clear this; clear hc))))) | ((with_reducible refine r_is ?_); first | refine yr ?_) | fail)
    refine Runs.drawnT [] 9 mixed zK (by decide +kernel) ?_
    dsimp only [List.take, List.drop]
    repeat' (first | (with_reducible refine And.intro (by intro a i h; cases h) ?_) | refine yw ?_ | ((with_reducible refine Runs.is ?_); first | (refine Runs.drawnT (id := 5) [] 9 mixed zK (by decide +kernel) ?_; dsimp only [List.take, List.drop]) | refine Runs.drawn (id := 5) mixed zK ?_ | ((with_reducible refine Runs.isC ?_); refine Runs.cond rfl (zc ?_) (zc ?_) <;> intro hc <;> (try (first | contradiction | (exfalso; omega; done) | (have : hc = trivial := rfl; clear this; clear hc))))) | ((with_reducible refine r_is ?_); first | refine yr ?_ | (refine r_append_full SlF.h SlF.s ZoF.h zd rfl rfl zC zJ zS rfl (fun hn => ?_) (fun hn => ?_) <;> refine r_nn zN zH ?_)) | ((with_reducible refine d_is ?_); first | refine yd ?_) | fail)
    refine And.intro (by intro a i h; cases h) ?_
    refine yr ?_
    refine Runs.drawnT [] 16 mixed zK (by decide +kernel) ?_
    dsimp only [List.take, List.drop]
    repeat' (first | (with_reducible refine And.intro (by intro a i h; cases h) ?_) | refine yw ?_ | ((with_reducible refine Runs.is ?_); first | (refine Runs.drawnT (id := 6) [] 16 mixed zK (by decide +kernel) ?_; dsimp only [List.take, List.drop]) | refine Runs.drawn (id := 6) mixed zK ?_ | ((with_reducible refine Runs.isC ?_); refine Runs.cond rfl (zc ?_) (zc ?_) <;> intro hc <;> (try (first | contradiction | (exfalso; omega; done) | (have : hc = trivial := rfl; clear this; clear hc))))) | ((with_reducible refine r_is ?_); first | refine yr ?_ | (refine r_append_full SlF.h SlF.s ZoF.h zd rfl rfl zC zJ zS rfl (fun hn => ?_) (fun hn => ?_) <;> refine r_nn zN zH ?_)) | ((with_reducible refine d_is ?_); first | refine yd ?_) | fail)
    refine And.intro (by intro a i h; cases h) ?_
    refine yr ?_
    repeat' (first | refine yw ?_ | ((with_reducible refine Runs.is ?_); first | refine Runs.region (id := 4) ?_ | ((with_reducible refine Runs.isC ?_); refine Runs.cond rfl (zc ?_) (zc ?_) <;> intro hc <;> (try (first | contradiction | (exfalso; omega; done) | (have : hc = trivial := rfl; clear this; clear hc))))) | ((with_reducible refine r_is ?_); first | refine yr ?_) | fail)
    refine ih (k + 1) _ zo zo ?_
    rw [hst2]
    (refine St.Le.clean zR (by first | (simp [V.usesL, V.uses, AM.look_cons]; done) | (simp [V.usesL, V.uses, AM.look_cons, V.usesL_data, V.uses_data, da_i, da_chV, da_ruV, da_prV, da_enV, da_cfV, da_veV, da_inV, da_edV, da_grV, da_weV, da_mbV, da_suV, da_viV]; done)) ?_; (repeat' (first | exact True.intro | refine And.intro ?_ ?_)); all_goals (first | rfl | (simp [AM.look_cons, weV, wOf]; done) | (simp [V.uses, V.usesL, AM.look_cons, V.usesL_data, V.uses_data, da_i, da_chV, da_ruV, da_prV, da_enV, da_cfV, da_veV, da_inV, da_edV, da_grV, da_weV, da_mbV, da_suV, da_viV]; done)))
  · have hk2 : k = ms.length := by omega
    subst hk2
    rw [List.take_length] at hl1 hl2 ⊢
    repeat' (first | refine yw ?_ | ((with_reducible refine Runs.is ?_); first | refine Runs.region (id := 3) ?_ | ((with_reducible refine Runs.isC ?_); refine Runs.cond rfl (zc ?_) (zc ?_) <;> intro hc <;> (try (first | contradiction | (exfalso; omega; done) | (have : hc = trivial := rfl; clear this; clear hc))))) | ((with_reducible refine r_is ?_); first | refine yr ?_) | fail)
    repeat' (first | refine yw ?_ | ((with_reducible refine Runs.is ?_); first | refine Runs.region (id := 7) ?_ | ((with_reducible refine Runs.isC ?_); refine Runs.cond rfl (zc ?_) (zc ?_) <;> intro hc <;> (try (first | contradiction | (exfalso; omega; done) | (have : hc = trivial := rfl; clear this; clear hc))))) | ((with_reducible refine r_is ?_); first | refine yr ?_) | fail)
    (refine Runs.weaken (St.Le.freeze_lst 21 rfl) ?_; refine yf ?_)
    (refine Runs.weaken (St.Le.freeze_lst 31 rfl) ?_; refine yf ?_)
    (refine Runs.retC Tryz.func174 rfl zM rfl TyF.h (And.intro zE zd) zD ?_; try exact zX)
end Go.Proofs
namespace Go.Proofs
open Go.AM
attribute [local irreducible] AM.evalR AM.evalD AM.Runs AM.valK AM.dK AM.opK AM.stepR AM.CallS AM.St.Le
def pickT (a b : Summary) : Summary := if b.rule ≠ ⟨0, 0, 0⟩ ∧ (a.rule = ⟨0, 0, 0⟩ ∨ laterB (originW b) (originW a) = true) then b else a
def joinT (a b : Summary) : Summary := ⟨b.joined.foldl insR a.joined, b.removed.foldl insR a.removed, b.weights.foldl weighR a.weights, (pickT a b).rule, (pickT a b).version, (pickT a b).admin, (pickT a b).number⟩
theorem ref_Join (a b : Summary) (ha : Short a 400000) (hb : Short b 400000) : AM.Fn Tryz.prog 175 [suV a, suV b] (suV (joinT a b)) := by
  obtain ⟨a1, a2, a3⟩ := ha
  obtain ⟨b1, b2, b3⟩ := hb
  have hL := ref_later (originW b) (originW a)
  have hgo : ∀ r, pickT a b = r → (⟨b.joined.foldl insR a.joined, b.removed.foldl insR a.removed, b.weights.foldl weighR a.weights, r.rule, r.version, r.admin, r.number⟩ : Summary) = joinT a b := fun r h => by subst h; rfl
  unfold pickT at hgo
  generalize joinT a b = res at *
  obtain ⟨J, R, W, ru, ver, adm, num⟩ := a
  obtain ⟨J', R', W', ru', ver', adm', num'⟩ := b
  unfold originW at hL hgo
  dsimp only at *
  (refine spec_of_runs Tryz.func175 rfl ?_; simp only [Tryz.f175]; refine ys ?_)
  repeat' (first | refine yw ?_ | ((with_reducible refine Runs.is ?_); first | refine Runs.region (id := 0) ?_ | refine Runs.region (id := 1) ?_ | refine Runs.region (id := 2) ?_ | ((with_reducible refine Runs.isC ?_); refine Runs.cond rfl (zc ?_) (zc ?_) <;> intro hc <;> (try (first | contradiction | (exfalso; omega; done) | (have : hc = trivial := rfl; clear this; clear hc))))) | ((with_reducible refine r_is ?_); first | refine yr ?_) | fail)
  refine Runs.loopI (fun k : Nat => J'.length - k) (fun k => k ≤ J'.length)
    (fun k => ⟨[.any, .any, .ptr 2 0 0, .ptr 3 0 0, .ptr 4 0 0, .ptr 5 0 0, .i (k : Nat), .any, .any, .any, .any, .any, .any, .any, .any, .any, .any, .any, .any, .any, .any, .any, .any, .any, .any, .any, .any, .any, .any, .any, .any, .any, .any, .any, .any, .any, .any, .any, .any, .any, .any, .any, .any, .any, .any, .any, .any, .any, .any, .any, .any, .any, .any, .any, .any, .any, .any, .any, .any, .any, .any, .any, .any, .any, .any, .any, .any, .any, .any, .any, .any, .any, .any, .any, .any, .any, .any, .any, .any, .any, .any, .any, .any, .any, .any, .any, .any, .any, .any, .any, .any, .any, .any, .any, .any, .any, .any, .any, .any, .any, .any, .any], [(5, .var 154 (suV ⟨(J'.take k).foldl insR J, R, W, ru, ver, adm, num⟩)), (4, .var 154 (.agg [.sc (.slice none 0 0), .sc (.slice none 0 0), .sc (.slice none 0 0), .i 0, .i 0, .i 0, .i 0, .i 0, .i 0])), (3, .var 154 (suV ⟨J', R', W', ru', ver', adm', num'⟩)), (2, .var 154 (suV ⟨J, R, W, ru, ver, adm, num⟩))]⟩) 0 (by simp) ?_ ?_
  · (refine St.Le.clean zR zU zV)
  rintro k hk ih
  have hst := fun (h : k < J'.length) => foldl_take (g := insR) (s := J) h
  have hend : J'.length ≤ k → (J'.take k).foldl insR J = J'.foldl insR J := fun h => by rw [List.take_of_length_le h]
  have hlen := foldl_len insR_len (J'.take k) J
  rw [List.length_take] at hlen
  generalize (J'.take k).foldl insR J = acc at hst hend hlen ⊢
  by_cases hlt : k < J'.length
  · have hst2 := hst hlt
    have hI := ref_Insert false acc (J'.getD k default) zo
    repeat' (first | refine yw ?_ | ((with_reducible refine Runs.is ?_); first | refine Runs.region (id := 3) ?_ | refine Runs.drawn (id := 5) mixed zK ?_ | refine Runs.region (id := 4) ?_ | ((with_reducible refine Runs.isC ?_); refine Runs.cond rfl (zc ?_) (zc ?_) <;> intro hc <;> (try (first | contradiction | (exfalso; omega; done) | (have : hc = trivial := rfl; clear this; clear hc))))) | ((with_reducible refine r_is ?_); first | refine yr ?_) | ((with_reducible refine d_is ?_); first | refine yd ?_ | (refine d_fn rfl (hI) HbF.h zL2 zD ?_; refine d_nn zN zH ?_)) | fail)
    refine ih (k + 1) _ zo zo ?_
    rw [hst2]
    (refine St.Le.clean zR (by first | (simp [V.usesL, V.uses, AM.look_cons]; done) | (simp [V.usesL, V.uses, AM.look_cons, V.usesL_data, V.uses_data, da_i, da_chV, da_ruV, da_prV, da_enV, da_cfV, da_veV, da_inV, da_edV, da_grV, da_weV, da_mbV, da_suV, da_viV]; done)) ?_; (repeat' (first | exact True.intro | refine And.intro ?_ ?_)); all_goals (first | rfl | (simp [AM.look_cons, suV]; done) | (simp [V.uses, V.usesL, AM.look_cons, V.usesL_data, V.uses_data, da_i, da_chV, da_ruV, da_prV, da_enV, da_cfV, da_veV, da_inV, da_edV, da_grV, da_weV, da_mbV, da_suV, da_viV]; done)))
  have he := hend zo
  subst he
  clear ih hst hend
  generalize J'.foldl insR J = res1 at hgo hlen ⊢
  repeat' (first | refine yw ?_ | ((with_reducible refine Runs.is ?_); first | refine Runs.region (id := 3) ?_ | ((with_reducible refine Runs.isC ?_); refine Runs.cond rfl (zc ?_) (zc ?_) <;> intro hc <;> (try (first | contradiction | (exfalso; omega; done) | (have : hc = trivial := rfl; clear this; clear hc))))) | ((with_reducible refine r_is ?_); first | refine yr ?_) | fail)
  repeat' (first | refine yw ?_ | ((with_reducible refine Runs.is ?_); first | refine Runs.region (id := 6) ?_ | ((with_reducible refine Runs.isC ?_); refine Runs.cond rfl (zc ?_) (zc ?_) <;> intro hc <;> (try (first | contradiction | (exfalso; omega; done) | (have : hc = trivial := rfl; clear this; clear hc))))) | ((with_reducible refine r_is ?_); first | refine yr ?_) | fail)
  refine Runs.loopI (fun k : Nat => R'.length - k) (fun k => k ≤ R'.length)
    (fun k => ⟨[.any, .any, .ptr 2 0 0, .ptr 3 0 0, .ptr 4 0 0, .ptr 5 0 0, .any, .i (k : Nat), .any, .any, .any, .any, .any, .any, .any, .any, .any, .any, .any, .any, .any, .any, .any, .any, .any, .any, .any, .any, .any, .any, .any, .any, .any, .any, .any, .any, .any, .any, .any, .any, .any, .any, .any, .any, .any, .any, .any, .any, .any, .any, .any, .any, .any, .any, .any, .any, .any, .any, .any, .any, .any, .any, .any, .any, .any, .any, .any, .any, .any, .any, .any, .any, .any, .any, .any, .any, .any, .any, .any, .any, .any, .any, .any, .any, .any, .any, .any, .any, .any, .any, .any, .any, .any, .any, .any, .any, .any, .any, .any, .any, .any, .any], [(5, .var 154 (suV ⟨res1, (R'.take k).foldl insR R, W, ru, ver, adm, num⟩)), (4, .var 154 (.agg [.sc (.slice none 0 0), .sc (.slice none 0 0), .sc (.slice none 0 0), .i 0, .i 0, .i 0, .i 0, .i 0, .i 0])), (3, .var 154 (suV ⟨J', R', W', ru', ver', adm', num'⟩)), (2, .var 154 (suV ⟨J, R, W, ru, ver, adm, num⟩))]⟩) 0 (by simp) ?_ ?_
  · (refine St.Le.clean zR zU zV)
  clear hc hk hlt hlen k
  rintro k hk ih
  have hst := fun (h : k < R'.length) => foldl_take (g := insR) (s := R) h
  have hend : R'.length ≤ k → (R'.take k).foldl insR R = R'.foldl insR R := fun h => by rw [List.take_of_length_le h]
  have hlen := foldl_len insR_len (R'.take k) R
  rw [List.length_take] at hlen
  generalize (R'.take k).foldl insR R = acc at hst hend hlen ⊢
  by_cases hlt : k < R'.length
  · have hst2 := hst hlt
    have hI := ref_Insert false acc (R'.getD k default) zo
    repeat' (first | refine yw ?_ | ((with_reducible refine Runs.is ?_); first | refine Runs.region (id := 7) ?_ | refine Runs.drawn (id := 9) mixed zK ?_ | refine Runs.region (id := 8) ?_ | ((with_reducible refine Runs.isC ?_); refine Runs.cond rfl (zc ?_) (zc ?_) <;> intro hc <;> (try (first | contradiction | (exfalso; omega; done) | (have : hc = trivial := rfl; clear this; clear hc))))) | ((with_reducible refine r_is ?_); first | refine yr ?_) | ((with_reducible refine d_is ?_); first | refine yd ?_ | (refine d_fn rfl (hI) HbF.h zL2 zD ?_; refine d_nn zN zH ?_)) | fail)
    refine ih (k + 1) _ zo zo ?_
    rw [hst2]
    (refine St.Le.clean zR (by first | (simp [V.usesL, V.uses, AM.look_cons]; done) | (simp [V.usesL, V.uses, AM.look_cons, V.usesL_data, V.uses_data, da_i, da_chV, da_ruV, da_prV, da_enV, da_cfV, da_veV, da_inV, da_edV, da_grV, da_weV, da_mbV, da_suV, da_viV]; done)) ?_; (repeat' (first | exact True.intro | refine And.intro ?_ ?_)); all_goals (first | rfl | (simp [AM.look_cons, suV]; done) | (simp [V.uses, V.usesL, AM.look_cons, V.usesL_data, V.uses_data, da_i, da_chV, da_ruV, da_prV, da_enV, da_cfV, da_veV, da_inV, da_edV, da_grV, da_weV, da_mbV, da_suV, da_viV]; done)))
  have he := hend zo
  subst he
  clear ih hst hend
  generalize R'.foldl insR R = res2 at hgo hlen ⊢
  repeat' (first | refine yw ?_ | ((with_reducible refine Runs.is ?_); first | refine Runs.region (id := 7) ?_ | ((with_reducible refine Runs.isC ?_); refine Runs.cond rfl (zc ?_) (zc ?_) <;> intro hc <;> (try (first | contradiction | (exfalso; omega; done) | (have : hc = trivial := rfl; clear this; clear hc))))) | ((with_reducible refine r_is ?_); first | refine yr ?_) | fail)
  repeat' (first | refine yw ?_ | ((with_reducible refine Runs.is ?_); first | refine Runs.region (id := 10) ?_ | ((with_reducible refine Runs.isC ?_); refine Runs.cond rfl (zc ?_) (zc ?_) <;> intro hc <;> (try (first | contradiction | (exfalso; omega; done) | (have : hc = trivial := rfl; clear this; clear hc))))) | ((with_reducible refine r_is ?_); first | refine yr ?_) | fail)
  refine Runs.loopI (fun k : Nat => W'.length - k) (fun k => k ≤ W'.length)
    (fun k => ⟨[.any, .any, .ptr 2 0 0, .ptr 3 0 0, .ptr 4 0 0, .ptr 5 0 0, .any, .any, .i (k : Nat), .any, .any, .any, .any, .any, .any, .any, .any, .any, .any, .any, .any, .any, .any, .any, .any, .any, .any, .any, .any, .any, .any, .any, .any, .any, .any, .any, .any, .any, .any, .any, .any, .any, .any, .any, .any, .any, .any, .any, .any, .any, .any, .any, .any, .any, .any, .any, .any, .any, .any, .any, .any, .any, .any, .any, .any, .any, .any, .any, .any, .any, .any, .any, .any, .any, .any, .any, .any, .any, .any, .any, .any, .any, .any, .any, .any, .any, .any, .any, .any, .any, .any, .any, .any, .any, .any, .any, .any, .any, .any, .any, .any, .any], [(5, .var 154 (suV ⟨res1, res2, (W'.take k).foldl weighR W, ru, ver, adm, num⟩)), (4, .var 154 (.agg [.sc (.slice none 0 0), .sc (.slice none 0 0), .sc (.slice none 0 0), .i 0, .i 0, .i 0, .i 0, .i 0, .i 0])), (3, .var 154 (suV ⟨J', R', W', ru', ver', adm', num'⟩)), (2, .var 154 (suV ⟨J, R, W, ru, ver, adm, num⟩))]⟩) 0 (by simp) ?_ ?_
  · (refine St.Le.clean zR zU zV)
  clear hc hk hlt hlen k
  rintro k hk ih
  have hst := fun (h : k < W'.length) => foldl_take (g := weighR) (s := W) h
  have hend : W'.length ≤ k → (W'.take k).foldl weighR W = W'.foldl weighR W := fun h => by rw [List.take_of_length_le h]
  have hlen := foldl_len weighR_len (W'.take k) W
  rw [List.length_take] at hlen
  generalize (W'.take k).foldl weighR W = acc at hst hend hlen ⊢
  by_cases hlt : k < W'.length
  · have hst2 := hst hlt
    have hI := ref_Weigh false acc (W'.getD k default) zo
    repeat' (first | refine yw ?_ | ((with_reducible refine Runs.is ?_); first | refine Runs.region (id := 11) ?_ | refine Runs.drawn (id := 13) mixed zK ?_ | refine Runs.region (id := 12) ?_ | ((with_reducible refine Runs.isC ?_); refine Runs.cond rfl (zc ?_) (zc ?_) <;> intro hc <;> (try (first | contradiction | (exfalso; omega; done) | (have : hc = trivial := rfl; clear this; clear hc))))) | ((with_reducible refine r_is ?_); first | refine yr ?_) | ((with_reducible refine d_is ?_); first | refine yd ?_ | (refine d_fn rfl (hI) HbF.h zL2 zD ?_; refine d_nn zN zH ?_)) | fail)
    refine ih (k + 1) _ zo zo ?_
    rw [hst2]
    (refine St.Le.clean zR (by first | (simp [V.usesL, V.uses, AM.look_cons]; done) | (simp [V.usesL, V.uses, AM.look_cons, V.usesL_data, V.uses_data, da_i, da_chV, da_ruV, da_prV, da_enV, da_cfV, da_veV, da_inV, da_edV, da_grV, da_weV, da_mbV, da_suV, da_viV]; done)) ?_; (repeat' (first | exact True.intro | refine And.intro ?_ ?_)); all_goals (first | rfl | (simp [AM.look_cons, suV]; done) | (simp [V.uses, V.usesL, AM.look_cons, V.usesL_data, V.uses_data, da_i, da_chV, da_ruV, da_prV, da_enV, da_cfV, da_veV, da_inV, da_edV, da_grV, da_weV, da_mbV, da_suV, da_viV]; done)))
  have he := hend zo
  subst he
  clear ih hst hend
  generalize W'.foldl weighR W = res3 at hgo hlen ⊢
  repeat' (first | refine yw ?_ | ((with_reducible refine Runs.is ?_); first | refine Runs.region (id := 11) ?_ | ((with_reducible refine Runs.isC ?_); refine Runs.cond rfl (zc ?_) (zc ?_) <;> intro hc <;> (try (first | contradiction | (exfalso; omega; done) | (have : hc = trivial := rfl; clear this; clear hc))))) | ((with_reducible refine r_is ?_); first | refine yr ?_) | fail)
  repeat' (first | refine yw ?_ | ((with_reducible refine Runs.is ?_); first | refine Runs.region (id := 14) ?_ | refine Runs.region (id := 15) ?_ | refine Runs.region (id := 16) ?_ | refine Runs.region (id := 17) ?_ | refine Runs.region (id := 18) ?_ | refine Runs.region (id := 19) ?_ | refine Runs.region (id := 20) ?_ | refine Runs.region (id := 21) ?_ | ((with_reducible refine Runs.isC ?_); refine Runs.cond rfl (zc ?_) (zc ?_) <;> intro hc <;> (try (first | contradiction | (exfalso; omega; done) | (have : hc = trivial := rfl; clear this; clear hc))))) | ((with_reducible refine r_is ?_); first | refine yr ?_ | (refine r_fn rfl (hL) HbF.h zL2 zD ?_; refine r_nn zN zH ?_) | ((with_reducible refine r_gd ?_); (first | refine r_guardPf rfl rfl ?_ ?_ | refine r_guardNf rfl rfl ?_ ?_ | refine r_guardPt rfl rfl ?_ ?_ | refine r_guardNt rfl rfl ?_ ?_ | refine r_guard rfl rfl ?_ ?_) <;> intro hG <;> (try (exfalso; omega; done)) <;> refine r_nn zN zH ?_)) | fail)
  · rename_i h1
    have hr := hgo _ (if_pos ⟨of_decide_eq_false (rz_n h1), .inr hc⟩)
    subst hr
    clear hgo hG h1 hc
    (refine Runs.retC Tryz.func175 rfl zM rfl TyF.h (And.intro zE zd) zD ?_; try exact zX)
  · have hr := hgo _ (if_neg (fun q => q.2.elim (of_decide_eq_false (rz_p hG)) (fun e => by rw [hc] at e; cases e)))
    subst hr
    clear hgo hG hc
    (refine Runs.retC Tryz.func175 rfl zM rfl TyF.h (And.intro zE zd) zD ?_; try exact zX)
  · rename_i h1
    have hr := hgo _ (if_pos ⟨of_decide_eq_false (rz_n h1), .inl (of_decide_eq_true (rz_p hG))⟩)
    subst hr
    clear hgo hG h1
    (refine Runs.retC Tryz.func175 rfl zM rfl TyF.h (And.intro zE zd) zD ?_; try exact zX)
  · have hr := hgo _ (if_neg (fun q => q.1 (of_decide_eq_true (rz_n hG))))
    subst hr
    clear hgo hG
    (refine Runs.retC Tryz.func175 rfl zM rfl TyF.h (And.intro zE zd) zD ?_; try exact zX)
end Go.Proofs
