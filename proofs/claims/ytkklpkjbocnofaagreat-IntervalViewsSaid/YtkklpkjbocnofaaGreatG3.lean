/- Contracts of functions and plain laws: W46, W47, W48, W49, W50, W63, W64, W19, W65, W66, W67. -/
import Derived.Test.YtkklpkjbocnofaaGreatG2
set_option linter.unusedVariables false
set_option linter.unusedSimpArgs false
set_option maxRecDepth 8000
set_option maxHeartbeats 4000000
set_option pp.deepTerms false
set_option pp.deepTerms.threshold 6
namespace Go.Proofs
open Go.AM
attribute [local irreducible] AM.evalR AM.evalD AM.Runs AM.valK AM.dK AM.opK AM.stepR AM.CallS AM.St.Le
def vAcc (R : List Int) (W : List WeightEntry) (l : List Int) : List Member := (l.filter fun x => !R.contains x).map fun x => ⟨x, weightIn W x 1⟩
theorem vAcc_snoc (R : List Int) (W : List WeightEntry) (l : List Int) (x : Int) : vAcc R W (l ++ [x]) = vAcc R W l ++ (if R.contains x = true then [] else [⟨x, weightIn W x 1⟩]) := by
  unfold vAcc
  rw [List.filter_append, List.map_append]
  congr 1
  by_cases h : x ∈ R <;> simp [h]
theorem vAcc_len (R : List Int) (W : List WeightEntry) (l : List Int) : (vAcc R W l).length ≤ l.length := by
  unfold vAcc; rw [List.length_map]; exact List.length_filter_le _ _
theorem member_View (s : Summary) (hs : s.joined.length ≤ 1000000) (hw0 : s.weights.length ≤ 1000000) : AM.Fn Tryz.prog 40 [suV s] (viV (viewS s)) := by
  obtain ⟨J, R, W, ru, ver, adm, num⟩ := s
  dsimp only at hs hw0
  (refine spec_of_runs Tryz.func40 rfl ?_; simp only [Tryz.f40]; refine ys ?_)
  repeat' (first | refine yw ?_ | ((with_reducible refine Runs.is ?_); first | refine Runs.region (id := 0) ?_ | refine Runs.region (id := 1) ?_ | refine Runs.region (id := 2) ?_ | refine Runs.region (id := 3) ?_ | refine Runs.region (id := 4) ?_ | ((with_reducible refine Runs.isC ?_); refine Runs.cond rfl (zc ?_) (zc ?_) <;> intro hc <;> (try (first | contradiction | (exfalso; omega; done) | (have : hc = trivial := rfl; clear this; clear hc))))) | ((with_reducible refine r_is ?_); first | refine yr ?_) | fail)
  · have hr : ru = ⟨0, 0, 0⟩ := hc
    clear hc
    subst hr
    rw [show viewS ⟨J, R, W, ⟨0, 0, 0⟩, ver, adm, num⟩ = ⟨vAcc R W J, ⟨1, 0, 0⟩⟩ from rfl]
    refine Runs.weaken (St.Le.nilVar 50 3 0 53 2 zd rfl rfl rfl) ?_
    refine Runs.loopI (fun k : Nat => J.length - k) (fun k => k ≤ J.length)
      (fun k => ⟨[.any, .ptr 1 0 0, .ptr 2 0 0, .ptr 3 0 0, .any, .any, .any, .any, .any, .any, .any, .any, .any, .any, .any, .any, .any, .any, .any, .sl false (J.map .i), .i (J.length : Nat), .i (k : Nat), .any, .any, .any, .any, .any, .any, .any, .any, .any, .any, .any, .any, .any, .any, .any, .any, .any, .any, .any, .any, .any, .any, .any, .any, .any, .any, .any, .any, .any, .any, .any, .any], [(50, .lst 53 2 ((vAcc R W (J.take k)).map mbV)), (3, .var 41 (.agg [.own 50, .i (⟨1, 0, 0⟩ : Rule).kind, .i (⟨1, 0, 0⟩ : Rule).columns, .i (⟨1, 0, 0⟩ : Rule).faulty])), (2, .var 41 (.agg [.sc (.slice none 0 0), .i 0, .i 0, .i 0])), (1, .var 78 (suV ⟨J, R, W, ⟨0, 0, 0⟩, ver, adm, num⟩))]⟩) 0 (by simp) ?_ ?_
    · (refine St.Le.clean zR zU zV)
    rintro k hk ih
    have hst := fun (h : k < J.length) => vAcc_snoc R W (J.take k) (J.getD k default)
    have htk := fun (h : k < J.length) => take_getD (xs := J) h
    have hend : J.length ≤ k → vAcc R W (J.take k) = vAcc R W J := fun h => by rw [List.take_of_length_le h]
    have hl : (vAcc R W (J.take k)).length ≤ 1000000 := by
      have := vAcc_len R W (J.take k)
      rw [List.length_take] at this; omega
    generalize vAcc R W (J.take k) = acc at hst hend hl ⊢
    repeat' (first | refine yw ?_ | ((with_reducible refine Runs.is ?_); first | refine Runs.region (id := 5) ?_ | refine Runs.region (id := 6) ?_ | refine Runs.region (id := 7) ?_ | refine Runs.region (id := 8) ?_ | refine Runs.region (id := 9) ?_ | ((with_reducible refine Runs.isC ?_); refine Runs.cond rfl (zc ?_) (zc ?_) <;> intro hc <;> (try (first | contradiction | (exfalso; omega; done) | (have : hc = trivial := rfl; clear this; clear hc))))) | ((with_reducible refine r_is ?_); first | refine yr ?_ | (refine r_fn rfl (contains_ints false _ _) HbF.h zL2 zD ?_; refine r_nn zN zH ?_)) | fail)
    · rename_i h0
      repeat' (first | refine yw ?_ | ((with_reducible refine Runs.is ?_); first | refine Runs.region (id := 16) ?_ | ((with_reducible refine Runs.isC ?_); refine Runs.cond rfl (zc ?_) (zc ?_) <;> intro hc <;> (try (first | contradiction | (exfalso; omega; done) | (have : hc = trivial := rfl; clear this; clear hc))))) | ((with_reducible refine r_is ?_); first | refine yr ?_) | fail)
      refine ih (k + 1) _ zo zo ?_
      rw [htk h0, hst h0, if_pos hc, List.append_nil]
      (refine St.Le.clean zR zU zV)
    · rename_i h0
      have hst2 := hst h0
      have htk2 := htk h0
      rw [if_neg (by rw [hc]; decide)] at hst2
      generalize J.getD k default = x at hst2 htk2 ⊢
      clear hst htk
      refine Runs.loopI (fun j : Nat => W.length - j) (fun j => j ≤ W.length)
        (fun j => ⟨[.any, .ptr 1 0 0, .ptr 2 0 0, .ptr 3 0 0, .any, .i x, .ptr 6 0 0, .any, .any, .any, .any, .any, .any, .any, .any, .any, .any, .any, .any, .sl false (J.map .i), .i (J.length : Nat), .i (k : Nat), .any, .any, .any, .any, .any, .any, .any, .any, .any, .any, .sl false (W.map weV), .i (W.length : Nat), .i (j : Nat), .any, .any, .any, .any, .any, .any, .any, .any, .any, .any, .any, .any, .any, .any, .any, .any, .any, .any, .any], [(6, .var 53 (mbV ⟨x, weightIn (W.take j) x 1⟩)), (50, .lst 53 2 (acc.map mbV)), (3, .var 41 (.agg [.own 50, .i (⟨1, 0, 0⟩ : Rule).kind, .i (⟨1, 0, 0⟩ : Rule).columns, .i (⟨1, 0, 0⟩ : Rule).faulty])), (2, .var 41 (.agg [.sc (.slice none 0 0), .i 0, .i 0, .i 0])), (1, .var 78 (suV ⟨J, R, W, ⟨0, 0, 0⟩, ver, adm, num⟩))]⟩) 0 (by simp) ?_ ?_
      · (refine St.Le.clean zR zU zV)
      rintro j hj ihj
      have hw := fun (h : j < W.length) => foldl_take (g := fun n (w : WeightEntry) => if w.server = x then w.weight else n) (s := (1 : Int)) h
      have hwe : W.length ≤ j → weightIn (W.take j) x 1 = weightIn W x 1 := fun h => by rw [List.take_of_length_le h]
      change j < W.length → weightIn (W.take (j + 1)) x 1 = (fun n (w : WeightEntry) => if w.server = x then w.weight else n) (weightIn (W.take j) x 1) (W.getD j default) at hw
      dsimp only at hw
      generalize weightIn (W.take j) x 1 = n at hw hwe ⊢
      repeat' (first | refine yw ?_ | ((with_reducible refine Runs.is ?_); first | refine Runs.region (id := 10) ?_ | refine Runs.region (id := 11) ?_ | refine Runs.region (id := 12) ?_ | refine Runs.region (id := 13) ?_ | ((with_reducible refine Runs.isC ?_); refine Runs.cond rfl (zc ?_) (zc ?_) <;> intro hc <;> (try (first | contradiction | (exfalso; omega; done) | (have : hc = trivial := rfl; clear this; clear hc))))) | ((with_reducible refine r_is ?_); first | refine yr ?_) | fail)
      · rename_i h1
        repeat' (first | refine yw ?_ | ((with_reducible refine Runs.is ?_); first | refine Runs.region (id := 14) ?_ | ((with_reducible refine Runs.isC ?_); refine Runs.cond rfl (zc ?_) (zc ?_) <;> intro hc <;> (try (first | contradiction | (exfalso; omega; done) | (have : hc = trivial := rfl; clear this; clear hc))))) | ((with_reducible refine r_is ?_); first | refine yr ?_) | fail)
        refine ihj (j + 1) _ zo zo ?_
        rw [hw h1, if_pos hc]
        (refine St.Le.clean zR zU zV)
      · rename_i h1
        repeat' (first | refine yw ?_ | ((with_reducible refine Runs.is ?_); first | refine Runs.region (id := 14) ?_ | ((with_reducible refine Runs.isC ?_); refine Runs.cond rfl (zc ?_) (zc ?_) <;> intro hc <;> (try (first | contradiction | (exfalso; omega; done) | (have : hc = trivial := rfl; clear this; clear hc))))) | ((with_reducible refine r_is ?_); first | refine yr ?_) | fail)
        refine ihj (j + 1) _ zo zo ?_
        rw [hw h1, if_neg hc]
        (refine St.Le.clean zR zU zV)
      · have := hwe zo
        subst this
        repeat' (first | refine yw ?_ | ((with_reducible refine Runs.is ?_); first | refine Runs.region (id := 15) ?_ | refine Runs.region (id := 16) ?_ | ((with_reducible refine Runs.isC ?_); refine Runs.cond rfl (zc ?_) (zc ?_) <;> intro hc <;> (try (first | contradiction | (exfalso; omega; done) | (have : hc = trivial := rfl; clear this; clear hc))))) | ((with_reducible refine r_is ?_); first | refine yr ?_ | (refine r_append_full SlF.h SlF.s ZoF.h zd rfl rfl zC zJ zS rfl (fun hn => ?_) (fun hn => ?_) <;> refine r_nn zN zH ?_)) | fail)
        refine ih (k + 1) _ zo zo ?_
        rw [htk2, hst2]
        (refine St.Le.clean zR zU zV)
    · have he := hend zo
      subst he
      repeat' (first | refine yw ?_ | ((with_reducible refine Runs.is ?_); first | refine Runs.region (id := 17) ?_ | ((with_reducible refine Runs.isC ?_); refine Runs.cond rfl (zc ?_) (zc ?_) <;> intro hc <;> (try (first | contradiction | (exfalso; omega; done) | (have : hc = trivial := rfl; clear this; clear hc))))) | ((with_reducible refine r_is ?_); first | refine yr ?_) | fail)
      (refine Runs.weaken (St.Le.freeze_lst 50 rfl) ?_; refine yf ?_)
      (refine Runs.retC Tryz.func40 rfl zM rfl TyF.h (And.intro zE zd) zD ?_; try exact zX)
  · have hr : ¬ ru = ⟨0, 0, 0⟩ := hc
    clear hc
    rw [show viewS ⟨J, R, W, ru, ver, adm, num⟩ = ⟨vAcc R W J, ru⟩ from by unfold viewS viewRule; rw [if_neg hr]; rfl]
    refine Runs.weaken (St.Le.nilVar 50 3 0 53 2 zd rfl rfl rfl) ?_
    refine Runs.loopI (fun k : Nat => J.length - k) (fun k => k ≤ J.length)
      (fun k => ⟨[.any, .ptr 1 0 0, .ptr 2 0 0, .ptr 3 0 0, .any, .any, .any, .any, .any, .any, .any, .any, .any, .any, .any, .any, .any, .any, .any, .sl false (J.map .i), .i (J.length : Nat), .i (k : Nat), .any, .any, .any, .any, .any, .any, .any, .any, .any, .any, .any, .any, .any, .any, .any, .any, .any, .any, .any, .any, .any, .any, .any, .any, .any, .any, .any, .any, .any, .any, .any, .any], [(50, .lst 53 2 ((vAcc R W (J.take k)).map mbV)), (3, .var 41 (.agg [.own 50, .i (ru : Rule).kind, .i (ru : Rule).columns, .i (ru : Rule).faulty])), (2, .var 41 (.agg [.sc (.slice none 0 0), .i 0, .i 0, .i 0])), (1, .var 78 (suV ⟨J, R, W, ru, ver, adm, num⟩))]⟩) 0 (by simp) ?_ ?_
    · (refine St.Le.clean zR zU zV)
    rintro k hk ih
    have hst := fun (h : k < J.length) => vAcc_snoc R W (J.take k) (J.getD k default)
    have htk := fun (h : k < J.length) => take_getD (xs := J) h
    have hend : J.length ≤ k → vAcc R W (J.take k) = vAcc R W J := fun h => by rw [List.take_of_length_le h]
    have hl : (vAcc R W (J.take k)).length ≤ 1000000 := by
      have := vAcc_len R W (J.take k)
      rw [List.length_take] at this; omega
    generalize vAcc R W (J.take k) = acc at hst hend hl ⊢
    repeat' (first | refine yw ?_ | ((with_reducible refine Runs.is ?_); first | refine Runs.region (id := 5) ?_ | refine Runs.region (id := 6) ?_ | refine Runs.region (id := 7) ?_ | refine Runs.region (id := 8) ?_ | refine Runs.region (id := 9) ?_ | ((with_reducible refine Runs.isC ?_); refine Runs.cond rfl (zc ?_) (zc ?_) <;> intro hc <;> (try (first | contradiction | (exfalso; omega; done) | (have : hc = trivial := rfl; clear this; clear hc))))) | ((with_reducible refine r_is ?_); first | refine yr ?_ | (refine r_fn rfl (contains_ints false _ _) HbF.h zL2 zD ?_; refine r_nn zN zH ?_)) | fail)
    · rename_i h0
      repeat' (first | refine yw ?_ | ((with_reducible refine Runs.is ?_); first | refine Runs.region (id := 16) ?_ | ((with_reducible refine Runs.isC ?_); refine Runs.cond rfl (zc ?_) (zc ?_) <;> intro hc <;> (try (first | contradiction | (exfalso; omega; done) | (have : hc = trivial := rfl; clear this; clear hc))))) | ((with_reducible refine r_is ?_); first | refine yr ?_) | fail)
      refine ih (k + 1) _ zo zo ?_
      rw [htk h0, hst h0, if_pos hc, List.append_nil]
      (refine St.Le.clean zR zU zV)
    · rename_i h0
      have hst2 := hst h0
      have htk2 := htk h0
      rw [if_neg (by rw [hc]; decide)] at hst2
      generalize J.getD k default = x at hst2 htk2 ⊢
      clear hst htk
      refine Runs.loopI (fun j : Nat => W.length - j) (fun j => j ≤ W.length)
        (fun j => ⟨[.any, .ptr 1 0 0, .ptr 2 0 0, .ptr 3 0 0, .any, .i x, .ptr 6 0 0, .any, .any, .any, .any, .any, .any, .any, .any, .any, .any, .any, .any, .sl false (J.map .i), .i (J.length : Nat), .i (k : Nat), .any, .any, .any, .any, .any, .any, .any, .any, .any, .any, .sl false (W.map weV), .i (W.length : Nat), .i (j : Nat), .any, .any, .any, .any, .any, .any, .any, .any, .any, .any, .any, .any, .any, .any, .any, .any, .any, .any, .any], [(6, .var 53 (mbV ⟨x, weightIn (W.take j) x 1⟩)), (50, .lst 53 2 (acc.map mbV)), (3, .var 41 (.agg [.own 50, .i (ru : Rule).kind, .i (ru : Rule).columns, .i (ru : Rule).faulty])), (2, .var 41 (.agg [.sc (.slice none 0 0), .i 0, .i 0, .i 0])), (1, .var 78 (suV ⟨J, R, W, ru, ver, adm, num⟩))]⟩) 0 (by simp) ?_ ?_
      · (refine St.Le.clean zR zU zV)
      rintro j hj ihj
      have hw := fun (h : j < W.length) => foldl_take (g := fun n (w : WeightEntry) => if w.server = x then w.weight else n) (s := (1 : Int)) h
      have hwe : W.length ≤ j → weightIn (W.take j) x 1 = weightIn W x 1 := fun h => by rw [List.take_of_length_le h]
      change j < W.length → weightIn (W.take (j + 1)) x 1 = (fun n (w : WeightEntry) => if w.server = x then w.weight else n) (weightIn (W.take j) x 1) (W.getD j default) at hw
      dsimp only at hw
      generalize weightIn (W.take j) x 1 = n at hw hwe ⊢
      repeat' (first | refine yw ?_ | ((with_reducible refine Runs.is ?_); first | refine Runs.region (id := 10) ?_ | refine Runs.region (id := 11) ?_ | refine Runs.region (id := 12) ?_ | refine Runs.region (id := 13) ?_ | ((with_reducible refine Runs.isC ?_); refine Runs.cond rfl (zc ?_) (zc ?_) <;> intro hc <;> (try (first | contradiction | (exfalso; omega; done) | (have : hc = trivial := rfl; clear this; clear hc))))) | ((with_reducible refine r_is ?_); first | refine yr ?_) | fail)
      · rename_i h1
        repeat' (first | refine yw ?_ | ((with_reducible refine Runs.is ?_); first | refine Runs.region (id := 14) ?_ | ((with_reducible refine Runs.isC ?_); refine Runs.cond rfl (zc ?_) (zc ?_) <;> intro hc <;> (try (first | contradiction | (exfalso; omega; done) | (have : hc = trivial := rfl; clear this; clear hc))))) | ((with_reducible refine r_is ?_); first | refine yr ?_) | fail)
        refine ihj (j + 1) _ zo zo ?_
        rw [hw h1, if_pos hc]
        (refine St.Le.clean zR zU zV)
      · rename_i h1
        repeat' (first | refine yw ?_ | ((with_reducible refine Runs.is ?_); first | refine Runs.region (id := 14) ?_ | ((with_reducible refine Runs.isC ?_); refine Runs.cond rfl (zc ?_) (zc ?_) <;> intro hc <;> (try (first | contradiction | (exfalso; omega; done) | (have : hc = trivial := rfl; clear this; clear hc))))) | ((with_reducible refine r_is ?_); first | refine yr ?_) | fail)
        refine ihj (j + 1) _ zo zo ?_
        rw [hw h1, if_neg hc]
        (refine St.Le.clean zR zU zV)
      · have := hwe zo
        subst this
        repeat' (first | refine yw ?_ | ((with_reducible refine Runs.is ?_); first | refine Runs.region (id := 15) ?_ | refine Runs.region (id := 16) ?_ | ((with_reducible refine Runs.isC ?_); refine Runs.cond rfl (zc ?_) (zc ?_) <;> intro hc <;> (try (first | contradiction | (exfalso; omega; done) | (have : hc = trivial := rfl; clear this; clear hc))))) | ((with_reducible refine r_is ?_); first | refine yr ?_ | (refine r_append_full SlF.h SlF.s ZoF.h zd rfl rfl zC zJ zS rfl (fun hn => ?_) (fun hn => ?_) <;> refine r_nn zN zH ?_)) | fail)
        refine ih (k + 1) _ zo zo ?_
        rw [htk2, hst2]
        (refine St.Le.clean zR zU zV)
    · have he := hend zo
      subst he
      repeat' (first | refine yw ?_ | ((with_reducible refine Runs.is ?_); first | refine Runs.region (id := 17) ?_ | ((with_reducible refine Runs.isC ?_); refine Runs.cond rfl (zc ?_) (zc ?_) <;> intro hc <;> (try (first | contradiction | (exfalso; omega; done) | (have : hc = trivial := rfl; clear this; clear hc))))) | ((with_reducible refine r_is ?_); first | refine yr ?_) | fail)
      (refine Runs.weaken (St.Le.freeze_lst 50 rfl) ?_; refine yf ?_)
      (refine Runs.retC Tryz.func40 rfl zM rfl TyF.h (And.intro zE zd) zD ?_; try exact zX)
end Go.Proofs
namespace Go.Proofs
open Go.AM
attribute [local irreducible] AM.evalR AM.evalD AM.Runs AM.valK AM.dK AM.opK AM.stepR AM.CallS AM.St.Le
def sumStep (s : Summary) (p : Proposal) : Summary := joinS s (ofS p)
def sumS (g : View) (c : Config) : Summary := c.foldl sumStep (initS g)
def Plain (p : Proposal) : Prop := p.changes.length ≤ 1000 ∧ True
def Short (s : Summary) (n : Nat) : Prop := s.joined.length ≤ n ∧ s.removed.length ≤ n ∧ s.weights.length ≤ n
theorem ofS_short {p : Proposal} (h : p.changes.length ≤ 1000) : Short (ofS p) 1000 := by
  have h1 := ofAcc_len p p.changes.length (Nat.le_refl _)
  rw [List.take_of_length_le (Nat.le_refl _)] at h1
  have h2 : (weightsOf (ofAcc p).m).length ≤ 12 := by
    have := List.length_filterMap_le (getI (ofAcc p).m) (upto 1 12)
    rw [upto_len] at this; exact this
  refine ⟨?_, ?_, ?_⟩
  · show (sortI (ofAcc p).j).length ≤ _
    rw [sortI_length]; exact Nat.le_trans h1.1 h
  · show (sortI (ofAcc p).r).length ≤ _
    rw [sortI_length]; exact Nat.le_trans h1.2 h
  · show (weightsOf (ofAcc p).m).length ≤ _
    omega
theorem joinS_short {a b : Summary} {m n : Nat} (ha : Short a m) (hb : Short b n) : Short (joinS a b) (m + n) := by
  have h1 := unionI_len a.joined b.joined
  have h2 := unionI_len a.removed b.removed
  have h3 := weightsI_len a.weights b.weights
  obtain ⟨a1, a2, a3⟩ := ha
  obtain ⟨b1, b2, b3⟩ := hb
  exact ⟨Nat.le_trans h1 zo, Nat.le_trans h2 zo, Nat.le_trans h3 zo⟩
theorem initS_short {g : View} (h : g.members.length ≤ 1000) : Short (initS g) 1000 := by
  refine ⟨?_, ?_, ?_⟩ <;> simp [initS] <;> omega
theorem sumS_short {g : View} (hg : g.members.length ≤ 1000) : ∀ (c : Config), (∀ p ∈ c, p.changes.length ≤ 1000) → Short (sumS g c) (1000 + 1000 * c.length) := by
  intro c
  have gen : ∀ (c : Config) (s : Summary) (n : Nat), Short s n → (∀ p ∈ c, p.changes.length ≤ 1000) → Short (c.foldl sumStep s) (n + 1000 * c.length) := by
    intro c
    induction c with
    | nil => intro s n hs _; simpa using hs
    | cons p c ih =>
      intro s n hs hc
      have h1 := joinS_short hs (ofS_short (hc p (by simp)))
      have h2 := ih (sumStep s p) (n + 1000) h1 (fun q hq => hc q (by simp [hq]))
      rw [List.foldl_cons, List.length_cons]
      rw [show n + 1000 * (c.length + 1) = n + 1000 + 1000 * c.length by omega]; exact h2
  exact gen c (initS g) 1000 (initS_short hg)
theorem member_Summarize (f : Bool) (g : View) (c : Config) (hg : g.members.length ≤ 1000) (hc : c.length ≤ 100) (hp : ∀ p ∈ c, Plain p) : AM.Fn Tryz.prog 41 [viV g, .sl f (c.map prV)] (suV (sumS g c)) := by
  (refine spec_of_runs Tryz.func41 rfl ?_; simp only [Tryz.f41]; refine ys ?_)
  repeat' (first | refine yw ?_ | ((with_reducible refine Runs.is ?_); first | refine Runs.region (id := 0) ?_ | refine Runs.region (id := 1) ?_ | refine Runs.region (id := 2) ?_ | ((with_reducible refine Runs.isC ?_); refine Runs.cond rfl (zc ?_) (zc ?_) <;> intro hc <;> (try (first | contradiction | (exfalso; omega; done) | (have : hc = trivial := rfl; clear this; clear hc))))) | ((with_reducible refine r_is ?_); first | refine yr ?_ | (refine r_fn rfl (member_Initial g zo) HbF.h zL1 zD ?_; refine r_nn zN zH ?_)) | fail)
  refine Runs.loopI (fun k : Nat => c.length - k) (fun k => k ≤ c.length)
    (fun k => ⟨[.any, .any, .any, .any, .ptr 4 0 0, .ptr 5 0 0, .any, .any, .any, .any, .sl f (c.map prV), .i (c.length : Nat), .i (k : Nat), .any, .any, .any, .any, .any, .any, .any, .any, .any], [(5, .var 78 (suV (sumS g (c.take k)))), (4, .var 78 (.agg [.sc (.slice none 0 0), .sc (.slice none 0 0), .sc (.slice none 0 0), .i 0, .i 0, .i 0, .i 0, .i 0, .i 0]))]⟩) 0 (by simp) ?_ ?_
  · (refine St.Le.clean zR zU zV)
  rintro k hk ih
  have hst := fun (h : k < c.length) => foldl_take (g := sumStep) (s := initS g) h
  have hend : c.length ≤ k → sumS g (c.take k) = sumS g c := fun h => by rw [List.take_of_length_le h]
  have hsh := sumS_short hg (c.take k) (fun p q => (hp p (List.mem_of_mem_take q)).1)
  rw [List.length_take] at hsh
  have hpl : k < c.length → Plain (c.getD k default) := fun h => hp _ (by rw [List.getD_eq_getElem?_getD, List.getElem?_eq_getElem h]; exact List.getElem_mem h)
  change k < c.length → sumS g (c.take (k + 1)) = sumStep (sumS g (c.take k)) (c.getD k default) at hst
  generalize sumS g (c.take k) = s at hst hend hsh ⊢
  by_cases hlt : k < c.length
  · have hst2 : sumS g (c.take (k + 1)) = joinS s (ofS (c.getD k default)) := hst hlt
    have hp2 := hpl hlt
    have ho := ofS_short hp2.1
    obtain ⟨s1, s2, s3⟩ := hsh
    obtain ⟨o1, o2, o3⟩ := ho
    have hOf := member_Of (c.getD k default) (Nat.le_trans hp2.1 zd)
    have hJn := member_Join s (ofS (c.getD k default)) (member_union_all false false _ _ zo) (member_union_all false false _ _ zo) (member_weights_all false false _ _ zo)
    generalize ofS (c.getD k default) = q at hOf hJn hst2
    repeat' (first | refine yw ?_ | ((with_reducible refine Runs.is ?_); first | refine Runs.region (id := 3) ?_ | refine Runs.region (id := 4) ?_ | refine Runs.drawn (id := 5) mixed zK ?_ | refine Runs.region (id := 6) ?_ | ((with_reducible refine Runs.isC ?_); refine Runs.cond rfl (zc ?_) (zc ?_) <;> intro hc <;> (try (first | contradiction | (exfalso; omega; done) | (have : hc = trivial := rfl; clear this; clear hc))))) | ((with_reducible refine r_is ?_); first | refine yr ?_) | ((with_reducible refine d_is ?_); first | refine yd ?_ | (refine d_fn rfl (hOf) HbF.h zL1 zD ?_; refine d_nn zN zH ?_) | (refine d_fn rfl (hJn) HbF.h zL2 zD ?_; refine d_nn zN zH ?_)) | fail)
    refine ih (k + 1) _ zo zo ?_
    rw [hst2]
    (refine St.Le.clean zR zU zV)
  · have he := hend zo
    subst he
    repeat' (first | refine yw ?_ | ((with_reducible refine Runs.is ?_); first | refine Runs.region (id := 3) ?_ | ((with_reducible refine Runs.isC ?_); refine Runs.cond rfl (zc ?_) (zc ?_) <;> intro hc <;> (try (first | contradiction | (exfalso; omega; done) | (have : hc = trivial := rfl; clear this; clear hc))))) | ((with_reducible refine r_is ?_); first | refine yr ?_) | fail)
    repeat' (first | refine yw ?_ | ((with_reducible refine Runs.is ?_); first | refine Runs.region (id := 7) ?_ | ((with_reducible refine Runs.isC ?_); refine Runs.cond rfl (zc ?_) (zc ?_) <;> intro hc <;> (try (first | contradiction | (exfalso; omega; done) | (have : hc = trivial := rfl; clear this; clear hc))))) | ((with_reducible refine r_is ?_); first | refine yr ?_) | fail)
    (refine Runs.retC Tryz.func41 rfl zM rfl TyF.h (And.intro zE zd) zD ?_; try exact zX)
end Go.Proofs
namespace Go.Proofs
open Go.AM
attribute [local irreducible] AM.evalR AM.evalD AM.Runs AM.valK AM.dK AM.opK AM.stepR AM.CallS AM.St.Le
def viewOf (g : View) (c : Config) : View := viewS (sumS g c)
theorem interval_Views (f h : Bool) (g : View) (a b : Config) (hA : AM.Fn Tryz.prog 10 [.sl f (a.map prV), .sl h (b.map prV)] (.sl false ((allB a b).map cfV))) (hn : (allB a b).length ≤ 100000) (hg : g.members.length ≤ 1000)
    (hc0 : ∀ c ∈ allB a b, c.length ≤ 100 ∧ ∀ p ∈ c, Plain p) : AM.Fn Tryz.prog 15 [viV g, .sl f (a.map prV), .sl h (b.map prV)] (.sl false (((allB a b).map (viewOf g)).map viV)) := by
  (refine spec_of_runs Tryz.func15 rfl ?_; simp only [Tryz.f15]; refine ys ?_)
  generalize allB a b = l at *
  repeat' (first | refine yw ?_ | ((with_reducible refine Runs.is ?_); first | refine Runs.region (id := 0) ?_ | refine Runs.region (id := 1) ?_ | refine Runs.region (id := 2) ?_ | ((with_reducible refine Runs.isC ?_); refine Runs.cond rfl (zc ?_) (zc ?_) <;> intro hc <;> (try (first | contradiction | (exfalso; omega; done) | (have : hc = trivial := rfl; clear this; clear hc))))) | ((with_reducible refine r_is ?_); first | refine yr ?_ | (refine r_fn rfl (hA) HbF.h zL2 zD ?_; refine r_nn zN zH ?_)) | fail)
  (refine Runs.weaken (St.Le.nil 7 41 4 7 zd rfl rfl zE) ?_)
  refine Runs.loopI (fun k : Nat => l.length - k) (fun k => k ≤ l.length)
    (fun k => ⟨[.any, .any, .any, .ptr 3 0 0, .any, .any, .any, .own 7, .any, .any, .any, .any, .sl false (l.map cfV), .i (l.length : Nat), .i (k : Nat), .any, .any, .any, .any, .any, .any, .any, .any, .any, .any, .any, .any], [(7, .lst 41 4 (((l.take k).map (viewOf g)).map viV)), (3, .var 35 (viV g))]⟩) 0 (by simp) ?_ ?_
  · (refine St.Le.clean zR zU zV)
  rintro k hk ih
  have htk := fun (h : k < l.length) => take_getD (xs := l) h
  have hl1 : ((l.take k).map (viewOf g)).length ≤ 100000 := by rw [List.length_map, List.length_take]; omega
  by_cases hlt : k < l.length
  · have hcc := hc0 (l.getD k default) (by rw [List.getD_eq_getElem?_getD, List.getElem?_eq_getElem hlt]; exact List.getElem_mem hlt)
    have htk2 := htk hlt
    have hS := member_Summarize false g (l.getD k default) hg hcc.1 hcc.2
    have hsh := sumS_short hg (l.getD k default) (fun p q => (hcc.2 p q).1)
    have hlen := hcc.1
    have hV := member_View (sumS g (l.getD k default)) (by have := hsh.1; omega) (by have := hsh.2.2; omega)
    have hm : (l.take (k + 1)).map (viewOf g) = (l.take k).map (viewOf g) ++ [viewS (sumS g (l.getD k default))] := by rw [htk2, List.map_append]; rfl
    repeat' (first | refine yw ?_ | ((with_reducible refine Runs.is ?_); first | refine Runs.region (id := 3) ?_ | refine Runs.region (id := 4) ?_ | refine Runs.region (id := 5) ?_ | ((with_reducible refine Runs.isC ?_); refine Runs.cond rfl (zc ?_) (zc ?_) <;> intro hc <;> (try (first | contradiction | (exfalso; omega; done) | (have : hc = trivial := rfl; clear this; clear hc))))) | ((with_reducible refine r_is ?_); first | refine yr ?_ | (refine r_fn rfl (hS) HbF.h zL2 zD ?_; refine r_nn zN zH ?_) | (refine r_fn rfl (hV) HbF.h zL1 zD ?_; refine r_nn zN zH ?_) | (refine r_append_full SlF.h SlF.s ZoF.h zd rfl rfl zC zJ zS rfl (fun hn => ?_) (fun hn => ?_) <;> refine r_nn zN zH ?_)) | fail)
    repeat' (first | refine yw ?_ | ((with_reducible refine Runs.is ?_); first | refine Runs.region (id := 6) ?_ | ((with_reducible refine Runs.isC ?_); refine Runs.cond rfl (zc ?_) (zc ?_) <;> intro hc <;> (try (first | contradiction | (exfalso; omega; done) | (have : hc = trivial := rfl; clear this; clear hc))))) | ((with_reducible refine r_is ?_); first | refine yr ?_) | fail)
    refine ih (k + 1) _ zo zo ?_
    rw [hm]
    (refine St.Le.clean zR zU zV)
  · repeat' (first | refine yw ?_ | ((with_reducible refine Runs.is ?_); first | refine Runs.region (id := 3) ?_ | ((with_reducible refine Runs.isC ?_); refine Runs.cond rfl (zc ?_) (zc ?_) <;> intro hc <;> (try (first | contradiction | (exfalso; omega; done) | (have : hc = trivial := rfl; clear this; clear hc))))) | ((with_reducible refine r_is ?_); first | refine yr ?_) | fail)
    rw [List.take_of_length_le zo]
    repeat' (first | refine yw ?_ | ((with_reducible refine Runs.is ?_); first | refine Runs.region (id := 7) ?_ | ((with_reducible refine Runs.isC ?_); refine Runs.cond rfl (zc ?_) (zc ?_) <;> intro hc <;> (try (first | contradiction | (exfalso; omega; done) | (have : hc = trivial := rfl; clear this; clear hc))))) | ((with_reducible refine r_is ?_); first | refine yr ?_) | fail)
    exact Runs.ret_frz Tryz.func15 rfl rfl rfl rfl
theorem grow_nil (n : Nat) (hn : n ≤ 1000000000) : AM.Spec Tryz.prog 93 [.sc (.slice none 0 0), .i (n : Nat)] [] (OwnPost 3 1 fun l => l = ([] : List Int).map .i) := by
  (refine spec_of_runs Tryz.func93 rfl ?_; simp only [Tryz.f93]; refine ys ?_)
  repeat' (first | refine yw ?_ | ((with_reducible refine Runs.is ?_); first | refine Runs.region ?_ | ((with_reducible refine Runs.isC ?_); refine Runs.cond rfl (zc ?_) (zc ?_) <;> intro hc <;> (try (first | contradiction | (exfalso; omega; done) | (have : hc = trivial := rfl; clear this; clear hc))))) | ((with_reducible refine r_is ?_); first | refine yr ?_ | (refine r_append_full SlF.h SlF.s ZoF.h zd rfl rfl zC zJ zS rfl (fun hn => ?_) (fun hn => ?_) <;> refine r_nn zN zH ?_)) | fail)
  · exact Runs.ret_own Tryz.func93 rfl rfl rfl (by simp)
  · exact Runs.ret_nil Tryz.func93 rfl rfl zd rfl rfl
theorem sum_take (ls : List (List Int)) (k : Nat) (h : k < ls.length) : ((ls.take (k + 1)).map List.length).sum = ((ls.take k).map List.length).sum + (ls.getD k default).length := by
  rw [take_getD h, List.map_append, List.sum_append]; simp
theorem sum_take_le (ls : List (List Int)) (k : Nat) : ((ls.take k).map List.length).sum ≤ (ls.map List.length).sum := by
  have h : ls.map List.length = (ls.take k).map List.length ++ (ls.drop k).map List.length := by rw [← List.map_append, List.take_append_drop]
  rw [h, List.sum_append]; omega
theorem flatten_len (ls : List (List Int)) : ls.flatten.length = (ls.map List.length).sum := List.length_flatten
theorem concat_ints (f : Bool) (ls : List (List Int)) (hs : (ls.map List.length).sum ≤ 1000000000) : AM.Spec Tryz.prog 71 [.sl f (ls.map inV)] [] (OwnPost 3 1 fun l => l = ls.flatten.map .i) := by
  (refine spec_of_runs Tryz.func71 rfl ?_; simp only [Tryz.f71]; refine ys ?_)
  (refine Runs.lens 0 ?_; refine yl ?_)
  intro hlb
  repeat' (first | refine yw ?_ | ((with_reducible refine Runs.is ?_); first | refine Runs.region (id := 0) ?_ | refine Runs.region (id := 1) ?_ | refine Runs.region (id := 2) ?_ | ((with_reducible refine Runs.isC ?_); refine Runs.cond rfl (zc ?_) (zc ?_) <;> intro hc <;> (try (first | contradiction | (exfalso; omega; done) | (have : hc = trivial := rfl; clear this; clear hc))))) | ((with_reducible refine r_is ?_); first | refine yr ?_) | fail)
  refine Runs.loopI (fun k : Nat => ls.length - k) (fun k => k ≤ ls.length)
    (fun k => ⟨[.sl f (ls.map inV), .any, .any, .i ((((ls.take k).map List.length).sum : Nat) : Int), .any, .any, .any, .any, .any, .sl f (ls.map inV), .i (ls.length : Nat), .i (k : Nat), .any, .any, .any, .any, .any, .any, .any, .any, .any, .any, .any, .any, .any, .any, .any, .any, .any, .any, .any, .any, .any, .any, .any, .any], []⟩) 0 (by simp) ?_ ?_
  · (refine St.Le.clean zR zU zV)
  rintro k hk ih
  have hst := fun (h : k < ls.length) => sum_take ls k h
  have hle := sum_take_le ls k
  have hle2 := sum_take_le ls (k + 1)
  have hend : ls.length ≤ k → ((ls.take k).map List.length).sum = (ls.map List.length).sum := fun h => by rw [List.take_of_length_le h]
  generalize ((ls.take k).map List.length).sum = n at hst hle hend ⊢
  by_cases hlt : k < ls.length
  · have hst2 := hst hlt
    repeat' (first | refine yw ?_ | ((with_reducible refine Runs.is ?_); first | refine Runs.region (id := 3) ?_ | refine Runs.region (id := 4) ?_ | refine Runs.region (id := 5) ?_ | refine Runs.region (id := 6) ?_ | ((with_reducible refine Runs.isC ?_); refine Runs.cond rfl (zc ?_) (zc ?_) <;> intro hc <;> (try (first | contradiction | (exfalso; omega; done) | (have : hc = trivial := rfl; clear this; clear hc))))) | ((with_reducible refine r_is ?_); first | refine yr ?_) | fail)
    repeat' (first | refine yw ?_ | ((with_reducible refine Runs.is ?_); first | refine Runs.region (id := 8) ?_ | ((with_reducible refine Runs.isC ?_); refine Runs.cond rfl (zc ?_) (zc ?_) <;> intro hc <;> (try (first | contradiction | (exfalso; omega; done) | (have : hc = trivial := rfl; clear this; clear hc))))) | ((with_reducible refine r_is ?_); first | refine yr ?_) | fail)
    refine ih (k + 1) _ zo zo ?_
    rw [hst2]
    (refine St.Le.clean zR zU zV)
  · have hn := hend zo
    clear hst hend hle2 ih
    repeat' (first | refine yw ?_ | ((with_reducible refine Runs.is ?_); first | refine Runs.region (id := 3) ?_ | ((with_reducible refine Runs.isC ?_); refine Runs.cond rfl (zc ?_) (zc ?_) <;> intro hc <;> (try (first | contradiction | (exfalso; omega; done) | (have : hc = trivial := rfl; clear this; clear hc))))) | ((with_reducible refine r_is ?_); first | refine yr ?_) | fail)
    repeat' (first | refine yw ?_ | ((with_reducible refine Runs.is ?_); first | refine Runs.region (id := 9) ?_ | refine Runs.region (id := 10) ?_ | ((with_reducible refine Runs.isC ?_); refine Runs.cond rfl (zc ?_) (zc ?_) <;> intro hc <;> (try (first | contradiction | (exfalso; omega; done) | (have : hc = trivial := rfl; clear this; clear hc))))) | ((with_reducible refine r_is ?_); first | refine yr ?_ | (refine r_own rfl (grow_nil n zo) HbF.h zL2 zD rfl (fun _ hq _ => ?_); (try subst hq); refine r_nn zN zH ?_)) | fail)
    refine Runs.loopI (fun k : Nat => ls.length - k) (fun k => k ≤ ls.length)
      (fun k => ⟨[.any, .any, .any, .any, .any, .any, .own 24, .any, .any, .any, .any, .any, .any, .any, .any, .any, .any, .any, .any, .any, .any, .any, .any, .any, .any, .sl f (ls.map inV), .i (ls.length : Nat), .i (k : Nat), .any, .any, .any, .any, .any, .any, .any, .any], [(24, .lst 3 1 ((ls.take k).flatten.map .i))]⟩) 0 (by simp) ?_ ?_
    · (refine St.Le.clean zR zU zV)
    rintro k hk ih
    have hle := sum_take_le ls (k + 1)
    have hfl := flatten_len (ls.take k)
    have hle1 := sum_take_le ls k
    have hend : ls.length ≤ k → (ls.take k).flatten = ls.flatten := fun h => by rw [List.take_of_length_le h]
    have hst := fun (h : k < ls.length) => take_getD (xs := ls) h
    have hsm := fun (h : k < ls.length) => sum_take ls k h
    by_cases hlt : k < ls.length
    · have hfl2 : (ls.take (k + 1)).flatten = (ls.take k).flatten ++ ls.getD k default := by rw [hst hlt, List.flatten_append]; simp
      have hsm2 := hsm hlt
      generalize (ls.take k).flatten = acc at hfl hend hfl2 ⊢
      repeat' (first | refine yw ?_ | ((with_reducible refine Runs.is ?_); first | refine Runs.region (id := 11) ?_ | refine Runs.region (id := 12) ?_ | refine Runs.region (id := 13) ?_ | refine Runs.region (id := 14) ?_ | ((with_reducible refine Runs.isC ?_); refine Runs.cond rfl (zc ?_) (zc ?_) <;> intro hc <;> (try (first | contradiction | (exfalso; omega; done) | (have : hc = trivial := rfl; clear this; clear hc))))) | ((with_reducible refine r_is ?_); first | refine yr ?_ | (refine r_append_full SlF.h SlF.s ZoF.h zd rfl rfl zC zJ zS rfl (fun hn => ?_) (fun hn => ?_) <;> refine r_nn zN zH ?_)) | fail)
      refine ih (k + 1) _ zo zo ?_
      rw [hfl2]
      (refine St.Le.clean zR zU zV)
    · repeat' (first | refine yw ?_ | ((with_reducible refine Runs.is ?_); first | refine Runs.region (id := 11) ?_ | ((with_reducible refine Runs.isC ?_); refine Runs.cond rfl (zc ?_) (zc ?_) <;> intro hc <;> (try (first | contradiction | (exfalso; omega; done) | (have : hc = trivial := rfl; clear this; clear hc))))) | ((with_reducible refine r_is ?_); first | refine yr ?_) | fail)
      rw [hend zo]
      repeat' (first | refine yw ?_ | ((with_reducible refine Runs.is ?_); first | refine Runs.region (id := 15) ?_ | ((with_reducible refine Runs.isC ?_); refine Runs.cond rfl (zc ?_) (zc ?_) <;> intro hc <;> (try (first | contradiction | (exfalso; omega; done) | (have : hc = trivial := rfl; clear this; clear hc))))) | ((with_reducible refine r_is ?_); first | refine yr ?_) | fail)
      exact Runs.ret_own Tryz.func71 rfl rfl rfl rfl
def distinctI (ls : List (List Int)) : List Int := compactI (sortI ls.flatten)
theorem distinct_ints (f : Bool) (ls : List (List Int)) (hs : (ls.map List.length).sum ≤ 1000000000) : AM.Fn Tryz.prog 44 [.sl f (ls.map inV)] (.sl false ((distinctI ls).map .i)) := by
  have hl : ls.flatten.length ≤ 1000000000 := by rw [flatten_len]; exact hs
  have hl2 : (sortI ls.flatten).length ≤ 1000000000 := by rw [sortI_length]; exact hl
  unfold distinctI
  (refine spec_of_runs Tryz.func44 rfl ?_; simp only [Tryz.f44]; refine ys ?_)
  repeat' (first | refine yw ?_ | ((with_reducible refine Runs.is ?_); first | refine Runs.region ?_ | ((with_reducible refine Runs.isC ?_); refine Runs.cond rfl (zc ?_) (zc ?_) <;> intro hc <;> (try (first | contradiction | (exfalso; omega; done) | (have : hc = trivial := rfl; clear this; clear hc))))) | ((with_reducible refine r_is ?_); first | refine yr ?_ | (refine r_own rfl (concat_ints f ls hs) HbF.h zL1 zD rfl (fun _ hq _ => ?_); (try subst hq); refine r_nn zN zH ?_) | (refine r_turn rfl (sort_turns ls.flatten zo) HbF.h rfl rfl ?_; refine r_nn zN zH ?_) | (refine r_give rfl (compact_gives 1000 (sortI ls.flatten) zo) HbF.h rfl rfl zL0 zD ?_; refine r_nn zN zH ?_)) | fail)
  exact Runs.ret_frz Tryz.func44 rfl rfl rfl rfl
def srv (v : View) : List Int := v.members.map (·.server)
def spanI (vs : List View) : List Int := distinctI (vs.map srv)
theorem interval_Span (f h : Bool) (g : View) (a b : Config) (vs : List View) (hV : AM.Fn Tryz.prog 15 [viV g, .sl f (a.map prV), .sl h (b.map prV)] (.sl false (vs.map viV))) (hn : vs.length ≤ 100000) (hm : ∀ v ∈ vs, v.members.length ≤ 1000000)
    (hs : ((vs.map srv).map List.length).sum ≤ 1000000000) : AM.Fn Tryz.prog 19 [viV g, .sl f (a.map prV), .sl h (b.map prV)] (.sl false ((spanI vs).map .i)) := by
  (refine spec_of_runs Tryz.func19 rfl ?_; simp only [Tryz.f19]; refine ys ?_)
  repeat' (first | refine yw ?_ | ((with_reducible refine Runs.is ?_); first | refine Runs.region (id := 0) ?_ | refine Runs.region (id := 1) ?_ | refine Runs.region (id := 2) ?_ | ((with_reducible refine Runs.isC ?_); refine Runs.cond rfl (zc ?_) (zc ?_) <;> intro hc <;> (try (first | contradiction | (exfalso; omega; done) | (have : hc = trivial := rfl; clear this; clear hc))))) | ((with_reducible refine r_is ?_); first | refine yr ?_ | (refine r_fn rfl (hV) HbF.h zL3 zD ?_; refine r_nn zN zH ?_)) | fail)
  (refine Runs.weaken (St.Le.nil 7 44 1 7 zd rfl rfl zE) ?_)
  refine Runs.loopI (fun k : Nat => vs.length - k) (fun k => k ≤ vs.length)
    (fun k => ⟨[.any, .any, .any, .any, .any, .any, .any, .own 7, .any, .any, .any, .any, .any, .any, .any, .any, .sl false (vs.map viV), .i (vs.length : Nat), .i (k : Nat), .any, .any, .any, .any, .any, .any, .any, .any, .any, .any, .any, .any, .any, .any, .any, .any, .any, .any, .any, .any, .any, .any, .any], [(7, .lst 44 1 (((vs.take k).map srv).map inV))]⟩) 0 (by simp) ?_ ?_
  · (refine St.Le.clean zR zU zV)
  rintro k hk ih
  have htk := fun (h : k < vs.length) => take_getD (xs := vs) h
  have hl1 : ((vs.take k).map srv).length ≤ 100000 := by rw [List.length_map, List.length_take]; omega
  by_cases hlt : k < vs.length
  · have hmm := hm (vs.getD k default) (by rw [List.getD_eq_getElem?_getD, List.getElem?_eq_getElem hlt]; exact List.getElem_mem hlt)
    have hst : (vs.take (k + 1)).map srv = (vs.take k).map srv ++ [srv (vs.getD k default)] := by rw [htk hlt, List.map_append]; rfl
    generalize (vs.take k).map srv = acc at hl1 hst ⊢
    repeat' (first | refine yw ?_ | ((with_reducible refine Runs.is ?_); first | refine Runs.region (id := 3) ?_ | refine Runs.region (id := 4) ?_ | refine Runs.region (id := 5) ?_ | refine Runs.region (id := 6) ?_ | ((with_reducible refine Runs.isC ?_); refine Runs.cond rfl (zc ?_) (zc ?_) <;> intro hc <;> (try (first | contradiction | (exfalso; omega; done) | (have : hc = trivial := rfl; clear this; clear hc))))) | ((with_reducible refine r_is ?_); first | refine yr ?_) | fail)
    generalize vs.getD k default = v at hmm hst ⊢
    obtain ⟨ms, ru⟩ := v
    change (vs.take (k + 1)).map srv = acc ++ [ms.map (·.server)] at hst
    dsimp only at hmm ⊢
    (refine Runs.weaken (St.Le.nil 10 3 1 10 zd rfl rfl zE) ?_)
    refine Runs.loopI (fun j : Nat => ms.length - j) (fun j => j ≤ ms.length)
      (fun j => ⟨[.any, .any, .any, .any, .any, .any, .any, .own 7, .any, .any, .own 10, .any, .any, .any, .any, .any, .sl false (vs.map viV), .i (vs.length : Nat), .i (k : Nat), .any, .any, .any, .any, .sl false (ms.map mbV), .i (ms.length : Nat), .i (j : Nat), .any, .any, .any, .any, .any, .any, .any, .any, .any, .any, .any, .any, .any, .any, .any, .any], [(10, .lst 3 1 (((ms.take j).map (·.server)).map .i)), (7, .lst 44 1 (acc.map inV))]⟩) 0 (by simp) ?_ ?_
    · (refine St.Le.clean zR zU zV)
    rintro j hj ihj
    have htj := fun (h : j < ms.length) => take_getD (xs := ms) h
    have hl2 : ((ms.take j).map (·.server)).length ≤ 1000000 := by rw [List.length_map, List.length_take]; omega
    by_cases hjt : j < ms.length
    · have htj2 : (ms.take (j + 1)).map (·.server) = (ms.take j).map (·.server) ++ [(ms.getD j default).server] := by rw [htj hjt, List.map_append]; rfl
      generalize (ms.take j).map (·.server) = acc2 at hl2 htj2 ⊢
      repeat' (first | refine yw ?_ | ((with_reducible refine Runs.is ?_); first | refine Runs.region (id := 7) ?_ | refine Runs.region (id := 8) ?_ | refine Runs.region (id := 9) ?_ | refine Runs.region (id := 10) ?_ | ((with_reducible refine Runs.isC ?_); refine Runs.cond rfl (zc ?_) (zc ?_) <;> intro hc <;> (try (first | contradiction | (exfalso; omega; done) | (have : hc = trivial := rfl; clear this; clear hc))))) | ((with_reducible refine r_is ?_); first | refine yr ?_ | (refine r_append_full SlF.h SlF.s ZoF.h zd rfl rfl zC zJ zS rfl (fun hn => ?_) (fun hn => ?_) <;> refine r_nn zN zH ?_)) | fail)
      refine ihj (j + 1) _ zo zo ?_
      rw [htj2]
      (refine St.Le.clean zR zU zV)
    · repeat' (first | refine yw ?_ | ((with_reducible refine Runs.is ?_); first | refine Runs.region (id := 7) ?_ | ((with_reducible refine Runs.isC ?_); refine Runs.cond rfl (zc ?_) (zc ?_) <;> intro hc <;> (try (first | contradiction | (exfalso; omega; done) | (have : hc = trivial := rfl; clear this; clear hc))))) | ((with_reducible refine r_is ?_); first | refine yr ?_) | fail)
      rw [List.take_of_length_le zo]
      (refine Runs.weaken (St.Le.freeze_lst 10 rfl) ?_; refine yf ?_)
      repeat' (first | refine yw ?_ | ((with_reducible refine Runs.is ?_); first | refine Runs.region (id := 11) ?_ | refine Runs.region (id := 12) ?_ | ((with_reducible refine Runs.isC ?_); refine Runs.cond rfl (zc ?_) (zc ?_) <;> intro hc <;> (try (first | contradiction | (exfalso; omega; done) | (have : hc = trivial := rfl; clear this; clear hc))))) | ((with_reducible refine r_is ?_); first | refine yr ?_ | (refine r_append_full SlF.h SlF.s ZoF.h zd rfl rfl zC zJ zS rfl (fun hn => ?_) (fun hn => ?_) <;> refine r_nn zN zH ?_)) | fail)
      refine ih (k + 1) _ zo zo ?_
      rw [hst]
      (refine St.Le.clean zR zU zV)
  · repeat' (first | refine yw ?_ | ((with_reducible refine Runs.is ?_); first | refine Runs.region (id := 3) ?_ | ((with_reducible refine Runs.isC ?_); refine Runs.cond rfl (zc ?_) (zc ?_) <;> intro hc <;> (try (first | contradiction | (exfalso; omega; done) | (have : hc = trivial := rfl; clear this; clear hc))))) | ((with_reducible refine r_is ?_); first | refine yr ?_) | fail)
    rw [List.take_of_length_le zo]
    (refine Runs.weaken (St.Le.freeze_lst 7 rfl) ?_; refine yf ?_)
    repeat' (first | refine yw ?_ | ((with_reducible refine Runs.is ?_); first | refine Runs.region (id := 13) ?_ | ((with_reducible refine Runs.isC ?_); refine Runs.cond rfl (zc ?_) (zc ?_) <;> intro hc <;> (try (first | contradiction | (exfalso; omega; done) | (have : hc = trivial := rfl; clear this; clear hc))))) | ((with_reducible refine r_is ?_); first | refine yr ?_ | (refine r_fn rfl (distinct_ints false (vs.map srv) hs) HbF.h zL1 zD ?_; refine r_nn zN zH ?_)) | fail)
    (refine Runs.ret1 Tryz.func19 rfl zM zD ?_; try exact zX)
end Go.Proofs
namespace Go.Proofs
open Go.AM
attribute [local irreducible] AM.evalR AM.evalD AM.Runs AM.valK AM.dK AM.opK AM.stepR AM.CallS AM.St.Le
def withinB (a b c : Config) : Bool := containsB c a && containsB b c
theorem interval_Within (f g h : Bool) (a b c : Config) : AM.Fn Tryz.prog 12 [.sl f (a.map prV), .sl g (b.map prV), .sl h (c.map prV)] (.b (withinB a b c)) := by
  unfold withinB
  (refine spec_of_runs Tryz.func12 rfl ?_; simp only [Tryz.f12]; refine ys ?_)
  repeat' (first | refine yw ?_ | ((with_reducible refine Runs.is ?_); first | refine Runs.region ?_ | ((with_reducible refine Runs.isC ?_); refine Runs.cond rfl (zc ?_) (zc ?_) <;> intro hc <;> (try (first | contradiction | (exfalso; omega; done) | (have : hc = trivial := rfl; clear this; clear hc))))) | ((with_reducible refine r_is ?_); first | refine yr ?_ | (refine r_fn rfl (config_Contains h f c a) HbF.h zL2 zD ?_; refine r_nn zN zH ?_) | (refine r_fn rfl (config_Contains g h b c) HbF.h zL2 zD ?_; refine r_nn zN zH ?_) | ((with_reducible refine r_gd ?_); (first | refine r_guardPt rfl rfl ?_ ?_ | refine r_guardNt rfl rfl ?_ ?_ | refine r_guard rfl rfl ?_ ?_) <;> intro hG <;> (try (exfalso; omega; done)) <;> refine r_nn zN zH ?_)) | fail)
  all_goals ((refine Runs.ret1 Tryz.func12 rfl zM zD ?_; try exact zX))
  all_goals (refine V.Le.of_eq ?_; simp_all)
def fac (low : Vector) (e : Entry) : Int := 1 + e.count - getV low e.author
def countI (low high : Vector) : Int := high.foldl (fun n e => n * fac low e) 1
def countB (a b : Config) : Int := if containsB b a then countI (vectorV a) (vectorV b) else 0
theorem mul_fac {n f m : Int} (h1 : 1 ≤ n ∧ n ≤ m) (h2 : 1 ≤ f ∧ f ≤ 4) : 1 ≤ n * f ∧ n * f ≤ 4 * m := by
  obtain rfl | rfl | rfl | rfl : f = 1 ∨ f = 2 ∨ f = 3 ∨ f = 4 := by omega
  all_goals omega
theorem countI_le {low high : Vector} (h : ∀ e ∈ high, 1 ≤ fac low e ∧ fac low e ≤ 4) : ∀ k, k ≤ high.length → 1 ≤ countI low (high.take k) ∧ countI low (high.take k) ≤ ((4 ^ k : Nat) : Int) := by
  intro k hk
  induction k with
  | zero => simp [countI]
  | succ k ih =>
    have hlt : k < high.length := by omega
    have he := h (high.getD k default) (by rw [List.getD_eq_getElem?_getD, List.getElem?_eq_getElem hlt]; exact List.getElem_mem hlt)
    unfold countI at ih ⊢
    rw [foldl_take hlt]
    have := mul_fac (ih zo) he
    rw [Nat.pow_succ, Nat.mul_comm, Int.natCast_mul]
    exact this
theorem interval_Count (f g : Bool) (a b : Config) (ha : a.length ≤ 10000000) (hb : b.length ≤ 10000000) (hl : (vectorV b).length ≤ 3) (hf : containsB b a = true → ∀ e ∈ vectorV b, 1 ≤ fac (vectorV a) e ∧ fac (vectorV a) e ≤ 4) (hcn : ∀ e ∈ vectorV b, 0 ≤ e.count ∧ e.count ≤ 1000000) (hg : ∀ x, 0 ≤ getV (vectorV a) x ∧ getV (vectorV a) x ≤ 1000000000) :
    AM.Fn Tryz.prog 11 [.sl f (a.map prV), .sl g (b.map prV)] (.i (countB a b)) := by
  unfold countB
  (refine spec_of_runs Tryz.func11 rfl ?_; simp only [Tryz.f11]; refine ys ?_)
  repeat' (first | refine yw ?_ | ((with_reducible refine Runs.is ?_); first | refine Runs.region (id := 0) ?_ | refine Runs.region (id := 1) ?_ | refine Runs.region (id := 2) ?_ | refine Runs.region (id := 3) ?_ | refine Runs.region (id := 4) ?_ | ((with_reducible refine Runs.isC ?_); refine Runs.cond rfl (zc ?_) (zc ?_) <;> intro hc <;> (try (first | contradiction | (exfalso; omega; done) | (have : hc = trivial := rfl; clear this; clear hc))))) | ((with_reducible refine r_is ?_); first | refine yr ?_ | (refine r_fn rfl (config_Contains g f _ _) HbF.h zL2 zD ?_; refine r_nn zN zH ?_) | (refine r_fn rfl (config_Vector f a ha) HbF.h zL1 zD ?_; refine r_nn zN zH ?_) | (refine r_fn rfl (config_Vector g b hb) HbF.h zL1 zD ?_; refine r_nn zN zH ?_)) | fail)
  · (refine Runs.ret1 Tryz.func11 rfl zM zD ?_; try exact zX)
    rw [hc]; exact V.Le.refl _
  · have hct2 : containsB b a = true := by simpa using hc
    rw [hct2, if_pos rfl]
    have hle := countI_le (hf hct2)
    have hf2 := hf hct2
    generalize vectorV b = hi at *
    have hmem : ∀ k, k < hi.length → hi.getD k default ∈ hi := fun k h => by rw [List.getD_eq_getElem?_getD, List.getElem?_eq_getElem h]; exact List.getElem_mem h
    refine Runs.loopI (fun k : Nat => hi.length - k) (fun k => k ≤ hi.length)
      (fun k => ⟨[.any, .any, .any, .any, .any, .sl false ((vectorV a).map enV), .i (countI (vectorV a) (hi.take k)), .any, .any, .any, .any, .any, .any, .any, .any, .any, .sl false (hi.map enV), .i (hi.length : Nat), .i (k : Nat), .any, .any, .any, .any, .any, .any, .any, .any, .any, .any, .any, .any, .any, .any, .any], []⟩) 0 (by simp) ?_ ?_
    · (refine St.Le.clean zR zU zV)
    rintro k hk ih
    have hst : k < hi.length → countI (vectorV a) (hi.take (k + 1)) = countI (vectorV a) (hi.take k) * fac (vectorV a) (hi.getD k default) := fun h => foldl_take (g := fun n e => n * fac (vectorV a) e) (s := (1 : Int)) h
    have hend : hi.length ≤ k → countI (vectorV a) (hi.take k) = countI (vectorV a) hi := fun h => by rw [List.take_of_length_le h]
    have hn := hle k hk
    have hpw : (4 : Nat) ^ k ≤ 4 ^ 3 := Nat.pow_le_pow_right zd zo
    by_cases hlt : k < hi.length
    · have hst2 := hst hlt
      have hff := hf2 _ (hmem k hlt)
      have hcc := hcn _ (hmem k hlt)
      have hgg := hg (hi.getD k default).author
      have hmf := mul_fac (m := 64) ⟨hn.1, by omega⟩ hff
      unfold fac at hst2 hmf
      generalize countI (vectorV a) (hi.take k) = n at hst2 hmf ⊢
      repeat' (first | refine yw ?_ | ((with_reducible refine Runs.is ?_); first | refine Runs.region (id := 5) ?_ | refine Runs.region (id := 6) ?_ | refine Runs.drawn (id := 7) mixed zK ?_ | refine Runs.region (id := 8) ?_ | ((with_reducible refine Runs.isC ?_); refine Runs.cond rfl (zc ?_) (zc ?_) <;> intro hc <;> (try (first | contradiction | (exfalso; omega; done) | (have : hc = trivial := rfl; clear this; clear hc))))) | ((with_reducible refine r_is ?_); first | refine yr ?_) | ((with_reducible refine d_is ?_); first | refine yd ?_ | (refine d_fn rfl (vector_Get false _ _) HbF.h zL2 zD ?_; refine d_nn zN zH ?_)) | fail)
      refine ih (k + 1) _ zo zo ?_
      rw [hst2]
      (refine St.Le.clean zR zU zV)
    · repeat' (first | refine yw ?_ | ((with_reducible refine Runs.is ?_); first | refine Runs.region (id := 5) ?_ | ((with_reducible refine Runs.isC ?_); refine Runs.cond rfl (zc ?_) (zc ?_) <;> intro hc <;> (try (first | contradiction | (exfalso; omega; done) | (have : hc = trivial := rfl; clear this; clear hc))))) | ((with_reducible refine r_is ?_); first | refine yr ?_) | fail)
      have he := hend zo
      rw [he]
      repeat' (first | refine yw ?_ | ((with_reducible refine Runs.is ?_); first | refine Runs.region (id := 9) ?_ | ((with_reducible refine Runs.isC ?_); refine Runs.cond rfl (zc ?_) (zc ?_) <;> intro hc <;> (try (first | contradiction | (exfalso; omega; done) | (have : hc = trivial := rfl; clear this; clear hc))))) | ((with_reducible refine r_is ?_); first | refine yr ?_) | fail)
      (refine Runs.ret1 Tryz.func11 rfl zM zD ?_; try exact zX)
def awC : Config := [⟨201, 1, [⟨1, 9, 1, 0, ⟨0, 0, 0⟩⟩]⟩, ⟨202, 1, [⟨1, 9, 1, 0, ⟨0, 0, 0⟩⟩]⟩]
def awV : View := ⟨[⟨1, 1⟩], ⟨1, 0, 0⟩⟩
theorem aw_fine : Fine (vectorV awC) := by unfold Fine; decide +kernel
theorem aw_small : Small awC := ⟨by decide, by decide +kernel⟩
theorem aw_all : (allB [] awC).length = 4 := by decide +kernel
theorem aw_all1 : allB awC awC = [awC] := by decide +kernel
theorem aw_within : withinB [] awC (awC.take 1) = true := by decide +kernel
theorem aw_count : countB [] awC = 4 := by decide +kernel
theorem aw_plain : ∀ c ∈ allB [] awC, c.length ≤ 100 ∧ ∀ p ∈ c, p.changes.length ≤ 1000 ∧ True := by decide +kernel
theorem sortI_perm {zs ys : List Int} (h1 : ys.Pairwise (· ≤ ·)) (h2 : zs.Perm ys) : sortI zs = ys := by
  have h3 : (sortI zs).Pairwise (fun x y => decide (x ≤ y) = true) := List.pairwise_mergeSort (le := fun x y => decide (x ≤ y)) (by intro a b c; simp; omega) (by intro a b; simp; omega) zs
  have h4 : (sortI zs).Perm ys := (List.mergeSort_perm zs _).trans h2
  exact h4.eq_of_pairwise (le := (· ≤ ·)) (fun a b _ _ => Int.le_antisymm) (h3.imp (by simp)) h1
theorem aw_spanS : distinctI [[1], [1, 9], [1, 9], [1, 9]] = [1, 9] := by
  unfold distinctI
  rw [sortI_perm (ys := [1, 1, 1, 1, 9, 9, 9]) zd zd]
  decide +kernel
end Go.Proofs
namespace Go.Proofs
open Go.AM
attribute [local irreducible] AM.evalR AM.evalD AM.Runs AM.valK AM.dK AM.opK AM.stepR AM.CallS AM.St.Le
theorem aw_of (a : Int) : ofS ⟨a, 1, [⟨1, 9, 1, 0, ⟨0, 0, 0⟩⟩]⟩ = ⟨[9], [], [⟨9, 1, 0, a, 1⟩], ⟨0, 0, 0⟩, 0, 0, 0⟩ := by
  have h : ofAcc ⟨a, 1, [⟨1, 9, 1, 0, ⟨0, 0, 0⟩⟩]⟩ = ⟨[9], [], [(9, ⟨9, 1, 0, a, 1⟩)], ⟨0, 0, 0⟩, 0, 0, 0⟩ := rfl
  unfold ofS
  rw [h]
  dsimp only
  rw [sortI_perm (zs := [9]) (ys := [9]) zd (List.Perm.refl _), sortI_perm (zs := []) (ys := []) zd (List.Perm.refl _)]
  rfl
theorem aw_allE : allB [] awC = [[], [⟨202, 1, [⟨1, 9, 1, 0, ⟨0, 0, 0⟩⟩]⟩], [⟨201, 1, [⟨1, 9, 1, 0, ⟨0, 0, 0⟩⟩]⟩], [⟨201, 1, [⟨1, 9, 1, 0, ⟨0, 0, 0⟩⟩]⟩, ⟨202, 1, [⟨1, 9, 1, 0, ⟨0, 0, 0⟩⟩]⟩]] := by decide +kernel
theorem aw_srv : ((allB [] awC).map (viewOf awV)).map srv = [[1], [1, 9], [1, 9], [1, 9]] := by
  rw [aw_allE]
  simp only [List.map_cons, List.map_nil, viewOf, sumS, List.foldl_cons, List.foldl_nil, sumStep, aw_of]
  decide +kernel
theorem aw_span : spanI ((allB [] awC).map (viewOf awV)) = [1, 9] := by unfold spanI; rw [aw_srv]; exact aw_spanS
theorem aw_mem : ∀ v ∈ (allB [] awC).map (viewOf awV), v.members.length ≤ 1000000 := by
  intro v hv
  have h1 : srv v ∈ ((allB [] awC).map (viewOf awV)).map srv := List.mem_map.2 ⟨v, hv, rfl⟩
  rw [aw_srv] at h1
  have h2 : (srv v).length ≤ 2 := by revert h1; generalize srv v = l; revert l; decide
  unfold srv at h2
  rw [List.length_map] at h2; omega
theorem aw_get (x : Int) : getV (vectorV []) x = 0 := by rw [show vectorV [] = [] from rfl]; simp [getV]
theorem law_awake : AM.Fn Tryz.prog 7 [] (.b true) := by
  (refine spec_of_runs Tryz.func7 rfl ?_; simp only [Tryz.f7]; refine ys ?_)
  repeat' (first | refine yw ?_ | ((with_reducible refine Runs.is ?_); first | refine Runs.region (id := 0) ?_ | refine Runs.region (id := 1) ?_ | ((with_reducible refine Runs.isC ?_); refine Runs.cond rfl (zc ?_) (zc ?_) <;> intro hc <;> (try (first | contradiction | (exfalso; omega; done) | (have : hc = trivial := rfl; clear this; clear hc))))) | ((with_reducible refine r_is ?_); first | refine yrb ?_ | (refine r_buildOwn (D := 6) SlF.h ZoF.h zd zB zd rfl ?_; refine r_nn zN zH ?_) | (refine r_build SlF.h ZoF.h zd zB ?_; refine r_n zN ?_)) | fail)
  (refine Runs.weaken (St.Le.freeze_lst 6 rfl) ?_; refine yf ?_)
  repeat' (first | refine yw ?_ | ((with_reducible refine Runs.is ?_); first | refine Runs.region (id := 2) ?_ | refine Runs.region (id := 3) ?_ | ((with_reducible refine Runs.isC ?_); refine Runs.cond rfl (zc ?_) (zc ?_) <;> intro hc <;> (try (first | contradiction | (exfalso; omega; done) | (have : hc = trivial := rfl; clear this; clear hc))))) | ((with_reducible refine r_is ?_); first | refine yrb ?_ | (refine r_buildOwn (D := 13) SlF.h ZoF.h zd zB zd rfl ?_; refine r_nn zN zH ?_) | (refine r_build SlF.h ZoF.h zd zB ?_; refine r_n zN ?_)) | fail)
  (refine Runs.weaken (St.Le.freeze_lst 13 rfl) ?_; refine yf ?_)
  refine Runs.weaken (St.Le.clean (s' := ⟨[.any, .any, .sl false (awC.map prV), .ptr 3 0 0, .any, .any, .any, .any, .any, .any, .any, .any, .any, .any, .any, .any, .any, .any, .any, .any, .any, .any, .any, .any, .any, .any, .any, .any, .any, .any, .any, .any, .any, .any, .any, .any, .any, .any, .any, .any, .any, .any, .any, .any, .any, .any, .any, .any, .any, .any, .any, .any, .any], [(3, .var 35 (viV awV))]⟩) (by repeat' (first | exact V.LeL.nil | refine V.LeL.cons ?_ ?_ | exact V.Le.any _ | exact V.Le.full _ | exact V.Le.refl _)) (by simp [V.usesL, V.uses, AM.look_cons, V.usesL_data, da_prV]) (by simp [AM.sub, AM.look_cons, V.uses, V.uses_data, da_viV]; try rfl)) ?_
  have hA := interval_All false false [] awC zd aw_small zd aw_fine
  have hA1 := interval_All false false awC awC zd aw_small zd aw_fine
  have hV := interval_Views false false awV [] awC hA (by rw [aw_all]; decide) zd aw_plain
  have hV1 := interval_Views false false awV awC awC hA1 (by rw [aw_all1]; decide) zd (by rw [aw_all1]; intro c hc; rw [List.mem_singleton.1 hc]; exact aw_plain awC (by rw [aw_allE]; decide))
  have hS := interval_Span false false awV [] awC _ hV (by rw [List.length_map, aw_all]; decide) aw_mem (by rw [aw_srv]; decide)
  rw [aw_span] at hS
  have hW := interval_Within false false false [] awC (awC.take 1)
  rw [aw_within, List.map_take] at hW
  have hC := interval_Count false false [] awC zd zd (by decide +kernel) (fun _ => by decide +kernel) (by decide +kernel) (fun x => by rw [aw_get]; decide)
  rw [aw_count] at hC
  have h4 := aw_all
  have h1 : ((allB awC awC).map (viewOf awV)).length = 1 := by rw [aw_all1]; rfl
  have hl2 : awC.length = 2 := rfl
  have hsl : ([1, 9] : List Int).length = 2 := rfl
  have hs1 : ([1, 9] : List Int).getD 1 default = 9 := rfl
  have hda : V.dataL (List.take 1 (awC.map prV)) = true := by rw [← List.map_take]; exact dl_prV _
  clear hA1 hV
  generalize ([1, 9] : List Int) = sp at hS hsl hs1
  generalize (allB awC awC).map (viewOf awV) = vs at hV1 h1
  generalize allB [] awC = l at hA h4
  generalize awC = c at *
  generalize awV = v at *
  repeat' (first | refine yw ?_ | ((with_reducible refine Runs.is ?_); first | refine Runs.region (id := 4) ?_ | refine Runs.region (id := 5) ?_ | ((with_reducible refine Runs.isC ?_); refine Runs.cond rfl (zc ?_) (zc ?_) <;> intro hc <;> (try (first | contradiction | (exfalso; omega; done) | (have : hc = trivial := rfl; clear this; clear hc))))) | ((with_reducible refine r_is ?_); first | refine yr ?_ | (refine r_fn rfl (hS) HbF.h zL3 zD ?_; refine r_nn zN zH ?_) | (refine r_fn rfl (hC) HbF.h zL2 zD ?_; refine r_nn zN zH ?_) | (refine r_fn rfl (hA) HbF.h zL2 zD ?_; refine r_nn zN zH ?_) | (refine r_fn rfl (hW) HbF.h zL3 zD ?_; refine r_nn zN zH ?_) | (refine r_fn rfl (hV1) HbF.h zL3 zD ?_; refine r_nn zN zH ?_) | ((with_reducible refine r_gd ?_); (first | refine r_guardPt rfl rfl ?_ ?_ | refine r_guardNt rfl rfl ?_ ?_ | refine r_guard rfl rfl ?_ ?_) <;> intro hG <;> (try (exfalso; omega; done)) <;> refine r_nn zN zH ?_)) | fail)
  all_goals ((refine Runs.ret1 Tryz.func7 rfl zM zD ?_; try exact zX))
  all_goals (exact V.Le.of_eq (by simp [h1]))
end Go.Proofs
namespace Go.Proofs
open Go.AM
attribute [local irreducible] AM.evalR AM.evalD AM.Runs AM.valK AM.dK AM.opK AM.stepR AM.CallS AM.St.Le
theorem drop_any {α : Type} [Inhabited α] {p : α → Bool} {l : List α} {i : Nat} (h : i < l.length) : (l.drop i).any p = (p (l.getD i default) || (l.drop (i + 1)).any p) := by
  rw [drop_getD h, List.any_cons]
theorem ref_In (f : Bool) (l : List Int) (n : Int) : AM.Fn Tryz.prog 25 [.sl f (l.map .i), .i n] (.b (l.any fun y => decide (y = n))) := by
  (refine spec_of_runs Tryz.func25 rfl ?_; simp only [Tryz.f25]; refine ys ?_)
  (refine Runs.lens 0 ?_; refine yl ?_)
  intro hl
  repeat' (first | refine yw ?_ | ((with_reducible refine Runs.is ?_); first | refine Runs.region (id := 0) ?_ | refine Runs.region (id := 1) ?_ | ((with_reducible refine Runs.isC ?_); refine Runs.cond rfl (zc ?_) (zc ?_) <;> intro hc <;> (try (first | contradiction | (exfalso; omega; done) | (have : hc = trivial := rfl; clear this; clear hc))))) | ((with_reducible refine r_is ?_); first | refine yr ?_) | fail)
  refine Runs.loopI (fun i : Nat => l.length - i) (fun i => i ≤ l.length ∧ (l.any fun y => decide (y = n)) = ((l.drop i).any fun y => decide (y = n)))
    (fun i => ⟨[.sl f (l.map .i), .i n, .any, .any, .any, .i (i : Nat), .any, .any, .any, .any, .any, .any, .any, .any, .any, .any, .any, .any], []⟩) 0 (by simp) ?_ ?_
  · (refine St.Le.clean zR zU zV)
  rintro i ⟨hi, he⟩ ih
  rw [he]
  by_cases hlt : i < l.length
  · rw [drop_any hlt]
    rw [drop_any hlt] at he
    repeat' (first | refine yw ?_ | ((with_reducible refine Runs.is ?_); first | refine Runs.region (id := 2) ?_ | refine Runs.region (id := 4) ?_ | refine Runs.region (id := 5) ?_ | refine Runs.region (id := 3) ?_ | ((with_reducible refine Runs.isC ?_); refine Runs.cond rfl (zc ?_) (zc ?_) <;> intro hc <;> (try (first | contradiction | (exfalso; omega; done) | (have : hc = trivial := rfl; clear this; clear hc))))) | ((with_reducible refine r_is ?_); first | refine yr ?_) | fail)
    · (refine Runs.ret1 Tryz.func25 rfl zM zD ?_; try exact zX)
      exact V.Le.of_eq (congrArg V.b (by rw [decide_eq_true hc]; rfl))
    · rw [decide_eq_false hc, Bool.false_or] at he ⊢
      rw [← he]
      refine ih (i + 1) _ ⟨by omega, he⟩ zo ?_
      (refine St.Le.clean zR zU zV)
  · rw [List.drop_of_length_le zo]
    repeat' (first | refine yw ?_ | ((with_reducible refine Runs.is ?_); first | refine Runs.region (id := 2) ?_ | ((with_reducible refine Runs.isC ?_); refine Runs.cond rfl (zc ?_) (zc ?_) <;> intro hc <;> (try (first | contradiction | (exfalso; omega; done) | (have : hc = trivial := rfl; clear this; clear hc))))) | ((with_reducible refine r_is ?_); first | refine yr ?_) | fail)
    repeat' (first | refine yw ?_ | ((with_reducible refine Runs.is ?_); first | refine Runs.region (id := 6) ?_ | ((with_reducible refine Runs.isC ?_); refine Runs.cond rfl (zc ?_) (zc ?_) <;> intro hc <;> (try (first | contradiction | (exfalso; omega; done) | (have : hc = trivial := rfl; clear this; clear hc))))) | ((with_reducible refine r_is ?_); first | refine yr ?_) | fail)
    (refine Runs.ret1 Tryz.func25 rfl zM zD ?_; try exact zX)
def laterB (a b : WeightEntry) : Bool := if a.version ≠ b.version then decide (b.version < a.version) else if a.admin ≠ b.admin then decide (b.admin < a.admin) else decide (b.number < a.number)
theorem ref_later (a b : WeightEntry) : AM.Fn Tryz.prog 92 [weV a, weV b] (.b (laterB a b)) := by
  unfold laterB
  (refine spec_of_runs Tryz.func92 rfl ?_; simp only [Tryz.f92]; refine ys ?_)
  repeat' (first | refine yw ?_ | ((with_reducible refine Runs.is ?_); first | refine Runs.region ?_ | ((with_reducible refine Runs.isC ?_); refine Runs.cond rfl (zc ?_) (zc ?_) <;> intro hc <;> (try (first | contradiction | (exfalso; omega; done) | (have : hc = trivial := rfl; clear this; clear hc))))) | ((with_reducible refine r_is ?_); first | refine yr ?_) | fail)
  · (refine Runs.ret1 Tryz.func92 rfl zM zD ?_; try exact zX)
    rw [if_pos (by assumption)]; exact V.Le.refl _
  · (refine Runs.ret1 Tryz.func92 rfl zM zD ?_; try exact zX)
    rw [if_neg zo, if_pos (by assumption)]; exact V.Le.refl _
  · (refine Runs.ret1 Tryz.func92 rfl zM zD ?_; try exact zX)
    rw [if_neg zo, if_neg zo]; exact V.Le.refl _
def insStep (n : Int) (s : List Int × Bool) (y : Int) : List Int × Bool :=
  let t := if s.2 = false ∧ n ≤ y then (s.1 ++ [n], true) else s
  if y ≠ n then (t.1 ++ [y], t.2) else t
def insR (l : List Int) (n : Int) : List Int := let s := l.foldl (insStep n) ([], false); if s.2 = false then s.1 ++ [n] else s.1
theorem insStep_len (n : Int) (s : List Int × Bool) (y : Int) : (insStep n s y).1.length ≤ s.1.length + 2 := by
  unfold insStep
  dsimp only
  split <;> split <;> simp
theorem insFold_len (n : Int) (l : List Int) (k : Nat) (hk : k ≤ l.length) : ((l.take k).foldl (insStep n) ([], false)).1.length ≤ 2 * k := by
  induction k with
  | zero => simp
  | succ k ih =>
    rw [foldl_take zo]
    have := ih zo
    have := insStep_len n ((l.take k).foldl (insStep n) ([], false)) (l.getD k default)
    omega
theorem insStep_a {n y : Int} {acc : List Int} (h1 : n ≤ y) (h2 : ¬ y = n) : insStep n (acc, false) y = (acc ++ [n] ++ [y], true) := by simp [insStep, h1, h2]
theorem insStep_b {n y : Int} {acc : List Int} (h1 : n ≤ y) (h2 : y = n) : insStep n (acc, false) y = (acc ++ [n], true) := by simp [insStep, h2]
theorem insStep_c {n y : Int} {acc : List Int} (h1 : y < n) (h2 : ¬ y = n) : insStep n (acc, false) y = (acc ++ [y], false) := by
  have : ¬ n ≤ y := by omega
  simp [insStep, h2, this]
theorem insStep_d {n y : Int} {acc : List Int} (h2 : ¬ y = n) : insStep n (acc, true) y = (acc ++ [y], true) := by simp [insStep, h2]
theorem insStep_e {n y : Int} {acc : List Int} (h2 : y = n) : insStep n (acc, true) y = (acc, true) := by simp [insStep, h2]
theorem ref_Insert (f : Bool) (l : List Int) (n : Int) (hl : l.length ≤ 1000000) : AM.Fn Tryz.prog 45 [.sl f (l.map .i), .i n] (.sl false ((insR l n).map .i)) := by
  (refine spec_of_runs Tryz.func45 rfl ?_; simp only [Tryz.f45]; refine ys ?_)
  repeat' (first | refine yw ?_ | ((with_reducible refine Runs.is ?_); first | refine Runs.region (id := 0) ?_ | refine Runs.region (id := 1) ?_ | refine Runs.region (id := 2) ?_ | refine Runs.region (id := 3) ?_ | ((with_reducible refine Runs.isC ?_); refine Runs.cond rfl (zc ?_) (zc ?_) <;> intro hc <;> (try (first | contradiction | (exfalso; omega; done) | (have : hc = trivial := rfl; clear this; clear hc))))) | ((with_reducible refine r_is ?_); first | refine yr ?_) | fail)
  (refine Runs.weaken (St.Le.nil 5 3 1 5 zd rfl rfl zE) ?_)
  refine Runs.loopI (fun k : Nat => l.length - k) (fun k => k ≤ l.length)
    (fun k => ⟨[.sl f (l.map .i), .i n, .any, .any, .any, .own 5, .b ((l.take k).foldl (insStep n) ([], false)).2, .i (k : Nat), .any, .any, .any, .any, .any, .any, .any, .any, .any, .any, .any, .any, .any, .any, .any, .any, .any, .any, .any, .any, .any, .any, .any, .any, .any, .any, .any, .any, .any, .any, .any, .any, .any, .any, .any, .any, .any, .any, .any, .any], [(5, .lst 3 1 (((l.take k).foldl (insStep n) ([], false)).1.map .i))]⟩) 0 (by simp) ?_ ?_
  · (refine St.Le.clean zR zU zV)
  rintro k hk ih
  have hst := fun (h : k < l.length) => foldl_take (g := insStep n) (s := ([], false)) h
  have hend : l.length ≤ k → insR l n = (if ((l.take k).foldl (insStep n) ([], false)).2 = false then ((l.take k).foldl (insStep n) ([], false)).1 ++ [n] else ((l.take k).foldl (insStep n) ([], false)).1) := fun h => by rw [List.take_of_length_le h]; rfl
  have hlen := insFold_len n l k hk
  generalize (l.take k).foldl (insStep n) ([], false) = s at hst hend hlen ⊢
  obtain ⟨acc, put⟩ := s
  dsimp only at hst hend hlen ⊢
  by_cases hlt : k < l.length
  · have hst2 := hst hlt
    cases put
    · repeat' (first | refine yw ?_ | ((with_reducible refine Runs.is ?_); first | refine Runs.region (id := 4) ?_ | refine Runs.region (id := 6) ?_ | refine Runs.region (id := 7) ?_ | refine Runs.region (id := 8) ?_ | refine Runs.region (id := 9) ?_ | refine Runs.region (id := 10) ?_ | refine Runs.region (id := 5) ?_ | ((with_reducible refine Runs.isC ?_); refine Runs.cond rfl (zc ?_) (zc ?_) <;> intro hc <;> (try (first | contradiction | (exfalso; omega; done) | (have : hc = trivial := rfl; clear this; clear hc))))) | ((with_reducible refine r_is ?_); first | refine yr ?_ | (refine r_append_full SlF.h SlF.s ZoF.h zd rfl rfl zC zJ zS rfl (fun hn => ?_) (fun hn => ?_) <;> refine r_nn zN zH ?_) | ((with_reducible refine r_gd ?_); (first | refine r_guardPt rfl rfl ?_ ?_ | refine r_guardNt rfl rfl ?_ ?_ | refine r_guard rfl rfl ?_ ?_) <;> intro hG <;> (try (exfalso; omega; done)) <;> refine r_nn zN zH ?_)) | fail)
      all_goals (repeat' (first | refine yw ?_ | ((with_reducible refine Runs.is ?_); first | refine Runs.region (id := 5) ?_ | ((with_reducible refine Runs.isC ?_); refine Runs.cond rfl (zc ?_) (zc ?_) <;> intro hc <;> (try (first | contradiction | (exfalso; omega; done) | (have : hc = trivial := rfl; clear this; clear hc))))) | ((with_reducible refine r_is ?_); first | refine yr ?_) | fail))
      all_goals (refine ih (k + 1) _ zo zo ?_)
      · rw [hst2, insStep_a (by assumption) (by assumption)]
        (refine St.Le.clean zR zU zV)
      · rw [hst2, insStep_b (by assumption) (by assumption)]
        (refine St.Le.clean zR zU zV)
      · rw [hst2, insStep_c (by assumption) (by assumption)]
        (refine St.Le.clean zR zU zV)
    · repeat' (first | refine yw ?_ | ((with_reducible refine Runs.is ?_); first | refine Runs.region (id := 4) ?_ | refine Runs.region (id := 6) ?_ | refine Runs.region (id := 7) ?_ | refine Runs.region (id := 8) ?_ | refine Runs.region (id := 9) ?_ | refine Runs.region (id := 10) ?_ | refine Runs.region (id := 5) ?_ | ((with_reducible refine Runs.isC ?_); refine Runs.cond rfl (zc ?_) (zc ?_) <;> intro hc <;> (try (first | contradiction | (exfalso; omega; done) | (have : hc = trivial := rfl; clear this; clear hc))))) | ((with_reducible refine r_is ?_); first | refine yr ?_ | (refine r_append_full SlF.h SlF.s ZoF.h zd rfl rfl zC zJ zS rfl (fun hn => ?_) (fun hn => ?_) <;> refine r_nn zN zH ?_) | ((with_reducible refine r_gd ?_); (first | refine r_guardPt rfl rfl ?_ ?_ | refine r_guardNt rfl rfl ?_ ?_ | refine r_guard rfl rfl ?_ ?_) <;> intro hG <;> (try (exfalso; omega; done)) <;> refine r_nn zN zH ?_)) | fail)
      all_goals (repeat' (first | refine yw ?_ | ((with_reducible refine Runs.is ?_); first | refine Runs.region (id := 5) ?_ | ((with_reducible refine Runs.isC ?_); refine Runs.cond rfl (zc ?_) (zc ?_) <;> intro hc <;> (try (first | contradiction | (exfalso; omega; done) | (have : hc = trivial := rfl; clear this; clear hc))))) | ((with_reducible refine r_is ?_); first | refine yr ?_) | fail))
      all_goals (refine ih (k + 1) _ zo zo ?_)
      · rw [hst2, insStep_d (by assumption)]
        (refine St.Le.clean zR zU zV)
      · rw [hst2, insStep_e (by assumption)]
        (refine St.Le.clean zR zU zV)
  · rw [hend zo]
    cases put
    · repeat' (first | refine yw ?_ | ((with_reducible refine Runs.is ?_); first | refine Runs.region (id := 4) ?_ | ((with_reducible refine Runs.isC ?_); refine Runs.cond rfl (zc ?_) (zc ?_) <;> intro hc <;> (try (first | contradiction | (exfalso; omega; done) | (have : hc = trivial := rfl; clear this; clear hc))))) | ((with_reducible refine r_is ?_); first | refine yr ?_) | fail)
      repeat' (first | refine yw ?_ | ((with_reducible refine Runs.is ?_); first | refine Runs.region (id := 11) ?_ | refine Runs.region (id := 12) ?_ | refine Runs.region (id := 13) ?_ | ((with_reducible refine Runs.isC ?_); refine Runs.cond rfl (zc ?_) (zc ?_) <;> intro hc <;> (try (first | contradiction | (exfalso; omega; done) | (have : hc = trivial := rfl; clear this; clear hc))))) | ((with_reducible refine r_is ?_); first | refine yr ?_ | (refine r_append_full SlF.h SlF.s ZoF.h zd rfl rfl zC zJ zS rfl (fun hn => ?_) (fun hn => ?_) <;> refine r_nn zN zH ?_)) | fail)
      exact Runs.ret_frz Tryz.func45 rfl rfl rfl (by simp)
    · repeat' (first | refine yw ?_ | ((with_reducible refine Runs.is ?_); first | refine Runs.region (id := 4) ?_ | ((with_reducible refine Runs.isC ?_); refine Runs.cond rfl (zc ?_) (zc ?_) <;> intro hc <;> (try (first | contradiction | (exfalso; omega; done) | (have : hc = trivial := rfl; clear this; clear hc))))) | ((with_reducible refine r_is ?_); first | refine yr ?_) | fail)
      repeat' (first | refine yw ?_ | ((with_reducible refine Runs.is ?_); first | refine Runs.region (id := 11) ?_ | refine Runs.region (id := 12) ?_ | refine Runs.region (id := 13) ?_ | ((with_reducible refine Runs.isC ?_); refine Runs.cond rfl (zc ?_) (zc ?_) <;> intro hc <;> (try (first | contradiction | (exfalso; omega; done) | (have : hc = trivial := rfl; clear this; clear hc))))) | ((with_reducible refine r_is ?_); first | refine yr ?_ | (refine r_append_full SlF.h SlF.s ZoF.h zd rfl rfl zC zJ zS rfl (fun hn => ?_) (fun hn => ?_) <;> refine r_nn zN zH ?_)) | fail)
      exact Runs.ret_frz Tryz.func45 rfl rfl rfl (by simp)
def weightR : List WeightEntry → Int → Int
  | [], _ => 1
  | w :: ws, x => if w.server = x then w.weight else weightR ws x
theorem ref_weight (s : Summary) (x : Int) (hw : s.weights.length ≤ 1000000) : AM.Fn Tryz.prog 67 [suV s, .i x] (.i (weightR s.weights x)) := by
  obtain ⟨J, R, W, ru, ver, adm, num⟩ := s
  dsimp only at hw ⊢
  (refine spec_of_runs Tryz.func67 rfl ?_; simp only [Tryz.f67]; refine ys ?_)
  repeat' (first | refine yw ?_ | ((with_reducible refine Runs.is ?_); first | refine Runs.region (id := 0) ?_ | refine Runs.region (id := 1) ?_ | ((with_reducible refine Runs.isC ?_); refine Runs.cond rfl (zc ?_) (zc ?_) <;> intro hc <;> (try (first | contradiction | (exfalso; omega; done) | (have : hc = trivial := rfl; clear this; clear hc))))) | ((with_reducible refine r_is ?_); first | refine yr ?_) | fail)
  refine Runs.loopI (fun i : Nat => W.length - i) (fun i => i ≤ W.length ∧ weightR W x = weightR (W.drop i) x)
    (fun i => ⟨[.any, .i x, .ptr 2 0 0, .any, .any, .i (i : Nat), .any, .any, .any, .any, .any, .any, .any, .any, .any, .any, .any, .any, .any, .any, .any, .any, .any, .any, .any, .any, .any], [(2, .var 78 (suV ⟨J, R, W, ru, ver, adm, num⟩))]⟩) 0 (by simp) ?_ ?_
  · (refine St.Le.clean zR zU zV)
  rintro i ⟨hi, he⟩ ih
  by_cases hlt : i < W.length
  · have hd : weightR (W.drop i) x = (if (W.getD i default).server = x then (W.getD i default).weight else weightR (W.drop (i + 1)) x) := by rw [drop_getD hlt]; rfl
    rw [he, hd]
    repeat' (first | refine yw ?_ | ((with_reducible refine Runs.is ?_); first | refine Runs.region (id := 2) ?_ | refine Runs.region (id := 4) ?_ | refine Runs.region (id := 5) ?_ | refine Runs.region (id := 3) ?_ | ((with_reducible refine Runs.isC ?_); refine Runs.cond rfl (zc ?_) (zc ?_) <;> intro hc <;> (try (first | contradiction | (exfalso; omega; done) | (have : hc = trivial := rfl; clear this; clear hc))))) | ((with_reducible refine r_is ?_); first | refine yr ?_) | fail)
    · (refine Runs.ret1 Tryz.func67 rfl zM zD ?_; try exact zX)
      rw [if_pos (by assumption)]; exact V.Le.refl _
    · rw [if_neg (by assumption)] at hd ⊢
      rw [← hd, ← he]
      refine ih (i + 1) _ ⟨by omega, by rw [he, hd]⟩ zo ?_
      (refine St.Le.clean zR zU zV)
  · rw [he, List.drop_of_length_le zo]
    repeat' (first | refine yw ?_ | ((with_reducible refine Runs.is ?_); first | refine Runs.region (id := 2) ?_ | ((with_reducible refine Runs.isC ?_); refine Runs.cond rfl (zc ?_) (zc ?_) <;> intro hc <;> (try (first | contradiction | (exfalso; omega; done) | (have : hc = trivial := rfl; clear this; clear hc))))) | ((with_reducible refine r_is ?_); first | refine yr ?_) | fail)
    repeat' (first | refine yw ?_ | ((with_reducible refine Runs.is ?_); first | refine Runs.region (id := 6) ?_ | ((with_reducible refine Runs.isC ?_); refine Runs.cond rfl (zc ?_) (zc ?_) <;> intro hc <;> (try (first | contradiction | (exfalso; omega; done) | (have : hc = trivial := rfl; clear this; clear hc))))) | ((with_reducible refine r_is ?_); first | refine yr ?_) | fail)
    (refine Runs.ret1 Tryz.func67 rfl zM zD ?_; try exact zX)
end Go.Proofs
namespace Go.Proofs
open Go.AM
attribute [local irreducible] AM.evalR AM.evalD AM.Runs AM.valK AM.dK AM.opK AM.stepR AM.CallS AM.St.Le
end Go.Proofs
namespace Go.Proofs
open Go.AM
attribute [local irreducible] AM.evalR AM.evalD AM.Runs AM.valK AM.dK AM.opK AM.stepR AM.CallS AM.St.Le
end Go.Proofs
namespace Go.Proofs
open Go.AM
attribute [local irreducible] AM.evalR AM.evalD AM.Runs AM.valK AM.dK AM.opK AM.stepR AM.CallS AM.St.Le
end Go.Proofs
namespace Go.Proofs
open Go.AM
attribute [local irreducible] AM.evalR AM.evalD AM.Runs AM.valK AM.dK AM.opK AM.stepR AM.CallS AM.St.Le
def weighStep (w : WeightEntry) (s : List WeightEntry × Bool) (x : WeightEntry) : List WeightEntry × Bool :=
  if x.server = w.server then (s.1 ++ [if laterB w x = true then w else x], true)
  else if s.2 = false ∧ w.server < x.server then (s.1 ++ [w, x], true) else (s.1 ++ [x], s.2)
def weighR (l : List WeightEntry) (w : WeightEntry) : List WeightEntry := let s := l.foldl (weighStep w) ([], false); if s.2 = false then s.1 ++ [w] else s.1
theorem weighStep_len (w : WeightEntry) (s : List WeightEntry × Bool) (x : WeightEntry) : (weighStep w s x).1.length ≤ s.1.length + 2 := by
  unfold weighStep
  split
  · simp
  · split <;> simp
theorem weighFold_len (w : WeightEntry) (l : List WeightEntry) (k : Nat) (hk : k ≤ l.length) : ((l.take k).foldl (weighStep w) ([], false)).1.length ≤ 2 * k := by
  induction k with
  | zero => simp
  | succ k ih =>
    rw [foldl_take zo]
    have := ih zo
    have := weighStep_len w ((l.take k).foldl (weighStep w) ([], false)) (l.getD k default)
    omega
theorem weighStep_a {w x : WeightEntry} {acc : List WeightEntry} {put : Bool} (h1 : x.server = w.server) (h2 : laterB w x = true) : weighStep w (acc, put) x = (acc ++ [w], true) := by simp [weighStep, h1, h2]
theorem weighStep_b {w x : WeightEntry} {acc : List WeightEntry} {put : Bool} (h1 : x.server = w.server) (h2 : laterB w x = false) : weighStep w (acc, put) x = (acc ++ [x], true) := by simp [weighStep, h1, h2]
theorem weighStep_c {w x : WeightEntry} {acc : List WeightEntry} (h1 : ¬ x.server = w.server) (h2 : w.server < x.server) : weighStep w (acc, false) x = (acc ++ [w, x], true) := by simp [weighStep, h1, h2]
theorem weighStep_d {w x : WeightEntry} {acc : List WeightEntry} (h1 : ¬ x.server = w.server) (h2 : ¬ w.server < x.server) : weighStep w (acc, false) x = (acc ++ [x], false) := by simp [weighStep, h1, h2]
theorem weighStep_e {w x : WeightEntry} {acc : List WeightEntry} (h1 : ¬ x.server = w.server) : weighStep w (acc, true) x = (acc ++ [x], true) := by simp [weighStep, h1]
theorem ref_Weigh (f : Bool) (l : List WeightEntry) (w : WeightEntry) (hl : l.length ≤ 1000000) : AM.Fn Tryz.prog 91 [.sl f (l.map weV), weV w] (.sl false ((weighR l w).map weV)) := by
  (refine spec_of_runs Tryz.func91 rfl ?_; simp only [Tryz.f91]; refine ys ?_)
  repeat' (first | refine yw ?_ | ((with_reducible refine Runs.is ?_); first | refine Runs.region (id := 0) ?_ | refine Runs.region (id := 1) ?_ | refine Runs.region (id := 2) ?_ | refine Runs.region (id := 3) ?_ | ((with_reducible refine Runs.isC ?_); refine Runs.cond rfl (zc ?_) (zc ?_) <;> intro hc <;> (try (first | contradiction | (exfalso; omega; done) | (have : hc = trivial := rfl; clear this; clear hc))))) | ((with_reducible refine r_is ?_); first | refine yr ?_) | fail)
  (refine Runs.weaken (St.Le.nil 5 98 5 5 zd rfl rfl zE) ?_)
  refine Runs.loopI (fun k : Nat => l.length - k) (fun k => k ≤ l.length)
    (fun k => ⟨[.sl f (l.map weV), .any, .any, .ptr 3 0 0, .any, .own 5, .b ((l.take k).foldl (weighStep w) ([], false)).2, .i (k : Nat), .any, .any, .any, .any, .any, .any, .any, .any, .any, .any, .any, .any, .any, .any, .any, .any, .any, .any, .any, .any, .any, .any, .any, .any, .any, .any, .any, .any, .any, .any, .any, .any, .any, .any, .any, .any, .any, .any, .any, .any, .any, .any, .any, .any, .any, .any, .any, .any, .any, .any, .any, .any, .any, .any, .any, .any, .any, .any, .any, .any, .any, .any, .any, .any, .any, .any, .any, .any, .any, .any, .any, .any, .any, .any, .any, .any, .any, .any], [(5, .lst 98 5 (((l.take k).foldl (weighStep w) ([], false)).1.map weV)), (3, .var 98 (weV w))]⟩) 0 (by simp) ?_ ?_
  · (refine St.Le.clean zR zU zV)
  rintro k hk ih
  have hst := fun (h : k < l.length) => foldl_take (g := weighStep w) (s := ([], false)) h
  have hend : l.length ≤ k → weighR l w = (if ((l.take k).foldl (weighStep w) ([], false)).2 = false then ((l.take k).foldl (weighStep w) ([], false)).1 ++ [w] else ((l.take k).foldl (weighStep w) ([], false)).1) := fun h => by rw [List.take_of_length_le h]; rfl
  have hlen := weighFold_len w l k hk
  generalize (l.take k).foldl (weighStep w) ([], false) = s at hst hend hlen ⊢
  obtain ⟨acc, put⟩ := s
  dsimp only at hst hend hlen ⊢
  by_cases hlt : k < l.length
  · have hst2 := hst hlt
    have hL := ref_later w (l.getD k default)
    cases put
    · repeat' (first | refine yw ?_ | ((with_reducible refine Runs.is ?_); first | refine Runs.region (id := 4) ?_ | refine Runs.drawn (id := 7) mixed zK ?_ | refine Runs.region (id := 8) ?_ | refine Runs.region (id := 9) ?_ | refine Runs.drawn (id := 10) mixed zK ?_ | refine Runs.region (id := 11) ?_ | refine Runs.region (id := 12) ?_ | refine Runs.drawn (id := 13) mixed zK ?_ | refine Runs.region (id := 6) ?_ | refine Runs.region (id := 5) ?_ | ((with_reducible refine Runs.isC ?_); refine Runs.cond rfl (zc ?_) (zc ?_) <;> intro hc <;> (try (first | contradiction | (exfalso; omega; done) | (have : hc = trivial := rfl; clear this; clear hc))))) | ((with_reducible refine r_is ?_); first | refine yr ?_ | (refine r_append_full SlF.h SlF.s ZoF.h zd rfl rfl zC zJ zS rfl (fun hn => ?_) (fun hn => ?_) <;> refine r_nn zN zH ?_)) | ((with_reducible refine d_is ?_); first | refine yd ?_ | (refine d_fn rfl (hL) HbF.h zL2 zD ?_; refine d_nn zN zH ?_) | ((with_reducible refine d_gd ?_); (first | refine d_guardPt rfl rfl ?_ ?_ | refine d_guardNt rfl rfl ?_ ?_ | refine d_guard rfl rfl ?_ ?_) <;> intro hG <;> (try (exfalso; omega; done)) <;> refine d_nn zN zH ?_)) | fail)
      · refine ih (k + 1) _ zo zo ?_
        rw [hst2, weighStep_a (by assumption) (by assumption)]
        (refine St.Le.clean zR zU zV)
      · refine ih (k + 1) _ zo zo ?_
        rw [hst2, weighStep_b (by assumption) (by assumption)]
        (refine St.Le.clean zR zU zV)
      · refine Runs.drawnT [] 7 mixed zK zd ?_
        dsimp only [List.take, List.drop]
        repeat' (first | (with_reducible refine And.intro (by intro a i h; cases h) ?_) | refine yw ?_ | ((with_reducible refine Runs.is ?_); first | (refine Runs.drawnT (id := 14) [] 7 mixed zK (by decide +kernel) ?_; dsimp only [List.take, List.drop]) | refine Runs.drawn (id := 14) mixed zK ?_ | ((with_reducible refine Runs.isC ?_); refine Runs.cond rfl (zc ?_) (zc ?_) <;> intro hc <;> (try (first | contradiction | (exfalso; omega; done) | (have : hc = trivial := rfl; clear this; clear hc))))) | ((with_reducible refine r_is ?_); first | refine yr ?_ | (refine r_append_full SlF.h SlF.s ZoF.h zd rfl rfl zC zJ zS rfl (fun hn => ?_) (fun hn => ?_) <;> refine r_nn zN zH ?_)) | ((with_reducible refine d_is ?_); first | refine yd ?_) | fail)
        refine And.intro (by intro a i h; cases h) ?_
        refine yr ?_
        repeat' (first | refine yw ?_ | ((with_reducible refine Runs.is ?_); first | refine Runs.region (id := 15) ?_ | ((with_reducible refine Runs.isC ?_); refine Runs.cond rfl (zc ?_) (zc ?_) <;> intro hc <;> (try (first | contradiction | (exfalso; omega; done) | (have : hc = trivial := rfl; clear this; clear hc))))) | ((with_reducible refine r_is ?_); first | refine yr ?_) | fail)
        repeat' (first | refine yw ?_ | ((with_reducible refine Runs.is ?_); first | refine Runs.region (id := 5) ?_ | ((with_reducible refine Runs.isC ?_); refine Runs.cond rfl (zc ?_) (zc ?_) <;> intro hc <;> (try (first | contradiction | (exfalso; omega; done) | (have : hc = trivial := rfl; clear this; clear hc))))) | ((with_reducible refine r_is ?_); first | refine yr ?_) | fail)
        refine ih (k + 1) _ zo zo ?_
        rw [hst2, weighStep_c (by assumption) (by assumption)]
        (refine St.Le.clean zR zU zV)
      · repeat' (first | refine yw ?_ | ((with_reducible refine Runs.is ?_); first | refine Runs.region (id := 6) ?_ | refine Runs.region (id := 5) ?_ | ((with_reducible refine Runs.isC ?_); refine Runs.cond rfl (zc ?_) (zc ?_) <;> intro hc <;> (try (first | contradiction | (exfalso; omega; done) | (have : hc = trivial := rfl; clear this; clear hc))))) | ((with_reducible refine r_is ?_); first | refine yr ?_ | (refine r_append_full SlF.h SlF.s ZoF.h zd rfl rfl zC zJ zS rfl (fun hn => ?_) (fun hn => ?_) <;> refine r_nn zN zH ?_)) | fail)
        refine ih (k + 1) _ zo zo ?_
        rw [hst2, weighStep_d (by assumption) zo]
        (refine St.Le.clean zR zU zV)
    · repeat' (first | refine yw ?_ | ((with_reducible refine Runs.is ?_); first | refine Runs.region (id := 4) ?_ | refine Runs.drawn (id := 7) mixed zK ?_ | refine Runs.region (id := 8) ?_ | refine Runs.region (id := 9) ?_ | refine Runs.drawn (id := 10) mixed zK ?_ | refine Runs.region (id := 11) ?_ | refine Runs.region (id := 12) ?_ | refine Runs.drawn (id := 13) mixed zK ?_ | refine Runs.region (id := 6) ?_ | refine Runs.region (id := 5) ?_ | ((with_reducible refine Runs.isC ?_); refine Runs.cond rfl (zc ?_) (zc ?_) <;> intro hc <;> (try (first | contradiction | (exfalso; omega; done) | (have : hc = trivial := rfl; clear this; clear hc))))) | ((with_reducible refine r_is ?_); first | refine yr ?_ | (refine r_append_full SlF.h SlF.s ZoF.h zd rfl rfl zC zJ zS rfl (fun hn => ?_) (fun hn => ?_) <;> refine r_nn zN zH ?_)) | ((with_reducible refine d_is ?_); first | refine yd ?_ | (refine d_fn rfl (hL) HbF.h zL2 zD ?_; refine d_nn zN zH ?_) | ((with_reducible refine d_gd ?_); (first | refine d_guardPt rfl rfl ?_ ?_ | refine d_guardNt rfl rfl ?_ ?_ | refine d_guard rfl rfl ?_ ?_) <;> intro hG <;> (try (exfalso; omega; done)) <;> refine d_nn zN zH ?_)) | fail)
      · refine ih (k + 1) _ zo zo ?_
        rw [hst2, weighStep_a (by assumption) (by assumption)]
        (refine St.Le.clean zR zU zV)
      · refine ih (k + 1) _ zo zo ?_
        rw [hst2, weighStep_b (by assumption) (by assumption)]
        (refine St.Le.clean zR zU zV)
      · repeat' (first | refine yw ?_ | ((with_reducible refine Runs.is ?_); first | refine Runs.region (id := 6) ?_ | refine Runs.region (id := 5) ?_ | ((with_reducible refine Runs.isC ?_); refine Runs.cond rfl (zc ?_) (zc ?_) <;> intro hc <;> (try (first | contradiction | (exfalso; omega; done) | (have : hc = trivial := rfl; clear this; clear hc))))) | ((with_reducible refine r_is ?_); first | refine yr ?_ | (refine r_append_full SlF.h SlF.s ZoF.h zd rfl rfl zC zJ zS rfl (fun hn => ?_) (fun hn => ?_) <;> refine r_nn zN zH ?_)) | fail)
        refine ih (k + 1) _ zo zo ?_
        rw [hst2, weighStep_e (by assumption)]
        (refine St.Le.clean zR zU zV)
  · rw [hend zo]
    cases put
    · repeat' (first | refine yw ?_ | ((with_reducible refine Runs.is ?_); first | refine Runs.region (id := 4) ?_ | ((with_reducible refine Runs.isC ?_); refine Runs.cond rfl (zc ?_) (zc ?_) <;> intro hc <;> (try (first | contradiction | (exfalso; omega; done) | (have : hc = trivial := rfl; clear this; clear hc))))) | ((with_reducible refine r_is ?_); first | refine yr ?_) | fail)
      repeat' (first | refine yw ?_ | ((with_reducible refine Runs.is ?_); first | refine Runs.region (id := 16) ?_ | refine Runs.region (id := 17) ?_ | refine Runs.region (id := 18) ?_ | ((with_reducible refine Runs.isC ?_); refine Runs.cond rfl (zc ?_) (zc ?_) <;> intro hc <;> (try (first | contradiction | (exfalso; omega; done) | (have : hc = trivial := rfl; clear this; clear hc))))) | ((with_reducible refine r_is ?_); first | refine yr ?_ | (refine r_append_full SlF.h SlF.s ZoF.h zd rfl rfl zC zJ zS rfl (fun hn => ?_) (fun hn => ?_) <;> refine r_nn zN zH ?_)) | fail)
      exact Runs.ret_frz Tryz.func91 rfl rfl rfl (by simp)
    · repeat' (first | refine yw ?_ | ((with_reducible refine Runs.is ?_); first | refine Runs.region (id := 4) ?_ | ((with_reducible refine Runs.isC ?_); refine Runs.cond rfl (zc ?_) (zc ?_) <;> intro hc <;> (try (first | contradiction | (exfalso; omega; done) | (have : hc = trivial := rfl; clear this; clear hc))))) | ((with_reducible refine r_is ?_); first | refine yr ?_) | fail)
      repeat' (first | refine yw ?_ | ((with_reducible refine Runs.is ?_); first | refine Runs.region (id := 16) ?_ | refine Runs.region (id := 17) ?_ | refine Runs.region (id := 18) ?_ | ((with_reducible refine Runs.isC ?_); refine Runs.cond rfl (zc ?_) (zc ?_) <;> intro hc <;> (try (first | contradiction | (exfalso; omega; done) | (have : hc = trivial := rfl; clear this; clear hc))))) | ((with_reducible refine r_is ?_); first | refine yr ?_ | (refine r_append_full SlF.h SlF.s ZoF.h zd rfl rfl zC zJ zS rfl (fun hn => ?_) (fun hn => ?_) <;> refine r_nn zN zH ?_)) | fail)
      exact Runs.ret_frz Tryz.func91 rfl rfl rfl (by simp)
end Go.Proofs
namespace Go.Proofs
open Go.AM
attribute [local irreducible] AM.evalR AM.evalD AM.Runs AM.valK AM.dK AM.opK AM.stepR AM.CallS AM.St.Le
theorem insFold_len1 (n : Int) (l : List Int) : ∀ (s : List Int × Bool) (m : Nat), s.1.length ≤ m + (if s.2 then 1 else 0) → (l.foldl (insStep n) s).1.length ≤ m + l.length + (if (l.foldl (insStep n) s).2 then 1 else 0) := by
  induction l with
  | nil => intro s m h; exact h
  | cons y l ih =>
    intro s m h
    have := ih (insStep n s y) (m + 1) (by
      obtain ⟨t, put⟩ := s
      cases put <;> unfold insStep <;> dsimp only at h ⊢ <;> split <;> split <;> simp at * <;> omega)
    rw [List.foldl_cons, List.length_cons]
    omega
theorem insR_len (l : List Int) (n : Int) : (insR l n).length ≤ l.length + 1 := by
  have h := insFold_len1 n l ([], false) 0 (by simp)
  unfold insR
  dsimp only
  split
  · rename_i h2; rw [h2] at h; simp at h ⊢; omega
  · rename_i h2; simp at h2; rw [h2] at h; simp at h ⊢; omega
theorem weighFold_len1 (w : WeightEntry) (l : List WeightEntry) : ∀ (s : List WeightEntry × Bool) (m : Nat), s.1.length ≤ m + (if s.2 then 1 else 0) → (l.foldl (weighStep w) s).1.length ≤ m + l.length + (if (l.foldl (weighStep w) s).2 then 1 else 0) := by
  induction l with
  | nil => intro s m h; exact h
  | cons y l ih =>
    intro s m h
    have := ih (weighStep w s y) (m + 1) (by
      obtain ⟨t, put⟩ := s
      cases put <;> unfold weighStep <;> dsimp only at h ⊢ <;> (repeat' split) <;> simp at * <;> omega)
    rw [List.foldl_cons, List.length_cons]
    omega
theorem weighR_len (l : List WeightEntry) (w : WeightEntry) : (weighR l w).length ≤ l.length + 1 := by
  have h := weighFold_len1 w l ([], false) 0 (by simp)
  unfold weighR
  dsimp only
  split
  · rename_i h2; rw [h2] at h; simp at h ⊢; omega
  · rename_i h2; simp at h2; rw [h2] at h; simp at h ⊢; omega
theorem foldl_len {α β : Type} {f : List α → β → List α} (hf : ∀ l x, (f l x).length ≤ l.length + 1) : ∀ (xs : List β) (l : List α), (xs.foldl f l).length ≤ l.length + xs.length
  | [], l => by simp
  | x :: xs, l => by
    have := foldl_len hf xs (f l x)
    have := hf l x
    rw [List.foldl_cons, List.length_cons]; omega
theorem ref_Initial (g : View) (hg : g.members.length ≤ 1000000) : AM.Fn Tryz.prog 68 [viV g] (suV (initS g)) := by
  obtain ⟨ms, r⟩ := g
  dsimp only at hg
  (refine spec_of_runs Tryz.func68 rfl ?_; simp only [Tryz.f68]; refine ys ?_)
  repeat' (first | refine yw ?_ | ((with_reducible refine Runs.is ?_); first | refine Runs.region (id := 0) ?_ | refine Runs.region (id := 1) ?_ | refine Runs.region (id := 2) ?_ | ((with_reducible refine Runs.isC ?_); refine Runs.cond rfl (zc ?_) (zc ?_) <;> intro hc <;> (try (first | contradiction | (exfalso; omega; done) | (have : hc = trivial := rfl; clear this; clear hc))))) | ((with_reducible refine r_is ?_); first | refine yr ?_) | fail)
  refine Runs.weaken (St.Le.nilVar 21 3 0 3 1 zd rfl rfl rfl) ?_
  refine Runs.weaken (St.Le.nilVar 31 3 2 98 5 zd rfl rfl rfl) ?_
  refine Runs.loopI (fun k : Nat => ms.length - k) (fun k => k ≤ ms.length)
    (fun k => ⟨[.any, .ptr 1 0 0, .ptr 2 0 0, .ptr 3 0 0, .i (k : Nat), .any, .any, .any, .any, .any, .any, .any, .any, .any, .any, .any, .any, .any, .any, .any, .any, .any, .any, .any, .any, .any, .any, .any, .any, .any, .any, .any, .any, .any, .any, .any, .any, .any, .any, .any, .any, .any, .any, .any, .any], [(31, .lst 98 5 (((ms.take k).map wOf).map weV)), (21, .lst 3 1 (((ms.take k).map (·.server)).map .i)), (3, .var 78 (.agg [.own 21, .sc (.slice none 0 0), .own 31, .i r.kind, .i r.columns, .i r.faulty, .i 0, .i 0, .i 0])), (2, .var 78 (.agg [.sc (.slice none 0 0), .sc (.slice none 0 0), .sc (.slice none 0 0), .i 0, .i 0, .i 0, .i 0, .i 0, .i 0])), (1, .var 35 (viV ⟨ms, r⟩))]⟩) 0 (by simp) ?_ ?_
  · (refine St.Le.clean zR zU zV)
  rintro k hk ih
  have hst := fun (h : k < ms.length) => take_getD (xs := ms) h
  have hl1 : ((ms.take k).map wOf).length ≤ 1000000 := by simp; omega
  have hl2 : ((ms.take k).map (·.server)).length ≤ 1000000 := by simp; omega
  by_cases hlt : k < ms.length
  · have hst2 := hst hlt
    repeat' (first | refine yw ?_ | ((with_reducible refine Runs.is ?_); first | refine Runs.region (id := 3) ?_ | ((with_reducible refine Runs.isC ?_); refine Runs.cond rfl (zc ?_) (zc ?_) <;> intro hc <;> (try (first | contradiction | (exfalso; omega; done) | (have : hc = trivial := rfl; clear this; clear hc))))) | ((with_reducible refine r_is ?_); first | refine yr ?_) | fail)
    refine Runs.drawnT [] 9 mixed zK (by decide +kernel) ?_
    dsimp only [List.take, List.drop]
    repeat' (first | (with_reducible refine And.intro (by intro a i h; cases h) ?_) | refine yw ?_ | ((with_reducible refine Runs.is ?_); first | (refine Runs.drawnT (id := 5) [] 9 mixed zK (by decide +kernel) ?_; dsimp only [List.take, List.drop]) | refine Runs.drawn (id := 5) mixed zK ?_ | ((with_reducible refine Runs.isC ?_); refine Runs.cond rfl (zc ?_) (zc ?_) <;> intro hc <;> (try (first | contradiction | (exfalso; omega; done) | (have : hc = trivial := rfl; clear this; clear hc))))) | ((with_reducible refine r_is ?_); first | refine yr ?_ | (refine r_append_full SlF.h SlF.s ZoF.h zd rfl rfl zC zJ zS rfl (fun hn => ?_) (fun hn => ?_) <;> refine r_nn zN zH ?_)) | ((with_reducible refine d_is ?_); first | refine yd ?_) | fail)
    refine And.intro (by intro a i h; cases h) ?_
    refine yr ?_
    refine Runs.drawnT [] 16 mixed zK (by decide +kernel) ?_
    dsimp only [List.take, List.drop]
    repeat' (first | (with_reducible refine And.intro (by intro a i h; cases h) ?_) | refine yw ?_ | ((with_reducible refine Runs.is ?_); first | (refine Runs.drawnT (id := 6) [] 16 mixed zK (by decide +kernel) ?_; dsimp only [List.take, List.drop]) | refine Runs.drawn (id := 6) mixed zK ?_ | ((with_reducible refine Runs.isC ?_); refine Runs.cond rfl (zc ?_) (zc ?_) <;> intro hc <;> (try (first | contradiction | (exfalso; omega; done) | (have : hc = trivial := rfl; clear this; clear hc))))) | ((with_reducible refine r_is ?_); first | refine yr ?_ | (refine r_append_full SlF.h SlF.s ZoF.h zd rfl rfl zC zJ zS rfl (fun hn => ?_) (fun hn => ?_) <;> refine r_nn zN zH ?_)) | ((with_reducible refine d_is ?_); first | refine yd ?_) | fail)
    refine And.intro (by intro a i h; cases h) ?_
    refine yr ?_
    repeat' (first | refine yw ?_ | ((with_reducible refine Runs.is ?_); first | refine Runs.region (id := 4) ?_ | ((with_reducible refine Runs.isC ?_); refine Runs.cond rfl (zc ?_) (zc ?_) <;> intro hc <;> (try (first | contradiction | (exfalso; omega; done) | (have : hc = trivial := rfl; clear this; clear hc))))) | ((with_reducible refine r_is ?_); first | refine yr ?_) | fail)
    refine ih (k + 1) _ zo zo ?_
    rw [hst2]
    (refine St.Le.clean zR (by first | (simp [V.usesL, V.uses, AM.look_cons]; done) | (simp [V.usesL, V.uses, AM.look_cons, V.usesL_data, V.uses_data, da_i, da_chV, da_ruV, da_prV, da_enV, da_cfV, da_veV, da_inV, da_edV, da_grV, da_weV, da_mbV, da_suV, da_viV]; done)) ?_; (repeat' (first | exact True.intro | refine And.intro ?_ ?_)); all_goals (first | rfl | (simp [AM.look_cons, weV, wOf]; done) | (simp [V.uses, V.usesL, AM.look_cons, V.usesL_data, V.uses_data, da_i, da_chV, da_ruV, da_prV, da_enV, da_cfV, da_veV, da_inV, da_edV, da_grV, da_weV, da_mbV, da_suV, da_viV]; done)))
  · have hk2 : k = ms.length := by omega
    subst hk2
    rw [List.take_length] at hl1 hl2 ⊢
    repeat' (first | refine yw ?_ | ((with_reducible refine Runs.is ?_); first | refine Runs.region (id := 3) ?_ | ((with_reducible refine Runs.isC ?_); refine Runs.cond rfl (zc ?_) (zc ?_) <;> intro hc <;> (try (first | contradiction | (exfalso; omega; done) | (have : hc = trivial := rfl; clear this; clear hc))))) | ((with_reducible refine r_is ?_); first | refine yr ?_) | fail)
    repeat' (first | refine yw ?_ | ((with_reducible refine Runs.is ?_); first | refine Runs.region (id := 7) ?_ | ((with_reducible refine Runs.isC ?_); refine Runs.cond rfl (zc ?_) (zc ?_) <;> intro hc <;> (try (first | contradiction | (exfalso; omega; done) | (have : hc = trivial := rfl; clear this; clear hc))))) | ((with_reducible refine r_is ?_); first | refine yr ?_) | fail)
    (refine Runs.weaken (St.Le.freeze_lst 21 rfl) ?_; refine yf ?_)
    (refine Runs.weaken (St.Le.freeze_lst 31 rfl) ?_; refine yf ?_)
    (refine Runs.retC Tryz.func68 rfl zM rfl TyF.h (And.intro zE zd) zD ?_; try exact zX)
end Go.Proofs
