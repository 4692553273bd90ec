/- Package interval: Count, Within; layer 9: awake. -/
import Derived.Test.YtmhnmookgbmmbaaGreatW48
set_option linter.unusedVariables false
set_option linter.unusedSimpArgs false
set_option maxRecDepth 8000
set_option maxHeartbeats 4000000
set_option pp.deepTerms false
set_option pp.deepTerms.threshold 6
namespace Go.Proofs
open Go.AM
attribute [local irreducible] AM.evalR AM.evalD AM.Runs AM.valK AM.dK AM.opK AM.stepR AM.CallS AM.St.Le
def withinB (a b c : Config) : Bool := containsB c a && containsB b c
theorem interval_Within (f g h : Bool) (a b c : Config) : AM.Fn Tryz.prog 13 [.sl f (a.map prV), .sl g (b.map prV), .sl h (c.map prV)] (.b (withinB a b c)) := by
  unfold withinB
  (refine spec_of_runs Tryz.func13 rfl ?_; simp only [Tryz.f13]; refine ys ?_)
  repeat' (first | refine yw ?_ | ((with_reducible refine Runs.is ?_); first | refine Runs.region ?_ | ((with_reducible refine Runs.isC ?_); refine Runs.cond rfl (zc ?_) (zc ?_) <;> intro hc <;> (try (first | contradiction | (exfalso; omega; done) | (have : hc = trivial := rfl; clear this; clear hc))))) | ((with_reducible refine r_is ?_); first | refine yr ?_ | (refine r_fn rfl (config_Contains h f c a) HbF.h zL2 zD ?_; refine r_nn zN zH ?_) | (refine r_fn rfl (config_Contains g h b c) HbF.h zL2 zD ?_; refine r_nn zN zH ?_) | ((with_reducible refine r_gd ?_); (first | refine r_guardPt rfl rfl ?_ ?_ | refine r_guardNt rfl rfl ?_ ?_ | refine r_guard rfl rfl ?_ ?_) <;> intro hG <;> (try (exfalso; omega; done)) <;> refine r_nn zN zH ?_)) | fail)
  all_goals ((refine Runs.ret1 Tryz.func13 rfl zM zD ?_; try exact zX))
  all_goals (refine V.Le.of_eq ?_; simp_all)
def fac (low : Vector) (e : Entry) : Int := 1 + e.count - getV low e.author
def countI (low high : Vector) : Int := high.foldl (fun n e => n * fac low e) 1
def countB (a b : Config) : Int := if containsB b a then countI (vectorV a) (vectorV b) else 0
theorem mul_fac {n f m : Int} (h1 : 1 ≤ n ∧ n ≤ m) (h2 : 1 ≤ f ∧ f ≤ 4) : 1 ≤ n * f ∧ n * f ≤ 4 * m := by
  obtain rfl | rfl | rfl | rfl : f = 1 ∨ f = 2 ∨ f = 3 ∨ f = 4 := by omega
  all_goals omega
theorem countI_le {low high : Vector} (h : ∀ e ∈ high, 1 ≤ fac low e ∧ fac low e ≤ 4) : ∀ k, k ≤ high.length → 1 ≤ countI low (high.take k) ∧ countI low (high.take k) ≤ ((4 ^ k : Nat) : Int) := by
  intro k hk
  induction k with
  | zero => simp [countI]
  | succ k ih =>
    have hlt : k < high.length := by omega
    have he := h (high.getD k default) (by rw [List.getD_eq_getElem?_getD, List.getElem?_eq_getElem hlt]; exact List.getElem_mem hlt)
    unfold countI at ih ⊢
    rw [foldl_take hlt]
    have := mul_fac (ih zo) he
    rw [Nat.pow_succ, Nat.mul_comm, Int.natCast_mul]
    exact this
theorem interval_Count (f g : Bool) (a b : Config) (ha : a.length ≤ 10000000) (hb : b.length ≤ 10000000) (hl : (vectorV b).length ≤ 3) (hf : containsB b a = true → ∀ e ∈ vectorV b, 1 ≤ fac (vectorV a) e ∧ fac (vectorV a) e ≤ 4) (hcn : ∀ e ∈ vectorV b, 0 ≤ e.count ∧ e.count ≤ 1000000) (hg : ∀ x, 0 ≤ getV (vectorV a) x ∧ getV (vectorV a) x ≤ 1000000000) :
    AM.Fn Tryz.prog 12 [.sl f (a.map prV), .sl g (b.map prV)] (.i (countB a b)) := by
  unfold countB
  (refine spec_of_runs Tryz.func12 rfl ?_; simp only [Tryz.f12]; refine ys ?_)
  repeat' (first | refine yw ?_ | ((with_reducible refine Runs.is ?_); first | refine Runs.region (id := 0) ?_ | refine Runs.region (id := 1) ?_ | refine Runs.region (id := 2) ?_ | refine Runs.region (id := 3) ?_ | refine Runs.region (id := 4) ?_ | ((with_reducible refine Runs.isC ?_); refine Runs.cond rfl (zc ?_) (zc ?_) <;> intro hc <;> (try (first | contradiction | (exfalso; omega; done) | (have : hc = trivial := rfl; clear this; clear hc))))) | ((with_reducible refine r_is ?_); first | refine yr ?_ | (refine r_fn rfl (config_Contains g f _ _) HbF.h zL2 zD ?_; refine r_nn zN zH ?_) | (refine r_fn rfl (config_Vector f a ha) HbF.h zL1 zD ?_; refine r_nn zN zH ?_) | (refine r_fn rfl (config_Vector g b hb) HbF.h zL1 zD ?_; refine r_nn zN zH ?_)) | fail)
  · (refine Runs.ret1 Tryz.func12 rfl zM zD ?_; try exact zX)
    rw [hc]; exact V.Le.refl _
  · have hct2 : containsB b a = true := by simpa using hc
    rw [hct2, if_pos rfl]
    have hle := countI_le (hf hct2)
    have hf2 := hf hct2
    generalize vectorV b = hi at *
    have hmem : ∀ k, k < hi.length → hi.getD k default ∈ hi := fun k h => by rw [List.getD_eq_getElem?_getD, List.getElem?_eq_getElem h]; exact List.getElem_mem h
    refine Runs.loopI (fun k : Nat => hi.length - k) (fun k => k ≤ hi.length)
      (fun k => ⟨[.any, .any, .any, .any, .any, .sl false ((vectorV a).map enV), .i (countI (vectorV a) (hi.take k)), .any, .any, .any, .any, .any, .any, .any, .any, .any, .sl false (hi.map enV), .i (hi.length : Nat), .i (k : Nat), .any, .any, .any, .any, .any, .any, .any, .any, .any, .any, .any, .any, .any, .any, .any], []⟩) 0 (by simp) ?_ ?_
    · (refine St.Le.clean zR zU zV)
    rintro k hk ih
    have hst : k < hi.length → countI (vectorV a) (hi.take (k + 1)) = countI (vectorV a) (hi.take k) * fac (vectorV a) (hi.getD k default) := fun h => foldl_take (g := fun n e => n * fac (vectorV a) e) (s := (1 : Int)) h
    have hend : hi.length ≤ k → countI (vectorV a) (hi.take k) = countI (vectorV a) hi := fun h => by rw [List.take_of_length_le h]
    have hn := hle k hk
    have hpw : (4 : Nat) ^ k ≤ 4 ^ 3 := Nat.pow_le_pow_right zd zo
    by_cases hlt : k < hi.length
    · have hst2 := hst hlt
      have hff := hf2 _ (hmem k hlt)
      have hcc := hcn _ (hmem k hlt)
      have hgg := hg (hi.getD k default).author
      have hmf := mul_fac (m := 64) ⟨hn.1, by omega⟩ hff
      unfold fac at hst2 hmf
      generalize countI (vectorV a) (hi.take k) = n at hst2 hmf ⊢
      repeat' (first | refine yw ?_ | ((with_reducible refine Runs.is ?_); first | refine Runs.region (id := 5) ?_ | refine Runs.region (id := 6) ?_ | refine Runs.drawn (id := 7) mixed zK ?_ | refine Runs.region (id := 8) ?_ | ((with_reducible refine Runs.isC ?_); refine Runs.cond rfl (zc ?_) (zc ?_) <;> intro hc <;> (try (first | contradiction | (exfalso; omega; done) | (have : hc = trivial := rfl; clear this; clear hc))))) | ((with_reducible refine r_is ?_); first | refine yr ?_) | ((with_reducible refine d_is ?_); first | refine yd ?_ | (refine d_fn rfl (vector_Get false _ _) HbF.h zL2 zD ?_; refine d_nn zN zH ?_)) | fail)
      refine ih (k + 1) _ zo zo ?_
      rw [hst2]
      (refine St.Le.clean zR zU zV)
    · repeat' (first | refine yw ?_ | ((with_reducible refine Runs.is ?_); first | refine Runs.region (id := 5) ?_ | ((with_reducible refine Runs.isC ?_); refine Runs.cond rfl (zc ?_) (zc ?_) <;> intro hc <;> (try (first | contradiction | (exfalso; omega; done) | (have : hc = trivial := rfl; clear this; clear hc))))) | ((with_reducible refine r_is ?_); first | refine yr ?_) | fail)
      have he := hend zo
      rw [he]
      repeat' (first | refine yw ?_ | ((with_reducible refine Runs.is ?_); first | refine Runs.region (id := 9) ?_ | ((with_reducible refine Runs.isC ?_); refine Runs.cond rfl (zc ?_) (zc ?_) <;> intro hc <;> (try (first | contradiction | (exfalso; omega; done) | (have : hc = trivial := rfl; clear this; clear hc))))) | ((with_reducible refine r_is ?_); first | refine yr ?_) | fail)
      (refine Runs.ret1 Tryz.func12 rfl zM zD ?_; try exact zX)
/-! awake -/
def awC : Config := [⟨201, 1, [⟨1, 9, 1, 0, ⟨0, 0, 0⟩⟩]⟩, ⟨202, 1, [⟨1, 9, 1, 0, ⟨0, 0, 0⟩⟩]⟩]
def awV : View := ⟨[⟨1, 1⟩], ⟨1, 0, 0⟩⟩
theorem aw_fine : Fine (vectorV awC) := by unfold Fine; decide +kernel
theorem aw_small : Small awC := ⟨by decide, by decide +kernel⟩
theorem aw_all : (allB [] awC).length = 4 := by decide +kernel
theorem aw_all1 : allB awC awC = [awC] := by decide +kernel
theorem aw_within : withinB [] awC (awC.take 1) = true := by decide +kernel
theorem aw_count : countB [] awC = 4 := by decide +kernel
theorem aw_plain : ∀ c ∈ allB [] awC, c.length ≤ 100 ∧ ∀ p ∈ c, p.changes.length ≤ 1000 ∧ ∀ c ∈ p.changes, c.kind ≠ 4 := by decide +kernel
theorem sortI_perm {zs ys : List Int} (h1 : ys.Pairwise (· ≤ ·)) (h2 : zs.Perm ys) : sortI zs = ys := by
  have h3 : (sortI zs).Pairwise (fun x y => decide (x ≤ y) = true) := List.pairwise_mergeSort (le := fun x y => decide (x ≤ y)) (by intro a b c; simp; omega) (by intro a b; simp; omega) zs
  have h4 : (sortI zs).Perm ys := (List.mergeSort_perm zs _).trans h2
  exact h4.eq_of_pairwise (le := (· ≤ ·)) (fun a b _ _ => Int.le_antisymm) (h3.imp (by simp)) h1
theorem aw_spanS : distinctI [[1], [1, 9], [1, 9], [1, 9]] = [1, 9] := by
  unfold distinctI
  rw [sortI_perm (ys := [1, 1, 1, 1, 9, 9, 9]) zd zd]
  decide +kernel
end Go.Proofs
