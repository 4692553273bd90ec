/- Law 09: IntervalCount. -/
import Derived.Test.YtmhnmookgbmmbaaW51
set_option linter.unusedVariables false
set_option linter.unusedSimpArgs false
set_option maxRecDepth 8000
set_option maxHeartbeats 4000000
set_option pp.deepTerms false
set_option pp.deepTerms.threshold 6
namespace Go.Proofs
open Go.AM
attribute [local irreducible] AM.evalR AM.evalD AM.Runs AM.valK AM.dK AM.opK AM.stepR AM.CallS AM.St.Le
def idx (i j k i' j' k' : Nat) : List (Nat × Nat × Nat) := (upto i i').flatMap fun a => (upto j j').flatMap fun b => (upto k k').map fun c => (a.toNat, b.toNat, c.toNat)
theorem allN_idx (f : Nat → Nat → Proposal) (i j k i' j' k' : Nat) : allN f i j k i' j' k' = (idx i j k i' j' k').map fun t => cut f t.1 t.2.1 t.2.2 := by
  simp [allN, idx, List.map_flatMap, Function.comp_def]
def facR (vf vt : Vector) (a : Nat) : Int := 1 + countR vt (201 + a) - countR vf (201 + a)
def prodR (vf vt : Vector) : Nat → Int
  | 0 => 1
  | k + 1 => prodR vf vt k * facR vf vt k
theorem cnt_fin : ∀ i j k i' j' k' : Fin 4, i ≤ i' → j ≤ j' → k ≤ k' →
    (∀ a : Fin 3, (1 ≤ facR (vecC i j k) (vecC i' j' k') a ∧ facR (vecC i j k) (vecC i' j' k') a ≤ 4) ∧ (0 ≤ countR (vecC i j k) (201 + (a : Nat)) ∧ countR (vecC i j k) (201 + (a : Nat)) ≤ 3) ∧ (0 ≤ countR (vecC i' j' k') (201 + (a : Nat)) ∧ countR (vecC i' j' k') (201 + (a : Nat)) ≤ 3)) ∧
      countI (vecC i j k) (vecC i' j' k') = prodR (vecC i j k) (vecC i' j' k') 3 ∧ (∀ e ∈ vecC i' j' k', (1 ≤ fac (vecC i j k) e ∧ fac (vecC i j k) e ≤ 4) ∧ 0 ≤ e.count ∧ e.count ≤ 1000000) := by decide +kernel
theorem idx_fin : ∀ i j k i' j' k' : Fin 4, i ≤ i' → j ≤ j' → k ≤ k' →
    ((idx i j k i' j' k').length : Int) = prodR (vecC i j k) (vecC i' j' k') 3 ∧ (idx i j k i' j' k').getD 0 (0, 0, 0) = (i.val, j.val, k.val) ∧ (idx i j k i' j' k').getD ((idx i j k i' j' k').length - 1) (0, 0, 0) = (i'.val, j'.val, k'.val) := by decide +kernel
theorem part_sub {f : Nat → Nat → Proposal} (hf : Nice f) {c : Config} (hc : IsCut f c) (n : Int) : ∃ i j k i' j' k', (i ≤ i' ∧ j ≤ j' ∧ k ≤ k') ∧ (i' < 4 ∧ j' < 4 ∧ k' < 4) ∧ c = cut f i' j' k' ∧ partI c n = cut f i j k := by
  obtain ⟨i, j, k, h, rfl⟩ := hc
  exact ⟨_, _, _, i, j, k, ⟨Nat.min_le_left _ _, Nat.min_le_left _ _, Nat.min_le_left _ _⟩, h, rfl, restrictR_cut hf _ i j k⟩
theorem getV_fin : ∀ i j k : Fin 4, (vecC i j k).length ≤ 3 := by decide +kernel
theorem getV_le {v : Vector} (h : ∀ e ∈ v, 0 ≤ e.count ∧ e.count ≤ 1000000000) (x : Int) : 0 ≤ getV v x ∧ getV v x ≤ 1000000000 := by
  unfold getV
  split
  · rename_i hh
    refine h _ ?_
    rw [List.getD_eq_getElem?_getD, List.getElem?_eq_getElem hh.1]; exact List.getElem_mem hh.1
  · omega
/-- What is known of an interval below a part of a pool. -/
theorem interval_facts {f : Nat → Nat → Proposal} (hf : Nice f) (hli : Lite f) {c : Config} (hc : IsCut f c) (n : Int) :
    ((∀ a : Nat, a < 3 → (1 ≤ facR (vectorR (partI c n)) (vectorR c) a ∧ facR (vectorR (partI c n)) (vectorR c) a ≤ 4) ∧ (0 ≤ countR (vectorR (partI c n)) (201 + a) ∧ countR (vectorR (partI c n)) (201 + a) ≤ 3) ∧ (0 ≤ countR (vectorR c) (201 + a) ∧ countR (vectorR c) (201 + a) ≤ 3)) ∧
      countB (partI c n) c = prodR (vectorR (partI c n)) (vectorR c) 3) ∧
    ((∀ e ∈ vectorV c, 1 ≤ fac (vectorV (partI c n)) e ∧ fac (vectorV (partI c n)) e ≤ 4) ∧ (∀ e ∈ vectorV c, 0 ≤ e.count ∧ e.count ≤ 1000000) ∧ (∀ x, 0 ≤ getV (vectorV (partI c n)) x ∧ getV (vectorV (partI c n)) x ≤ 1000000000)) ∧
    (((allB (partI c n) c).length : Int) = prodR (vectorR (partI c n)) (vectorR c) 3 ∧ (allB (partI c n) c).getD 0 default = partI c n ∧ (allB (partI c n) c).getD ((allB (partI c n) c).length - 1) default = c) := by
  obtain ⟨i, j, k, i', j', k', hle, h', rfl, hp⟩ := part_sub hf hc n
  have h : i < 4 ∧ j < 4 ∧ k < 4 := by omega
  have h1 := cnt_fin ⟨i, h.1⟩ ⟨j, h.2.1⟩ ⟨k, h.2.2⟩ ⟨i', h'.1⟩ ⟨j', h'.2.1⟩ ⟨k', h'.2.2⟩ hle.1 hle.2.1 hle.2.2
  have h2 := idx_fin ⟨i, h.1⟩ ⟨j, h.2.1⟩ ⟨k, h.2.2⟩ ⟨i', h'.1⟩ ⟨j', h'.2.1⟩ ⟨k', h'.2.2⟩ hle.1 hle.2.1 hle.2.2
  have h3 := cnt_fin ⟨0, by decide⟩ ⟨0, by decide⟩ ⟨0, by decide⟩ ⟨i, h.1⟩ ⟨j, h.2.1⟩ ⟨k, h.2.2⟩ (Nat.zero_le _) (Nat.zero_le _) (Nat.zero_le _)
  dsimp only at h1 h2 h3
  have hcon := (contains_cut hf h' h).1
  rw [hp, (vec_cut hf h).1, (vec_cut hf h).2, (vec_cut hf h').1, (vec_cut hf h').2]
  refine ⟨⟨fun a ha => h1.1 ⟨a, ha⟩, ?_⟩, ⟨fun e he => (h1.2.2 e he).1, fun e he => (h1.2.2 e he).2, fun x => getV_le (fun e he => ?_) x⟩, ?_⟩
  · unfold countB
    rw [(vec_cut hf h).1, (vec_cut hf h').1, hcon, if_pos (by simpa using hle)]
    exact h1.2.1
  · have := (h3.2.2 e he).2; omega
  · rw [allB_cut hf h h', if_pos hle, allN_idx]
    have hpos : 0 < (idx i j k i' j' k').length := by
      have hp0 := h2.1
      have q := mul_fac (m := 16) (n := prodR (vecC i j k) (vecC i' j' k') 2) (by
        have q1 := mul_fac (m := 4) (n := prodR (vecC i j k) (vecC i' j' k') 1) (by
          have q0 := mul_fac (m := 1) (n := 1) ⟨by decide, by decide⟩ (h1.1 0).1
          exact ⟨q0.1, by have := q0.2; simpa [prodR] using this⟩) (h1.1 1).1
        exact ⟨q1.1, by have := q1.2; simpa [prodR] using this⟩) (h1.1 2).1
      have q2 : 1 ≤ prodR (vecC i j k) (vecC i' j' k') 3 := q.1
      omega
    generalize idx i j k i' j' k' = il at h2 hpos
    refine ⟨by rw [List.length_map]; exact h2.1, ?_, ?_⟩
    · rw [List.getD_eq_getElem?_getD, List.getElem?_map, List.getElem?_eq_getElem hpos]
      have := h2.2.1
      rw [List.getD_eq_getElem?_getD, List.getElem?_eq_getElem hpos] at this
      simp only [Option.map_some, Option.getD_some] at this ⊢
      rw [this]
    · rw [List.length_map, List.getD_eq_getElem?_getD, List.getElem?_map, List.getElem?_eq_getElem (show il.length - 1 < il.length by omega)]
      have := h2.2.2
      rw [List.getD_eq_getElem?_getD, List.getElem?_eq_getElem (show il.length - 1 < il.length by omega)] at this
      simp only [Option.map_some, Option.getD_some] at this ⊢
      rw [this]
theorem law_IntervalCount (f : Bool) (l : List Int) (x y : Int) (hl : l.length ≤ 4611686018427387904) : AM.Fn Try.prog 9 [.sl f (l.map .i), .i x, .i y] (.b true) := by
  have hf := pool_nice l
  have hli : Lite (poolF l) := pool_lite l
  have hpc := pool_cut l
  have hct := part_cut hf hpc y
  have hcf := part_cut hf hct x
  have hfacts := interval_facts hf hli hct x
  have s0 := hpc.small hli
  have s1 := hct.small hli
  have s2 := hcf.small hli
  have fn1 := hct.fine hf
  have hP := kit_Pool f l hl
  have hP1 := kit_Part false (poolI l) y zo
  have hP2 := kit_Part false (partI (poolI l) y) x zo
  generalize partI (poolI l) y = to at *
  generalize partI to x = fr at *
  obtain ⟨⟨hF, hcb⟩, ⟨hb1, hb2, hb3⟩, hal, ha0, ha1⟩ := hfacts
  have hA := interval_All false false fr to zo s1.2 zo fn1
  have hC := interval_Count false false fr to zo zo fn1.1 (fun _ => hb1) hb2 hb3
  rw [hcb] at hC
  have hV1 := ref_VectorOf false to zo
  have hV2 := ref_VectorOf false fr zo
  generalize vectorR to = vt at *
  generalize vectorR fr = vf at *
  generalize allB fr to = all at *
  have hE0 := ref_EqualConfig false false (all.getD 0 default) fr
  have hE1 := ref_EqualConfig false false (all.getD (all.length - 1) default) to
  rw [decide_eq_true ha0] at hE0
  rw [decide_eq_true ha1] at hE1
  have hp : ∀ k, k ≤ 3 → 1 ≤ prodR vf vt k ∧ prodR vf vt k ≤ 64 := by
    intro k hk
    have q0 := mul_fac (m := 1) (n := 1) ⟨by decide, by decide⟩ (hF 0 zd).1
    have q1 := mul_fac (m := 4) (n := prodR vf vt 1) q0 (hF 1 zd).1
    have q2 := mul_fac (m := 16) (n := prodR vf vt 2) q1 (hF 2 zd).1
    have e1 : prodR vf vt 1 = 1 * facR vf vt 0 := rfl
    have e2 : prodR vf vt 2 = prodR vf vt 1 * facR vf vt 1 := rfl
    have e3 : prodR vf vt 3 = prodR vf vt 2 * facR vf vt 2 := rfl
    obtain rfl | rfl | rfl | rfl : k = 0 ∨ k = 1 ∨ k = 2 ∨ k = 3 := by omega
    · exact ⟨Int.le_refl 1, show (1 : Int) ≤ 64 by decide⟩
    · omega
    · omega
    · omega
  (refine spec_of_runs Try.func9 rfl ?_; simp only [Try.f9]; refine ys ?_)
  repeat' (first | refine yw ?_ | ((with_reducible refine Runs.is ?_); first | refine Runs.region (id := 0) ?_ | refine Runs.region (id := 1) ?_ | refine Runs.region (id := 2) ?_ | refine Runs.region (id := 3) ?_ | refine Runs.region (id := 4) ?_ | refine Runs.region (id := 5) ?_ | ((with_reducible refine Runs.isC ?_); refine Runs.cond rfl (zc ?_) (zc ?_) <;> intro hc <;> (try (first | contradiction | (exfalso; omega; done) | (have : hc = trivial := rfl; clear this; clear hc))))) | ((with_reducible refine r_is ?_); first | refine yr ?_ | (refine r_fn rfl (hP) HbF.h zL1 zD ?_; refine r_nn zN zH ?_) | (refine r_fn rfl (hP1) HbF.h zL2 zD ?_; refine r_nn zN zH ?_) | (refine r_fn rfl (hP2) HbF.h zL2 zD ?_; refine r_nn zN zH ?_)) | fail)
  refine Runs.loopI (fun k : Nat => 3 - k) (fun k => k ≤ 3)
    (fun k => ⟨[.any, .any, .any, .any, .any, .any, .any, .any, .sl false (to.map prV), .sl false (fr.map prV), .i (prodR vf vt k), .i (k : Nat), .any, .any, .any, .any, .any, .any, .any, .any, .any, .any, .any, .any, .any, .any, .any, .any, .any, .any, .any, .any, .any, .any, .any, .any, .any, .any, .any, .any, .any, .any, .any, .any, .any, .any, .any, .any, .any, .any, .any, .any, .any, .any, .any, .any, .any, .any, .any, .any, .any, .any, .any, .any, .any, .any, .any, .any, .any, .any, .any, .any, .any, .any], []⟩) 0 zd ?_ ?_
  · (refine St.Le.clean zR zU zV)
  rintro k hk ih
  have hpk := hp k hk
  by_cases hlt : k < 3
  · have hst : prodR vf vt (k + 1) = prodR vf vt k * (1 + countR vt (201 + k) - countR vf (201 + k)) := rfl
    have hFk := hF k hlt
    have hp1 := hp (k + 1) zo
    rw [hst] at hp1
    generalize prodR vf vt k = n at hpk hst hp1 ⊢
    have hC1 := ref_Count false vt (201 + k)
    have hC2 := ref_Count false vf (201 + k)
    repeat' (first | refine yw ?_ | ((with_reducible refine Runs.is ?_); first | refine Runs.region (id := 6) ?_ | refine Runs.region (id := 8) ?_ | refine Runs.region (id := 7) ?_ | ((with_reducible refine Runs.isC ?_); refine Runs.cond rfl (zc ?_) (zc ?_) <;> intro hc <;> (try (first | contradiction | (exfalso; omega; done) | (have : hc = trivial := rfl; clear this; clear hc))))) | ((with_reducible refine r_is ?_); first | refine yr ?_ | (refine r_fn rfl (hV1) HbF.h zL1 zD ?_; refine r_nn zN zH ?_) | (refine r_fn rfl (hV2) HbF.h zL1 zD ?_; refine r_nn zN zH ?_) | (refine r_fn rfl (hC1) HbF.h zL2 zD ?_; refine r_nn zN zH ?_) | (refine r_fn rfl (hC2) HbF.h zL2 zD ?_; refine r_nn zN zH ?_)) | fail)
    refine ih (k + 1) _ zo zo ?_
    rw [hst]
    (refine St.Le.clean zR zU zV)
  · obtain rfl : k = 3 := by omega
    clear ih
    generalize prodR vf vt 3 = n at *
    have e1 : all.length - 1 = (n - 1).toNat := by omega
    rw [e1] at hE1
    repeat' (first | refine yw ?_ | ((with_reducible refine Runs.is ?_); first | refine Runs.region (id := 6) ?_ | ((with_reducible refine Runs.isC ?_); refine Runs.cond rfl (zc ?_) (zc ?_) <;> intro hc <;> (try (first | contradiction | (exfalso; omega; done) | (have : hc = trivial := rfl; clear this; clear hc))))) | ((with_reducible refine r_is ?_); first | refine yr ?_) | fail)
    repeat' (first | refine yw ?_ | ((with_reducible refine Runs.is ?_); first | refine Runs.region (id := 9) ?_ | refine Runs.region (id := 10) ?_ | refine Runs.region (id := 11) ?_ | refine Runs.region (id := 12) ?_ | ((with_reducible refine Runs.isC ?_); refine Runs.cond rfl (zc ?_) (zc ?_) <;> intro hc <;> (try (first | contradiction | (exfalso; omega; done) | (have : hc = trivial := rfl; clear this; clear hc))))) | ((with_reducible refine r_is ?_); first | refine yr ?_ | (refine r_fn rfl (hA) HbF.h zL2 zD ?_; refine r_nn zN zH ?_) | (refine r_fn rfl (hC) HbF.h zL2 zD ?_; refine r_nn zN zH ?_) | (refine r_fn rfl (hE0) HbF.h zL2 zD ?_; refine r_nn zN zH ?_) | (refine r_fn rfl (hE1) HbF.h zL2 zD ?_; refine r_nn zN zH ?_) | (refine r_fn rfl (law_awake) HbF.h zL0 zD ?_; refine r_nn zN zH ?_) | ((with_reducible refine r_gd ?_); (first | refine r_guardPf rfl rfl ?_ ?_ | refine r_guardNf rfl rfl ?_ ?_ | refine r_guardPt rfl rfl ?_ ?_ | refine r_guardNt rfl rfl ?_ ?_ | refine r_guard rfl rfl ?_ ?_) <;> intro hG <;> (try (exfalso; omega; done)) <;> refine r_nn zN zH ?_)) | fail)
    all_goals ((refine Runs.ret1 Try.func9 rfl zM zD ?_; try exact zX))
end Go.Proofs
