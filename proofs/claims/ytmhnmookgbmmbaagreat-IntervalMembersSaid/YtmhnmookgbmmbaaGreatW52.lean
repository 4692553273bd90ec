/- Law 09: IntervalCount. -/
import Derived.Test.YtmhnmookgbmmbaaGreatW51
set_option linter.unusedVariables false
set_option linter.unusedSimpArgs false
set_option maxRecDepth 8000
set_option maxHeartbeats 4000000
set_option pp.deepTerms false
set_option pp.deepTerms.threshold 6
namespace Go.Proofs
open Go.AM
attribute [local irreducible] AM.evalR AM.evalD AM.Runs AM.valK AM.dK AM.opK AM.stepR AM.CallS AM.St.Le
def idx (i j k i' j' k' : Nat) : List (Nat × Nat × Nat) := (upto i i').flatMap fun a => (upto j j').flatMap fun b => (upto k k').map fun c => (a.toNat, b.toNat, c.toNat)
theorem allN_idx (f : Nat → Nat → Proposal) (i j k i' j' k' : Nat) : allN f i j k i' j' k' = (idx i j k i' j' k').map fun t => cut f t.1 t.2.1 t.2.2 := by
  simp [allN, idx, List.map_flatMap, Function.comp_def]
def facR (vf vt : Vector) (a : Nat) : Int := 1 + countR vt (201 + a) - countR vf (201 + a)
def prodR (vf vt : Vector) : Nat → Int
  | 0 => 1
  | k + 1 => prodR vf vt k * facR vf vt k
theorem cnt_fin : ∀ i j k i' j' k' : Fin 4, i ≤ i' → j ≤ j' → k ≤ k' →
    (∀ a : Fin 3, (1 ≤ facR (vecC i j k) (vecC i' j' k') a ∧ facR (vecC i j k) (vecC i' j' k') a ≤ 4) ∧ (0 ≤ countR (vecC i j k) (201 + (a : Nat)) ∧ countR (vecC i j k) (201 + (a : Nat)) ≤ 3) ∧ (0 ≤ countR (vecC i' j' k') (201 + (a : Nat)) ∧ countR (vecC i' j' k') (201 + (a : Nat)) ≤ 3)) ∧
      countI (vecC i j k) (vecC i' j' k') = prodR (vecC i j k) (vecC i' j' k') 3 ∧ (∀ e ∈ vecC i' j' k', (1 ≤ fac (vecC i j k) e ∧ fac (vecC i j k) e ≤ 4) ∧ 0 ≤ e.count ∧ e.count ≤ 1000000) := by decide +kernel
theorem idx_fin : ∀ i j k i' j' k' : Fin 4, i ≤ i' → j ≤ j' → k ≤ k' →
    ((idx i j k i' j' k').length : Int) = prodR (vecC i j k) (vecC i' j' k') 3 ∧ (idx i j k i' j' k').getD 0 (0, 0, 0) = (i.val, j.val, k.val) ∧ (idx i j k i' j' k').getD ((idx i j k i' j' k').length - 1) (0, 0, 0) = (i'.val, j'.val, k'.val) := by decide +kernel
theorem part_sub {f : Nat → Nat → Proposal} (hf : Nice f) {c : Config} (hc : IsCut f c) (n : Int) : ∃ i j k i' j' k', (i ≤ i' ∧ j ≤ j' ∧ k ≤ k') ∧ (i' < 4 ∧ j' < 4 ∧ k' < 4) ∧ c = cut f i' j' k' ∧ partI c n = cut f i j k := by
  obtain ⟨i, j, k, h, rfl⟩ := hc
  exact ⟨_, _, _, i, j, k, ⟨Nat.min_le_left _ _, Nat.min_le_left _ _, Nat.min_le_left _ _⟩, h, rfl, restrictR_cut hf _ i j k⟩
theorem getV_fin : ∀ i j k : Fin 4, (vecC i j k).length ≤ 3 := by decide +kernel
theorem getV_le {v : Vector} (h : ∀ e ∈ v, 0 ≤ e.count ∧ e.count ≤ 1000000000) (x : Int) : 0 ≤ getV v x ∧ getV v x ≤ 1000000000 := by
  unfold getV
  split
  · rename_i hh
    refine h _ ?_
    rw [List.getD_eq_getElem?_getD, List.getElem?_eq_getElem hh.1]; exact List.getElem_mem hh.1
  · omega
/-- What is known of an interval below a part of a pool. -/
theorem interval_facts {f : Nat → Nat → Proposal} (hf : Nice f) (hli : Lite f) {c : Config} (hc : IsCut f c) (n : Int) :
    ((∀ a : Nat, a < 3 → (1 ≤ facR (vectorR (partI c n)) (vectorR c) a ∧ facR (vectorR (partI c n)) (vectorR c) a ≤ 4) ∧ (0 ≤ countR (vectorR (partI c n)) (201 + a) ∧ countR (vectorR (partI c n)) (201 + a) ≤ 3) ∧ (0 ≤ countR (vectorR c) (201 + a) ∧ countR (vectorR c) (201 + a) ≤ 3)) ∧
      countB (partI c n) c = prodR (vectorR (partI c n)) (vectorR c) 3) ∧
    ((∀ e ∈ vectorV c, 1 ≤ fac (vectorV (partI c n)) e ∧ fac (vectorV (partI c n)) e ≤ 4) ∧ (∀ e ∈ vectorV c, 0 ≤ e.count ∧ e.count ≤ 1000000) ∧ (∀ x, 0 ≤ getV (vectorV (partI c n)) x ∧ getV (vectorV (partI c n)) x ≤ 1000000000)) ∧
    (((allB (partI c n) c).length : Int) = prodR (vectorR (partI c n)) (vectorR c) 3 ∧ (allB (partI c n) c).getD 0 default = partI c n ∧ (allB (partI c n) c).getD ((allB (partI c n) c).length - 1) default = c) := by
  obtain ⟨i, j, k, i', j', k', hle, h', rfl, hp⟩ := part_sub hf hc n
  have h : i < 4 ∧ j < 4 ∧ k < 4 := by omega
  have h1 := cnt_fin ⟨i, h.1⟩ ⟨j, h.2.1⟩ ⟨k, h.2.2⟩ ⟨i', h'.1⟩ ⟨j', h'.2.1⟩ ⟨k', h'.2.2⟩ hle.1 hle.2.1 hle.2.2
  have h2 := idx_fin ⟨i, h.1⟩ ⟨j, h.2.1⟩ ⟨k, h.2.2⟩ ⟨i', h'.1⟩ ⟨j', h'.2.1⟩ ⟨k', h'.2.2⟩ hle.1 hle.2.1 hle.2.2
  have h3 := cnt_fin ⟨0, by decide⟩ ⟨0, by decide⟩ ⟨0, by decide⟩ ⟨i, h.1⟩ ⟨j, h.2.1⟩ ⟨k, h.2.2⟩ (Nat.zero_le _) (Nat.zero_le _) (Nat.zero_le _)
  dsimp only at h1 h2 h3
  have hcon := (contains_cut hf h' h).1
  rw [hp, (vec_cut hf h).1, (vec_cut hf h).2, (vec_cut hf h').1, (vec_cut hf h').2]
  refine ⟨⟨fun a ha => h1.1 ⟨a, ha⟩, ?_⟩, ⟨fun e he => (h1.2.2 e he).1, fun e he => (h1.2.2 e he).2, fun x => getV_le (fun e he => ?_) x⟩, ?_⟩
  · unfold countB
    rw [(vec_cut hf h).1, (vec_cut hf h').1, hcon, if_pos (by simpa using hle)]
    exact h1.2.1
  · have := (h3.2.2 e he).2; omega
  · rw [allB_cut hf h h', if_pos hle, allN_idx]
    have hpos : 0 < (idx i j k i' j' k').length := by
      have hp0 := h2.1
      have q := mul_fac (m := 16) (n := prodR (vecC i j k) (vecC i' j' k') 2) (by
        have q1 := mul_fac (m := 4) (n := prodR (vecC i j k) (vecC i' j' k') 1) (by
          have q0 := mul_fac (m := 1) (n := 1) ⟨by decide, by decide⟩ (h1.1 0).1
          exact ⟨q0.1, by have := q0.2; simpa [prodR] using this⟩) (h1.1 1).1
        exact ⟨q1.1, by have := q1.2; simpa [prodR] using this⟩) (h1.1 2).1
      have q2 : 1 ≤ prodR (vecC i j k) (vecC i' j' k') 3 := q.1
      omega
    generalize idx i j k i' j' k' = il at h2 hpos
    refine ⟨by rw [List.length_map]; exact h2.1, ?_, ?_⟩
    · rw [List.getD_eq_getElem?_getD, List.getElem?_map, List.getElem?_eq_getElem hpos]
      have := h2.2.1
      rw [List.getD_eq_getElem?_getD, List.getElem?_eq_getElem hpos] at this
      simp only [Option.map_some, Option.getD_some] at this ⊢
      rw [this]
    · rw [List.length_map, List.getD_eq_getElem?_getD, List.getElem?_map, List.getElem?_eq_getElem (show il.length - 1 < il.length by omega)]
      have := h2.2.2
      rw [List.getD_eq_getElem?_getD, List.getElem?_eq_getElem (show il.length - 1 < il.length by omega)] at this
      simp only [Option.map_some, Option.getD_some] at this ⊢
      rw [this]
end Go.Proofs
