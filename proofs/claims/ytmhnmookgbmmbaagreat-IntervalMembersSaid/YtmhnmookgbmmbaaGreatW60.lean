/- The parts of a pool are valid; how often a part stands in an interval. -/
import Derived.Test.YtmhnmookgbmmbaaGreatW54
import Derived.Test.YtmhnmookgbmmbaaGreatW58
set_option linter.unusedVariables false
set_option linter.unusedSimpArgs false
set_option maxRecDepth 8000
set_option maxHeartbeats 4000000
set_option pp.deepTerms false
set_option pp.deepTerms.threshold 6
namespace Go.Proofs
open Go.AM
attribute [local irreducible] AM.evalR AM.evalD AM.Runs AM.valK AM.dK AM.opK AM.stepR AM.CallS AM.St.Le
theorem flatMap_if {α β : Type} (l : List α) (q : α → Bool) (g : α → List β) : (l.flatMap fun a => if q a then g a else []) = (l.filter q).flatMap g := by
  induction l with
  | nil => rfl
  | cons x l ih =>
    rw [List.flatMap_cons, ih, List.filter_cons]
    split <;> simp
theorem filter_allN {f : Nat → Nat → Proposal} {p : Config → Bool} {i j k i' j' k' : Nat} (q0 q1 q2 : Int → Bool)
    (h : ∀ a b c : Int, (i ≤ a ∧ a ≤ i') → (j ≤ b ∧ b ≤ j') → (k ≤ c ∧ c ≤ k') → p (cut f a.toNat b.toNat c.toNat) = (q0 a && (q1 b && q2 c))) :
    (allN f i j k i' j' k').filter p = ((upto i i').filter q0).flatMap fun a => ((upto j j').filter q1).flatMap fun b => ((upto k k').filter q2).map fun c => cut f a.toNat b.toNat c.toNat := by
  unfold allN
  rw [List.filter_flatMap, ← flatMap_if]
  refine flatMap_ext fun a ha => ?_
  rw [List.filter_flatMap]
  by_cases h0 : q0 a = true
  · rw [if_pos h0, ← flatMap_if]
    refine flatMap_ext fun b hb => ?_
    rw [List.filter_map]
    by_cases h1 : q1 b = true
    · rw [if_pos h1]
      congr 1
      refine List.filter_congr fun c hc => ?_
      rw [Function.comp, h a b c (mem_upto.1 ha) (mem_upto.1 hb) (mem_upto.1 hc), h0, h1]; rfl
    · rw [if_neg h1, List.map_eq_nil_iff, List.filter_eq_nil_iff]
      intro c hc
      rw [Function.comp, h a b c (mem_upto.1 ha) (mem_upto.1 hb) (mem_upto.1 hc)]
      simp [h1]
  · rw [if_neg h0, List.flatMap_eq_nil_iff]
    intro b hb
    rw [List.filter_eq_nil_iff]
    intro x hx
    obtain ⟨c, hc, rfl⟩ := List.mem_map.1 hx
    rw [h a b c (mem_upto.1 ha) (mem_upto.1 hb) (mem_upto.1 hc)]
    simp [h0]
theorem ruleI_ok (n : Int) : RuleOK (ruleI n) := by
  have d := digitB n 4 2 zd
  have d2 := digitB n 2 3 zd
  unfold ruleI
  split
  · simp [RuleOK]
  · split
    · simp [RuleOK]; omega
    · split
      · simp [RuleOK]; omega
      · simp [RuleOK]
theorem changeI_ok (n : Int) : ChangeOK (changeI n) := by
  have d1 := digitB n 8 1 zd
  have d2 := digitB n 4 3 zd
  have d3 := digitB n 2 9 zd
  have d4 := digitB n 12 1 zd
  unfold changeI
  split
  · exact .inl ⟨rfl, by dsimp only; omega, by dsimp only; omega, rfl, rfl⟩
  · split
    · exact .inr (.inl ⟨rfl, by dsimp only; omega, rfl, rfl, rfl⟩)
    · split
      · exact .inr (.inr (.inl ⟨rfl, by dsimp only; omega, by dsimp only; omega, by dsimp only; omega, rfl⟩))
      · split
        · exact .inr (.inr (.inr ⟨rfl, rfl, rfl, by dsimp only; omega, ruleI_ok _⟩))
        · exact .inl ⟨rfl, by dsimp only; omega, by dsimp only; omega, rfl, rfl⟩
theorem pool_ok (l : List Int) (a n : Nat) (ha : a < 3) (hn : n < 3) : PropOK (poolF l a n) := by
  unfold poolF propI
  generalize (poolUpto l a).2 + 2 * (n : Int) = at'
  refine ⟨⟨by dsimp only; omega, by dsimp only; omega⟩, ⟨by dsimp only; omega, by dsimp only; omega⟩, ?_, ?_, ?_⟩
  · dsimp only
    split <;> simp
  · dsimp only
    intro c hc
    split at hc
    · rcases List.mem_cons.1 hc with rfl | hc
      · exact changeI_ok _
      · rw [List.mem_singleton.1 hc]; exact changeI_ok _
    · rw [List.mem_singleton.1 hc]; exact changeI_ok _
  · dsimp only
    intro i k hk hi
    split at hi
    · rename_i he
      have h1 : i = 1 := by simp at hi; omega
      have h0 : k = 0 := by omega
      subst h1 h0
      rw [if_pos he]
      simp only [List.getD_cons_zero, List.getD_cons_succ]
      rintro ⟨e1, e2⟩
      simp [extra, e1, e2] at he
    · simp at hi; omega
theorem mem_cut3 {f : Nat → Nat → Proposal} {i j k : Nat} (h : i < 4 ∧ j < 4 ∧ k < 4) {p : Proposal} (hp : p ∈ cut f i j k) : ∃ a n, a < 3 ∧ n < 3 ∧ p = f a n := by
  simp only [cut, blk, List.mem_append, List.mem_map, List.mem_range] at hp
  rcases hp with (⟨n, hn, rfl⟩ | ⟨n, hn, rfl⟩) | ⟨n, hn, rfl⟩ <;> exact ⟨_, n, by decide, by omega, rfl⟩
theorem conf_fin : ∀ i j k : Fin 4, ∀ m : Fin 9, m.val < (cut f0 i j k).length → (0 < m.val → cmpP ((cut f0 i j k).getD (m.val - 1) default) ((cut f0 i j k).getD m default) < 0) ∧
    (1 < ((cut f0 i j k).getD m default).number → 0 < m.val ∧ ((cut f0 i j k).getD (m.val - 1) default).admin = ((cut f0 i j k).getD m default).admin ∧ ((cut f0 i j k).getD (m.val - 1) default).number = ((cut f0 i j k).getD m default).number - 1) := by decide +kernel
theorem cut_ok {f : Nat → Nat → Proposal} (hf : Nice f) (hp : ∀ a n, a < 3 → n < 3 → PropOK (f a n)) {i j k : Nat} (h : i < 4 ∧ j < 4 ∧ k < 4) : ConfOK (cut f i j k) := by
  have hk := cut_key hf i j k
  have hlen : (cut f i j k).length = (cut f0 i j k).length := by rw [← hk, List.length_map]
  have hl9 : (cut f i j k).length < 10 := by rw [cut_len]; omega
  have hg : ∀ m, m < (cut f i j k).length → (cut f0 i j k).getD m default = key ((cut f i j k).getD m default) := fun m hm => by rw [← hk]; exact getD_key _ _ hm
  refine ⟨fun p hpm => ?_, fun m h0 hm => ?_, fun m hm h1 => ?_⟩
  · obtain ⟨a, n, ha, hn, rfl⟩ := mem_cut3 h hpm
    exact hp a n ha hn
  · have := (conf_fin ⟨i, h.1⟩ ⟨j, h.2.1⟩ ⟨k, h.2.2⟩ ⟨m, by omega⟩ (by dsimp only; omega)).1 h0
    dsimp only at this
    rw [hg _ zo, hg _ hm] at this
    exact this
  · have hh := (conf_fin ⟨i, h.1⟩ ⟨j, h.2.1⟩ ⟨k, h.2.2⟩ ⟨m, by omega⟩ (by dsimp only; omega)).2
    dsimp only at hh
    rw [hg _ hm] at hh
    have h2 := hh h1
    rw [hg _ zo] at h2
    exact h2
theorem upto_eqL (a b x : Int) : (upto a b).filter (fun t => decide (t = x)) = if a ≤ x ∧ x ≤ b then [x] else [] := by
  induction hn : (b + 1 - a).toNat generalizing b with
  | zero =>
    have e1 : upto a b = [] := by unfold upto; rw [hn]; rfl
    rw [e1, if_neg zo]; rfl
  | succ n ih =>
    rw [upto_snoc zo, List.filter_append, ih (b - 1) zo]
    by_cases h : b = x
    · subst h
      rw [if_neg zo, if_pos zo]; simp
    · by_cases h2 : a ≤ x ∧ x ≤ b - 1
      · rw [if_pos h2, if_pos zo]; simp [h]
      · rw [if_neg h2, if_neg zo]; simp [h]
theorem inj_fin : ∀ i j k i' j' k' : Fin 4, cut f0 i j k = cut f0 i' j' k' → i = i' ∧ j = j' ∧ k = k' := by decide +kernel
theorem cut_inj {f : Nat → Nat → Proposal} (hf : Nice f) {i j k i' j' k' : Nat} (h : i < 4 ∧ j < 4 ∧ k < 4) (h' : i' < 4 ∧ j' < 4 ∧ k' < 4) (e : cut f i j k = cut f i' j' k') : i = i' ∧ j = j' ∧ k = k' := by
  have e2 : cut f0 i j k = cut f0 i' j' k' := by rw [← cut_key hf, ← cut_key hf, e]
  have := inj_fin ⟨i, h.1⟩ ⟨j, h.2.1⟩ ⟨k, h.2.2⟩ ⟨i', h'.1⟩ ⟨j', h'.2.1⟩ ⟨k', h'.2.2⟩ e2
  simpa [Fin.ext_iff] using this
theorem members_facts {f : Nat → Nat → Proposal} (hf : Nice f) (hp : ∀ a n, a < 3 → n < 3 → PropOK (f a n)) {a b c : Config} (ha : IsCut f a) (hb : IsCut f b) (hc : IsCut f c) :
    ((allB a b).filter fun d => decide (d = c)).length = (if withinB a b c = true then 1 else 0) ∧ (∀ d ∈ allB a b, withinB a b d = true ∧ ConfOK d ∧ d.length ≤ 9) ∧ withinB a b c = (containsR c a && containsR b c) := by
  obtain ⟨i, j, k, h, rfl⟩ := ha
  obtain ⟨i', j', k', h', rfl⟩ := hb
  obtain ⟨x, y, z, hx, rfl⟩ := hc
  have hw : withinB (cut f i j k) (cut f i' j' k') (cut f x y z) = (decide (i ≤ x ∧ j ≤ y ∧ k ≤ z) && decide (x ≤ i' ∧ y ≤ j' ∧ z ≤ k')) := by
    unfold withinB; rw [(contains_cut hf hx h).1, (contains_cut hf h' hx).1]
  refine ⟨?_, fun d hd => ?_, ?_⟩
  · rw [hw, allB_cut hf h h']
    by_cases hle : i ≤ i' ∧ j ≤ j' ∧ k ≤ k'
    · rw [if_pos hle, filter_allN (fun t => decide (t = (x : Int))) (fun t => decide (t = (y : Int))) (fun t => decide (t = (z : Int))) (fun a b c h1 h2 h3 => ?_), upto_eqL, upto_eqL, upto_eqL]
      · by_cases hC : (decide (i ≤ x ∧ j ≤ y ∧ k ≤ z) && decide (x ≤ i' ∧ y ≤ j' ∧ z ≤ k')) = true
        · rw [if_pos hC]
          rw [Bool.and_eq_true, decide_eq_true_eq, decide_eq_true_eq] at hC
          rw [if_pos (show (i : Int) ≤ x ∧ (x : Int) ≤ i' by omega), if_pos (show (j : Int) ≤ y ∧ (y : Int) ≤ j' by omega), if_pos (show (k : Int) ≤ z ∧ (z : Int) ≤ k' by omega)]; rfl
        · rw [if_neg hC]
          by_cases h1 : (i : Int) ≤ x ∧ (x : Int) ≤ i'
          · by_cases h2 : (j : Int) ≤ y ∧ (y : Int) ≤ j'
            · by_cases h3 : (k : Int) ≤ z ∧ (z : Int) ≤ k'
              · exfalso; apply hC; rw [Bool.and_eq_true, decide_eq_true_eq, decide_eq_true_eq]; omega
              · rw [if_pos h1, if_pos h2, if_neg h3]; rfl
            · rw [if_pos h1, if_neg h2]; rfl
          · rw [if_neg h1]; rfl
      · rw [← Bool.decide_and, ← Bool.decide_and]
        refine decide_eq_decide.2 ⟨fun e => ?_, fun e => ?_⟩
        · have := cut_inj hf zo hx e
          omega
        · rw [show a.toNat = x by omega, show b.toNat = y by omega, show c.toNat = z by omega]
    · rw [if_neg hle, if_neg (fun e => by rw [Bool.and_eq_true, decide_eq_true_eq, decide_eq_true_eq] at e; omega)]; rfl
  · rw [allB_cut hf h h'] at hd
    split at hd
    · obtain ⟨a1, a2, a3, h1, h2, h3, rfl⟩ := mem_allN hd
      refine ⟨?_, cut_ok hf hp zo, by rw [cut_len]; omega⟩
      unfold withinB
      rw [(contains_cut hf zo h).1, (contains_cut hf h' zo).1]
      simp; omega
    · cases hd
  · rw [hw, (contains_cut hf hx h).2, (contains_cut hf h' hx).2]
end Go.Proofs
