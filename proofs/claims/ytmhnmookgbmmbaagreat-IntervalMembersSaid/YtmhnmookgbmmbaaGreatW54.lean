/- Law 09: IntervalClosed. -/
import Derived.Test.YtmhnmookgbmmbaaGreatW52
import Derived.Test.YtmhnmookgbmmbaaGreatW10
set_option linter.unusedVariables false
set_option linter.unusedSimpArgs false
set_option maxRecDepth 8000
set_option maxHeartbeats 4000000
set_option pp.deepTerms false
set_option pp.deepTerms.threshold 6
namespace Go.Proofs
open Go.AM
attribute [local irreducible] AM.evalR AM.evalD AM.Runs AM.valK AM.dK AM.opK AM.stepR AM.CallS AM.St.Le
theorem unionR_map {g : Proposal → Proposal} : ∀ (a b : Config), (∀ x ∈ a, ∀ y ∈ b, cmpP (g x) (g y) = cmpP x y) → unionR (a.map g) (b.map g) = (unionR a b).map g
  | [], b, _ => by simp [unionR]
  | a :: xs, [], _ => by simp [unionR]
  | a :: xs, b :: bs, h => by
    have h0 := h a (by simp) b (by simp)
    have e1 := unionR_map xs (b :: bs) fun x hx y hy => h x (by simp [hx]) y hy
    have e2 := unionR_map (a :: xs) bs fun x hx y hy => h x hx y (by simp [hy])
    have e3 := unionR_map xs bs fun x hx y hy => h x (by simp [hx]) y (by simp [hy])
    rw [List.map_cons] at e1 e2
    rw [List.map_cons, List.map_cons, unionR, unionR, h0, e1, e2, e3]
    split
    · rfl
    · split <;> rfl
termination_by a b => a.length + b.length
def back (f : Nat → Nat → Proposal) (p : Proposal) : Proposal := f (p.admin - 201).toNat (p.number - 1).toNat
theorem back_f0 (f : Nat → Nat → Proposal) (a i : Nat) : back f (f0 a i) = f a i := by
  unfold back f0
  dsimp only
  rw [show ((201 : Int) + a - 201).toNat = a by omega, show ((i : Int) + 1 - 1).toNat = i by omega]
theorem back_cut (f : Nat → Nat → Proposal) (i j k : Nat) : (cut f0 i j k).map (back f) = cut f i j k := by
  simp only [cut, blk, List.map_append, List.map_map]
  congr 1
  · congr 1 <;> exact List.map_congr_left fun n _ => back_f0 f _ n
  · exact List.map_congr_left fun n _ => back_f0 f _ n
theorem mem_cut {f : Nat → Nat → Proposal} {i j k : Nat} {p : Proposal} (h : p ∈ cut f i j k) : ∃ a n, p = f a n := by
  simp only [cut, blk, List.mem_append, List.mem_map] at h
  rcases h with (⟨n, _, rfl⟩ | ⟨n, _, rfl⟩) | ⟨n, _, rfl⟩ <;> exact ⟨_, _, rfl⟩
/-- The merge with fuel: the kernel can reckon it. -/
def unionF : Nat → Config → Config → Config
  | 0, _, _ => []
  | _ + 1, [], bs => bs
  | _ + 1, a :: xs, [] => a :: xs
  | n + 1, a :: xs, b :: bs => if cmpP a b < 0 then a :: unionF n xs (b :: bs) else if 0 < cmpP a b then b :: unionF n (a :: xs) bs else a :: unionF n xs bs
theorem unionF_eq : ∀ (n : Nat) (a b : Config), a.length + b.length < n → unionF n a b = unionR a b
  | 0, _, _, h => absurd h (Nat.not_lt_zero _)
  | n + 1, [], bs, _ => by simp [unionF, unionR]
  | n + 1, a :: xs, [], _ => by simp [unionF, unionR]
  | n + 1, a :: xs, b :: bs, h => by
    simp only [List.length_cons] at h
    rw [unionF, unionR, unionF_eq n xs (b :: bs) (by simp only [List.length_cons]; omega), unionF_eq n (a :: xs) bs (by simp only [List.length_cons]; omega), unionF_eq n xs bs zo]
theorem unionF_fin : ∀ i j k i' j' k' : Fin 4, unionF 19 (cut f0 i j k) (cut f0 i' j' k') = cut f0 (max i.val i'.val) (max j.val j'.val) (max k.val k'.val) := by decide +kernel
theorem union_fin (i j k i' j' k' : Fin 4) : unionR (cut f0 i j k) (cut f0 i' j' k') = cut f0 (max i.val i'.val) (max j.val j'.val) (max k.val k'.val) := by
  rw [← unionF_eq 19 _ _ (by rw [cut_len, cut_len]; omega)]
  exact unionF_fin i j k i' j' k'
theorem unionR_cut {f : Nat → Nat → Proposal} (hf : Nice f) {i j k i' j' k' : Nat} (h : i < 4 ∧ j < 4 ∧ k < 4) (h' : i' < 4 ∧ j' < 4 ∧ k' < 4) : unionR (cut f i j k) (cut f i' j' k') = cut f (max i i') (max j j') (max k k') := by
  rw [← back_cut f i j k, ← back_cut f i' j' k', unionR_map, union_fin ⟨i, h.1⟩ ⟨j, h.2.1⟩ ⟨k, h.2.2⟩ ⟨i', h'.1⟩ ⟨j', h'.2.1⟩ ⟨k', h'.2.2⟩, back_cut]
  intro x hx y hy
  obtain ⟨a, n, rfl⟩ := mem_cut hx
  obtain ⟨b, m, rfl⟩ := mem_cut hy
  rw [back_f0, back_f0, ← cmpP_key, key_nice hf, key_nice hf]
theorem meetR_cut {f : Nat → Nat → Proposal} (hf : Nice f) {i j k i' j' k' : Nat} (h : i < 4 ∧ j < 4 ∧ k < 4) (h' : i' < 4 ∧ j' < 4 ∧ k' < 4) : meetR (cut f i j k) (cut f i' j' k') = cut f (min i i') (min j j') (min k k') := by
  unfold meetR
  refine filter_cut (fun n hn => ?_) (fun n hn => ?_) (fun n hn => ?_) <;> exact (has_cut hf h' zd zo).2
theorem mem_allN {f : Nat → Nat → Proposal} {i j k i' j' k' : Nat} {A : Config} (h : A ∈ allN f i j k i' j' k') : ∃ a b c : Nat, (i ≤ a ∧ a ≤ i') ∧ (j ≤ b ∧ b ≤ j') ∧ (k ≤ c ∧ c ≤ k') ∧ A = cut f a b c := by
  simp only [allN, List.mem_flatMap, List.mem_map, mem_upto] at h
  obtain ⟨a, ha, b, hb, x, hx, rfl⟩ := h
  exact ⟨a.toNat, b.toNat, x.toNat, by omega, by omega, by omega, rfl⟩
theorem closed_facts {f : Nat → Nat → Proposal} (hf : Nice f) {c : Config} (hc : IsCut f c) (n : Int) {A B : Config} (hA : A ∈ allB (partI c n) c) (hB : B ∈ allB (partI c n) c) :
    withinB (partI c n) c (unionR A B) = true ∧ withinB (partI c n) c (meetR A B) = true := by
  obtain ⟨i, j, k, i', j', k', hle, h', rfl, hp⟩ := part_sub hf hc n
  have h : i < 4 ∧ j < 4 ∧ k < 4 := by omega
  rw [hp] at hA hB ⊢
  rw [allB_cut hf h h', if_pos hle] at hA hB
  obtain ⟨a1, a2, a3, ha1, ha2, ha3, rfl⟩ := mem_allN hA
  obtain ⟨b1, b2, b3, hb1, hb2, hb3, rfl⟩ := mem_allN hB
  rw [unionR_cut hf zo zo, meetR_cut hf zo zo]
  unfold withinB
  rw [(contains_cut hf zo h).1, (contains_cut hf h' zo).1, (contains_cut hf zo h).1, (contains_cut hf h' zo).1]
  constructor <;> simp <;> omega
theorem all_pos {f : Nat → Nat → Proposal} (hf : Nice f) {c : Config} (hc : IsCut f c) (n : Int) : 0 < (allB (partI c n) c).length := by
  obtain ⟨i, j, k, i', j', k', hle, h', rfl, hp⟩ := part_sub hf hc n
  have h : i < 4 ∧ j < 4 ∧ k < 4 := by omega
  rw [hp, allB_cut hf h h', if_pos hle]
  have hm : cut f i j k ∈ allN f i j k i' j' k' := by
    simp only [allN, List.mem_flatMap, List.mem_map, mem_upto]
    exact ⟨i, by omega, j, by omega, k, by omega, by simp⟩
  exact List.length_pos_of_mem hm
theorem getD_mem0 {α : Type} [Inhabited α] {l : List α} {i : Nat} (h : i < l.length) : l.getD i default ∈ l := by
  rw [List.getD_eq_getElem?_getD, List.getElem?_eq_getElem h]; exact List.getElem_mem h
end Go.Proofs
