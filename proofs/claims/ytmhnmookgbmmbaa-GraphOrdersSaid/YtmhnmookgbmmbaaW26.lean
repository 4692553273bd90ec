/- Plain laws: union, meet, contraction and pruning of cuts. -/
import Derived.Test.YtmhnmookgbmmbaaW10
import Derived.Test.YtmhnmookgbmmbaaW23
set_option linter.unusedVariables false
set_option linter.unusedSimpArgs false
set_option maxRecDepth 8000
set_option maxHeartbeats 4000000
namespace Go.Proofs
open Go.AM
theorem unionR_map {g : Proposal → Proposal} : ∀ (a b : Config), (∀ x ∈ a, ∀ y ∈ b, cmpP (g x) (g y) = cmpP x y) → unionR (a.map g) (b.map g) = (unionR a b).map g
  | [], b, _ => by simp [unionR]
  | a :: xs, [], _ => by simp [unionR]
  | a :: xs, b :: bs, h => by
    have h0 := h a (by simp) b (by simp)
    have e1 := unionR_map xs (b :: bs) fun x hx y hy => h x (by simp [hx]) y hy
    have e2 := unionR_map (a :: xs) bs fun x hx y hy => h x hx y (by simp [hy])
    have e3 := unionR_map xs bs fun x hx y hy => h x (by simp [hx]) y (by simp [hy])
    rw [List.map_cons] at e1 e2
    rw [List.map_cons, List.map_cons, unionR, unionR, h0, e1, e2, e3]
    split
    · rfl
    · split <;> rfl
termination_by a b => a.length + b.length
def back (f : Nat → Nat → Proposal) (p : Proposal) : Proposal := f (p.admin - 201).toNat (p.number - 1).toNat
theorem back_f0 (f : Nat → Nat → Proposal) (a i : Nat) : back f (f0 a i) = f a i := by
  unfold back f0
  dsimp only
  rw [show ((201 : Int) + a - 201).toNat = a by omega, show ((i : Int) + 1 - 1).toNat = i by omega]
theorem back_cut (f : Nat → Nat → Proposal) (i j k : Nat) : (cut f0 i j k).map (back f) = cut f i j k := by
  simp only [cut, blk, List.map_append, List.map_map]
  congr 1
  · congr 1 <;> exact List.map_congr_left fun n _ => back_f0 f _ n
  · exact List.map_congr_left fun n _ => back_f0 f _ n
theorem mem_cut {f : Nat → Nat → Proposal} {i j k : Nat} {p : Proposal} (h : p ∈ cut f i j k) : ∃ a n, p = f a n := by
  simp only [cut, blk, List.mem_append, List.mem_map] at h
  rcases h with (⟨n, _, rfl⟩ | ⟨n, _, rfl⟩) | ⟨n, _, rfl⟩ <;> exact ⟨_, _, rfl⟩
/-- The merge with fuel: the kernel can reckon it. -/
def unionF : Nat → Config → Config → Config
  | 0, _, _ => []
  | _ + 1, [], bs => bs
  | _ + 1, a :: xs, [] => a :: xs
  | n + 1, a :: xs, b :: bs => if cmpP a b < 0 then a :: unionF n xs (b :: bs) else if 0 < cmpP a b then b :: unionF n (a :: xs) bs else a :: unionF n xs bs
theorem unionF_eq : ∀ (n : Nat) (a b : Config), a.length + b.length < n → unionF n a b = unionR a b
  | 0, _, _, h => absurd h (Nat.not_lt_zero _)
  | n + 1, [], bs, _ => by simp [unionF, unionR]
  | n + 1, a :: xs, [], _ => by simp [unionF, unionR]
  | n + 1, a :: xs, b :: bs, h => by
    simp only [List.length_cons] at h
    rw [unionF, unionR, unionF_eq n xs (b :: bs) (by simp only [List.length_cons]; omega), unionF_eq n (a :: xs) bs (by simp only [List.length_cons]; omega), unionF_eq n xs bs zo]
theorem unionF_fin : ∀ i j k i' j' k' : Fin 4, unionF 19 (cut f0 i j k) (cut f0 i' j' k') = cut f0 (max i.val i'.val) (max j.val j'.val) (max k.val k'.val) := by decide +kernel
theorem union_fin (i j k i' j' k' : Fin 4) : unionR (cut f0 i j k) (cut f0 i' j' k') = cut f0 (max i.val i'.val) (max j.val j'.val) (max k.val k'.val) := by
  rw [← unionF_eq 19 _ _ (by rw [cut_len, cut_len]; omega)]
  exact unionF_fin i j k i' j' k'
theorem unionR_cut {f : Nat → Nat → Proposal} (hf : Nice f) {i j k i' j' k' : Nat} (h : i < 4 ∧ j < 4 ∧ k < 4) (h' : i' < 4 ∧ j' < 4 ∧ k' < 4) : unionR (cut f i j k) (cut f i' j' k') = cut f (max i i') (max j j') (max k k') := by
  rw [← back_cut f i j k, ← back_cut f i' j' k', unionR_map, union_fin ⟨i, h.1⟩ ⟨j, h.2.1⟩ ⟨k, h.2.2⟩ ⟨i', h'.1⟩ ⟨j', h'.2.1⟩ ⟨k', h'.2.2⟩, back_cut]
  intro x hx y hy
  obtain ⟨a, n, rfl⟩ := mem_cut hx
  obtain ⟨b, m, rfl⟩ := mem_cut hy
  rw [back_f0, back_f0, ← cmpP_key, key_nice hf, key_nice hf]
theorem meetR_cut {f : Nat → Nat → Proposal} (hf : Nice f) {i j k i' j' k' : Nat} (h : i < 4 ∧ j < 4 ∧ k < 4) (h' : i' < 4 ∧ j' < 4 ∧ k' < 4) : meetR (cut f i j k) (cut f i' j' k') = cut f (min i i') (min j j') (min k k') := by
  unfold meetR
  refine filter_cut (fun n hn => ?_) (fun n hn => ?_) (fun n hn => ?_) <;> exact (has_cut hf h' zd zo).2
theorem upto_ge {a m b : Int} (h : a ≤ m) (hb : m ≤ b + 1) : (upto a b).filter (fun x => decide (m ≤ x)) = upto m b := by
  induction hn : (m - a).toNat generalizing a with
  | zero =>
    obtain rfl : a = m := by omega
    rw [List.filter_eq_self]
    intro x hx; rw [mem_upto] at hx; simpa using hx.1
  | succ n ih =>
    rw [upto_cons zo, List.filter_cons, if_neg (by simp; omega)]
    exact ih zo zo
theorem upto_below {a m b : Int} (h : m ≤ b) (hb : a ≤ m + 1) : (upto a b).filter (fun x => decide (x ≤ m)) = upto a m := by
  induction hn : (b + 1 - a).toNat generalizing a with
  | zero =>
    have e1 : upto a b = [] := by unfold upto; rw [hn]; rfl
    have e2 : upto a m = [] := by unfold upto; rw [show (m + 1 - a).toNat = 0 by omega]; rfl
    rw [e1, e2]; rfl
  | succ n ih =>
    rw [upto_cons zo, List.filter_cons]
    by_cases hm : a ≤ m
    · rw [if_pos (by simpa using hm), ih zo zo, ← upto_cons hm]
    · have e2 : upto a m = [] := by unfold upto; rw [show (m + 1 - a).toNat = 0 by omega]; rfl
      rw [if_neg (by simpa using hm), e2, List.filter_eq_nil_iff]
      intro x hx; rw [mem_upto] at hx; simp; omega
theorem flatMap_if {α β : Type} (l : List α) (q : α → Bool) (g : α → List β) : (l.flatMap fun a => if q a then g a else []) = (l.filter q).flatMap g := by
  induction l with
  | nil => rfl
  | cons x l ih =>
    rw [List.flatMap_cons, ih, List.filter_cons]
    split <;> simp
theorem filter_allN {f : Nat → Nat → Proposal} {p : Config → Bool} {i j k i' j' k' : Nat} (q0 q1 q2 : Int → Bool)
    (h : ∀ a b c : Int, (i ≤ a ∧ a ≤ i') → (j ≤ b ∧ b ≤ j') → (k ≤ c ∧ c ≤ k') → p (cut f a.toNat b.toNat c.toNat) = (q0 a && (q1 b && q2 c))) :
    (allN f i j k i' j' k').filter p = ((upto i i').filter q0).flatMap fun a => ((upto j j').filter q1).flatMap fun b => ((upto k k').filter q2).map fun c => cut f a.toNat b.toNat c.toNat := by
  unfold allN
  rw [List.filter_flatMap, ← flatMap_if]
  refine flatMap_ext fun a ha => ?_
  rw [List.filter_flatMap]
  by_cases h0 : q0 a = true
  · rw [if_pos h0, ← flatMap_if]
    refine flatMap_ext fun b hb => ?_
    rw [List.filter_map]
    by_cases h1 : q1 b = true
    · rw [if_pos h1]
      congr 1
      refine List.filter_congr fun c hc => ?_
      rw [Function.comp, h a b c (mem_upto.1 ha) (mem_upto.1 hb) (mem_upto.1 hc), h0, h1]; rfl
    · rw [if_neg h1, List.map_eq_nil_iff, List.filter_eq_nil_iff]
      intro c hc
      rw [Function.comp, h a b c (mem_upto.1 ha) (mem_upto.1 hb) (mem_upto.1 hc)]
      simp [h1]
  · rw [if_neg h0, List.flatMap_eq_nil_iff]
    intro b hb
    rw [List.filter_eq_nil_iff]
    intro x hx
    obtain ⟨c, hc, rfl⟩ := List.mem_map.1 hx
    rw [h a b c (mem_upto.1 ha) (mem_upto.1 hb) (mem_upto.1 hc)]
    simp [h0]
theorem contract_cut {f : Nat → Nat → Proposal} (hf : Nice f) {i j k i' j' k' m0 m1 m2 : Nat} (h : i ≤ m0 ∧ j ≤ m1 ∧ k ≤ m2) (h1 : m0 ≤ i' ∧ m1 ≤ j' ∧ m2 ≤ k') (h' : i' < 4 ∧ j' < 4 ∧ k' < 4) :
    contractB (allN f i j k i' j' k') (cut f m0 m1 m2) = allN f m0 m1 m2 i' j' k' := by
  unfold contractB
  rw [filter_allN (fun a => decide ((m0 : Int) ≤ a)) (fun a => decide ((m1 : Int) ≤ a)) (fun a => decide ((m2 : Int) ≤ a)), upto_ge zo zo, upto_ge zo zo, upto_ge zo zo]
  · rfl
  · intro a b c ha hb hc
    rw [(contains_cut hf zo zo).1, ← Bool.decide_and, ← Bool.decide_and]
    exact decide_eq_decide.2 zo
end Go.Proofs
