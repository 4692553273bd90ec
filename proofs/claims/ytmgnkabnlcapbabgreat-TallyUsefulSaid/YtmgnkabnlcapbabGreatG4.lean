/- Contracts of functions and plain laws: W51, W52, W10, W54, W56, W59, W57, W58, W60, W71, W81, W82, W75, W83, W86, W96, W106, W110, W112, W113. -/
import Derived.Test.YtmgnkabnlcapbabGreatQc
import Derived.Test.YtmgnkabnlcapbabGreatQd
import Derived.Test.YtmgnkabnlcapbabGreatG3
set_option linter.unusedVariables false
set_option linter.unusedSimpArgs false
set_option maxRecDepth 8000
set_option maxHeartbeats 4000000
set_option pp.deepTerms false
set_option pp.deepTerms.threshold 6
namespace Go.Proofs
open Go.AM
attribute [local irreducible] AM.evalR AM.evalD AM.Runs AM.valK AM.dK AM.opK AM.stepR AM.CallS AM.St.Le
def blk (f : Nat → Nat → Proposal) (a n : Nat) : Config := (List.range n).map (f a)
def cut (f : Nat → Nat → Proposal) (i j k : Nat) : Config := blk f 0 i ++ blk f 1 j ++ blk f 2 k
def Nice (f : Nat → Nat → Proposal) : Prop := ∀ a i, (f a i).admin = 201 + a ∧ (f a i).number = i + 1
def IsCut (f : Nat → Nat → Proposal) (c : Config) : Prop := ∃ i j k, (i < 4 ∧ j < 4 ∧ k < 4) ∧ c = cut f i j k
def key (p : Proposal) : Proposal := ⟨p.admin, p.number, []⟩
def f0 (a i : Nat) : Proposal := ⟨201 + a, i + 1, []⟩
theorem key_nice {f : Nat → Nat → Proposal} (hf : Nice f) (a i : Nat) : key (f a i) = f0 a i := by
  unfold key f0; rw [(hf a i).1, (hf a i).2]
theorem cut_key {f : Nat → Nat → Proposal} (hf : Nice f) (i j k : Nat) : (cut f i j k).map key = cut f0 i j k := by
  simp only [cut, blk, List.map_append, List.map_map]
  congr 1
  · congr 1 <;> exact List.map_congr_left fun n _ => key_nice hf _ n
  · exact List.map_congr_left fun n _ => key_nice hf _ n
theorem cmpP_key (p q : Proposal) : cmpP (key p) (key q) = cmpP p q := rfl
theorem getD_key (c : Config) (i : Nat) (h : i < c.length) : (c.map key).getD i default = key (c.getD i default) := by
  simp [List.getD_eq_getElem?_getD, h]
theorem bs_congr {k k' : Nat → Int} {i j : Nat} (h : ∀ n, i ≤ n → n < j → k n = k' n) : bs k i j = bs k' i j := by
  induction hn : j - i using Nat.strongRecOn generalizing i j with
  | _ n ih =>
    unfold bs
    by_cases hij : i < j
    · rw [dif_pos hij, dif_pos hij, h ((i + j) / 2) zo zo]
      split
      · exact ih (j - ((i + j) / 2 + 1)) zo (fun n h1 h2 => h n zo h2) rfl
      · exact ih ((i + j) / 2 - i) zo (fun n h1 h2 => h n h1 zo) rfl
    · rw [dif_neg hij, dif_neg hij]
theorem hasB_key (c : Config) (p : Proposal) : hasB (c.map key) (key p) = hasB c p := by
  have e : bs (fun i => cmpP ((c.map key).getD i default) (key p)) 0 (c.map key).length = bs (fun i => cmpP (c.getD i default) p) 0 c.length := by
    rw [List.length_map]
    refine bs_congr fun n _ hn => ?_
    rw [getD_key c n hn, cmpP_key]
  unfold hasB
  dsimp only
  rw [e, List.length_map]
  by_cases h : bs (fun i => cmpP (c.getD i default) p) 0 c.length < c.length
  · rw [getD_key c _ h, cmpP_key]
  · rw [decide_eq_false (fun x => h x.1), decide_eq_false (fun x => h x.1)]
theorem hasR_key (c : Config) (p : Proposal) : hasR (c.map key) (key p) = hasR c p := by
  unfold hasR; rw [List.any_map]; rfl
theorem vectorV_key (c : Config) : vectorV (c.map key) = vectorV c := by
  unfold vectorV; rw [List.foldl_map]; rfl
theorem vectorR_key (c : Config) : vectorR (c.map key) = vectorR c := by
  unfold vectorR; rw [List.foldl_map]; rfl
def sel (i j k a : Nat) : Nat := if a = 0 then i else if a = 1 then j else k
theorem has_fin : ∀ i j k : Fin 4, ∀ a n : Fin 3, hasB (cut f0 i j k) (f0 a n) = decide (n.val < sel i j k a) ∧ hasR (cut f0 i j k) (f0 a n) = decide (n.val < sel i j k a) := by decide +kernel
theorem has_cut {f : Nat → Nat → Proposal} (hf : Nice f) {i j k : Nat} (h : i < 4 ∧ j < 4 ∧ k < 4) {a n : Nat} (ha : a < 3) (hn : n < 3) : hasB (cut f i j k) (f a n) = decide (n < sel i j k a) ∧ hasR (cut f i j k) (f a n) = decide (n < sel i j k a) := by
  rw [← hasB_key, ← hasR_key, cut_key hf, key_nice hf]
  exact has_fin ⟨i, h.1⟩ ⟨j, h.2.1⟩ ⟨k, h.2.2⟩ ⟨a, ha⟩ ⟨n, hn⟩
theorem all_blk {f : Nat → Nat → Proposal} {g : Proposal → Bool} {a m n : Nat} (hm : m ≤ 3) (h : ∀ i, i < 3 → g (f a i) = decide (i < n)) : (blk f a m).all g = decide (m ≤ n) := by
  rw [Bool.eq_iff_iff, List.all_eq_true, decide_eq_true_eq]
  simp only [blk, List.mem_map, List.mem_range]
  constructor
  · intro hx
    rcases Nat.lt_or_ge n m with h1 | h1
    · have := hx _ ⟨n, h1, rfl⟩
      rw [h n zo, decide_eq_true_eq] at this
      omega
    · exact h1
  · rintro hmn x ⟨i, hi, rfl⟩
    rw [h i zo, decide_eq_true_eq]; omega
theorem contains_cut {f : Nat → Nat → Proposal} (hf : Nice f) {i j k i' j' k' : Nat} (h : i < 4 ∧ j < 4 ∧ k < 4) (h' : i' < 4 ∧ j' < 4 ∧ k' < 4) :
    containsB (cut f i j k) (cut f i' j' k') = decide (i' ≤ i ∧ j' ≤ j ∧ k' ≤ k) ∧ containsR (cut f i j k) (cut f i' j' k') = decide (i' ≤ i ∧ j' ≤ j ∧ k' ≤ k) := by
  constructor
  · rw [containsB, show cut f i' j' k' = blk f 0 i' ++ blk f 1 j' ++ blk f 2 k' from rfl, List.all_append, List.all_append,
      all_blk zo (fun n hn => (has_cut hf h zd hn).1), all_blk zo (fun n hn => (has_cut hf h zd hn).1), all_blk zo (fun n hn => (has_cut hf h zd hn).1)]
    simp [sel, Bool.and_assoc]
  · rw [containsR, show cut f i' j' k' = blk f 0 i' ++ blk f 1 j' ++ blk f 2 k' from rfl, List.all_append, List.all_append,
      all_blk zo (fun n hn => (has_cut hf h zd hn).2), all_blk zo (fun n hn => (has_cut hf h zd hn).2), all_blk zo (fun n hn => (has_cut hf h zd hn).2)]
    simp [sel, Bool.and_assoc]
def vecC (i j k : Nat) : Vector := (if 0 < i then [⟨201, i⟩] else []) ++ (if 0 < j then [⟨202, j⟩] else []) ++ (if 0 < k then [⟨203, k⟩] else [])
theorem vec_fin : ∀ i j k : Fin 4, vectorV (cut f0 i j k) = vecC i j k ∧ vectorR (cut f0 i j k) = vecC i j k ∧ vec3 (i : Nat) (j : Nat) (k : Nat) = vecC i j k ∧ (getV (vecC i j k) 201 = (i : Nat) ∧ getV (vecC i j k) 202 = (j : Nat) ∧ getV (vecC i j k) 203 = (k : Nat)) ∧ countR (vecC i j k) 201 = (i : Nat) ∧ countR (vecC i j k) 202 = (j : Nat) ∧ countR (vecC i j k) 203 = (k : Nat) := by decide +kernel
theorem vec_cut {f : Nat → Nat → Proposal} (hf : Nice f) {i j k : Nat} (h : i < 4 ∧ j < 4 ∧ k < 4) : vectorV (cut f i j k) = vecC i j k ∧ vectorR (cut f i j k) = vecC i j k := by
  rw [← vectorV_key, ← vectorR_key, cut_key hf]
  have := vec_fin ⟨i, h.1⟩ ⟨j, h.2.1⟩ ⟨k, h.2.2⟩
  exact ⟨this.1, this.2.1⟩
def vlist (i j k i' j' k' : Nat) : List Vector := (upto i i').flatMap fun a => (upto j j').flatMap fun b => (upto k k').map fun c => vec3 a b c
theorem vectors_fin : ∀ i j k i' j' k' : Fin 4, i ≤ i' → j ≤ j' → k ≤ k' → vectorsV (vecC i j k) (vecC i' j' k') = vlist i j k i' j' k' := by decide +kernel
theorem filter_range (m n : Nat) : ((List.range m).filter fun i => decide (i < n)) = List.range (min m n) := by
  induction m with
  | zero => simp
  | succ m ih =>
    rw [List.range_succ, List.filter_append, ih]
    by_cases h : m < n
    · rw [show min (m + 1) n = m + 1 by omega, show min m n = m by omega, List.range_succ]; simp [h]
    · rw [show min (m + 1) n = n by omega, show min m n = n by omega]; simp [h]
theorem filter_blk {f : Nat → Nat → Proposal} {g : Proposal → Bool} {a n m : Nat} (h : ∀ i, i < m → g (f a i) = decide (i < n)) : (blk f a m).filter g = blk f a (min m n) := by
  unfold blk
  rw [List.filter_map, ← filter_range]
  congr 1
  refine List.filter_congr fun i hi => ?_
  exact h i (List.mem_range.1 hi)
theorem filter_cut {f : Nat → Nat → Proposal} {g : Proposal → Bool} {i j k i' j' k' : Nat} (h1 : ∀ n, n < i → g (f 0 n) = decide (n < i')) (h2 : ∀ n, n < j → g (f 1 n) = decide (n < j')) (h3 : ∀ n, n < k → g (f 2 n) = decide (n < k')) :
    (cut f i j k).filter g = cut f (min i i') (min j j') (min k k') := by
  unfold cut
  rw [List.filter_append, List.filter_append, filter_blk h1, filter_blk h2, filter_blk h3]
theorem restrictR_cut {f : Nat → Nat → Proposal} (hf : Nice f) (v : Vector) (i j k : Nat) : restrictR (cut f i j k) v = cut f (min i (countR v 201).toNat) (min j (countR v 202).toNat) (min k (countR v 203).toNat) := by
  unfold restrictR
  refine filter_cut ?_ ?_ ?_ <;> (intro n hn; rw [(hf _ n).1, (hf _ n).2]; apply decide_eq_decide.2; simp only [show (201 : Int) + ((0 : Nat) : Int) = 201 from rfl, show (201 : Int) + ((1 : Nat) : Int) = 202 from rfl, show (201 : Int) + ((2 : Nat) : Int) = 203 from rfl]; omega)
theorem restrictV_cut {f : Nat → Nat → Proposal} (hf : Nice f) (v : Vector) (i j k : Nat) : restrictV (cut f i j k) v = cut f (min i (getV v 201).toNat) (min j (getV v 202).toNat) (min k (getV v 203).toNat) := by
  unfold restrictV
  refine filter_cut ?_ ?_ ?_ <;> (intro n hn; rw [(hf _ n).1, (hf _ n).2]; apply decide_eq_decide.2; simp only [show (201 : Int) + ((0 : Nat) : Int) = 201 from rfl, show (201 : Int) + ((1 : Nat) : Int) = 202 from rfl, show (201 : Int) + ((2 : Nat) : Int) = 203 from rfl]; omega)
theorem flatMap_ext {α β : Type} {l : List α} {g h : α → List β} (e : ∀ x ∈ l, g x = h x) : l.flatMap g = l.flatMap h := by
  induction l with
  | nil => rfl
  | cons x l ih => rw [List.flatMap_cons, List.flatMap_cons, e x (by simp), ih fun y hy => e y (by simp [hy])]
theorem mem_upto {a b x : Int} : x ∈ upto a b ↔ a ≤ x ∧ x ≤ b := by
  unfold upto
  rw [List.mem_map]
  constructor
  · rintro ⟨n, hn, rfl⟩; rw [List.mem_range] at hn; omega
  · intro h; exact ⟨(x - a).toNat, by rw [List.mem_range]; omega, by omega⟩
def allN (f : Nat → Nat → Proposal) (i j k i' j' k' : Nat) : List Config := (upto i i').flatMap fun a => (upto j j').flatMap fun b => (upto k k').map fun c => cut f a.toNat b.toNat c.toNat
theorem allR_cut {f : Nat → Nat → Proposal} (hf : Nice f) {i j k i' j' k' : Nat} (h : i < 4 ∧ j < 4 ∧ k < 4) (h' : i' < 4 ∧ j' < 4 ∧ k' < 4) :
    allR (cut f i j k) (cut f i' j' k') = if i ≤ i' ∧ j ≤ j' ∧ k ≤ k' then allN f i j k i' j' k' else [] := by
  unfold allR
  rw [(contains_cut hf h' h).2]
  by_cases hle : i ≤ i' ∧ j ≤ j' ∧ k ≤ k'
  · rw [if_pos (by simpa using hle), if_pos hle]
    have v1 := vec_fin ⟨i, h.1⟩ ⟨j, h.2.1⟩ ⟨k, h.2.2⟩
    have v2 := vec_fin ⟨i', h'.1⟩ ⟨j', h'.2.1⟩ ⟨k', h'.2.2⟩
    dsimp only at v1 v2
    unfold allJ allK cntR
    rw [(vec_cut hf h).2, (vec_cut hf h').2, v1.2.2.2.2.1, v1.2.2.2.2.2.1, v1.2.2.2.2.2.2, v2.2.2.2.2.1, v2.2.2.2.2.2.1, v2.2.2.2.2.2.2]
    unfold allN
    refine flatMap_ext fun a ha => flatMap_ext fun b hb => List.map_congr_left fun c hc => ?_
    rw [mem_upto] at ha hb hc
    have v3 := vec_fin ⟨a.toNat, by omega⟩ ⟨b.toNat, by omega⟩ ⟨c.toNat, by omega⟩
    dsimp only at v3
    rw [Int.toNat_of_nonneg zo, Int.toNat_of_nonneg zo, Int.toNat_of_nonneg zo] at v3
    rw [restrictR_cut hf, v3.2.2.1, v3.2.2.2.2.1, v3.2.2.2.2.2.1, v3.2.2.2.2.2.2]
    congr 1 <;> omega
  · rw [if_neg (by simpa using hle), if_neg hle]
theorem allB_cut {f : Nat → Nat → Proposal} (hf : Nice f) {i j k i' j' k' : Nat} (h : i < 4 ∧ j < 4 ∧ k < 4) (h' : i' < 4 ∧ j' < 4 ∧ k' < 4) :
    allB (cut f i j k) (cut f i' j' k') = if i ≤ i' ∧ j ≤ j' ∧ k ≤ k' then allN f i j k i' j' k' else [] := by
  unfold allB
  rw [(contains_cut hf h' h).1]
  by_cases hle : i ≤ i' ∧ j ≤ j' ∧ k ≤ k'
  · rw [if_pos (by simpa using hle), if_pos hle, (vec_cut hf h).1, (vec_cut hf h').1]
    rw [vectors_fin ⟨i, h.1⟩ ⟨j, h.2.1⟩ ⟨k, h.2.2⟩ ⟨i', h'.1⟩ ⟨j', h'.2.1⟩ ⟨k', h'.2.2⟩ hle.1 hle.2.1 hle.2.2]
    unfold allN vlist
    rw [List.map_flatMap]
    refine flatMap_ext fun a ha => ?_
    rw [List.map_flatMap]
    refine flatMap_ext fun b hb => ?_
    rw [List.map_map]
    refine List.map_congr_left fun c hc => ?_
    rw [mem_upto] at ha hb hc
    dsimp only at ha hb hc
    have v3 := vec_fin ⟨a.toNat, by omega⟩ ⟨b.toNat, by omega⟩ ⟨c.toNat, by omega⟩
    dsimp only at v3
    rw [Int.toNat_of_nonneg zo, Int.toNat_of_nonneg zo, Int.toNat_of_nonneg zo] at v3
    rw [Function.comp, restrictV_cut hf, v3.2.2.1, v3.2.2.2.1.1, v3.2.2.2.1.2.1, v3.2.2.2.1.2.2]
    congr 1 <;> omega
  · rw [if_neg (by simpa using hle), if_neg hle]
theorem allN_cut (f : Nat → Nat → Proposal) {i j k i' j' k' : Nat} (h' : i' < 4 ∧ j' < 4 ∧ k' < 4) : ∀ c ∈ allN f i j k i' j' k', IsCut f c := by
  intro c hc
  simp only [allN, List.mem_flatMap, List.mem_map, mem_upto] at hc
  obtain ⟨a, ha, b, hb, x, hx, rfl⟩ := hc
  exact ⟨_, _, _, ⟨by omega, by omega, by omega⟩, rfl⟩
def poolF (l : List Int) (a i : Nat) : Proposal := propI l a i ((poolUpto l a).2 + 2 * i)
theorem pool_nice (l : List Int) : Nice (poolF l) := fun a i => ⟨rfl, rfl⟩
theorem pool_lite (l : List Int) (a i : Nat) : (poolF l a i).changes.length ≤ 2 := by
  simp only [poolF, propI, List.length_cons]
  split <;> simp
theorem pool_cut (l : List Int) : IsCut (poolF l) (poolI l) := ⟨cntI l 0, cntI l 1, cntI l 2, ⟨(cntI_bd l 0).2, (cntI_bd l 1).2, (cntI_bd l 2).2⟩, by
  show (([] ++ groupI l 0 3 (cntI l 0)) ++ groupI l 1 (3 + 2 * cntI l 0) (cntI l 1)) ++ groupI l 2 (3 + 2 * cntI l 0 + 2 * cntI l 1) (cntI l 2) = _
  rw [List.nil_append]; rfl⟩
theorem part_cut {f : Nat → Nat → Proposal} (hf : Nice f) {c : Config} (hc : IsCut f c) (n : Int) : IsCut f (partI c n) := by
  obtain ⟨i, j, k, h, rfl⟩ := hc
  exact ⟨_, _, _, ⟨by omega, by omega, by omega⟩, restrictR_cut hf _ i j k⟩
theorem cut_len (f : Nat → Nat → Proposal) (i j k : Nat) : (cut f i j k).length = i + j + k := by simp [cut, blk, Nat.add_assoc]
def Lite (f : Nat → Nat → Proposal) : Prop := ∀ a i, (f a i).changes.length ≤ 2
theorem IsCut.small {f : Nat → Nat → Proposal} (hf : Lite f) {c : Config} (hc : IsCut f c) : c.length ≤ 9 ∧ Small c := by
  obtain ⟨i, j, k, h, rfl⟩ := hc
  refine ⟨by rw [cut_len]; omega, by rw [cut_len]; omega, fun p hp => ?_⟩
  simp only [cut, blk, List.mem_append, List.mem_map] at hp
  rcases hp with (⟨n, _, rfl⟩ | ⟨n, _, rfl⟩) | ⟨n, _, rfl⟩ <;> exact Nat.le_trans (hf _ _) zd
theorem fine_fin : ∀ i j k : Fin 4, Fine (vecC i j k) := by unfold Fine; decide +kernel
theorem IsCut.fine {f : Nat → Nat → Proposal} (hf : Nice f) {c : Config} (hc : IsCut f c) : Fine (vectorV c) := by
  obtain ⟨i, j, k, h, rfl⟩ := hc
  rw [(vec_cut hf h).1]
  exact fine_fin ⟨i, h.1⟩ ⟨j, h.2.1⟩ ⟨k, h.2.2⟩
theorem flatMap_len_le {α β : Type} {l : List α} {g : α → List β} {n : Nat} (h : ∀ x ∈ l, (g x).length ≤ n) : (l.flatMap g).length ≤ l.length * n := by
  induction l with
  | nil => simp
  | cons x l ih =>
    rw [List.flatMap_cons, List.length_append, List.length_cons, Nat.add_mul]
    have := h x (by simp)
    have := ih fun y hy => h y (by simp [hy])
    omega
theorem allN_len (f : Nat → Nat → Proposal) {i j k i' j' k' : Nat} (h' : i' < 4 ∧ j' < 4 ∧ k' < 4) : (allN f i j k i' j' k').length ≤ 64 := by
  refine Nat.le_trans (flatMap_len_le (n := 16) fun a ha => ?_) ?_
  · refine Nat.le_trans (flatMap_len_le (n := 4) fun b hb => ?_) ?_
    · rw [List.length_map, upto_len]; omega
    · rw [upto_len]; omega
  · rw [upto_len]; omega
theorem all_is {f : Nat → Nat → Proposal} (hf : Nice f) (hl : Lite f) {a b : Config} (ha : IsCut f a) (hb : IsCut f b) : allB a b = allR a b ∧ (∀ c ∈ allR a b, IsCut f c) ∧ Few (allR a b) := by
  obtain ⟨i, j, k, h, rfl⟩ := ha
  obtain ⟨i', j', k', h', rfl⟩ := hb
  rw [allB_cut hf h h', allR_cut hf h h']
  split
  · have hc := allN_cut f (i := i) (j := j) (k := k) h'
    exact ⟨rfl, hc, Nat.le_trans (allN_len f h') zd, fun c hm => ((hc c hm).small hl).2.1⟩
  · exact ⟨rfl, by simp, by simp [Few]⟩
end Go.Proofs
namespace Go.Proofs
open Go.AM
attribute [local irreducible] AM.evalR AM.evalD AM.Runs AM.valK AM.dK AM.opK AM.stepR AM.CallS AM.St.Le
end Go.Proofs
namespace Go.Proofs
open Go.AM
attribute [local irreducible] AM.evalR AM.evalD AM.Runs AM.valK AM.dK AM.opK AM.stepR AM.CallS AM.St.Le
end Go.Proofs
namespace Go.Proofs
open Go.AM
attribute [local irreducible] AM.evalR AM.evalD AM.Runs AM.valK AM.dK AM.opK AM.stepR AM.CallS AM.St.Le
theorem mem_cut {f : Nat → Nat → Proposal} {i j k : Nat} {p : Proposal} (h : p ∈ cut f i j k) : ∃ a n, p = f a n := by
  simp only [cut, blk, List.mem_append, List.mem_map] at h
  rcases h with (⟨n, _, rfl⟩ | ⟨n, _, rfl⟩) | ⟨n, _, rfl⟩ <;> exact ⟨_, _, rfl⟩
end Go.Proofs
namespace Go.Proofs
open Go.AM
attribute [local irreducible] AM.evalR AM.evalD AM.Runs AM.valK AM.dK AM.opK AM.stepR AM.CallS AM.St.Le
def RuleOK (r : Rule) : Prop := (1 ≤ r.kind ∧ r.kind ≤ 4) ∧ (r.kind = 3 → 1 ≤ r.columns ∧ r.columns ≤ 12) ∧ (r.kind ≠ 3 → r.columns = 0) ∧ (r.kind = 4 → 0 ≤ r.faulty ∧ r.faulty ≤ 12) ∧ (r.kind ≠ 4 → r.faulty = 0)
def ChangeOK (c : Change) : Prop := (c.kind = 1 ∧ (1 ≤ c.server ∧ c.server ≤ 12) ∧ (1 ≤ c.weight ∧ c.weight ≤ 9) ∧ c.version = 0 ∧ c.rule = ⟨0, 0, 0⟩) ∨ (c.kind = 2 ∧ (1 ≤ c.server ∧ c.server ≤ 12) ∧ c.weight = 0 ∧ c.version = 0 ∧ c.rule = ⟨0, 0, 0⟩) ∨
  (c.kind = 3 ∧ (1 ≤ c.server ∧ c.server ≤ 12) ∧ (1 ≤ c.weight ∧ c.weight ≤ 9) ∧ (1 ≤ c.version ∧ c.version ≤ 1000) ∧ c.rule = ⟨0, 0, 0⟩) ∨ (c.kind = 4 ∧ c.server = 0 ∧ c.weight = 0 ∧ (1 ≤ c.version ∧ c.version ≤ 1000) ∧ RuleOK c.rule)
def PropOK (p : Proposal) : Prop := (201 ≤ p.admin ∧ p.admin < 204) ∧ (1 ≤ p.number ∧ p.number ≤ 3) ∧ (1 ≤ p.changes.length ∧ p.changes.length ≤ 6) ∧ (∀ c ∈ p.changes, ChangeOK c) ∧
  ∀ i k : Nat, k < i → i < p.changes.length → ¬ ((p.changes.getD k default).kind = (p.changes.getD i default).kind ∧ (p.changes.getD k default).server = (p.changes.getD i default).server)
end Go.Proofs
namespace Go.Proofs
open Go.AM
attribute [local irreducible] AM.evalR AM.evalD AM.Runs AM.valK AM.dK AM.opK AM.stepR AM.CallS AM.St.Le
end Go.Proofs
namespace Go.Proofs
open Go.AM
attribute [local irreducible] AM.evalR AM.evalD AM.Runs AM.valK AM.dK AM.opK AM.stepR AM.CallS AM.St.Le
theorem getD_in {α : Type} [Inhabited α] {l : List α} {i : Nat} (h : i < l.length) : l.getD i default ∈ l := by
  rw [List.getD_eq_getElem?_getD, List.getElem?_eq_getElem h]; exact List.getElem_mem h
end Go.Proofs
namespace Go.Proofs
open Go.AM
attribute [local irreducible] AM.evalR AM.evalD AM.Runs AM.valK AM.dK AM.opK AM.stepR AM.CallS AM.St.Le
end Go.Proofs
namespace Go.Proofs
open Go.AM
attribute [local irreducible] AM.evalR AM.evalD AM.Runs AM.valK AM.dK AM.opK AM.stepR AM.CallS AM.St.Le
theorem ruleI_ok (n : Int) : RuleOK (ruleI n) := by
  have d := digitB n 4 2 zd
  have d2 := digitB n 2 3 zd
  unfold ruleI
  split
  · simp [RuleOK]
  · split
    · simp [RuleOK]; omega
    · split
      · simp [RuleOK]; omega
      · simp [RuleOK]
theorem changeI_ok (n : Int) : ChangeOK (changeI n) := by
  have d1 := digitB n 8 1 zd
  have d2 := digitB n 4 3 zd
  have d3 := digitB n 2 9 zd
  have d4 := digitB n 12 1 zd
  unfold changeI
  split
  · exact .inl ⟨rfl, by dsimp only; omega, by dsimp only; omega, rfl, rfl⟩
  · split
    · exact .inr (.inl ⟨rfl, by dsimp only; omega, rfl, rfl, rfl⟩)
    · split
      · exact .inr (.inr (.inl ⟨rfl, by dsimp only; omega, by dsimp only; omega, by dsimp only; omega, rfl⟩))
      · split
        · exact .inr (.inr (.inr ⟨rfl, rfl, rfl, by dsimp only; omega, ruleI_ok _⟩))
        · exact .inl ⟨rfl, by dsimp only; omega, by dsimp only; omega, rfl, rfl⟩
theorem pool_ok (l : List Int) (a n : Nat) (ha : a < 3) (hn : n < 3) : PropOK (poolF l a n) := by
  unfold poolF propI
  generalize (poolUpto l a).2 + 2 * (n : Int) = at'
  refine ⟨⟨by dsimp only; omega, by dsimp only; omega⟩, ⟨by dsimp only; omega, by dsimp only; omega⟩, ?_, ?_, ?_⟩
  · dsimp only
    split <;> simp
  · dsimp only
    intro c hc
    split at hc
    · rcases List.mem_cons.1 hc with rfl | hc
      · exact changeI_ok _
      · rw [List.mem_singleton.1 hc]; exact changeI_ok _
    · rw [List.mem_singleton.1 hc]; exact changeI_ok _
  · dsimp only
    intro i k hk hi
    split at hi
    · rename_i he
      have h1 : i = 1 := by simp at hi; omega
      have h0 : k = 0 := by omega
      subst h1 h0
      rw [if_pos he]
      simp only [List.getD_cons_zero, List.getD_cons_succ]
      rintro ⟨e1, e2⟩
      simp [extra, e1, e2] at he
    · simp at hi; omega
theorem mem_cut3 {f : Nat → Nat → Proposal} {i j k : Nat} (h : i < 4 ∧ j < 4 ∧ k < 4) {p : Proposal} (hp : p ∈ cut f i j k) : ∃ a n, a < 3 ∧ n < 3 ∧ p = f a n := by
  simp only [cut, blk, List.mem_append, List.mem_map, List.mem_range] at hp
  rcases hp with (⟨n, hn, rfl⟩ | ⟨n, hn, rfl⟩) | ⟨n, hn, rfl⟩ <;> exact ⟨_, n, by decide, by omega, rfl⟩
end Go.Proofs
namespace Go.Proofs
open Go.AM
attribute [local irreducible] AM.evalR AM.evalD AM.Runs AM.valK AM.dK AM.opK AM.stepR AM.CallS AM.St.Le
theorem strict_ext : ∀ {a b : List Int}, a.Pairwise (· < ·) → b.Pairwise (· < ·) → (∀ x, x ∈ a ↔ x ∈ b) → a = b
  | [], [], _, _, _ => rfl
  | [], y :: b, _, _, h => absurd ((h y).2 (by simp)) (by simp)
  | x :: a, [], _, _, h => absurd ((h x).1 (by simp)) (by simp)
  | x :: a, y :: b, ha, hb, h => by
    rw [List.pairwise_cons] at ha hb
    have hxy : x = y := by
      rcases List.mem_cons.1 ((h x).1 (by simp)) with e | e
      · exact e
      · rcases List.mem_cons.1 ((h y).2 (by simp)) with e' | e'
        · exact e'.symm
        · have := hb.1 _ e; have := ha.1 _ e'; omega
    subst hxy
    congr 1
    refine strict_ext ha.2 hb.2 fun z => ⟨fun hz => ?_, fun hz => ?_⟩
    · rcases List.mem_cons.1 ((h z).1 (by simp [hz])) with e | e
      · have := ha.1 _ hz; omega
      · exact e
    · rcases List.mem_cons.1 ((h z).2 (by simp [hz])) with e | e
      · have := hb.1 _ hz; omega
      · exact e
theorem sortI_le (zs : List Int) : (sortI zs).Pairwise (· ≤ ·) := by
  have := List.pairwise_mergeSort (le := fun a b : Int => decide (a ≤ b)) (fun a b c h1 h2 => by simp at *; omega) (fun a b => by simp; omega) zs
  exact List.Pairwise.imp (fun h => by simpa using h) this
theorem mem_sortI {zs : List Int} {x : Int} : x ∈ sortI zs ↔ x ∈ zs := List.mem_mergeSort
theorem mem_insFold (n x : Int) : ∀ (l : List Int) (s : List Int × Bool), ((x ∈ (l.foldl (insStep n) s).1 ↔ x ∈ s.1 ∨ (x ∈ l ∧ x ≠ n) ∨ (x = n ∧ s.2 = false ∧ (l.foldl (insStep n) s).2 = true)) ∧ (s.2 = true → (l.foldl (insStep n) s).2 = true))
  | [], s => by
    constructor
    · simp only [List.foldl_nil, List.not_mem_nil, false_and, false_or]
      constructor
      · intro h; exact .inl h
      · rintro (h | ⟨_, h1, h2⟩)
        · exact h
        · rw [h1] at h2; cases h2
    · intro h; exact h
  | y :: l, s => by
    obtain ⟨h1, h2⟩ := mem_insFold n x l (insStep n s y)
    rw [List.foldl_cons]
    obtain ⟨acc, put⟩ := s
    by_cases e : y = n <;> by_cases g : n ≤ y <;> cases put <;> simp [insStep, e, g] at h1 h2 ⊢ <;> (try omega) <;> (generalize (List.foldl _ _ l) = t at *; obtain ⟨t1, t2⟩ := t; cases t2 <;> simp at * <;> (try subst e) <;> (try (constructor <;> intros <;> simp_all <;> omega)) <;> (try grind))
theorem mem_insR (l : List Int) (n x : Int) : x ∈ insR l n ↔ x ∈ l ∨ x = n := by
  have h := (mem_insFold n x l ([], false)).1
  unfold insR
  dsimp only
  generalize l.foldl (insStep n) ([], false) = t at *
  obtain ⟨t1, t2⟩ := t
  cases t2 <;> simp at h ⊢ <;> rw [h] <;> by_cases e : x = n <;> simp [e]
theorem mem_foldl {f : List Int → Int → List Int} (hf : ∀ l n x, x ∈ f l n ↔ x ∈ l ∨ x = n) : ∀ (b a : List Int) (x : Int), x ∈ b.foldl f a ↔ x ∈ a ∨ x ∈ b
  | [], a, x => by simp
  | n :: b, a, x => by rw [List.foldl_cons, mem_foldl hf b (f a n) x, hf, List.mem_cons, or_assoc]
theorem cut_plain {f : Nat → Nat → Proposal} (hl : Lite f) {c : Config} (hc : IsCut f c) : c.length ≤ 100 ∧ ∀ p ∈ c, Plain p := by
  have h9 := (hc.small hl).1
  obtain ⟨i, j, k, h, rfl⟩ := hc
  refine ⟨by omega, fun p hp => ?_⟩
  obtain ⟨a, n, rfl⟩ := mem_cut hp
  exact ⟨by have := hl a n; omega, True.intro⟩
end Go.Proofs
namespace Go.Proofs
open Go.AM
attribute [local irreducible] AM.evalR AM.evalD AM.Runs AM.valK AM.dK AM.opK AM.stepR AM.CallS AM.St.Le
theorem bs_spec (k : Nat → Int) (i j : Nat) (hij : i ≤ j) (hm : ∀ s t, i ≤ s → s ≤ t → t < j → k t < 0 → k s < 0) :
    (i ≤ bs k i j ∧ bs k i j ≤ j) ∧ (∀ t, i ≤ t → t < bs k i j → k t < 0) ∧ ∀ t, bs k i j ≤ t → t < j → ¬ k t < 0 := by
  by_cases h : i < j
  · rw [bs.eq_1, dif_pos h]
    by_cases h2 : k ((i + j) / 2) < 0
    · rw [if_pos h2]
      obtain ⟨⟨a1, a2⟩, a3, a4⟩ := bs_spec k ((i + j) / 2 + 1) j zo (fun s t h1 h3 h4 => hm s t zo h3 h4)
      refine ⟨⟨by omega, a2⟩, fun t h5 h6 => ?_, a4⟩
      by_cases h7 : t ≤ (i + j) / 2
      · exact hm t _ h5 h7 zo h2
      · exact a3 t zo h6
    · rw [if_neg h2]
      obtain ⟨⟨a1, a2⟩, a3, a4⟩ := bs_spec k i ((i + j) / 2) zo (fun s t h1 h3 h4 => hm s t h1 h3 zo)
      refine ⟨⟨a1, by omega⟩, a3, fun t h5 h6 => ?_⟩
      by_cases h7 : t < (i + j) / 2
      · exact a4 t h5 h7
      · intro h8
        exact h2 (hm _ t zo zo h6 h8)
  · rw [bs.eq_1, dif_neg h]
    exact ⟨⟨Nat.le_refl _, hij⟩, fun t h1 h2 => by omega, fun t h1 h2 => by omega⟩
termination_by j - i
abbrev StrictI (l : List Int) : Prop := l.Pairwise (· < ·)
def insRec (n : Int) : List Int → List Int
  | [] => [n]
  | y :: ys => if y = n then y :: ys else if n < y then n :: y :: ys else y :: insRec n ys
theorem mem_insRec (n x : Int) : ∀ l, x ∈ insRec n l ↔ x ∈ l ∨ x = n
  | [] => by simp [insRec]
  | y :: ys => by
    rw [insRec]
    split
    · rename_i h; subst h; simp; intro h; exact .inl h
    · split
      · simp [or_comm]
      · rw [List.mem_cons, mem_insRec n x ys, List.mem_cons, or_assoc]
theorem insRec_strict (n : Int) : ∀ {l : List Int}, StrictI l → StrictI (insRec n l)
  | [], _ => by simp [insRec]
  | y :: ys, h => by
    replace h := List.pairwise_cons.1 h
    rw [insRec]
    split
    · exact List.pairwise_cons.2 h
    · split
      · refine List.pairwise_cons.2 ⟨fun z hz => ?_, List.pairwise_cons.2 h⟩
        rcases List.mem_cons.1 hz with rfl | hz
        · assumption
        · have := h.1 z hz; omega
      · refine List.pairwise_cons.2 ⟨fun z hz => ?_, insRec_strict n h.2⟩
        rcases (mem_insRec n z ys).1 hz with hz | rfl
        · exact h.1 z hz
        · omega
theorem insFold_put (n : Int) : ∀ (l acc : List Int), (∀ x ∈ l, x ≠ n) → l.foldl (insStep n) (acc, true) = (acc ++ l, true)
  | [], acc, _ => by simp
  | y :: ys, acc, h => by
    rw [List.foldl_cons, insStep_d (h y (by simp)), insFold_put n ys _ (fun x hx => h x (by simp [hx]))]
    simp
theorem insFold_rec (n : Int) : ∀ (l acc : List Int), StrictI l → (let s := l.foldl (insStep n) (acc, false); if s.2 = false then s.1 ++ [n] else s.1) = acc ++ insRec n l
  | [], acc, _ => by simp [insRec]
  | y :: ys, acc, h => by
    replace h := List.pairwise_cons.1 h
    rw [List.foldl_cons, insRec]
    by_cases e : y = n
    · rw [insStep_b zo e, if_pos e, insFold_put n ys _ (fun x hx => by have := h.1 x hx; omega)]
      simp [e]
    · by_cases g : n < y
      · rw [insStep_a zo e, if_neg e, if_pos g, insFold_put n ys _ (fun x hx => by have := h.1 x hx; omega)]
        simp
      · rw [insStep_c zo e, if_neg e, if_neg g, insFold_rec n ys _ h.2]
        simp
theorem insR_rec {l : List Int} (h : StrictI l) (n : Int) : insR l n = insRec n l := by
  have := insFold_rec n l [] h
  simpa [insR] using this
theorem insRec_append (n : Int) : ∀ (a b : List Int), (∀ x ∈ a, x < n) → insRec n (a ++ b) = a ++ insRec n b
  | [], b, _ => rfl
  | y :: a, b, h => by
    have := h y (by simp)
    rw [List.cons_append, insRec, if_neg zo, if_neg zo, insRec_append n a b (fun x hx => h x (by simp [hx]))]
    rfl
theorem strict_getD {l : List Int} (h : StrictI l) {i j : Nat} (hij : i < j) (hj : j < l.length) : l.getD i default < l.getD j default := by
  have := (List.pairwise_iff_getElem.1 h) i j zo hj hij
  rw [List.getD_eq_getElem?_getD, List.getD_eq_getElem?_getD, List.getElem?_eq_getElem hj, List.getElem?_eq_getElem (show i < l.length by omega)]
  exact this
theorem mem_take_getD {α : Type} [Inhabited α] {l : List α} {r : Nat} {x : α} (h : x ∈ l.take r) : ∃ t, t < r ∧ t < l.length ∧ l.getD t default = x := by
  obtain ⟨t, ht, e⟩ := List.mem_iff_getElem.1 h
  rw [List.length_take] at ht
  refine ⟨t, by omega, by omega, ?_⟩
  rw [List.getElem_take] at e
  rw [List.getD_eq_getElem?_getD, List.getElem?_eq_getElem zo]; exact e
theorem insI_rec {l : List Int} (h : StrictI l) (n : Int) : insI l n = insRec n l := by
  have hs := bs_spec (ltK l n) 0 l.length (Nat.zero_le _) (fun s t _ hst ht hk => by
    rw [ltK_neg] at hk ⊢
    by_cases e : s = t
    · subst e; exact hk
    · have := strict_getD h (show s < t by omega) ht; omega)
  change (0 ≤ bsI l n ∧ bsI l n ≤ l.length) ∧ (∀ t, 0 ≤ t → t < bsI l n → ltK l n t < 0) ∧ (∀ t, bsI l n ≤ t → t < l.length → ¬ ltK l n t < 0) at hs
  obtain ⟨⟨_, h1⟩, h2, h3⟩ := hs
  unfold insI foundI putI
  generalize bsI l n = r at *
  have ha : ∀ x ∈ l.take r, x < n := by
    intro x hx
    obtain ⟨t, ht, _, rfl⟩ := mem_take_getD hx
    exact ltK_neg.1 (h2 t (Nat.zero_le _) ht)
  have key : insRec n l = l.take r ++ insRec n (l.drop r) := by rw [← insRec_append n _ _ ha, List.take_append_drop]
  rw [key]
  by_cases hr : r < l.length
  · have h4 := h3 r (Nat.le_refl _) hr
    rw [ltK_neg] at h4
    rw [drop_getD hr, insRec]
    by_cases e : l.getD r default = n
    · rw [decide_eq_true ⟨hr, e⟩, if_pos rfl, if_pos e, ← drop_getD hr, List.take_append_drop]
    · rw [decide_eq_false (fun q => e q.2), if_neg zd, if_neg e, if_pos zo]
  · rw [decide_eq_false (fun q => hr q.1), if_neg zd, List.drop_of_length_le zo, insRec]
theorem insFoldl {f g : List Int → Int → List Int} (hf : ∀ l n, StrictI l → f l n = insRec n l) (hg : ∀ l n, StrictI l → g l n = insRec n l) : ∀ (b : List Int) {a : List Int}, StrictI a → b.foldl f a = b.foldl g a ∧ StrictI (b.foldl g a)
  | [], a, h => ⟨rfl, h⟩
  | n :: b, a, h => by
    have h2 := insRec_strict n h
    rw [List.foldl_cons, List.foldl_cons, hf a n h, hg a n h]
    exact insFoldl hf hg b h2
theorem unionI_R {a : List Int} (h : StrictI a) (b : List Int) : unionI a b = b.foldl insR a ∧ StrictI (b.foldl insR a) := insFoldl (fun l n h => insI_rec h n) (fun l n h => insR_rec h n) b h
abbrev StrictW (l : List WeightEntry) : Prop := l.Pairwise (fun a b => a.server < b.server)
def weighRec (w : WeightEntry) : List WeightEntry → List WeightEntry
  | [] => [w]
  | y :: ys => if y.server = w.server then (if laterB w y = true then w else y) :: ys else if w.server < y.server then w :: y :: ys else y :: weighRec w ys
theorem mem_weighRec (w x : WeightEntry) : ∀ l, x ∈ weighRec w l → x ∈ l ∨ x = w
  | [] => by simp [weighRec]
  | y :: ys => by
    rw [weighRec]
    intro h
    split at h
    · split at h
      · rcases List.mem_cons.1 h with h | h
        · exact .inr h
        · exact .inl (by simp [h])
      · exact .inl h
    · split at h
      · rcases List.mem_cons.1 h with h | h
        · exact .inr h
        · exact .inl h
      · rcases List.mem_cons.1 h with h | h
        · exact .inl (by simp [h])
        · rcases mem_weighRec w x ys h with h | h
          · exact .inl (by simp [h])
          · exact .inr h
theorem weighRec_strict (w : WeightEntry) : ∀ {l : List WeightEntry}, StrictW l → StrictW (weighRec w l)
  | [], _ => by simp [weighRec]
  | y :: ys, h => by
    replace h := List.pairwise_cons.1 h
    rw [weighRec]
    split
    · rename_i e
      split
      · exact List.pairwise_cons.2 ⟨fun z hz => by have := h.1 z hz; omega, h.2⟩
      · exact List.pairwise_cons.2 h
    · split
      · refine List.pairwise_cons.2 ⟨fun z hz => ?_, List.pairwise_cons.2 h⟩
        rcases List.mem_cons.1 hz with rfl | hz
        · assumption
        · have := h.1 z hz; omega
      · refine List.pairwise_cons.2 ⟨fun z hz => ?_, weighRec_strict w h.2⟩
        rcases mem_weighRec w z ys hz with hz | rfl
        · exact h.1 z hz
        · omega
theorem weighFold_put (w : WeightEntry) : ∀ (l acc : List WeightEntry), (∀ x ∈ l, x.server ≠ w.server) → l.foldl (weighStep w) (acc, true) = (acc ++ l, true)
  | [], acc, _ => by simp
  | y :: ys, acc, h => by
    rw [List.foldl_cons, weighStep_e (h y (by simp)), weighFold_put w ys _ (fun x hx => h x (by simp [hx]))]
    simp
theorem weighFold_rec (w : WeightEntry) : ∀ (l acc : List WeightEntry), StrictW l → (let s := l.foldl (weighStep w) (acc, false); if s.2 = false then s.1 ++ [w] else s.1) = acc ++ weighRec w l
  | [], acc, _ => by simp [weighRec]
  | y :: ys, acc, h => by
    replace h := List.pairwise_cons.1 h
    rw [List.foldl_cons, weighRec]
    by_cases e : y.server = w.server
    · cases hl : laterB w y
      · rw [weighStep_b e hl, if_pos e, weighFold_put w ys _ (fun x hx => by have := h.1 x hx; omega)]
        simp
      · rw [weighStep_a e hl, if_pos e, weighFold_put w ys _ (fun x hx => by have := h.1 x hx; omega)]
        simp
    · by_cases g : w.server < y.server
      · rw [weighStep_c e g, if_neg e, if_pos g, weighFold_put w ys _ (fun x hx => by have := h.1 x hx; omega)]
        simp
      · rw [weighStep_d e g, if_neg e, if_neg g, weighFold_rec w ys _ h.2]
        simp
theorem weighR_rec {l : List WeightEntry} (h : StrictW l) (w : WeightEntry) : weighR l w = weighRec w l := by
  have := weighFold_rec w l [] h
  simpa [weighR] using this
theorem weighRec_append (w : WeightEntry) : ∀ (a b : List WeightEntry), (∀ x ∈ a, x.server < w.server) → weighRec w (a ++ b) = a ++ weighRec w b
  | [], b, _ => rfl
  | y :: a, b, h => by
    have := h y (by simp)
    rw [List.cons_append, weighRec, if_neg zo, if_neg zo, weighRec_append w a b (fun x hx => h x (by simp [hx]))]
    rfl
theorem newer_later (a b : WeightEntry) : newerW a b = laterB b a := by
  unfold newerW laterB
  rw [Bool.eq_iff_iff]
  simp only [orI, cmpI]
  (repeat' split) <;> simp <;> omega
theorem strictW_getD {l : List WeightEntry} (h : StrictW l) {i j : Nat} (hij : i < j) (hj : j < l.length) : (l.getD i default).server < (l.getD j default).server := by
  have := (List.pairwise_iff_getElem.1 h) i j zo hj hij
  rw [List.getD_eq_getElem?_getD, List.getD_eq_getElem?_getD, List.getElem?_eq_getElem hj, List.getElem?_eq_getElem (show i < l.length by omega)]
  exact this
theorem weK_neg {l : List WeightEntry} {w : WeightEntry} {t : Nat} : weK l w t < 0 ↔ (l.getD t default).server < w.server := by unfold weK cmpI; (repeat' split) <;> omega
theorem cmpI_zero {x y : Int} : cmpI x y = 0 ↔ x = y := by unfold cmpI; (repeat' split) <;> omega
theorem insW_rec {l : List WeightEntry} (h : StrictW l) (w : WeightEntry) : insW l w = weighRec w l := by
  have hs := bs_spec (weK l w) 0 l.length (Nat.zero_le _) (fun s t _ hst ht hk => by
    rw [weK_neg] at hk ⊢
    by_cases e : s = t
    · subst e; exact hk
    · have := strictW_getD h (show s < t by omega) ht; omega)
  change (0 ≤ bsW l w ∧ bsW l w ≤ l.length) ∧ (∀ t, 0 ≤ t → t < bsW l w → weK l w t < 0) ∧ (∀ t, bsW l w ≤ t → t < l.length → ¬ weK l w t < 0) at hs
  obtain ⟨⟨_, h1⟩, h2, h3⟩ := hs
  unfold insW foundW putW
  generalize bsW l w = r at *
  have ha : ∀ x ∈ l.take r, x.server < w.server := by
    intro x hx
    obtain ⟨t, ht, _, rfl⟩ := mem_take_getD hx
    exact weK_neg.1 (h2 t (Nat.zero_le _) ht)
  have key : weighRec w l = l.take r ++ weighRec w (l.drop r) := by rw [← weighRec_append w _ _ ha, List.take_append_drop]
  rw [key]
  by_cases hr : r < l.length
  · have h4 := h3 r (Nat.le_refl _) hr
    rw [weK_neg] at h4
    by_cases e : (l.getD r default).server = w.server
    · rw [decide_eq_true ⟨hr, cmpI_zero.2 e⟩, if_pos rfl, newer_later]
      cases hl : laterB w (l.getD r default)
      · rw [if_neg zd, drop_getD hr, weighRec, if_pos e, hl, if_neg zd, ← drop_getD hr, List.take_append_drop]
      · rw [if_pos rfl, drop_getD hr, weighRec, if_pos e, hl, if_pos rfl]
        rw [List.set_eq_take_append_cons_drop, if_pos hr]
    · rw [decide_eq_false (fun q => e (cmpI_zero.1 q.2)), if_neg zd, drop_getD hr, weighRec, if_neg e, if_pos zo]
  · rw [decide_eq_false (fun q => hr q.1), if_neg zd, List.drop_of_length_le zo, weighRec]
theorem weighFoldl {f g : List WeightEntry → WeightEntry → List WeightEntry} (hf : ∀ l n, StrictW l → f l n = weighRec n l) (hg : ∀ l n, StrictW l → g l n = weighRec n l) : ∀ (b : List WeightEntry) {a : List WeightEntry}, StrictW a → b.foldl f a = b.foldl g a ∧ StrictW (b.foldl g a)
  | [], a, h => ⟨rfl, h⟩
  | n :: b, a, h => by
    have h2 := weighRec_strict n h
    rw [List.foldl_cons, List.foldl_cons, hf a n h, hg a n h]
    exact weighFoldl hf hg b h2
theorem weightsI_R {a : List WeightEntry} (h : StrictW a) (b : List WeightEntry) : weightsI a b = b.foldl weighR a ∧ StrictW (b.foldl weighR a) := weighFoldl (fun l n h => insW_rec h n) (fun l n h => weighR_rec h n) b h
def SortedS (s : Summary) : Prop := StrictI s.joined ∧ StrictI s.removed ∧ StrictW s.weights
theorem joinS_T {a : Summary} (h : SortedS a) (b : Summary) : joinS a b = joinT a b ∧ SortedS (joinT a b) := by
  obtain ⟨h1, h2, h3⟩ := h
  have e1 := unionI_R h1 b.joined
  have e2 := unionI_R h2 b.removed
  have e3 := weightsI_R h3 b.weights
  refine ⟨?_, e1.2, e2.2, e3.2⟩
  have e4 : joinR a b = pickT a b := by unfold joinR pickT; rw [newer_later]
  unfold joinS joinT
  rw [e1.1, e2.1, e3.1, e4]
def lk (l : List WeightEntry) (x : Int) : Option WeightEntry := l.find? fun w => decide (w.server = x)
theorem lk_cons (w : WeightEntry) (l : List WeightEntry) (x : Int) : lk (w :: l) x = if w.server = x then some w else lk l x := by
  unfold lk
  by_cases h : w.server = x <;> simp [h]
theorem lk_none {l : List WeightEntry} {x : Int} (h : ∀ w ∈ l, w.server ≠ x) : lk l x = none := by
  unfold lk
  rw [List.find?_eq_none]
  intro w hw; simp; exact h w hw
theorem lk_weigh (w : WeightEntry) (x : Int) : ∀ {l : List WeightEntry}, StrictW l → lk (weighRec w l) x = if w.server = x then (match lk l x with | none => some w | some o => some (if laterB w o = true then w else o)) else lk l x
  | [], _ => by simp [weighRec, lk_cons, lk]
  | y :: ys, h => by
    replace h := List.pairwise_cons.1 h
    rw [weighRec]
    by_cases e : y.server = w.server
    · rw [if_pos e]
      by_cases ex : w.server = x
      · have e2 : y.server = x := e.trans ex
        rw [lk_cons y, if_pos e2, if_pos ex]
        cases hl : laterB w y <;> simp [lk_cons, ex, e2, hl]
      · have e2 : ¬ y.server = x := fun q => ex (e ▸ q)
        rw [if_neg ex, lk_cons y, if_neg e2]
        cases hl : laterB w y <;> simp [lk_cons, ex, e2, hl]
    · rw [if_neg e]
      by_cases g : w.server < y.server
      · rw [if_pos g, lk_cons w]
        by_cases ex : w.server = x
        · have hn : lk (y :: ys) x = none := lk_none (by
            intro z hz
            rcases List.mem_cons.1 hz with rfl | hz
            · omega
            · have := h.1 z hz; omega)
          rw [if_pos ex, if_pos ex, hn]
        · rw [if_neg ex, if_neg ex]
      · rw [if_neg g, lk_cons y, lk_cons y, lk_weigh w x h.2]
        by_cases ey : y.server = x
        · rw [if_pos ey, if_pos ey, if_neg (fun q => e zo)]
        · rw [if_neg ey, if_neg ey]
theorem strictW_ext : ∀ {a b : List WeightEntry}, StrictW a → StrictW b → (∀ x, lk a x = lk b x) → a = b
  | [], [], _, _, _ => rfl
  | [], y :: b, _, _, h => by have := h y.server; rw [lk_cons, if_pos rfl] at this; cases this
  | x :: a, [], _, _, h => by have := h x.server; rw [lk_cons, if_pos rfl] at this; cases this
  | x :: a, y :: b, ha, hb, h => by
    replace ha := List.pairwise_cons.1 ha
    replace hb := List.pairwise_cons.1 hb
    have hs : x.server = y.server := by
      rcases Int.lt_trichotomy x.server y.server with e | e | e
      · have h1 := h x.server
        rw [lk_cons, if_pos rfl, lk_none (l := y :: b)] at h1
        · cases h1
        · intro z hz
          rcases List.mem_cons.1 hz with rfl | hz
          · omega
          · have := hb.1 z hz; omega
      · exact e
      · have h1 := h y.server
        rw [lk_cons y, if_pos rfl, lk_none (l := x :: a)] at h1
        · cases h1
        · intro z hz
          rcases List.mem_cons.1 hz with rfl | hz
          · omega
          · have := ha.1 z hz; omega
    have hxy : x = y := by
      have h1 := h x.server
      rw [lk_cons, if_pos rfl, lk_cons, if_pos hs.symm] at h1
      exact Option.some.inj h1
    subst hxy
    congr 1
    refine strictW_ext ha.2 hb.2 fun z => ?_
    by_cases e : x.server = z
    · rw [lk_none (l := a) (fun w hw => by have := ha.1 w hw; omega), lk_none (l := b) (fun w hw => by have := hb.1 w hw; omega)]
    · have h1 := h z
      rw [lk_cons, if_neg e, lk_cons, if_neg e] at h1
      exact h1
theorem weightIn_none {l : List WeightEntry} {x : Int} (h : ∀ w ∈ l, w.server ≠ x) : ∀ n, weightIn l x n = n := by
  unfold weightIn
  induction l with
  | nil => intro n; rfl
  | cons w l ih => intro n; rw [List.foldl_cons, if_neg (h w (by simp)), ih (fun v hv => h v (by simp [hv]))]
theorem weightIn_R (x : Int) : ∀ {l : List WeightEntry}, StrictW l → weightIn l x 1 = weightR l x
  | [], _ => rfl
  | w :: l, h => by
    replace h := List.pairwise_cons.1 h
    rw [weightR]
    by_cases e : w.server = x
    · rw [if_pos e]
      have : weightIn (w :: l) x 1 = weightIn l x w.weight := by unfold weightIn; rw [List.foldl_cons, if_pos e]
      rw [this]
      exact weightIn_none (fun v hv => by have := h.1 v hv; omega) _
    · rw [if_neg e, ← weightIn_R x h.2]
      unfold weightIn; rw [List.foldl_cons, if_neg e]
theorem viewS_T {s : Summary} (h : StrictW s.weights) : viewS s = viewT s := by
  unfold viewS viewT viewMs vAccT
  congr 1
  have h1 : (fun x => !s.removed.contains x) = (fun x => !s.removed.any fun y => decide (y = x)) := by
    funext x
    congr 1
    rw [Bool.eq_iff_iff]
    simp
  rw [h1]
  refine List.map_congr_left fun x _ => ?_
  rw [weightIn_R x h]
end Go.Proofs
namespace Go.Proofs
open Go.AM
attribute [local irreducible] AM.evalR AM.evalD AM.Runs AM.valK AM.dK AM.opK AM.stepR AM.CallS AM.St.Le
theorem getI_setI2 {β : Type} (m : List (Int × β)) (n k : Int) (c : β) : getI (setI m n c) k = if k = n then some c else getI m k := by
  induction m with
  | nil =>
    by_cases h : k = n
    · subst h; simp [setI, getI]
    · have h2 : ¬ n = k := fun q => h q.symm
      simp [setI, getI, h, h2]
  | cons p m ih =>
    obtain ⟨a, b⟩ := p
    simp only [setI]
    by_cases h : a = n
    · subst h
      by_cases hk : k = a
      · subst hk; simp [getI]
      · have h2 : ¬ a = k := fun q => hk q.symm
        simp [getI, hk, h2]
    · by_cases hk : a = k
      · subst hk; simp [getI, h]
      · simp [getI, h, hk, ih]
def Uniq2 (l : List Change) : Prop := l.Pairwise fun a b => ¬ (a.kind = b.kind ∧ a.server = b.server)
theorem uniq_of {l : List Change} (h : ∀ i k : Nat, k < i → i < l.length → ¬ ((l.getD k default).kind = (l.getD i default).kind ∧ (l.getD k default).server = (l.getD i default).server)) : Uniq2 l := by
  unfold Uniq2
  rw [List.pairwise_iff_getElem]
  intro i j hi hj hij
  have := h j i hij hj
  rw [List.getD_eq_getElem?_getD, List.getD_eq_getElem?_getD, List.getElem?_eq_getElem hi, List.getElem?_eq_getElem hj] at this
  exact this
theorem sorted_perm {l m : List Int} (h1 : l.Nodup) (h2 : StrictI m) (h3 : ∀ x, x ∈ l ↔ x ∈ m) : sortI l = m := by
  refine strict_ext ?_ h2 (fun x => by rw [mem_sortI, h3])
  have hn : (sortI l).Nodup := (List.mergeSort_perm l _).nodup_iff.2 h1
  have hl := sortI_le l
  exact (hl.and hn).imp (fun ⟨a, b⟩ => by omega)
structure OfInv (p : Proposal) (done : List Change) (s : Acc) (t : Summary) : Prop where
  sort : SortedS t
  j : s.j.Nodup ∧ (∀ x, x ∈ s.j ↔ ∃ c ∈ done, c.kind = 1 ∧ c.server = x) ∧ ∀ x, x ∈ t.joined ↔ x ∈ s.j
  r : s.r.Nodup ∧ (∀ x, x ∈ s.r ↔ ∃ c ∈ done, c.kind = 2 ∧ c.server = x) ∧ ∀ x, x ∈ t.removed ↔ x ∈ s.r
  w : ∀ x, lk t.weights x = getI s.m x
  e : ∀ x o, getI s.m x = some o → o.server = x ∧ (1 ≤ x ∧ x ≤ 12) ∧ o.admin = p.admin ∧ o.number = p.number ∧ (o.version = 0 ∨ 1 ≤ o.version ∧ ∃ c ∈ done, c.kind = 3 ∧ c.server = x)
  k : ∀ x, (∃ c ∈ done, c.kind = 1 ∧ c.server = x) → (getI s.m x).isSome = true
  ru : s.rule = t.rule ∧ s.ver = t.version ∧ s.adm = t.admin ∧ s.num = t.number
theorem laterB_self (a b : WeightEntry) (h : a.admin = b.admin) (h2 : a.number = b.number) : laterB a b = decide (b.version < a.version) := by
  unfold laterB
  by_cases e : a.version = b.version
  · simp [e, h, h2]
  · simp [e]
theorem of_step {p : Proposal} {done : List Change} {c : Change} {s : Acc} {t : Summary} (hI : OfInv p done s t) (hc : ChangeOK c) (hu : ∀ d ∈ done, ¬ (d.kind = c.kind ∧ d.server = c.server)) : OfInv p (done ++ [c]) (ofStep p s c) (ofTStep p t c) := by
  obtain ⟨⟨s1, s2, s3⟩, ⟨j1, j2, j3⟩, ⟨r1, r2, r3⟩, hw, he, hk, hru⟩ := hI
  have hE : ∀ (q : Change → Prop) , (∃ d ∈ done ++ [c], q d) ↔ (∃ d ∈ done, q d) ∨ q c := by
    intro q
    constructor
    · rintro ⟨d, hd, h⟩
      rcases List.mem_append.1 hd with hd | hd
      · exact .inl ⟨d, hd, h⟩
      · rw [List.mem_singleton.1 hd] at h; exact .inr h
    · rintro (⟨d, hd, h⟩ | h)
      · exact ⟨d, by simp [hd], h⟩
      · exact ⟨c, by simp, h⟩
  have heT : ∀ x o, getI s.m x = some o → o.server = x ∧ (1 ≤ x ∧ x ≤ 12) ∧ o.admin = p.admin ∧ o.number = p.number ∧ (o.version = 0 ∨ 1 ≤ o.version ∧ ∃ d ∈ done ++ [c], d.kind = 3 ∧ d.server = x) := fun x o h => by
    obtain ⟨a1, a2, a3, a4, a5⟩ := he x o h
    exact ⟨a1, a2, a3, a4, a5.imp id fun ⟨b1, d, hd, b2⟩ => ⟨b1, d, by simp [hd], b2⟩⟩
  rcases hc with ⟨h1, h2, h3, h4, h5⟩ | ⟨h1, h2, h3, h4, h5⟩ | ⟨h1, h2, h3, h4, h5⟩ | ⟨h1, h2, h3, h4, h5⟩
  · -- join
    unfold ofStep ofTStep
    rw [if_pos h1, if_pos h1]
    have hnj : c.server ∉ s.j := fun q => by obtain ⟨d, hd, e1, e2⟩ := (j2 _).1 q; exact hu d hd ⟨e1.trans h1.symm, e2⟩
    have hT := insR_rec s1 c.server
    have hTw := weighR_rec s3 ⟨c.server, c.weight, 0, p.admin, p.number⟩
    refine ⟨⟨?_, s2, ?_⟩, ⟨?_, ?_, ?_⟩, ⟨r1, ?_, r3⟩, ?_, ?_, ?_, hru⟩
    · dsimp only; rw [hT]; exact insRec_strict _ s1
    · dsimp only; rw [hTw]; exact weighRec_strict _ s3
    · dsimp only; rw [List.nodup_append]; exact ⟨j1, by simp, fun a ha b hb e => by rw [List.mem_singleton.1 hb] at e; exact hnj (e ▸ ha)⟩
    · intro x; dsimp only; rw [hE (fun d => d.kind = 1 ∧ d.server = x), ← j2 x]; simp [h1, eq_comm]
    · intro x; dsimp only; rw [hT, mem_insRec, j3 x]; simp
    · intro x; rw [hE (fun d => d.kind = 2 ∧ d.server = x), ← r2 x]; simp [h1]
    · intro x
      dsimp only
      rw [hTw, lk_weigh _ _ s3, hw]
      dsimp only
      by_cases e : c.server = x
      · subst e
        rw [if_pos rfl]
        cases ho : getI s.m c.server with
        | none => rw [if_neg (by simp), getI_setI2, if_pos rfl]; unfold wC; rw [h4]
        | some o =>
          rw [if_pos (show (some o).isSome = true from rfl), ho]
          obtain ⟨_, _, e3, e4, e5⟩ := he _ o ho
          have hl : laterB ⟨c.server, c.weight, 0, p.admin, p.number⟩ o = false := by
            rw [laterB_self _ _ e3.symm e4.symm]
            exact decide_eq_false (by dsimp only; omega)
          dsimp only; rw [hl, if_neg zd]
      · rw [if_neg e]
        split
        · rfl
        · rw [getI_setI2, if_neg (fun q => e q.symm)]
    · intro x o ho
      dsimp only at ho
      split at ho
      · exact heT x o ho
      · rw [getI_setI2] at ho
        split at ho
        · rename_i e; subst e
          obtain rfl := Option.some.inj ho
          exact ⟨rfl, h2, rfl, rfl, .inl h4⟩
        · exact heT x o ho
    · intro x hx
      dsimp only
      rw [hE (fun d => d.kind = 1 ∧ d.server = x)] at hx
      split
      · rename_i hs
        rcases hx with hx | ⟨_, hx⟩
        · exact hk x hx
        · rw [← hx]; exact hs
      · rw [getI_setI2]
        split
        · rfl
        · rename_i hne
          rcases hx with hx | ⟨_, hx⟩
          · exact hk x hx
          · exact absurd hx.symm hne
  · -- remove
    unfold ofStep ofTStep
    rw [if_neg zo, if_pos h1, if_neg zo, if_pos h1]
    have hnr : c.server ∉ s.r := fun q => by obtain ⟨d, hd, e1, e2⟩ := (r2 _).1 q; exact hu d hd ⟨e1.trans h1.symm, e2⟩
    have hT := insR_rec s2 c.server
    refine ⟨⟨s1, ?_, s3⟩, ⟨j1, ?_, j3⟩, ⟨?_, ?_, ?_⟩, hw, heT, ?_, hru⟩
    · dsimp only; rw [hT]; exact insRec_strict _ s2
    · intro x; rw [hE (fun d => d.kind = 1 ∧ d.server = x), ← j2 x]; simp [h1]
    · dsimp only; rw [List.nodup_append]; exact ⟨r1, by simp, fun a ha b hb e => by rw [List.mem_singleton.1 hb] at e; exact hnr (e ▸ ha)⟩
    · intro x; dsimp only; rw [hE (fun d => d.kind = 2 ∧ d.server = x), ← r2 x]; simp [h1, eq_comm]
    · intro x; dsimp only; rw [hT, mem_insRec, r3 x]; simp
    · intro x hx
      rw [hE (fun d => d.kind = 1 ∧ d.server = x)] at hx
      exact hk x (hx.elim id fun q => by omega)
  · -- weight
    unfold ofStep ofTStep
    rw [if_neg zo, if_neg zo, if_pos h1, if_neg zo, if_neg zo, if_pos h1]
    have hTw := weighR_rec s3 ⟨c.server, c.weight, c.version, p.admin, p.number⟩
    refine ⟨⟨s1, s2, ?_⟩, ⟨j1, ?_, j3⟩, ⟨r1, ?_, r3⟩, ?_, ?_, ?_, hru⟩
    · dsimp only; rw [hTw]; exact weighRec_strict _ s3
    · intro x; rw [hE (fun d => d.kind = 1 ∧ d.server = x), ← j2 x]; simp [h1]
    · intro x; rw [hE (fun d => d.kind = 2 ∧ d.server = x), ← r2 x]; simp [h1]
    · intro x
      dsimp only
      rw [hTw, lk_weigh _ _ s3, hw, getI_setI2]
      dsimp only
      by_cases e : c.server = x
      · subst e
        rw [if_pos rfl, if_pos rfl]
        cases ho : getI s.m c.server with
        | none => rfl
        | some o =>
          obtain ⟨_, _, e3, e4, e5⟩ := he _ o ho
          have e6 : o.version = 0 := e5.elim id fun ⟨_, d, hd, e7, e8⟩ => absurd ⟨e7.trans h1.symm, e8⟩ (hu d hd)
          have hl : laterB ⟨c.server, c.weight, c.version, p.admin, p.number⟩ o = true := by
            rw [laterB_self _ _ e3.symm e4.symm]
            exact decide_eq_true (by dsimp only; omega)
          dsimp only; rw [hl, if_pos rfl]; rfl
      · rw [if_neg e, if_neg (fun q => e q.symm)]
    · intro x o ho
      dsimp only at ho
      rw [getI_setI2] at ho
      split at ho
      · rename_i e; subst e
        obtain rfl := Option.some.inj ho
        exact ⟨rfl, h2, rfl, rfl, .inr ⟨h4.1, c, by simp, h1, rfl⟩⟩
      · exact heT x o ho
    · intro x hx
      rw [hE (fun d => d.kind = 1 ∧ d.server = x)] at hx
      dsimp only
      rw [getI_setI2]
      split
      · rfl
      · exact hk x (hx.elim id fun q => by omega)
  · -- rule
    unfold ofStep ofTStep
    rw [if_neg zo, if_neg zo, if_neg zo, if_pos h1, if_neg zo, if_neg zo, if_neg zo, if_pos h1]
    refine ⟨⟨s1, s2, s3⟩, ⟨j1, ?_, j3⟩, ⟨r1, ?_, r3⟩, hw, heT, ?_, ⟨rfl, rfl, rfl, rfl⟩⟩
    · intro x; rw [hE (fun d => d.kind = 1 ∧ d.server = x), ← j2 x]; simp [h1]
    · intro x; rw [hE (fun d => d.kind = 2 ∧ d.server = x), ← r2 x]; simp [h1]
    · intro x hx
      rw [hE (fun d => d.kind = 1 ∧ d.server = x)] at hx
      exact hk x (hx.elim id fun q => by omega)
theorem of_inv (p : Proposal) : ∀ (cs done : List Change) (s : Acc) (t : Summary), OfInv p done s t → (∀ c ∈ cs, ChangeOK c) → Uniq2 (done ++ cs) → OfInv p (done ++ cs) (cs.foldl (ofStep p) s) (cs.foldl (ofTStep p) t)
  | [], done, s, t, h, _, _ => by simpa using h
  | c :: cs, done, s, t, h, h2, h3 => by
    have h4 := of_step h (h2 c (by simp)) (fun d hd => by
      have := List.pairwise_append.1 h3
      exact this.2.2 d hd c (by simp))
    have := of_inv p cs (done ++ [c]) _ _ h4 (fun d hd => h2 d (by simp [hd])) (by simpa using h3)
    simpa using this
theorem of_inv0 (p : Proposal) : OfInv p [] acc0 sum0 := ⟨⟨List.Pairwise.nil, List.Pairwise.nil, List.Pairwise.nil⟩, ⟨List.nodup_nil, by simp [acc0], by simp [acc0, sum0]⟩, ⟨List.nodup_nil, by simp [acc0], by simp [acc0, sum0]⟩, fun x => rfl, fun x o h => (by simp [acc0, getI] at h), by simp, ⟨rfl, rfl, rfl, rfl⟩⟩
theorem upto_strict (a b : Int) : StrictI (upto a b) := by
  unfold upto
  rw [StrictI, List.pairwise_map]
  exact List.pairwise_lt_range.imp (fun h => by omega)
theorem weightsOf_strict {m : List (Int × WeightEntry)} (h : ∀ x o, getI m x = some o → o.server = x) : StrictW (weightsOf m) := by
  unfold weightsOf
  rw [StrictW, List.pairwise_filterMap]
  exact (upto_strict 1 12).imp (fun {a b} hab o ho o' ho' => by rw [h a o ho, h b o' ho']; exact hab)
theorem weightsOf_lk {m : List (Int × WeightEntry)} (h : ∀ x o, getI m x = some o → o.server = x ∧ (1 ≤ x ∧ x ≤ 12)) (x : Int) : lk (weightsOf m) x = getI m x := by
  have gen : ∀ l : List Int, lk (l.filterMap (getI m)) x = if x ∈ l then getI m x else none := by
    intro l
    induction l with
    | nil => simp [lk]
    | cons y l ih =>
      rw [List.filterMap_cons]
      cases hy : getI m y with
      | none =>
        dsimp only; rw [ih]
        by_cases e : x = y
        · subst e; rw [hy]; simp
        · simp [e]
      | some o =>
        dsimp only; rw [lk_cons, ih, (h y o hy).1]
        by_cases e : y = x
        · subst e; rw [if_pos rfl, if_pos (by simp), hy]
        · rw [if_neg e]
          by_cases e2 : x ∈ l
          · rw [if_pos e2, if_pos (by simp [e2])]
          · rw [if_neg e2, if_neg (by simp [e2]; exact fun q => e q.symm)]
  unfold weightsOf
  rw [gen]
  split
  · rfl
  · rename_i hn
    cases hx : getI m x with
    | none => rfl
    | some o => exact absurd (mem_upto.2 (h x o hx).2) hn
theorem of_full {p : Proposal} (h : PropOK p) : OfInv p p.changes (ofAcc p) (ofT p) := by
  have := of_inv p p.changes [] acc0 sum0 (of_inv0 p) h.2.2.2.1 (by simpa using uniq_of h.2.2.2.2)
  unfold ofAcc ofT
  simpa using this
theorem ofS_T {p : Proposal} (h : PropOK p) : ofS p = ofT p ∧ SortedS (ofT p) := by
  have hI := of_full h
  refine ⟨?_, hI.sort⟩
  obtain ⟨⟨s1, s2, s3⟩, ⟨j1, j2, j3⟩, ⟨r1, r2, r3⟩, hw, he, hk, e1, e2, e3, e4⟩ := hI
  unfold ofS
  generalize ofT p = t at *
  obtain ⟨J, R, W, ru, ver, adm, num⟩ := t
  dsimp only at *
  rw [sorted_perm j1 s1 (fun x => (j3 x).symm), sorted_perm r1 s2 (fun x => (r3 x).symm), e1, e2, e3, e4]
  rw [strictW_ext (weightsOf_strict fun x o ho => (he x o ho).1) s3 (fun x => by rw [weightsOf_lk (fun x o ho => ⟨(he x o ho).1, (he x o ho).2.1⟩), hw])]
def MemOK (g : View) : Prop := (∀ m ∈ g.members, (1 ≤ m.server ∧ m.server ≤ 12) ∧ 1 ≤ m.weight ∧ m.weight ≤ 9) ∧ g.members.Pairwise (fun a b => a.server < b.server)
theorem initS_sorted {g : View} (h : MemOK g) : SortedS (initS g) := by
  refine ⟨?_, List.Pairwise.nil, ?_⟩
  · show (g.members.map (·.server)).Pairwise (· < ·)
    rw [List.pairwise_map]; exact h.2
  · show (g.members.map wOf).Pairwise _
    rw [List.pairwise_map]; exact h.2
theorem sumS_T {g : View} (hg : MemOK g) {c : Config} (hc : ∀ p ∈ c, PropOK p) : sumS g c = sumT g c ∧ SortedS (sumT g c) := by
  have gen : ∀ (c : Config) (s : Summary), SortedS s → (∀ p ∈ c, PropOK p) → c.foldl sumStep s = c.foldl sumTStep s ∧ SortedS (c.foldl sumTStep s) := by
    intro c
    induction c with
    | nil => intro s hs _; exact ⟨rfl, hs⟩
    | cons p c ih =>
      intro s hs hc
      have e1 := ofS_T (hc p (by simp))
      have e2 := joinS_T hs (ofT p)
      have e3 : sumStep s p = sumTStep s p := by unfold sumStep sumTStep; rw [e1.1, e2.1]
      rw [List.foldl_cons, List.foldl_cons, e3]
      exact ih _ e2.2 (fun q hq => hc q (by simp [hq]))
  exact gen c _ (initS_sorted hg) hc
theorem viewOf_T {g : View} (hg : MemOK g) {c : Config} (hc : ∀ p ∈ c, PropOK p) : viewOf g c = viewT (sumT g c) := by
  have h := sumS_T hg hc
  unfold viewOf
  rw [h.1, viewS_T h.2.2.2]
theorem strictI_len : ∀ {l : List Int} {lo hi : Int}, StrictI l → (∀ x ∈ l, lo ≤ x ∧ x ≤ hi) → (l.length : Int) ≤ max 0 (hi - lo + 1)
  | [], lo, hi, _, _ => by simp; omega
  | x :: l, lo, hi, h, hb => by
    replace h := List.pairwise_cons.1 h
    have h0 := hb x (by simp)
    have h1 := strictI_len (lo := x + 1) (hi := hi) h.2 (fun y hy => ⟨by have := h.1 y hy; omega, (hb y (by simp [hy])).2⟩)
    rw [List.length_cons]; omega
theorem MemOK.len {g : View} (h : MemOK g) : g.members.length ≤ 12 := by
  have := strictI_len (l := g.members.map (·.server)) (lo := 1) (hi := 12) (by rw [StrictI, List.pairwise_map]; exact h.2) (fun x hx => by obtain ⟨m, hm, rfl⟩ := List.mem_map.1 hx; exact (h.1 m hm).1)
  rw [List.length_map] at this; omega
end Go.Proofs
namespace Go.Proofs
open Go.AM
attribute [local irreducible] AM.evalR AM.evalD AM.Runs AM.valK AM.dK AM.opK AM.stepR AM.CallS AM.St.Le
end Go.Proofs
namespace Go.Proofs
open Go.AM
attribute [local irreducible] AM.evalR AM.evalD AM.Runs AM.valK AM.dK AM.opK AM.stepR AM.CallS AM.St.Le
end Go.Proofs
namespace Go.Proofs
open Go.AM
attribute [local irreducible] AM.evalR AM.evalD AM.Runs AM.valK AM.dK AM.opK AM.stepR AM.CallS AM.St.Le
end Go.Proofs
namespace Go.Proofs
open Go.AM
attribute [local irreducible] AM.evalR AM.evalD AM.Runs AM.valK AM.dK AM.opK AM.stepR AM.CallS AM.St.Le
def Srv (x : Int) : Prop := 1 ≤ x ∧ x ≤ 12
def WOK (w : WeightEntry) : Prop := Srv w.server ∧ (1 ≤ w.weight ∧ w.weight ≤ 9) ∧ 0 ≤ w.version ∧ 0 ≤ w.admin ∧ 0 ≤ w.number
structure SumOK (s : Summary) : Prop where
  sort : SortedS s
  j : ∀ x ∈ s.joined, Srv x
  r : ∀ x ∈ s.removed, Srv x
  w : ∀ w ∈ s.weights, WOK w
  o : 0 ≤ s.version ∧ 0 ≤ s.admin ∧ 0 ≤ s.number
  ru : s.rule = ⟨0, 0, 0⟩ ∧ (s.version = 0 ∧ s.admin = 0 ∧ s.number = 0) ∨ s.rule ≠ ⟨0, 0, 0⟩ ∧ RuleOK s.rule
theorem rule_ne {r : Rule} (h : RuleOK r) : r ≠ ⟨0, 0, 0⟩ := by
  rintro rfl
  have := h.1
  dsimp only at this; omega
theorem mem_weighFold : ∀ (b : List WeightEntry) {a : List WeightEntry} (x : WeightEntry), StrictW a → x ∈ b.foldl weighR a → x ∈ a ∨ x ∈ b
  | [], a, x, _, h => .inl h
  | w :: b, a, x, ha, h => by
    rw [List.foldl_cons, weighR_rec ha] at h
    rcases mem_weighFold b x (weighRec_strict w ha) h with h | h
    · rcases mem_weighRec w x a h with h | h
      · exact .inl h
      · exact .inr (by simp [h])
    · exact .inr (by simp [h])
theorem join_ok {a b : Summary} (ha : SumOK a) (hb : SumOK b) : SumOK (joinT a b) := by
  have hp : pickT a b = b ∨ pickT a b = a := by unfold pickT; split <;> simp
  have hpk : (0 ≤ (pickT a b).version ∧ 0 ≤ (pickT a b).admin ∧ 0 ≤ (pickT a b).number) ∧ ((pickT a b).rule = ⟨0, 0, 0⟩ ∧ ((pickT a b).version = 0 ∧ (pickT a b).admin = 0 ∧ (pickT a b).number = 0) ∨ (pickT a b).rule ≠ ⟨0, 0, 0⟩ ∧ RuleOK (pickT a b).rule) := by
    rcases hp with e | e
    · rw [e]; exact ⟨hb.o, hb.ru⟩
    · rw [e]; exact ⟨ha.o, ha.ru⟩
  refine ⟨(joinS_T ha.sort b).2, ?_, ?_, ?_, hpk.1, hpk.2⟩
  · intro x hx
    rcases (mem_foldl mem_insR b.joined a.joined x).1 hx with h | h
    · exact ha.j x h
    · exact hb.j x h
  · intro x hx
    rcases (mem_foldl mem_insR b.removed a.removed x).1 hx with h | h
    · exact ha.r x h
    · exact hb.r x h
  · intro w hw
    rcases mem_weighFold b.weights w ha.sort.2.2 hw with h | h
    · exact ha.w w h
    · exact hb.w w h
theorem sum0_ok : SumOK sum0 := ⟨⟨List.Pairwise.nil, List.Pairwise.nil, List.Pairwise.nil⟩, by simp [sum0], by simp [sum0], by simp [sum0], by simp [sum0], .inl ⟨rfl, rfl, rfl, rfl⟩⟩
theorem insR_ok {l : List Int} {n : Int} (hl : StrictI l) (h : ∀ x ∈ l, Srv x) (hn : Srv n) : StrictI (insR l n) ∧ ∀ x ∈ insR l n, Srv x := by
  refine ⟨by rw [insR_rec hl]; exact insRec_strict n hl, fun x hx => ?_⟩
  rcases (mem_insR l n x).1 hx with hx | rfl
  · exact h x hx
  · exact hn
theorem weighR_ok {l : List WeightEntry} {n : WeightEntry} (hl : StrictW l) (h : ∀ x ∈ l, WOK x) (hn : WOK n) : StrictW (weighR l n) ∧ ∀ x ∈ weighR l n, WOK x := by
  rw [weighR_rec hl]
  refine ⟨weighRec_strict n hl, fun x hx => ?_⟩
  rcases mem_weighRec n x l hx with hx | rfl
  · exact h x hx
  · exact hn
theorem ofStep_ok {p : Proposal} (ha : 0 ≤ p.admin) (hn : 0 ≤ p.number) {c : Change} (hc : ChangeOK c) {s : Summary} (hs : SumOK s) : SumOK (ofTStep p s c) := by
  obtain ⟨⟨s1, s2, s3⟩, hj, hr, hw, ho, hru⟩ := hs
  unfold ofTStep
  rcases hc with ⟨h1, h2, h3, h4, h5⟩ | ⟨h1, h2, h3, h4, h5⟩ | ⟨h1, h2, h3, h4, h5⟩ | ⟨h1, h2, h3, h4, h5⟩
  · rw [if_pos h1]
    have i1 := insR_ok s1 hj (n := c.server) h2
    have i2 := weighR_ok s3 hw (n := ⟨c.server, c.weight, 0, p.admin, p.number⟩) ⟨h2, h3, Int.le_refl _, ha, hn⟩
    exact ⟨⟨i1.1, s2, i2.1⟩, i1.2, hr, i2.2, ho, hru⟩
  · rw [if_neg zo, if_pos h1]
    have i1 := insR_ok s2 hr (n := c.server) h2
    exact ⟨⟨s1, i1.1, s3⟩, hj, i1.2, hw, ho, hru⟩
  · rw [if_neg zo, if_neg zo, if_pos h1]
    have i2 := weighR_ok s3 hw (n := ⟨c.server, c.weight, c.version, p.admin, p.number⟩) ⟨h2, h3, by dsimp only; omega, ha, hn⟩
    exact ⟨⟨s1, s2, i2.1⟩, hj, hr, i2.2, ho, hru⟩
  · rw [if_neg zo, if_neg zo, if_neg zo, if_pos h1]
    exact ⟨⟨s1, s2, s3⟩, hj, hr, hw, ⟨by dsimp only; omega, ha, hn⟩, .inr ⟨rule_ne h5, h5⟩⟩
theorem ofT_ok {p : Proposal} (h : PropOK p) : SumOK (ofT p) := by
  have gen : ∀ (cs : List Change) (s : Summary), (∀ c ∈ cs, ChangeOK c) → SumOK s → SumOK (cs.foldl (ofTStep p) s) := by
    intro cs
    induction cs with
    | nil => intro s _ h; exact h
    | cons c cs ih => intro s h1 h2; exact ih _ (fun d hd => h1 d (by simp [hd])) (ofStep_ok (by have := h.1; omega) (by have := h.2.1; omega) (h1 c (by simp)) h2)
  exact gen p.changes sum0 h.2.2.2.1 sum0_ok
theorem weightR_ok {W : List WeightEntry} (h : ∀ w ∈ W, WOK w) (x : Int) : 1 ≤ weightR W x ∧ weightR W x ≤ 9 := by
  induction W with
  | nil => rw [weightR]; omega
  | cons w W ih =>
    rw [weightR]
    split
    · exact (h w (by simp)).2.1
    · exact ih (fun w hw => h w (by simp [hw]))
theorem viewT_mem {s : Summary} (h : SumOK s) : MemOK (viewT s) := by
  constructor
  · intro m hm
    obtain ⟨x, hx, rfl⟩ := List.mem_map.1 (show m ∈ List.map _ _ from hm)
    exact ⟨h.j x (List.mem_filter.1 hx).1, weightR_ok h.w x⟩
  · show (List.map _ _).Pairwise _
    rw [List.pairwise_map]
    exact List.Pairwise.filter _ h.sort.1
end Go.Proofs
namespace Go.Proofs
open Go.AM
attribute [local irreducible] AM.evalR AM.evalD AM.Runs AM.valK AM.dK AM.opK AM.stepR AM.CallS AM.St.Le
theorem laterB_iff (a b : WeightEntry) : laterB a b = true ↔ (b.version < a.version ∨ (a.version = b.version ∧ (b.admin < a.admin ∨ (a.admin = b.admin ∧ b.number < a.number)))) := by
  unfold laterB
  split
  · rw [decide_eq_true_eq]; omega
  · split
    · rw [decide_eq_true_eq]; omega
    · rw [decide_eq_true_eq]; omega
theorem laterB_not (a b : WeightEntry) : laterB a b = false ↔ ¬ (b.version < a.version ∨ (a.version = b.version ∧ (b.admin < a.admin ∨ (a.admin = b.admin ∧ b.number < a.number)))) := by
  rw [← laterB_iff]; simp
theorem laterB_irr (a : WeightEntry) : laterB a a = false := by rw [laterB_not]; omega
theorem laterB_tr {a b c : WeightEntry} (h : laterB a b = false) (k : laterB b c = false) : laterB a c = false := by rw [laterB_not] at *; omega
theorem laterB_lt {a b : WeightEntry} (h : laterB b a = true) : laterB a b = false := by rw [laterB_iff] at h; rw [laterB_not]; omega
structure Is (A : List Summary) (s : Summary) : Prop where
  sort : SortedS s
  j : ∀ x, x ∈ s.joined ↔ ∃ t ∈ A, x ∈ t.joined
  r : ∀ x, x ∈ s.removed ↔ ∃ t ∈ A, x ∈ t.removed
  w1 : ∀ x o, lk s.weights x = some o → ∃ t ∈ A, lk t.weights x = some o
  w2 : ∀ x, ∀ t ∈ A, ∀ o', lk t.weights x = some o' → ∃ o, lk s.weights x = some o ∧ laterB o' o = false
  ru1 : ∃ t ∈ A, s.rule = t.rule ∧ s.version = t.version ∧ s.admin = t.admin ∧ s.number = t.number
  ru2 : ∀ t ∈ A, t.rule ≠ ⟨0, 0, 0⟩ → s.rule ≠ ⟨0, 0, 0⟩ ∧ laterB (originW t) (originW s) = false
structure Coh (A : List Summary) : Prop where
  w : ∀ t ∈ A, ∀ u ∈ A, ∀ x o o', lk t.weights x = some o → lk u.weights x = some o' → laterB o o' = false → laterB o' o = false → o = o'
  ru : ∀ t ∈ A, ∀ u ∈ A, t.rule ≠ ⟨0, 0, 0⟩ → u.rule ≠ ⟨0, 0, 0⟩ → laterB (originW t) (originW u) = false → laterB (originW u) (originW t) = false → t.rule = u.rule
  z : ∀ t ∈ A, t.rule = ⟨0, 0, 0⟩ → t.version = 0 ∧ t.admin = 0 ∧ t.number = 0
theorem Coh.mono {A B : List Summary} (h : Coh B) (k : ∀ t ∈ A, t ∈ B) : Coh A :=
  ⟨fun t ht u hu => h.w t (k t ht) u (k u hu), fun t ht u hu => h.ru t (k t ht) u (k u hu), fun t ht => h.z t (k t ht)⟩
theorem Is.congr {A B : List Summary} {s : Summary} (h : Is A s) (e : ∀ t, t ∈ A ↔ t ∈ B) : Is B s := by
  refine ⟨h.sort, fun x => ?_, fun x => ?_, fun x o q => ?_, fun x t ht => h.w2 x t ((e t).2 ht), ?_, fun t ht => h.ru2 t ((e t).2 ht)⟩
  · rw [h.j]; simp only [e]
  · rw [h.r]; simp only [e]
  · obtain ⟨t, ht, k⟩ := h.w1 x o q; exact ⟨t, (e t).1 ht, k⟩
  · obtain ⟨t, ht, k⟩ := h.ru1; exact ⟨t, (e t).1 ht, k⟩
theorem Is.one {t : Summary} (h : SortedS t) : Is [t] t := by
  refine ⟨h, fun x => by simp, fun x => by simp, fun x o q => ⟨t, by simp, q⟩, fun x u hu o q => ⟨o, ?_, laterB_irr o⟩, ⟨t, by simp, rfl, rfl, rfl, rfl⟩, fun u hu q => ?_⟩
  · rw [List.mem_singleton.1 hu] at q; exact q
  · rw [List.mem_singleton.1 hu] at q ⊢; exact ⟨q, laterB_irr _⟩
def maxW : Option WeightEntry → Option WeightEntry → Option WeightEntry
  | none, r => r
  | some o, none => some o
  | some o, some w => some (if laterB w o = true then w else o)
theorem lk_foldl (x : Int) : ∀ (b : List WeightEntry) {a : List WeightEntry}, StrictW a → StrictW b → lk (b.foldl weighR a) x = maxW (lk a x) (lk b x)
  | [], a, _, _ => by
    rw [List.foldl_nil, show lk [] x = none from rfl]; cases lk a x <;> rfl
  | w :: b, a, ha, hb => by
    replace hb := List.pairwise_cons.1 hb
    rw [List.foldl_cons, weighR_rec ha, lk_foldl x b (weighRec_strict w ha) hb.2, lk_weigh w x ha, lk_cons]
    by_cases e : w.server = x
    · have hn : lk b x = none := lk_none fun u hu => by have := hb.1 u hu; omega
      rw [if_pos e, if_pos e, hn]
      cases lk a x <;> rfl
    · rw [if_neg e, if_neg e]
theorem Is.join {A B : List Summary} {s t : Summary} (h : Is A s) (k : Is B t) : Is (A ++ B) (joinT s t) := by
  have hlk : ∀ x, lk (joinT s t).weights x = maxW (lk s.weights x) (lk t.weights x) := fun x => lk_foldl x t.weights h.sort.2.2 k.sort.2.2
  refine ⟨(joinS_T h.sort t).2, fun x => ?_, fun x => ?_, fun x o q => ?_, fun x u hu o' q => ?_, ?_, fun u hu q => ?_⟩
  · show x ∈ t.joined.foldl insR s.joined ↔ _
    rw [mem_foldl mem_insR, h.j, k.j]
    simp only [List.mem_append, or_and_right, exists_or]
  · show x ∈ t.removed.foldl insR s.removed ↔ _
    rw [mem_foldl mem_insR, h.r, k.r]
    simp only [List.mem_append, or_and_right, exists_or]
  · rw [hlk] at q
    cases hs : lk s.weights x with
    | none =>
      rw [hs] at q
      obtain ⟨u, hu, e⟩ := k.w1 x o q
      exact ⟨u, by simp [hu], e⟩
    | some a =>
      cases ht : lk t.weights x with
      | none =>
        rw [hs, ht] at q
        obtain ⟨u, hu, e⟩ := h.w1 x o (hs.trans q)
        exact ⟨u, by simp [hu], e⟩
      | some w =>
        rw [hs, ht] at q
        have q := Option.some.inj q
        split at q
        · obtain ⟨u, hu, e⟩ := k.w1 x o (by rw [ht, q])
          exact ⟨u, by simp [hu], e⟩
        · obtain ⟨u, hu, e⟩ := h.w1 x o (by rw [hs, q])
          exact ⟨u, by simp [hu], e⟩
  · rw [hlk]
    rcases List.mem_append.1 hu with hu | hu
    · obtain ⟨o, e, l⟩ := h.w2 x u hu o' q
      rw [e]
      cases ht : lk t.weights x with
      | none => exact ⟨o, rfl, l⟩
      | some w =>
        refine ⟨_, rfl, ?_⟩
        split
        · rename_i hw; exact laterB_tr l (laterB_lt hw)
        · exact l
    · obtain ⟨w, e, l⟩ := k.w2 x u hu o' q
      rw [e]
      cases hs : lk s.weights x with
      | none => exact ⟨w, rfl, l⟩
      | some o =>
        refine ⟨_, rfl, ?_⟩
        split
        · exact l
        · rename_i hw; exact laterB_tr l (by simpa using hw)
  · have hp : pickT s t = t ∨ pickT s t = s := by unfold pickT; split <;> simp
    show ∃ u ∈ A ++ B, (pickT s t).rule = u.rule ∧ (pickT s t).version = u.version ∧ (pickT s t).admin = u.admin ∧ (pickT s t).number = u.number
    rcases hp with e | e
    · obtain ⟨u, hu, q⟩ := k.ru1
      rw [e]; exact ⟨u, by simp [hu], q⟩
    · obtain ⟨u, hu, q⟩ := h.ru1
      rw [e]; exact ⟨u, by simp [hu], q⟩
  · show (pickT s t).rule ≠ _ ∧ laterB (originW u) (originW (pickT s t)) = false
    unfold pickT
    rcases List.mem_append.1 hu with hu | hu
    · obtain ⟨l1, l2⟩ := h.ru2 u hu q
      split
      · rename_i c
        refine ⟨c.1, laterB_tr l2 (laterB_lt (c.2.elim (fun z => absurd z l1) id))⟩
      · exact ⟨l1, l2⟩
    · obtain ⟨l1, l2⟩ := k.ru2 u hu q
      split
      · exact ⟨l1, l2⟩
      · rename_i c
        have c1 : s.rule ≠ ⟨0, 0, 0⟩ := fun z => c ⟨l1, .inl z⟩
        have c2 : laterB (originW t) (originW s) = false := by
          cases hx : laterB (originW t) (originW s)
          · rfl
          · exact absurd ⟨l1, .inr hx⟩ c
        exact ⟨c1, laterB_tr l2 c2⟩
theorem genesis_mem (n : Int) : MemOK (genesisI n) := by
  have d5 := digitB n 5 4 zd
  constructor
  · intro m hm
    obtain ⟨k, hk, rfl⟩ := List.mem_map.1 (show m ∈ List.map _ _ from hm)
    have hk := List.mem_range.1 hk
    have d3 := digitB n 3 (6 + k) zd
    unfold gmI
    dsimp only
    omega
  · show (List.map _ _).Pairwise _
    rw [List.pairwise_map]
    exact List.pairwise_lt_range.imp fun h => by unfold gmI; dsimp only; omega
theorem mem_cutI {f : Nat → Nat → Proposal} {i j k : Nat} {p : Proposal} : p ∈ cut f i j k ↔ (∃ n, n < i ∧ p = f 0 n) ∨ (∃ n, n < j ∧ p = f 1 n) ∨ (∃ n, n < k ∧ p = f 2 n) := by
  simp only [cut, blk, List.mem_append, List.mem_map, List.mem_range, or_assoc, eq_comm]
theorem cut_sub {f : Nat → Nat → Proposal} {i j k i' j' k' : Nat} (h : i ≤ i' ∧ j ≤ j' ∧ k ≤ k') {p : Proposal} (hp : p ∈ cut f i j k) : p ∈ cut f i' j' k' := by
  rw [mem_cutI] at *
  rcases hp with ⟨n, hn, e⟩ | ⟨n, hn, e⟩ | ⟨n, hn, e⟩
  · exact .inl ⟨n, by omega, e⟩
  · exact .inr (.inl ⟨n, by omega, e⟩)
  · exact .inr (.inr ⟨n, by omega, e⟩)
structure Fam (f : Nat → Nat → Proposal) : Prop where
  nice : Nice f
  ok : ∀ a n, a < 3 → n < 3 → PropOK (f a n)
theorem Fam.prop {f : Nat → Nat → Proposal} (F : Fam f) {c : Config} (hc : IsCut f c) : ∀ p ∈ c, PropOK p := by
  obtain ⟨i, j, k, h, rfl⟩ := hc
  intro p hp
  obtain ⟨a, n, ha, hn, rfl⟩ := mem_cut3 h hp
  exact F.ok a n ha hn
theorem Fam.sub {f : Nat → Nat → Proposal} {c : Config} (hc : IsCut f c) : ∀ p ∈ c, p ∈ cut f 3 3 3 := by
  obtain ⟨i, j, k, h, rfl⟩ := hc
  intro p hp
  exact cut_sub zo hp
theorem Fam.src {f : Nat → Nat → Proposal} {g : View} {c : Config} (hc : IsCut f c) : ∀ t ∈ initS g :: c.map ofT, t ∈ initS g :: (cut f 3 3 3).map ofT := by
  intro t ht
  rcases List.mem_cons.1 ht with rfl | ht
  · simp
  · obtain ⟨p, hp, rfl⟩ := List.mem_map.1 ht
    exact List.mem_cons_of_mem _ (List.mem_map.2 ⟨p, Fam.sub hc p hp, rfl⟩)
theorem pool_fam (l : List Int) : Fam (poolF l) := ⟨pool_nice l, fun a n ha hn => pool_ok l a n ha hn⟩
end Go.Proofs
namespace Go.Proofs
open Go.AM
attribute [local irreducible] AM.evalR AM.evalD AM.Runs AM.valK AM.dK AM.opK AM.stepR AM.CallS AM.St.Le
theorem da_bo (x : Bool) : (V.b x).data = true := rfl
theorem st_bo (xs : List Bool) : Storable (xs.map V.b) := Storable_map _ _ fun _ => rfl
theorem sd_bo (xs : List Bool) : Stride 1 (xs.map V.b) := Stride_map _ _ fun _ => rfl
theorem dl_bo (xs : List Bool) : V.dataL (xs.map V.b) = true := dataL_map _ _ fun _ => rfl
attribute [go_sem] da_bo st_bo sd_bo dl_bo
structure Source where
  server : Int
  filled : Bool
  deriving DecidableEq, Inhabited
def soV (s : Source) : V := .agg [.i s.server, .b s.filled]
theorem ce_soV (x : Source) : (soV x).cells = [.i x.server, .b x.filled] := rfl
theorem ok_soV (x : Source) : (soV x).okCells = true := rfl
theorem da_soV (x : Source) : (soV x).data = true := rfl
theorem st_soV (xs : List Source) : Storable (xs.map soV) := Storable_map _ _ fun _ => rfl
theorem sd_soV (xs : List Source) : Stride 2 (xs.map soV) := Stride_map _ _ fun _ => rfl
theorem dl_soV (xs : List Source) : V.dataL (xs.map soV) = true := dataL_map _ _ da_soV
theorem sp_soV (x : Source) (fo : Nat) (cs : List V) : splice (soV x) fo cs = .agg ((soV x).cells.take fo ++ cs ++ (soV x).cells.drop (fo + cs.length)) := rfl
theorem kl_soV (d : Nat) (x : Source) : V.kill d (soV x) = soV x := rfl
attribute [go_sem] sp_soV st_soV sd_soV da_soV dl_soV ce_soV ok_soV kl_soV
theorem cntB_take {l : List Bool} {i : Nat} (h : i < l.length) : cntB (l.take (i + 1)) = cntB (l.take i) + (if l.getD i default = true then 1 else 0) := by rw [take_getD h, cntB_snoc]
theorem quo_count (f : Bool) (l : List Bool) : AM.Fn Tryz.prog 53 [.sl f (l.map .b)] (.i (cntB l : Nat)) := by
  (refine spec_of_runs Tryz.func53 rfl ?_; simp only [Tryz.f53]; refine ys ?_)
  (refine Runs.lens 0 ?_; refine yl ?_)
  intro hl
  repeat' (first | refine yw ?_ | ((with_reducible refine Runs.is ?_); first | refine Runs.region (id := 0) ?_ | refine Runs.region (id := 1) ?_ | refine Runs.region (id := 2) ?_ | ((with_reducible refine Runs.isC ?_); refine Runs.cond rfl (zc ?_) (zc ?_) <;> intro hc <;> (try (first | contradiction | (exfalso; omega; done) | (have : hc = trivial := rfl; clear this; clear hc))))) | ((with_reducible refine r_is ?_); first | refine yr ?_) | fail)
  refine Runs.loopI (fun k : Nat => l.length - k) (fun k => k ≤ l.length)
    (fun k => ⟨[.any, .any, .any, .i (cntB (l.take k) : Nat), .any, .any, .sl f (l.map .b), .i (l.length : Nat), .i (k : Nat), .any, .any, .any, .any, .any, .any, .any, .any], []⟩) 0 (by simp) ?_ ?_
  · (refine St.Le.clean zR zU zV)
  intro k hk ih
  have hst := fun (h : k < l.length) => cntB_take h
  have hle := cntB_le (l.take k)
  rw [List.length_take] at hle
  have hend : l.length ≤ k → cntB (l.take k) = cntB l := fun h => by rw [List.take_of_length_le h]
  by_cases hlt : k < l.length
  · have hst2 := hst hlt
    generalize cntB (l.take k) = c at *
    repeat' (first | refine yw ?_ | ((with_reducible refine Runs.is ?_); first | refine Runs.region (id := 3) ?_ | refine Runs.region (id := 4) ?_ | refine Runs.region (id := 5) ?_ | refine Runs.region (id := 6) ?_ | refine Runs.region (id := 7) ?_ | ((with_reducible refine Runs.isC ?_); refine Runs.cond rfl (zc ?_) (zc ?_) <;> intro hc <;> (try (first | contradiction | (exfalso; omega; done) | (have : hc = trivial := rfl; clear this; clear hc))))) | ((with_reducible refine r_is ?_); first | refine yr ?_) | fail)
    · rw [if_pos hc] at hst2
      refine ih (k + 1) _ zo zo ?_
      rw [hst2]
      (refine St.Le.clean zR zU zV)
    · rw [if_neg (by rw [hc]; decide)] at hst2
      refine ih (k + 1) _ zo zo ?_
      rw [hst2]
      (refine St.Le.clean zR zU zV)
  · have he := hend zo
    rw [he]
    repeat' (first | refine yw ?_ | ((with_reducible refine Runs.is ?_); first | refine Runs.region (id := 3) ?_ | ((with_reducible refine Runs.isC ?_); refine Runs.cond rfl (zc ?_) (zc ?_) <;> intro hc <;> (try (first | contradiction | (exfalso; omega; done) | (have : hc = trivial := rfl; clear this; clear hc))))) | ((with_reducible refine r_is ?_); first | refine yr ?_) | fail)
    repeat' (first | refine yw ?_ | ((with_reducible refine Runs.is ?_); first | refine Runs.region (id := 8) ?_ | ((with_reducible refine Runs.isC ?_); refine Runs.cond rfl (zc ?_) (zc ?_) <;> intro hc <;> (try (first | contradiction | (exfalso; omega; done) | (have : hc = trivial := rfl; clear this; clear hc))))) | ((with_reducible refine r_is ?_); first | refine yr ?_) | fail)
    (refine Runs.ret1 Tryz.func53 rfl zM zD ?_; try exact zX)
def wInK (ms : List Member) (bs : List Bool) : Nat → Int
  | 0 => 0
  | k + 1 => wInK ms bs k + (if bs.getD k default = true then (ms.getD k default).weight else 0)
def wAllK (ms : List Member) : Nat → Int
  | 0 => 0
  | k + 1 => wAllK ms k + (ms.getD k default).weight
def Light (ms : List Member) : Prop := ms.length ≤ 1000 ∧ ∀ m ∈ ms, 0 ≤ m.weight ∧ m.weight ≤ 9
theorem wInK_bd {ms : List Member} (h : Light ms) (bs : List Bool) : ∀ k, k ≤ ms.length → 0 ≤ wInK ms bs k ∧ wInK ms bs k ≤ 9 * k
  | 0, _ => by simp [wInK]
  | k + 1, hk => by
    have := wInK_bd h bs k zo
    have := h.2 _ (getD_in (show k < ms.length by omega))
    rw [wInK]
    split <;> omega
theorem wAllK_bd {ms : List Member} (h : Light ms) : ∀ k, k ≤ ms.length → 0 ≤ wAllK ms k ∧ wAllK ms k ≤ 9 * k
  | 0, _ => by simp [wAllK]
  | k + 1, hk => by
    have := wAllK_bd h k zo
    have := h.2 _ (getD_in (show k < ms.length by omega))
    rw [wAllK]; omega
theorem quo_weighted (f g : Bool) (ms : List Member) (bs : List Bool) (hm : Light ms) (hl : bs.length = ms.length) : AM.Fn Tryz.prog 54 [.sl f (ms.map mbV), .sl g (bs.map .b)] (.b (decide (wAllK ms ms.length < 2 * wInK ms bs ms.length))) := by
  (refine spec_of_runs Tryz.func54 rfl ?_; simp only [Tryz.f54]; refine ys ?_)
  repeat' (first | refine yw ?_ | ((with_reducible refine Runs.is ?_); first | refine Runs.region (id := 0) ?_ | refine Runs.region (id := 1) ?_ | refine Runs.region (id := 2) ?_ | ((with_reducible refine Runs.isC ?_); refine Runs.cond rfl (zc ?_) (zc ?_) <;> intro hc <;> (try (first | contradiction | (exfalso; omega; done) | (have : hc = trivial := rfl; clear this; clear hc))))) | ((with_reducible refine r_is ?_); first | refine yr ?_) | fail)
  have hlen := hm.1
  refine Runs.loopI (fun k : Nat => ms.length - k) (fun k => k ≤ ms.length)
    (fun k => ⟨[.any, .sl g (bs.map .b), .any, .any, .any, .i (2 * wInK ms bs k), .i (wAllK ms k), .any, .any, .sl f (ms.map mbV), .i (ms.length : Nat), .i (k : Nat), .any, .any, .any, .any, .any, .any, .any, .any, .any, .any, .any, .any, .any, .any, .any, .any, .any, .any, .any, .any, .any], []⟩) 0 (by simp) ?_ ?_
  · (refine St.Le.clean zR zU zV)
  intro k hk ih
  have b1 := wInK_bd hm bs k hk
  have b2 := wAllK_bd hm k hk
  by_cases hlt : k < ms.length
  · have hw := hm.2 _ (getD_in hlt)
    have s1 : wInK ms bs (k + 1) = wInK ms bs k + (if bs.getD k default = true then (ms.getD k default).weight else 0) := rfl
    have s2 : wAllK ms (k + 1) = wAllK ms k + (ms.getD k default).weight := rfl
    generalize wInK ms bs k = x at *
    generalize wAllK ms k = y at *
    repeat' (first | refine yw ?_ | ((with_reducible refine Runs.is ?_); first | refine Runs.region (id := 3) ?_ | refine Runs.region (id := 4) ?_ | refine Runs.region (id := 5) ?_ | refine Runs.region (id := 6) ?_ | refine Runs.region (id := 7) ?_ | refine Runs.region (id := 8) ?_ | ((with_reducible refine Runs.isC ?_); refine Runs.cond rfl (zc ?_) (zc ?_) <;> intro hc <;> (try (first | contradiction | (exfalso; omega; done) | (have : hc = trivial := rfl; clear this; clear hc))))) | ((with_reducible refine r_is ?_); first | refine yr ?_) | fail)
    · rw [if_pos hc] at s1
      refine ih (k + 1) _ zo zo ?_
      rw [s1, s2, Int.mul_add]
      (refine St.Le.clean zR zU zV)
    · rw [if_neg (by rw [hc]; decide)] at s1
      refine ih (k + 1) _ zo zo ?_
      rw [s1, s2, Int.add_zero]
      (refine St.Le.clean zR zU zV)
  · obtain rfl : k = ms.length := by omega
    repeat' (first | refine yw ?_ | ((with_reducible refine Runs.is ?_); first | refine Runs.region (id := 3) ?_ | ((with_reducible refine Runs.isC ?_); refine Runs.cond rfl (zc ?_) (zc ?_) <;> intro hc <;> (try (first | contradiction | (exfalso; omega; done) | (have : hc = trivial := rfl; clear this; clear hc))))) | ((with_reducible refine r_is ?_); first | refine yr ?_) | fail)
    repeat' (first | refine yw ?_ | ((with_reducible refine Runs.is ?_); first | refine Runs.region (id := 9) ?_ | ((with_reducible refine Runs.isC ?_); refine Runs.cond rfl (zc ?_) (zc ?_) <;> intro hc <;> (try (first | contradiction | (exfalso; omega; done) | (have : hc = trivial := rfl; clear this; clear hc))))) | ((with_reducible refine r_is ?_); first | refine yr ?_) | fail)
    (refine Runs.ret1 Tryz.func54 rfl zM zD ?_; try exact zX)
end Go.Proofs
namespace Go.Proofs
open Go.AM
attribute [local irreducible] AM.evalR AM.evalD AM.Runs AM.valK AM.dK AM.opK AM.stepR AM.CallS AM.St.Le
theorem bo_getD {l : List Bool} {i : Nat} (h : i < l.length) : (l.map V.b).getD i .any = V.b (l.getD i false) := by
  rw [List.getD_eq_getElem?_getD, List.getElem?_map, List.getElem?_eq_getElem h, List.getD_eq_getElem?_getD, List.getElem?_eq_getElem h]; rfl
theorem bools_rel {E : Env} {g o : Nat} {l : List Bool} (hF : E.F g) (hl : l.length ≤ 1000000) (hr : ∀ j, j < l.length → E.w.cell? ⟨g, o + j, none⟩ = some (.bool (l.getD j false))) : Rel E (.slice (some ⟨g, o, none⟩) l.length l.length) (.sl true (l.map .b)) := by
  have := Rel.sl (E := E) true (l.map V.b) g o l.length 1 (fun k => .bool (l.getD k false)) (dl_bo l) (by simp) (by simp [maxLen]; omega) (fun _ => by simp) hF zd (fun i hi => by
    rw [List.length_map] at hi
    rw [List.getD_eq_getElem?_getD, List.getElem?_map, List.getElem?_eq_getElem hi]; rfl) (fun k hk => hr k (by simpa using hk)) (fun i j hi hj => by
    rw [List.length_map] at hi
    obtain rfl : j = 0 := by omega
    rw [Nat.mul_one, Nat.add_zero, bo_getD hi]
    exact Rel.sc _)
  rw [List.length_map] at this
  exact this
theorem countsB : CountsB := by
  intro w g o l hl hg hr
  have S : SimAt w (fun _ => False) (Owned [] (fun _ => undef)) [] (fun _ => undef) [.sl true (l.map .b)] [.slice (some ⟨g, o, none⟩) l.length l.length] w :=
    ⟨RelL.cons (bools_rel ⟨hg, id, fun id h => (by rw [AM.look_nil] at h; cases h)⟩ hl hr) (RelL.nil _), fun id o h => (by rw [AM.look_nil] at h; cases h), fun id id' b h => (by rw [AM.look_nil] at h; cases h), fun id b h => (by rw [AM.look_nil] at h; cases h), Ext.refl _ _, fun b h => h.elim⟩
  refine (quo_count true l w _ _ _ S).mono ?_
  rintro e w' ⟨r, H', x, loc', ⟨rfl, rfl⟩, rfl, S'⟩
  have hx := S'.vals.getD 0
  have hx : x = .int .i64 (cntB l : Nat) := Rel.sc_iff.1 hx
  subst hx
  exact ⟨rfl, S'.ext.os, S'.ext.tape, S'.ext.output, S'.ext.size, fun b hb => S'.ext.block b hb (by rintro ⟨id, h1, _⟩; rw [AM.look_nil] at h1; cases h1)⟩
theorem quo_grid (f : Bool) (c : Int) (hc : 1 ≤ c ∧ c ≤ 1000000) (bs : List Bool) (hne : bs ≠ []) (hl : bs.length ≤ 1000000) : AM.Fn Tryz.prog 55 [.i c, .sl f (bs.map .b)] (.b (gridB c bs)) := by
  intro w O xs loc S
  obtain ⟨x0, x1, rfl⟩ : ∃ x0 x1, xs = [x0, x1] := by
    have := S.vals.1
    match xs, this with
    | [x0, x1], _ => exact ⟨x0, x1, rfl⟩
  have r0 := S.vals.getD 0
  have r1 := S.vals.getD 1
  have r0 : x0 = .int .i64 c := Rel.sc_iff.1 r0
  subst r0
  change Rel _ x1 (.sl f (bs.map .b)) at r1
  have key : ∃ g off cap, x1 = .slice (some ⟨g, off, none⟩) bs.length cap ∧ bs.length ≤ cap ∧ cap ≤ maxLen ∧ g < w.heap.size ∧ ∀ j, j < bs.length → w.cell? ⟨g, off + j, none⟩ = some (.bool (bs.getD j false)) := by
    generalize hv : V.sl f (bs.map V.b) = v at r1
    cases r1 with
    | nil full a c h1 h2 =>
      injection hv with _ hv
      exact absurd (List.map_eq_nil_iff.1 hv) hne
    | sl full es g off c sz fv a1 a2 a3 a4 a5 a6 a7 a8 a9 =>
      injection hv with _ hv
      subst hv
      rw [List.length_map] at a2 a7 a8 a9 ⊢
      have hp : 0 < bs.length := List.length_pos_iff.2 hne
      have hsz : sz = 1 := by
        have := a7 0 hp
        rw [List.getD_eq_getElem?_getD, List.getElem?_map, List.getElem?_eq_getElem hp] at this
        exact this.symm
      subst hsz
      refine ⟨g, off, c, rfl, a2, a3, a5.1, fun j hj => ?_⟩
      have h8 := a8 j zo
      have h9 := a9 j 0 hj zd
      rw [Nat.mul_one, Nat.add_zero, bo_getD hj] at h9
      have h9 : fv j = .bool (bs.getD j false) := Rel.sc_iff.1 h9
      rw [h9] at h8
      exact h8
    | _ => cases hv
  obtain ⟨g, off, cap, rfl, h1, h2, h3, h4⟩ := key
  have hcc : ((c.toNat : Nat) : Int) = c := by omega
  have hG := grid_calls countsB c.toNat ⟨by omega, by omega⟩ bs hl w g off cap h1 (by have : maxLen = 9223372036854775807 := rfl; omega) h3 h4
  rw [hcc] at hG
  refine hG.mono ?_
  rintro e W' ⟨rfl, hB⟩
  have S' := S.grows (w' := W') ⟨hB.os, hB.tape, hB.output, hB.size, fun b hb _ => hB.block b hb⟩
  exact ⟨.b (gridB c bs), [], .bool (gridB c bs), loc, ⟨rfl, rfl⟩, rfl, ⟨RelL.cons (Rel.sc _) (RelL.nil _), S'.objs, S'.dist, S'.own, S'.ext, S'.O_lt⟩⟩
end Go.Proofs
namespace Go.Proofs
open Go.AM
attribute [local irreducible] AM.evalR AM.evalD AM.Runs AM.valK AM.dK AM.opK AM.stepR AM.CallS AM.St.Le
def quoB (v : View) (bs : List Bool) : Bool :=
  if v.members.length = 0 then false
  else if v.rule.kind = 1 then decide ((v.members.length : Int) < 2 * (cntB bs : Nat))
  else if v.rule.kind = 2 then decide (wAllK v.members v.members.length < 2 * wInK v.members bs v.members.length)
  else if v.rule.kind = 3 then gridB v.rule.columns bs
  else if v.rule.kind = 4 then decide (((v.members.length : Int) + v.rule.faulty + 2) / 2 ≤ (cntB bs : Nat))
  else false
theorem quo_contains (f : Bool) (v : View) (bs : List Bool) (hm : Light v.members) (hr : RuleOK v.rule) (hl : bs.length = v.members.length) : AM.Fn Tryz.prog 39 [viV v, .sl f (bs.map .b)] (.b (quoB v bs)) := by
  have hW := quo_weighted false f v.members bs hm hl
  have hC := quo_count f bs
  have hcb := cntB_le bs
  have hgo : ∀ e, quoB v bs = e → AM.Fn Tryz.prog 39 [viV v, .sl f (bs.map .b)] (.b e) := by
    intro e he
    unfold quoB at he
    obtain ⟨r1, r2, r3, r4, r5⟩ := hr
    have hlen := hm.1
    by_cases h0 : v.members.length = 0
    · rw [if_pos h0] at he
      subst he
      clear hW hC
      obtain ⟨ms, ru⟩ := v
      dsimp only at h0 hl
      (refine spec_of_runs Tryz.func39 rfl ?_; simp only [Tryz.f39]; refine ys ?_)
      repeat' (first | refine yw ?_ | ((with_reducible refine Runs.is ?_); first | refine Runs.region (id := 0) ?_ | refine Runs.region (id := 1) ?_ | refine Runs.region (id := 2) ?_ | refine Runs.region (id := 3) ?_ | ((with_reducible refine Runs.isC ?_); refine Runs.cond rfl (zc ?_) (zc ?_) <;> intro hc <;> (try (first | contradiction | (exfalso; omega; done) | (have : hc = trivial := rfl; clear this; clear hc))))) | ((with_reducible refine r_is ?_); first | refine yr ?_) | fail)
      (refine Runs.ret1 Tryz.func39 rfl zM zD ?_; try exact zX)
    rw [if_neg h0] at he
    have hG : v.rule.kind = 3 → AM.Fn Tryz.prog 55 [.i v.rule.columns, .sl f (bs.map .b)] (.b (gridB v.rule.columns bs)) := fun h => quo_grid f v.rule.columns (by have := r2 h; omega) bs (by rintro rfl; exact h0 hl.symm) zo
    generalize decide (wAllK v.members v.members.length < 2 * wInK v.members bs v.members.length) = wb at *
    generalize cntB bs = cn at *
    generalize gridB v.rule.columns bs = gb at *
    obtain ⟨ms, ⟨k, co, fa⟩⟩ := v
    dsimp only at *
    by_cases h1 : k = 1
    · subst h1
      rw [if_pos rfl] at he
      subst he
      (refine spec_of_runs Tryz.func39 rfl ?_; simp only [Tryz.f39]; refine ys ?_)
      repeat' (first | refine yw ?_ | ((with_reducible refine Runs.is ?_); first | refine Runs.region (id := 0) ?_ | refine Runs.region (id := 1) ?_ | refine Runs.region (id := 2) ?_ | refine Runs.region (id := 3) ?_ | refine Runs.region (id := 4) ?_ | refine Runs.region (id := 5) ?_ | refine Runs.region (id := 6) ?_ | ((with_reducible refine Runs.isC ?_); refine Runs.cond rfl (zc ?_) (zc ?_) <;> intro hc <;> (try (first | contradiction | (exfalso; omega; done) | (have : hc = trivial := rfl; clear this; clear hc))))) | ((with_reducible refine r_is ?_); first | refine yr ?_ | (refine r_fn rfl (hC) HbF.h zL1 zD ?_; refine r_nn zN zH ?_)) | fail)
      (refine Runs.ret1 Tryz.func39 rfl zM zD ?_; try exact zX)
    rw [if_neg h1] at he
    by_cases h2 : k = 2
    · subst h2
      rw [if_pos rfl] at he
      subst he
      (refine spec_of_runs Tryz.func39 rfl ?_; simp only [Tryz.f39]; refine ys ?_)
      repeat' (first | refine yw ?_ | ((with_reducible refine Runs.is ?_); first | refine Runs.region (id := 0) ?_ | refine Runs.region (id := 1) ?_ | refine Runs.region (id := 2) ?_ | refine Runs.region (id := 3) ?_ | refine Runs.region (id := 4) ?_ | refine Runs.region (id := 5) ?_ | refine Runs.region (id := 6) ?_ | refine Runs.region (id := 7) ?_ | refine Runs.region (id := 8) ?_ | ((with_reducible refine Runs.isC ?_); refine Runs.cond rfl (zc ?_) (zc ?_) <;> intro hc <;> (try (first | contradiction | (exfalso; omega; done) | (have : hc = trivial := rfl; clear this; clear hc))))) | ((with_reducible refine r_is ?_); first | refine yr ?_ | (refine r_fn rfl (hW) HbF.h zL2 zD ?_; refine r_nn zN zH ?_)) | fail)
      (refine Runs.ret1 Tryz.func39 rfl zM zD ?_; try exact zX)
    rw [if_neg h2] at he
    by_cases h3 : k = 3
    · subst h3
      rw [if_pos rfl] at he
      subst he
      have hG3 := hG rfl
      clear hG
      (refine spec_of_runs Tryz.func39 rfl ?_; simp only [Tryz.f39]; refine ys ?_)
      repeat' (first | refine yw ?_ | ((with_reducible refine Runs.is ?_); first | refine Runs.region (id := 0) ?_ | refine Runs.region (id := 1) ?_ | refine Runs.region (id := 2) ?_ | refine Runs.region (id := 3) ?_ | refine Runs.region (id := 4) ?_ | refine Runs.region (id := 5) ?_ | refine Runs.region (id := 6) ?_ | refine Runs.region (id := 7) ?_ | refine Runs.region (id := 8) ?_ | refine Runs.region (id := 9) ?_ | refine Runs.region (id := 10) ?_ | ((with_reducible refine Runs.isC ?_); refine Runs.cond rfl (zc ?_) (zc ?_) <;> intro hc <;> (try (first | contradiction | (exfalso; omega; done) | (have : hc = trivial := rfl; clear this; clear hc))))) | ((with_reducible refine r_is ?_); first | refine yr ?_ | (refine r_fn rfl (hG3) HbF.h zL2 zD ?_; refine r_nn zN zH ?_)) | fail)
      (refine Runs.ret1 Tryz.func39 rfl zM zD ?_; try exact zX)
    rw [if_neg h3] at he
    obtain rfl : k = 4 := by omega
    rw [if_pos rfl] at he
    subst he
    have := r4 rfl
    clear hG
    (refine spec_of_runs Tryz.func39 rfl ?_; simp only [Tryz.f39]; refine ys ?_)
    repeat' (first | refine yw ?_ | ((with_reducible refine Runs.is ?_); first | refine Runs.region (id := 0) ?_ | refine Runs.region (id := 1) ?_ | refine Runs.region (id := 2) ?_ | refine Runs.region (id := 3) ?_ | refine Runs.region (id := 4) ?_ | refine Runs.region (id := 5) ?_ | refine Runs.region (id := 6) ?_ | refine Runs.region (id := 7) ?_ | refine Runs.region (id := 8) ?_ | refine Runs.region (id := 9) ?_ | refine Runs.region (id := 10) ?_ | refine Runs.region (id := 11) ?_ | refine Runs.drawn (id := 12) mixed zK ?_ | ((with_reducible refine Runs.isC ?_); refine Runs.cond rfl (zc ?_) (zc ?_) <;> intro hc <;> (try (first | contradiction | (exfalso; omega; done) | (have : hc = trivial := rfl; clear this; clear hc))))) | ((with_reducible refine r_is ?_); first | refine yr ?_ | (refine r_fn rfl (hC) HbF.h zL1 zD ?_; refine r_nn zN zH ?_)) | ((with_reducible refine d_is ?_); first | refine yd ?_ | (refine d_fn rfl (hC) HbF.h zL1 zD ?_; refine d_nn zN zH ?_)) | fail)
    (refine Runs.ret1 Tryz.func39 rfl zM zD ?_; try exact zX)
  exact hgo _ rfl
def inK (p : Member → Bool) (ms : List Member) : Nat → List Bool
  | 0 => List.replicate ms.length false
  | k + 1 => (inK p ms k).set k (p (ms.getD k default))
theorem inK_len (p : Member → Bool) (ms : List Member) : ∀ k, (inK p ms k).length = ms.length
  | 0 => by simp [inK]
  | k + 1 => by rw [inK, List.length_set, inK_len p ms k]
theorem inK_get (p : Member → Bool) (ms : List Member) : ∀ k, k ≤ ms.length → ∀ i, i < ms.length → (inK p ms k)[i]? = some (if i < k then p (ms.getD i default) else false)
  | 0, _, i, hi => by simp [inK, hi]
  | k + 1, hk, i, hi => by
    rw [inK, List.getElem?_set]
    by_cases e : k = i
    · subst e; rw [if_pos rfl, if_pos (by rw [inK_len]; omega), if_pos zo]
    · rw [if_neg e, inK_get p ms k zo i hi]
      congr 1
      by_cases h : i < k
      · rw [if_pos h, if_pos zo]
      · rw [if_neg h, if_neg zo]
theorem inK_all (p : Member → Bool) (ms : List Member) : inK p ms ms.length = ms.map p := by
  apply List.ext_getElem?
  intro i
  by_cases hi : i < ms.length
  · rw [inK_get p ms _ (Nat.le_refl _) i hi, if_pos hi, List.getElem?_map, List.getElem?_eq_getElem hi, List.getD_eq_getElem?_getD, List.getElem?_eq_getElem hi]; rfl
  · rw [List.getElem?_eq_none (by rw [inK_len]; omega), List.getElem?_eq_none (by rw [List.length_map]; omega)]
def inSrv (ss : List Int) (m : Member) : Bool := ss.contains m.server
theorem quo_IsQuorum (f : Bool) (v : View) (ss : List Int) (hm : Light v.members) (hr : RuleOK v.rule) : AM.Fn Tryz.prog 25 [viV v, .sl f (ss.map .i)] (.b (quoB v (v.members.map (inSrv ss)))) := by
  have hC := quo_contains false v (v.members.map (inSrv ss)) hm hr (by rw [List.length_map])
  have hlen := hm.1
  generalize quoB v (v.members.map (inSrv ss)) = res at *
  clear hm hr
  rw [← inK_all] at hC
  obtain ⟨ms, ru⟩ := v
  dsimp only at hC hlen
  (refine spec_of_runs Tryz.func25 rfl ?_; simp only [Tryz.f25]; refine ys ?_)
  repeat' (first | refine yw ?_ | ((with_reducible refine Runs.is ?_); first | refine Runs.region (id := 0) ?_ | refine Runs.region (id := 1) ?_ | refine Runs.region (id := 2) ?_ | ((with_reducible refine Runs.isC ?_); refine Runs.cond rfl (zc ?_) (zc ?_) <;> intro hc <;> (try (first | contradiction | (exfalso; omega; done) | (have : hc = trivial := rfl; clear this; clear hc))))) | ((with_reducible refine r_is ?_); first | refine yr ?_) | fail)
  refine Runs.loopI (fun k : Nat => ms.length - k) (fun k => k ≤ ms.length)
    (fun k => ⟨[.any, .sl f (ss.map .i), .ptr 2 0 0, .any, .any, .own 11, .any, .any, .any, .any, .any, .any, .any, .sl false (ms.map mbV), .i (ms.length : Nat), .i (k : Nat), .any, .any, .any, .any, .any, .any, .any, .any, .any, .any, .any, .any, .any, .any, .any], [(11, .lst 4 1 ((inK (inSrv ss) ms k).map .b)), (2, .var 42 (viV ⟨ms, ru⟩))]⟩) 0 zo ?_ ?_
  · show St.Le _ ⟨_, [(11, .lst 4 1 ((List.replicate ms.length false).map .b)), (2, .var 42 (viV ⟨ms, ru⟩))]⟩
    (refine St.Le.clean zR zU zV)
  intro k hk ih
  have hkl := inK_len (inSrv ss) ms k
  by_cases hlt : k < ms.length
  · have hS := contains_ints f ss (ms.getD k default).server
    have hst : inK (inSrv ss) ms (k + 1) = (inK (inSrv ss) ms k).set k (ss.contains (ms.getD k default).server) := rfl
    generalize ss.contains (ms.getD k default).server = b at *
    generalize inK (inSrv ss) ms k = acc at *
    repeat' (first | refine yw ?_ | ((with_reducible refine Runs.is ?_); first | refine Runs.region (id := 3) ?_ | refine Runs.region (id := 4) ?_ | refine Runs.region (id := 5) ?_ | refine Runs.region (id := 6) ?_ | ((with_reducible refine Runs.isC ?_); refine Runs.cond rfl (zc ?_) (zc ?_) <;> intro hc <;> (try (first | contradiction | (exfalso; omega; done) | (have : hc = trivial := rfl; clear this; clear hc))))) | ((with_reducible refine r_is ?_); first | refine yr ?_ | (refine r_fn rfl (hS) HbF.h zL2 zD ?_; refine r_nn zN zH ?_)) | fail)
    refine ih (k + 1) _ zo zo ?_
    rw [hst]
    (refine St.Le.clean zR zU zV)
  · obtain rfl : k = ms.length := by omega
    generalize inK (inSrv ss) ms ms.length = acc at *
    repeat' (first | refine yw ?_ | ((with_reducible refine Runs.is ?_); first | refine Runs.region (id := 3) ?_ | ((with_reducible refine Runs.isC ?_); refine Runs.cond rfl (zc ?_) (zc ?_) <;> intro hc <;> (try (first | contradiction | (exfalso; omega; done) | (have : hc = trivial := rfl; clear this; clear hc))))) | ((with_reducible refine r_is ?_); first | refine yr ?_) | fail)
    (refine Runs.weaken (St.Le.freeze_lst 11 rfl) ?_; refine yf ?_)
    repeat' (first | refine yw ?_ | ((with_reducible refine Runs.is ?_); first | refine Runs.region (id := 7) ?_ | ((with_reducible refine Runs.isC ?_); refine Runs.cond rfl (zc ?_) (zc ?_) <;> intro hc <;> (try (first | contradiction | (exfalso; omega; done) | (have : hc = trivial := rfl; clear this; clear hc))))) | ((with_reducible refine r_is ?_); first | refine yr ?_ | (refine r_fn rfl (hC) HbF.h zL2 zD ?_; refine r_nn zN zH ?_)) | fail)
    (refine Runs.ret1 Tryz.func25 rfl zM zD ?_; try exact zX)
end Go.Proofs
