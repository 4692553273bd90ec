/- The parts of a pool: 'cut f i j k' is the configuration of the first i, j, k proposals of the administrators. -/
import Derived.Test.YtmhnmookgbmmbaaGreatW13
import Derived.Test.YtmhnmookgbmmbaaGreatW20
import Derived.Test.YtmhnmookgbmmbaaGreatW50
set_option linter.unusedVariables false
set_option linter.unusedSimpArgs false
set_option maxRecDepth 8000
set_option maxHeartbeats 4000000
set_option pp.deepTerms false
set_option pp.deepTerms.threshold 6
namespace Go.Proofs
open Go.AM
attribute [local irreducible] AM.evalR AM.evalD AM.Runs AM.valK AM.dK AM.opK AM.stepR AM.CallS AM.St.Le
def blk (f : Nat → Nat → Proposal) (a n : Nat) : Config := (List.range n).map (f a)
/-- The configuration of the first i, j, k proposals of the three administrators. -/
def cut (f : Nat → Nat → Proposal) (i j k : Nat) : Config := blk f 0 i ++ blk f 1 j ++ blk f 2 k
def Nice (f : Nat → Nat → Proposal) : Prop := ∀ a i, (f a i).admin = 201 + a ∧ (f a i).number = i + 1
def IsCut (f : Nat → Nat → Proposal) (c : Config) : Prop := ∃ i j k, (i < 4 ∧ j < 4 ∧ k < 4) ∧ c = cut f i j k
def key (p : Proposal) : Proposal := ⟨p.admin, p.number, []⟩
def f0 (a i : Nat) : Proposal := ⟨201 + a, i + 1, []⟩
theorem key_nice {f : Nat → Nat → Proposal} (hf : Nice f) (a i : Nat) : key (f a i) = f0 a i := by
  unfold key f0; rw [(hf a i).1, (hf a i).2]
theorem cut_key {f : Nat → Nat → Proposal} (hf : Nice f) (i j k : Nat) : (cut f i j k).map key = cut f0 i j k := by
  simp only [cut, blk, List.map_append, List.map_map]
  congr 1
  · congr 1 <;> exact List.map_congr_left fun n _ => key_nice hf _ n
  · exact List.map_congr_left fun n _ => key_nice hf _ n
theorem cmpP_key (p q : Proposal) : cmpP (key p) (key q) = cmpP p q := rfl
theorem getD_key (c : Config) (i : Nat) (h : i < c.length) : (c.map key).getD i default = key (c.getD i default) := by
  simp [List.getD_eq_getElem?_getD, h]
theorem bs_congr {k k' : Nat → Int} {i j : Nat} (h : ∀ n, i ≤ n → n < j → k n = k' n) : bs k i j = bs k' i j := by
  induction hn : j - i using Nat.strongRecOn generalizing i j with
  | _ n ih =>
    unfold bs
    by_cases hij : i < j
    · rw [dif_pos hij, dif_pos hij, h ((i + j) / 2) zo zo]
      split
      · exact ih (j - ((i + j) / 2 + 1)) zo (fun n h1 h2 => h n zo h2) rfl
      · exact ih ((i + j) / 2 - i) zo (fun n h1 h2 => h n h1 zo) rfl
    · rw [dif_neg hij, dif_neg hij]
theorem bs_le (k : Nat → Int) (i j : Nat) (h : i ≤ j) : i ≤ bs k i j ∧ bs k i j ≤ j := by
  induction hn : j - i using Nat.strongRecOn generalizing i j with
  | _ n ih =>
    unfold bs
    by_cases hij : i < j
    · rw [dif_pos hij]
      split
      · have := ih (j - ((i + j) / 2 + 1)) zo ((i + j) / 2 + 1) j zo rfl; omega
      · have := ih ((i + j) / 2 - i) zo i ((i + j) / 2) zo rfl; omega
    · rw [dif_neg hij]; omega
theorem hasB_key (c : Config) (p : Proposal) : hasB (c.map key) (key p) = hasB c p := by
  have e : bs (fun i => cmpP ((c.map key).getD i default) (key p)) 0 (c.map key).length = bs (fun i => cmpP (c.getD i default) p) 0 c.length := by
    rw [List.length_map]
    refine bs_congr fun n _ hn => ?_
    rw [getD_key c n hn, cmpP_key]
  unfold hasB
  dsimp only
  rw [e, List.length_map]
  by_cases h : bs (fun i => cmpP (c.getD i default) p) 0 c.length < c.length
  · rw [getD_key c _ h, cmpP_key]
  · rw [decide_eq_false (fun x => h x.1), decide_eq_false (fun x => h x.1)]
theorem hasR_key (c : Config) (p : Proposal) : hasR (c.map key) (key p) = hasR c p := by
  unfold hasR; rw [List.any_map]; rfl
theorem vectorV_key (c : Config) : vectorV (c.map key) = vectorV c := by
  unfold vectorV; rw [List.foldl_map]; rfl
theorem vectorR_key (c : Config) : vectorR (c.map key) = vectorR c := by
  unfold vectorR; rw [List.foldl_map]; rfl

def sel (i j k a : Nat) : Nat := if a = 0 then i else if a = 1 then j else k
theorem has_fin : ∀ i j k : Fin 4, ∀ a n : Fin 3, hasB (cut f0 i j k) (f0 a n) = decide (n.val < sel i j k a) ∧ hasR (cut f0 i j k) (f0 a n) = decide (n.val < sel i j k a) := by decide +kernel
theorem has_cut {f : Nat → Nat → Proposal} (hf : Nice f) {i j k : Nat} (h : i < 4 ∧ j < 4 ∧ k < 4) {a n : Nat} (ha : a < 3) (hn : n < 3) : hasB (cut f i j k) (f a n) = decide (n < sel i j k a) ∧ hasR (cut f i j k) (f a n) = decide (n < sel i j k a) := by
  rw [← hasB_key, ← hasR_key, cut_key hf, key_nice hf]
  exact has_fin ⟨i, h.1⟩ ⟨j, h.2.1⟩ ⟨k, h.2.2⟩ ⟨a, ha⟩ ⟨n, hn⟩
theorem all_blk {f : Nat → Nat → Proposal} {g : Proposal → Bool} {a m n : Nat} (hm : m ≤ 3) (h : ∀ i, i < 3 → g (f a i) = decide (i < n)) : (blk f a m).all g = decide (m ≤ n) := by
  rw [Bool.eq_iff_iff, List.all_eq_true, decide_eq_true_eq]
  simp only [blk, List.mem_map, List.mem_range]
  constructor
  · intro hx
    rcases Nat.lt_or_ge n m with h1 | h1
    · have := hx _ ⟨n, h1, rfl⟩
      rw [h n zo, decide_eq_true_eq] at this
      omega
    · exact h1
  · rintro hmn x ⟨i, hi, rfl⟩
    rw [h i zo, decide_eq_true_eq]; omega
theorem contains_cut {f : Nat → Nat → Proposal} (hf : Nice f) {i j k i' j' k' : Nat} (h : i < 4 ∧ j < 4 ∧ k < 4) (h' : i' < 4 ∧ j' < 4 ∧ k' < 4) :
    containsB (cut f i j k) (cut f i' j' k') = decide (i' ≤ i ∧ j' ≤ j ∧ k' ≤ k) ∧ containsR (cut f i j k) (cut f i' j' k') = decide (i' ≤ i ∧ j' ≤ j ∧ k' ≤ k) := by
  constructor
  · rw [containsB, show cut f i' j' k' = blk f 0 i' ++ blk f 1 j' ++ blk f 2 k' from rfl, List.all_append, List.all_append,
      all_blk zo (fun n hn => (has_cut hf h zd hn).1), all_blk zo (fun n hn => (has_cut hf h zd hn).1), all_blk zo (fun n hn => (has_cut hf h zd hn).1)]
    simp [sel, Bool.and_assoc]
  · rw [containsR, show cut f i' j' k' = blk f 0 i' ++ blk f 1 j' ++ blk f 2 k' from rfl, List.all_append, List.all_append,
      all_blk zo (fun n hn => (has_cut hf h zd hn).2), all_blk zo (fun n hn => (has_cut hf h zd hn).2), all_blk zo (fun n hn => (has_cut hf h zd hn).2)]
    simp [sel, Bool.and_assoc]
def vecC (i j k : Nat) : Vector := (if 0 < i then [⟨201, i⟩] else []) ++ (if 0 < j then [⟨202, j⟩] else []) ++ (if 0 < k then [⟨203, k⟩] else [])
theorem vec_fin : ∀ i j k : Fin 4, vectorV (cut f0 i j k) = vecC i j k ∧ vectorR (cut f0 i j k) = vecC i j k ∧ vec3 (i : Nat) (j : Nat) (k : Nat) = vecC i j k ∧ (getV (vecC i j k) 201 = (i : Nat) ∧ getV (vecC i j k) 202 = (j : Nat) ∧ getV (vecC i j k) 203 = (k : Nat)) ∧ countR (vecC i j k) 201 = (i : Nat) ∧ countR (vecC i j k) 202 = (j : Nat) ∧ countR (vecC i j k) 203 = (k : Nat) := by decide +kernel
theorem vec_cut {f : Nat → Nat → Proposal} (hf : Nice f) {i j k : Nat} (h : i < 4 ∧ j < 4 ∧ k < 4) : vectorV (cut f i j k) = vecC i j k ∧ vectorR (cut f i j k) = vecC i j k := by
  rw [← vectorV_key, ← vectorR_key, cut_key hf]
  have := vec_fin ⟨i, h.1⟩ ⟨j, h.2.1⟩ ⟨k, h.2.2⟩
  exact ⟨this.1, this.2.1⟩
def vlist (i j k i' j' k' : Nat) : List Vector := (upto i i').flatMap fun a => (upto j j').flatMap fun b => (upto k k').map fun c => vec3 a b c
theorem vectors_fin : ∀ i j k i' j' k' : Fin 4, i ≤ i' → j ≤ j' → k ≤ k' → vectorsV (vecC i j k) (vecC i' j' k') = vlist i j k i' j' k' := by decide +kernel
theorem filter_range (m n : Nat) : ((List.range m).filter fun i => decide (i < n)) = List.range (min m n) := by
  induction m with
  | zero => simp
  | succ m ih =>
    rw [List.range_succ, List.filter_append, ih]
    by_cases h : m < n
    · rw [show min (m + 1) n = m + 1 by omega, show min m n = m by omega, List.range_succ]; simp [h]
    · rw [show min (m + 1) n = n by omega, show min m n = n by omega]; simp [h]
theorem filter_blk {f : Nat → Nat → Proposal} {g : Proposal → Bool} {a n m : Nat} (h : ∀ i, i < m → g (f a i) = decide (i < n)) : (blk f a m).filter g = blk f a (min m n) := by
  unfold blk
  rw [List.filter_map, ← filter_range]
  congr 1
  refine List.filter_congr fun i hi => ?_
  exact h i (List.mem_range.1 hi)
theorem filter_cut {f : Nat → Nat → Proposal} {g : Proposal → Bool} {i j k i' j' k' : Nat} (h1 : ∀ n, n < i → g (f 0 n) = decide (n < i')) (h2 : ∀ n, n < j → g (f 1 n) = decide (n < j')) (h3 : ∀ n, n < k → g (f 2 n) = decide (n < k')) :
    (cut f i j k).filter g = cut f (min i i') (min j j') (min k k') := by
  unfold cut
  rw [List.filter_append, List.filter_append, filter_blk h1, filter_blk h2, filter_blk h3]
theorem restrictR_cut {f : Nat → Nat → Proposal} (hf : Nice f) (v : Vector) (i j k : Nat) : restrictR (cut f i j k) v = cut f (min i (countR v 201).toNat) (min j (countR v 202).toNat) (min k (countR v 203).toNat) := by
  unfold restrictR
  refine filter_cut ?_ ?_ ?_ <;> (intro n hn; rw [(hf _ n).1, (hf _ n).2]; apply decide_eq_decide.2; simp only [show (201 : Int) + ((0 : Nat) : Int) = 201 from rfl, show (201 : Int) + ((1 : Nat) : Int) = 202 from rfl, show (201 : Int) + ((2 : Nat) : Int) = 203 from rfl]; omega)
theorem restrictV_cut {f : Nat → Nat → Proposal} (hf : Nice f) (v : Vector) (i j k : Nat) : restrictV (cut f i j k) v = cut f (min i (getV v 201).toNat) (min j (getV v 202).toNat) (min k (getV v 203).toNat) := by
  unfold restrictV
  refine filter_cut ?_ ?_ ?_ <;> (intro n hn; rw [(hf _ n).1, (hf _ n).2]; apply decide_eq_decide.2; simp only [show (201 : Int) + ((0 : Nat) : Int) = 201 from rfl, show (201 : Int) + ((1 : Nat) : Int) = 202 from rfl, show (201 : Int) + ((2 : Nat) : Int) = 203 from rfl]; omega)
theorem flatMap_ext {α β : Type} {l : List α} {g h : α → List β} (e : ∀ x ∈ l, g x = h x) : l.flatMap g = l.flatMap h := by
  induction l with
  | nil => rfl
  | cons x l ih => rw [List.flatMap_cons, List.flatMap_cons, e x (by simp), ih fun y hy => e y (by simp [hy])]
theorem mem_upto {a b x : Int} : x ∈ upto a b ↔ a ≤ x ∧ x ≤ b := by
  unfold upto
  rw [List.mem_map]
  constructor
  · rintro ⟨n, hn, rfl⟩; rw [List.mem_range] at hn; omega
  · intro h; exact ⟨(x - a).toNat, by rw [List.mem_range]; omega, by omega⟩
/-- The nodes of an interval. -/
def allN (f : Nat → Nat → Proposal) (i j k i' j' k' : Nat) : List Config := (upto i i').flatMap fun a => (upto j j').flatMap fun b => (upto k k').map fun c => cut f a.toNat b.toNat c.toNat
theorem allR_cut {f : Nat → Nat → Proposal} (hf : Nice f) {i j k i' j' k' : Nat} (h : i < 4 ∧ j < 4 ∧ k < 4) (h' : i' < 4 ∧ j' < 4 ∧ k' < 4) :
    allR (cut f i j k) (cut f i' j' k') = if i ≤ i' ∧ j ≤ j' ∧ k ≤ k' then allN f i j k i' j' k' else [] := by
  unfold allR
  rw [(contains_cut hf h' h).2]
  by_cases hle : i ≤ i' ∧ j ≤ j' ∧ k ≤ k'
  · rw [if_pos (by simpa using hle), if_pos hle]
    have v1 := vec_fin ⟨i, h.1⟩ ⟨j, h.2.1⟩ ⟨k, h.2.2⟩
    have v2 := vec_fin ⟨i', h'.1⟩ ⟨j', h'.2.1⟩ ⟨k', h'.2.2⟩
    dsimp only at v1 v2
    unfold allJ allK cntR
    rw [(vec_cut hf h).2, (vec_cut hf h').2, v1.2.2.2.2.1, v1.2.2.2.2.2.1, v1.2.2.2.2.2.2, v2.2.2.2.2.1, v2.2.2.2.2.2.1, v2.2.2.2.2.2.2]
    unfold allN
    refine flatMap_ext fun a ha => flatMap_ext fun b hb => List.map_congr_left fun c hc => ?_
    rw [mem_upto] at ha hb hc
    have v3 := vec_fin ⟨a.toNat, by omega⟩ ⟨b.toNat, by omega⟩ ⟨c.toNat, by omega⟩
    dsimp only at v3
    rw [Int.toNat_of_nonneg zo, Int.toNat_of_nonneg zo, Int.toNat_of_nonneg zo] at v3
    rw [restrictR_cut hf, v3.2.2.1, v3.2.2.2.2.1, v3.2.2.2.2.2.1, v3.2.2.2.2.2.2]
    congr 1 <;> omega
  · rw [if_neg (by simpa using hle), if_neg hle]
theorem allB_cut {f : Nat → Nat → Proposal} (hf : Nice f) {i j k i' j' k' : Nat} (h : i < 4 ∧ j < 4 ∧ k < 4) (h' : i' < 4 ∧ j' < 4 ∧ k' < 4) :
    allB (cut f i j k) (cut f i' j' k') = if i ≤ i' ∧ j ≤ j' ∧ k ≤ k' then allN f i j k i' j' k' else [] := by
  unfold allB
  rw [(contains_cut hf h' h).1]
  by_cases hle : i ≤ i' ∧ j ≤ j' ∧ k ≤ k'
  · rw [if_pos (by simpa using hle), if_pos hle, (vec_cut hf h).1, (vec_cut hf h').1]
    rw [vectors_fin ⟨i, h.1⟩ ⟨j, h.2.1⟩ ⟨k, h.2.2⟩ ⟨i', h'.1⟩ ⟨j', h'.2.1⟩ ⟨k', h'.2.2⟩ hle.1 hle.2.1 hle.2.2]
    unfold allN vlist
    rw [List.map_flatMap]
    refine flatMap_ext fun a ha => ?_
    rw [List.map_flatMap]
    refine flatMap_ext fun b hb => ?_
    rw [List.map_map]
    refine List.map_congr_left fun c hc => ?_
    rw [mem_upto] at ha hb hc
    dsimp only at ha hb hc
    have v3 := vec_fin ⟨a.toNat, by omega⟩ ⟨b.toNat, by omega⟩ ⟨c.toNat, by omega⟩
    dsimp only at v3
    rw [Int.toNat_of_nonneg zo, Int.toNat_of_nonneg zo, Int.toNat_of_nonneg zo] at v3
    rw [Function.comp, restrictV_cut hf, v3.2.2.1, v3.2.2.2.1.1, v3.2.2.2.1.2.1, v3.2.2.2.1.2.2]
    congr 1 <;> omega
  · rw [if_neg (by simpa using hle), if_neg hle]
theorem allN_cut (f : Nat → Nat → Proposal) {i j k i' j' k' : Nat} (h' : i' < 4 ∧ j' < 4 ∧ k' < 4) : ∀ c ∈ allN f i j k i' j' k', IsCut f c := by
  intro c hc
  simp only [allN, List.mem_flatMap, List.mem_map, mem_upto] at hc
  obtain ⟨a, ha, b, hb, x, hx, rfl⟩ := hc
  exact ⟨_, _, _, ⟨by omega, by omega, by omega⟩, rfl⟩
theorem edges_cut {f : Nat → Nat → Proposal} (hf : Nice f) {l : List Config} (hl : ∀ c ∈ l, IsCut f c) : edgesB l = edgesR l := by
  have hg : ∀ n, n < l.length → IsCut f (l.getD n default) := fun n hn => by
    rw [List.getD_eq_getElem?_getD, List.getElem?_eq_getElem hn]; exact hl _ (List.getElem_mem hn)
  unfold edgesB edgesR edgesN
  refine flatMap_ext fun a ha => ?_
  unfold edgeRow
  congr 1
  refine List.filter_congr fun b hb => ?_
  obtain ⟨i, j, k, h1, e1⟩ := hg a (List.mem_range.1 ha)
  obtain ⟨i', j', k', h2, e2⟩ := hg b (List.mem_range.1 hb)
  unfold adjB adjR
  rw [e1, e2, (contains_cut hf h2 h1).1, (contains_cut hf h2 h1).2]
/-- The proposals of a pool. -/
def poolF (l : List Int) (a i : Nat) : Proposal := propI l a i ((poolUpto l a).2 + 2 * i)
theorem pool_nice (l : List Int) : Nice (poolF l) := fun a i => ⟨rfl, rfl⟩
theorem pool_lite (l : List Int) (a i : Nat) : (poolF l a i).changes.length ≤ 2 := by
  simp only [poolF, propI, List.length_cons]
  split <;> simp
theorem pool_cut (l : List Int) : IsCut (poolF l) (poolI l) := ⟨cntI l 0, cntI l 1, cntI l 2, ⟨(cntI_bd l 0).2, (cntI_bd l 1).2, (cntI_bd l 2).2⟩, by
  show (([] ++ groupI l 0 3 (cntI l 0)) ++ groupI l 1 (3 + 2 * cntI l 0) (cntI l 1)) ++ groupI l 2 (3 + 2 * cntI l 0 + 2 * cntI l 1) (cntI l 2) = _
  rw [List.nil_append]; rfl⟩
theorem part_cut {f : Nat → Nat → Proposal} (hf : Nice f) {c : Config} (hc : IsCut f c) (n : Int) : IsCut f (partI c n) := by
  obtain ⟨i, j, k, h, rfl⟩ := hc
  exact ⟨_, _, _, ⟨by omega, by omega, by omega⟩, restrictR_cut hf _ i j k⟩
theorem cut_len (f : Nat → Nat → Proposal) (i j k : Nat) : (cut f i j k).length = i + j + k := by simp [cut, blk, Nat.add_assoc]
def Lite (f : Nat → Nat → Proposal) : Prop := ∀ a i, (f a i).changes.length ≤ 2
theorem IsCut.small {f : Nat → Nat → Proposal} (hf : Lite f) {c : Config} (hc : IsCut f c) : c.length ≤ 9 ∧ Small c := by
  obtain ⟨i, j, k, h, rfl⟩ := hc
  refine ⟨by rw [cut_len]; omega, by rw [cut_len]; omega, fun p hp => ?_⟩
  simp only [cut, blk, List.mem_append, List.mem_map] at hp
  rcases hp with (⟨n, _, rfl⟩ | ⟨n, _, rfl⟩) | ⟨n, _, rfl⟩ <;> exact Nat.le_trans (hf _ _) zd
theorem fine_fin : ∀ i j k : Fin 4, Fine (vecC i j k) := by unfold Fine; decide +kernel
theorem IsCut.fine {f : Nat → Nat → Proposal} (hf : Nice f) {c : Config} (hc : IsCut f c) : Fine (vectorV c) := by
  obtain ⟨i, j, k, h, rfl⟩ := hc
  rw [(vec_cut hf h).1]
  exact fine_fin ⟨i, h.1⟩ ⟨j, h.2.1⟩ ⟨k, h.2.2⟩
theorem count_vecC (i j k : Nat) (h : i < 4 ∧ j < 4 ∧ k < 4) (t : Int) : countR (vecC i j k) t ≤ 3 := by
  unfold vecC
  split <;> split <;> split <;> simp only [List.nil_append, List.cons_append, countR] <;> (repeat' split) <;> omega
theorem IsCut.cnt {f : Nat → Nat → Proposal} (hf : Nice f) {c : Config} (hc : IsCut f c) (t : Int) : cntR c t ≤ 3 := by
  obtain ⟨i, j, k, h, rfl⟩ := hc
  unfold cntR
  rw [(vec_cut hf h).2]
  exact count_vecC i j k h t
theorem flatMap_len_le {α β : Type} {l : List α} {g : α → List β} {n : Nat} (h : ∀ x ∈ l, (g x).length ≤ n) : (l.flatMap g).length ≤ l.length * n := by
  induction l with
  | nil => simp
  | cons x l ih =>
    rw [List.flatMap_cons, List.length_append, List.length_cons, Nat.add_mul]
    have := h x (by simp)
    have := ih fun y hy => h y (by simp [hy])
    omega
theorem allN_len (f : Nat → Nat → Proposal) {i j k i' j' k' : Nat} (h' : i' < 4 ∧ j' < 4 ∧ k' < 4) : (allN f i j k i' j' k').length ≤ 64 := by
  refine Nat.le_trans (flatMap_len_le (n := 16) fun a ha => ?_) ?_
  · refine Nat.le_trans (flatMap_len_le (n := 4) fun b hb => ?_) ?_
    · rw [List.length_map, upto_len]; omega
    · rw [upto_len]; omega
  · rw [upto_len]; omega
/-- What both sides make of an interval. -/
theorem all_is {f : Nat → Nat → Proposal} (hf : Nice f) (hl : Lite f) {a b : Config} (ha : IsCut f a) (hb : IsCut f b) : allB a b = allR a b ∧ (∀ c ∈ allR a b, IsCut f c) ∧ Few (allR a b) := by
  obtain ⟨i, j, k, h, rfl⟩ := ha
  obtain ⟨i', j', k', h', rfl⟩ := hb
  rw [allB_cut hf h h', allR_cut hf h h']
  split
  · have hc := allN_cut f (i := i) (j := j) (k := k) h'
    exact ⟨rfl, hc, Nat.le_trans (allN_len f h') zd, fun c hm => ((hc c hm).small hl).2.1⟩
  · exact ⟨rfl, by simp, by simp [Few]⟩
end Go.Proofs
