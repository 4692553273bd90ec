/- Law 10: GraphBuild. -/
import Derived.Test.YtmhnmookgbmmbaaW22
set_option linter.unusedVariables false
set_option linter.unusedSimpArgs false
set_option maxRecDepth 8000
set_option maxHeartbeats 4000000
set_option pp.deepTerms false
set_option pp.deepTerms.threshold 6
namespace Go.Proofs
open Go.AM
/-- The proposals of a pool. -/
def poolF (l : List Int) (a i : Nat) : Proposal := propI l a i ((poolUpto l a).2 + 2 * i)
theorem pool_nice (l : List Int) : Nice (poolF l) := fun a i => ⟨rfl, rfl⟩
theorem pool_lite (l : List Int) (a i : Nat) : (poolF l a i).changes.length ≤ 2 := by
  simp only [poolF, propI, List.length_cons]
  split <;> simp
theorem pool_cut (l : List Int) : IsCut (poolF l) (poolI l) := ⟨cntI l 0, cntI l 1, cntI l 2, ⟨(cntI_bd l 0).2, (cntI_bd l 1).2, (cntI_bd l 2).2⟩, by
  show (([] ++ groupI l 0 3 (cntI l 0)) ++ groupI l 1 (3 + 2 * cntI l 0) (cntI l 1)) ++ groupI l 2 (3 + 2 * cntI l 0 + 2 * cntI l 1) (cntI l 2) = _
  rw [List.nil_append]; rfl⟩
theorem part_cut {f : Nat → Nat → Proposal} (hf : Nice f) {c : Config} (hc : IsCut f c) (n : Int) : IsCut f (partI c n) := by
  obtain ⟨i, j, k, h, rfl⟩ := hc
  exact ⟨_, _, _, ⟨by omega, by omega, by omega⟩, restrictR_cut hf _ i j k⟩
theorem cut_len (f : Nat → Nat → Proposal) (i j k : Nat) : (cut f i j k).length = i + j + k := by simp [cut, blk, Nat.add_assoc]
def Lite (f : Nat → Nat → Proposal) : Prop := ∀ a i, (f a i).changes.length ≤ 2
theorem IsCut.small {f : Nat → Nat → Proposal} (hf : Lite f) {c : Config} (hc : IsCut f c) : c.length ≤ 9 ∧ Small c := by
  obtain ⟨i, j, k, h, rfl⟩ := hc
  refine ⟨by rw [cut_len]; omega, by rw [cut_len]; omega, fun p hp => ?_⟩
  simp only [cut, blk, List.mem_append, List.mem_map] at hp
  rcases hp with (⟨n, _, rfl⟩ | ⟨n, _, rfl⟩) | ⟨n, _, rfl⟩ <;> exact Nat.le_trans (hf _ _) zd
theorem fine_fin : ∀ i j k : Fin 4, Fine (vecC i j k) := by unfold Fine; decide +kernel
theorem IsCut.fine {f : Nat → Nat → Proposal} (hf : Nice f) {c : Config} (hc : IsCut f c) : Fine (vectorV c) := by
  obtain ⟨i, j, k, h, rfl⟩ := hc
  rw [(vec_cut hf h).1]
  exact fine_fin ⟨i, h.1⟩ ⟨j, h.2.1⟩ ⟨k, h.2.2⟩
theorem count_vecC (i j k : Nat) (h : i < 4 ∧ j < 4 ∧ k < 4) (t : Int) : countR (vecC i j k) t ≤ 3 := by
  unfold vecC
  split <;> split <;> split <;> simp only [List.nil_append, List.cons_append, countR] <;> (repeat' split) <;> omega
theorem IsCut.cnt {f : Nat → Nat → Proposal} (hf : Nice f) {c : Config} (hc : IsCut f c) (t : Int) : cntR c t ≤ 3 := by
  obtain ⟨i, j, k, h, rfl⟩ := hc
  unfold cntR
  rw [(vec_cut hf h).2]
  exact count_vecC i j k h t
theorem flatMap_len_le {α β : Type} {l : List α} {g : α → List β} {n : Nat} (h : ∀ x ∈ l, (g x).length ≤ n) : (l.flatMap g).length ≤ l.length * n := by
  induction l with
  | nil => simp
  | cons x l ih =>
    rw [List.flatMap_cons, List.length_append, List.length_cons, Nat.add_mul]
    have := h x (by simp)
    have := ih fun y hy => h y (by simp [hy])
    omega
theorem allN_len (f : Nat → Nat → Proposal) {i j k i' j' k' : Nat} (h' : i' < 4 ∧ j' < 4 ∧ k' < 4) : (allN f i j k i' j' k').length ≤ 64 := by
  refine Nat.le_trans (flatMap_len_le (n := 16) fun a ha => ?_) ?_
  · refine Nat.le_trans (flatMap_len_le (n := 4) fun b hb => ?_) ?_
    · rw [List.length_map, upto_len]; omega
    · rw [upto_len]; omega
  · rw [upto_len]; omega
/-- What both sides make of an interval. -/
theorem all_is {f : Nat → Nat → Proposal} (hf : Nice f) (hl : Lite f) {a b : Config} (ha : IsCut f a) (hb : IsCut f b) : allB a b = allR a b ∧ (∀ c ∈ allR a b, IsCut f c) ∧ Few (allR a b) := by
  obtain ⟨i, j, k, h, rfl⟩ := ha
  obtain ⟨i', j', k', h', rfl⟩ := hb
  rw [allB_cut hf h h', allR_cut hf h h']
  split
  · have hc := allN_cut f (i := i) (j := j) (k := k) h'
    exact ⟨rfl, hc, Nat.le_trans (allN_len f h') zd, fun c hm => ((hc c hm).small hl).2.1⟩
  · exact ⟨rfl, by simp, by simp [Few]⟩
theorem law_GraphBuild (f : Bool) (l : List Int) (x y : Int) (hl : l.length ≤ 4611686018427387904) : AM.Fn Try.prog 3 [.sl f (l.map .i), .i x, .i y] (.b true) := by
  have hf := pool_nice l
  have hli : Lite (poolF l) := pool_lite l
  have hc := pool_cut l
  have ha := part_cut hf hc x
  have hb := part_cut hf hc y
  have hn := all_is hf hli ha hb
  have hB := graph_Build false false _ _ (Nat.le_trans (ha.small hli).1 zd) (hb.small hli).2 (Nat.le_trans (hb.small hli).1 zd) (hb.fine hf) (by rw [hn.1]; exact hn.2.2)
  have hR := ref_All false false _ _ (Nat.le_trans (ha.small hli).1 zd) (Nat.le_trans (hb.small hli).1 zd) (fun t => hb.cnt hf t)
  have hI := law_is false _ hn.2.2
  rw [hn.1, ofB, edges_cut hf hn.2.1] at hB
  have hlen : (poolI l).length ≤ 1000000000 := Nat.le_trans (hc.small hli).1 zd
  have hP := kit_Pool f l hl
  have hX := kit_Part false _ x hlen
  have hY := kit_Part false _ y hlen
  clear hn ha hb hlen
  generalize poolI l = p at *
  generalize partI p x = a at *
  generalize partI p y = b at *
  generalize allR a b = ns at *
  generalize (⟨ns, edgesR ns⟩ : Graph) = g at *
  clear hc
  (refine spec_of_runs Try.func3 rfl ?_; simp only [Try.f3]; refine ys ?_)
  repeat' (first | refine yw ?_ | refine Runs.region ?_ | refine yr ?_ | (refine r_fn rfl (hP) HbF.h zL1 zD ?_; refine r_nn zN zH ?_) | (refine r_fn rfl (hX) HbF.h zL2 zD ?_; refine r_nn zN zH ?_) | (refine r_fn rfl (hY) HbF.h zL2 zD ?_; refine r_nn zN zH ?_) | (refine r_fn rfl (hB) HbF.h zL2 zD ?_; refine r_nn zN zH ?_) | (refine r_fn rfl (hR) HbF.h zL2 zD ?_; refine r_nn zN zH ?_) | (refine r_fn rfl (hI) HbF.h zL2 zD ?_; refine r_nn zN zH ?_) | (refine r_fn rfl (law_awake) HbF.h zL0 zD ?_; refine r_nn zN zH ?_) | ((first | refine r_guardPt rfl rfl ?_ ?_ | refine r_guardNt rfl rfl ?_ ?_ | refine r_guard rfl rfl ?_ ?_) <;> intro hG <;> (try (exfalso; omega; done)) <;> refine r_nn zN zH ?_) | (refine Runs.cond rfl (zc ?_) (zc ?_) <;> intro hc <;> (try (first | contradiction | (exfalso; omega; done) | (have : hc = trivial := rfl; clear this; clear hc)))))
  (refine Runs.ret1 Try.func3 rfl zM zD ?_; try exact zX)
end Go.Proofs
