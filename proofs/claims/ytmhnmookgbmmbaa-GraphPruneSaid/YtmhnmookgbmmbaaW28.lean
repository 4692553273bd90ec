/- The law GraphPrune. -/
import Derived.Test.YtmhnmookgbmmbaaW27
set_option linter.unusedVariables false
set_option linter.unusedSimpArgs false
set_option maxRecDepth 8000
set_option maxHeartbeats 4000000
set_option pp.deepTerms false
set_option pp.deepTerms.threshold 6
namespace Go.Proofs
open Go.AM
theorem filter_or_len {α : Type} (p q : α → Bool) (l : List α) : (l.filter fun x => p x || q x).length + ((l.filter p).filter q).length = (l.filter p).length + (l.filter q).length := by
  induction l with
  | nil => rfl
  | cons x l ih =>
    cases hp : p x <;> cases hq : q x <;> simp [List.filter_cons, hp, hq, -List.filter_filter] <;> omega
theorem upto_self (a : Int) : upto a a = [a] := by
  unfold upto
  rw [show (a + 1 - a).toNat = 1 by omega]
  simp
theorem below_cut {f : Nat → Nat → Proposal} (hf : Nice f) {i j k i' j' k' m0 m1 m2 : Nat} (h : i ≤ m0 ∧ j ≤ m1 ∧ k ≤ m2) (h1 : m0 ≤ i' ∧ m1 ≤ j' ∧ m2 ≤ k') (h' : i' < 4 ∧ j' < 4 ∧ k' < 4) :
    (allN f i j k i' j' k').filter (fun c => containsR (cut f m0 m1 m2) c) = allN f i j k m0 m1 m2 := by
  rw [filter_allN (fun a => decide (a ≤ (m0 : Int))) (fun a => decide (a ≤ (m1 : Int))) (fun a => decide (a ≤ (m2 : Int))), upto_below zo zo, upto_below zo zo, upto_below zo zo]
  · rfl
  · intro a b c ha hb hc
    rw [(contains_cut hf zo zo).2, ← Bool.decide_and, ← Bool.decide_and]
    exact decide_eq_decide.2 zo
theorem allN_one (f : Nat → Nat → Proposal) (i j k : Nat) : (allN f i j k i j k).length = 1 := by
  simp [allN, upto_self]
theorem prune_len {f : Nat → Nat → Proposal} (hf : Nice f) {i j k i' j' k' m0 m1 m2 : Nat} (h : i ≤ m0 ∧ j ≤ m1 ∧ k ≤ m2) (h1 : m0 ≤ i' ∧ m1 ≤ j' ∧ m2 ≤ k') (h' : i' < 4 ∧ j' < 4 ∧ k' < 4) :
    (pruneR (allR (cut f i j k) (cut f i' j' k')) (cut f m0 m1 m2)).length + 1 = (allR (cut f i j k) (cut f m0 m1 m2)).length + (allR (cut f m0 m1 m2) (cut f i' j' k')).length := by
  rw [allR_cut hf zo zo, allR_cut hf zo zo, allR_cut hf zo zo, if_pos zo, if_pos zo, if_pos zo]
  have e := filter_or_len (fun c => containsR c (cut f m0 m1 m2)) (fun c => containsR (cut f m0 m1 m2) c) (allN f i j k i' j' k')
  have e1 : (allN f i j k i' j' k').filter (fun c => containsR c (cut f m0 m1 m2)) = allN f m0 m1 m2 i' j' k' := by
    rw [← contract_cut hf h h1 h', contract_BR hf ⟨allN_cut f h', allN_len f h'⟩ ⟨_, _, _, by omega, rfl⟩]; rfl
  rw [e1, below_cut hf h h1 h', below_cut hf zo h1 h', allN_one] at e
  unfold pruneR
  omega
theorem law_GraphPrune (f : Bool) (l : List Int) (x y z : Int) (hl : l.length ≤ 4611686018427387904) : AM.Fn Try.prog 5 [.sl f (l.map .i), .i x, .i y, .i z] (.b true) := by
  have hf := pool_nice l
  have hli : Lite (poolF l) := pool_lite l
  have hP := kit_Pool f l hl
  obtain ⟨p0, p1, p2, hp, ep⟩ := pool_cut l
  rw [ep] at hP
  generalize poolF l = g at hf hli hP
  have iP : IsCut g (cut g p0 p1 p2) := ⟨_, _, _, hp, rfl⟩
  obtain ⟨t0, t1, t2, ht, et⟩ := part_le hf p0 p1 p2 y
  obtain ⟨s0, s1, s2, hs, es⟩ := part_le hf t0 t1 t2 x
  obtain ⟨b0, b1, b2, hb, eb⟩ := part_le hf p0 p1 p2 z
  have hT := fn_Part hli iP y
  have hB := fn_Part hli iP z
  rw [et] at hT
  rw [eb] at hB
  have iT : IsCut g (cut g t0 t1 t2) := ⟨_, _, _, by omega, rfl⟩
  have hS := fn_Part hli iT x
  rw [es] at hS
  have iS : IsCut g (cut g s0 s1 s2) := ⟨_, _, _, by omega, rfl⟩
  have iB : IsCut g (cut g b0 b1 b2) := ⟨_, _, _, by omega, rfl⟩
  have hMe := ref_Meet false false (cut g b0 b1 b2) (cut g t0 t1 t2) (by rw [cut_len]; omega)
  rw [meetR_cut hf zo zo] at hMe
  have hUn := ref_Union false false (cut g s0 s1 s2) (cut g (min b0 t0) (min b1 t1) (min b2 t2)) (by rw [cut_len]; omega) (by rw [cut_len]; omega)
  rw [unionR_cut hf zo zo] at hUn
  have iM : IsCut g (cut g (max s0 (min b0 t0)) (max s1 (min b1 t1)) (max s2 (min b2 t2))) := ⟨_, _, _, by omega, rfl⟩
  have cA := all_cuts hf iS iT
  have hBu := fn_Build hf hli iS iT
  have hCo := fn_Prune hf hli (e := edgesR (allR (cut g s0 s1 s2) (cut g t0 t1 t2))) cA iB
  have hAl := fn_All hf hli iS iT
  have hCN := ref_PruneNodes false false (allR (cut g s0 s1 s2) (cut g t0 t1 t2)) (cut g b0 b1 b2) (Nat.le_trans cA.2 zd)
  have cC : Cuts g (pruneR (allR (cut g s0 s1 s2) (cut g t0 t1 t2)) (cut g b0 b1 b2)) := cA.filter _
  have hIs := law_is false _ (cC.few hli)
  have hCm := fn_Prune hf hli (e := edgesR (allR (cut g s0 s1 s2) (cut g t0 t1 t2))) cA iM
  have hA1 := fn_All hf hli iS iM
  have hA2 := fn_All hf hli iM iT
  have c1 := (all_cuts hf iS iM).2
  have c2 := (all_cuts hf iM iT).2
  have hlen := prune_len hf (i := s0) (j := s1) (k := s2) (i' := t0) (j' := t1) (k' := t2) (m0 := max s0 (min b0 t0)) (m1 := max s1 (min b1 t1)) (m2 := max s2 (min b2 t2)) zo zo zo
  clear cC cA
  generalize pruneR (allR (cut g s0 s1 s2) (cut g t0 t1 t2)) (cut g b0 b1 b2) = nC at *
  generalize pruneR (allR (cut g s0 s1 s2) (cut g t0 t1 t2)) (cut g (max s0 (min b0 t0)) (max s1 (min b1 t1)) (max s2 (min b2 t2))) = nP at *
  generalize allR (cut g s0 s1 s2) (cut g t0 t1 t2) = nA at *
  generalize allR (cut g s0 s1 s2) (cut g (max s0 (min b0 t0)) (max s1 (min b1 t1)) (max s2 (min b2 t2))) = n1 at *
  generalize allR (cut g (max s0 (min b0 t0)) (max s1 (min b1 t1)) (max s2 (min b2 t2))) (cut g t0 t1 t2) = n2 at *
  generalize cut g (max s0 (min b0 t0)) (max s1 (min b1 t1)) (max s2 (min b2 t2)) = M at *
  generalize cut g (min b0 t0) (min b1 t1) (min b2 t2) = mB at *
  generalize cut g p0 p1 p2 = P at *
  generalize cut g t0 t1 t2 = T at *
  generalize cut g s0 s1 s2 = S at *
  generalize cut g b0 b1 b2 = B at *
  generalize (⟨nA, edgesR nA⟩ : Graph) = gA at *
  generalize (⟨nC, edgesR nC⟩ : Graph) = gC at *
  generalize hgP : (⟨nP, edgesR nP⟩ : Graph) = gP at *
  have hnP : gP.nodes = nP := by rw [← hgP]
  rw [← hnP] at hlen
  clear hgP hnP
  (refine spec_of_runs Try.func5 rfl ?_; simp only [Try.f5]; refine ys ?_)
  repeat' (first | refine yw ?_ | refine Runs.region ?_ | refine Runs.drawn mixed zK ?_ | refine yr ?_ | refine yd ?_ | (refine r_fn rfl (hP) HbF.h zL1 zD ?_; refine r_nn zN zH ?_) | (refine r_fn rfl (hT) HbF.h zL2 zD ?_; refine r_nn zN zH ?_) | (refine r_fn rfl (hS) HbF.h zL2 zD ?_; refine r_nn zN zH ?_) | (refine r_fn rfl (hB) HbF.h zL2 zD ?_; refine r_nn zN zH ?_) | (refine r_fn rfl (hBu) HbF.h zL2 zD ?_; refine r_nn zN zH ?_) | (refine r_fn rfl (hCo) HbF.h zL2 zD ?_; refine r_nn zN zH ?_) | (refine r_fn rfl (hCm) HbF.h zL2 zD ?_; refine r_nn zN zH ?_) | (refine r_fn rfl (hAl) HbF.h zL2 zD ?_; refine r_nn zN zH ?_) | (refine r_fn rfl (hA1) HbF.h zL2 zD ?_; refine r_nn zN zH ?_) | (refine r_fn rfl (hA2) HbF.h zL2 zD ?_; refine r_nn zN zH ?_) | (refine r_fn rfl (hCN) HbF.h zL2 zD ?_; refine r_nn zN zH ?_) | (refine r_fn rfl (hIs) HbF.h zL2 zD ?_; refine r_nn zN zH ?_) | (refine r_fn rfl (hMe) HbF.h zL2 zD ?_; refine r_nn zN zH ?_) | (refine r_fn rfl (hUn) HbF.h zL2 zD ?_; refine r_nn zN zH ?_) | (refine d_fn rfl (hAl) HbF.h zL2 zD ?_; refine d_nn zN zH ?_) | (refine d_fn rfl (hA1) HbF.h zL2 zD ?_; refine d_nn zN zH ?_) | (refine d_fn rfl (hA2) HbF.h zL2 zD ?_; refine d_nn zN zH ?_) | (refine d_fn rfl (law_awake) HbF.h zL0 zD ?_; refine d_nn zN zH ?_) | ((first | refine d_guardPt rfl rfl ?_ ?_ | refine d_guardNt rfl rfl ?_ ?_ | refine d_guard rfl rfl ?_ ?_) <;> intro hG <;> (try (exfalso; omega; done)) <;> refine d_nn zN zH ?_) | (refine Runs.cond rfl (zc ?_) (zc ?_) <;> intro hc <;> (try (first | contradiction | (exfalso; omega; done) | (have : hc = trivial := rfl; clear this; clear hc)))))
  (refine Runs.ret1 Try.func5 rfl zM zD ?_; try exact zX)
end Go.Proofs
