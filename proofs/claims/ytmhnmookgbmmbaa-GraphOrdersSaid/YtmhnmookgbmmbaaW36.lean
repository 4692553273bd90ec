/- The law GraphPaths. -/
import Derived.Test.YtmhnmookgbmmbaaW35
set_option linter.unusedVariables false
set_option linter.unusedSimpArgs false
set_option maxRecDepth 8000
set_option maxHeartbeats 4000000
set_option pp.deepTerms false
set_option pp.deepTerms.threshold 6
namespace Go.Proofs
open Go.AM
theorem edgesR_len {f : Nat → Nat → Proposal} {ns : List Config} (h : Cuts f ns) : (edgesR ns).length ≤ 4096 := by
  refine Nat.le_trans (edgesN_len _ _ _) ?_
  exact Nat.le_trans (Nat.mul_le_mul h.2 h.2) zd
theorem law_GraphPaths (f : Bool) (l : List Int) (x y z u v : Int) (hl : l.length ≤ 4611686018427387904) : AM.Fn Try.prog 7 [.sl f (l.map .i), .i x, .i y, .i z, .i u, .i v] (.b true) := by
  have hf := pool_nice l
  have hli : Lite (poolF l) := pool_lite l
  have hP := kit_Pool f l hl
  have iP := pool_cut l
  generalize poolI l = P at *
  generalize poolF l = g at *
  have iX := part_cut hf iP x
  have iY := part_cut hf iP y
  have iZ := part_cut hf iP z
  have hX := fn_Part hli iP x
  have hY := fn_Part hli iP y
  have hZ := fn_Part hli iP z
  generalize partI P x = X at *
  generalize partI P y = Y at *
  generalize partI P z = Z at *
  have cA := all_cuts hf iX iY
  have uA := allR_up hf iX iY
  have hB := fn_Build hf hli iX iY
  have hAl := fn_All hf hli iX iY
  generalize allR X Y = nA at *
  have hPN := ref_PruneNodes false false nA Z (Nat.le_trans cA.2 zd)
  generalize edgesR nA = eA at *
  have hPr := fn_Prune hf hli (e := eA) cA iZ
  have cP : Cuts g (pruneR nA Z) := cA.filter _
  have uP : Up (pruneR nA Z) := List.Pairwise.filter _ uA
  generalize pruneR nA Z = nP at *
  have hIs := law_is false nP (cP.few hli)
  have hE := ref_Edges false nP (cP.few hli).1 (cP.few hli).2
  have eL := edgesR_len cP
  have nL := cP.2
  have hPs := fun a b => graph_Paths ⟨nP, edgesR nP⟩ a b (Nat.le_trans eL zd) (Nat.le_trans nL zd)
  have hPh := fun a b => graph_Path ⟨nP, edgesR nP⟩ a b (Nat.le_trans eL zd) (Nat.le_trans nL zd)
  have hRs := fun a b => ref_Paths false false nP (edgesR nP) a b (Nat.le_trans nL zd) (cP.few hli) (Nat.le_trans eL zd) (edge_in nP)
  have hRh := fun a b => ref_Path false false nP (edgesR nP) a b (Nat.le_trans nL zd) (cP.few hli) (Nat.le_trans eL zd) (edge_in nP)
  have hsame := fun a b => paths_cuts hli cP uP a b
  have e1 := fun a b => (hsame a b).1
  have e2 := fun a b => (hsame a b).2
  simp only [e1] at hPs
  simp only [e2] at hPh
  have hQ := fun a b => ref_EqualInts false false (pathR nP (edgesR nP) a b) (pathR nP (edgesR nP) a b)
  clear hsame e1 e2 uP uA cP cA
  generalize edgesR nP = eP at *
  generalize (⟨nP, eP⟩ : Graph) = G at *
  generalize pathsR nP eP = PS at *
  generalize pathR nP eP = PH at *
  (refine spec_of_runs Try.func7 rfl ?_; simp only [Try.f7]; refine ys ?_)
  repeat' (first | refine yw ?_ | refine Runs.region (id := 0) ?_ | refine Runs.region (id := 1) ?_ | refine Runs.region (id := 2) ?_ | refine Runs.region (id := 3) ?_ | refine Runs.region (id := 4) ?_ | refine Runs.region (id := 5) ?_ | refine Runs.region (id := 6) ?_ | refine yr ?_ | (refine r_fn rfl (hP) HbF.h zL1 zD ?_; refine r_nn zN zH ?_) | (refine r_fn rfl (hX) HbF.h zL2 zD ?_; refine r_nn zN zH ?_) | (refine r_fn rfl (hY) HbF.h zL2 zD ?_; refine r_nn zN zH ?_) | (refine r_fn rfl (hZ) HbF.h zL2 zD ?_; refine r_nn zN zH ?_) | (refine r_fn rfl (hAl) HbF.h zL2 zD ?_; refine r_nn zN zH ?_) | (refine r_fn rfl (hPN) HbF.h zL2 zD ?_; refine r_nn zN zH ?_) | (refine r_fn rfl (hB) HbF.h zL2 zD ?_; refine r_nn zN zH ?_) | (refine r_fn rfl (hPr) HbF.h zL2 zD ?_; refine r_nn zN zH ?_) | (refine r_fn rfl (hIs) HbF.h zL2 zD ?_; refine r_nn zN zH ?_) | (refine Runs.cond rfl (zc ?_) (zc ?_) <;> intro hc <;> (try (first | contradiction | (exfalso; omega; done) | (have : hc = trivial := rfl; clear this; clear hc)))))
  refine Runs.loopI (α := Nat × Int × Int) (fun s => 2 - s.1) (fun s => s.1 ≤ 2)
    (fun s => ⟨[.any, .any, .any, .any, .i s.2.1, .i s.2.2, .any, .any, .any, .any, .any, .any, .any, .any, .sl false (nP.map cfV), .ptr 15 0 0, .i (s.1 : Nat), .any, .any, .any, .any, .any, .any, .any, .any, .any, .any, .any, .any, .any, .any, .any, .any, .any, .any, .any, .any, .any, .any, .any, .any, .any, .any, .any, .any, .any, .any, .any, .any, .any, .any, .any, .any, .any, .any, .any, .any, .any, .any, .any, .any, .any, .any, .any, .any, .any, .any, .any, .any, .any, .any, .any, .any, .any, .any, .any, .any, .any, .any, .any, .any, .any, .any], [(15, .var 31 (grV G))]⟩) (0, u, v) (by simp) ?_ ?_
  · (refine St.Le.clean zR zU zV)
  rintro ⟨i, a, b⟩ h0 ih
  dsimp only at h0 ih ⊢
  have hPs1 := hPs a b
  have hPh1 := hPh a b
  have hRs1 := hRs a b
  have hRh1 := hRh a b
  have hQ1 := hQ a b
  have hI1 := kit_Index a nP.length zo
  have hI2 := kit_Index b nP.length zo
  clear hPs hPh hRs hRh hQ
  generalize PS a b = p1 at *
  generalize PH a b = p2 at *
  repeat' (first | refine yw ?_ | refine Runs.region (id := 7) ?_ | refine Runs.region (id := 9) ?_ | refine Runs.region (id := 10) ?_ | refine Runs.region (id := 11) ?_ | refine Runs.region (id := 8) ?_ | refine Runs.region (id := 12) ?_ | refine yr ?_ | (refine r_fn rfl (hPs1) HbF.h zL3 zD ?_; refine r_nn zN zH ?_) | (refine r_fn rfl (hE) HbF.h zL1 zD ?_; refine r_nn zN zH ?_) | (refine r_fn rfl (hRs1) HbF.h zL4 zD ?_; refine r_nn zN zH ?_) | (refine r_fn rfl (hPh1) HbF.h zL3 zD ?_; refine r_nn zN zH ?_) | (refine r_fn rfl (hRh1) HbF.h zL4 zD ?_; refine r_nn zN zH ?_) | (refine r_fn rfl (hQ1) HbF.h zL2 zD ?_; refine r_nn zN zH ?_) | (refine r_fn rfl (hI1) HbF.h zL2 zD ?_; refine r_nn zN zH ?_) | (refine r_fn rfl (hI2) HbF.h zL2 zD ?_; refine r_nn zN zH ?_) | (refine r_fn rfl (law_awake) HbF.h zL0 zD ?_; refine r_nn zN zH ?_) | ((first | refine r_guardPf rfl rfl ?_ ?_ | refine r_guardNf rfl rfl ?_ ?_ | refine r_guard rfl rfl ?_ ?_) <;> intro hG <;> (try (exfalso; omega; done)) <;> refine r_nn zN zH ?_) | (refine Runs.cond rfl (zc ?_) (zc ?_) <;> intro hc <;> (try (first | contradiction | (exfalso; omega; done) | (have : hc = trivial := rfl; clear this; clear hc)))))
  · refine ih (i + 1, indexI a nP.length, indexI b nP.length) _ (by dsimp only; omega) (by dsimp only; omega) ?_
    (refine St.Le.clean zR zU zV)
  · (refine Runs.ret1 Try.func7 rfl zM zD ?_; try exact zX)
end Go.Proofs
