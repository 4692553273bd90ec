/- Contracts at cuts; the law GraphContract and GraphPrune. -/
import Derived.Test.YtmhnmookgbmmbaaW26
set_option linter.unusedVariables false
set_option linter.unusedSimpArgs false
set_option maxRecDepth 8000
set_option maxHeartbeats 4000000
set_option pp.deepTerms false
set_option pp.deepTerms.threshold 6
namespace Go.Proofs
open Go.AM
/-- At most 64 nodes, each a cut. -/
def Cuts (f : Nat → Nat → Proposal) (ns : List Config) : Prop := (∀ c ∈ ns, IsCut f c) ∧ ns.length ≤ 64
theorem Cuts.few {f : Nat → Nat → Proposal} (hli : Lite f) {ns : List Config} (h : Cuts f ns) : Few ns := ⟨Nat.le_trans h.2 zd, fun c hc => ((h.1 c hc).small hli).2.1⟩
theorem Cuts.filter {f : Nat → Nat → Proposal} {ns : List Config} (h : Cuts f ns) (p : Config → Bool) : Cuts f (ns.filter p) :=
  ⟨fun c hc => h.1 c (List.mem_filter.1 hc).1, Nat.le_trans (List.length_filter_le _ _) h.2⟩
theorem contains_BR {f : Nat → Nat → Proposal} (hf : Nice f) {a b : Config} (ha : IsCut f a) (hb : IsCut f b) : containsB a b = containsR a b := by
  obtain ⟨i, j, k, h, rfl⟩ := ha
  obtain ⟨i', j', k', h', rfl⟩ := hb
  rw [(contains_cut hf h h').1, (contains_cut hf h h').2]
theorem contract_BR {f : Nat → Nat → Proposal} (hf : Nice f) {ns : List Config} (h : Cuts f ns) {b : Config} (hb : IsCut f b) : contractB ns b = contractR ns b :=
  List.filter_congr fun c hc => contains_BR hf (h.1 c hc) hb
theorem prune_BR {f : Nat → Nat → Proposal} (hf : Nice f) {ns : List Config} (h : Cuts f ns) {b : Config} (hb : IsCut f b) : pruneB ns b = pruneR ns b :=
  List.filter_congr fun c hc => by rw [contains_BR hf (h.1 c hc) hb, contains_BR hf hb (h.1 c hc)]
theorem of_cuts {f : Nat → Nat → Proposal} (hf : Nice f) {ns : List Config} (h : Cuts f ns) : ofB ns = ⟨ns, edgesR ns⟩ := by rw [ofB, edges_cut hf h.1]
theorem all_cuts {f : Nat → Nat → Proposal} (hf : Nice f) {a b : Config} (ha : IsCut f a) (hb : IsCut f b) : Cuts f (allR a b) := by
  obtain ⟨i, j, k, h, rfl⟩ := ha
  obtain ⟨i', j', k', h', rfl⟩ := hb
  rw [allR_cut hf h h']
  split
  · exact ⟨allN_cut f h', allN_len f h'⟩
  · exact ⟨by simp, by simp⟩
section
variable {f : Nat → Nat → Proposal} (hf : Nice f) (hli : Lite f)
include hf hli
theorem fn_Build {a b : Config} (ha : IsCut f a) (hb : IsCut f b) : AM.Fn Try.prog 14 [.sl false (a.map prV), .sl false (b.map prV)] (grV ⟨allR a b, edgesR (allR a b)⟩) := by
  have hn := all_is hf hli ha hb
  have h := graph_Build false false a b (Nat.le_trans (ha.small hli).1 zd) (hb.small hli).2 (Nat.le_trans (hb.small hli).1 zd) (hb.fine hf) (by rw [hn.1]; exact hn.2.2)
  rw [hn.1, of_cuts hf (all_cuts hf ha hb)] at h
  exact h
theorem fn_All {a b : Config} (ha : IsCut f a) (hb : IsCut f b) : AM.Fn Try.prog 15 [.sl false (a.map prV), .sl false (b.map prV)] (.sl false ((allR a b).map cfV)) :=
  ref_All false false _ _ (Nat.le_trans (ha.small hli).1 zd) (Nat.le_trans (hb.small hli).1 zd) (fun t => hb.cnt hf t)
theorem fn_Contract {ns : List Config} {e : List (Int × Int)} (h : Cuts f ns) {b : Config} (hb : IsCut f b) : AM.Fn Try.prog 17 [grV ⟨ns, e⟩, .sl false (b.map prV)] (grV ⟨contractR ns b, edgesR (contractR ns b)⟩) := by
  have k := graph_Contract false ⟨ns, e⟩ b (fun c hc => ((h.1 c hc).small hli).2) (h.few hli)
  rw [contract_BR hf h hb, of_cuts hf (ns := contractR ns b) (h.filter _)] at k
  exact k
theorem fn_Prune {ns : List Config} {e : List (Int × Int)} (h : Cuts f ns) {b : Config} (hb : IsCut f b) : AM.Fn Try.prog 22 [grV ⟨ns, e⟩, .sl false (b.map prV)] (grV ⟨pruneR ns b, edgesR (pruneR ns b)⟩) := by
  have k := graph_Prune false ⟨ns, e⟩ b (fun c hc => ((h.1 c hc).small hli).2) (h.few hli)
  rw [prune_BR hf h hb, of_cuts hf (ns := pruneR ns b) (h.filter _)] at k
  exact k
end
theorem part_le {f : Nat → Nat → Proposal} (hf : Nice f) (i j k : Nat) (n : Int) : ∃ i' j' k', (i' ≤ i ∧ j' ≤ j ∧ k' ≤ k) ∧ partI (cut f i j k) n = cut f i' j' k' :=
  ⟨_, _, _, ⟨Nat.min_le_left _ _, Nat.min_le_left _ _, Nat.min_le_left _ _⟩, restrictR_cut hf _ i j k⟩
theorem fn_Part {f : Nat → Nat → Proposal} (hli : Lite f) {c : Config} (hc : IsCut f c) (n : Int) : AM.Fn Try.prog 12 [.sl false (c.map prV), .i n] (.sl false ((partI c n).map prV)) :=
  kit_Part false c n (Nat.le_trans (hc.small hli).1 zd)
theorem eq_self {f : Nat → Nat → Proposal} (hf : Nice f) {ns : List Config} (h : Cuts f ns) : ∀ c ∈ ns, containsB c c = true := fun c hc => by
  obtain ⟨i, j, k, h1, rfl⟩ := h.1 c hc
  rw [(contains_cut hf h1 h1).1]; simp
theorem law_GraphContract (f : Bool) (l : List Int) (x y z : Int) (hl : l.length ≤ 4611686018427387904) : AM.Fn Try.prog 4 [.sl f (l.map .i), .i x, .i y, .i z] (.b true) := by
  have hf := pool_nice l
  have hli : Lite (poolF l) := pool_lite l
  have hP := kit_Pool f l hl
  obtain ⟨p0, p1, p2, hp, ep⟩ := pool_cut l
  rw [ep] at hP
  generalize poolF l = g at hf hli hP
  have iP : IsCut g (cut g p0 p1 p2) := ⟨_, _, _, hp, rfl⟩
  obtain ⟨t0, t1, t2, ht, et⟩ := part_le hf p0 p1 p2 y
  obtain ⟨s0, s1, s2, hs, es⟩ := part_le hf t0 t1 t2 x
  obtain ⟨b0, b1, b2, hb, eb⟩ := part_le hf p0 p1 p2 z
  have hT := fn_Part hli iP y
  have hB := fn_Part hli iP z
  rw [et] at hT
  rw [eb] at hB
  have iT : IsCut g (cut g t0 t1 t2) := ⟨_, _, _, by omega, rfl⟩
  have hS := fn_Part hli iT x
  rw [es] at hS
  have iS : IsCut g (cut g s0 s1 s2) := ⟨_, _, _, by omega, rfl⟩
  have iB : IsCut g (cut g b0 b1 b2) := ⟨_, _, _, by omega, rfl⟩
  have hMe := ref_Meet false false (cut g b0 b1 b2) (cut g t0 t1 t2) (by rw [cut_len]; omega)
  rw [meetR_cut hf zo zo] at hMe
  have hUn := ref_Union false false (cut g s0 s1 s2) (cut g (min b0 t0) (min b1 t1) (min b2 t2)) (by rw [cut_len]; omega) (by rw [cut_len]; omega)
  rw [unionR_cut hf zo zo] at hUn
  have iM : IsCut g (cut g (max s0 (min b0 t0)) (max s1 (min b1 t1)) (max s2 (min b2 t2))) := ⟨_, _, _, by omega, rfl⟩
  have cA := all_cuts hf iS iT
  have hBu := fn_Build hf hli iS iT
  have hCo := fn_Contract hf hli (e := edgesR (allR (cut g s0 s1 s2) (cut g t0 t1 t2))) cA iB
  have hAl := fn_All hf hli iS iT
  have hCN := ref_ContractNodes false false (allR (cut g s0 s1 s2) (cut g t0 t1 t2)) (cut g b0 b1 b2) (Nat.le_trans cA.2 zd)
  have cC : Cuts g (contractR (allR (cut g s0 s1 s2) (cut g t0 t1 t2)) (cut g b0 b1 b2)) := cA.filter _
  have hIs := law_is false _ (cC.few hli)
  have hCm := fn_Contract hf hli (e := edgesR (allR (cut g s0 s1 s2) (cut g t0 t1 t2))) cA iM
  have hBm := fn_Build hf hli iM iT
  have eM : contractR (allR (cut g s0 s1 s2) (cut g t0 t1 t2)) (cut g (max s0 (min b0 t0)) (max s1 (min b1 t1)) (max s2 (min b2 t2))) = allR (cut g (max s0 (min b0 t0)) (max s1 (min b1 t1)) (max s2 (min b2 t2))) (cut g t0 t1 t2) := by
    rw [← contract_BR hf cA iM, allR_cut hf zo zo, allR_cut hf zo zo, if_pos hs, if_pos zo]
    exact contract_cut hf zo zo zo
  rw [eM] at hCm
  have hEq := graph_Equal_refl ⟨allR (cut g (max s0 (min b0 t0)) (max s1 (min b1 t1)) (max s2 (min b2 t2))) (cut g t0 t1 t2), edgesR (allR (cut g (max s0 (min b0 t0)) (max s1 (min b1 t1)) (max s2 (min b2 t2))) (cut g t0 t1 t2))⟩ (eq_self hf (all_cuts hf iM iT))
  clear eM cC cA
  generalize contractR (allR (cut g s0 s1 s2) (cut g t0 t1 t2)) (cut g b0 b1 b2) = nC at *
  generalize allR (cut g s0 s1 s2) (cut g t0 t1 t2) = nA at *
  generalize allR (cut g (max s0 (min b0 t0)) (max s1 (min b1 t1)) (max s2 (min b2 t2))) (cut g t0 t1 t2) = nM at *
  generalize cut g (max s0 (min b0 t0)) (max s1 (min b1 t1)) (max s2 (min b2 t2)) = M at *
  generalize cut g (min b0 t0) (min b1 t1) (min b2 t2) = mB at *
  generalize cut g p0 p1 p2 = P at *
  generalize cut g t0 t1 t2 = T at *
  generalize cut g s0 s1 s2 = S at *
  generalize cut g b0 b1 b2 = B at *
  generalize (⟨nA, edgesR nA⟩ : Graph) = gA at *
  generalize (⟨nC, edgesR nC⟩ : Graph) = gC at *
  generalize (⟨nM, edgesR nM⟩ : Graph) = gM at *
  (refine spec_of_runs Try.func4 rfl ?_; simp only [Try.f4]; refine ys ?_)
  repeat' (first | refine yw ?_ | refine Runs.region ?_ | refine Runs.drawn mixed zK ?_ | refine yr ?_ | refine yd ?_ | (refine r_fn rfl (hP) HbF.h zL1 zD ?_; refine r_nn zN zH ?_) | (refine r_fn rfl (hT) HbF.h zL2 zD ?_; refine r_nn zN zH ?_) | (refine r_fn rfl (hS) HbF.h zL2 zD ?_; refine r_nn zN zH ?_) | (refine r_fn rfl (hB) HbF.h zL2 zD ?_; refine r_nn zN zH ?_) | (refine r_fn rfl (hBu) HbF.h zL2 zD ?_; refine r_nn zN zH ?_) | (refine r_fn rfl (hBm) HbF.h zL2 zD ?_; refine r_nn zN zH ?_) | (refine r_fn rfl (hCo) HbF.h zL2 zD ?_; refine r_nn zN zH ?_) | (refine r_fn rfl (hCm) HbF.h zL2 zD ?_; refine r_nn zN zH ?_) | (refine d_fn rfl (hAl) HbF.h zL2 zD ?_; refine d_nn zN zH ?_) | (refine d_fn rfl (hCN) HbF.h zL2 zD ?_; refine d_nn zN zH ?_) | (refine d_fn rfl (hIs) HbF.h zL2 zD ?_; refine d_nn zN zH ?_) | (refine r_fn rfl (hMe) HbF.h zL2 zD ?_; refine r_nn zN zH ?_) | (refine r_fn rfl (hUn) HbF.h zL2 zD ?_; refine r_nn zN zH ?_) | (refine r_fn rfl (hEq) HbF.h zL2 zD ?_; refine r_nn zN zH ?_) | (refine r_fn rfl (law_awake) HbF.h zL0 zD ?_; refine r_nn zN zH ?_) | ((first | refine r_guardPt rfl rfl ?_ ?_ | refine r_guardNt rfl rfl ?_ ?_ | refine r_guard rfl rfl ?_ ?_) <;> intro hG <;> (try (exfalso; omega; done)) <;> refine r_nn zN zH ?_) | (refine Runs.cond rfl (zc ?_) (zc ?_) <;> intro hc <;> (try (first | contradiction | (exfalso; omega; done) | (have : hc = trivial := rfl; clear this; clear hc)))))
  (refine Runs.ret1 Try.func4 rfl zM zD ?_; try exact zX)
end Go.Proofs
