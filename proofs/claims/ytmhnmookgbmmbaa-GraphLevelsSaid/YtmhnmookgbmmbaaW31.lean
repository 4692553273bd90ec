/- Plain law: the levels of a graph; the law GraphLevels. -/
import Derived.Test.YtmhnmookgbmmbaaW27
set_option linter.unusedVariables false
set_option linter.unusedSimpArgs false
set_option maxRecDepth 8000
set_option maxHeartbeats 4000000
set_option pp.deepTerms false
set_option pp.deepTerms.threshold 6
namespace Go.Proofs
open Go.AM
/-- Lists that strictly ascend and have the same members are equal. -/
theorem strict_ext : ∀ {a b : List Int}, a.Pairwise (· < ·) → b.Pairwise (· < ·) → (∀ x, x ∈ a ↔ x ∈ b) → a = b
  | [], [], _, _, _ => rfl
  | [], y :: b, _, _, h => absurd ((h y).2 (by simp)) (by simp)
  | x :: a, [], _, _, h => absurd ((h x).1 (by simp)) (by simp)
  | x :: a, y :: b, ha, hb, h => by
    rw [List.pairwise_cons] at ha hb
    have hxy : x = y := by
      rcases List.mem_cons.1 ((h x).1 (by simp)) with e | e
      · exact e
      · rcases List.mem_cons.1 ((h y).2 (by simp)) with e' | e'
        · exact e'.symm
        · have := hb.1 _ e; have := ha.1 _ e'; omega
    subst hxy
    congr 1
    refine strict_ext ha.2 hb.2 fun z => ⟨fun hz => ?_, fun hz => ?_⟩
    · rcases List.mem_cons.1 ((h z).1 (by simp [hz])) with e | e
      · have := ha.1 _ hz; omega
      · exact e
    · rcases List.mem_cons.1 ((h z).2 (by simp [hz])) with e | e
      · have := hb.1 _ hz; omega
      · exact e
theorem at_arr (zs : List Int) (j : Nat) (h : j < zs.length) : zs.toArray[j]! = zs[j] := by simp [h]
theorem compactI_strict {zs : List Int} (h : zs.Pairwise (· ≤ ·)) : (compactI zs).Pairwise (· < ·) := by
  unfold compactI Lib.compact Lib.compactUpTo
  rw [List.pairwise_map]
  refine List.Pairwise.imp_of_mem ?_ (List.Pairwise.filter _ List.pairwise_lt_range)
  intro i j hi hj hij
  rw [List.mem_filter, List.mem_range] at hi hj
  have hk := hj.2
  unfold Lib.keeps at hk
  rw [decide_eq_true_eq] at hk
  rw [List.pairwise_iff_getElem] at h
  rw [at_arr zs i hi.1, at_arr zs j hj.1]
  rw [at_arr zs j hj.1, at_arr zs (j - 1) zo] at hk
  have h1 := h (j - 1) j zo hj.1 zo
  have h2 : zs[i] ≤ zs[j - 1] := by
    by_cases e : i = j - 1
    · subst e; exact Int.le_refl _
    · exact h i (j - 1) hi.1 zo zo
  rcases hk with e | e
  · omega
  · omega
theorem mem_compactI {zs : List Int} {x : Int} : x ∈ compactI zs ↔ x ∈ zs := by
  unfold compactI Lib.compact Lib.compactUpTo
  simp only [List.mem_map, List.mem_filter, List.mem_range]
  constructor
  · rintro ⟨j, ⟨hj, _⟩, rfl⟩
    rw [at_arr zs j hj]; exact List.getElem_mem hj
  · intro hx
    obtain ⟨j, hj, e⟩ := List.mem_iff_getElem.1 hx
    induction j with
    | zero => exact ⟨0, ⟨hj, by simp [Lib.keeps]⟩, by rw [at_arr zs 0 hj, e]⟩
    | succ j ih =>
      by_cases h : zs[j]'zo = x
      · exact ih zo h
      · refine ⟨j + 1, ⟨hj, ?_⟩, by rw [at_arr zs _ hj, e]⟩
        unfold Lib.keeps
        rw [decide_eq_true_eq, at_arr zs _ hj, e, Nat.add_sub_cancel, at_arr zs j zo]
        exact .inr (fun q => h q.symm)
theorem sortI_le (zs : List Int) : (sortI zs).Pairwise (· ≤ ·) := by
  have := List.pairwise_mergeSort (le := fun a b : Int => decide (a ≤ b)) (fun a b c h1 h2 => by simp at *; omega) (fun a b => by simp; omega) zs
  exact List.Pairwise.imp (fun h => by simpa using h) this
theorem mem_sortI {zs : List Int} {x : Int} : x ∈ sortI zs ↔ x ∈ zs := List.mem_mergeSort
theorem level_pos (nodes : List Config) (n : Nat) : 0 < (levelN nodes n nodes.length).length ↔ (n : Int) ∈ sizesI nodes := by
  unfold levelN sizesI
  rw [List.length_map, List.length_pos_iff_exists_mem]
  simp only [List.mem_filter, List.mem_range, decide_eq_true_eq, List.mem_map]
  constructor
  · rintro ⟨i, hi, e⟩
    exact ⟨nodes.getD i default, by rw [List.getD_eq_getElem?_getD, List.getElem?_eq_getElem hi]; exact List.getElem_mem hi, e⟩
  · rintro ⟨c, hc, e⟩
    obtain ⟨i, hi, rfl⟩ := List.mem_iff_getElem.1 hc
    exact ⟨i, hi, by rw [List.getD_eq_getElem?_getD, List.getElem?_eq_getElem hi]; exact e⟩
theorem levels_eq {nodes : List Config} (h : ∀ c ∈ nodes, c.length ≤ 9) : levelsB nodes = levelsR nodes := by
  unfold levelsB levelsR
  rw [List.filter_map, show ((fun n : Nat => levelN nodes n nodes.length) : Nat → List Int) = (fun n : Int => levelN nodes n nodes.length) ∘ (fun n : Nat => (n : Int)) from rfl, ← List.map_map]
  congr 1
  refine strict_ext (compactI_strict (sortI_le _)) ?_ fun x => ?_
  · rw [List.pairwise_map]
    refine List.Pairwise.imp ?_ (List.Pairwise.filter _ List.pairwise_lt_range)
    intro i j hij; omega
  · rw [mem_compactI, mem_sortI, List.mem_map]
    simp only [List.mem_filter, List.mem_range, Function.comp, decide_eq_true_eq, level_pos]
    constructor
    · intro hx
      obtain ⟨c, hc, rfl⟩ := List.mem_map.1 hx
      exact ⟨c.length, ⟨by have := h c hc; omega, hx⟩, rfl⟩
    · rintro ⟨n, ⟨_, hn⟩, rfl⟩; exact hn
theorem fn_LevelsB {f : Nat → Nat → Proposal} (hli : Lite f) {ns : List Config} {e : List (Int × Int)} (h : Cuts f ns) : AM.Fn Try.prog 24 [grV ⟨ns, e⟩] (.sl false ((levelsR ns).map inV)) := by
  have := graph_Levels ⟨ns, e⟩ (h.few hli)
  rwa [levels_eq (nodes := ns) fun c hc => ((h.1 c hc).small hli).1] at this
theorem law_GraphLevels (f : Bool) (l : List Int) (x y z w : Int) (hl : l.length ≤ 4611686018427387904) : AM.Fn Try.prog 6 [.sl f (l.map .i), .i x, .i y, .i z, .i w] (.b true) := by
  have hf := pool_nice l
  have hli : Lite (poolF l) := pool_lite l
  have hP := kit_Pool f l hl
  have iP := pool_cut l
  generalize poolI l = P at *
  generalize poolF l = g at *
  have iX := part_cut hf iP x
  have iY := part_cut hf iP y
  have iZ := part_cut hf iP z
  have iW := part_cut hf iP w
  have hX := fn_Part hli iP x
  have hY := fn_Part hli iP y
  have hZ := fn_Part hli iP z
  have hW := fn_Part hli iP w
  generalize partI P x = X at *
  generalize partI P y = Y at *
  generalize partI P z = Z at *
  generalize partI P w = W at *
  have cA := all_cuts hf iX iY
  have hB := fn_Build hf hli iX iY
  generalize allR X Y = nA at *
  generalize edgesR nA = eA at *
  have hPr := fn_Prune hf hli (e := eA) cA iZ
  have cP : Cuts g (pruneR nA Z) := cA.filter _
  generalize pruneR nA Z = nP at *
  generalize edgesR nP = eP at *
  have hCo := fn_Contract hf hli (e := eP) cP iW
  have cC : Cuts g (contractR nP W) := cP.filter _
  generalize contractR nP W = nC at *
  generalize edgesR nC = eC at *
  have hLB := fn_LevelsB hli (e := eC) cC
  have hLR := ref_Levels false nC (cC.few hli)
  have hEq := fun k => ref_EqualInts false false ((levelsR nC).getD k default) ((levelsR nC).getD k default)
  generalize levelsR nC = L at *
  (refine spec_of_runs Try.func6 rfl ?_; simp only [Try.f6]; refine ys ?_)
  (refine Runs.lens 0 ?_; refine yl ?_)
  intro hl0
  repeat' (first | refine yw ?_ | refine Runs.region (id := 0) ?_ | refine Runs.region (id := 1) ?_ | refine Runs.region (id := 2) ?_ | refine Runs.drawn (id := 3) mixed zK ?_ | refine Runs.region (id := 4) ?_ | refine Runs.region (id := 5) ?_ | refine Runs.region (id := 6) ?_ | refine yr ?_ | refine yd ?_ | (refine r_fn rfl (hP) HbF.h zL1 zD ?_; refine r_nn zN zH ?_) | (refine r_fn rfl (hX) HbF.h zL2 zD ?_; refine r_nn zN zH ?_) | (refine r_fn rfl (hY) HbF.h zL2 zD ?_; refine r_nn zN zH ?_) | (refine r_fn rfl (hZ) HbF.h zL2 zD ?_; refine r_nn zN zH ?_) | (refine r_fn rfl (hW) HbF.h zL2 zD ?_; refine r_nn zN zH ?_) | (refine r_fn rfl (hB) HbF.h zL2 zD ?_; refine r_nn zN zH ?_) | (refine r_fn rfl (hPr) HbF.h zL2 zD ?_; refine r_nn zN zH ?_) | (refine r_fn rfl (hCo) HbF.h zL2 zD ?_; refine r_nn zN zH ?_) | (refine d_fn rfl (hLB) HbF.h zL1 zD ?_; refine d_nn zN zH ?_) | (refine d_fn rfl (hLR) HbF.h zL1 zD ?_; refine d_nn zN zH ?_) | (refine Runs.cond rfl (zc ?_) (zc ?_) <;> intro hc <;> (try (first | contradiction | (exfalso; omega; done) | (have : hc = trivial := rfl; clear this; clear hc)))))
  (refine Runs.lens 13 ?_; refine yl ?_)
  intro hl
  refine Runs.loopI (fun i : Nat => L.length - i) (fun i => i ≤ L.length)
    (fun i => ⟨[.any, .any, .any, .any, .any, .any, .any, .any, .any, .any, .any, .any, .any, .sl false (L.map inV), .sl false (L.map inV), .i (i : Nat), .any, .any, .any, .any, .any, .any, .any, .any, .any, .any, .any, .any, .any, .any, .any, .any, .any, .any, .any, .any, .any, .any, .any, .any, .any, .any, .any, .any, .any, .any, .any, .any, .any, .any, .any, .any, .any, .any, .any, .any, .any, .any, .any, .any], []⟩) 0 (by simp) ?_ ?_
  · (refine St.Le.clean zR zU zV)
  rintro i h0 ih
  repeat' (first | refine yw ?_ | refine Runs.region (id := 7) ?_ | refine Runs.drawn (id := 9) mixed zK ?_ | refine Runs.region (id := 10) ?_ | refine Runs.region (id := 8) ?_ | refine Runs.region (id := 11) ?_ | refine yr ?_ | refine yd ?_ | (refine d_fn rfl (hEq i) HbF.h zL2 zD ?_; refine d_nn zN zH ?_) | (refine r_fn rfl (law_awake) HbF.h zL0 zD ?_; refine r_nn zN zH ?_) | (refine Runs.cond rfl (zc ?_) (zc ?_) <;> intro hc <;> (try (first | contradiction | (exfalso; omega; done) | (have : hc = trivial := rfl; clear this; clear hc)))))
  · refine ih (i + 1) _ zo zo ?_
    (refine St.Le.clean zR zU zV)
  · (refine Runs.ret1 Try.func6 rfl zM zD ?_; try exact zX)
end Go.Proofs
