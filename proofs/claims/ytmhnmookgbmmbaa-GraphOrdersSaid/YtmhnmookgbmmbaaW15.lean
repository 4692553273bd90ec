/- Graphs: Levels. -/
import Derived.Test.YtmhnmookgbmmbaaW14
set_option linter.unusedVariables false
set_option linter.unusedSimpArgs false
set_option maxRecDepth 8000
set_option maxHeartbeats 4000000
set_option pp.deepTerms false
set_option pp.deepTerms.threshold 6
namespace Go.Proofs
open Go.AM

/-- The indexes below 'm' of the nodes with 'n' proposals. -/
def levelN (nodes : List Config) (n : Int) (m : Nat) : List Int := ((List.range m).filter fun i => decide (((nodes.getD i default).length : Int) = n)).map fun i : Nat => (i : Int)
theorem levelN_succ (nodes : List Config) (n : Int) (m : Nat) : levelN nodes n (m + 1) = levelN nodes n m ++ if ((nodes.getD m default).length : Int) = n then [(m : Int)] else [] := by
  unfold levelN
  rw [List.range_succ, List.filter_append, List.map_append]
  congr 1
  by_cases h : ((nodes.getD m default).length : Int) = n <;> simp only [List.filter_cons, List.filter_nil, h, decide_true, decide_false, if_true, if_false, Bool.false_eq_true] <;> rfl
theorem levelN_len (nodes : List Config) (n : Int) (m : Nat) : (levelN nodes n m).length ≤ m := by
  unfold levelN; rw [List.length_map]; exact Nat.le_trans (List.length_filter_le _ _) (by simp)
def sizesI (nodes : List Config) : List Int := nodes.map fun c => (c.length : Int)
def levelsB (nodes : List Config) : List (List Int) := (compactI (sortI (sizesI nodes))).map fun n => levelN nodes n nodes.length
def levelsR (nodes : List Config) : List (List Int) := ((List.range 10).map fun n : Nat => levelN nodes n nodes.length).filter fun l => decide (0 < l.length)
theorem ref_Levels (f : Bool) (nodes : List Config) (hs : Few nodes) : AM.Fn Try.prog 25 [.sl f (nodes.map cfV)] (.sl false ((levelsR nodes).map inV)) := by
  have hs1 := hs.1
  (refine spec_of_runs Try.func25 rfl ?_; simp only [Try.f25]; refine ys ?_)
  repeat' (first | refine yw ?_ | refine Runs.region (id := 0) ?_ | refine Runs.region (id := 1) ?_ | refine Runs.region (id := 2) ?_ | refine yr ?_ | (refine Runs.cond rfl (zc ?_) (zc ?_) <;> intro hc <;> (try (first | contradiction | (exfalso; omega; done) | (have : hc = trivial := rfl; clear this; clear hc)))))
  (refine Runs.weaken (St.Le.nil 3 22 1 3 zd rfl rfl zE) ?_)
  refine Runs.loopI (fun n : Nat => 10 - n) (fun n => n ≤ 10)
    (fun n => ⟨[.sl f (nodes.map cfV), .any, .any, .own 3, .i (n : Nat), .any, .any, .any, .any, .any, .any, .any, .any, .any, .any, .any, .any, .any, .any, .any, .any, .any, .any, .any, .any, .any, .any, .any, .any, .any, .any, .any, .any, .any, .any, .any], [(3, .lst 22 1 ((((List.range n).map fun n : Nat => levelN nodes n nodes.length).filter fun l => decide (0 < l.length)).map inV))]⟩) 0 (by simp) ?_ ?_
  · (refine St.Le.clean zR zU zV)
  rintro n h0 ih
  have hal : (((List.range n).map fun n : Nat => levelN nodes n nodes.length).filter fun l => decide (0 < l.length)).length ≤ 10 := Nat.le_trans (List.length_filter_le _ _) (by simp; omega)
  have hsucc : (((List.range (n + 1)).map fun n : Nat => levelN nodes n nodes.length).filter fun l => decide (0 < l.length)) = (((List.range n).map fun n : Nat => levelN nodes n nodes.length).filter fun l => decide (0 < l.length)) ++ if 0 < (levelN nodes n nodes.length).length then [levelN nodes n nodes.length] else [] := by
    rw [List.range_succ, List.map_append, List.filter_append]
    congr 1
    by_cases h : 0 < (levelN nodes n nodes.length).length <;> simp [h]
  generalize hacc : (((List.range n).map fun n : Nat => levelN nodes n nodes.length).filter fun l => decide (0 < l.length)) = acc at hal hsucc ⊢
  repeat' (first | refine yw ?_ | refine Runs.region (id := 3) ?_ | refine Runs.region (id := 5) ?_ | refine Runs.region (id := 6) ?_ | refine Runs.region (id := 4) ?_ | refine yr ?_ | (refine Runs.cond rfl (zc ?_) (zc ?_) <;> intro hc <;> (try (first | contradiction | (exfalso; omega; done) | (have : hc = trivial := rfl; clear this; clear hc)))))
  · refine Runs.weaken (St.Le.nil 5 3 1 5 zd rfl rfl zE) ?_
    refine Runs.loopI (fun i : Nat => nodes.length - i) (fun i => i ≤ nodes.length)
      (fun i => ⟨[.sl f (nodes.map cfV), .any, .any, .own 3, .i (n : Nat), .own 5, .i (i : Nat), .any, .any, .any, .any, .any, .any, .any, .any, .any, .any, .any, .any, .any, .any, .any, .any, .any, .any, .any, .any, .any, .any, .any, .any, .any, .any, .any, .any, .any], [(5, .lst 3 1 ((levelN nodes n i).map .i)), (3, .lst 22 1 (acc.map inV))]⟩) 0 (by simp) ?_ ?_
    · (refine St.Le.clean zR (by first | (simp [V.usesL, V.uses, AM.look_cons]; done) | (simp [V.usesL, V.uses, AM.look_cons, V.usesL_data, V.uses_data, da_i, da_chV, da_ruV, da_prV, da_enV, da_cfV, da_veV, da_inV, da_edV, da_grV, da_weV, da_mbV, da_suV, da_viV]; done)) ?_; (repeat' (first | exact True.intro | refine And.intro ?_ ?_)); all_goals (first | rfl | (simp [AM.look_cons, levelN]; done) | (simp [V.uses, V.usesL, AM.look_cons, V.usesL_data, V.uses_data, da_i, da_chV, da_ruV, da_prV, da_enV, da_cfV, da_veV, da_inV, da_edV, da_grV, da_weV, da_mbV, da_suV, da_viV]; done)))
    rintro i hi ihi
    have hll := levelN_len nodes n i
    have hgi := hs.getD i
    repeat' (first | refine yw ?_ | refine Runs.region (id := 7) ?_ | refine Runs.region (id := 9) ?_ | refine Runs.region (id := 10) ?_ | refine Runs.region (id := 8) ?_ | refine Runs.region (id := 11) ?_ | refine yr ?_ | (refine r_append_full SlF.h SlF.s ZoF.h zd rfl rfl zC zJ zS rfl (fun hn => ?_) (fun hn => ?_) <;> refine r_nn zN zH ?_) | (refine Runs.cond rfl (zc ?_) (zc ?_) <;> intro hc <;> (try (first | contradiction | (exfalso; omega; done) | (have : hc = trivial := rfl; clear this; clear hc)))))
    · refine ihi (i + 1) _ zo zo ?_
      rw [levelN_succ, if_pos hc]
      (refine St.Le.clean zR zU zV)
    · refine ihi (i + 1) _ zo zo ?_
      rw [levelN_succ, if_neg hc, List.append_nil]
      (refine St.Le.clean zR zU zV)
    · have : i = nodes.length := by omega
      subst this
      (refine Runs.weaken (St.Le.freeze_lst 5 rfl) ?_; refine yf ?_)
      repeat' (first | refine yw ?_ | refine Runs.region (id := 12) ?_ | refine yr ?_ | (refine r_append_full SlF.h SlF.s ZoF.h zd rfl rfl zC zJ zS rfl (fun hn => ?_) (fun hn => ?_) <;> refine r_nn zN zH ?_) | (refine Runs.cond rfl (zc ?_) (zc ?_) <;> intro hc <;> (try (first | contradiction | (exfalso; omega; done) | (have : hc = trivial := rfl; clear this; clear hc)))))
      repeat' (first | refine yw ?_ | refine Runs.region (id := 4) ?_ | refine yr ?_ | (refine Runs.cond rfl (zc ?_) (zc ?_) <;> intro hc <;> (try (first | contradiction | (exfalso; omega; done) | (have : hc = trivial := rfl; clear this; clear hc)))))
      refine ih (n + 1) _ zo zo ?_
      have h5 : 0 < (levelN nodes n nodes.length).length := by omega
      rw [hsucc, if_pos h5]
      (refine St.Le.clean zR zU zV)
    · have : i = nodes.length := by omega
      subst this
      repeat' (first | refine yw ?_ | refine Runs.region (id := 4) ?_ | refine yr ?_ | (refine Runs.cond rfl (zc ?_) (zc ?_) <;> intro hc <;> (try (first | contradiction | (exfalso; omega; done) | (have : hc = trivial := rfl; clear this; clear hc)))))
      refine ih (n + 1) _ zo zo ?_
      have h5 : ¬ 0 < (levelN nodes n nodes.length).length := by omega
      rw [hsucc, if_neg h5, List.append_nil]
      (refine St.Le.clean zR zU zV)
  · repeat' (first | refine yw ?_ | refine Runs.region (id := 13) ?_ | refine yr ?_ | (refine Runs.cond rfl (zc ?_) (zc ?_) <;> intro hc <;> (try (first | contradiction | (exfalso; omega; done) | (have : hc = trivial := rfl; clear this; clear hc)))))
    have : n = 10 := by omega
    subst this
    exact Runs.ret_frz Try.func25 rfl rfl rfl (by rw [← hacc]; rfl)
theorem graph_Levels (g : Graph) (hs : Few g.nodes) : AM.Fn Try.prog 24 [grV g] (.sl false ((levelsB g.nodes).map inV)) := by
  obtain ⟨nodes, edges⟩ := g
  dsimp only at hs ⊢
  have hs1 := hs.1
  (refine spec_of_runs Try.func24 rfl ?_; simp only [Try.f24]; refine ys ?_)
  repeat' (first | refine yw ?_ | refine Runs.region (id := 0) ?_ | refine Runs.region (id := 1) ?_ | refine Runs.region (id := 2) ?_ | refine yr ?_ | (refine Runs.cond rfl (zc ?_) (zc ?_) <;> intro hc <;> (try (first | contradiction | (exfalso; omega; done) | (have : hc = trivial := rfl; clear this; clear hc)))))
  (refine Runs.weaken (St.Le.nil 3 3 1 3 zd rfl rfl zE) ?_)
  refine Runs.loopI (fun i : Nat => nodes.length - i) (fun i => i ≤ nodes.length)
    (fun i => ⟨[.any, .ptr 1 0 0, .any, .own 3, .any, .any, .any, .any, .any, .any, .any, .any, .any, .sl false (nodes.map cfV), .i (nodes.length : Nat), .i (i : Nat), .any, .any, .any, .any, .any, .any, .any, .any, .any, .any, .any, .any, .any, .any, .any, .any, .any, .any, .any, .any, .any, .any, .any, .any, .any, .any, .any, .any, .any, .any, .any, .any, .any, .any, .any, .any, .any, .any, .any, .any, .any], [(3, .lst 3 1 ((sizesI (nodes.take i)).map .i)), (1, .var 31 (grV ⟨nodes, edges⟩))]⟩) 0 (by simp) ?_ ?_
  · (refine St.Le.clean zR (by first | (simp [V.usesL, V.uses, AM.look_cons]; done) | (simp [V.usesL, V.uses, AM.look_cons, V.usesL_data, V.uses_data, da_i, da_chV, da_ruV, da_prV, da_enV, da_cfV, da_veV, da_inV, da_edV, da_grV, da_weV, da_mbV, da_suV, da_viV]; done)) ?_; (repeat' (first | exact True.intro | refine And.intro ?_ ?_)); all_goals (first | rfl | (simp [AM.look_cons, sizesI]; done) | (simp [V.uses, V.usesL, AM.look_cons, V.usesL_data, V.uses_data, da_i, da_chV, da_ruV, da_prV, da_enV, da_cfV, da_veV, da_inV, da_edV, da_grV, da_weV, da_mbV, da_suV, da_viV]; done)))
  rintro i h0 ih
  have hll : (sizesI (nodes.take i)).length ≤ i := by rw [sizesI, List.length_map, List.length_take]; omega
  have hst := fun (h : i < nodes.length) => congrArg sizesI (take_getD h)
  have hend : nodes.length ≤ i → nodes.take i = nodes := fun h => List.take_of_length_le h
  generalize hzz : sizesI (nodes.take i) = zs at hll hst ⊢
  repeat' (first | refine yw ?_ | refine Runs.region (id := 3) ?_ | refine Runs.region (id := 4) ?_ | refine Runs.region (id := 5) ?_ | refine Runs.region (id := 6) ?_ | refine yr ?_ | (refine r_append_full SlF.h SlF.s ZoF.h zd rfl rfl zC zJ zS rfl (fun hn => ?_) (fun hn => ?_) <;> refine r_nn zN zH ?_) | (refine Runs.cond rfl (zc ?_) (zc ?_) <;> intro hc <;> (try (first | contradiction | (exfalso; omega; done) | (have : hc = trivial := rfl; clear this; clear hc)))))
  · refine ih (i + 1) _ zo zo ?_
    rw [hst zo, sizesI, List.map_append, ← sizesI, hzz]
    (refine St.Le.clean zR zU zV)
  · have hi : i = nodes.length := by omega
    rw [hend zo] at hzz
    repeat' (first | refine yw ?_ | refine Runs.region (id := 7) ?_ | refine Runs.region (id := 8) ?_ | refine Runs.region (id := 9) ?_ | refine yr ?_ | (refine r_turn rfl (sort_turns _ zo) HbF.h rfl rfl ?_; refine r_nn zN zH ?_) | (refine r_give rfl (compact_gives 1000 _ (by rw [sortI_length]; omega)) HbF.h rfl rfl zL0 zD ?_; refine r_nn zN zH ?_) | (refine Runs.cond rfl (zc ?_) (zc ?_) <;> intro hc <;> (try (first | contradiction | (exfalso; omega; done) | (have : hc = trivial := rfl; clear this; clear hc)))))
    subst hzz
    have hnl : (compactI (sortI (sizesI nodes))).length ≤ 100000 := by
      have h1 := compactI_le (sortI (sizesI nodes))
      rw [sortI_length] at h1; omega
    rw [levelsB]
    generalize compactI (sortI (sizesI nodes)) = ns at hnl ⊢
    (refine Runs.weaken (St.Le.nil 6 22 1 6 zd rfl rfl zE) ?_)
    refine Runs.loopI (fun k : Nat => ns.length - k) (fun k => k ≤ ns.length)
      (fun k => ⟨[.any, .ptr 1 0 0, .any, .any, .any, .any, .own 6, .any, .any, .any, .any, .any, .any, .any, .any, .any, .any, .any, .any, .any, .any, .any, .any, .any, .any, .any, .any, .any, .own 3, .i (ns.length : Nat), .i (k : Nat), .any, .any, .any, .any, .any, .any, .any, .any, .any, .any, .any, .any, .any, .any, .any, .any, .any, .any, .any, .any, .any, .any, .any, .any, .any, .any], [(6, .lst 22 1 (((ns.take k).map fun n => levelN nodes n nodes.length).map inV)), (3, .lst 3 1 (ns.map .i)), (1, .var 31 (grV ⟨nodes, edges⟩))]⟩) 0 (by simp) ?_ ?_
    · (refine St.Le.clean zR zU zV)
    rintro k hk ihk
    have hal : ((ns.take k).map fun n => levelN nodes n nodes.length).length ≤ k := by rw [List.length_map, List.length_take]; omega
    have hst := fun (h : k < ns.length) => congrArg (List.map fun n => levelN nodes n nodes.length) (take_getD h)
    have hend : ns.length ≤ k → ns.take k = ns := fun h => List.take_of_length_le h
    generalize hacc : ((ns.take k).map fun n => levelN nodes n nodes.length) = acc at hal hst ⊢
    repeat' (first | refine yw ?_ | refine Runs.region (id := 10) ?_ | refine Runs.region (id := 11) ?_ | refine Runs.region (id := 12) ?_ | refine Runs.region (id := 13) ?_ | refine yr ?_ | (refine Runs.cond rfl (zc ?_) (zc ?_) <;> intro hc <;> (try (first | contradiction | (exfalso; omega; done) | (have : hc = trivial := rfl; clear this; clear hc)))))
    · refine Runs.weaken (St.Le.nil 9 3 1 9 zd rfl rfl zE) ?_
      refine Runs.loopI (fun j : Nat => nodes.length - j) (fun j => j ≤ nodes.length)
        (fun j => ⟨[.any, .ptr 1 0 0, .any, .any, .any, .any, .own 6, .any, .i (ns.getD k default), .own 9, .any, .any, .any, .any, .any, .any, .any, .any, .any, .any, .any, .any, .any, .any, .any, .any, .any, .any, .own 3, .i (ns.length : Nat), .i (k : Nat), .any, .any, .any, .any, .sl false (nodes.map cfV), .i (nodes.length : Nat), .i (j : Nat), .any, .any, .any, .any, .any, .any, .any, .any, .any, .any, .any, .any, .any, .any, .any, .any, .any, .any, .any], [(9, .lst 3 1 ((levelN nodes (ns.getD k default) j).map .i)), (6, .lst 22 1 (acc.map inV)), (3, .lst 3 1 (ns.map .i)), (1, .var 31 (grV ⟨nodes, edges⟩))]⟩) 0 (by simp) ?_ ?_
      · (refine St.Le.clean zR (by first | (simp [V.usesL, V.uses, AM.look_cons]; done) | (simp [V.usesL, V.uses, AM.look_cons, V.usesL_data, V.uses_data, da_i, da_chV, da_ruV, da_prV, da_enV, da_cfV, da_veV, da_inV, da_edV, da_grV, da_weV, da_mbV, da_suV, da_viV]; done)) ?_; (repeat' (first | exact True.intro | refine And.intro ?_ ?_)); all_goals (first | rfl | (simp [AM.look_cons, levelN]; done) | (simp [V.uses, V.usesL, AM.look_cons, V.usesL_data, V.uses_data, da_i, da_chV, da_ruV, da_prV, da_enV, da_cfV, da_veV, da_inV, da_edV, da_grV, da_weV, da_mbV, da_suV, da_viV]; done)))
      rintro j hj ihj
      have hll2 := levelN_len nodes (ns.getD k default) j
      have hgj := hs.getD j
      repeat' (first | refine yw ?_ | refine Runs.region (id := 14) ?_ | refine Runs.region (id := 15) ?_ | refine Runs.region (id := 16) ?_ | refine Runs.region (id := 17) ?_ | refine Runs.region (id := 18) ?_ | refine yr ?_ | (refine r_append_full SlF.h SlF.s ZoF.h zd rfl rfl zC zJ zS rfl (fun hn => ?_) (fun hn => ?_) <;> refine r_nn zN zH ?_) | (refine Runs.cond rfl (zc ?_) (zc ?_) <;> intro hc <;> (try (first | contradiction | (exfalso; omega; done) | (have : hc = trivial := rfl; clear this; clear hc)))))
      · refine ihj (j + 1) _ zo zo ?_
        rw [levelN_succ, if_pos hc]
        (refine St.Le.clean zR zU zV)
      · refine ihj (j + 1) _ zo zo ?_
        rw [levelN_succ, if_neg hc, List.append_nil]
        (refine St.Le.clean zR zU zV)
      · have : j = nodes.length := by omega
        subst this
        (refine Runs.weaken (St.Le.freeze_lst 9 rfl) ?_; refine yf ?_)
        repeat' (first | refine yw ?_ | refine Runs.region (id := 19) ?_ | refine Runs.region (id := 20) ?_ | refine yr ?_ | (refine r_append_full SlF.h SlF.s ZoF.h zd rfl rfl zC zJ zS rfl (fun hn => ?_) (fun hn => ?_) <;> refine r_nn zN zH ?_) | (refine Runs.cond rfl (zc ?_) (zc ?_) <;> intro hc <;> (try (first | contradiction | (exfalso; omega; done) | (have : hc = trivial := rfl; clear this; clear hc)))))
        refine ihk (k + 1) _ zo zo ?_
        rw [hst zo, List.map_append, hacc]
        (refine St.Le.clean zR zU zV)
    · rw [hend zo] at hacc
      subst hacc
      repeat' (first | refine yw ?_ | refine Runs.region (id := 21) ?_ | refine yr ?_ | (refine Runs.cond rfl (zc ?_) (zc ?_) <;> intro hc <;> (try (first | contradiction | (exfalso; omega; done) | (have : hc = trivial := rfl; clear this; clear hc)))))
      exact Runs.ret_frz Try.func24 rfl rfl rfl rfl
end Go.Proofs
