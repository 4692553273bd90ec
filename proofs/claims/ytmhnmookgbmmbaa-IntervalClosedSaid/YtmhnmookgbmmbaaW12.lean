/- Intervals and graphs: All, of, Build, keep, Contract, Prune. -/
import Derived.Test.YtmhnmookgbmmbaaW11
import Derived.Test.YtmhnmookgbmmbaaW9
set_option linter.unusedVariables false
set_option linter.unusedSimpArgs false
set_option maxRecDepth 8000
set_option maxHeartbeats 4000000
set_option pp.deepTerms false
set_option pp.deepTerms.threshold 6
namespace Go.Proofs
open Go.AM
attribute [local irreducible] AM.evalR AM.evalD AM.Runs AM.valK AM.dK AM.opK AM.stepR AM.CallS AM.St.Le

theorem union1 (p : Proposal) : AM.Fn Try.prog 84 [prV p] (.b true) := by
  (refine spec_of_runs Try.func84 rfl ?_; simp only [Try.f84]; refine ys ?_)
  repeat' (first | refine yw ?_ | ((with_reducible refine Runs.is ?_); first | refine Runs.region ?_ | ((with_reducible refine Runs.isC ?_); refine Runs.cond rfl (zc ?_) (zc ?_) <;> intro hc <;> (try (first | contradiction | (exfalso; omega; done) | (have : hc = trivial := rfl; clear this; clear hc))))) | ((with_reducible refine r_is ?_); first | refine yr ?_) | fail)
  (refine Runs.ret1 Try.func84 rfl zM zD ?_; try exact zX)
theorem config_Union_nil (f : Bool) (c : Config) (hc : Small c) : AM.Fn Try.prog 71 [.sl f (c.map prV), .sc (.slice none 0 0)] (cfV c) := by
  have hf := Fn.of_own (config_filter f c 84 [] (fun _ => true) hc (fun p => union1 p) hb84 rfl)
  rw [show c.filter (fun _ => true) = c by simp] at hf
  (refine spec_of_runs Try.func71 rfl ?_; simp only [Try.f71]; refine ys ?_)
  repeat' (first | refine yw ?_ | ((with_reducible refine Runs.is ?_); first | refine Runs.region (id := 0) ?_ | refine Runs.region (id := 1) ?_ | refine Runs.region (id := 2) ?_ | ((with_reducible refine Runs.isC ?_); refine Runs.cond rfl (zc ?_) (zc ?_) <;> intro hc <;> (try (first | contradiction | (exfalso; omega; done) | (have : hc = trivial := rfl; clear this; clear hc))))) | ((with_reducible refine r_is ?_); first | refine yr ?_ | (refine r_fn rfl (hf) HbF.h zL2 zD ?_; refine r_nn zN zH ?_)) | fail)
  refine Runs.loop ?_
  repeat' (first | refine yw ?_ | ((with_reducible refine Runs.is ?_); first | refine Runs.region (id := 3) ?_ | refine Runs.region (id := 4) ?_ | refine Runs.region (id := 5) ?_ | refine Runs.region (id := 6) ?_ | refine Runs.region (id := 7) ?_ | refine Runs.region (id := 8) ?_ | refine Runs.region (id := 9) ?_ | refine Runs.region (id := 10) ?_ | refine Runs.region (id := 11) ?_ | refine Runs.region (id := 12) ?_ | refine Runs.region (id := 13) ?_ | refine Runs.region (id := 14) ?_ | refine Runs.region (id := 15) ?_ | ((with_reducible refine Runs.isC ?_); refine Runs.cond rfl (zc ?_) (zc ?_) <;> intro hc <;> (try (first | contradiction | (exfalso; omega; done) | (have : hc = trivial := rfl; clear this; clear hc))))) | ((with_reducible refine r_is ?_); first | refine yr ?_ | (refine r_append_full SlF.h SlF.s ZoF.h zd rfl rfl zC zJ zS rfl (fun hn => ?_) (fun hn => ?_) <;> refine r_nn zN zH ?_)) | fail)
  (refine Runs.ret1 Try.func71 rfl zM zD ?_; try exact zX)
def allB (a b : Config) : List Config := if containsB b a then (vectorsV (vectorV a) (vectorV b)).map (restrictV b) else []
theorem vectorV_nonneg (c : Config) (h : c.length ≤ 100000000) : ∀ e ∈ vectorV c, 0 ≤ e.count := fun e he => ((vecFoldV c [] 0 (by simpa using h) (by intro e he; cases he)).1 e he).1
theorem interval_All (f g : Bool) (a b : Config) (ha : a.length ≤ 10000000) (hb : Small b) (hb2 : b.length ≤ 10000000) (hv : Fine (vectorV b)) : AM.Fn Try.prog 36 [.sl f (a.map prV), .sl g (b.map prV)] (.sl false ((allB a b).map cfV)) := by
  have hn := vectorV_nonneg a zo
  have hlen : (vectorsV (vectorV a) (vectorV b)).length ≤ 64 := by
    have h1 := (fold_below hv _ (Nat.le_refl _) hn).2
    rw [List.take_of_length_le (Nat.le_refl _)] at h1
    have h2 : (4 : Nat) ^ (vectorV b).length ≤ 4 ^ 3 := Nat.pow_le_pow_right zd hv.1
    exact Nat.le_trans h1 h2
  (refine spec_of_runs Try.func36 rfl ?_; simp only [Try.f36]; refine ys ?_)
  repeat' (first | refine yw ?_ | ((with_reducible refine Runs.is ?_); first | refine Runs.region (id := 0) ?_ | refine Runs.region (id := 1) ?_ | refine Runs.region (id := 2) ?_ | refine Runs.region (id := 3) ?_ | refine Runs.region (id := 4) ?_ | ((with_reducible refine Runs.isC ?_); refine Runs.cond rfl (zc ?_) (zc ?_) <;> intro hc <;> (try (first | contradiction | (exfalso; omega; done) | (have : hc = trivial := rfl; clear this; clear hc))))) | ((with_reducible refine r_is ?_); first | refine yr ?_ | (refine r_fn rfl (config_Contains g f _ _) HbF.h zL2 zD ?_; refine r_nn zN zH ?_) | (refine r_fn rfl (config_Vector f a ha) HbF.h zL1 zD ?_; refine r_nn zN zH ?_) | (refine r_fn rfl (config_Vector g b hb2) HbF.h zL1 zD ?_; refine r_nn zN zH ?_) | (refine r_fn rfl (interval_vectors false false _ _ hn hv) HbF.h zL2 zD ?_; refine r_nn zN zH ?_)) | fail)
  · (refine Runs.ret1 Try.func36 rfl zM zD ?_; try exact zX)
    rw [allB, hc]; exact V.Le.nil _
  · rw [allB, if_pos (by assumption)]
    generalize vectorsV (vectorV a) (vectorV b) = vs at hlen ⊢
    (refine Runs.weaken (St.Le.nil 5 24 1 5 zd rfl rfl zE) ?_)
    refine Runs.loopI (fun i : Nat => vs.length - i) (fun i => i ≤ vs.length)
      (fun i => ⟨[.any, .sl g (b.map prV), .any, .any, .any, .own 5, .any, .any, .any, .any, .any, .any, .any, .any, .any, .any, .sl false (vs.map veV), .i (vs.length : Nat), .i (i : Nat), .any, .any, .any, .any, .any, .any, .any, .any, .any, .any, .any], [(5, .lst 24 1 (((vs.take i).map (restrictV b)).map cfV))]⟩) 0 (by simp) ?_ ?_
    · (refine St.Le.clean zR zU zV)
    rintro i h0 ih
    have hl1 : (vs.take i).length ≤ 64 := by rw [List.length_take]; omega
    have hst := fun (h : i < vs.length) => take_getD h
    generalize hacc : vs.take i = acc at hl1 hst ⊢
    repeat' (first | refine yw ?_ | ((with_reducible refine Runs.is ?_); first | refine Runs.region (id := 5) ?_ | refine Runs.region (id := 6) ?_ | refine Runs.region (id := 7) ?_ | refine Runs.region (id := 8) ?_ | refine Runs.region (id := 9) ?_ | ((with_reducible refine Runs.isC ?_); refine Runs.cond rfl (zc ?_) (zc ?_) <;> intro hc <;> (try (first | contradiction | (exfalso; omega; done) | (have : hc = trivial := rfl; clear this; clear hc))))) | ((with_reducible refine r_is ?_); first | refine yr ?_ | (refine r_fn rfl (config_Restrict g false b _ hb) HbF.h zL2 zD ?_; refine r_nn zN zH ?_) | (refine r_append_full SlF.h SlF.s ZoF.h zd rfl rfl zC zJ zS rfl (fun hn => ?_) (fun hn => ?_) <;> refine r_nn zN zH ?_)) | fail)
    · refine ih (i + 1) _ zo zo ?_
      rw [hst zo]
      (refine St.Le.clean zR zU zV)
    · rw [List.take_of_length_le zo] at hacc
      subst hacc
      exact Runs.ret_frz Try.func36 rfl rfl rfl rfl
/-! Graphs -/
def adjB (nodes : List Config) (i j : Nat) : Bool := decide (((nodes.getD j default).length : Int) = (nodes.getD i default).length + 1) && containsB (nodes.getD j default) (nodes.getD i default)
def edgesB (nodes : List Config) : List (Int × Int) := edgesN (adjB nodes) nodes.length nodes.length
/-- Not too many nodes, none too long. -/
def Few (nodes : List Config) : Prop := nodes.length ≤ 100000 ∧ ∀ c ∈ nodes, c.length ≤ 1000000000
theorem Few.getD {nodes : List Config} (h : Few nodes) (i : Nat) : (nodes.getD i default).length ≤ 1000000000 := by
  by_cases hi : i < nodes.length
  · rw [List.getD_eq_getElem?_getD, List.getElem?_eq_getElem hi]; exact h.2 _ (List.getElem_mem hi)
  · rw [List.getD_eq_getElem?_getD, List.getElem?_eq_none zo]; exact Nat.zero_le _
theorem graph_of (nodes : List Config) (hs : Few nodes) : AM.Fn Try.prog 45 [.sl false (nodes.map cfV)] (grV ⟨nodes, edgesB nodes⟩) := by
  have hs1 := hs.1
  have hb : nodes.length * nodes.length ≤ 10000000000 := Nat.mul_le_mul hs1 hs1
  (refine spec_of_runs Try.func45 rfl ?_; simp only [Try.f45]; refine ys ?_)
  repeat' (first | refine yw ?_ | ((with_reducible refine Runs.is ?_); first | refine Runs.region (id := 0) ?_ | refine Runs.region (id := 1) ?_ | refine Runs.region (id := 2) ?_ | ((with_reducible refine Runs.isC ?_); refine Runs.cond rfl (zc ?_) (zc ?_) <;> intro hc <;> (try (first | contradiction | (exfalso; omega; done) | (have : hc = trivial := rfl; clear this; clear hc))))) | ((with_reducible refine r_is ?_); first | refine yr ?_) | fail)
  refine Runs.weaken (St.Le.nilVar 41 3 1 73 2 zd rfl rfl rfl) ?_
  refine Runs.loopI (fun i : Nat => nodes.length - i) (fun i => i ≤ nodes.length)
    (fun i => ⟨[.sl false (nodes.map cfV), .any, .ptr 2 0 0, .ptr 3 0 0, .any, .any, .any, .any, .any, .any, .sl false (nodes.map cfV), .i (nodes.length : Nat), .i (i : Nat), .any, .any, .any, .any, .any, .any, .any, .any, .any, .any, .any, .any, .any, .any, .any, .any, .any, .any, .any, .any, .any, .any, .any, .any, .any, .any, .any, .any, .any, .any, .any, .any, .any], [(41, .lst 73 2 ((edgesN (adjB nodes) i nodes.length).map edV)), (3, .var 31 (.agg [.sl false (nodes.map cfV), .own 41])), (2, .var 31 (.agg [.sc (.slice none 0 0), .sc (.slice none 0 0)]))]⟩) 0 (by simp) ?_ ?_
  · (refine St.Le.clean zR zU zV)
  rintro i h0 ih
  have hle := edgesN_len (adjB nodes) i nodes.length
  have hle2 : i * nodes.length ≤ nodes.length * nodes.length := Nat.mul_le_mul_right _ h0
  repeat' (first | refine yw ?_ | ((with_reducible refine Runs.is ?_); first | refine Runs.region (id := 3) ?_ | refine Runs.region (id := 4) ?_ | refine Runs.region (id := 5) ?_ | ((with_reducible refine Runs.isC ?_); refine Runs.cond rfl (zc ?_) (zc ?_) <;> intro hc <;> (try (first | contradiction | (exfalso; omega; done) | (have : hc = trivial := rfl; clear this; clear hc))))) | ((with_reducible refine r_is ?_); first | refine yr ?_) | fail)
  · refine Runs.loopI (fun j : Nat => nodes.length - j) (fun j => j ≤ nodes.length)
      (fun j => ⟨[.sl false (nodes.map cfV), .any, .ptr 2 0 0, .ptr 3 0 0, .i (i : Nat), cfV (nodes.getD i default), .any, .any, .any, .any, .sl false (nodes.map cfV), .i (nodes.length : Nat), .i (i : Nat), .any, .any, .any, .any, .sl false (nodes.map cfV), .i (nodes.length : Nat), .i (j : Nat), .any, .any, .any, .any, .any, .any, .any, .any, .any, .any, .any, .any, .any, .any, .any, .any, .any, .any, .any, .any, .any, .any, .any, .any, .any, .any], [(41, .lst 73 2 ((edgesN (adjB nodes) i nodes.length ++ edgeRow (adjB nodes) i j).map edV)), (3, .var 31 (.agg [.sl false (nodes.map cfV), .own 41])), (2, .var 31 (.agg [.sc (.slice none 0 0), .sc (.slice none 0 0)]))]⟩) 0 (by simp) ?_ ?_
    · (refine St.Le.clean zR (by first | (simp [V.usesL, V.uses, AM.look_cons]; done) | (simp [V.usesL, V.uses, AM.look_cons, V.usesL_data, V.uses_data, da_i, da_chV, da_ruV, da_prV, da_enV, da_cfV, da_veV, da_inV, da_edV, da_grV, da_weV, da_mbV, da_suV, da_viV]; done)) ?_; (repeat' (first | exact True.intro | refine And.intro ?_ ?_)); all_goals (first | rfl | (simp [AM.look_cons, edgeRow]; done) | (simp [V.uses, V.usesL, AM.look_cons, V.usesL_data, V.uses_data, da_i, da_chV, da_ruV, da_prV, da_enV, da_cfV, da_veV, da_inV, da_edV, da_grV, da_weV, da_mbV, da_suV, da_viV]; done)))
    rintro j hj ihj
    have hr := edgeRow_len (adjB nodes) i j
    have hgj := hs.getD j
    have hgi := hs.getD i
    repeat' (first | refine yw ?_ | ((with_reducible refine Runs.is ?_); first | refine Runs.region (id := 6) ?_ | refine Runs.region (id := 7) ?_ | refine Runs.region (id := 8) ?_ | refine Runs.region (id := 9) ?_ | refine Runs.region (id := 10) ?_ | ((with_reducible refine Runs.isC ?_); refine Runs.cond rfl (zc ?_) (zc ?_) <;> intro hc <;> (try (first | contradiction | (exfalso; omega; done) | (have : hc = trivial := rfl; clear this; clear hc))))) | ((with_reducible refine r_is ?_); first | refine yr ?_ | (refine r_fn rfl (config_Contains false false _ _) HbF.h zL2 zD ?_; refine r_nn zN zH ?_) | (refine r_append_full SlF.h SlF.s ZoF.h zd rfl rfl zC zJ zS rfl (fun hn => ?_) (fun hn => ?_) <;> refine r_nn zN zH ?_) | ((with_reducible refine r_gd ?_); (first | refine r_guardPt rfl rfl ?_ ?_ | refine r_guardNt rfl rfl ?_ ?_ | refine r_guard rfl rfl ?_ ?_) <;> intro hG <;> (try (exfalso; omega; done)) <;> refine r_nn zN zH ?_)) | fail)
    · refine ihj (j + 1) _ zo zo ?_
      have e : adjB nodes i j = true := by unfold adjB; rw [decide_eq_true hG, hc]; rfl
      rw [edgeRow_succ, if_pos e]
      (refine St.Le.clean zR (by first | (simp [V.usesL, V.uses, AM.look_cons]; done) | (simp [V.usesL, V.uses, AM.look_cons, V.usesL_data, V.uses_data, da_i, da_chV, da_ruV, da_prV, da_enV, da_cfV, da_veV, da_inV, da_edV, da_grV, da_weV, da_mbV, da_suV, da_viV]; done)) ?_; (repeat' (first | exact True.intro | refine And.intro ?_ ?_)); all_goals (first | rfl | (simp [AM.look_cons, edV]; done) | (simp [V.uses, V.usesL, AM.look_cons, V.usesL_data, V.uses_data, da_i, da_chV, da_ruV, da_prV, da_enV, da_cfV, da_veV, da_inV, da_edV, da_grV, da_weV, da_mbV, da_suV, da_viV]; done)))
    · refine ihj (j + 1) _ zo zo ?_
      have e : ¬ adjB nodes i j = true := by unfold adjB; rw [hc, Bool.and_false]; simp
      rw [edgeRow_succ, if_neg e]
      (refine St.Le.clean zR zU zV)
    · refine ihj (j + 1) _ zo zo ?_
      have e : ¬ adjB nodes i j = true := by unfold adjB; rw [decide_eq_false hG, Bool.false_and]; simp
      rw [edgeRow_succ, if_neg e]
      (refine St.Le.clean zR zU zV)
    · repeat' (first | refine yw ?_ | ((with_reducible refine Runs.is ?_); first | refine Runs.region (id := 11) ?_ | ((with_reducible refine Runs.isC ?_); refine Runs.cond rfl (zc ?_) (zc ?_) <;> intro hc <;> (try (first | contradiction | (exfalso; omega; done) | (have : hc = trivial := rfl; clear this; clear hc))))) | ((with_reducible refine r_is ?_); first | refine yr ?_) | fail)
      refine ih (i + 1) _ zo zo ?_
      have : j = nodes.length := by omega
      subst this
      rw [edgesN_succ]
      (refine St.Le.clean zR zU zV)
  · have e : i = nodes.length := by omega
    subst e
    repeat' (first | refine yw ?_ | ((with_reducible refine Runs.is ?_); first | refine Runs.region (id := 12) ?_ | ((with_reducible refine Runs.isC ?_); refine Runs.cond rfl (zc ?_) (zc ?_) <;> intro hc <;> (try (first | contradiction | (exfalso; omega; done) | (have : hc = trivial := rfl; clear this; clear hc))))) | ((with_reducible refine r_is ?_); first | refine yr ?_) | fail)
    (refine Runs.weaken (St.Le.freeze_lst 41 rfl) ?_; refine yf ?_)
    (refine Runs.retC Try.func45 rfl zM rfl TyF.h (And.intro zE zd) zD ?_; try exact zX)
/-- What 'of' makes of nodes. -/
def ofB (nodes : List Config) : Graph := ⟨nodes, edgesB nodes⟩
theorem graph_Build (f g : Bool) (a b : Config) (ha : a.length ≤ 10000000) (hb : Small b) (hb2 : b.length ≤ 10000000) (hv : Fine (vectorV b)) (hf : Few (allB a b)) : AM.Fn Try.prog 14 [.sl f (a.map prV), .sl g (b.map prV)] (grV (ofB (allB a b))) := by
  (refine spec_of_runs Try.func14 rfl ?_; simp only [Try.f14]; refine ys ?_)
  repeat' (first | refine yw ?_ | ((with_reducible refine Runs.is ?_); first | refine Runs.region ?_ | ((with_reducible refine Runs.isC ?_); refine Runs.cond rfl (zc ?_) (zc ?_) <;> intro hc <;> (try (first | contradiction | (exfalso; omega; done) | (have : hc = trivial := rfl; clear this; clear hc))))) | ((with_reducible refine r_is ?_); first | refine yr ?_ | (refine r_fn rfl (interval_All f g a b ha hb hb2 hv) HbF.h zL2 zD ?_; refine r_nn zN zH ?_) | (refine r_fn rfl (graph_of _ hf) HbF.h zL1 zD ?_; refine r_nn zN zH ?_)) | fail)
  (refine Runs.retC Try.func14 rfl zM rfl TyF.h (And.intro zE zd) zD ?_; try exact zX)
theorem graph_keep (g : Graph) (fn : FuncId) (caps : List V) (k : Config → Bool) (hsm : ∀ c ∈ g.nodes, Small c) (hfew : Few g.nodes) (hg : ∀ c, AM.Fn Try.prog fn (cfV c :: caps) (.b (k c))) (hb : hasBody Try.prog fn) (hd : V.dataL caps = true) :
    AM.Fn Try.prog 48 [grV g, .fn fn caps] (grV (ofB (g.nodes.filter k))) := by
  obtain ⟨nodes, edges⟩ := g
  dsimp only at hsm hfew ⊢
  have hs1 := hfew.1
  have hkeep : Few (nodes.filter k) := ⟨Nat.le_trans (List.length_filter_le _ _) hs1, fun c hc => hfew.2 c ((List.mem_filter.1 hc).1)⟩
  have hsg : ∀ i, i < nodes.length → Small (nodes.getD i default) := fun i hi => by
    rw [List.getD_eq_getElem?_getD, List.getElem?_eq_getElem hi]; exact hsm _ (List.getElem_mem hi)
  (refine spec_of_runs Try.func48 rfl ?_; simp only [Try.f48]; refine ys ?_)
  repeat' (first | refine yw ?_ | ((with_reducible refine Runs.is ?_); first | refine Runs.region (id := 0) ?_ | refine Runs.region (id := 1) ?_ | refine Runs.region (id := 2) ?_ | ((with_reducible refine Runs.isC ?_); refine Runs.cond rfl (zc ?_) (zc ?_) <;> intro hc <;> (try (first | contradiction | (exfalso; omega; done) | (have : hc = trivial := rfl; clear this; clear hc))))) | ((with_reducible refine r_is ?_); first | refine yr ?_) | fail)
  (refine Runs.weaken (St.Le.nil 5 24 1 5 zd rfl rfl zE) ?_)
  refine Runs.loopI (fun i : Nat => nodes.length - i) (fun i => i ≤ nodes.length)
    (fun i => ⟨[.any, .fn fn caps, .any, .any, .ptr 4 0 0, .own 5, .any, .any, .any, .sl false (nodes.map cfV), .i (nodes.length : Nat), .i (i : Nat), .any, .any, .any, .any, .any, .any, .any, .any, .any, .any, .any, .any, .any, .any], [(5, .lst 24 1 (((nodes.take i).filter k).map cfV)), (4, .var 31 (.agg [.sc (.slice none 0 0), .sc (.slice none 0 0)]))]⟩) 0 (by simp) ?_ ?_
  · refine St.Le.clean zR (by simp [V.usesL, V.uses, AM.look_cons, V.usesL_data _ _ hd]) ?_
    (repeat' (first | exact True.intro | refine And.intro ?_ ?_)); all_goals (first | rfl | simp [V.uses, V.usesL])
  rintro i h0 ih
  have hfl : ((nodes.take i).filter k).length ≤ i := Nat.le_trans (List.length_filter_le _ _) (by rw [List.length_take]; omega)
  by_cases hi : i < nodes.length
  · repeat' (first | refine yw ?_ | ((with_reducible refine Runs.is ?_); first | refine Runs.region (id := 3) ?_ | refine Runs.region (id := 4) ?_ | refine Runs.region (id := 5) ?_ | refine Runs.region (id := 6) ?_ | refine Runs.region (id := 7) ?_ | ((with_reducible refine Runs.isC ?_); refine Runs.cond rfl (zc ?_) (zc ?_) <;> intro hc <;> (try (first | contradiction | (exfalso; omega; done) | (have : hc = trivial := rfl; clear this; clear hc))))) | ((with_reducible refine r_is ?_); first | refine yr ?_ | (refine r_fn rfl (hg _) (hb) zL1 zD ?_; refine r_nn zN zH ?_) | (refine r_fn rfl (config_Union_nil false _ (hsg i hi)) HbF.h zL2 zD ?_; refine r_nn zN zH ?_) | (refine r_fn rfl (hg _) (hb) zL2 zD ?_; refine r_nn zN zH ?_) | (refine r_append_full SlF.h SlF.s ZoF.h zd rfl rfl zC zJ zS rfl (fun hn => ?_) (fun hn => ?_) <;> refine r_nn zN zH ?_)) | fail)
    · refine ih (i + 1) _ zo zo ?_
      rw [V.killL_data _ _ hd, filter_take_t hi hc]
      refine St.Le.clean zR (by simp [V.usesL, V.uses, AM.look_cons, V.usesL_data _ _ hd]) ?_
      (repeat' (first | exact True.intro | refine And.intro ?_ ?_)); all_goals (first | rfl | (simp [AM.look_cons]; done) | simp [V.uses, V.usesL])
    · refine ih (i + 1) _ zo zo ?_
      rw [filter_take_f hi hc]
      refine St.Le.clean zR (by simp [V.usesL, V.uses, AM.look_cons, V.usesL_data _ _ hd]) ?_
      (repeat' (first | exact True.intro | refine And.intro ?_ ?_)); all_goals (first | rfl | (simp [AM.look_cons]; done) | simp [V.uses, V.usesL])
  · repeat' (first | refine yw ?_ | ((with_reducible refine Runs.is ?_); first | refine Runs.region (id := 3) ?_ | refine Runs.region (id := 4) ?_ | refine Runs.region (id := 5) ?_ | refine Runs.region (id := 6) ?_ | refine Runs.region (id := 7) ?_ | ((with_reducible refine Runs.isC ?_); refine Runs.cond rfl (zc ?_) (zc ?_) <;> intro hc <;> (try (first | contradiction | (exfalso; omega; done) | (have : hc = trivial := rfl; clear this; clear hc))))) | ((with_reducible refine r_is ?_); first | refine yr ?_ | (refine r_fn rfl (hg _) (hb) zL1 zD ?_; refine r_nn zN zH ?_) | (refine r_fn rfl (hg _) (hb) zL2 zD ?_; refine r_nn zN zH ?_) | (refine r_append_full SlF.h SlF.s ZoF.h zd rfl rfl zC zJ zS rfl (fun hn => ?_) (fun hn => ?_) <;> refine r_nn zN zH ?_)) | fail)
    (refine Runs.weaken (St.Le.freeze_lst 5 rfl) ?_; refine yf ?_)
    rw [V.frzL_data _ _ _ _ hd, List.take_of_length_le zo]
    repeat' (first | refine yw ?_ | ((with_reducible refine Runs.is ?_); first | refine Runs.region (id := 8) ?_ | ((with_reducible refine Runs.isC ?_); refine Runs.cond rfl (zc ?_) (zc ?_) <;> intro hc <;> (try (first | contradiction | (exfalso; omega; done) | (have : hc = trivial := rfl; clear this; clear hc))))) | ((with_reducible refine r_is ?_); first | refine yr ?_ | (refine r_fn rfl (graph_of _ hkeep) HbF.h zL1 zD ?_; refine r_nn zN zH ?_)) | fail)
    (refine Runs.retC Try.func48 rfl zM rfl TyF.h (And.intro zE zd) zD ?_; try exact zX)
def contractB (nodes : List Config) (base : Config) : List Config := nodes.filter fun c => containsB c base
def pruneB (nodes : List Config) (l : Config) : List Config := nodes.filter fun c => containsB c l || containsB l c
theorem contract1 (f : Bool) (b c : Config) : AM.Fn Try.prog 49 [cfV c, .pt (.sl f (b.map prV))] (.b (containsB c b)) := by
  (refine spec_of_runs Try.func49 rfl ?_; simp only [Try.f49]; refine ys ?_)
  repeat' (first | refine yw ?_ | ((with_reducible refine Runs.is ?_); first | refine Runs.region ?_ | ((with_reducible refine Runs.isC ?_); refine Runs.cond rfl (zc ?_) (zc ?_) <;> intro hc <;> (try (first | contradiction | (exfalso; omega; done) | (have : hc = trivial := rfl; clear this; clear hc))))) | ((with_reducible refine r_is ?_); first | refine yr ?_ | (refine r_fn rfl (config_Contains false f _ _) HbF.h zL2 zD ?_; refine r_nn zN zH ?_)) | fail)
  (refine Runs.ret1 Try.func49 rfl zM zD ?_; try exact zX)
theorem graph_Contract (f : Bool) (g : Graph) (b : Config) (hsm : ∀ c ∈ g.nodes, Small c) (hfew : Few g.nodes) : AM.Fn Try.prog 17 [grV g, .sl f (b.map prV)] (grV (ofB (contractB g.nodes b))) := by
  (refine spec_of_runs Try.func17 rfl ?_; simp only [Try.f17]; refine ys ?_)
  repeat' (first | refine yw ?_ | ((with_reducible refine Runs.is ?_); first | refine Runs.region (id := 0) ?_ | ((with_reducible refine Runs.isC ?_); refine Runs.cond rfl (zc ?_) (zc ?_) <;> intro hc <;> (try (first | contradiction | (exfalso; omega; done) | (have : hc = trivial := rfl; clear this; clear hc))))) | ((with_reducible refine r_is ?_); first | refine yr ?_) | fail)
  (refine Runs.weaken (St.Le.freeze_var 3 rfl (by simp only [go_sem, Bool.and_self, Bool.and_true, Bool.true_and])) ?_; refine yf ?_)
  repeat' (first | refine yw ?_ | ((with_reducible refine Runs.is ?_); first | refine Runs.region (id := 1) ?_ | ((with_reducible refine Runs.isC ?_); refine Runs.cond rfl (zc ?_) (zc ?_) <;> intro hc <;> (try (first | contradiction | (exfalso; omega; done) | (have : hc = trivial := rfl; clear this; clear hc))))) | ((with_reducible refine r_is ?_); first | refine yr ?_ | (refine r_fn rfl (graph_keep g 49 [.pt (.sl f (b.map prV))] _ hsm hfew (fun c => contract1 f b c) hb49 (by simp only [go_sem, Bool.and_self])) HbF.h zL2 zD ?_; refine r_nn zN zH ?_)) | fail)
  (refine Runs.retC Try.func17 rfl zM rfl TyF.h (And.intro zE zd) zD ?_; try exact zX)
theorem prune1 (f : Bool) (b c : Config) : AM.Fn Try.prog 56 [cfV c, .pt (.sl f (b.map prV))] (.b (containsB c b || containsB b c)) := by
  (refine spec_of_runs Try.func56 rfl ?_; simp only [Try.f56]; refine ys ?_)
  repeat' (first | refine yw ?_ | ((with_reducible refine Runs.is ?_); first | refine Runs.region ?_ | ((with_reducible refine Runs.isC ?_); refine Runs.cond rfl (zc ?_) (zc ?_) <;> intro hc <;> (try (first | contradiction | (exfalso; omega; done) | (have : hc = trivial := rfl; clear this; clear hc))))) | ((with_reducible refine r_is ?_); first | refine yr ?_ | (refine r_fn rfl (config_Contains false f _ _) HbF.h zL2 zD ?_; refine r_nn zN zH ?_) | (refine r_fn rfl (config_Contains f false _ _) HbF.h zL2 zD ?_; refine r_nn zN zH ?_) | ((with_reducible refine r_gd ?_); (first | refine r_guardPf rfl rfl ?_ ?_ | refine r_guardNf rfl rfl ?_ ?_ | refine r_guard rfl rfl ?_ ?_) <;> intro hG <;> (try (exfalso; omega; done)) <;> refine r_nn zN zH ?_)) | fail)
  all_goals ((refine Runs.ret1 Try.func56 rfl zM zD ?_; try exact zX); refine V.Le.of_eq ?_; simp_all)
theorem graph_Prune (f : Bool) (g : Graph) (b : Config) (hsm : ∀ c ∈ g.nodes, Small c) (hfew : Few g.nodes) : AM.Fn Try.prog 22 [grV g, .sl f (b.map prV)] (grV (ofB (pruneB g.nodes b))) := by
  (refine spec_of_runs Try.func22 rfl ?_; simp only [Try.f22]; refine ys ?_)
  repeat' (first | refine yw ?_ | ((with_reducible refine Runs.is ?_); first | refine Runs.region (id := 0) ?_ | ((with_reducible refine Runs.isC ?_); refine Runs.cond rfl (zc ?_) (zc ?_) <;> intro hc <;> (try (first | contradiction | (exfalso; omega; done) | (have : hc = trivial := rfl; clear this; clear hc))))) | ((with_reducible refine r_is ?_); first | refine yr ?_) | fail)
  (refine Runs.weaken (St.Le.freeze_var 3 rfl (by simp only [go_sem, Bool.and_self, Bool.and_true, Bool.true_and])) ?_; refine yf ?_)
  repeat' (first | refine yw ?_ | ((with_reducible refine Runs.is ?_); first | refine Runs.region (id := 1) ?_ | ((with_reducible refine Runs.isC ?_); refine Runs.cond rfl (zc ?_) (zc ?_) <;> intro hc <;> (try (first | contradiction | (exfalso; omega; done) | (have : hc = trivial := rfl; clear this; clear hc))))) | ((with_reducible refine r_is ?_); first | refine yr ?_ | (refine r_fn rfl (graph_keep g 56 [.pt (.sl f (b.map prV))] _ hsm hfew (fun c => prune1 f b c) hb56 (by simp only [go_sem, Bool.and_self])) HbF.h zL2 zD ?_; refine r_nn zN zH ?_)) | fail)
  (refine Runs.retC Try.func22 rfl zM rfl TyF.h (And.intro zE zd) zD ?_; try exact zX)
/-- 'is' of the laws. -/
theorem law_is (f : Bool) (nodes : List Config) (hs : Few nodes) : AM.Fn Try.prog 13 [grV ⟨nodes, edgesR nodes⟩, .sl f (nodes.map cfV)] (.b true) := by
  have hs1 := hs.1
  have hb : nodes.length * nodes.length ≤ 10000000000 := Nat.mul_le_mul hs1 hs1
  have hel : (edgesR nodes).length ≤ 10000000000 := Nat.le_trans (edgesN_len _ _ _) hb
  have he := ref_Edges f nodes hs1 hs.2
  generalize edgesR nodes = es at hel he ⊢
  (refine spec_of_runs Try.func13 rfl ?_; simp only [Try.f13]; refine ys ?_)
  repeat' (first | refine yw ?_ | ((with_reducible refine Runs.is ?_); first | refine Runs.region (id := 0) ?_ | refine Runs.region (id := 1) ?_ | refine Runs.region (id := 2) ?_ | refine Runs.region (id := 3) ?_ | refine Runs.region (id := 4) ?_ | ((with_reducible refine Runs.isC ?_); refine Runs.cond rfl (zc ?_) (zc ?_) <;> intro hc <;> (try (first | contradiction | (exfalso; omega; done) | (have : hc = trivial := rfl; clear this; clear hc))))) | ((with_reducible refine r_is ?_); first | refine yr ?_ | (refine r_fn rfl (he) HbF.h zL1 zD ?_; refine r_nn zN zH ?_) | ((with_reducible refine r_gd ?_); (first | refine r_guardPf rfl rfl ?_ ?_ | refine r_guardNf rfl rfl ?_ ?_ | refine r_guard rfl rfl ?_ ?_) <;> intro hG <;> (try (exfalso; omega; done)) <;> refine r_nn zN zH ?_)) | fail)
  all_goals (try (exfalso; simp at hc; done))
  refine Runs.loopI (fun i : Nat => nodes.length - i) (fun i => i ≤ nodes.length)
    (fun i => ⟨[.any, .sl f (nodes.map cfV), .ptr 2 0 0, .any, .any, .sl false (es.map edV), .i (i : Nat), .any, .any, .any, .any, .any, .any, .any, .any, .any, .any, .any, .any, .any, .any, .any, .any, .any, .any, .any, .any, .any, .any, .any, .any, .any, .any, .any, .any, .any, .any, .any, .any, .any, .any, .any, .any, .any, .any, .any, .any, .any, .any, .any, .any, .any, .any, .any, .any, .any, .any], [(2, .var 31 (grV ⟨nodes, es⟩))]⟩) 0 (by simp) ?_ ?_
  · (refine St.Le.clean zR zU zV)
  rintro i h0 ih
  repeat' (first | refine yw ?_ | ((with_reducible refine Runs.is ?_); first | refine Runs.region (id := 5) ?_ | refine Runs.drawn (id := 7) mixed zK ?_ | refine Runs.region (id := 8) ?_ | refine Runs.region (id := 6) ?_ | refine Runs.region (id := 9) ?_ | ((with_reducible refine Runs.isC ?_); refine Runs.cond rfl (zc ?_) (zc ?_) <;> intro hc <;> (try (first | contradiction | (exfalso; omega; done) | (have : hc = trivial := rfl; clear this; clear hc))))) | ((with_reducible refine r_is ?_); first | refine yr ?_) | ((with_reducible refine d_is ?_); first | refine yd ?_ | (refine d_fn rfl (ref_EqualConfig false false _ _) HbF.h zL2 zD ?_; refine d_nn zN zH ?_)) | fail)
  all_goals (try (exfalso; simp at hc; done))
  · refine ih (i + 1) _ zo zo (by (refine St.Le.clean zR zU zV))
  refine Runs.loopI (fun i : Nat => es.length - i) (fun i => i ≤ es.length)
    (fun i => ⟨[.any, .sl f (nodes.map cfV), .ptr 2 0 0, .any, .any, .sl false (es.map edV), .any, .i (i : Nat), .any, .any, .any, .any, .any, .any, .any, .any, .any, .any, .any, .any, .any, .any, .any, .any, .any, .any, .any, .any, .any, .any, .any, .any, .any, .any, .any, .any, .any, .any, .any, .any, .any, .any, .any, .any, .any, .any, .any, .any, .any, .any, .any, .any, .any, .any, .any, .any, .any], [(2, .var 31 (grV ⟨nodes, es⟩))]⟩) 0 (by simp) ?_ ?_
  · (refine St.Le.clean zR zU zV)
  rintro j hj ihj
  repeat' (first | refine yw ?_ | ((with_reducible refine Runs.is ?_); first | refine Runs.region (id := 10) ?_ | refine Runs.drawn (id := 12) mixed zK ?_ | refine Runs.region (id := 13) ?_ | refine Runs.region (id := 11) ?_ | refine Runs.region (id := 14) ?_ | ((with_reducible refine Runs.isC ?_); refine Runs.cond rfl (zc ?_) (zc ?_) <;> intro hc <;> (try (first | contradiction | (exfalso; omega; done) | (have : hc = trivial := rfl; clear this; clear hc))))) | ((with_reducible refine r_is ?_); first | refine yr ?_) | ((with_reducible refine d_is ?_); first | refine yd ?_) | fail)
  all_goals (try (exfalso; simp at hc; done))
  · refine ihj (j + 1) _ zo zo (by (refine St.Le.clean zR zU zV))
  · (refine Runs.ret1 Try.func13 rfl zM zD ?_; try exact zX)
end Go.Proofs
