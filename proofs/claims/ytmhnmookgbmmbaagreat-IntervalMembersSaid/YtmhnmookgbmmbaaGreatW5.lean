/- Vectors: search, Get; Restrict. -/
import Derived.Test.YtmhnmookgbmmbaaGreatW4
set_option linter.unusedVariables false
set_option linter.unusedSimpArgs false
set_option maxRecDepth 8000
set_option pp.deepTerms false
set_option pp.deepTerms.threshold 6
namespace Go.Proofs
open Go.AM
attribute [local irreducible] AM.evalR AM.evalD AM.Runs AM.valK AM.dK AM.opK AM.stepR AM.CallS AM.St.Le

theorem vector_search1 (e : Entry) (a : Int) : AM.Fn Tryz.prog 85 [enV e, .i a] (.i (cmpI e.author a)) := by
  (refine spec_of_runs Tryz.func85 rfl ?_; simp only [Tryz.f85]; refine ys ?_)
  repeat' (first | refine yw ?_ | ((with_reducible refine Runs.is ?_); first | refine Runs.region ?_ | ((with_reducible refine Runs.isC ?_); refine Runs.cond rfl (zc ?_) (zc ?_) <;> intro hc <;> (try (first | contradiction | (exfalso; omega; done) | (have : hc = trivial := rfl; clear this; clear hc))))) | ((with_reducible refine r_is ?_); first | refine yr ?_ | (refine r_fn rfl (cmp_Compare _ _) HbF.h zL2 zD ?_; refine r_nn zN zH ?_)) | fail)
  (refine Runs.ret1 Tryz.func85 rfl zM zD ?_; try exact zX)
theorem bsf_vector (f : Bool) (c : Vector) (p : Int) (g : FuncId) (k : Entry → Int) (hg : ∀ x, AM.Fn Tryz.prog g [enV x, V.i p] (.i (k x))) (hb : hasBody Tryz.prog g) :
    AM.Fn Tryz.prog 84 [.sl f (c.map enV), V.i p, .fn g []]
      (.tup [.i (bs (fun i => k (c.getD i default)) 0 c.length : Nat), .b (decide (bs (fun i => k (c.getD i default)) 0 c.length < c.length ∧ k (c.getD (bs (fun i => k (c.getD i default)) 0 c.length) default) = 0))]) := by
  (refine spec_of_runs Tryz.func84 rfl ?_; simp only [Tryz.f84]; refine ys ?_)
  (refine Runs.lens 0 ?_; refine yl ?_)
  intro hl
  repeat' (first | refine yw ?_ | ((with_reducible refine Runs.is ?_); first | refine Runs.region (id := 0) ?_ | refine Runs.region (id := 1) ?_ | refine Runs.region (id := 2) ?_ | ((with_reducible refine Runs.isC ?_); refine Runs.cond rfl (zc ?_) (zc ?_) <;> intro hc <;> (try (first | contradiction | (exfalso; omega; done) | (have : hc = trivial := rfl; clear this; clear hc))))) | ((with_reducible refine r_is ?_); first | refine yr ?_) | fail)
  refine Runs.loopI (α := Nat × Nat) (fun a => a.2 - a.1) (fun a => a.1 ≤ a.2 ∧ a.2 ≤ c.length ∧ bs (fun i => k (c.getD i default)) a.1 a.2 = bs (fun i => k (c.getD i default)) 0 c.length)
    (fun a => ⟨[.sl f (c.map enV), .i p, .fn g [], .any, .any, .any, .any, .any, .i (c.length : Nat), .i (a.1 : Nat), .i (a.2 : Nat), .any, .any, .any, .any, .any, .any, .any, .any, .any, .any, .any, .any, .any, .any, .any, .any, .any, .any, .any, .any, .any, .any, .any, .any, .any, .any, .any, .any, .any, .any, .any, .any, .any, .any, .any, .any, .any, .any], []⟩) (0, c.length) (by simp) ?_ ?_
  · (refine St.Le.clean zR (by simp [V.usesL, V.uses, AM.look_cons, AM.look_nil, V.uses_data, da_i, da_chV, da_ruV, da_prV, da_enV, da_cfV, da_veV, da_inV, da_edV, da_grV, da_weV, da_mbV, da_suV, da_viV]) (by simp [AM.sub, AM.look_cons, AM.look_nil, V.uses, V.usesL, V.uses_data, da_i, da_chV, da_ruV, da_prV, da_enV, da_cfV, da_veV, da_inV, da_edV, da_grV, da_weV, da_mbV, da_suV, da_viV]))
  rintro ⟨i, j⟩ ⟨h0, h1, h2⟩ ih
  dsimp only at h0 h1 h2
  repeat' (first | refine yw ?_ | ((with_reducible refine Runs.is ?_); first | refine Runs.region (id := 3) ?_ | refine Runs.region (id := 4) ?_ | refine Runs.region (id := 5) ?_ | refine Runs.region (id := 6) ?_ | refine Runs.region (id := 7) ?_ | refine Runs.region (id := 8) ?_ | ((with_reducible refine Runs.isC ?_); refine Runs.cond rfl (zc ?_) (zc ?_) <;> intro hc <;> (try (first | contradiction | (exfalso; omega; done) | (have : hc = trivial := rfl; clear this; clear hc))))) | ((with_reducible refine r_is ?_); first | refine yr ?_ | (refine r_fn rfl (hg _) (hb) zL2 zD ?_; refine r_nn zN zH ?_) | ((with_reducible refine r_gd ?_); (first | refine r_guardPt rfl rfl ?_ ?_ | refine r_guardNt rfl rfl ?_ ?_ | refine r_guard rfl rfl ?_ ?_) <;> intro hG <;> (try (exfalso; omega; done)) <;> refine r_nn zN zH ?_)) | fail)
  · have e : (((i : Int) + (j : Int)) / 2).toNat = (i + j) / 2 := by omega
    rw [e] at hc
    refine ih ((i + j) / 2 + 1, j) _ ⟨by dsimp only; omega, h1, ?_⟩ (by dsimp only; omega) (by (refine St.Le.clean zR (by simp [V.usesL, V.uses, AM.look_cons, AM.look_nil, V.uses_data, da_i, da_chV, da_ruV, da_prV, da_enV, da_cfV, da_veV, da_inV, da_edV, da_grV, da_weV, da_mbV, da_suV, da_viV]) (by simp [AM.sub, AM.look_cons, AM.look_nil, V.uses, V.usesL, V.uses_data, da_i, da_chV, da_ruV, da_prV, da_enV, da_cfV, da_veV, da_inV, da_edV, da_grV, da_weV, da_mbV, da_suV, da_viV])))
    rw [← h2, bs.eq_1 _ i j]; simp_all
  · have e : (((i : Int) + (j : Int)) / 2).toNat = (i + j) / 2 := by omega
    rw [e] at hc
    refine ih (i, (i + j) / 2) _ ⟨by dsimp only; omega, by dsimp only; omega, ?_⟩ (by dsimp only; omega) (by (refine St.Le.clean zR (by simp [V.usesL, V.uses, AM.look_cons, AM.look_nil, V.uses_data, da_i, da_chV, da_ruV, da_prV, da_enV, da_cfV, da_veV, da_inV, da_edV, da_grV, da_weV, da_mbV, da_suV, da_viV]) (by simp [AM.sub, AM.look_cons, AM.look_nil, V.uses, V.usesL, V.uses_data, da_i, da_chV, da_ruV, da_prV, da_enV, da_cfV, da_veV, da_inV, da_edV, da_grV, da_weV, da_mbV, da_suV, da_viV])))
    rw [← h2, bs.eq_1 _ i j, dif_pos (by assumption), if_neg zo]
  all_goals (have e : bs (fun i => k (c.getD i default)) i j = i := by rw [bs.eq_1, dif_neg zo])
  all_goals (rw [e] at h2; (refine Runs.ret2 Tryz.func84 rfl zM zM zD ?_; try exact zX); refine V.Le.of_eq ?_; rw [← h2])
  · have hG' : i < c.length := by omega
    simp [hG']
  · have hG' : ¬ i < c.length := by omega
    simp [hG']
/-- Where an author stands in a vector. -/
def vbs (v : Vector) (a : Int) : Nat := bs (fun i => cmpI (v.getD i default).author a) 0 v.length
theorem vector_search (f : Bool) (v : Vector) (a : Int) : AM.Fn Tryz.prog 61 [.sl f (v.map enV), .i a]
    (.tup [.i (vbs v a : Nat), .b (decide (vbs v a < v.length ∧ cmpI (v.getD (vbs v a) default).author a = 0))]) := by
  (refine spec_of_runs Tryz.func61 rfl ?_; simp only [Tryz.f61]; refine ys ?_)
  repeat' (first | refine yw ?_ | ((with_reducible refine Runs.is ?_); first | refine Runs.region ?_ | ((with_reducible refine Runs.isC ?_); refine Runs.cond rfl (zc ?_) (zc ?_) <;> intro hc <;> (try (first | contradiction | (exfalso; omega; done) | (have : hc = trivial := rfl; clear this; clear hc))))) | ((with_reducible refine r_is ?_); first | refine yr ?_ | (refine r_fn rfl (bsf_vector f v a _ (fun x => cmpI x.author a) (fun x => vector_search1 x a) hb85) HbF.h zL3 zD ?_; refine r_nn zN zH ?_)) | fail)
  (refine Runs.ret2 Tryz.func61 rfl zM zM zD ?_; try exact zX)
/-- 'Get' of package vector. -/
def getV (v : Vector) (a : Int) : Int := if vbs v a < v.length ∧ cmpI (v.getD (vbs v a) default).author a = 0 then (v.getD (vbs v a) default).count else 0
theorem vector_Get (f : Bool) (v : Vector) (a : Int) : AM.Fn Tryz.prog 39 [.sl f (v.map enV), .i a] (.i (getV v a)) := by
  (refine spec_of_runs Tryz.func39 rfl ?_; simp only [Tryz.f39]; refine ys ?_)
  repeat' (first | refine yw ?_ | ((with_reducible refine Runs.is ?_); first | refine Runs.region (id := 0) ?_ | refine Runs.region (id := 1) ?_ | refine Runs.region (id := 2) ?_ | ((with_reducible refine Runs.isC ?_); refine Runs.cond rfl (zc ?_) (zc ?_) <;> intro hc <;> (try (first | contradiction | (exfalso; omega; done) | (have : hc = trivial := rfl; clear this; clear hc))))) | ((with_reducible refine r_is ?_); first | refine yr ?_ | (refine r_fn rfl (vector_search f v a) HbF.h zL2 zD ?_; refine r_nn zN zH ?_)) | fail)
  · repeat' (first | refine yw ?_ | ((with_reducible refine Runs.is ?_); first | refine Runs.region (id := 3) ?_ | ((with_reducible refine Runs.isC ?_); refine Runs.cond rfl (zc ?_) (zc ?_) <;> intro hc <;> (try (first | contradiction | (exfalso; omega; done) | (have : hc = trivial := rfl; clear this; clear hc))))) | ((with_reducible refine r_is ?_); first | refine yr ?_) | fail)
    (refine Runs.ret1 Tryz.func39 rfl zM zD ?_; try exact zX)
    refine V.Le.of_eq (congrArg V.i ?_)
    rw [getV, if_pos (by assumption)]
  · repeat' (first | refine yw ?_ | ((with_reducible refine Runs.is ?_); first | refine Runs.region (id := 4) ?_ | ((with_reducible refine Runs.isC ?_); refine Runs.cond rfl (zc ?_) (zc ?_) <;> intro hc <;> (try (first | contradiction | (exfalso; omega; done) | (have : hc = trivial := rfl; clear this; clear hc))))) | ((with_reducible refine r_is ?_); first | refine yr ?_) | fail)
    (refine Runs.ret1 Tryz.func39 rfl zM zD ?_; try exact zX)
    refine V.Le.of_eq (congrArg V.i ?_)
    rw [getV, if_neg (by assumption)]
theorem config_Restrict1 (f : Bool) (v : Vector) (p : Proposal) : AM.Fn Tryz.prog 60 [prV p, .pt (.sl f (v.map enV))] (.b (decide (p.number ≤ getV v p.admin))) := by
  (refine spec_of_runs Tryz.func60 rfl ?_; simp only [Tryz.f60]; refine ys ?_)
  repeat' (first | refine yw ?_ | ((with_reducible refine Runs.is ?_); first | refine Runs.region ?_ | refine Runs.drawn mixed zK ?_ | ((with_reducible refine Runs.isC ?_); refine Runs.cond rfl (zc ?_) (zc ?_) <;> intro hc <;> (try (first | contradiction | (exfalso; omega; done) | (have : hc = trivial := rfl; clear this; clear hc))))) | ((with_reducible refine r_is ?_); first | refine yr ?_) | ((with_reducible refine d_is ?_); first | refine yd ?_ | (refine d_fn rfl (vector_Get f v _) HbF.h zL2 zD ?_; refine d_nn zN zH ?_)) | fail)
  (refine Runs.ret1 Tryz.func60 rfl zM zD ?_; try exact zX)
/-- 'Restrict' of package config. -/
def restrictV (c : Config) (v : Vector) : Config := c.filter fun p => decide (p.number ≤ getV v p.admin)
theorem config_Restrict (f g : Bool) (c : Config) (v : Vector) (hc : Small c) : AM.Fn Tryz.prog 38 [.sl f (c.map prV), .sl g (v.map enV)] (.sl false ((restrictV c v).map prV)) := by
  (refine spec_of_runs Tryz.func38 rfl ?_; simp only [Tryz.f38]; refine ys ?_)
  repeat' (first | refine yw ?_ | ((with_reducible refine Runs.is ?_); first | refine Runs.region (id := 0) ?_ | ((with_reducible refine Runs.isC ?_); refine Runs.cond rfl (zc ?_) (zc ?_) <;> intro hc <;> (try (first | contradiction | (exfalso; omega; done) | (have : hc = trivial := rfl; clear this; clear hc))))) | ((with_reducible refine r_is ?_); first | refine yr ?_) | fail)
  refine Runs.weaken (St.Le.freeze_var 3 rfl (by simp only [go_sem])) ?_
  simp only [V.frzL, V.frz, frzH, if_true, and_self]
  repeat' (first | refine yw ?_ | ((with_reducible refine Runs.is ?_); first | refine Runs.region (id := 1) ?_ | ((with_reducible refine Runs.isC ?_); refine Runs.cond rfl (zc ?_) (zc ?_) <;> intro hc <;> (try (first | contradiction | (exfalso; omega; done) | (have : hc = trivial := rfl; clear this; clear hc))))) | ((with_reducible refine r_is ?_); first | refine yr ?_ | (refine r_fn rfl (Fn.of_own (config_filter f c 60 [.pt (.sl g (v.map enV))] _ hc (fun p => config_Restrict1 g v p) hb60 (by simp only [go_sem, Bool.and_self]))) HbF.h zL2 zD ?_; refine r_nn zN zH ?_)) | fail)
  (refine Runs.ret1 Tryz.func38 rfl zM zD ?_; try exact zX)
end Go.Proofs
