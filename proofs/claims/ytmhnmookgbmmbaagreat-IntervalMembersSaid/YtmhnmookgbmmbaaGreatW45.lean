/- Package member: Of. -/
import Derived.Test.YtmhnmookgbmmbaaGreatW42
set_option linter.unusedVariables false
set_option linter.unusedSimpArgs false
set_option maxRecDepth 8000
set_option maxHeartbeats 4000000
set_option pp.deepTerms false
set_option pp.deepTerms.threshold 6
namespace Go.Proofs
open Go.AM
attribute [local irreducible] AM.evalR AM.evalD AM.Runs AM.valK AM.dK AM.opK AM.stepR AM.CallS AM.St.Le
/-- What 'Of' has gathered. -/
structure Acc where
  j : List Int
  r : List Int
  m : List (Int × WeightEntry)
  rule : Rule
  ver : Int
  adm : Int
  num : Int
def wC (p : Proposal) (c : Change) : WeightEntry := ⟨c.server, c.weight, c.version, p.admin, p.number⟩
def ofStep (p : Proposal) (s : Acc) (c : Change) : Acc :=
  if c.kind = 1 then { s with j := s.j ++ [c.server], m := if (getI s.m c.server).isSome then s.m else setI s.m c.server (wC p c) }
  else if c.kind = 2 then { s with r := s.r ++ [c.server] }
  else if c.kind = 3 then { s with m := setI s.m c.server (wC p c) }
  else if c.kind = 4 then { s with rule := c.rule, ver := c.version, adm := p.admin, num := p.number }
  else s
def acc0 : Acc := ⟨[], [], [], ⟨0, 0, 0⟩, 0, 0, 0⟩
def ofAcc (p : Proposal) : Acc := p.changes.foldl (ofStep p) acc0
def weightsOf (m : List (Int × WeightEntry)) : List WeightEntry := (upto 1 12).filterMap (getI m)
def ofS (p : Proposal) : Summary := ⟨sortI (ofAcc p).j, sortI (ofAcc p).r, weightsOf (ofAcc p).m, (ofAcc p).rule, (ofAcc p).ver, (ofAcc p).adm, (ofAcc p).num⟩
def accV (s : Acc) : V := .agg [.own 41, .own 63, .own 107, .i s.rule.kind, .i s.rule.columns, .i s.rule.faulty, .i s.ver, .i s.adm, .i s.num]
theorem ofStep_len (p : Proposal) (s : Acc) (c : Change) : (ofStep p s c).j.length ≤ s.j.length + 1 ∧ (ofStep p s c).r.length ≤ s.r.length + 1 := by
  unfold ofStep
  split
  · simp
  · split
    · simp
    · split
      · simp
      · split <;> simp
theorem ofAcc_len (p : Proposal) (k : Nat) (hk : k ≤ p.changes.length) : ((p.changes.take k).foldl (ofStep p) acc0).j.length ≤ k ∧ ((p.changes.take k).foldl (ofStep p) acc0).r.length ≤ k := by
  induction k with
  | zero => simp [acc0]
  | succ k ih =>
    rw [foldl_take zo]
    have := ih zo
    have := ofStep_len p ((p.changes.take k).foldl (ofStep p) acc0) (p.changes.getD k default)
    omega
theorem member_Of (p : Proposal) (hp : p.changes.length ≤ 1000000) (h4 : ∀ c ∈ p.changes, c.kind ≠ 4) : AM.Fn Tryz.prog 67 [prV p] (suV (ofS p)) := by
  (refine spec_of_runs Tryz.func67 rfl ?_; simp only [Tryz.f67]; refine ys ?_)
  repeat' (first | refine yw ?_ | ((with_reducible refine Runs.is ?_); first | refine Runs.region (id := 0) ?_ | refine Runs.region (id := 1) ?_ | refine Runs.region (id := 2) ?_ | refine Runs.region (id := 3) ?_ | ((with_reducible refine Runs.isC ?_); refine Runs.cond rfl (zc ?_) (zc ?_) <;> intro hc <;> (try (first | contradiction | (exfalso; omega; done) | (have : hc = trivial := rfl; clear this; clear hc))))) | ((with_reducible refine r_is ?_); first | refine yr ?_) | fail)
  refine Runs.weaken (St.Le.nilVar 41 3 0 3 1 zd rfl rfl rfl) ?_
  refine Runs.weaken (St.Le.nilVar 63 3 1 3 1 zd rfl rfl rfl) ?_
  refine Runs.weaken (St.Le.nilVar 107 3 2 99 5 zd rfl rfl rfl) ?_
  refine Runs.loopI (fun k : Nat => p.changes.length - k) (fun k => k ≤ p.changes.length)
    (fun k => ⟨[.any, .ptr 1 0 0, .ptr 2 0 0, .ptr 3 0 0, .mp 13, .any, .any, .any, .any, .any, .any, .any, .any, .any, .any, .sl false (p.changes.map chV), .i (p.changes.length : Nat), .i (k : Nat), .any, .any, .any, .any, .any, .any, .any, .any, .any, .any, .any, .any, .any, .any, .any, .any, .any, .any, .any, .any, .any, .any, .any, .any, .any, .any, .any, .any, .any, .any, .any, .any, .any, .any, .any, .any, .any, .any, .any, .any, .any, .any, .any, .any, .any, .any, .any, .any, .any, .any, .any, .any, .any, .any, .any, .any, .any, .any, .any, .any, .any, .any, .any, .any, .any, .any, .any, .any, .any, .any, .any, .any, .any, .any, .any, .any, .any, .any, .any, .any, .any, .any, .any, .any, .any, .any, .any, .any, .any, .any, .any, .any], [(107, .lst 99 5 (([] : List WeightEntry).map weV)), (63, .lst 3 1 (((p.changes.take k).foldl (ofStep p) acc0).r.map .i)), (41, .lst 3 1 (((p.changes.take k).foldl (ofStep p) acc0).j.map .i)), (13, mapO weV ((p.changes.take k).foldl (ofStep p) acc0).m), (3, .var 79 (accV ((p.changes.take k).foldl (ofStep p) acc0))), (2, .var 79 (.agg [.sc (.slice none 0 0), .sc (.slice none 0 0), .sc (.slice none 0 0), .i 0, .i 0, .i 0, .i 0, .i 0, .i 0])), (1, .var 63 (prV p))]⟩) 0 (by simp) ?_ ?_
  · (refine St.Le.clean zR zU zV)
  rintro k hk ih
  have hst := fun (h : k < p.changes.length) => foldl_take (g := ofStep p) (s := acc0) h
  have hend : p.changes.length ≤ k → (p.changes.take k).foldl (ofStep p) acc0 = ofAcc p := fun h => by rw [List.take_of_length_le h]; rfl
  have hlen := ofAcc_len p k hk
  have hmem : k < p.changes.length → (p.changes.getD k default).kind ≠ 4 := fun h => h4 _ (by rw [List.getD_eq_getElem?_getD, List.getElem?_eq_getElem h]; exact List.getElem_mem h)
  generalize (p.changes.take k).foldl (ofStep p) acc0 = s at hst hend hlen ⊢
  obtain ⟨J, R, m, ru, ver, adm, num⟩ := s
  unfold accV
  dsimp only at hlen ⊢
  repeat' (first | refine yw ?_ | ((with_reducible refine Runs.is ?_); first | refine Runs.region (id := 4) ?_ | refine Runs.region (id := 5) ?_ | refine Runs.region (id := 6) ?_ | refine Runs.region (id := 7) ?_ | refine Runs.region (id := 8) ?_ | refine Runs.region (id := 9) ?_ | refine Runs.region (id := 10) ?_ | refine Runs.region (id := 11) ?_ | refine Runs.region (id := 12) ?_ | refine Runs.region (id := 13) ?_ | refine Runs.region (id := 14) ?_ | refine Runs.region (id := 15) ?_ | refine Runs.region (id := 16) ?_ | refine Runs.region (id := 17) ?_ | ((with_reducible refine Runs.isC ?_); refine Runs.cond rfl (zc ?_) (zc ?_) <;> intro hc <;> (try (first | contradiction | (exfalso; omega; done) | (have : hc = trivial := rfl; clear this; clear hc))))) | ((with_reducible refine r_is ?_); first | refine yr ?_ | (refine r_append_full SlF.h SlF.s ZoF.h zd rfl rfl zC zJ zS rfl (fun hn => ?_) (fun hn => ?_) <;> refine r_nn zN zH ?_)) | fail)
  · rename_i h0 h1
    refine r_mapUpd (b := wC p (p.changes.getD k default)) MpF.h rfl rfl rfl rfl zD ?_
    refine r_nn zN zH ?_
    repeat' (first | refine yw ?_ | ((with_reducible refine Runs.is ?_); first | refine Runs.region (id := 12) ?_ | ((with_reducible refine Runs.isC ?_); refine Runs.cond rfl (zc ?_) (zc ?_) <;> intro hc <;> (try (first | contradiction | (exfalso; omega; done) | (have : hc = trivial := rfl; clear this; clear hc))))) | ((with_reducible refine r_is ?_); first | refine yr ?_) | fail)
    repeat' (first | refine yw ?_ | ((with_reducible refine Runs.is ?_); first | refine Runs.region (id := 19) ?_ | ((with_reducible refine Runs.isC ?_); refine Runs.cond rfl (zc ?_) (zc ?_) <;> intro hc <;> (try (first | contradiction | (exfalso; omega; done) | (have : hc = trivial := rfl; clear this; clear hc))))) | ((with_reducible refine r_is ?_); first | refine yr ?_) | fail)
    refine ih (k + 1) _ zo zo ?_
    rw [hst h0, ofStep, if_pos h1, hc]
    (refine St.Le.clean zR zU zV)
  · rename_i h0 h1
    repeat' (first | refine yw ?_ | ((with_reducible refine Runs.is ?_); first | refine Runs.region (id := 19) ?_ | ((with_reducible refine Runs.isC ?_); refine Runs.cond rfl (zc ?_) (zc ?_) <;> intro hc <;> (try (first | contradiction | (exfalso; omega; done) | (have : hc = trivial := rfl; clear this; clear hc))))) | ((with_reducible refine r_is ?_); first | refine yr ?_) | fail)
    refine ih (k + 1) _ zo zo ?_
    rw [hst h0, ofStep, if_pos h1, hc]
    (refine St.Le.clean zR zU zV)
  · rename_i h0 h1
    repeat' (first | refine yw ?_ | ((with_reducible refine Runs.is ?_); first | refine Runs.region (id := 19) ?_ | ((with_reducible refine Runs.isC ?_); refine Runs.cond rfl (zc ?_) (zc ?_) <;> intro hc <;> (try (first | contradiction | (exfalso; omega; done) | (have : hc = trivial := rfl; clear this; clear hc))))) | ((with_reducible refine r_is ?_); first | refine yr ?_) | fail)
    refine ih (k + 1) _ zo zo ?_
    rw [hst h0, ofStep, if_neg h1, if_pos hc]
    (refine St.Le.clean zR zU zV)
  · rename_i h0 h1 h2
    refine r_mapUpd (b := wC p (p.changes.getD k default)) MpF.h rfl rfl rfl rfl zD ?_
    refine r_nn zN zH ?_
    repeat' (first | refine yw ?_ | ((with_reducible refine Runs.is ?_); first | refine Runs.region (id := 16) ?_ | ((with_reducible refine Runs.isC ?_); refine Runs.cond rfl (zc ?_) (zc ?_) <;> intro hc <;> (try (first | contradiction | (exfalso; omega; done) | (have : hc = trivial := rfl; clear this; clear hc))))) | ((with_reducible refine r_is ?_); first | refine yr ?_) | fail)
    repeat' (first | refine yw ?_ | ((with_reducible refine Runs.is ?_); first | refine Runs.region (id := 19) ?_ | ((with_reducible refine Runs.isC ?_); refine Runs.cond rfl (zc ?_) (zc ?_) <;> intro hc <;> (try (first | contradiction | (exfalso; omega; done) | (have : hc = trivial := rfl; clear this; clear hc))))) | ((with_reducible refine r_is ?_); first | refine yr ?_) | fail)
    refine ih (k + 1) _ zo zo ?_
    rw [hst h0, ofStep, if_neg h1, if_neg h2, if_pos hc]
    (refine St.Le.clean zR zU zV)
  · rename_i h0 h1 h2 h3
    repeat' (first | refine yw ?_ | ((with_reducible refine Runs.is ?_); first | refine Runs.region (id := 19) ?_ | ((with_reducible refine Runs.isC ?_); refine Runs.cond rfl (zc ?_) (zc ?_) <;> intro hc <;> (try (first | contradiction | (exfalso; omega; done) | (have : hc = trivial := rfl; clear this; clear hc))))) | ((with_reducible refine r_is ?_); first | refine yr ?_) | fail)
    refine ih (k + 1) _ zo zo ?_
    rw [hst h0, ofStep, if_neg h1, if_neg h2, if_neg h3, if_neg hc]
    (refine St.Le.clean zR zU zV)
  · have he := hend zo
    unfold ofS
    rw [← he]
    dsimp only
    clear hst hend he hmem ih
    repeat' (first | refine yw ?_ | ((with_reducible refine Runs.is ?_); first | refine Runs.region (id := 20) ?_ | refine Runs.region (id := 21) ?_ | refine Runs.region (id := 22) ?_ | ((with_reducible refine Runs.isC ?_); refine Runs.cond rfl (zc ?_) (zc ?_) <;> intro hc <;> (try (first | contradiction | (exfalso; omega; done) | (have : hc = trivial := rfl; clear this; clear hc))))) | ((with_reducible refine r_is ?_); first | refine yr ?_ | (refine r_turn rfl (sort_turns J zo) HbF.h rfl rfl ?_; refine r_nn zN zH ?_) | (refine r_turn rfl (sort_turns R zo) HbF.h rfl rfl ?_; refine r_nn zN zH ?_)) | fail)
    refine Runs.loopI (α := Int) (fun i => (13 - i).toNat) (fun i => 1 ≤ i ∧ i ≤ 13)
      (fun i => ⟨[.any, .any, .ptr 2 0 0, .ptr 3 0 0, .mp 13, .any, .any, .any, .any, .any, .i i, .any, .any, .any, .any, .any, .any, .any, .any, .any, .any, .any, .any, .any, .any, .any, .any, .any, .any, .any, .any, .any, .any, .any, .any, .any, .any, .any, .any, .any, .any, .any, .any, .any, .any, .any, .any, .any, .any, .any, .any, .any, .any, .any, .any, .any, .any, .any, .any, .any, .any, .any, .any, .any, .any, .any, .any, .any, .any, .any, .any, .any, .any, .any, .any, .any, .any, .any, .any, .any, .any, .any, .any, .any, .any, .any, .any, .any, .any, .any, .any, .any, .any, .any, .any, .any, .any, .any, .any, .any, .any, .any, .any, .any, .any, .any, .any, .any, .any, .any], [(107, .lst 99 5 (((upto 1 (i - 1)).filterMap (getI m)).map weV)), (63, .lst 3 1 ((sortI R).map .i)), (41, .lst 3 1 ((sortI J).map .i)), (13, mapO weV m), (3, .var 79 (.agg [.own 41, .own 63, .own 107, .i ru.kind, .i ru.columns, .i ru.faulty, .i ver, .i adm, .i num])), (2, .var 79 (.agg [.sc (.slice none 0 0), .sc (.slice none 0 0), .sc (.slice none 0 0), .i 0, .i 0, .i 0, .i 0, .i 0, .i 0]))]⟩) 1 ⟨by decide, by decide⟩ ?_ ?_
    · rw [show upto 1 (1 - 1) = [] from rfl]
      (refine St.Le.clean zR zU zV)
    rintro i ⟨hi1, hi2⟩ ih
    have hl : ((upto 1 (i - 1)).filterMap (getI m)).length ≤ 12 := by
      have h1 := List.length_filterMap_le (getI m) (upto 1 (i - 1))
      rw [upto_len] at h1; omega
    have hst : (upto 1 (i + 1 - 1)).filterMap (getI m) = (upto 1 (i - 1)).filterMap (getI m) ++ (getI m i).toList := by
      rw [show i + 1 - 1 = i by omega, upto_snoc hi1, List.filterMap_append]
      congr 1
    have hend : ¬ i ≤ 12 → (upto 1 (i - 1)).filterMap (getI m) = weightsOf m := fun h => by rw [show i - 1 = 12 by omega]; rfl
    generalize (upto 1 (i - 1)).filterMap (getI m) = ws at hl hst hend ⊢
    repeat' (first | refine yw ?_ | ((with_reducible refine Runs.is ?_); first | refine Runs.region (id := 23) ?_ | refine Runs.region (id := 25) ?_ | refine Runs.region (id := 26) ?_ | refine Runs.region (id := 27) ?_ | refine Runs.region (id := 24) ?_ | ((with_reducible refine Runs.isC ?_); refine Runs.cond rfl (zc ?_) (zc ?_) <;> intro hc <;> (try (first | contradiction | (exfalso; omega; done) | (have : hc = trivial := rfl; clear this; clear hc))))) | ((with_reducible refine r_is ?_); first | refine yr ?_ | (refine r_append_full SlF.h SlF.s ZoF.h zd rfl rfl zC zJ zS rfl (fun hn => ?_) (fun hn => ?_) <;> refine r_nn zN zH ?_)) | fail)
    · obtain ⟨w, hw⟩ := Option.isSome_iff_exists.1 hc
      rw [hw] at hst
      simp only [hw, Option.getD_some]
      refine ih (i + 1) _ ⟨by omega, by omega⟩ zo ?_
      rw [hst]
      (refine St.Le.clean zR zU zV)
    · have hw : getI m i = none := by cases h : getI m i <;> simp_all
      rw [hw] at hst
      refine ih (i + 1) _ ⟨by omega, by omega⟩ zo ?_
      rw [hst, show ws ++ (none : Option WeightEntry).toList = ws by simp]
      (refine St.Le.clean zR zU zV)
    · have hw := hend zo
      subst hw
      repeat' (first | refine yw ?_ | ((with_reducible refine Runs.is ?_); first | refine Runs.region (id := 28) ?_ | ((with_reducible refine Runs.isC ?_); refine Runs.cond rfl (zc ?_) (zc ?_) <;> intro hc <;> (try (first | contradiction | (exfalso; omega; done) | (have : hc = trivial := rfl; clear this; clear hc))))) | ((with_reducible refine r_is ?_); first | refine yr ?_) | fail)
      (refine Runs.weaken (St.Le.freeze_lst 41 rfl) ?_; refine yf ?_)
      (refine Runs.weaken (St.Le.freeze_lst 63 rfl) ?_; refine yf ?_)
      (refine Runs.weaken (St.Le.freeze_lst 107 rfl) ?_; refine yf ?_)
      (refine Runs.retC Tryz.func67 rfl zM rfl TyF.h (And.intro zE zd) zD ?_; try exact zX)
end Go.Proofs
