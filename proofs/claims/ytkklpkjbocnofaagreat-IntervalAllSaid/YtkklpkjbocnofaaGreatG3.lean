/- Contracts of functions and plain laws: W45, W43, W46, W47, W48, W49, W50, W51, W56, W75, W59, W57. -/
import Derived.Test.YtkklpkjbocnofaaGreatG2
set_option linter.unusedVariables false
set_option linter.unusedSimpArgs false
set_option maxRecDepth 8000
set_option maxHeartbeats 4000000
set_option pp.deepTerms false
set_option pp.deepTerms.threshold 6
namespace Go.Proofs
open Go.AM
attribute [local irreducible] AM.evalR AM.evalD AM.Runs AM.valK AM.dK AM.opK AM.stepR AM.CallS AM.St.Le
structure Acc where
  j : List Int
  r : List Int
  m : List (Int × WeightEntry)
  rule : Rule
  ver : Int
  adm : Int
  num : Int
def wC (p : Proposal) (c : Change) : WeightEntry := ⟨c.server, c.weight, c.version, p.admin, p.number⟩
def ofStep (p : Proposal) (s : Acc) (c : Change) : Acc :=
  if c.kind = 1 then { s with j := s.j ++ [c.server], m := if (getI s.m c.server).isSome then s.m else setI s.m c.server (wC p c) }
  else if c.kind = 2 then { s with r := s.r ++ [c.server] }
  else if c.kind = 3 then { s with m := setI s.m c.server (wC p c) }
  else if c.kind = 4 then { s with rule := c.rule, ver := c.version, adm := p.admin, num := p.number }
  else s
def acc0 : Acc := ⟨[], [], [], ⟨0, 0, 0⟩, 0, 0, 0⟩
def ofAcc (p : Proposal) : Acc := p.changes.foldl (ofStep p) acc0
def weightsOf (m : List (Int × WeightEntry)) : List WeightEntry := (upto 1 12).filterMap (getI m)
def ofS (p : Proposal) : Summary := ⟨sortI (ofAcc p).j, sortI (ofAcc p).r, weightsOf (ofAcc p).m, (ofAcc p).rule, (ofAcc p).ver, (ofAcc p).adm, (ofAcc p).num⟩
def accV (s : Acc) : V := .agg [.own 41, .own 63, .own 107, .i s.rule.kind, .i s.rule.columns, .i s.rule.faulty, .i s.ver, .i s.adm, .i s.num]
theorem ofStep_len (p : Proposal) (s : Acc) (c : Change) : (ofStep p s c).j.length ≤ s.j.length + 1 ∧ (ofStep p s c).r.length ≤ s.r.length + 1 := by
  unfold ofStep
  split
  · simp
  · split
    · simp
    · split
      · simp
      · split <;> simp
theorem ofAcc_len (p : Proposal) (k : Nat) (hk : k ≤ p.changes.length) : ((p.changes.take k).foldl (ofStep p) acc0).j.length ≤ k ∧ ((p.changes.take k).foldl (ofStep p) acc0).r.length ≤ k := by
  induction k with
  | zero => simp [acc0]
  | succ k ih =>
    rw [foldl_take zo]
    have := ih zo
    have := ofStep_len p ((p.changes.take k).foldl (ofStep p) acc0) (p.changes.getD k default)
    omega
theorem shows_of {ids : List (Tmp × Nat)} {slots : List V} (h : ∀ p ∈ ids, ∃ j fo, slots.getD p.1 .any = .ptr p.2 j fo) : Shows ids slots := by
  intro a i hi
  unfold idT at hi
  cases hf : ids.find? fun p => p.1 == a with
  | none => rw [hf] at hi; cases hi
  | some q =>
    rw [hf] at hi
    have h1 := List.mem_of_find?_eq_some hf
    have h2 : (q.1 == a) = true := List.find?_some (p := fun p : Tmp × Nat => p.1 == a) hf
    simp only [Option.map_some, Option.some.injEq] at hi
    have h3 : q.1 = a := by simpa using h2
    rw [← hi, ← h3]; exact h q h1
theorem member_Of (p : Proposal) (hp : p.changes.length ≤ 1000000) : AM.Fn Tryz.prog 66 [prV p] (suV (ofS p)) := by
  (refine spec_of_runs Tryz.func66 rfl ?_; simp only [Tryz.f66]; refine ys ?_)
  repeat' (first | refine yw ?_ | ((with_reducible refine Runs.is ?_); first | refine Runs.region (id := 0) ?_ | refine Runs.region (id := 1) ?_ | refine Runs.region (id := 2) ?_ | refine Runs.region (id := 3) ?_ | ((with_reducible refine Runs.isC ?_); refine Runs.cond rfl (zc ?_) (zc ?_) <;> intro hc <;> (try (first | contradiction | (exfalso; omega; done) | (have : hc = trivial := rfl; clear this; clear hc))))) | ((with_reducible refine r_is ?_); first | refine yr ?_) | fail)
  refine Runs.weaken (St.Le.nilVar 41 3 0 3 1 zd rfl rfl rfl) ?_
  refine Runs.weaken (St.Le.nilVar 63 3 1 3 1 zd rfl rfl rfl) ?_
  refine Runs.weaken (St.Le.nilVar 107 3 2 98 5 zd rfl rfl rfl) ?_
  refine Runs.loopI (fun k : Nat => p.changes.length - k) (fun k => k ≤ p.changes.length)
    (fun k => ⟨[.any, .ptr 1 0 0, .ptr 2 0 0, .ptr 3 0 0, .mp 13, .any, .any, .any, .any, .any, .any, .any, .any, .any, .any, .sl false (p.changes.map chV), .i (p.changes.length : Nat), .i (k : Nat), .any, .any, .any, .any, .any, .any, .any, .any, .any, .any, .any, .any, .any, .any, .any, .any, .any, .any, .any, .any, .any, .any, .any, .any, .any, .any, .any, .any, .any, .any, .any, .any, .any, .any, .any, .any, .any, .any, .any, .any, .any, .any, .any, .any, .any, .any, .any, .any, .any, .any, .any, .any, .any, .any, .any, .any, .any, .any, .any, .any, .any, .any, .any, .any, .any, .any, .any, .any, .any, .any, .any, .any, .any, .any, .any, .any, .any, .any, .any, .any, .any, .any, .any, .any, .any, .any, .any, .any, .any, .any, .any, .any], [(107, .lst 98 5 (([] : List WeightEntry).map weV)), (63, .lst 3 1 (((p.changes.take k).foldl (ofStep p) acc0).r.map .i)), (41, .lst 3 1 (((p.changes.take k).foldl (ofStep p) acc0).j.map .i)), (13, mapO weV ((p.changes.take k).foldl (ofStep p) acc0).m), (3, .var 78 (accV ((p.changes.take k).foldl (ofStep p) acc0))), (2, .var 78 (.agg [.sc (.slice none 0 0), .sc (.slice none 0 0), .sc (.slice none 0 0), .i 0, .i 0, .i 0, .i 0, .i 0, .i 0])), (1, .var 62 (prV p))]⟩) 0 (by simp) ?_ ?_
  · (refine St.Le.clean zR zU zV)
  rintro k hk ih
  have hst := fun (h : k < p.changes.length) => foldl_take (g := ofStep p) (s := acc0) h
  have hend : p.changes.length ≤ k → (p.changes.take k).foldl (ofStep p) acc0 = ofAcc p := fun h => by rw [List.take_of_length_le h]; rfl
  have hlen := ofAcc_len p k hk
  generalize (p.changes.take k).foldl (ofStep p) acc0 = s at hst hend hlen ⊢
  obtain ⟨J, R, m, ru, ver, adm, num⟩ := s
  unfold accV
  dsimp only at hlen ⊢
  repeat' (first | refine yw ?_ | ((with_reducible refine Runs.is ?_); first | refine Runs.region (id := 4) ?_ | refine Runs.region (id := 5) ?_ | refine Runs.region (id := 6) ?_ | refine Runs.region (id := 7) ?_ | refine Runs.region (id := 8) ?_ | refine Runs.region (id := 9) ?_ | refine Runs.region (id := 10) ?_ | refine Runs.region (id := 11) ?_ | refine Runs.region (id := 12) ?_ | refine Runs.region (id := 13) ?_ | refine Runs.region (id := 14) ?_ | refine Runs.region (id := 15) ?_ | refine Runs.region (id := 16) ?_ | refine Runs.region (id := 17) ?_ | ((with_reducible refine Runs.isC ?_); refine Runs.cond rfl (zc ?_) (zc ?_) <;> intro hc <;> (try (first | contradiction | (exfalso; omega; done) | (have : hc = trivial := rfl; clear this; clear hc))))) | ((with_reducible refine r_is ?_); first | refine yr ?_ | (refine r_append_full SlF.h SlF.s ZoF.h zd rfl rfl zC zJ zS rfl (fun hn => ?_) (fun hn => ?_) <;> refine r_nn zN zH ?_)) | fail)
  · rename_i h0 h1
    refine r_mapUpd (b := wC p (p.changes.getD k default)) MpF.h rfl rfl rfl rfl zD ?_
    refine r_nn zN zH ?_
    repeat' (first | refine yw ?_ | ((with_reducible refine Runs.is ?_); first | refine Runs.region (id := 12) ?_ | ((with_reducible refine Runs.isC ?_); refine Runs.cond rfl (zc ?_) (zc ?_) <;> intro hc <;> (try (first | contradiction | (exfalso; omega; done) | (have : hc = trivial := rfl; clear this; clear hc))))) | ((with_reducible refine r_is ?_); first | refine yr ?_) | fail)
    repeat' (first | refine yw ?_ | ((with_reducible refine Runs.is ?_); first | refine Runs.region (id := 19) ?_ | ((with_reducible refine Runs.isC ?_); refine Runs.cond rfl (zc ?_) (zc ?_) <;> intro hc <;> (try (first | contradiction | (exfalso; omega; done) | (have : hc = trivial := rfl; clear this; clear hc))))) | ((with_reducible refine r_is ?_); first | refine yr ?_) | fail)
    refine ih (k + 1) _ zo zo ?_
    rw [hst h0, ofStep, if_pos h1, hc]
    (refine St.Le.clean zR zU zV)
  · rename_i h0 h1
    repeat' (first | refine yw ?_ | ((with_reducible refine Runs.is ?_); first | refine Runs.region (id := 19) ?_ | ((with_reducible refine Runs.isC ?_); refine Runs.cond rfl (zc ?_) (zc ?_) <;> intro hc <;> (try (first | contradiction | (exfalso; omega; done) | (have : hc = trivial := rfl; clear this; clear hc))))) | ((with_reducible refine r_is ?_); first | refine yr ?_) | fail)
    refine ih (k + 1) _ zo zo ?_
    rw [hst h0, ofStep, if_pos h1, hc]
    (refine St.Le.clean zR zU zV)
  · rename_i h0 h1
    repeat' (first | refine yw ?_ | ((with_reducible refine Runs.is ?_); first | refine Runs.region (id := 19) ?_ | ((with_reducible refine Runs.isC ?_); refine Runs.cond rfl (zc ?_) (zc ?_) <;> intro hc <;> (try (first | contradiction | (exfalso; omega; done) | (have : hc = trivial := rfl; clear this; clear hc))))) | ((with_reducible refine r_is ?_); first | refine yr ?_) | fail)
    refine ih (k + 1) _ zo zo ?_
    rw [hst h0, ofStep, if_neg h1, if_pos hc]
    (refine St.Le.clean zR zU zV)
  · rename_i h0 h1 h2
    refine r_mapUpd (b := wC p (p.changes.getD k default)) MpF.h rfl rfl rfl rfl zD ?_
    refine r_nn zN zH ?_
    repeat' (first | refine yw ?_ | ((with_reducible refine Runs.is ?_); first | refine Runs.region (id := 16) ?_ | ((with_reducible refine Runs.isC ?_); refine Runs.cond rfl (zc ?_) (zc ?_) <;> intro hc <;> (try (first | contradiction | (exfalso; omega; done) | (have : hc = trivial := rfl; clear this; clear hc))))) | ((with_reducible refine r_is ?_); first | refine yr ?_) | fail)
    repeat' (first | refine yw ?_ | ((with_reducible refine Runs.is ?_); first | refine Runs.region (id := 19) ?_ | ((with_reducible refine Runs.isC ?_); refine Runs.cond rfl (zc ?_) (zc ?_) <;> intro hc <;> (try (first | contradiction | (exfalso; omega; done) | (have : hc = trivial := rfl; clear this; clear hc))))) | ((with_reducible refine r_is ?_); first | refine yr ?_) | fail)
    refine ih (k + 1) _ zo zo ?_
    rw [hst h0, ofStep, if_neg h1, if_neg h2, if_pos hc]
    (refine St.Le.clean zR zU zV)
  · rename_i h0 h1 h2 h3
    refine Runs.drawnF [(73, 6), (75, 6), (77, 1), (79, 1), (81, 3), (82, 3), (83, 3), (84, 3)] mixed zK ?_
    refine yd ?_
    refine And.intro (shows_of (by intro p hp; simp only [List.mem_cons, List.not_mem_nil, or_false] at hp; rcases hp with rfl | rfl | rfl | rfl | rfl | rfl | rfl | rfl <;> exact ⟨_, _, rfl⟩)) ?_
    repeat' (first | refine yw ?_ | ((with_reducible refine Runs.is ?_); first | refine Runs.region (id := 19) ?_ | ((with_reducible refine Runs.isC ?_); refine Runs.cond rfl (zc ?_) (zc ?_) <;> intro hc <;> (try (first | contradiction | (exfalso; omega; done) | (have : hc = trivial := rfl; clear this; clear hc))))) | ((with_reducible refine r_is ?_); first | refine yr ?_) | fail)
    refine ih (k + 1) _ zo zo ?_
    rw [hst h0, ofStep, if_neg h1, if_neg h2, if_neg h3, if_pos hc]
    (refine St.Le.clean zR zU zV)
  · rename_i h0 h1 h2 h3
    repeat' (first | refine yw ?_ | ((with_reducible refine Runs.is ?_); first | refine Runs.region (id := 19) ?_ | ((with_reducible refine Runs.isC ?_); refine Runs.cond rfl (zc ?_) (zc ?_) <;> intro hc <;> (try (first | contradiction | (exfalso; omega; done) | (have : hc = trivial := rfl; clear this; clear hc))))) | ((with_reducible refine r_is ?_); first | refine yr ?_) | fail)
    refine ih (k + 1) _ zo zo ?_
    rw [hst h0, ofStep, if_neg h1, if_neg h2, if_neg h3, if_neg hc]
    (refine St.Le.clean zR zU zV)
  · have he := hend zo
    unfold ofS
    rw [← he]
    dsimp only
    clear hst hend he ih
    repeat' (first | refine yw ?_ | ((with_reducible refine Runs.is ?_); first | refine Runs.region (id := 20) ?_ | refine Runs.region (id := 21) ?_ | refine Runs.region (id := 22) ?_ | ((with_reducible refine Runs.isC ?_); refine Runs.cond rfl (zc ?_) (zc ?_) <;> intro hc <;> (try (first | contradiction | (exfalso; omega; done) | (have : hc = trivial := rfl; clear this; clear hc))))) | ((with_reducible refine r_is ?_); first | refine yr ?_ | (refine r_turn rfl (sort_turns J zo) HbF.h rfl rfl ?_; refine r_nn zN zH ?_) | (refine r_turn rfl (sort_turns R zo) HbF.h rfl rfl ?_; refine r_nn zN zH ?_)) | fail)
    refine Runs.loopI (α := Int) (fun i => (13 - i).toNat) (fun i => 1 ≤ i ∧ i ≤ 13)
      (fun i => ⟨[.any, .any, .ptr 2 0 0, .ptr 3 0 0, .mp 13, .any, .any, .any, .any, .any, .i i, .any, .any, .any, .any, .any, .any, .any, .any, .any, .any, .any, .any, .any, .any, .any, .any, .any, .any, .any, .any, .any, .any, .any, .any, .any, .any, .any, .any, .any, .any, .any, .any, .any, .any, .any, .any, .any, .any, .any, .any, .any, .any, .any, .any, .any, .any, .any, .any, .any, .any, .any, .any, .any, .any, .any, .any, .any, .any, .any, .any, .any, .any, .any, .any, .any, .any, .any, .any, .any, .any, .any, .any, .any, .any, .any, .any, .any, .any, .any, .any, .any, .any, .any, .any, .any, .any, .any, .any, .any, .any, .any, .any, .any, .any, .any, .any, .any, .any, .any], [(107, .lst 98 5 (((upto 1 (i - 1)).filterMap (getI m)).map weV)), (63, .lst 3 1 ((sortI R).map .i)), (41, .lst 3 1 ((sortI J).map .i)), (13, mapO weV m), (3, .var 78 (.agg [.own 41, .own 63, .own 107, .i ru.kind, .i ru.columns, .i ru.faulty, .i ver, .i adm, .i num])), (2, .var 78 (.agg [.sc (.slice none 0 0), .sc (.slice none 0 0), .sc (.slice none 0 0), .i 0, .i 0, .i 0, .i 0, .i 0, .i 0]))]⟩) 1 ⟨by decide, by decide⟩ ?_ ?_
    · rw [show upto 1 (1 - 1) = [] from rfl]
      (refine St.Le.clean zR zU zV)
    rintro i ⟨hi1, hi2⟩ ih
    have hl : ((upto 1 (i - 1)).filterMap (getI m)).length ≤ 12 := by
      have h1 := List.length_filterMap_le (getI m) (upto 1 (i - 1))
      rw [upto_len] at h1; omega
    have hst : (upto 1 (i + 1 - 1)).filterMap (getI m) = (upto 1 (i - 1)).filterMap (getI m) ++ (getI m i).toList := by
      rw [show i + 1 - 1 = i by omega, upto_snoc hi1, List.filterMap_append]
      congr 1
    have hend : ¬ i ≤ 12 → (upto 1 (i - 1)).filterMap (getI m) = weightsOf m := fun h => by rw [show i - 1 = 12 by omega]; rfl
    generalize (upto 1 (i - 1)).filterMap (getI m) = ws at hl hst hend ⊢
    repeat' (first | refine yw ?_ | ((with_reducible refine Runs.is ?_); first | refine Runs.region (id := 23) ?_ | refine Runs.region (id := 25) ?_ | refine Runs.region (id := 26) ?_ | refine Runs.region (id := 27) ?_ | refine Runs.region (id := 24) ?_ | ((with_reducible refine Runs.isC ?_); refine Runs.cond rfl (zc ?_) (zc ?_) <;> intro hc <;> (try (first | contradiction | (exfalso; omega; done) | (have : hc = trivial := rfl; clear this; clear hc))))) | ((with_reducible refine r_is ?_); first | refine yr ?_ | (refine r_append_full SlF.h SlF.s ZoF.h zd rfl rfl zC zJ zS rfl (fun hn => ?_) (fun hn => ?_) <;> refine r_nn zN zH ?_)) | fail)
    · obtain ⟨w, hw⟩ := Option.isSome_iff_exists.1 hc
      rw [hw] at hst
      simp only [hw, Option.getD_some]
      refine ih (i + 1) _ ⟨by omega, by omega⟩ zo ?_
      rw [hst]
      (refine St.Le.clean zR zU zV)
    · have hw : getI m i = none := by cases h : getI m i <;> simp_all
      rw [hw] at hst
      refine ih (i + 1) _ ⟨by omega, by omega⟩ zo ?_
      rw [hst, show ws ++ (none : Option WeightEntry).toList = ws by simp]
      (refine St.Le.clean zR zU zV)
    · have hw := hend zo
      subst hw
      repeat' (first | refine yw ?_ | ((with_reducible refine Runs.is ?_); first | refine Runs.region (id := 28) ?_ | ((with_reducible refine Runs.isC ?_); refine Runs.cond rfl (zc ?_) (zc ?_) <;> intro hc <;> (try (first | contradiction | (exfalso; omega; done) | (have : hc = trivial := rfl; clear this; clear hc))))) | ((with_reducible refine r_is ?_); first | refine yr ?_) | fail)
      (refine Runs.weaken (St.Le.freeze_lst 41 rfl) ?_; refine yf ?_)
      (refine Runs.weaken (St.Le.freeze_lst 63 rfl) ?_; refine yf ?_)
      (refine Runs.weaken (St.Le.freeze_lst 107 rfl) ?_; refine yf ?_)
      (refine Runs.retC Tryz.func66 rfl zM rfl TyF.h (And.intro zE zd) zD ?_; try exact zX)
end Go.Proofs
namespace Go.Proofs
open Go.AM
attribute [local irreducible] AM.evalR AM.evalD AM.Runs AM.valK AM.dK AM.opK AM.stepR AM.CallS AM.St.Le
def wOf (m : Member) : WeightEntry := ⟨m.server, m.weight, 0, 0, 0⟩
def initS (g : View) : Summary := ⟨g.members.map (·.server), [], g.members.map wOf, g.rule, 0, 0, 0⟩
theorem member_Initial (g : View) (hg : g.members.length ≤ 1000000) : AM.Fn Tryz.prog 64 [viV g] (suV (initS g)) := by
  obtain ⟨ms, r⟩ := g
  dsimp only at hg
  (refine spec_of_runs Tryz.func64 rfl ?_; simp only [Tryz.f64]; refine ys ?_)
  repeat' (first | refine yw ?_ | ((with_reducible refine Runs.is ?_); first | refine Runs.region (id := 0) ?_ | refine Runs.region (id := 1) ?_ | refine Runs.region (id := 2) ?_ | ((with_reducible refine Runs.isC ?_); refine Runs.cond rfl (zc ?_) (zc ?_) <;> intro hc <;> (try (first | contradiction | (exfalso; omega; done) | (have : hc = trivial := rfl; clear this; clear hc))))) | ((with_reducible refine r_is ?_); first | refine yr ?_) | fail)
  refine Runs.weaken (St.Le.nilVar 21 3 0 3 1 zd rfl rfl rfl) ?_
  refine Runs.weaken (St.Le.nilVar 31 3 2 98 5 zd rfl rfl rfl) ?_
  refine Runs.loopI (fun k : Nat => ms.length - k) (fun k => k ≤ ms.length)
    (fun k => ⟨[.any, .any, .ptr 2 0 0, .ptr 3 0 0, .any, .any, .any, .any, .any, .any, .sl false (ms.map mbV), .i (ms.length : Nat), .i (k : Nat), .any, .any, .any, .any, .any, .any, .any, .any, .any, .any, .any, .any, .any, .any, .any, .any, .any, .any, .any, .any, .any, .any], [(31, .lst 98 5 (((ms.take k).map wOf).map weV)), (21, .lst 3 1 (((ms.take k).map (·.server)).map .i)), (3, .var 78 (.agg [.own 21, .sc (.slice none 0 0), .own 31, .i r.kind, .i r.columns, .i r.faulty, .i 0, .i 0, .i 0])), (2, .var 78 (.agg [.sc (.slice none 0 0), .sc (.slice none 0 0), .sc (.slice none 0 0), .i 0, .i 0, .i 0, .i 0, .i 0, .i 0]))]⟩) 0 (by simp) ?_ ?_
  · (refine St.Le.clean zR zU zV)
  rintro k hk ih
  have hst := fun (h : k < ms.length) => take_getD (xs := ms) h
  have hl1 : ((ms.take k).map wOf).length ≤ 1000000 := by simp; omega
  have hl2 : ((ms.take k).map (·.server)).length ≤ 1000000 := by simp; omega
  by_cases hlt : k < ms.length
  · have hst2 := hst hlt
    repeat' (first | refine yw ?_ | ((with_reducible refine Runs.is ?_); first | refine Runs.region (id := 3) ?_ | refine Runs.region (id := 4) ?_ | refine Runs.region (id := 5) ?_ | refine Runs.region (id := 6) ?_ | refine Runs.region (id := 7) ?_ | ((with_reducible refine Runs.isC ?_); refine Runs.cond rfl (zc ?_) (zc ?_) <;> intro hc <;> (try (first | contradiction | (exfalso; omega; done) | (have : hc = trivial := rfl; clear this; clear hc))))) | ((with_reducible refine r_is ?_); first | refine yr ?_ | (refine r_append_full SlF.h SlF.s ZoF.h zd rfl rfl zC zJ zS rfl (fun hn => ?_) (fun hn => ?_) <;> refine r_nn zN zH ?_)) | fail)
    refine ih (k + 1) _ zo zo ?_
    rw [hst2]
    (refine St.Le.clean zR (by first | (simp [V.usesL, V.uses, AM.look_cons]; done) | (simp [V.usesL, V.uses, AM.look_cons, V.usesL_data, V.uses_data, da_i, da_chV, da_ruV, da_prV, da_enV, da_cfV, da_veV, da_inV, da_edV, da_grV, da_weV, da_mbV, da_suV, da_viV]; done)) ?_; (repeat' (first | exact True.intro | refine And.intro ?_ ?_)); all_goals (first | rfl | (simp [AM.look_cons, weV, wOf]; done) | (simp [V.uses, V.usesL, AM.look_cons, V.usesL_data, V.uses_data, da_i, da_chV, da_ruV, da_prV, da_enV, da_cfV, da_veV, da_inV, da_edV, da_grV, da_weV, da_mbV, da_suV, da_viV]; done)))
  · have hk2 : k = ms.length := by omega
    subst hk2
    rw [List.take_length] at hl1 hl2 ⊢
    repeat' (first | refine yw ?_ | ((with_reducible refine Runs.is ?_); first | refine Runs.region (id := 3) ?_ | ((with_reducible refine Runs.isC ?_); refine Runs.cond rfl (zc ?_) (zc ?_) <;> intro hc <;> (try (first | contradiction | (exfalso; omega; done) | (have : hc = trivial := rfl; clear this; clear hc))))) | ((with_reducible refine r_is ?_); first | refine yr ?_) | fail)
    repeat' (first | refine yw ?_ | ((with_reducible refine Runs.is ?_); first | refine Runs.region (id := 8) ?_ | ((with_reducible refine Runs.isC ?_); refine Runs.cond rfl (zc ?_) (zc ?_) <;> intro hc <;> (try (first | contradiction | (exfalso; omega; done) | (have : hc = trivial := rfl; clear this; clear hc))))) | ((with_reducible refine r_is ?_); first | refine yr ?_) | fail)
    (refine Runs.weaken (St.Le.freeze_lst 21 rfl) ?_; refine yf ?_)
    (refine Runs.weaken (St.Le.freeze_lst 31 rfl) ?_; refine yf ?_)
    (refine Runs.retC Tryz.func64 rfl zM rfl TyF.h (And.intro zE zd) zD ?_; try exact zX)
def weightIn (ws : List WeightEntry) (x : Int) (n : Int) : Int := ws.foldl (fun n w => if w.server = x then w.weight else n) n
def viewMs (s : Summary) : List Member := (s.joined.filter fun x => !s.removed.contains x).map fun x => ⟨x, weightIn s.weights x 1⟩
def viewRule (r : Rule) : Rule := if r = ⟨0, 0, 0⟩ then ⟨1, 0, 0⟩ else r
def viewS (s : Summary) : View := ⟨viewMs s, viewRule s.rule⟩
end Go.Proofs
namespace Go.Proofs
open Go.AM
attribute [local irreducible] AM.evalR AM.evalD AM.Runs AM.valK AM.dK AM.opK AM.stepR AM.CallS AM.St.Le
def vAcc (R : List Int) (W : List WeightEntry) (l : List Int) : List Member := (l.filter fun x => !R.contains x).map fun x => ⟨x, weightIn W x 1⟩
theorem vAcc_snoc (R : List Int) (W : List WeightEntry) (l : List Int) (x : Int) : vAcc R W (l ++ [x]) = vAcc R W l ++ (if R.contains x = true then [] else [⟨x, weightIn W x 1⟩]) := by
  unfold vAcc
  rw [List.filter_append, List.map_append]
  congr 1
  by_cases h : x ∈ R <;> simp [h]
theorem vAcc_len (R : List Int) (W : List WeightEntry) (l : List Int) : (vAcc R W l).length ≤ l.length := by
  unfold vAcc; rw [List.length_map]; exact List.length_filter_le _ _
theorem member_View (s : Summary) (hs : s.joined.length ≤ 1000000) (hw0 : s.weights.length ≤ 1000000) : AM.Fn Tryz.prog 40 [suV s] (viV (viewS s)) := by
  obtain ⟨J, R, W, ru, ver, adm, num⟩ := s
  dsimp only at hs hw0
  (refine spec_of_runs Tryz.func40 rfl ?_; simp only [Tryz.f40]; refine ys ?_)
  repeat' (first | refine yw ?_ | ((with_reducible refine Runs.is ?_); first | refine Runs.region (id := 0) ?_ | refine Runs.region (id := 1) ?_ | refine Runs.region (id := 2) ?_ | refine Runs.region (id := 3) ?_ | refine Runs.region (id := 4) ?_ | ((with_reducible refine Runs.isC ?_); refine Runs.cond rfl (zc ?_) (zc ?_) <;> intro hc <;> (try (first | contradiction | (exfalso; omega; done) | (have : hc = trivial := rfl; clear this; clear hc))))) | ((with_reducible refine r_is ?_); first | refine yr ?_) | fail)
  · have hr : ru = ⟨0, 0, 0⟩ := hc
    clear hc
    subst hr
    rw [show viewS ⟨J, R, W, ⟨0, 0, 0⟩, ver, adm, num⟩ = ⟨vAcc R W J, ⟨1, 0, 0⟩⟩ from rfl]
    refine Runs.weaken (St.Le.nilVar 50 3 0 53 2 zd rfl rfl rfl) ?_
    refine Runs.loopI (fun k : Nat => J.length - k) (fun k => k ≤ J.length)
      (fun k => ⟨[.any, .ptr 1 0 0, .ptr 2 0 0, .ptr 3 0 0, .any, .any, .any, .any, .any, .any, .any, .any, .any, .any, .any, .any, .any, .any, .any, .sl false (J.map .i), .i (J.length : Nat), .i (k : Nat), .any, .any, .any, .any, .any, .any, .any, .any, .any, .any, .any, .any, .any, .any, .any, .any, .any, .any, .any, .any, .any, .any, .any, .any, .any, .any, .any, .any, .any, .any, .any, .any], [(50, .lst 53 2 ((vAcc R W (J.take k)).map mbV)), (3, .var 41 (.agg [.own 50, .i (⟨1, 0, 0⟩ : Rule).kind, .i (⟨1, 0, 0⟩ : Rule).columns, .i (⟨1, 0, 0⟩ : Rule).faulty])), (2, .var 41 (.agg [.sc (.slice none 0 0), .i 0, .i 0, .i 0])), (1, .var 78 (suV ⟨J, R, W, ⟨0, 0, 0⟩, ver, adm, num⟩))]⟩) 0 (by simp) ?_ ?_
    · (refine St.Le.clean zR zU zV)
    rintro k hk ih
    have hst := fun (h : k < J.length) => vAcc_snoc R W (J.take k) (J.getD k default)
    have htk := fun (h : k < J.length) => take_getD (xs := J) h
    have hend : J.length ≤ k → vAcc R W (J.take k) = vAcc R W J := fun h => by rw [List.take_of_length_le h]
    have hl : (vAcc R W (J.take k)).length ≤ 1000000 := by
      have := vAcc_len R W (J.take k)
      rw [List.length_take] at this; omega
    generalize vAcc R W (J.take k) = acc at hst hend hl ⊢
    repeat' (first | refine yw ?_ | ((with_reducible refine Runs.is ?_); first | refine Runs.region (id := 5) ?_ | refine Runs.region (id := 6) ?_ | refine Runs.region (id := 7) ?_ | refine Runs.region (id := 8) ?_ | refine Runs.region (id := 9) ?_ | ((with_reducible refine Runs.isC ?_); refine Runs.cond rfl (zc ?_) (zc ?_) <;> intro hc <;> (try (first | contradiction | (exfalso; omega; done) | (have : hc = trivial := rfl; clear this; clear hc))))) | ((with_reducible refine r_is ?_); first | refine yr ?_ | (refine r_fn rfl (contains_ints false _ _) HbF.h zL2 zD ?_; refine r_nn zN zH ?_)) | fail)
    · rename_i h0
      repeat' (first | refine yw ?_ | ((with_reducible refine Runs.is ?_); first | refine Runs.region (id := 16) ?_ | ((with_reducible refine Runs.isC ?_); refine Runs.cond rfl (zc ?_) (zc ?_) <;> intro hc <;> (try (first | contradiction | (exfalso; omega; done) | (have : hc = trivial := rfl; clear this; clear hc))))) | ((with_reducible refine r_is ?_); first | refine yr ?_) | fail)
      refine ih (k + 1) _ zo zo ?_
      rw [htk h0, hst h0, if_pos hc, List.append_nil]
      (refine St.Le.clean zR zU zV)
    · rename_i h0
      have hst2 := hst h0
      have htk2 := htk h0
      rw [if_neg (by rw [hc]; decide)] at hst2
      generalize J.getD k default = x at hst2 htk2 ⊢
      clear hst htk
      refine Runs.loopI (fun j : Nat => W.length - j) (fun j => j ≤ W.length)
        (fun j => ⟨[.any, .ptr 1 0 0, .ptr 2 0 0, .ptr 3 0 0, .any, .i x, .ptr 6 0 0, .any, .any, .any, .any, .any, .any, .any, .any, .any, .any, .any, .any, .sl false (J.map .i), .i (J.length : Nat), .i (k : Nat), .any, .any, .any, .any, .any, .any, .any, .any, .any, .any, .sl false (W.map weV), .i (W.length : Nat), .i (j : Nat), .any, .any, .any, .any, .any, .any, .any, .any, .any, .any, .any, .any, .any, .any, .any, .any, .any, .any, .any], [(6, .var 53 (mbV ⟨x, weightIn (W.take j) x 1⟩)), (50, .lst 53 2 (acc.map mbV)), (3, .var 41 (.agg [.own 50, .i (⟨1, 0, 0⟩ : Rule).kind, .i (⟨1, 0, 0⟩ : Rule).columns, .i (⟨1, 0, 0⟩ : Rule).faulty])), (2, .var 41 (.agg [.sc (.slice none 0 0), .i 0, .i 0, .i 0])), (1, .var 78 (suV ⟨J, R, W, ⟨0, 0, 0⟩, ver, adm, num⟩))]⟩) 0 (by simp) ?_ ?_
      · (refine St.Le.clean zR zU zV)
      rintro j hj ihj
      have hw := fun (h : j < W.length) => foldl_take (g := fun n (w : WeightEntry) => if w.server = x then w.weight else n) (s := (1 : Int)) h
      have hwe : W.length ≤ j → weightIn (W.take j) x 1 = weightIn W x 1 := fun h => by rw [List.take_of_length_le h]
      change j < W.length → weightIn (W.take (j + 1)) x 1 = (fun n (w : WeightEntry) => if w.server = x then w.weight else n) (weightIn (W.take j) x 1) (W.getD j default) at hw
      dsimp only at hw
      generalize weightIn (W.take j) x 1 = n at hw hwe ⊢
      repeat' (first | refine yw ?_ | ((with_reducible refine Runs.is ?_); first | refine Runs.region (id := 10) ?_ | refine Runs.region (id := 11) ?_ | refine Runs.region (id := 12) ?_ | refine Runs.region (id := 13) ?_ | ((with_reducible refine Runs.isC ?_); refine Runs.cond rfl (zc ?_) (zc ?_) <;> intro hc <;> (try (first | contradiction | (exfalso; omega; done) | (have : hc = trivial := rfl; clear this; clear hc))))) | ((with_reducible refine r_is ?_); first | refine yr ?_) | fail)
      · rename_i h1
        repeat' (first | refine yw ?_ | ((with_reducible refine Runs.is ?_); first | refine Runs.region (id := 14) ?_ | ((with_reducible refine Runs.isC ?_); refine Runs.cond rfl (zc ?_) (zc ?_) <;> intro hc <;> (try (first | contradiction | (exfalso; omega; done) | (have : hc = trivial := rfl; clear this; clear hc))))) | ((with_reducible refine r_is ?_); first | refine yr ?_) | fail)
        refine ihj (j + 1) _ zo zo ?_
        rw [hw h1, if_pos hc]
        (refine St.Le.clean zR zU zV)
      · rename_i h1
        repeat' (first | refine yw ?_ | ((with_reducible refine Runs.is ?_); first | refine Runs.region (id := 14) ?_ | ((with_reducible refine Runs.isC ?_); refine Runs.cond rfl (zc ?_) (zc ?_) <;> intro hc <;> (try (first | contradiction | (exfalso; omega; done) | (have : hc = trivial := rfl; clear this; clear hc))))) | ((with_reducible refine r_is ?_); first | refine yr ?_) | fail)
        refine ihj (j + 1) _ zo zo ?_
        rw [hw h1, if_neg hc]
        (refine St.Le.clean zR zU zV)
      · have := hwe zo
        subst this
        repeat' (first | refine yw ?_ | ((with_reducible refine Runs.is ?_); first | refine Runs.region (id := 15) ?_ | refine Runs.region (id := 16) ?_ | ((with_reducible refine Runs.isC ?_); refine Runs.cond rfl (zc ?_) (zc ?_) <;> intro hc <;> (try (first | contradiction | (exfalso; omega; done) | (have : hc = trivial := rfl; clear this; clear hc))))) | ((with_reducible refine r_is ?_); first | refine yr ?_ | (refine r_append_full SlF.h SlF.s ZoF.h zd rfl rfl zC zJ zS rfl (fun hn => ?_) (fun hn => ?_) <;> refine r_nn zN zH ?_)) | fail)
        refine ih (k + 1) _ zo zo ?_
        rw [htk2, hst2]
        (refine St.Le.clean zR zU zV)
    · have he := hend zo
      subst he
      repeat' (first | refine yw ?_ | ((with_reducible refine Runs.is ?_); first | refine Runs.region (id := 17) ?_ | ((with_reducible refine Runs.isC ?_); refine Runs.cond rfl (zc ?_) (zc ?_) <;> intro hc <;> (try (first | contradiction | (exfalso; omega; done) | (have : hc = trivial := rfl; clear this; clear hc))))) | ((with_reducible refine r_is ?_); first | refine yr ?_) | fail)
      (refine Runs.weaken (St.Le.freeze_lst 50 rfl) ?_; refine yf ?_)
      (refine Runs.retC Tryz.func40 rfl zM rfl TyF.h (And.intro zE zd) zD ?_; try exact zX)
  · have hr : ¬ ru = ⟨0, 0, 0⟩ := hc
    clear hc
    rw [show viewS ⟨J, R, W, ru, ver, adm, num⟩ = ⟨vAcc R W J, ru⟩ from by unfold viewS viewRule; rw [if_neg hr]; rfl]
    refine Runs.weaken (St.Le.nilVar 50 3 0 53 2 zd rfl rfl rfl) ?_
    refine Runs.loopI (fun k : Nat => J.length - k) (fun k => k ≤ J.length)
      (fun k => ⟨[.any, .ptr 1 0 0, .ptr 2 0 0, .ptr 3 0 0, .any, .any, .any, .any, .any, .any, .any, .any, .any, .any, .any, .any, .any, .any, .any, .sl false (J.map .i), .i (J.length : Nat), .i (k : Nat), .any, .any, .any, .any, .any, .any, .any, .any, .any, .any, .any, .any, .any, .any, .any, .any, .any, .any, .any, .any, .any, .any, .any, .any, .any, .any, .any, .any, .any, .any, .any, .any], [(50, .lst 53 2 ((vAcc R W (J.take k)).map mbV)), (3, .var 41 (.agg [.own 50, .i (ru : Rule).kind, .i (ru : Rule).columns, .i (ru : Rule).faulty])), (2, .var 41 (.agg [.sc (.slice none 0 0), .i 0, .i 0, .i 0])), (1, .var 78 (suV ⟨J, R, W, ru, ver, adm, num⟩))]⟩) 0 (by simp) ?_ ?_
    · (refine St.Le.clean zR zU zV)
    rintro k hk ih
    have hst := fun (h : k < J.length) => vAcc_snoc R W (J.take k) (J.getD k default)
    have htk := fun (h : k < J.length) => take_getD (xs := J) h
    have hend : J.length ≤ k → vAcc R W (J.take k) = vAcc R W J := fun h => by rw [List.take_of_length_le h]
    have hl : (vAcc R W (J.take k)).length ≤ 1000000 := by
      have := vAcc_len R W (J.take k)
      rw [List.length_take] at this; omega
    generalize vAcc R W (J.take k) = acc at hst hend hl ⊢
    repeat' (first | refine yw ?_ | ((with_reducible refine Runs.is ?_); first | refine Runs.region (id := 5) ?_ | refine Runs.region (id := 6) ?_ | refine Runs.region (id := 7) ?_ | refine Runs.region (id := 8) ?_ | refine Runs.region (id := 9) ?_ | ((with_reducible refine Runs.isC ?_); refine Runs.cond rfl (zc ?_) (zc ?_) <;> intro hc <;> (try (first | contradiction | (exfalso; omega; done) | (have : hc = trivial := rfl; clear this; clear hc))))) | ((with_reducible refine r_is ?_); first | refine yr ?_ | (refine r_fn rfl (contains_ints false _ _) HbF.h zL2 zD ?_; refine r_nn zN zH ?_)) | fail)
    · rename_i h0
      repeat' (first | refine yw ?_ | ((with_reducible refine Runs.is ?_); first | refine Runs.region (id := 16) ?_ | ((with_reducible refine Runs.isC ?_); refine Runs.cond rfl (zc ?_) (zc ?_) <;> intro hc <;> (try (first | contradiction | (exfalso; omega; done) | (have : hc = trivial := rfl; clear this; clear hc))))) | ((with_reducible refine r_is ?_); first | refine yr ?_) | fail)
      refine ih (k + 1) _ zo zo ?_
      rw [htk h0, hst h0, if_pos hc, List.append_nil]
      (refine St.Le.clean zR zU zV)
    · rename_i h0
      have hst2 := hst h0
      have htk2 := htk h0
      rw [if_neg (by rw [hc]; decide)] at hst2
      generalize J.getD k default = x at hst2 htk2 ⊢
      clear hst htk
      refine Runs.loopI (fun j : Nat => W.length - j) (fun j => j ≤ W.length)
        (fun j => ⟨[.any, .ptr 1 0 0, .ptr 2 0 0, .ptr 3 0 0, .any, .i x, .ptr 6 0 0, .any, .any, .any, .any, .any, .any, .any, .any, .any, .any, .any, .any, .sl false (J.map .i), .i (J.length : Nat), .i (k : Nat), .any, .any, .any, .any, .any, .any, .any, .any, .any, .any, .sl false (W.map weV), .i (W.length : Nat), .i (j : Nat), .any, .any, .any, .any, .any, .any, .any, .any, .any, .any, .any, .any, .any, .any, .any, .any, .any, .any, .any], [(6, .var 53 (mbV ⟨x, weightIn (W.take j) x 1⟩)), (50, .lst 53 2 (acc.map mbV)), (3, .var 41 (.agg [.own 50, .i (ru : Rule).kind, .i (ru : Rule).columns, .i (ru : Rule).faulty])), (2, .var 41 (.agg [.sc (.slice none 0 0), .i 0, .i 0, .i 0])), (1, .var 78 (suV ⟨J, R, W, ru, ver, adm, num⟩))]⟩) 0 (by simp) ?_ ?_
      · (refine St.Le.clean zR zU zV)
      rintro j hj ihj
      have hw := fun (h : j < W.length) => foldl_take (g := fun n (w : WeightEntry) => if w.server = x then w.weight else n) (s := (1 : Int)) h
      have hwe : W.length ≤ j → weightIn (W.take j) x 1 = weightIn W x 1 := fun h => by rw [List.take_of_length_le h]
      change j < W.length → weightIn (W.take (j + 1)) x 1 = (fun n (w : WeightEntry) => if w.server = x then w.weight else n) (weightIn (W.take j) x 1) (W.getD j default) at hw
      dsimp only at hw
      generalize weightIn (W.take j) x 1 = n at hw hwe ⊢
      repeat' (first | refine yw ?_ | ((with_reducible refine Runs.is ?_); first | refine Runs.region (id := 10) ?_ | refine Runs.region (id := 11) ?_ | refine Runs.region (id := 12) ?_ | refine Runs.region (id := 13) ?_ | ((with_reducible refine Runs.isC ?_); refine Runs.cond rfl (zc ?_) (zc ?_) <;> intro hc <;> (try (first | contradiction | (exfalso; omega; done) | (have : hc = trivial := rfl; clear this; clear hc))))) | ((with_reducible refine r_is ?_); first | refine yr ?_) | fail)
      · rename_i h1
        repeat' (first | refine yw ?_ | ((with_reducible refine Runs.is ?_); first | refine Runs.region (id := 14) ?_ | ((with_reducible refine Runs.isC ?_); refine Runs.cond rfl (zc ?_) (zc ?_) <;> intro hc <;> (try (first | contradiction | (exfalso; omega; done) | (have : hc = trivial := rfl; clear this; clear hc))))) | ((with_reducible refine r_is ?_); first | refine yr ?_) | fail)
        refine ihj (j + 1) _ zo zo ?_
        rw [hw h1, if_pos hc]
        (refine St.Le.clean zR zU zV)
      · rename_i h1
        repeat' (first | refine yw ?_ | ((with_reducible refine Runs.is ?_); first | refine Runs.region (id := 14) ?_ | ((with_reducible refine Runs.isC ?_); refine Runs.cond rfl (zc ?_) (zc ?_) <;> intro hc <;> (try (first | contradiction | (exfalso; omega; done) | (have : hc = trivial := rfl; clear this; clear hc))))) | ((with_reducible refine r_is ?_); first | refine yr ?_) | fail)
        refine ihj (j + 1) _ zo zo ?_
        rw [hw h1, if_neg hc]
        (refine St.Le.clean zR zU zV)
      · have := hwe zo
        subst this
        repeat' (first | refine yw ?_ | ((with_reducible refine Runs.is ?_); first | refine Runs.region (id := 15) ?_ | refine Runs.region (id := 16) ?_ | ((with_reducible refine Runs.isC ?_); refine Runs.cond rfl (zc ?_) (zc ?_) <;> intro hc <;> (try (first | contradiction | (exfalso; omega; done) | (have : hc = trivial := rfl; clear this; clear hc))))) | ((with_reducible refine r_is ?_); first | refine yr ?_ | (refine r_append_full SlF.h SlF.s ZoF.h zd rfl rfl zC zJ zS rfl (fun hn => ?_) (fun hn => ?_) <;> refine r_nn zN zH ?_)) | fail)
        refine ih (k + 1) _ zo zo ?_
        rw [htk2, hst2]
        (refine St.Le.clean zR zU zV)
    · have he := hend zo
      subst he
      repeat' (first | refine yw ?_ | ((with_reducible refine Runs.is ?_); first | refine Runs.region (id := 17) ?_ | ((with_reducible refine Runs.isC ?_); refine Runs.cond rfl (zc ?_) (zc ?_) <;> intro hc <;> (try (first | contradiction | (exfalso; omega; done) | (have : hc = trivial := rfl; clear this; clear hc))))) | ((with_reducible refine r_is ?_); first | refine yr ?_) | fail)
      (refine Runs.weaken (St.Le.freeze_lst 50 rfl) ?_; refine yf ?_)
      (refine Runs.retC Tryz.func40 rfl zM rfl TyF.h (And.intro zE zd) zD ?_; try exact zX)
end Go.Proofs
namespace Go.Proofs
open Go.AM
attribute [local irreducible] AM.evalR AM.evalD AM.Runs AM.valK AM.dK AM.opK AM.stepR AM.CallS AM.St.Le
def sumStep (s : Summary) (p : Proposal) : Summary := joinS s (ofS p)
def sumS (g : View) (c : Config) : Summary := c.foldl sumStep (initS g)
def Plain (p : Proposal) : Prop := p.changes.length ≤ 1000 ∧ True
def Short (s : Summary) (n : Nat) : Prop := s.joined.length ≤ n ∧ s.removed.length ≤ n ∧ s.weights.length ≤ n
theorem ofS_short {p : Proposal} (h : p.changes.length ≤ 1000) : Short (ofS p) 1000 := by
  have h1 := ofAcc_len p p.changes.length (Nat.le_refl _)
  rw [List.take_of_length_le (Nat.le_refl _)] at h1
  have h2 : (weightsOf (ofAcc p).m).length ≤ 12 := by
    have := List.length_filterMap_le (getI (ofAcc p).m) (upto 1 12)
    rw [upto_len] at this; exact this
  refine ⟨?_, ?_, ?_⟩
  · show (sortI (ofAcc p).j).length ≤ _
    rw [sortI_length]; exact Nat.le_trans h1.1 h
  · show (sortI (ofAcc p).r).length ≤ _
    rw [sortI_length]; exact Nat.le_trans h1.2 h
  · show (weightsOf (ofAcc p).m).length ≤ _
    omega
theorem joinS_short {a b : Summary} {m n : Nat} (ha : Short a m) (hb : Short b n) : Short (joinS a b) (m + n) := by
  have h1 := unionI_len a.joined b.joined
  have h2 := unionI_len a.removed b.removed
  have h3 := weightsI_len a.weights b.weights
  obtain ⟨a1, a2, a3⟩ := ha
  obtain ⟨b1, b2, b3⟩ := hb
  exact ⟨Nat.le_trans h1 zo, Nat.le_trans h2 zo, Nat.le_trans h3 zo⟩
theorem initS_short {g : View} (h : g.members.length ≤ 1000) : Short (initS g) 1000 := by
  refine ⟨?_, ?_, ?_⟩ <;> simp [initS] <;> omega
theorem sumS_short {g : View} (hg : g.members.length ≤ 1000) : ∀ (c : Config), (∀ p ∈ c, p.changes.length ≤ 1000) → Short (sumS g c) (1000 + 1000 * c.length) := by
  intro c
  have gen : ∀ (c : Config) (s : Summary) (n : Nat), Short s n → (∀ p ∈ c, p.changes.length ≤ 1000) → Short (c.foldl sumStep s) (n + 1000 * c.length) := by
    intro c
    induction c with
    | nil => intro s n hs _; simpa using hs
    | cons p c ih =>
      intro s n hs hc
      have h1 := joinS_short hs (ofS_short (hc p (by simp)))
      have h2 := ih (sumStep s p) (n + 1000) h1 (fun q hq => hc q (by simp [hq]))
      rw [List.foldl_cons, List.length_cons]
      rw [show n + 1000 * (c.length + 1) = n + 1000 + 1000 * c.length by omega]; exact h2
  exact gen c (initS g) 1000 (initS_short hg)
theorem member_Summarize (f : Bool) (g : View) (c : Config) (hg : g.members.length ≤ 1000) (hc : c.length ≤ 100) (hp : ∀ p ∈ c, Plain p) : AM.Fn Tryz.prog 41 [viV g, .sl f (c.map prV)] (suV (sumS g c)) := by
  (refine spec_of_runs Tryz.func41 rfl ?_; simp only [Tryz.f41]; refine ys ?_)
  repeat' (first | refine yw ?_ | ((with_reducible refine Runs.is ?_); first | refine Runs.region (id := 0) ?_ | refine Runs.region (id := 1) ?_ | refine Runs.region (id := 2) ?_ | ((with_reducible refine Runs.isC ?_); refine Runs.cond rfl (zc ?_) (zc ?_) <;> intro hc <;> (try (first | contradiction | (exfalso; omega; done) | (have : hc = trivial := rfl; clear this; clear hc))))) | ((with_reducible refine r_is ?_); first | refine yr ?_ | (refine r_fn rfl (member_Initial g zo) HbF.h zL1 zD ?_; refine r_nn zN zH ?_)) | fail)
  refine Runs.loopI (fun k : Nat => c.length - k) (fun k => k ≤ c.length)
    (fun k => ⟨[.any, .any, .any, .any, .ptr 4 0 0, .ptr 5 0 0, .any, .any, .any, .any, .sl f (c.map prV), .i (c.length : Nat), .i (k : Nat), .any, .any, .any, .any, .any, .any, .any, .any, .any], [(5, .var 78 (suV (sumS g (c.take k)))), (4, .var 78 (.agg [.sc (.slice none 0 0), .sc (.slice none 0 0), .sc (.slice none 0 0), .i 0, .i 0, .i 0, .i 0, .i 0, .i 0]))]⟩) 0 (by simp) ?_ ?_
  · (refine St.Le.clean zR zU zV)
  rintro k hk ih
  have hst := fun (h : k < c.length) => foldl_take (g := sumStep) (s := initS g) h
  have hend : c.length ≤ k → sumS g (c.take k) = sumS g c := fun h => by rw [List.take_of_length_le h]
  have hsh := sumS_short hg (c.take k) (fun p q => (hp p (List.mem_of_mem_take q)).1)
  rw [List.length_take] at hsh
  have hpl : k < c.length → Plain (c.getD k default) := fun h => hp _ (by rw [List.getD_eq_getElem?_getD, List.getElem?_eq_getElem h]; exact List.getElem_mem h)
  change k < c.length → sumS g (c.take (k + 1)) = sumStep (sumS g (c.take k)) (c.getD k default) at hst
  generalize sumS g (c.take k) = s at hst hend hsh ⊢
  by_cases hlt : k < c.length
  · have hst2 : sumS g (c.take (k + 1)) = joinS s (ofS (c.getD k default)) := hst hlt
    have hp2 := hpl hlt
    have ho := ofS_short hp2.1
    obtain ⟨s1, s2, s3⟩ := hsh
    obtain ⟨o1, o2, o3⟩ := ho
    have hOf := member_Of (c.getD k default) (Nat.le_trans hp2.1 zd)
    have hJn := member_Join s (ofS (c.getD k default)) (member_union_all false false _ _ zo) (member_union_all false false _ _ zo) (member_weights_all false false _ _ zo)
    generalize ofS (c.getD k default) = q at hOf hJn hst2
    repeat' (first | refine yw ?_ | ((with_reducible refine Runs.is ?_); first | refine Runs.region (id := 3) ?_ | refine Runs.region (id := 4) ?_ | refine Runs.drawn (id := 5) mixed zK ?_ | refine Runs.region (id := 6) ?_ | ((with_reducible refine Runs.isC ?_); refine Runs.cond rfl (zc ?_) (zc ?_) <;> intro hc <;> (try (first | contradiction | (exfalso; omega; done) | (have : hc = trivial := rfl; clear this; clear hc))))) | ((with_reducible refine r_is ?_); first | refine yr ?_) | ((with_reducible refine d_is ?_); first | refine yd ?_ | (refine d_fn rfl (hOf) HbF.h zL1 zD ?_; refine d_nn zN zH ?_) | (refine d_fn rfl (hJn) HbF.h zL2 zD ?_; refine d_nn zN zH ?_)) | fail)
    refine ih (k + 1) _ zo zo ?_
    rw [hst2]
    (refine St.Le.clean zR zU zV)
  · have he := hend zo
    subst he
    repeat' (first | refine yw ?_ | ((with_reducible refine Runs.is ?_); first | refine Runs.region (id := 3) ?_ | ((with_reducible refine Runs.isC ?_); refine Runs.cond rfl (zc ?_) (zc ?_) <;> intro hc <;> (try (first | contradiction | (exfalso; omega; done) | (have : hc = trivial := rfl; clear this; clear hc))))) | ((with_reducible refine r_is ?_); first | refine yr ?_) | fail)
    repeat' (first | refine yw ?_ | ((with_reducible refine Runs.is ?_); first | refine Runs.region (id := 7) ?_ | ((with_reducible refine Runs.isC ?_); refine Runs.cond rfl (zc ?_) (zc ?_) <;> intro hc <;> (try (first | contradiction | (exfalso; omega; done) | (have : hc = trivial := rfl; clear this; clear hc))))) | ((with_reducible refine r_is ?_); first | refine yr ?_) | fail)
    (refine Runs.retC Tryz.func41 rfl zM rfl TyF.h (And.intro zE zd) zD ?_; try exact zX)
end Go.Proofs
namespace Go.Proofs
open Go.AM
attribute [local irreducible] AM.evalR AM.evalD AM.Runs AM.valK AM.dK AM.opK AM.stepR AM.CallS AM.St.Le
def viewOf (g : View) (c : Config) : View := viewS (sumS g c)
theorem interval_Views (f h : Bool) (g : View) (a b : Config) (hA : AM.Fn Tryz.prog 10 [.sl f (a.map prV), .sl h (b.map prV)] (.sl false ((allB a b).map cfV))) (hn : (allB a b).length ≤ 100000) (hg : g.members.length ≤ 1000)
    (hc0 : ∀ c ∈ allB a b, c.length ≤ 100 ∧ ∀ p ∈ c, Plain p) : AM.Fn Tryz.prog 15 [viV g, .sl f (a.map prV), .sl h (b.map prV)] (.sl false (((allB a b).map (viewOf g)).map viV)) := by
  (refine spec_of_runs Tryz.func15 rfl ?_; simp only [Tryz.f15]; refine ys ?_)
  generalize allB a b = l at *
  repeat' (first | refine yw ?_ | ((with_reducible refine Runs.is ?_); first | refine Runs.region (id := 0) ?_ | refine Runs.region (id := 1) ?_ | refine Runs.region (id := 2) ?_ | ((with_reducible refine Runs.isC ?_); refine Runs.cond rfl (zc ?_) (zc ?_) <;> intro hc <;> (try (first | contradiction | (exfalso; omega; done) | (have : hc = trivial := rfl; clear this; clear hc))))) | ((with_reducible refine r_is ?_); first | refine yr ?_ | (refine r_fn rfl (hA) HbF.h zL2 zD ?_; refine r_nn zN zH ?_)) | fail)
  (refine Runs.weaken (St.Le.nil 7 41 4 7 zd rfl rfl zE) ?_)
  refine Runs.loopI (fun k : Nat => l.length - k) (fun k => k ≤ l.length)
    (fun k => ⟨[.any, .any, .any, .ptr 3 0 0, .any, .any, .any, .own 7, .any, .any, .any, .any, .sl false (l.map cfV), .i (l.length : Nat), .i (k : Nat), .any, .any, .any, .any, .any, .any, .any, .any, .any, .any, .any, .any], [(7, .lst 41 4 (((l.take k).map (viewOf g)).map viV)), (3, .var 35 (viV g))]⟩) 0 (by simp) ?_ ?_
  · (refine St.Le.clean zR zU zV)
  rintro k hk ih
  have htk := fun (h : k < l.length) => take_getD (xs := l) h
  have hl1 : ((l.take k).map (viewOf g)).length ≤ 100000 := by rw [List.length_map, List.length_take]; omega
  by_cases hlt : k < l.length
  · have hcc := hc0 (l.getD k default) (by rw [List.getD_eq_getElem?_getD, List.getElem?_eq_getElem hlt]; exact List.getElem_mem hlt)
    have htk2 := htk hlt
    have hS := member_Summarize false g (l.getD k default) hg hcc.1 hcc.2
    have hsh := sumS_short hg (l.getD k default) (fun p q => (hcc.2 p q).1)
    have hlen := hcc.1
    have hV := member_View (sumS g (l.getD k default)) (by have := hsh.1; omega) (by have := hsh.2.2; omega)
    have hm : (l.take (k + 1)).map (viewOf g) = (l.take k).map (viewOf g) ++ [viewS (sumS g (l.getD k default))] := by rw [htk2, List.map_append]; rfl
    repeat' (first | refine yw ?_ | ((with_reducible refine Runs.is ?_); first | refine Runs.region (id := 3) ?_ | refine Runs.region (id := 4) ?_ | refine Runs.region (id := 5) ?_ | ((with_reducible refine Runs.isC ?_); refine Runs.cond rfl (zc ?_) (zc ?_) <;> intro hc <;> (try (first | contradiction | (exfalso; omega; done) | (have : hc = trivial := rfl; clear this; clear hc))))) | ((with_reducible refine r_is ?_); first | refine yr ?_ | (refine r_fn rfl (hS) HbF.h zL2 zD ?_; refine r_nn zN zH ?_) | (refine r_fn rfl (hV) HbF.h zL1 zD ?_; refine r_nn zN zH ?_) | (refine r_append_full SlF.h SlF.s ZoF.h zd rfl rfl zC zJ zS rfl (fun hn => ?_) (fun hn => ?_) <;> refine r_nn zN zH ?_)) | fail)
    repeat' (first | refine yw ?_ | ((with_reducible refine Runs.is ?_); first | refine Runs.region (id := 6) ?_ | ((with_reducible refine Runs.isC ?_); refine Runs.cond rfl (zc ?_) (zc ?_) <;> intro hc <;> (try (first | contradiction | (exfalso; omega; done) | (have : hc = trivial := rfl; clear this; clear hc))))) | ((with_reducible refine r_is ?_); first | refine yr ?_) | fail)
    refine ih (k + 1) _ zo zo ?_
    rw [hm]
    (refine St.Le.clean zR zU zV)
  · repeat' (first | refine yw ?_ | ((with_reducible refine Runs.is ?_); first | refine Runs.region (id := 3) ?_ | ((with_reducible refine Runs.isC ?_); refine Runs.cond rfl (zc ?_) (zc ?_) <;> intro hc <;> (try (first | contradiction | (exfalso; omega; done) | (have : hc = trivial := rfl; clear this; clear hc))))) | ((with_reducible refine r_is ?_); first | refine yr ?_) | fail)
    rw [List.take_of_length_le zo]
    repeat' (first | refine yw ?_ | ((with_reducible refine Runs.is ?_); first | refine Runs.region (id := 7) ?_ | ((with_reducible refine Runs.isC ?_); refine Runs.cond rfl (zc ?_) (zc ?_) <;> intro hc <;> (try (first | contradiction | (exfalso; omega; done) | (have : hc = trivial := rfl; clear this; clear hc))))) | ((with_reducible refine r_is ?_); first | refine yr ?_) | fail)
    exact Runs.ret_frz Tryz.func15 rfl rfl rfl rfl
theorem grow_nil (n : Nat) (hn : n ≤ 1000000000) : AM.Spec Tryz.prog 93 [.sc (.slice none 0 0), .i (n : Nat)] [] (OwnPost 3 1 fun l => l = ([] : List Int).map .i) := by
  (refine spec_of_runs Tryz.func93 rfl ?_; simp only [Tryz.f93]; refine ys ?_)
  repeat' (first | refine yw ?_ | ((with_reducible refine Runs.is ?_); first | refine Runs.region ?_ | ((with_reducible refine Runs.isC ?_); refine Runs.cond rfl (zc ?_) (zc ?_) <;> intro hc <;> (try (first | contradiction | (exfalso; omega; done) | (have : hc = trivial := rfl; clear this; clear hc))))) | ((with_reducible refine r_is ?_); first | refine yr ?_ | (refine r_append_full SlF.h SlF.s ZoF.h zd rfl rfl zC zJ zS rfl (fun hn => ?_) (fun hn => ?_) <;> refine r_nn zN zH ?_)) | fail)
  · exact Runs.ret_own Tryz.func93 rfl rfl rfl (by simp)
  · exact Runs.ret_nil Tryz.func93 rfl rfl zd rfl rfl
theorem sum_take (ls : List (List Int)) (k : Nat) (h : k < ls.length) : ((ls.take (k + 1)).map List.length).sum = ((ls.take k).map List.length).sum + (ls.getD k default).length := by
  rw [take_getD h, List.map_append, List.sum_append]; simp
theorem sum_take_le (ls : List (List Int)) (k : Nat) : ((ls.take k).map List.length).sum ≤ (ls.map List.length).sum := by
  have h : ls.map List.length = (ls.take k).map List.length ++ (ls.drop k).map List.length := by rw [← List.map_append, List.take_append_drop]
  rw [h, List.sum_append]; omega
theorem flatten_len (ls : List (List Int)) : ls.flatten.length = (ls.map List.length).sum := List.length_flatten
theorem concat_ints (f : Bool) (ls : List (List Int)) (hs : (ls.map List.length).sum ≤ 1000000000) : AM.Spec Tryz.prog 71 [.sl f (ls.map inV)] [] (OwnPost 3 1 fun l => l = ls.flatten.map .i) := by
  (refine spec_of_runs Tryz.func71 rfl ?_; simp only [Tryz.f71]; refine ys ?_)
  (refine Runs.lens 0 ?_; refine yl ?_)
  intro hlb
  repeat' (first | refine yw ?_ | ((with_reducible refine Runs.is ?_); first | refine Runs.region (id := 0) ?_ | refine Runs.region (id := 1) ?_ | refine Runs.region (id := 2) ?_ | ((with_reducible refine Runs.isC ?_); refine Runs.cond rfl (zc ?_) (zc ?_) <;> intro hc <;> (try (first | contradiction | (exfalso; omega; done) | (have : hc = trivial := rfl; clear this; clear hc))))) | ((with_reducible refine r_is ?_); first | refine yr ?_) | fail)
  refine Runs.loopI (fun k : Nat => ls.length - k) (fun k => k ≤ ls.length)
    (fun k => ⟨[.sl f (ls.map inV), .any, .any, .i ((((ls.take k).map List.length).sum : Nat) : Int), .any, .any, .any, .any, .any, .sl f (ls.map inV), .i (ls.length : Nat), .i (k : Nat), .any, .any, .any, .any, .any, .any, .any, .any, .any, .any, .any, .any, .any, .any, .any, .any, .any, .any, .any, .any, .any, .any, .any, .any], []⟩) 0 (by simp) ?_ ?_
  · (refine St.Le.clean zR zU zV)
  rintro k hk ih
  have hst := fun (h : k < ls.length) => sum_take ls k h
  have hle := sum_take_le ls k
  have hle2 := sum_take_le ls (k + 1)
  have hend : ls.length ≤ k → ((ls.take k).map List.length).sum = (ls.map List.length).sum := fun h => by rw [List.take_of_length_le h]
  generalize ((ls.take k).map List.length).sum = n at hst hle hend ⊢
  by_cases hlt : k < ls.length
  · have hst2 := hst hlt
    repeat' (first | refine yw ?_ | ((with_reducible refine Runs.is ?_); first | refine Runs.region (id := 3) ?_ | refine Runs.region (id := 4) ?_ | refine Runs.region (id := 5) ?_ | refine Runs.region (id := 6) ?_ | ((with_reducible refine Runs.isC ?_); refine Runs.cond rfl (zc ?_) (zc ?_) <;> intro hc <;> (try (first | contradiction | (exfalso; omega; done) | (have : hc = trivial := rfl; clear this; clear hc))))) | ((with_reducible refine r_is ?_); first | refine yr ?_) | fail)
    repeat' (first | refine yw ?_ | ((with_reducible refine Runs.is ?_); first | refine Runs.region (id := 8) ?_ | ((with_reducible refine Runs.isC ?_); refine Runs.cond rfl (zc ?_) (zc ?_) <;> intro hc <;> (try (first | contradiction | (exfalso; omega; done) | (have : hc = trivial := rfl; clear this; clear hc))))) | ((with_reducible refine r_is ?_); first | refine yr ?_) | fail)
    refine ih (k + 1) _ zo zo ?_
    rw [hst2]
    (refine St.Le.clean zR zU zV)
  · have hn := hend zo
    clear hst hend hle2 ih
    repeat' (first | refine yw ?_ | ((with_reducible refine Runs.is ?_); first | refine Runs.region (id := 3) ?_ | ((with_reducible refine Runs.isC ?_); refine Runs.cond rfl (zc ?_) (zc ?_) <;> intro hc <;> (try (first | contradiction | (exfalso; omega; done) | (have : hc = trivial := rfl; clear this; clear hc))))) | ((with_reducible refine r_is ?_); first | refine yr ?_) | fail)
    repeat' (first | refine yw ?_ | ((with_reducible refine Runs.is ?_); first | refine Runs.region (id := 9) ?_ | refine Runs.region (id := 10) ?_ | ((with_reducible refine Runs.isC ?_); refine Runs.cond rfl (zc ?_) (zc ?_) <;> intro hc <;> (try (first | contradiction | (exfalso; omega; done) | (have : hc = trivial := rfl; clear this; clear hc))))) | ((with_reducible refine r_is ?_); first | refine yr ?_ | (refine r_own rfl (grow_nil n zo) HbF.h zL2 zD rfl (fun _ hq _ => ?_); (try subst hq); refine r_nn zN zH ?_)) | fail)
    refine Runs.loopI (fun k : Nat => ls.length - k) (fun k => k ≤ ls.length)
      (fun k => ⟨[.any, .any, .any, .any, .any, .any, .own 24, .any, .any, .any, .any, .any, .any, .any, .any, .any, .any, .any, .any, .any, .any, .any, .any, .any, .any, .sl f (ls.map inV), .i (ls.length : Nat), .i (k : Nat), .any, .any, .any, .any, .any, .any, .any, .any], [(24, .lst 3 1 ((ls.take k).flatten.map .i))]⟩) 0 (by simp) ?_ ?_
    · (refine St.Le.clean zR zU zV)
    rintro k hk ih
    have hle := sum_take_le ls (k + 1)
    have hfl := flatten_len (ls.take k)
    have hle1 := sum_take_le ls k
    have hend : ls.length ≤ k → (ls.take k).flatten = ls.flatten := fun h => by rw [List.take_of_length_le h]
    have hst := fun (h : k < ls.length) => take_getD (xs := ls) h
    have hsm := fun (h : k < ls.length) => sum_take ls k h
    by_cases hlt : k < ls.length
    · have hfl2 : (ls.take (k + 1)).flatten = (ls.take k).flatten ++ ls.getD k default := by rw [hst hlt, List.flatten_append]; simp
      have hsm2 := hsm hlt
      generalize (ls.take k).flatten = acc at hfl hend hfl2 ⊢
      repeat' (first | refine yw ?_ | ((with_reducible refine Runs.is ?_); first | refine Runs.region (id := 11) ?_ | refine Runs.region (id := 12) ?_ | refine Runs.region (id := 13) ?_ | refine Runs.region (id := 14) ?_ | ((with_reducible refine Runs.isC ?_); refine Runs.cond rfl (zc ?_) (zc ?_) <;> intro hc <;> (try (first | contradiction | (exfalso; omega; done) | (have : hc = trivial := rfl; clear this; clear hc))))) | ((with_reducible refine r_is ?_); first | refine yr ?_ | (refine r_append_full SlF.h SlF.s ZoF.h zd rfl rfl zC zJ zS rfl (fun hn => ?_) (fun hn => ?_) <;> refine r_nn zN zH ?_)) | fail)
      refine ih (k + 1) _ zo zo ?_
      rw [hfl2]
      (refine St.Le.clean zR zU zV)
    · repeat' (first | refine yw ?_ | ((with_reducible refine Runs.is ?_); first | refine Runs.region (id := 11) ?_ | ((with_reducible refine Runs.isC ?_); refine Runs.cond rfl (zc ?_) (zc ?_) <;> intro hc <;> (try (first | contradiction | (exfalso; omega; done) | (have : hc = trivial := rfl; clear this; clear hc))))) | ((with_reducible refine r_is ?_); first | refine yr ?_) | fail)
      rw [hend zo]
      repeat' (first | refine yw ?_ | ((with_reducible refine Runs.is ?_); first | refine Runs.region (id := 15) ?_ | ((with_reducible refine Runs.isC ?_); refine Runs.cond rfl (zc ?_) (zc ?_) <;> intro hc <;> (try (first | contradiction | (exfalso; omega; done) | (have : hc = trivial := rfl; clear this; clear hc))))) | ((with_reducible refine r_is ?_); first | refine yr ?_) | fail)
      exact Runs.ret_own Tryz.func71 rfl rfl rfl rfl
def distinctI (ls : List (List Int)) : List Int := compactI (sortI ls.flatten)
theorem distinct_ints (f : Bool) (ls : List (List Int)) (hs : (ls.map List.length).sum ≤ 1000000000) : AM.Fn Tryz.prog 44 [.sl f (ls.map inV)] (.sl false ((distinctI ls).map .i)) := by
  have hl : ls.flatten.length ≤ 1000000000 := by rw [flatten_len]; exact hs
  have hl2 : (sortI ls.flatten).length ≤ 1000000000 := by rw [sortI_length]; exact hl
  unfold distinctI
  (refine spec_of_runs Tryz.func44 rfl ?_; simp only [Tryz.f44]; refine ys ?_)
  repeat' (first | refine yw ?_ | ((with_reducible refine Runs.is ?_); first | refine Runs.region ?_ | ((with_reducible refine Runs.isC ?_); refine Runs.cond rfl (zc ?_) (zc ?_) <;> intro hc <;> (try (first | contradiction | (exfalso; omega; done) | (have : hc = trivial := rfl; clear this; clear hc))))) | ((with_reducible refine r_is ?_); first | refine yr ?_ | (refine r_own rfl (concat_ints f ls hs) HbF.h zL1 zD rfl (fun _ hq _ => ?_); (try subst hq); refine r_nn zN zH ?_) | (refine r_turn rfl (sort_turns ls.flatten zo) HbF.h rfl rfl ?_; refine r_nn zN zH ?_) | (refine r_give rfl (compact_gives 1000 (sortI ls.flatten) zo) HbF.h rfl rfl zL0 zD ?_; refine r_nn zN zH ?_)) | fail)
  exact Runs.ret_frz Tryz.func44 rfl rfl rfl rfl
def srv (v : View) : List Int := v.members.map (·.server)
def spanI (vs : List View) : List Int := distinctI (vs.map srv)
theorem interval_Span (f h : Bool) (g : View) (a b : Config) (vs : List View) (hV : AM.Fn Tryz.prog 15 [viV g, .sl f (a.map prV), .sl h (b.map prV)] (.sl false (vs.map viV))) (hn : vs.length ≤ 100000) (hm : ∀ v ∈ vs, v.members.length ≤ 1000000)
    (hs : ((vs.map srv).map List.length).sum ≤ 1000000000) : AM.Fn Tryz.prog 19 [viV g, .sl f (a.map prV), .sl h (b.map prV)] (.sl false ((spanI vs).map .i)) := by
  (refine spec_of_runs Tryz.func19 rfl ?_; simp only [Tryz.f19]; refine ys ?_)
  repeat' (first | refine yw ?_ | ((with_reducible refine Runs.is ?_); first | refine Runs.region (id := 0) ?_ | refine Runs.region (id := 1) ?_ | refine Runs.region (id := 2) ?_ | ((with_reducible refine Runs.isC ?_); refine Runs.cond rfl (zc ?_) (zc ?_) <;> intro hc <;> (try (first | contradiction | (exfalso; omega; done) | (have : hc = trivial := rfl; clear this; clear hc))))) | ((with_reducible refine r_is ?_); first | refine yr ?_ | (refine r_fn rfl (hV) HbF.h zL3 zD ?_; refine r_nn zN zH ?_)) | fail)
  (refine Runs.weaken (St.Le.nil 7 44 1 7 zd rfl rfl zE) ?_)
  refine Runs.loopI (fun k : Nat => vs.length - k) (fun k => k ≤ vs.length)
    (fun k => ⟨[.any, .any, .any, .any, .any, .any, .any, .own 7, .any, .any, .any, .any, .any, .any, .any, .any, .sl false (vs.map viV), .i (vs.length : Nat), .i (k : Nat), .any, .any, .any, .any, .any, .any, .any, .any, .any, .any, .any, .any, .any, .any, .any, .any, .any, .any, .any, .any, .any, .any, .any], [(7, .lst 44 1 (((vs.take k).map srv).map inV))]⟩) 0 (by simp) ?_ ?_
  · (refine St.Le.clean zR zU zV)
  rintro k hk ih
  have htk := fun (h : k < vs.length) => take_getD (xs := vs) h
  have hl1 : ((vs.take k).map srv).length ≤ 100000 := by rw [List.length_map, List.length_take]; omega
  by_cases hlt : k < vs.length
  · have hmm := hm (vs.getD k default) (by rw [List.getD_eq_getElem?_getD, List.getElem?_eq_getElem hlt]; exact List.getElem_mem hlt)
    have hst : (vs.take (k + 1)).map srv = (vs.take k).map srv ++ [srv (vs.getD k default)] := by rw [htk hlt, List.map_append]; rfl
    generalize (vs.take k).map srv = acc at hl1 hst ⊢
    repeat' (first | refine yw ?_ | ((with_reducible refine Runs.is ?_); first | refine Runs.region (id := 3) ?_ | refine Runs.region (id := 4) ?_ | refine Runs.region (id := 5) ?_ | refine Runs.region (id := 6) ?_ | ((with_reducible refine Runs.isC ?_); refine Runs.cond rfl (zc ?_) (zc ?_) <;> intro hc <;> (try (first | contradiction | (exfalso; omega; done) | (have : hc = trivial := rfl; clear this; clear hc))))) | ((with_reducible refine r_is ?_); first | refine yr ?_) | fail)
    generalize vs.getD k default = v at hmm hst ⊢
    obtain ⟨ms, ru⟩ := v
    change (vs.take (k + 1)).map srv = acc ++ [ms.map (·.server)] at hst
    dsimp only at hmm ⊢
    (refine Runs.weaken (St.Le.nil 10 3 1 10 zd rfl rfl zE) ?_)
    refine Runs.loopI (fun j : Nat => ms.length - j) (fun j => j ≤ ms.length)
      (fun j => ⟨[.any, .any, .any, .any, .any, .any, .any, .own 7, .any, .any, .own 10, .any, .any, .any, .any, .any, .sl false (vs.map viV), .i (vs.length : Nat), .i (k : Nat), .any, .any, .any, .any, .sl false (ms.map mbV), .i (ms.length : Nat), .i (j : Nat), .any, .any, .any, .any, .any, .any, .any, .any, .any, .any, .any, .any, .any, .any, .any, .any], [(10, .lst 3 1 (((ms.take j).map (·.server)).map .i)), (7, .lst 44 1 (acc.map inV))]⟩) 0 (by simp) ?_ ?_
    · (refine St.Le.clean zR zU zV)
    rintro j hj ihj
    have htj := fun (h : j < ms.length) => take_getD (xs := ms) h
    have hl2 : ((ms.take j).map (·.server)).length ≤ 1000000 := by rw [List.length_map, List.length_take]; omega
    by_cases hjt : j < ms.length
    · have htj2 : (ms.take (j + 1)).map (·.server) = (ms.take j).map (·.server) ++ [(ms.getD j default).server] := by rw [htj hjt, List.map_append]; rfl
      generalize (ms.take j).map (·.server) = acc2 at hl2 htj2 ⊢
      repeat' (first | refine yw ?_ | ((with_reducible refine Runs.is ?_); first | refine Runs.region (id := 7) ?_ | refine Runs.region (id := 8) ?_ | refine Runs.region (id := 9) ?_ | refine Runs.region (id := 10) ?_ | ((with_reducible refine Runs.isC ?_); refine Runs.cond rfl (zc ?_) (zc ?_) <;> intro hc <;> (try (first | contradiction | (exfalso; omega; done) | (have : hc = trivial := rfl; clear this; clear hc))))) | ((with_reducible refine r_is ?_); first | refine yr ?_ | (refine r_append_full SlF.h SlF.s ZoF.h zd rfl rfl zC zJ zS rfl (fun hn => ?_) (fun hn => ?_) <;> refine r_nn zN zH ?_)) | fail)
      refine ihj (j + 1) _ zo zo ?_
      rw [htj2]
      (refine St.Le.clean zR zU zV)
    · repeat' (first | refine yw ?_ | ((with_reducible refine Runs.is ?_); first | refine Runs.region (id := 7) ?_ | ((with_reducible refine Runs.isC ?_); refine Runs.cond rfl (zc ?_) (zc ?_) <;> intro hc <;> (try (first | contradiction | (exfalso; omega; done) | (have : hc = trivial := rfl; clear this; clear hc))))) | ((with_reducible refine r_is ?_); first | refine yr ?_) | fail)
      rw [List.take_of_length_le zo]
      (refine Runs.weaken (St.Le.freeze_lst 10 rfl) ?_; refine yf ?_)
      repeat' (first | refine yw ?_ | ((with_reducible refine Runs.is ?_); first | refine Runs.region (id := 11) ?_ | refine Runs.region (id := 12) ?_ | ((with_reducible refine Runs.isC ?_); refine Runs.cond rfl (zc ?_) (zc ?_) <;> intro hc <;> (try (first | contradiction | (exfalso; omega; done) | (have : hc = trivial := rfl; clear this; clear hc))))) | ((with_reducible refine r_is ?_); first | refine yr ?_ | (refine r_append_full SlF.h SlF.s ZoF.h zd rfl rfl zC zJ zS rfl (fun hn => ?_) (fun hn => ?_) <;> refine r_nn zN zH ?_)) | fail)
      refine ih (k + 1) _ zo zo ?_
      rw [hst]
      (refine St.Le.clean zR zU zV)
  · repeat' (first | refine yw ?_ | ((with_reducible refine Runs.is ?_); first | refine Runs.region (id := 3) ?_ | ((with_reducible refine Runs.isC ?_); refine Runs.cond rfl (zc ?_) (zc ?_) <;> intro hc <;> (try (first | contradiction | (exfalso; omega; done) | (have : hc = trivial := rfl; clear this; clear hc))))) | ((with_reducible refine r_is ?_); first | refine yr ?_) | fail)
    rw [List.take_of_length_le zo]
    (refine Runs.weaken (St.Le.freeze_lst 7 rfl) ?_; refine yf ?_)
    repeat' (first | refine yw ?_ | ((with_reducible refine Runs.is ?_); first | refine Runs.region (id := 13) ?_ | ((with_reducible refine Runs.isC ?_); refine Runs.cond rfl (zc ?_) (zc ?_) <;> intro hc <;> (try (first | contradiction | (exfalso; omega; done) | (have : hc = trivial := rfl; clear this; clear hc))))) | ((with_reducible refine r_is ?_); first | refine yr ?_ | (refine r_fn rfl (distinct_ints false (vs.map srv) hs) HbF.h zL1 zD ?_; refine r_nn zN zH ?_)) | fail)
    (refine Runs.ret1 Tryz.func19 rfl zM zD ?_; try exact zX)
end Go.Proofs
namespace Go.Proofs
open Go.AM
attribute [local irreducible] AM.evalR AM.evalD AM.Runs AM.valK AM.dK AM.opK AM.stepR AM.CallS AM.St.Le
def withinB (a b c : Config) : Bool := containsB c a && containsB b c
theorem interval_Within (f g h : Bool) (a b c : Config) : AM.Fn Tryz.prog 12 [.sl f (a.map prV), .sl g (b.map prV), .sl h (c.map prV)] (.b (withinB a b c)) := by
  unfold withinB
  (refine spec_of_runs Tryz.func12 rfl ?_; simp only [Tryz.f12]; refine ys ?_)
  repeat' (first | refine yw ?_ | ((with_reducible refine Runs.is ?_); first | refine Runs.region ?_ | ((with_reducible refine Runs.isC ?_); refine Runs.cond rfl (zc ?_) (zc ?_) <;> intro hc <;> (try (first | contradiction | (exfalso; omega; done) | (have : hc = trivial := rfl; clear this; clear hc))))) | ((with_reducible refine r_is ?_); first | refine yr ?_ | (refine r_fn rfl (config_Contains h f c a) HbF.h zL2 zD ?_; refine r_nn zN zH ?_) | (refine r_fn rfl (config_Contains g h b c) HbF.h zL2 zD ?_; refine r_nn zN zH ?_) | ((with_reducible refine r_gd ?_); (first | refine r_guardPt rfl rfl ?_ ?_ | refine r_guardNt rfl rfl ?_ ?_ | refine r_guard rfl rfl ?_ ?_) <;> intro hG <;> (try (exfalso; omega; done)) <;> refine r_nn zN zH ?_)) | fail)
  all_goals ((refine Runs.ret1 Tryz.func12 rfl zM zD ?_; try exact zX))
  all_goals (refine V.Le.of_eq ?_; simp_all)
def fac (low : Vector) (e : Entry) : Int := 1 + e.count - getV low e.author
def countI (low high : Vector) : Int := high.foldl (fun n e => n * fac low e) 1
def countB (a b : Config) : Int := if containsB b a then countI (vectorV a) (vectorV b) else 0
theorem mul_fac {n f m : Int} (h1 : 1 ≤ n ∧ n ≤ m) (h2 : 1 ≤ f ∧ f ≤ 4) : 1 ≤ n * f ∧ n * f ≤ 4 * m := by
  obtain rfl | rfl | rfl | rfl : f = 1 ∨ f = 2 ∨ f = 3 ∨ f = 4 := by omega
  all_goals omega
theorem countI_le {low high : Vector} (h : ∀ e ∈ high, 1 ≤ fac low e ∧ fac low e ≤ 4) : ∀ k, k ≤ high.length → 1 ≤ countI low (high.take k) ∧ countI low (high.take k) ≤ ((4 ^ k : Nat) : Int) := by
  intro k hk
  induction k with
  | zero => simp [countI]
  | succ k ih =>
    have hlt : k < high.length := by omega
    have he := h (high.getD k default) (by rw [List.getD_eq_getElem?_getD, List.getElem?_eq_getElem hlt]; exact List.getElem_mem hlt)
    unfold countI at ih ⊢
    rw [foldl_take hlt]
    have := mul_fac (ih zo) he
    rw [Nat.pow_succ, Nat.mul_comm, Int.natCast_mul]
    exact this
theorem interval_Count (f g : Bool) (a b : Config) (ha : a.length ≤ 10000000) (hb : b.length ≤ 10000000) (hl : (vectorV b).length ≤ 3) (hf : containsB b a = true → ∀ e ∈ vectorV b, 1 ≤ fac (vectorV a) e ∧ fac (vectorV a) e ≤ 4) (hcn : ∀ e ∈ vectorV b, 0 ≤ e.count ∧ e.count ≤ 1000000) (hg : ∀ x, 0 ≤ getV (vectorV a) x ∧ getV (vectorV a) x ≤ 1000000000) :
    AM.Fn Tryz.prog 11 [.sl f (a.map prV), .sl g (b.map prV)] (.i (countB a b)) := by
  unfold countB
  (refine spec_of_runs Tryz.func11 rfl ?_; simp only [Tryz.f11]; refine ys ?_)
  repeat' (first | refine yw ?_ | ((with_reducible refine Runs.is ?_); first | refine Runs.region (id := 0) ?_ | refine Runs.region (id := 1) ?_ | refine Runs.region (id := 2) ?_ | refine Runs.region (id := 3) ?_ | refine Runs.region (id := 4) ?_ | ((with_reducible refine Runs.isC ?_); refine Runs.cond rfl (zc ?_) (zc ?_) <;> intro hc <;> (try (first | contradiction | (exfalso; omega; done) | (have : hc = trivial := rfl; clear this; clear hc))))) | ((with_reducible refine r_is ?_); first | refine yr ?_ | (refine r_fn rfl (config_Contains g f _ _) HbF.h zL2 zD ?_; refine r_nn zN zH ?_) | (refine r_fn rfl (config_Vector f a ha) HbF.h zL1 zD ?_; refine r_nn zN zH ?_) | (refine r_fn rfl (config_Vector g b hb) HbF.h zL1 zD ?_; refine r_nn zN zH ?_)) | fail)
  · (refine Runs.ret1 Tryz.func11 rfl zM zD ?_; try exact zX)
    rw [hc]; exact V.Le.refl _
  · have hct2 : containsB b a = true := by simpa using hc
    rw [hct2, if_pos rfl]
    have hle := countI_le (hf hct2)
    have hf2 := hf hct2
    generalize vectorV b = hi at *
    have hmem : ∀ k, k < hi.length → hi.getD k default ∈ hi := fun k h => by rw [List.getD_eq_getElem?_getD, List.getElem?_eq_getElem h]; exact List.getElem_mem h
    refine Runs.loopI (fun k : Nat => hi.length - k) (fun k => k ≤ hi.length)
      (fun k => ⟨[.any, .any, .any, .any, .any, .sl false ((vectorV a).map enV), .i (countI (vectorV a) (hi.take k)), .any, .any, .any, .any, .any, .any, .any, .any, .any, .sl false (hi.map enV), .i (hi.length : Nat), .i (k : Nat), .any, .any, .any, .any, .any, .any, .any, .any, .any, .any, .any, .any, .any, .any, .any], []⟩) 0 (by simp) ?_ ?_
    · (refine St.Le.clean zR zU zV)
    rintro k hk ih
    have hst : k < hi.length → countI (vectorV a) (hi.take (k + 1)) = countI (vectorV a) (hi.take k) * fac (vectorV a) (hi.getD k default) := fun h => foldl_take (g := fun n e => n * fac (vectorV a) e) (s := (1 : Int)) h
    have hend : hi.length ≤ k → countI (vectorV a) (hi.take k) = countI (vectorV a) hi := fun h => by rw [List.take_of_length_le h]
    have hn := hle k hk
    have hpw : (4 : Nat) ^ k ≤ 4 ^ 3 := Nat.pow_le_pow_right zd zo
    by_cases hlt : k < hi.length
    · have hst2 := hst hlt
      have hff := hf2 _ (hmem k hlt)
      have hcc := hcn _ (hmem k hlt)
      have hgg := hg (hi.getD k default).author
      have hmf := mul_fac (m := 64) ⟨hn.1, by omega⟩ hff
      unfold fac at hst2 hmf
      generalize countI (vectorV a) (hi.take k) = n at hst2 hmf ⊢
      repeat' (first | refine yw ?_ | ((with_reducible refine Runs.is ?_); first | refine Runs.region (id := 5) ?_ | refine Runs.region (id := 6) ?_ | refine Runs.drawn (id := 7) mixed zK ?_ | refine Runs.region (id := 8) ?_ | ((with_reducible refine Runs.isC ?_); refine Runs.cond rfl (zc ?_) (zc ?_) <;> intro hc <;> (try (first | contradiction | (exfalso; omega; done) | (have : hc = trivial := rfl; clear this; clear hc))))) | ((with_reducible refine r_is ?_); first | refine yr ?_) | ((with_reducible refine d_is ?_); first | refine yd ?_ | (refine d_fn rfl (vector_Get false _ _) HbF.h zL2 zD ?_; refine d_nn zN zH ?_)) | fail)
      refine ih (k + 1) _ zo zo ?_
      rw [hst2]
      (refine St.Le.clean zR zU zV)
    · repeat' (first | refine yw ?_ | ((with_reducible refine Runs.is ?_); first | refine Runs.region (id := 5) ?_ | ((with_reducible refine Runs.isC ?_); refine Runs.cond rfl (zc ?_) (zc ?_) <;> intro hc <;> (try (first | contradiction | (exfalso; omega; done) | (have : hc = trivial := rfl; clear this; clear hc))))) | ((with_reducible refine r_is ?_); first | refine yr ?_) | fail)
      have he := hend zo
      rw [he]
      repeat' (first | refine yw ?_ | ((with_reducible refine Runs.is ?_); first | refine Runs.region (id := 9) ?_ | ((with_reducible refine Runs.isC ?_); refine Runs.cond rfl (zc ?_) (zc ?_) <;> intro hc <;> (try (first | contradiction | (exfalso; omega; done) | (have : hc = trivial := rfl; clear this; clear hc))))) | ((with_reducible refine r_is ?_); first | refine yr ?_) | fail)
      (refine Runs.ret1 Tryz.func11 rfl zM zD ?_; try exact zX)
def awC : Config := [⟨201, 1, [⟨1, 9, 1, 0, ⟨0, 0, 0⟩⟩]⟩, ⟨202, 1, [⟨1, 9, 1, 0, ⟨0, 0, 0⟩⟩]⟩]
def awV : View := ⟨[⟨1, 1⟩], ⟨1, 0, 0⟩⟩
theorem aw_fine : Fine (vectorV awC) := by unfold Fine; decide +kernel
theorem aw_small : Small awC := ⟨by decide, by decide +kernel⟩
theorem aw_all : (allB [] awC).length = 4 := by decide +kernel
theorem aw_all1 : allB awC awC = [awC] := by decide +kernel
theorem aw_within : withinB [] awC (awC.take 1) = true := by decide +kernel
theorem aw_count : countB [] awC = 4 := by decide +kernel
theorem aw_plain : ∀ c ∈ allB [] awC, c.length ≤ 100 ∧ ∀ p ∈ c, p.changes.length ≤ 1000 ∧ True := by decide +kernel
theorem sortI_perm {zs ys : List Int} (h1 : ys.Pairwise (· ≤ ·)) (h2 : zs.Perm ys) : sortI zs = ys := by
  have h3 : (sortI zs).Pairwise (fun x y => decide (x ≤ y) = true) := List.pairwise_mergeSort (le := fun x y => decide (x ≤ y)) (by intro a b c; simp; omega) (by intro a b; simp; omega) zs
  have h4 : (sortI zs).Perm ys := (List.mergeSort_perm zs _).trans h2
  exact h4.eq_of_pairwise (le := (· ≤ ·)) (fun a b _ _ => Int.le_antisymm) (h3.imp (by simp)) h1
theorem aw_spanS : distinctI [[1], [1, 9], [1, 9], [1, 9]] = [1, 9] := by
  unfold distinctI
  rw [sortI_perm (ys := [1, 1, 1, 1, 9, 9, 9]) zd zd]
  decide +kernel
end Go.Proofs
namespace Go.Proofs
open Go.AM
attribute [local irreducible] AM.evalR AM.evalD AM.Runs AM.valK AM.dK AM.opK AM.stepR AM.CallS AM.St.Le
theorem aw_of (a : Int) : ofS ⟨a, 1, [⟨1, 9, 1, 0, ⟨0, 0, 0⟩⟩]⟩ = ⟨[9], [], [⟨9, 1, 0, a, 1⟩], ⟨0, 0, 0⟩, 0, 0, 0⟩ := by
  have h : ofAcc ⟨a, 1, [⟨1, 9, 1, 0, ⟨0, 0, 0⟩⟩]⟩ = ⟨[9], [], [(9, ⟨9, 1, 0, a, 1⟩)], ⟨0, 0, 0⟩, 0, 0, 0⟩ := rfl
  unfold ofS
  rw [h]
  dsimp only
  rw [sortI_perm (zs := [9]) (ys := [9]) zd (List.Perm.refl _), sortI_perm (zs := []) (ys := []) zd (List.Perm.refl _)]
  rfl
theorem aw_allE : allB [] awC = [[], [⟨202, 1, [⟨1, 9, 1, 0, ⟨0, 0, 0⟩⟩]⟩], [⟨201, 1, [⟨1, 9, 1, 0, ⟨0, 0, 0⟩⟩]⟩], [⟨201, 1, [⟨1, 9, 1, 0, ⟨0, 0, 0⟩⟩]⟩, ⟨202, 1, [⟨1, 9, 1, 0, ⟨0, 0, 0⟩⟩]⟩]] := by decide +kernel
theorem aw_srv : ((allB [] awC).map (viewOf awV)).map srv = [[1], [1, 9], [1, 9], [1, 9]] := by
  rw [aw_allE]
  simp only [List.map_cons, List.map_nil, viewOf, sumS, List.foldl_cons, List.foldl_nil, sumStep, aw_of]
  decide +kernel
theorem aw_span : spanI ((allB [] awC).map (viewOf awV)) = [1, 9] := by unfold spanI; rw [aw_srv]; exact aw_spanS
theorem aw_mem : ∀ v ∈ (allB [] awC).map (viewOf awV), v.members.length ≤ 1000000 := by
  intro v hv
  have h1 : srv v ∈ ((allB [] awC).map (viewOf awV)).map srv := List.mem_map.2 ⟨v, hv, rfl⟩
  rw [aw_srv] at h1
  have h2 : (srv v).length ≤ 2 := by revert h1; generalize srv v = l; revert l; decide
  unfold srv at h2
  rw [List.length_map] at h2; omega
theorem aw_get (x : Int) : getV (vectorV []) x = 0 := by rw [show vectorV [] = [] from rfl]; simp [getV]
theorem law_awake : AM.Fn Tryz.prog 7 [] (.b true) := by
  (refine spec_of_runs Tryz.func7 rfl ?_; simp only [Tryz.f7]; refine ys ?_)
  repeat' (first | refine yw ?_ | ((with_reducible refine Runs.is ?_); first | refine Runs.region (id := 0) ?_ | refine Runs.region (id := 1) ?_ | ((with_reducible refine Runs.isC ?_); refine Runs.cond rfl (zc ?_) (zc ?_) <;> intro hc <;> (try (first | contradiction | (exfalso; omega; done) | (have : hc = trivial := rfl; clear this; clear hc))))) | ((with_reducible refine r_is ?_); first | refine yrb ?_ | (refine r_buildOwn (D := 6) SlF.h ZoF.h zd zB zd rfl ?_; refine r_nn zN zH ?_) | (refine r_build SlF.h ZoF.h zd zB ?_; refine r_n zN ?_)) | fail)
  (refine Runs.weaken (St.Le.freeze_lst 6 rfl) ?_; refine yf ?_)
  repeat' (first | refine yw ?_ | ((with_reducible refine Runs.is ?_); first | refine Runs.region (id := 2) ?_ | refine Runs.region (id := 3) ?_ | ((with_reducible refine Runs.isC ?_); refine Runs.cond rfl (zc ?_) (zc ?_) <;> intro hc <;> (try (first | contradiction | (exfalso; omega; done) | (have : hc = trivial := rfl; clear this; clear hc))))) | ((with_reducible refine r_is ?_); first | refine yrb ?_ | (refine r_buildOwn (D := 13) SlF.h ZoF.h zd zB zd rfl ?_; refine r_nn zN zH ?_) | (refine r_build SlF.h ZoF.h zd zB ?_; refine r_n zN ?_)) | fail)
  (refine Runs.weaken (St.Le.freeze_lst 13 rfl) ?_; refine yf ?_)
  refine Runs.weaken (St.Le.clean (s' := ⟨[.any, .any, .sl false (awC.map prV), .ptr 3 0 0, .any, .any, .any, .any, .any, .any, .any, .any, .any, .any, .any, .any, .any, .any, .any, .any, .any, .any, .any, .any, .any, .any, .any, .any, .any, .any, .any, .any, .any, .any, .any, .any, .any, .any, .any, .any, .any, .any, .any, .any, .any, .any, .any, .any, .any, .any, .any, .any, .any], [(3, .var 35 (viV awV))]⟩) (by repeat' (first | exact V.LeL.nil | refine V.LeL.cons ?_ ?_ | exact V.Le.any _ | exact V.Le.full _ | exact V.Le.refl _)) (by simp [V.usesL, V.uses, AM.look_cons, V.usesL_data, da_prV]) (by simp [AM.sub, AM.look_cons, V.uses, V.uses_data, da_viV]; try rfl)) ?_
  have hA := interval_All false false [] awC zd aw_small zd aw_fine
  have hA1 := interval_All false false awC awC zd aw_small zd aw_fine
  have hV := interval_Views false false awV [] awC hA (by rw [aw_all]; decide) zd aw_plain
  have hV1 := interval_Views false false awV awC awC hA1 (by rw [aw_all1]; decide) zd (by rw [aw_all1]; intro c hc; rw [List.mem_singleton.1 hc]; exact aw_plain awC (by rw [aw_allE]; decide))
  have hS := interval_Span false false awV [] awC _ hV (by rw [List.length_map, aw_all]; decide) aw_mem (by rw [aw_srv]; decide)
  rw [aw_span] at hS
  have hW := interval_Within false false false [] awC (awC.take 1)
  rw [aw_within, List.map_take] at hW
  have hC := interval_Count false false [] awC zd zd (by decide +kernel) (fun _ => by decide +kernel) (by decide +kernel) (fun x => by rw [aw_get]; decide)
  rw [aw_count] at hC
  have h4 := aw_all
  have h1 : ((allB awC awC).map (viewOf awV)).length = 1 := by rw [aw_all1]; rfl
  have hl2 : awC.length = 2 := rfl
  have hsl : ([1, 9] : List Int).length = 2 := rfl
  have hs1 : ([1, 9] : List Int).getD 1 default = 9 := rfl
  have hda : V.dataL (List.take 1 (awC.map prV)) = true := by rw [← List.map_take]; exact dl_prV _
  clear hA1 hV
  generalize ([1, 9] : List Int) = sp at hS hsl hs1
  generalize (allB awC awC).map (viewOf awV) = vs at hV1 h1
  generalize allB [] awC = l at hA h4
  generalize awC = c at *
  generalize awV = v at *
  repeat' (first | refine yw ?_ | ((with_reducible refine Runs.is ?_); first | refine Runs.region (id := 4) ?_ | refine Runs.region (id := 5) ?_ | ((with_reducible refine Runs.isC ?_); refine Runs.cond rfl (zc ?_) (zc ?_) <;> intro hc <;> (try (first | contradiction | (exfalso; omega; done) | (have : hc = trivial := rfl; clear this; clear hc))))) | ((with_reducible refine r_is ?_); first | refine yr ?_ | (refine r_fn rfl (hS) HbF.h zL3 zD ?_; refine r_nn zN zH ?_) | (refine r_fn rfl (hC) HbF.h zL2 zD ?_; refine r_nn zN zH ?_) | (refine r_fn rfl (hA) HbF.h zL2 zD ?_; refine r_nn zN zH ?_) | (refine r_fn rfl (hW) HbF.h zL3 zD ?_; refine r_nn zN zH ?_) | (refine r_fn rfl (hV1) HbF.h zL3 zD ?_; refine r_nn zN zH ?_) | ((with_reducible refine r_gd ?_); (first | refine r_guardPt rfl rfl ?_ ?_ | refine r_guardNt rfl rfl ?_ ?_ | refine r_guard rfl rfl ?_ ?_) <;> intro hG <;> (try (exfalso; omega; done)) <;> refine r_nn zN zH ?_)) | fail)
  all_goals ((refine Runs.ret1 Tryz.func7 rfl zM zD ?_; try exact zX))
  all_goals (exact V.Le.of_eq (by simp [h1]))
end Go.Proofs
namespace Go.Proofs
open Go.AM
attribute [local irreducible] AM.evalR AM.evalD AM.Runs AM.valK AM.dK AM.opK AM.stepR AM.CallS AM.St.Le
def blk (f : Nat → Nat → Proposal) (a n : Nat) : Config := (List.range n).map (f a)
def cut (f : Nat → Nat → Proposal) (i j k : Nat) : Config := blk f 0 i ++ blk f 1 j ++ blk f 2 k
def Nice (f : Nat → Nat → Proposal) : Prop := ∀ a i, (f a i).admin = 201 + a ∧ (f a i).number = i + 1
def IsCut (f : Nat → Nat → Proposal) (c : Config) : Prop := ∃ i j k, (i < 4 ∧ j < 4 ∧ k < 4) ∧ c = cut f i j k
def key (p : Proposal) : Proposal := ⟨p.admin, p.number, []⟩
def f0 (a i : Nat) : Proposal := ⟨201 + a, i + 1, []⟩
theorem key_nice {f : Nat → Nat → Proposal} (hf : Nice f) (a i : Nat) : key (f a i) = f0 a i := by
  unfold key f0; rw [(hf a i).1, (hf a i).2]
theorem cut_key {f : Nat → Nat → Proposal} (hf : Nice f) (i j k : Nat) : (cut f i j k).map key = cut f0 i j k := by
  simp only [cut, blk, List.map_append, List.map_map]
  congr 1
  · congr 1 <;> exact List.map_congr_left fun n _ => key_nice hf _ n
  · exact List.map_congr_left fun n _ => key_nice hf _ n
theorem cmpP_key (p q : Proposal) : cmpP (key p) (key q) = cmpP p q := rfl
theorem getD_key (c : Config) (i : Nat) (h : i < c.length) : (c.map key).getD i default = key (c.getD i default) := by
  simp [List.getD_eq_getElem?_getD, h]
theorem bs_congr {k k' : Nat → Int} {i j : Nat} (h : ∀ n, i ≤ n → n < j → k n = k' n) : bs k i j = bs k' i j := by
  induction hn : j - i using Nat.strongRecOn generalizing i j with
  | _ n ih =>
    unfold bs
    by_cases hij : i < j
    · rw [dif_pos hij, dif_pos hij, h ((i + j) / 2) zo zo]
      split
      · exact ih (j - ((i + j) / 2 + 1)) zo (fun n h1 h2 => h n zo h2) rfl
      · exact ih ((i + j) / 2 - i) zo (fun n h1 h2 => h n h1 zo) rfl
    · rw [dif_neg hij, dif_neg hij]
theorem hasB_key (c : Config) (p : Proposal) : hasB (c.map key) (key p) = hasB c p := by
  have e : bs (fun i => cmpP ((c.map key).getD i default) (key p)) 0 (c.map key).length = bs (fun i => cmpP (c.getD i default) p) 0 c.length := by
    rw [List.length_map]
    refine bs_congr fun n _ hn => ?_
    rw [getD_key c n hn, cmpP_key]
  unfold hasB
  dsimp only
  rw [e, List.length_map]
  by_cases h : bs (fun i => cmpP (c.getD i default) p) 0 c.length < c.length
  · rw [getD_key c _ h, cmpP_key]
  · rw [decide_eq_false (fun x => h x.1), decide_eq_false (fun x => h x.1)]
theorem hasR_key (c : Config) (p : Proposal) : hasR (c.map key) (key p) = hasR c p := by
  unfold hasR; rw [List.any_map]; rfl
theorem vectorV_key (c : Config) : vectorV (c.map key) = vectorV c := by
  unfold vectorV; rw [List.foldl_map]; rfl
theorem vectorR_key (c : Config) : vectorR (c.map key) = vectorR c := by
  unfold vectorR; rw [List.foldl_map]; rfl
def sel (i j k a : Nat) : Nat := if a = 0 then i else if a = 1 then j else k
theorem has_fin : ∀ i j k : Fin 4, ∀ a n : Fin 3, hasB (cut f0 i j k) (f0 a n) = decide (n.val < sel i j k a) ∧ hasR (cut f0 i j k) (f0 a n) = decide (n.val < sel i j k a) := by decide +kernel
theorem has_cut {f : Nat → Nat → Proposal} (hf : Nice f) {i j k : Nat} (h : i < 4 ∧ j < 4 ∧ k < 4) {a n : Nat} (ha : a < 3) (hn : n < 3) : hasB (cut f i j k) (f a n) = decide (n < sel i j k a) ∧ hasR (cut f i j k) (f a n) = decide (n < sel i j k a) := by
  rw [← hasB_key, ← hasR_key, cut_key hf, key_nice hf]
  exact has_fin ⟨i, h.1⟩ ⟨j, h.2.1⟩ ⟨k, h.2.2⟩ ⟨a, ha⟩ ⟨n, hn⟩
theorem all_blk {f : Nat → Nat → Proposal} {g : Proposal → Bool} {a m n : Nat} (hm : m ≤ 3) (h : ∀ i, i < 3 → g (f a i) = decide (i < n)) : (blk f a m).all g = decide (m ≤ n) := by
  rw [Bool.eq_iff_iff, List.all_eq_true, decide_eq_true_eq]
  simp only [blk, List.mem_map, List.mem_range]
  constructor
  · intro hx
    rcases Nat.lt_or_ge n m with h1 | h1
    · have := hx _ ⟨n, h1, rfl⟩
      rw [h n zo, decide_eq_true_eq] at this
      omega
    · exact h1
  · rintro hmn x ⟨i, hi, rfl⟩
    rw [h i zo, decide_eq_true_eq]; omega
theorem contains_cut {f : Nat → Nat → Proposal} (hf : Nice f) {i j k i' j' k' : Nat} (h : i < 4 ∧ j < 4 ∧ k < 4) (h' : i' < 4 ∧ j' < 4 ∧ k' < 4) :
    containsB (cut f i j k) (cut f i' j' k') = decide (i' ≤ i ∧ j' ≤ j ∧ k' ≤ k) ∧ containsR (cut f i j k) (cut f i' j' k') = decide (i' ≤ i ∧ j' ≤ j ∧ k' ≤ k) := by
  constructor
  · rw [containsB, show cut f i' j' k' = blk f 0 i' ++ blk f 1 j' ++ blk f 2 k' from rfl, List.all_append, List.all_append,
      all_blk zo (fun n hn => (has_cut hf h zd hn).1), all_blk zo (fun n hn => (has_cut hf h zd hn).1), all_blk zo (fun n hn => (has_cut hf h zd hn).1)]
    simp [sel, Bool.and_assoc]
  · rw [containsR, show cut f i' j' k' = blk f 0 i' ++ blk f 1 j' ++ blk f 2 k' from rfl, List.all_append, List.all_append,
      all_blk zo (fun n hn => (has_cut hf h zd hn).2), all_blk zo (fun n hn => (has_cut hf h zd hn).2), all_blk zo (fun n hn => (has_cut hf h zd hn).2)]
    simp [sel, Bool.and_assoc]
def vecC (i j k : Nat) : Vector := (if 0 < i then [⟨201, i⟩] else []) ++ (if 0 < j then [⟨202, j⟩] else []) ++ (if 0 < k then [⟨203, k⟩] else [])
theorem vec_fin : ∀ i j k : Fin 4, vectorV (cut f0 i j k) = vecC i j k ∧ vectorR (cut f0 i j k) = vecC i j k ∧ vec3 (i : Nat) (j : Nat) (k : Nat) = vecC i j k ∧ (getV (vecC i j k) 201 = (i : Nat) ∧ getV (vecC i j k) 202 = (j : Nat) ∧ getV (vecC i j k) 203 = (k : Nat)) ∧ countR (vecC i j k) 201 = (i : Nat) ∧ countR (vecC i j k) 202 = (j : Nat) ∧ countR (vecC i j k) 203 = (k : Nat) := by decide +kernel
theorem vec_cut {f : Nat → Nat → Proposal} (hf : Nice f) {i j k : Nat} (h : i < 4 ∧ j < 4 ∧ k < 4) : vectorV (cut f i j k) = vecC i j k ∧ vectorR (cut f i j k) = vecC i j k := by
  rw [← vectorV_key, ← vectorR_key, cut_key hf]
  have := vec_fin ⟨i, h.1⟩ ⟨j, h.2.1⟩ ⟨k, h.2.2⟩
  exact ⟨this.1, this.2.1⟩
def vlist (i j k i' j' k' : Nat) : List Vector := (upto i i').flatMap fun a => (upto j j').flatMap fun b => (upto k k').map fun c => vec3 a b c
theorem vectors_fin : ∀ i j k i' j' k' : Fin 4, i ≤ i' → j ≤ j' → k ≤ k' → vectorsV (vecC i j k) (vecC i' j' k') = vlist i j k i' j' k' := by decide +kernel
theorem filter_range (m n : Nat) : ((List.range m).filter fun i => decide (i < n)) = List.range (min m n) := by
  induction m with
  | zero => simp
  | succ m ih =>
    rw [List.range_succ, List.filter_append, ih]
    by_cases h : m < n
    · rw [show min (m + 1) n = m + 1 by omega, show min m n = m by omega, List.range_succ]; simp [h]
    · rw [show min (m + 1) n = n by omega, show min m n = n by omega]; simp [h]
theorem filter_blk {f : Nat → Nat → Proposal} {g : Proposal → Bool} {a n m : Nat} (h : ∀ i, i < m → g (f a i) = decide (i < n)) : (blk f a m).filter g = blk f a (min m n) := by
  unfold blk
  rw [List.filter_map, ← filter_range]
  congr 1
  refine List.filter_congr fun i hi => ?_
  exact h i (List.mem_range.1 hi)
theorem filter_cut {f : Nat → Nat → Proposal} {g : Proposal → Bool} {i j k i' j' k' : Nat} (h1 : ∀ n, n < i → g (f 0 n) = decide (n < i')) (h2 : ∀ n, n < j → g (f 1 n) = decide (n < j')) (h3 : ∀ n, n < k → g (f 2 n) = decide (n < k')) :
    (cut f i j k).filter g = cut f (min i i') (min j j') (min k k') := by
  unfold cut
  rw [List.filter_append, List.filter_append, filter_blk h1, filter_blk h2, filter_blk h3]
theorem restrictR_cut {f : Nat → Nat → Proposal} (hf : Nice f) (v : Vector) (i j k : Nat) : restrictR (cut f i j k) v = cut f (min i (countR v 201).toNat) (min j (countR v 202).toNat) (min k (countR v 203).toNat) := by
  unfold restrictR
  refine filter_cut ?_ ?_ ?_ <;> (intro n hn; rw [(hf _ n).1, (hf _ n).2]; apply decide_eq_decide.2; simp only [show (201 : Int) + ((0 : Nat) : Int) = 201 from rfl, show (201 : Int) + ((1 : Nat) : Int) = 202 from rfl, show (201 : Int) + ((2 : Nat) : Int) = 203 from rfl]; omega)
theorem restrictV_cut {f : Nat → Nat → Proposal} (hf : Nice f) (v : Vector) (i j k : Nat) : restrictV (cut f i j k) v = cut f (min i (getV v 201).toNat) (min j (getV v 202).toNat) (min k (getV v 203).toNat) := by
  unfold restrictV
  refine filter_cut ?_ ?_ ?_ <;> (intro n hn; rw [(hf _ n).1, (hf _ n).2]; apply decide_eq_decide.2; simp only [show (201 : Int) + ((0 : Nat) : Int) = 201 from rfl, show (201 : Int) + ((1 : Nat) : Int) = 202 from rfl, show (201 : Int) + ((2 : Nat) : Int) = 203 from rfl]; omega)
theorem flatMap_ext {α β : Type} {l : List α} {g h : α → List β} (e : ∀ x ∈ l, g x = h x) : l.flatMap g = l.flatMap h := by
  induction l with
  | nil => rfl
  | cons x l ih => rw [List.flatMap_cons, List.flatMap_cons, e x (by simp), ih fun y hy => e y (by simp [hy])]
theorem mem_upto {a b x : Int} : x ∈ upto a b ↔ a ≤ x ∧ x ≤ b := by
  unfold upto
  rw [List.mem_map]
  constructor
  · rintro ⟨n, hn, rfl⟩; rw [List.mem_range] at hn; omega
  · intro h; exact ⟨(x - a).toNat, by rw [List.mem_range]; omega, by omega⟩
def allN (f : Nat → Nat → Proposal) (i j k i' j' k' : Nat) : List Config := (upto i i').flatMap fun a => (upto j j').flatMap fun b => (upto k k').map fun c => cut f a.toNat b.toNat c.toNat
theorem allR_cut {f : Nat → Nat → Proposal} (hf : Nice f) {i j k i' j' k' : Nat} (h : i < 4 ∧ j < 4 ∧ k < 4) (h' : i' < 4 ∧ j' < 4 ∧ k' < 4) :
    allR (cut f i j k) (cut f i' j' k') = if i ≤ i' ∧ j ≤ j' ∧ k ≤ k' then allN f i j k i' j' k' else [] := by
  unfold allR
  rw [(contains_cut hf h' h).2]
  by_cases hle : i ≤ i' ∧ j ≤ j' ∧ k ≤ k'
  · rw [if_pos (by simpa using hle), if_pos hle]
    have v1 := vec_fin ⟨i, h.1⟩ ⟨j, h.2.1⟩ ⟨k, h.2.2⟩
    have v2 := vec_fin ⟨i', h'.1⟩ ⟨j', h'.2.1⟩ ⟨k', h'.2.2⟩
    dsimp only at v1 v2
    unfold allJ allK cntR
    rw [(vec_cut hf h).2, (vec_cut hf h').2, v1.2.2.2.2.1, v1.2.2.2.2.2.1, v1.2.2.2.2.2.2, v2.2.2.2.2.1, v2.2.2.2.2.2.1, v2.2.2.2.2.2.2]
    unfold allN
    refine flatMap_ext fun a ha => flatMap_ext fun b hb => List.map_congr_left fun c hc => ?_
    rw [mem_upto] at ha hb hc
    have v3 := vec_fin ⟨a.toNat, by omega⟩ ⟨b.toNat, by omega⟩ ⟨c.toNat, by omega⟩
    dsimp only at v3
    rw [Int.toNat_of_nonneg zo, Int.toNat_of_nonneg zo, Int.toNat_of_nonneg zo] at v3
    rw [restrictR_cut hf, v3.2.2.1, v3.2.2.2.2.1, v3.2.2.2.2.2.1, v3.2.2.2.2.2.2]
    congr 1 <;> omega
  · rw [if_neg (by simpa using hle), if_neg hle]
theorem allB_cut {f : Nat → Nat → Proposal} (hf : Nice f) {i j k i' j' k' : Nat} (h : i < 4 ∧ j < 4 ∧ k < 4) (h' : i' < 4 ∧ j' < 4 ∧ k' < 4) :
    allB (cut f i j k) (cut f i' j' k') = if i ≤ i' ∧ j ≤ j' ∧ k ≤ k' then allN f i j k i' j' k' else [] := by
  unfold allB
  rw [(contains_cut hf h' h).1]
  by_cases hle : i ≤ i' ∧ j ≤ j' ∧ k ≤ k'
  · rw [if_pos (by simpa using hle), if_pos hle, (vec_cut hf h).1, (vec_cut hf h').1]
    rw [vectors_fin ⟨i, h.1⟩ ⟨j, h.2.1⟩ ⟨k, h.2.2⟩ ⟨i', h'.1⟩ ⟨j', h'.2.1⟩ ⟨k', h'.2.2⟩ hle.1 hle.2.1 hle.2.2]
    unfold allN vlist
    rw [List.map_flatMap]
    refine flatMap_ext fun a ha => ?_
    rw [List.map_flatMap]
    refine flatMap_ext fun b hb => ?_
    rw [List.map_map]
    refine List.map_congr_left fun c hc => ?_
    rw [mem_upto] at ha hb hc
    dsimp only at ha hb hc
    have v3 := vec_fin ⟨a.toNat, by omega⟩ ⟨b.toNat, by omega⟩ ⟨c.toNat, by omega⟩
    dsimp only at v3
    rw [Int.toNat_of_nonneg zo, Int.toNat_of_nonneg zo, Int.toNat_of_nonneg zo] at v3
    rw [Function.comp, restrictV_cut hf, v3.2.2.1, v3.2.2.2.1.1, v3.2.2.2.1.2.1, v3.2.2.2.1.2.2]
    congr 1 <;> omega
  · rw [if_neg (by simpa using hle), if_neg hle]
theorem allN_cut (f : Nat → Nat → Proposal) {i j k i' j' k' : Nat} (h' : i' < 4 ∧ j' < 4 ∧ k' < 4) : ∀ c ∈ allN f i j k i' j' k', IsCut f c := by
  intro c hc
  simp only [allN, List.mem_flatMap, List.mem_map, mem_upto] at hc
  obtain ⟨a, ha, b, hb, x, hx, rfl⟩ := hc
  exact ⟨_, _, _, ⟨by omega, by omega, by omega⟩, rfl⟩
theorem cut_len (f : Nat → Nat → Proposal) (i j k : Nat) : (cut f i j k).length = i + j + k := by simp [cut, blk, Nat.add_assoc]
def Lite (f : Nat → Nat → Proposal) : Prop := ∀ a i, (f a i).changes.length ≤ 2
theorem IsCut.small {f : Nat → Nat → Proposal} (hf : Lite f) {c : Config} (hc : IsCut f c) : c.length ≤ 9 ∧ Small c := by
  obtain ⟨i, j, k, h, rfl⟩ := hc
  refine ⟨by rw [cut_len]; omega, by rw [cut_len]; omega, fun p hp => ?_⟩
  simp only [cut, blk, List.mem_append, List.mem_map] at hp
  rcases hp with (⟨n, _, rfl⟩ | ⟨n, _, rfl⟩) | ⟨n, _, rfl⟩ <;> exact Nat.le_trans (hf _ _) zd
theorem fine_fin : ∀ i j k : Fin 4, Fine (vecC i j k) := by unfold Fine; decide +kernel
theorem IsCut.fine {f : Nat → Nat → Proposal} (hf : Nice f) {c : Config} (hc : IsCut f c) : Fine (vectorV c) := by
  obtain ⟨i, j, k, h, rfl⟩ := hc
  rw [(vec_cut hf h).1]
  exact fine_fin ⟨i, h.1⟩ ⟨j, h.2.1⟩ ⟨k, h.2.2⟩
theorem count_vecC (i j k : Nat) (h : i < 4 ∧ j < 4 ∧ k < 4) (t : Int) : countR (vecC i j k) t ≤ 3 := by
  unfold vecC
  split <;> split <;> split <;> simp only [List.nil_append, List.cons_append, countR] <;> (repeat' split) <;> omega
theorem IsCut.cnt {f : Nat → Nat → Proposal} (hf : Nice f) {c : Config} (hc : IsCut f c) (t : Int) : cntR c t ≤ 3 := by
  obtain ⟨i, j, k, h, rfl⟩ := hc
  unfold cntR
  rw [(vec_cut hf h).2]
  exact count_vecC i j k h t
theorem flatMap_len_le {α β : Type} {l : List α} {g : α → List β} {n : Nat} (h : ∀ x ∈ l, (g x).length ≤ n) : (l.flatMap g).length ≤ l.length * n := by
  induction l with
  | nil => simp
  | cons x l ih =>
    rw [List.flatMap_cons, List.length_append, List.length_cons, Nat.add_mul]
    have := h x (by simp)
    have := ih fun y hy => h y (by simp [hy])
    omega
theorem allN_len (f : Nat → Nat → Proposal) {i j k i' j' k' : Nat} (h' : i' < 4 ∧ j' < 4 ∧ k' < 4) : (allN f i j k i' j' k').length ≤ 64 := by
  refine Nat.le_trans (flatMap_len_le (n := 16) fun a ha => ?_) ?_
  · refine Nat.le_trans (flatMap_len_le (n := 4) fun b hb => ?_) ?_
    · rw [List.length_map, upto_len]; omega
    · rw [upto_len]; omega
  · rw [upto_len]; omega
end Go.Proofs
namespace Go.Proofs
open Go.AM
attribute [local irreducible] AM.evalR AM.evalD AM.Runs AM.valK AM.dK AM.opK AM.stepR AM.CallS AM.St.Le
def RuleOK (r : Rule) : Prop := (1 ≤ r.kind ∧ r.kind ≤ 4) ∧ (r.kind = 3 → 1 ≤ r.columns ∧ r.columns ≤ 12) ∧ (r.kind ≠ 3 → r.columns = 0) ∧ (r.kind = 4 → 0 ≤ r.faulty ∧ r.faulty ≤ 12) ∧ (r.kind ≠ 4 → r.faulty = 0)
def ChangeOK (c : Change) : Prop := (c.kind = 1 ∧ (1 ≤ c.server ∧ c.server ≤ 12) ∧ (1 ≤ c.weight ∧ c.weight ≤ 9) ∧ c.version = 0 ∧ c.rule = ⟨0, 0, 0⟩) ∨ (c.kind = 2 ∧ (1 ≤ c.server ∧ c.server ≤ 12) ∧ c.weight = 0 ∧ c.version = 0 ∧ c.rule = ⟨0, 0, 0⟩) ∨
  (c.kind = 3 ∧ (1 ≤ c.server ∧ c.server ≤ 12) ∧ (1 ≤ c.weight ∧ c.weight ≤ 9) ∧ (1 ≤ c.version ∧ c.version ≤ 1000) ∧ c.rule = ⟨0, 0, 0⟩) ∨ (c.kind = 4 ∧ c.server = 0 ∧ c.weight = 0 ∧ (1 ≤ c.version ∧ c.version ≤ 1000) ∧ RuleOK c.rule)
def PropOK (p : Proposal) : Prop := (201 ≤ p.admin ∧ p.admin < 204) ∧ (1 ≤ p.number ∧ p.number ≤ 3) ∧ (1 ≤ p.changes.length ∧ p.changes.length ≤ 6) ∧ (∀ c ∈ p.changes, ChangeOK c) ∧
  ∀ i k : Nat, k < i → i < p.changes.length → ¬ ((p.changes.getD k default).kind = (p.changes.getD i default).kind ∧ (p.changes.getD k default).server = (p.changes.getD i default).server)
def ConfOK (c : Config) : Prop := (∀ p ∈ c, PropOK p) ∧ (∀ i : Nat, 0 < i → i < c.length → cmpP (c.getD (i - 1) default) (c.getD i default) < 0) ∧
  ∀ i : Nat, i < c.length → 1 < (c.getD i default).number → 0 < i ∧ (c.getD (i - 1) default).admin = (c.getD i default).admin ∧ (c.getD (i - 1) default).number = (c.getD i default).number - 1
theorem val_Server (n : Int) : AM.Fn Tryz.prog 62 [.i n] (.b (decide (1 ≤ n ∧ n ≤ 12))) := by
  (refine spec_of_runs Tryz.func62 rfl ?_; simp only [Tryz.f62]; refine ys ?_)
  repeat' (first | refine yw ?_ | ((with_reducible refine Runs.is ?_); first | refine Runs.region ?_ | ((with_reducible refine Runs.isC ?_); refine Runs.cond rfl (zc ?_) (zc ?_) <;> intro hc <;> (try (first | contradiction | (exfalso; omega; done) | (have : hc = trivial := rfl; clear this; clear hc))))) | ((with_reducible refine r_is ?_); first | refine yr ?_ | ((with_reducible refine r_gd ?_); (first | refine r_guardPt rfl rfl ?_ ?_ | refine r_guardNt rfl rfl ?_ ?_ | refine r_guard rfl rfl ?_ ?_) <;> intro hG <;> (try (exfalso; omega; done)) <;> refine r_nn zN zH ?_)) | fail)
  all_goals ((refine Runs.ret1 Tryz.func62 rfl zM zD ?_; try exact zX))
  all_goals (first | (refine V.Le.of_eq (congrArg V.b (decide_eq_decide.2 ?_)); omega) | (refine V.Le.of_eq (congrArg V.b (decide_eq_false ?_).symm); omega))
theorem val_Admin (n : Int) : AM.Fn Tryz.prog 75 [.i n] (.b (decide (201 ≤ n ∧ n < 204))) := by
  (refine spec_of_runs Tryz.func75 rfl ?_; simp only [Tryz.f75]; refine ys ?_)
  repeat' (first | refine yw ?_ | ((with_reducible refine Runs.is ?_); first | refine Runs.region ?_ | ((with_reducible refine Runs.isC ?_); refine Runs.cond rfl (zc ?_) (zc ?_) <;> intro hc <;> (try (first | contradiction | (exfalso; omega; done) | (have : hc = trivial := rfl; clear this; clear hc))))) | ((with_reducible refine r_is ?_); first | refine yr ?_ | ((with_reducible refine r_gd ?_); (first | refine r_guardPt rfl rfl ?_ ?_ | refine r_guardNt rfl rfl ?_ ?_ | refine r_guard rfl rfl ?_ ?_) <;> intro hG <;> (try (exfalso; omega; done)) <;> refine r_nn zN zH ?_)) | fail)
  all_goals ((refine Runs.ret1 Tryz.func75 rfl zM zD ?_; try exact zX))
  all_goals (first | (refine V.Le.of_eq (congrArg V.b (decide_eq_decide.2 ?_)); omega) | (refine V.Le.of_eq (congrArg V.b (decide_eq_false ?_).symm); omega))
end Go.Proofs
namespace Go.Proofs
open Go.AM
attribute [local irreducible] AM.evalR AM.evalD AM.Runs AM.valK AM.dK AM.opK AM.stepR AM.CallS AM.St.Le
def ruleE (r : Rule) : Int := if r.kind < 1 ∨ 4 < r.kind then 10 else if (r.kind = 3 ∧ ¬ (1 ≤ r.columns ∧ r.columns ≤ 12)) ∨ (r.kind ≠ 3 ∧ r.columns ≠ 0) then 9 else if (r.kind = 4 ∧ (r.faulty < 0 ∨ 12 < r.faulty)) ∨ (r.kind ≠ 4 ∧ r.faulty ≠ 0) then 9 else 0
def changeE (c : Change) : Int :=
  if c.kind = 1 ∨ c.kind = 2 ∨ c.kind = 3 then
    if ¬ (1 ≤ c.server ∧ c.server ≤ 12) then 9
    else if (c.kind = 2 ∧ c.weight ≠ 0) ∨ (c.kind ≠ 2 ∧ (c.weight < 1 ∨ 9 < c.weight)) then 9
    else if (c.kind = 3 ∧ (c.version < 1 ∨ 1000 < c.version)) ∨ (c.kind ≠ 3 ∧ c.version ≠ 0) then 9
    else if c.rule = ⟨0, 0, 0⟩ then 0 else 2
  else if c.kind = 4 then (if c.server ≠ 0 then 9 else if c.weight ≠ 0 then 9 else if c.version < 1 ∨ 1000 < c.version then 9 else ruleE c.rule)
  else 10
theorem vax_Rule (r : Rule) : AM.Fn Tryz.prog 61 [ruV r] (.i (ruleE r)) := by
  (refine spec_of_runs Tryz.func61 rfl ?_; simp only [Tryz.f61]; refine ys ?_)
  repeat' (first | refine yw ?_ | ((with_reducible refine Runs.is ?_); first | refine Runs.region ?_ | ((with_reducible refine Runs.isC ?_); refine Runs.cond rfl (zc ?_) (zc ?_) <;> intro hc <;> (try (first | contradiction | (exfalso; omega; done) | (have : hc = trivial := rfl; clear this; clear hc))))) | ((with_reducible refine r_is ?_); first | refine yr ?_ | (refine r_fn rfl (val_Server _) HbF.h zL1 zD ?_; refine r_nn zN zH ?_) | ((with_reducible refine r_gd ?_); (first | refine r_guardPf rfl rfl ?_ ?_ | refine r_guardNf rfl rfl ?_ ?_ | refine r_guardPt rfl rfl ?_ ?_ | refine r_guardNt rfl rfl ?_ ?_ | refine r_guard rfl rfl ?_ ?_) <;> intro hG <;> (try (exfalso; omega; done)) <;> refine r_nn zN zH ?_)) | fail)
  all_goals ((refine Runs.ret1 Tryz.func61 rfl zM zD ?_; try exact zX))
  all_goals (refine V.Le.of_eq (congrArg V.i ?_); unfold ruleE; (repeat' split) <;> omega)
theorem vax_Ch (k s w v : Int) (r : Rule) (hk : k = 1 ∨ k = 2 ∨ k = 3) : AM.Fn Tryz.prog 76 [chV ⟨k, s, w, v, r⟩] (.i (changeE ⟨k, s, w, v, r⟩)) := by
  rcases hk with rfl | rfl | rfl
  all_goals ((refine spec_of_runs Tryz.func76 rfl ?_; simp only [Tryz.f76]; refine ys ?_))
  all_goals (repeat' (first | refine yw ?_ | ((with_reducible refine Runs.is ?_); first | refine Runs.region ?_ | refine Runs.drawn mixed zK ?_ | ((with_reducible refine Runs.isC ?_); refine Runs.cond rfl (zc ?_) (zc ?_) <;> intro hc <;> (try (first | contradiction | (exfalso; omega; done) | (have : hc = trivial := rfl; clear this; clear hc))))) | ((with_reducible refine r_is ?_); first | refine yr ?_ | (refine r_fn rfl (val_Server _) HbF.h zL1 zD ?_; refine r_nn zN zH ?_) | ((with_reducible refine r_gd ?_); (first | refine r_guardPf rfl rfl ?_ ?_ | refine r_guardNf rfl rfl ?_ ?_ | refine r_guardPt rfl rfl ?_ ?_ | refine r_guardNt rfl rfl ?_ ?_ | refine r_guard rfl rfl ?_ ?_) <;> intro hG <;> (try (exfalso; omega; done)) <;> refine r_nn zN zH ?_)) | ((with_reducible refine d_is ?_); first | refine yd ?_) | fail))
  all_goals ((refine Runs.ret1 Tryz.func76 rfl zM zD ?_; try exact zX))
  all_goals (refine V.Le.of_eq (congrArg V.i ?_); unfold changeE; dsimp only; (repeat' split) <;> first | omega | simp_all)
theorem vax_Ch4 (s w v : Int) (r : Rule) : AM.Fn Tryz.prog 76 [chV ⟨4, s, w, v, r⟩] (.i (changeE ⟨4, s, w, v, r⟩)) := by
  (refine spec_of_runs Tryz.func76 rfl ?_; simp only [Tryz.f76]; refine ys ?_)
  repeat' (first | refine yw ?_ | ((with_reducible refine Runs.is ?_); first | refine Runs.region ?_ | refine Runs.drawn mixed zK ?_ | ((with_reducible refine Runs.isC ?_); refine Runs.cond rfl (zc ?_) (zc ?_) <;> intro hc <;> (try (first | contradiction | (exfalso; omega; done) | (have : hc = trivial := rfl; clear this; clear hc))))) | ((with_reducible refine r_is ?_); first | refine yr ?_ | (refine r_fn rfl (vax_Rule r) HbF.h zL1 zD ?_; refine r_nn zN zH ?_) | ((with_reducible refine r_gd ?_); (first | refine r_guardPf rfl rfl ?_ ?_ | refine r_guardNf rfl rfl ?_ ?_ | refine r_guardPt rfl rfl ?_ ?_ | refine r_guardNt rfl rfl ?_ ?_ | refine r_guard rfl rfl ?_ ?_) <;> intro hG <;> (try (exfalso; omega; done)) <;> refine r_nn zN zH ?_)) | ((with_reducible refine d_is ?_); first | refine yd ?_) | fail)
  all_goals ((refine Runs.ret1 Tryz.func76 rfl zM zD ?_; try exact zX))
  all_goals (refine V.Le.of_eq (congrArg V.i ?_); unfold changeE; dsimp only; (repeat' split) <;> first | rfl | omega)
theorem vax_Ch0 (k s w v : Int) (r : Rule) (h1 : k ≠ 1) (h2 : k ≠ 2) (h3 : k ≠ 3) (h4 : k ≠ 4) : AM.Fn Tryz.prog 76 [chV ⟨k, s, w, v, r⟩] (.i (changeE ⟨k, s, w, v, r⟩)) := by
  have e : changeE ⟨k, s, w, v, r⟩ = 10 := by unfold changeE; dsimp only; rw [if_neg zo, if_neg zo]
  rw [e]
  (refine spec_of_runs Tryz.func76 rfl ?_; simp only [Tryz.f76]; refine ys ?_)
  repeat' (first | refine yw ?_ | ((with_reducible refine Runs.is ?_); first | refine Runs.region ?_ | refine Runs.drawn mixed zK ?_ | ((with_reducible refine Runs.isC ?_); refine Runs.cond rfl (zc ?_) (zc ?_) <;> intro hc <;> (try (first | contradiction | (exfalso; omega; done) | (have : hc = trivial := rfl; clear this; clear hc))))) | ((with_reducible refine r_is ?_); first | refine yr ?_ | ((with_reducible refine r_gd ?_); (first | refine r_guardPf rfl rfl ?_ ?_ | refine r_guardNf rfl rfl ?_ ?_ | refine r_guardPt rfl rfl ?_ ?_ | refine r_guardNt rfl rfl ?_ ?_ | refine r_guard rfl rfl ?_ ?_) <;> intro hG <;> (try (exfalso; omega; done)) <;> refine r_nn zN zH ?_)) | ((with_reducible refine d_is ?_); first | refine yd ?_) | fail)
  all_goals ((refine Runs.ret1 Tryz.func76 rfl zM zD ?_; try exact zX))
theorem vax_Change (c : Change) : AM.Fn Tryz.prog 76 [chV c] (.i (changeE c)) := by
  obtain ⟨k, s, w, v, r⟩ := c
  by_cases h : k = 1 ∨ k = 2 ∨ k = 3
  · exact vax_Ch k s w v r h
  · by_cases h4 : k = 4
    · subst h4; exact vax_Ch4 s w v r
    · exact vax_Ch0 k s w v r zo zo zo h4
theorem ruleE_ok {r : Rule} (h : ruleE r = 0) : RuleOK r := by
  unfold ruleE at h
  unfold RuleOK
  split at h
  · omega
  split at h
  · omega
  split at h <;> omega
theorem changeE_ok {c : Change} (h : changeE c = 0) : ChangeOK c := by
  obtain ⟨k, s, w, v, r⟩ := c
  unfold changeE at h
  unfold ChangeOK
  dsimp only at h ⊢
  by_cases h4 : k = 4
  · subst h4
    rw [if_neg zd, if_pos rfl] at h
    (repeat' split at h) <;> first | omega | skip
    exact .inr (.inr (.inr ⟨rfl, by omega, by omega, by omega, ruleE_ok h⟩))
  · (repeat' split at h) <;> first | omega | skip
    rename_i hr
    rcases (show k = 1 ∨ k = 2 ∨ k = 3 by omega) with rfl | rfl | rfl
    · exact .inl ⟨rfl, by omega, by omega, by omega, hr⟩
    · exact .inr (.inl ⟨rfl, by omega, by omega, by omega, hr⟩)
    · exact .inr (.inr (.inl ⟨rfl, by omega, by omega, by omega, hr⟩))
end Go.Proofs
namespace Go.Proofs
open Go.AM
attribute [local irreducible] AM.evalR AM.evalD AM.Runs AM.valK AM.dK AM.opK AM.stepR AM.CallS AM.St.Le
end Go.Proofs
namespace Go.Proofs
open Go.AM
attribute [local irreducible] AM.evalR AM.evalD AM.Runs AM.valK AM.dK AM.opK AM.stepR AM.CallS AM.St.Le
theorem getD_in {α : Type} [Inhabited α] {l : List α} {i : Nat} (h : i < l.length) : l.getD i default ∈ l := by
  rw [List.getD_eq_getElem?_getD, List.getElem?_eq_getElem h]; exact List.getElem_mem h
end Go.Proofs
