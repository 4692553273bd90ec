/- Contracts of functions and plain laws: W45, W43, W46, W47, W48, W49, W50, W63, W64, W19, W65, W66, W67, W68, W69, W70, W13, W20, W51, W52, W10, W54, W56, W59, W57, W58, W60, W71, W81. -/
import Derived.Test.YtmgnkabnlcapbaaG1
set_option linter.unusedVariables false
set_option linter.unusedSimpArgs false
set_option maxRecDepth 8000
set_option maxHeartbeats 4000000
set_option pp.deepTerms false
set_option pp.deepTerms.threshold 6
namespace Go.Proofs
open Go.AM
attribute [local irreducible] AM.evalR AM.evalD AM.Runs AM.valK AM.dK AM.opK AM.stepR AM.CallS AM.St.Le
structure Acc where
  j : List Int
  r : List Int
  m : List (Int × WeightEntry)
  rule : Rule
  ver : Int
  adm : Int
  num : Int
def wC (p : Proposal) (c : Change) : WeightEntry := ⟨c.server, c.weight, c.version, p.admin, p.number⟩
def ofStep (p : Proposal) (s : Acc) (c : Change) : Acc :=
  if c.kind = 1 then { s with j := s.j ++ [c.server], m := if (getI s.m c.server).isSome then s.m else setI s.m c.server (wC p c) }
  else if c.kind = 2 then { s with r := s.r ++ [c.server] }
  else if c.kind = 3 then { s with m := setI s.m c.server (wC p c) }
  else if c.kind = 4 then { s with rule := c.rule, ver := c.version, adm := p.admin, num := p.number }
  else s
def acc0 : Acc := ⟨[], [], [], ⟨0, 0, 0⟩, 0, 0, 0⟩
def ofAcc (p : Proposal) : Acc := p.changes.foldl (ofStep p) acc0
def weightsOf (m : List (Int × WeightEntry)) : List WeightEntry := (upto 1 12).filterMap (getI m)
def ofS (p : Proposal) : Summary := ⟨sortI (ofAcc p).j, sortI (ofAcc p).r, weightsOf (ofAcc p).m, (ofAcc p).rule, (ofAcc p).ver, (ofAcc p).adm, (ofAcc p).num⟩
def accV (s : Acc) : V := .agg [.own 41, .own 63, .own 107, .i s.rule.kind, .i s.rule.columns, .i s.rule.faulty, .i s.ver, .i s.adm, .i s.num]
theorem ofStep_len (p : Proposal) (s : Acc) (c : Change) : (ofStep p s c).j.length ≤ s.j.length + 1 ∧ (ofStep p s c).r.length ≤ s.r.length + 1 := by
  unfold ofStep
  split
  · simp
  · split
    · simp
    · split
      · simp
      · split <;> simp
theorem ofAcc_len (p : Proposal) (k : Nat) (hk : k ≤ p.changes.length) : ((p.changes.take k).foldl (ofStep p) acc0).j.length ≤ k ∧ ((p.changes.take k).foldl (ofStep p) acc0).r.length ≤ k := by
  induction k with
  | zero => simp [acc0]
  | succ k ih =>
    rw [foldl_take zo]
    have := ih zo
    have := ofStep_len p ((p.changes.take k).foldl (ofStep p) acc0) (p.changes.getD k default)
    omega
theorem shows_of {ids : List (Tmp × Nat)} {slots : List V} (h : ∀ p ∈ ids, ∃ j fo, slots.getD p.1 .any = .ptr p.2 j fo) : Shows ids slots := by
  intro a i hi
  unfold idT at hi
  cases hf : ids.find? fun p => p.1 == a with
  | none => rw [hf] at hi; cases hi
  | some q =>
    rw [hf] at hi
    have h1 := List.mem_of_find?_eq_some hf
    have h2 : (q.1 == a) = true := List.find?_some (p := fun p : Tmp × Nat => p.1 == a) hf
    simp only [Option.map_some, Option.some.injEq] at hi
    have h3 : q.1 = a := by simpa using h2
    rw [← hi, ← h3]; exact h q h1
theorem member_Of (p : Proposal) (hp : p.changes.length ≤ 1000000) : AM.Fn Try.prog 23 [prV p] (suV (ofS p)) := by
  (refine spec_of_runs Try.func23 rfl ?_; simp only [Try.f23]; refine ys ?_)
  repeat' (first | refine yw ?_ | ((with_reducible refine Runs.is ?_); first | refine Runs.region (id := 0) ?_ | refine Runs.region (id := 1) ?_ | refine Runs.region (id := 2) ?_ | refine Runs.region (id := 3) ?_ | ((with_reducible refine Runs.isC ?_); refine Runs.cond rfl (zc ?_) (zc ?_) <;> intro hc <;> (try (first | contradiction | (exfalso; omega; done) | (have : hc = trivial := rfl; clear this; clear hc))))) | ((with_reducible refine r_is ?_); first | refine yr ?_) | fail)
  refine Runs.weaken (St.Le.nilVar 41 3 0 3 1 zd rfl rfl rfl) ?_
  refine Runs.weaken (St.Le.nilVar 63 3 1 3 1 zd rfl rfl rfl) ?_
  refine Runs.weaken (St.Le.nilVar 107 3 2 73 5 zd rfl rfl rfl) ?_
  refine Runs.loopI (fun k : Nat => p.changes.length - k) (fun k => k ≤ p.changes.length)
    (fun k => ⟨[.any, .ptr 1 0 0, .ptr 2 0 0, .ptr 3 0 0, .mp 13, .any, .any, .any, .any, .any, .any, .any, .any, .any, .any, .sl false (p.changes.map chV), .i (p.changes.length : Nat), .i (k : Nat), .any, .any, .any, .any, .any, .any, .any, .any, .any, .any, .any, .any, .any, .any, .any, .any, .any, .any, .any, .any, .any, .any, .any, .any, .any, .any, .any, .any, .any, .any, .any, .any, .any, .any, .any, .any, .any, .any, .any, .any, .any, .any, .any, .any, .any, .any, .any, .any, .any, .any, .any, .any, .any, .any, .any, .any, .any, .any, .any, .any, .any, .any, .any, .any, .any, .any, .any, .any, .any, .any, .any, .any, .any, .any, .any, .any, .any, .any, .any, .any, .any, .any, .any, .any, .any, .any, .any, .any, .any, .any, .any, .any], [(107, .lst 73 5 (([] : List WeightEntry).map weV)), (63, .lst 3 1 (((p.changes.take k).foldl (ofStep p) acc0).r.map .i)), (41, .lst 3 1 (((p.changes.take k).foldl (ofStep p) acc0).j.map .i)), (13, mapO weV ((p.changes.take k).foldl (ofStep p) acc0).m), (3, .var 34 (accV ((p.changes.take k).foldl (ofStep p) acc0))), (2, .var 34 (.agg [.sc (.slice none 0 0), .sc (.slice none 0 0), .sc (.slice none 0 0), .i 0, .i 0, .i 0, .i 0, .i 0, .i 0])), (1, .var 41 (prV p))]⟩) 0 (by simp) ?_ ?_
  · (refine St.Le.clean zR zU zV)
  rintro k hk ih
  have hst := fun (h : k < p.changes.length) => foldl_take (g := ofStep p) (s := acc0) h
  have hend : p.changes.length ≤ k → (p.changes.take k).foldl (ofStep p) acc0 = ofAcc p := fun h => by rw [List.take_of_length_le h]; rfl
  have hlen := ofAcc_len p k hk
  generalize (p.changes.take k).foldl (ofStep p) acc0 = s at hst hend hlen ⊢
  obtain ⟨J, R, m, ru, ver, adm, num⟩ := s
  unfold accV
  dsimp only at hlen ⊢
  repeat' (first | refine yw ?_ | ((with_reducible refine Runs.is ?_); first | refine Runs.region (id := 4) ?_ | refine Runs.region (id := 5) ?_ | refine Runs.region (id := 6) ?_ | refine Runs.region (id := 7) ?_ | refine Runs.region (id := 8) ?_ | refine Runs.region (id := 9) ?_ | refine Runs.region (id := 10) ?_ | refine Runs.region (id := 11) ?_ | refine Runs.region (id := 12) ?_ | refine Runs.region (id := 13) ?_ | refine Runs.region (id := 14) ?_ | refine Runs.region (id := 15) ?_ | refine Runs.region (id := 16) ?_ | refine Runs.region (id := 17) ?_ | ((with_reducible refine Runs.isC ?_); refine Runs.cond rfl (zc ?_) (zc ?_) <;> intro hc <;> (try (first | contradiction | (exfalso; omega; done) | (have : hc = trivial := rfl; clear this; clear hc))))) | ((with_reducible refine r_is ?_); first | refine yr ?_ | (refine r_append_full SlF.h SlF.s ZoF.h zd rfl rfl zC zJ zS rfl (fun hn => ?_) (fun hn => ?_) <;> refine r_nn zN zH ?_)) | fail)
  · rename_i h0 h1
    refine r_mapUpd (b := wC p (p.changes.getD k default)) MpF.h rfl rfl rfl rfl zD ?_
    refine r_nn zN zH ?_
    repeat' (first | refine yw ?_ | ((with_reducible refine Runs.is ?_); first | refine Runs.region (id := 12) ?_ | ((with_reducible refine Runs.isC ?_); refine Runs.cond rfl (zc ?_) (zc ?_) <;> intro hc <;> (try (first | contradiction | (exfalso; omega; done) | (have : hc = trivial := rfl; clear this; clear hc))))) | ((with_reducible refine r_is ?_); first | refine yr ?_) | fail)
    repeat' (first | refine yw ?_ | ((with_reducible refine Runs.is ?_); first | refine Runs.region (id := 19) ?_ | ((with_reducible refine Runs.isC ?_); refine Runs.cond rfl (zc ?_) (zc ?_) <;> intro hc <;> (try (first | contradiction | (exfalso; omega; done) | (have : hc = trivial := rfl; clear this; clear hc))))) | ((with_reducible refine r_is ?_); first | refine yr ?_) | fail)
    refine ih (k + 1) _ zo zo ?_
    rw [hst h0, ofStep, if_pos h1, hc]
    (refine St.Le.clean zR zU zV)
  · rename_i h0 h1
    repeat' (first | refine yw ?_ | ((with_reducible refine Runs.is ?_); first | refine Runs.region (id := 19) ?_ | ((with_reducible refine Runs.isC ?_); refine Runs.cond rfl (zc ?_) (zc ?_) <;> intro hc <;> (try (first | contradiction | (exfalso; omega; done) | (have : hc = trivial := rfl; clear this; clear hc))))) | ((with_reducible refine r_is ?_); first | refine yr ?_) | fail)
    refine ih (k + 1) _ zo zo ?_
    rw [hst h0, ofStep, if_pos h1, hc]
    (refine St.Le.clean zR zU zV)
  · rename_i h0 h1
    repeat' (first | refine yw ?_ | ((with_reducible refine Runs.is ?_); first | refine Runs.region (id := 19) ?_ | ((with_reducible refine Runs.isC ?_); refine Runs.cond rfl (zc ?_) (zc ?_) <;> intro hc <;> (try (first | contradiction | (exfalso; omega; done) | (have : hc = trivial := rfl; clear this; clear hc))))) | ((with_reducible refine r_is ?_); first | refine yr ?_) | fail)
    refine ih (k + 1) _ zo zo ?_
    rw [hst h0, ofStep, if_neg h1, if_pos hc]
    (refine St.Le.clean zR zU zV)
  · rename_i h0 h1 h2
    refine r_mapUpd (b := wC p (p.changes.getD k default)) MpF.h rfl rfl rfl rfl zD ?_
    refine r_nn zN zH ?_
    repeat' (first | refine yw ?_ | ((with_reducible refine Runs.is ?_); first | refine Runs.region (id := 16) ?_ | ((with_reducible refine Runs.isC ?_); refine Runs.cond rfl (zc ?_) (zc ?_) <;> intro hc <;> (try (first | contradiction | (exfalso; omega; done) | (have : hc = trivial := rfl; clear this; clear hc))))) | ((with_reducible refine r_is ?_); first | refine yr ?_) | fail)
    repeat' (first | refine yw ?_ | ((with_reducible refine Runs.is ?_); first | refine Runs.region (id := 19) ?_ | ((with_reducible refine Runs.isC ?_); refine Runs.cond rfl (zc ?_) (zc ?_) <;> intro hc <;> (try (first | contradiction | (exfalso; omega; done) | (have : hc = trivial := rfl; clear this; clear hc))))) | ((with_reducible refine r_is ?_); first | refine yr ?_) | fail)
    refine ih (k + 1) _ zo zo ?_
    rw [hst h0, ofStep, if_neg h1, if_neg h2, if_pos hc]
    (refine St.Le.clean zR zU zV)
  · rename_i h0 h1 h2 h3
    refine Runs.drawnF [(73, 6), (75, 6), (77, 1), (79, 1), (81, 3), (82, 3), (83, 3), (84, 3)] mixed zK ?_
    refine yd ?_
    refine And.intro (shows_of (by intro p hp; simp only [List.mem_cons, List.not_mem_nil, or_false] at hp; rcases hp with rfl | rfl | rfl | rfl | rfl | rfl | rfl | rfl <;> exact ⟨_, _, rfl⟩)) ?_
    repeat' (first | refine yw ?_ | ((with_reducible refine Runs.is ?_); first | refine Runs.region (id := 19) ?_ | ((with_reducible refine Runs.isC ?_); refine Runs.cond rfl (zc ?_) (zc ?_) <;> intro hc <;> (try (first | contradiction | (exfalso; omega; done) | (have : hc = trivial := rfl; clear this; clear hc))))) | ((with_reducible refine r_is ?_); first | refine yr ?_) | fail)
    refine ih (k + 1) _ zo zo ?_
    rw [hst h0, ofStep, if_neg h1, if_neg h2, if_neg h3, if_pos hc]
    (refine St.Le.clean zR zU zV)
  · rename_i h0 h1 h2 h3
    repeat' (first | refine yw ?_ | ((with_reducible refine Runs.is ?_); first | refine Runs.region (id := 19) ?_ | ((with_reducible refine Runs.isC ?_); refine Runs.cond rfl (zc ?_) (zc ?_) <;> intro hc <;> (try (first | contradiction | (exfalso; omega; done) | (have : hc = trivial := rfl; clear this; clear hc))))) | ((with_reducible refine r_is ?_); first | refine yr ?_) | fail)
    refine ih (k + 1) _ zo zo ?_
    rw [hst h0, ofStep, if_neg h1, if_neg h2, if_neg h3, if_neg hc]
    (refine St.Le.clean zR zU zV)
  · have he := hend zo
    unfold ofS
    rw [← he]
    dsimp only
    clear hst hend he ih
    repeat' (first | refine yw ?_ | ((with_reducible refine Runs.is ?_); first | refine Runs.region (id := 20) ?_ | refine Runs.region (id := 21) ?_ | refine Runs.region (id := 22) ?_ | ((with_reducible refine Runs.isC ?_); refine Runs.cond rfl (zc ?_) (zc ?_) <;> intro hc <;> (try (first | contradiction | (exfalso; omega; done) | (have : hc = trivial := rfl; clear this; clear hc))))) | ((with_reducible refine r_is ?_); first | refine yr ?_ | (refine r_turn rfl (sort_turns J zo) HbF.h rfl rfl ?_; refine r_nn zN zH ?_) | (refine r_turn rfl (sort_turns R zo) HbF.h rfl rfl ?_; refine r_nn zN zH ?_)) | fail)
    refine Runs.loopI (α := Int) (fun i => (13 - i).toNat) (fun i => 1 ≤ i ∧ i ≤ 13)
      (fun i => ⟨[.any, .any, .ptr 2 0 0, .ptr 3 0 0, .mp 13, .any, .any, .any, .any, .any, .i i, .any, .any, .any, .any, .any, .any, .any, .any, .any, .any, .any, .any, .any, .any, .any, .any, .any, .any, .any, .any, .any, .any, .any, .any, .any, .any, .any, .any, .any, .any, .any, .any, .any, .any, .any, .any, .any, .any, .any, .any, .any, .any, .any, .any, .any, .any, .any, .any, .any, .any, .any, .any, .any, .any, .any, .any, .any, .any, .any, .any, .any, .any, .any, .any, .any, .any, .any, .any, .any, .any, .any, .any, .any, .any, .any, .any, .any, .any, .any, .any, .any, .any, .any, .any, .any, .any, .any, .any, .any, .any, .any, .any, .any, .any, .any, .any, .any, .any, .any], [(107, .lst 73 5 (((upto 1 (i - 1)).filterMap (getI m)).map weV)), (63, .lst 3 1 ((sortI R).map .i)), (41, .lst 3 1 ((sortI J).map .i)), (13, mapO weV m), (3, .var 34 (.agg [.own 41, .own 63, .own 107, .i ru.kind, .i ru.columns, .i ru.faulty, .i ver, .i adm, .i num])), (2, .var 34 (.agg [.sc (.slice none 0 0), .sc (.slice none 0 0), .sc (.slice none 0 0), .i 0, .i 0, .i 0, .i 0, .i 0, .i 0]))]⟩) 1 ⟨by decide, by decide⟩ ?_ ?_
    · rw [show upto 1 (1 - 1) = [] from rfl]
      (refine St.Le.clean zR zU zV)
    rintro i ⟨hi1, hi2⟩ ih
    have hl : ((upto 1 (i - 1)).filterMap (getI m)).length ≤ 12 := by
      have h1 := List.length_filterMap_le (getI m) (upto 1 (i - 1))
      rw [upto_len] at h1; omega
    have hst : (upto 1 (i + 1 - 1)).filterMap (getI m) = (upto 1 (i - 1)).filterMap (getI m) ++ (getI m i).toList := by
      rw [show i + 1 - 1 = i by omega, upto_snoc hi1, List.filterMap_append]
      congr 1
    have hend : ¬ i ≤ 12 → (upto 1 (i - 1)).filterMap (getI m) = weightsOf m := fun h => by rw [show i - 1 = 12 by omega]; rfl
    generalize (upto 1 (i - 1)).filterMap (getI m) = ws at hl hst hend ⊢
    repeat' (first | refine yw ?_ | ((with_reducible refine Runs.is ?_); first | refine Runs.region (id := 23) ?_ | refine Runs.region (id := 25) ?_ | refine Runs.region (id := 26) ?_ | refine Runs.region (id := 27) ?_ | refine Runs.region (id := 24) ?_ | ((with_reducible refine Runs.isC ?_); refine Runs.cond rfl (zc ?_) (zc ?_) <;> intro hc <;> (try (first | contradiction | (exfalso; omega; done) | (have : hc = trivial := rfl; clear this; clear hc))))) | ((with_reducible refine r_is ?_); first | refine yr ?_ | (refine r_append_full SlF.h SlF.s ZoF.h zd rfl rfl zC zJ zS rfl (fun hn => ?_) (fun hn => ?_) <;> refine r_nn zN zH ?_)) | fail)
    · obtain ⟨w, hw⟩ := Option.isSome_iff_exists.1 hc
      rw [hw] at hst
      simp only [hw, Option.getD_some]
      refine ih (i + 1) _ ⟨by omega, by omega⟩ zo ?_
      rw [hst]
      (refine St.Le.clean zR zU zV)
    · have hw : getI m i = none := by cases h : getI m i <;> simp_all
      rw [hw] at hst
      refine ih (i + 1) _ ⟨by omega, by omega⟩ zo ?_
      rw [hst, show ws ++ (none : Option WeightEntry).toList = ws by simp]
      (refine St.Le.clean zR zU zV)
    · have hw := hend zo
      subst hw
      repeat' (first | refine yw ?_ | ((with_reducible refine Runs.is ?_); first | refine Runs.region (id := 28) ?_ | ((with_reducible refine Runs.isC ?_); refine Runs.cond rfl (zc ?_) (zc ?_) <;> intro hc <;> (try (first | contradiction | (exfalso; omega; done) | (have : hc = trivial := rfl; clear this; clear hc))))) | ((with_reducible refine r_is ?_); first | refine yr ?_) | fail)
      (refine Runs.weaken (St.Le.freeze_lst 41 rfl) ?_; refine yf ?_)
      (refine Runs.weaken (St.Le.freeze_lst 63 rfl) ?_; refine yf ?_)
      (refine Runs.weaken (St.Le.freeze_lst 107 rfl) ?_; refine yf ?_)
      (refine Runs.retC Try.func23 rfl zM rfl TyF.h (And.intro zE zd) zD ?_; try exact zX)
end Go.Proofs
namespace Go.Proofs
open Go.AM
attribute [local irreducible] AM.evalR AM.evalD AM.Runs AM.valK AM.dK AM.opK AM.stepR AM.CallS AM.St.Le
def wOf (m : Member) : WeightEntry := ⟨m.server, m.weight, 0, 0, 0⟩
def initS (g : View) : Summary := ⟨g.members.map (·.server), [], g.members.map wOf, g.rule, 0, 0, 0⟩
theorem member_Initial (g : View) (hg : g.members.length ≤ 1000000) : AM.Fn Try.prog 16 [viV g] (suV (initS g)) := by
  obtain ⟨ms, r⟩ := g
  dsimp only at hg
  (refine spec_of_runs Try.func16 rfl ?_; simp only [Try.f16]; refine ys ?_)
  repeat' (first | refine yw ?_ | ((with_reducible refine Runs.is ?_); first | refine Runs.region (id := 0) ?_ | refine Runs.region (id := 1) ?_ | refine Runs.region (id := 2) ?_ | ((with_reducible refine Runs.isC ?_); refine Runs.cond rfl (zc ?_) (zc ?_) <;> intro hc <;> (try (first | contradiction | (exfalso; omega; done) | (have : hc = trivial := rfl; clear this; clear hc))))) | ((with_reducible refine r_is ?_); first | refine yr ?_) | fail)
  refine Runs.weaken (St.Le.nilVar 21 3 0 3 1 zd rfl rfl rfl) ?_
  refine Runs.weaken (St.Le.nilVar 31 3 2 73 5 zd rfl rfl rfl) ?_
  refine Runs.loopI (fun k : Nat => ms.length - k) (fun k => k ≤ ms.length)
    (fun k => ⟨[.any, .any, .ptr 2 0 0, .ptr 3 0 0, .any, .any, .any, .any, .any, .any, .sl false (ms.map mbV), .i (ms.length : Nat), .i (k : Nat), .any, .any, .any, .any, .any, .any, .any, .any, .any, .any, .any, .any, .any, .any, .any, .any, .any, .any, .any, .any, .any, .any], [(31, .lst 73 5 (((ms.take k).map wOf).map weV)), (21, .lst 3 1 (((ms.take k).map (·.server)).map .i)), (3, .var 34 (.agg [.own 21, .sc (.slice none 0 0), .own 31, .i r.kind, .i r.columns, .i r.faulty, .i 0, .i 0, .i 0])), (2, .var 34 (.agg [.sc (.slice none 0 0), .sc (.slice none 0 0), .sc (.slice none 0 0), .i 0, .i 0, .i 0, .i 0, .i 0, .i 0]))]⟩) 0 (by simp) ?_ ?_
  · (refine St.Le.clean zR zU zV)
  rintro k hk ih
  have hst := fun (h : k < ms.length) => take_getD (xs := ms) h
  have hl1 : ((ms.take k).map wOf).length ≤ 1000000 := by simp; omega
  have hl2 : ((ms.take k).map (·.server)).length ≤ 1000000 := by simp; omega
  by_cases hlt : k < ms.length
  · have hst2 := hst hlt
    repeat' (first | refine yw ?_ | ((with_reducible refine Runs.is ?_); first | refine Runs.region (id := 3) ?_ | refine Runs.region (id := 4) ?_ | refine Runs.region (id := 5) ?_ | refine Runs.region (id := 6) ?_ | refine Runs.region (id := 7) ?_ | ((with_reducible refine Runs.isC ?_); refine Runs.cond rfl (zc ?_) (zc ?_) <;> intro hc <;> (try (first | contradiction | (exfalso; omega; done) | (have : hc = trivial := rfl; clear this; clear hc))))) | ((with_reducible refine r_is ?_); first | refine yr ?_ | (refine r_append_full SlF.h SlF.s ZoF.h zd rfl rfl zC zJ zS rfl (fun hn => ?_) (fun hn => ?_) <;> refine r_nn zN zH ?_)) | fail)
    refine ih (k + 1) _ zo zo ?_
    rw [hst2]
    (refine St.Le.clean zR (by first | (simp [V.usesL, V.uses, AM.look_cons]; done) | (simp [V.usesL, V.uses, AM.look_cons, V.usesL_data, V.uses_data, da_i, da_chV, da_ruV, da_prV, da_enV, da_cfV, da_veV, da_inV, da_edV, da_grV, da_weV, da_mbV, da_suV, da_viV]; done)) ?_; (repeat' (first | exact True.intro | refine And.intro ?_ ?_)); all_goals (first | rfl | (simp [AM.look_cons, weV, wOf]; done) | (simp [V.uses, V.usesL, AM.look_cons, V.usesL_data, V.uses_data, da_i, da_chV, da_ruV, da_prV, da_enV, da_cfV, da_veV, da_inV, da_edV, da_grV, da_weV, da_mbV, da_suV, da_viV]; done)))
  · have hk2 : k = ms.length := by omega
    subst hk2
    rw [List.take_length] at hl1 hl2 ⊢
    repeat' (first | refine yw ?_ | ((with_reducible refine Runs.is ?_); first | refine Runs.region (id := 3) ?_ | ((with_reducible refine Runs.isC ?_); refine Runs.cond rfl (zc ?_) (zc ?_) <;> intro hc <;> (try (first | contradiction | (exfalso; omega; done) | (have : hc = trivial := rfl; clear this; clear hc))))) | ((with_reducible refine r_is ?_); first | refine yr ?_) | fail)
    repeat' (first | refine yw ?_ | ((with_reducible refine Runs.is ?_); first | refine Runs.region (id := 8) ?_ | ((with_reducible refine Runs.isC ?_); refine Runs.cond rfl (zc ?_) (zc ?_) <;> intro hc <;> (try (first | contradiction | (exfalso; omega; done) | (have : hc = trivial := rfl; clear this; clear hc))))) | ((with_reducible refine r_is ?_); first | refine yr ?_) | fail)
    (refine Runs.weaken (St.Le.freeze_lst 21 rfl) ?_; refine yf ?_)
    (refine Runs.weaken (St.Le.freeze_lst 31 rfl) ?_; refine yf ?_)
    (refine Runs.retC Try.func16 rfl zM rfl TyF.h (And.intro zE zd) zD ?_; try exact zX)
def weightIn (ws : List WeightEntry) (x : Int) (n : Int) : Int := ws.foldl (fun n w => if w.server = x then w.weight else n) n
def viewMs (s : Summary) : List Member := (s.joined.filter fun x => !s.removed.contains x).map fun x => ⟨x, weightIn s.weights x 1⟩
def viewRule (r : Rule) : Rule := if r = ⟨0, 0, 0⟩ then ⟨1, 0, 0⟩ else r
def viewS (s : Summary) : View := ⟨viewMs s, viewRule s.rule⟩
end Go.Proofs
namespace Go.Proofs
open Go.AM
attribute [local irreducible] AM.evalR AM.evalD AM.Runs AM.valK AM.dK AM.opK AM.stepR AM.CallS AM.St.Le
def vAcc (R : List Int) (W : List WeightEntry) (l : List Int) : List Member := (l.filter fun x => !R.contains x).map fun x => ⟨x, weightIn W x 1⟩
theorem vAcc_snoc (R : List Int) (W : List WeightEntry) (l : List Int) (x : Int) : vAcc R W (l ++ [x]) = vAcc R W l ++ (if R.contains x = true then [] else [⟨x, weightIn W x 1⟩]) := by
  unfold vAcc
  rw [List.filter_append, List.map_append]
  congr 1
  by_cases h : x ∈ R <;> simp [h]
theorem vAcc_len (R : List Int) (W : List WeightEntry) (l : List Int) : (vAcc R W l).length ≤ l.length := by
  unfold vAcc; rw [List.length_map]; exact List.length_filter_le _ _
theorem member_View (s : Summary) (hs : s.joined.length ≤ 1000000) (hw0 : s.weights.length ≤ 1000000) : AM.Fn Try.prog 27 [suV s] (viV (viewS s)) := by
  obtain ⟨J, R, W, ru, ver, adm, num⟩ := s
  dsimp only at hs hw0
  (refine spec_of_runs Try.func27 rfl ?_; simp only [Try.f27]; refine ys ?_)
  repeat' (first | refine yw ?_ | ((with_reducible refine Runs.is ?_); first | refine Runs.region (id := 0) ?_ | refine Runs.region (id := 1) ?_ | refine Runs.region (id := 2) ?_ | refine Runs.region (id := 3) ?_ | refine Runs.region (id := 4) ?_ | ((with_reducible refine Runs.isC ?_); refine Runs.cond rfl (zc ?_) (zc ?_) <;> intro hc <;> (try (first | contradiction | (exfalso; omega; done) | (have : hc = trivial := rfl; clear this; clear hc))))) | ((with_reducible refine r_is ?_); first | refine yr ?_) | fail)
  · have hr : ru = ⟨0, 0, 0⟩ := hc
    clear hc
    subst hr
    rw [show viewS ⟨J, R, W, ⟨0, 0, 0⟩, ver, adm, num⟩ = ⟨vAcc R W J, ⟨1, 0, 0⟩⟩ from rfl]
    refine Runs.weaken (St.Le.nilVar 50 3 0 62 2 zd rfl rfl rfl) ?_
    refine Runs.loopI (fun k : Nat => J.length - k) (fun k => k ≤ J.length)
      (fun k => ⟨[.any, .ptr 1 0 0, .ptr 2 0 0, .ptr 3 0 0, .any, .any, .any, .any, .any, .any, .any, .any, .any, .any, .any, .any, .any, .any, .any, .sl false (J.map .i), .i (J.length : Nat), .i (k : Nat), .any, .any, .any, .any, .any, .any, .any, .any, .any, .any, .any, .any, .any, .any, .any, .any, .any, .any, .any, .any, .any, .any, .any, .any, .any, .any, .any, .any, .any, .any, .any, .any], [(50, .lst 62 2 ((vAcc R W (J.take k)).map mbV)), (3, .var 46 (.agg [.own 50, .i (⟨1, 0, 0⟩ : Rule).kind, .i (⟨1, 0, 0⟩ : Rule).columns, .i (⟨1, 0, 0⟩ : Rule).faulty])), (2, .var 46 (.agg [.sc (.slice none 0 0), .i 0, .i 0, .i 0])), (1, .var 34 (suV ⟨J, R, W, ⟨0, 0, 0⟩, ver, adm, num⟩))]⟩) 0 (by simp) ?_ ?_
    · (refine St.Le.clean zR zU zV)
    rintro k hk ih
    have hst := fun (h : k < J.length) => vAcc_snoc R W (J.take k) (J.getD k default)
    have htk := fun (h : k < J.length) => take_getD (xs := J) h
    have hend : J.length ≤ k → vAcc R W (J.take k) = vAcc R W J := fun h => by rw [List.take_of_length_le h]
    have hl : (vAcc R W (J.take k)).length ≤ 1000000 := by
      have := vAcc_len R W (J.take k)
      rw [List.length_take] at this; omega
    generalize vAcc R W (J.take k) = acc at hst hend hl ⊢
    repeat' (first | refine yw ?_ | ((with_reducible refine Runs.is ?_); first | refine Runs.region (id := 5) ?_ | refine Runs.region (id := 6) ?_ | refine Runs.region (id := 7) ?_ | refine Runs.region (id := 8) ?_ | refine Runs.region (id := 9) ?_ | ((with_reducible refine Runs.isC ?_); refine Runs.cond rfl (zc ?_) (zc ?_) <;> intro hc <;> (try (first | contradiction | (exfalso; omega; done) | (have : hc = trivial := rfl; clear this; clear hc))))) | ((with_reducible refine r_is ?_); first | refine yr ?_ | (refine r_fn rfl (contains_ints false _ _) HbF.h zL2 zD ?_; refine r_nn zN zH ?_)) | fail)
    · rename_i h0
      repeat' (first | refine yw ?_ | ((with_reducible refine Runs.is ?_); first | refine Runs.region (id := 16) ?_ | ((with_reducible refine Runs.isC ?_); refine Runs.cond rfl (zc ?_) (zc ?_) <;> intro hc <;> (try (first | contradiction | (exfalso; omega; done) | (have : hc = trivial := rfl; clear this; clear hc))))) | ((with_reducible refine r_is ?_); first | refine yr ?_) | fail)
      refine ih (k + 1) _ zo zo ?_
      rw [htk h0, hst h0, if_pos hc, List.append_nil]
      (refine St.Le.clean zR zU zV)
    · rename_i h0
      have hst2 := hst h0
      have htk2 := htk h0
      rw [if_neg (by rw [hc]; decide)] at hst2
      generalize J.getD k default = x at hst2 htk2 ⊢
      clear hst htk
      refine Runs.loopI (fun j : Nat => W.length - j) (fun j => j ≤ W.length)
        (fun j => ⟨[.any, .ptr 1 0 0, .ptr 2 0 0, .ptr 3 0 0, .any, .i x, .ptr 6 0 0, .any, .any, .any, .any, .any, .any, .any, .any, .any, .any, .any, .any, .sl false (J.map .i), .i (J.length : Nat), .i (k : Nat), .any, .any, .any, .any, .any, .any, .any, .any, .any, .any, .sl false (W.map weV), .i (W.length : Nat), .i (j : Nat), .any, .any, .any, .any, .any, .any, .any, .any, .any, .any, .any, .any, .any, .any, .any, .any, .any, .any, .any], [(6, .var 62 (mbV ⟨x, weightIn (W.take j) x 1⟩)), (50, .lst 62 2 (acc.map mbV)), (3, .var 46 (.agg [.own 50, .i (⟨1, 0, 0⟩ : Rule).kind, .i (⟨1, 0, 0⟩ : Rule).columns, .i (⟨1, 0, 0⟩ : Rule).faulty])), (2, .var 46 (.agg [.sc (.slice none 0 0), .i 0, .i 0, .i 0])), (1, .var 34 (suV ⟨J, R, W, ⟨0, 0, 0⟩, ver, adm, num⟩))]⟩) 0 (by simp) ?_ ?_
      · (refine St.Le.clean zR zU zV)
      rintro j hj ihj
      have hw := fun (h : j < W.length) => foldl_take (g := fun n (w : WeightEntry) => if w.server = x then w.weight else n) (s := (1 : Int)) h
      have hwe : W.length ≤ j → weightIn (W.take j) x 1 = weightIn W x 1 := fun h => by rw [List.take_of_length_le h]
      change j < W.length → weightIn (W.take (j + 1)) x 1 = (fun n (w : WeightEntry) => if w.server = x then w.weight else n) (weightIn (W.take j) x 1) (W.getD j default) at hw
      dsimp only at hw
      generalize weightIn (W.take j) x 1 = n at hw hwe ⊢
      repeat' (first | refine yw ?_ | ((with_reducible refine Runs.is ?_); first | refine Runs.region (id := 10) ?_ | refine Runs.region (id := 11) ?_ | refine Runs.region (id := 12) ?_ | refine Runs.region (id := 13) ?_ | ((with_reducible refine Runs.isC ?_); refine Runs.cond rfl (zc ?_) (zc ?_) <;> intro hc <;> (try (first | contradiction | (exfalso; omega; done) | (have : hc = trivial := rfl; clear this; clear hc))))) | ((with_reducible refine r_is ?_); first | refine yr ?_) | fail)
      · rename_i h1
        repeat' (first | refine yw ?_ | ((with_reducible refine Runs.is ?_); first | refine Runs.region (id := 14) ?_ | ((with_reducible refine Runs.isC ?_); refine Runs.cond rfl (zc ?_) (zc ?_) <;> intro hc <;> (try (first | contradiction | (exfalso; omega; done) | (have : hc = trivial := rfl; clear this; clear hc))))) | ((with_reducible refine r_is ?_); first | refine yr ?_) | fail)
        refine ihj (j + 1) _ zo zo ?_
        rw [hw h1, if_pos hc]
        (refine St.Le.clean zR zU zV)
      · rename_i h1
        repeat' (first | refine yw ?_ | ((with_reducible refine Runs.is ?_); first | refine Runs.region (id := 14) ?_ | ((with_reducible refine Runs.isC ?_); refine Runs.cond rfl (zc ?_) (zc ?_) <;> intro hc <;> (try (first | contradiction | (exfalso; omega; done) | (have : hc = trivial := rfl; clear this; clear hc))))) | ((with_reducible refine r_is ?_); first | refine yr ?_) | fail)
        refine ihj (j + 1) _ zo zo ?_
        rw [hw h1, if_neg hc]
        (refine St.Le.clean zR zU zV)
      · have := hwe zo
        subst this
        repeat' (first | refine yw ?_ | ((with_reducible refine Runs.is ?_); first | refine Runs.region (id := 15) ?_ | refine Runs.region (id := 16) ?_ | ((with_reducible refine Runs.isC ?_); refine Runs.cond rfl (zc ?_) (zc ?_) <;> intro hc <;> (try (first | contradiction | (exfalso; omega; done) | (have : hc = trivial := rfl; clear this; clear hc))))) | ((with_reducible refine r_is ?_); first | refine yr ?_ | (refine r_append_full SlF.h SlF.s ZoF.h zd rfl rfl zC zJ zS rfl (fun hn => ?_) (fun hn => ?_) <;> refine r_nn zN zH ?_)) | fail)
        refine ih (k + 1) _ zo zo ?_
        rw [htk2, hst2]
        (refine St.Le.clean zR zU zV)
    · have he := hend zo
      subst he
      repeat' (first | refine yw ?_ | ((with_reducible refine Runs.is ?_); first | refine Runs.region (id := 17) ?_ | ((with_reducible refine Runs.isC ?_); refine Runs.cond rfl (zc ?_) (zc ?_) <;> intro hc <;> (try (first | contradiction | (exfalso; omega; done) | (have : hc = trivial := rfl; clear this; clear hc))))) | ((with_reducible refine r_is ?_); first | refine yr ?_) | fail)
      (refine Runs.weaken (St.Le.freeze_lst 50 rfl) ?_; refine yf ?_)
      (refine Runs.retC Try.func27 rfl zM rfl TyF.h (And.intro zE zd) zD ?_; try exact zX)
  · have hr : ¬ ru = ⟨0, 0, 0⟩ := hc
    clear hc
    rw [show viewS ⟨J, R, W, ru, ver, adm, num⟩ = ⟨vAcc R W J, ru⟩ from by unfold viewS viewRule; rw [if_neg hr]; rfl]
    refine Runs.weaken (St.Le.nilVar 50 3 0 62 2 zd rfl rfl rfl) ?_
    refine Runs.loopI (fun k : Nat => J.length - k) (fun k => k ≤ J.length)
      (fun k => ⟨[.any, .ptr 1 0 0, .ptr 2 0 0, .ptr 3 0 0, .any, .any, .any, .any, .any, .any, .any, .any, .any, .any, .any, .any, .any, .any, .any, .sl false (J.map .i), .i (J.length : Nat), .i (k : Nat), .any, .any, .any, .any, .any, .any, .any, .any, .any, .any, .any, .any, .any, .any, .any, .any, .any, .any, .any, .any, .any, .any, .any, .any, .any, .any, .any, .any, .any, .any, .any, .any], [(50, .lst 62 2 ((vAcc R W (J.take k)).map mbV)), (3, .var 46 (.agg [.own 50, .i (ru : Rule).kind, .i (ru : Rule).columns, .i (ru : Rule).faulty])), (2, .var 46 (.agg [.sc (.slice none 0 0), .i 0, .i 0, .i 0])), (1, .var 34 (suV ⟨J, R, W, ru, ver, adm, num⟩))]⟩) 0 (by simp) ?_ ?_
    · (refine St.Le.clean zR zU zV)
    rintro k hk ih
    have hst := fun (h : k < J.length) => vAcc_snoc R W (J.take k) (J.getD k default)
    have htk := fun (h : k < J.length) => take_getD (xs := J) h
    have hend : J.length ≤ k → vAcc R W (J.take k) = vAcc R W J := fun h => by rw [List.take_of_length_le h]
    have hl : (vAcc R W (J.take k)).length ≤ 1000000 := by
      have := vAcc_len R W (J.take k)
      rw [List.length_take] at this; omega
    generalize vAcc R W (J.take k) = acc at hst hend hl ⊢
    repeat' (first | refine yw ?_ | ((with_reducible refine Runs.is ?_); first | refine Runs.region (id := 5) ?_ | refine Runs.region (id := 6) ?_ | refine Runs.region (id := 7) ?_ | refine Runs.region (id := 8) ?_ | refine Runs.region (id := 9) ?_ | ((with_reducible refine Runs.isC ?_); refine Runs.cond rfl (zc ?_) (zc ?_) <;> intro hc <;> (try (first | contradiction | (exfalso; omega; done) | (have : hc = trivial := rfl; clear this; clear hc))))) | ((with_reducible refine r_is ?_); first | refine yr ?_ | (refine r_fn rfl (contains_ints false _ _) HbF.h zL2 zD ?_; refine r_nn zN zH ?_)) | fail)
    · rename_i h0
      repeat' (first | refine yw ?_ | ((with_reducible refine Runs.is ?_); first | refine Runs.region (id := 16) ?_ | ((with_reducible refine Runs.isC ?_); refine Runs.cond rfl (zc ?_) (zc ?_) <;> intro hc <;> (try (first | contradiction | (exfalso; omega; done) | (have : hc = trivial := rfl; clear this; clear hc))))) | ((with_reducible refine r_is ?_); first | refine yr ?_) | fail)
      refine ih (k + 1) _ zo zo ?_
      rw [htk h0, hst h0, if_pos hc, List.append_nil]
      (refine St.Le.clean zR zU zV)
    · rename_i h0
      have hst2 := hst h0
      have htk2 := htk h0
      rw [if_neg (by rw [hc]; decide)] at hst2
      generalize J.getD k default = x at hst2 htk2 ⊢
      clear hst htk
      refine Runs.loopI (fun j : Nat => W.length - j) (fun j => j ≤ W.length)
        (fun j => ⟨[.any, .ptr 1 0 0, .ptr 2 0 0, .ptr 3 0 0, .any, .i x, .ptr 6 0 0, .any, .any, .any, .any, .any, .any, .any, .any, .any, .any, .any, .any, .sl false (J.map .i), .i (J.length : Nat), .i (k : Nat), .any, .any, .any, .any, .any, .any, .any, .any, .any, .any, .sl false (W.map weV), .i (W.length : Nat), .i (j : Nat), .any, .any, .any, .any, .any, .any, .any, .any, .any, .any, .any, .any, .any, .any, .any, .any, .any, .any, .any], [(6, .var 62 (mbV ⟨x, weightIn (W.take j) x 1⟩)), (50, .lst 62 2 (acc.map mbV)), (3, .var 46 (.agg [.own 50, .i (ru : Rule).kind, .i (ru : Rule).columns, .i (ru : Rule).faulty])), (2, .var 46 (.agg [.sc (.slice none 0 0), .i 0, .i 0, .i 0])), (1, .var 34 (suV ⟨J, R, W, ru, ver, adm, num⟩))]⟩) 0 (by simp) ?_ ?_
      · (refine St.Le.clean zR zU zV)
      rintro j hj ihj
      have hw := fun (h : j < W.length) => foldl_take (g := fun n (w : WeightEntry) => if w.server = x then w.weight else n) (s := (1 : Int)) h
      have hwe : W.length ≤ j → weightIn (W.take j) x 1 = weightIn W x 1 := fun h => by rw [List.take_of_length_le h]
      change j < W.length → weightIn (W.take (j + 1)) x 1 = (fun n (w : WeightEntry) => if w.server = x then w.weight else n) (weightIn (W.take j) x 1) (W.getD j default) at hw
      dsimp only at hw
      generalize weightIn (W.take j) x 1 = n at hw hwe ⊢
      repeat' (first | refine yw ?_ | ((with_reducible refine Runs.is ?_); first | refine Runs.region (id := 10) ?_ | refine Runs.region (id := 11) ?_ | refine Runs.region (id := 12) ?_ | refine Runs.region (id := 13) ?_ | ((with_reducible refine Runs.isC ?_); refine Runs.cond rfl (zc ?_) (zc ?_) <;> intro hc <;> (try (first | contradiction | (exfalso; omega; done) | (have : hc = trivial := rfl; clear this; clear hc))))) | ((with_reducible refine r_is ?_); first | refine yr ?_) | fail)
      · rename_i h1
        repeat' (first | refine yw ?_ | ((with_reducible refine Runs.is ?_); first | refine Runs.region (id := 14) ?_ | ((with_reducible refine Runs.isC ?_); refine Runs.cond rfl (zc ?_) (zc ?_) <;> intro hc <;> (try (first | contradiction | (exfalso; omega; done) | (have : hc = trivial := rfl; clear this; clear hc))))) | ((with_reducible refine r_is ?_); first | refine yr ?_) | fail)
        refine ihj (j + 1) _ zo zo ?_
        rw [hw h1, if_pos hc]
        (refine St.Le.clean zR zU zV)
      · rename_i h1
        repeat' (first | refine yw ?_ | ((with_reducible refine Runs.is ?_); first | refine Runs.region (id := 14) ?_ | ((with_reducible refine Runs.isC ?_); refine Runs.cond rfl (zc ?_) (zc ?_) <;> intro hc <;> (try (first | contradiction | (exfalso; omega; done) | (have : hc = trivial := rfl; clear this; clear hc))))) | ((with_reducible refine r_is ?_); first | refine yr ?_) | fail)
        refine ihj (j + 1) _ zo zo ?_
        rw [hw h1, if_neg hc]
        (refine St.Le.clean zR zU zV)
      · have := hwe zo
        subst this
        repeat' (first | refine yw ?_ | ((with_reducible refine Runs.is ?_); first | refine Runs.region (id := 15) ?_ | refine Runs.region (id := 16) ?_ | ((with_reducible refine Runs.isC ?_); refine Runs.cond rfl (zc ?_) (zc ?_) <;> intro hc <;> (try (first | contradiction | (exfalso; omega; done) | (have : hc = trivial := rfl; clear this; clear hc))))) | ((with_reducible refine r_is ?_); first | refine yr ?_ | (refine r_append_full SlF.h SlF.s ZoF.h zd rfl rfl zC zJ zS rfl (fun hn => ?_) (fun hn => ?_) <;> refine r_nn zN zH ?_)) | fail)
        refine ih (k + 1) _ zo zo ?_
        rw [htk2, hst2]
        (refine St.Le.clean zR zU zV)
    · have he := hend zo
      subst he
      repeat' (first | refine yw ?_ | ((with_reducible refine Runs.is ?_); first | refine Runs.region (id := 17) ?_ | ((with_reducible refine Runs.isC ?_); refine Runs.cond rfl (zc ?_) (zc ?_) <;> intro hc <;> (try (first | contradiction | (exfalso; omega; done) | (have : hc = trivial := rfl; clear this; clear hc))))) | ((with_reducible refine r_is ?_); first | refine yr ?_) | fail)
      (refine Runs.weaken (St.Le.freeze_lst 50 rfl) ?_; refine yf ?_)
      (refine Runs.retC Try.func27 rfl zM rfl TyF.h (And.intro zE zd) zD ?_; try exact zX)
end Go.Proofs
namespace Go.Proofs
open Go.AM
attribute [local irreducible] AM.evalR AM.evalD AM.Runs AM.valK AM.dK AM.opK AM.stepR AM.CallS AM.St.Le
def sumStep (s : Summary) (p : Proposal) : Summary := joinS s (ofS p)
def sumS (g : View) (c : Config) : Summary := c.foldl sumStep (initS g)
def Plain (p : Proposal) : Prop := p.changes.length ≤ 1000 ∧ True
def Short (s : Summary) (n : Nat) : Prop := s.joined.length ≤ n ∧ s.removed.length ≤ n ∧ s.weights.length ≤ n
theorem ofS_short {p : Proposal} (h : p.changes.length ≤ 1000) : Short (ofS p) 1000 := by
  have h1 := ofAcc_len p p.changes.length (Nat.le_refl _)
  rw [List.take_of_length_le (Nat.le_refl _)] at h1
  have h2 : (weightsOf (ofAcc p).m).length ≤ 12 := by
    have := List.length_filterMap_le (getI (ofAcc p).m) (upto 1 12)
    rw [upto_len] at this; exact this
  refine ⟨?_, ?_, ?_⟩
  · show (sortI (ofAcc p).j).length ≤ _
    rw [sortI_length]; exact Nat.le_trans h1.1 h
  · show (sortI (ofAcc p).r).length ≤ _
    rw [sortI_length]; exact Nat.le_trans h1.2 h
  · show (weightsOf (ofAcc p).m).length ≤ _
    omega
theorem joinS_short {a b : Summary} {m n : Nat} (ha : Short a m) (hb : Short b n) : Short (joinS a b) (m + n) := by
  have h1 := unionI_len a.joined b.joined
  have h2 := unionI_len a.removed b.removed
  have h3 := weightsI_len a.weights b.weights
  obtain ⟨a1, a2, a3⟩ := ha
  obtain ⟨b1, b2, b3⟩ := hb
  exact ⟨Nat.le_trans h1 zo, Nat.le_trans h2 zo, Nat.le_trans h3 zo⟩
theorem initS_short {g : View} (h : g.members.length ≤ 1000) : Short (initS g) 1000 := by
  refine ⟨?_, ?_, ?_⟩ <;> simp [initS] <;> omega
theorem sumS_short {g : View} (hg : g.members.length ≤ 1000) : ∀ (c : Config), (∀ p ∈ c, p.changes.length ≤ 1000) → Short (sumS g c) (1000 + 1000 * c.length) := by
  intro c
  have gen : ∀ (c : Config) (s : Summary) (n : Nat), Short s n → (∀ p ∈ c, p.changes.length ≤ 1000) → Short (c.foldl sumStep s) (n + 1000 * c.length) := by
    intro c
    induction c with
    | nil => intro s n hs _; simpa using hs
    | cons p c ih =>
      intro s n hs hc
      have h1 := joinS_short hs (ofS_short (hc p (by simp)))
      have h2 := ih (sumStep s p) (n + 1000) h1 (fun q hq => hc q (by simp [hq]))
      rw [List.foldl_cons, List.length_cons]
      rw [show n + 1000 * (c.length + 1) = n + 1000 + 1000 * c.length by omega]; exact h2
  exact gen c (initS g) 1000 (initS_short hg)
theorem member_Summarize (f : Bool) (g : View) (c : Config) (hg : g.members.length ≤ 1000) (hc : c.length ≤ 100) (hp : ∀ p ∈ c, Plain p) : AM.Fn Try.prog 32 [viV g, .sl f (c.map prV)] (suV (sumS g c)) := by
  (refine spec_of_runs Try.func32 rfl ?_; simp only [Try.f32]; refine ys ?_)
  repeat' (first | refine yw ?_ | ((with_reducible refine Runs.is ?_); first | refine Runs.region (id := 0) ?_ | refine Runs.region (id := 1) ?_ | refine Runs.region (id := 2) ?_ | ((with_reducible refine Runs.isC ?_); refine Runs.cond rfl (zc ?_) (zc ?_) <;> intro hc <;> (try (first | contradiction | (exfalso; omega; done) | (have : hc = trivial := rfl; clear this; clear hc))))) | ((with_reducible refine r_is ?_); first | refine yr ?_ | (refine r_fn rfl (member_Initial g zo) HbF.h zL1 zD ?_; refine r_nn zN zH ?_)) | fail)
  refine Runs.loopI (fun k : Nat => c.length - k) (fun k => k ≤ c.length)
    (fun k => ⟨[.any, .any, .any, .any, .ptr 4 0 0, .ptr 5 0 0, .any, .any, .any, .any, .sl f (c.map prV), .i (c.length : Nat), .i (k : Nat), .any, .any, .any, .any, .any, .any, .any, .any, .any], [(5, .var 34 (suV (sumS g (c.take k)))), (4, .var 34 (.agg [.sc (.slice none 0 0), .sc (.slice none 0 0), .sc (.slice none 0 0), .i 0, .i 0, .i 0, .i 0, .i 0, .i 0]))]⟩) 0 (by simp) ?_ ?_
  · (refine St.Le.clean zR zU zV)
  rintro k hk ih
  have hst := fun (h : k < c.length) => foldl_take (g := sumStep) (s := initS g) h
  have hend : c.length ≤ k → sumS g (c.take k) = sumS g c := fun h => by rw [List.take_of_length_le h]
  have hsh := sumS_short hg (c.take k) (fun p q => (hp p (List.mem_of_mem_take q)).1)
  rw [List.length_take] at hsh
  have hpl : k < c.length → Plain (c.getD k default) := fun h => hp _ (by rw [List.getD_eq_getElem?_getD, List.getElem?_eq_getElem h]; exact List.getElem_mem h)
  change k < c.length → sumS g (c.take (k + 1)) = sumStep (sumS g (c.take k)) (c.getD k default) at hst
  generalize sumS g (c.take k) = s at hst hend hsh ⊢
  by_cases hlt : k < c.length
  · have hst2 : sumS g (c.take (k + 1)) = joinS s (ofS (c.getD k default)) := hst hlt
    have hp2 := hpl hlt
    have ho := ofS_short hp2.1
    obtain ⟨s1, s2, s3⟩ := hsh
    obtain ⟨o1, o2, o3⟩ := ho
    have hOf := member_Of (c.getD k default) (Nat.le_trans hp2.1 zd)
    have hJn := member_Join s (ofS (c.getD k default)) (member_union_all false false _ _ zo) (member_union_all false false _ _ zo) (member_weights_all false false _ _ zo)
    generalize ofS (c.getD k default) = q at hOf hJn hst2
    repeat' (first | refine yw ?_ | ((with_reducible refine Runs.is ?_); first | refine Runs.region (id := 3) ?_ | refine Runs.region (id := 4) ?_ | refine Runs.drawn (id := 5) mixed zK ?_ | refine Runs.region (id := 6) ?_ | ((with_reducible refine Runs.isC ?_); refine Runs.cond rfl (zc ?_) (zc ?_) <;> intro hc <;> (try (first | contradiction | (exfalso; omega; done) | (have : hc = trivial := rfl; clear this; clear hc))))) | ((with_reducible refine r_is ?_); first | refine yr ?_) | ((with_reducible refine d_is ?_); first | refine yd ?_ | (refine d_fn rfl (hOf) HbF.h zL1 zD ?_; refine d_nn zN zH ?_) | (refine d_fn rfl (hJn) HbF.h zL2 zD ?_; refine d_nn zN zH ?_)) | fail)
    refine ih (k + 1) _ zo zo ?_
    rw [hst2]
    (refine St.Le.clean zR zU zV)
  · have he := hend zo
    subst he
    repeat' (first | refine yw ?_ | ((with_reducible refine Runs.is ?_); first | refine Runs.region (id := 3) ?_ | ((with_reducible refine Runs.isC ?_); refine Runs.cond rfl (zc ?_) (zc ?_) <;> intro hc <;> (try (first | contradiction | (exfalso; omega; done) | (have : hc = trivial := rfl; clear this; clear hc))))) | ((with_reducible refine r_is ?_); first | refine yr ?_) | fail)
    repeat' (first | refine yw ?_ | ((with_reducible refine Runs.is ?_); first | refine Runs.region (id := 7) ?_ | ((with_reducible refine Runs.isC ?_); refine Runs.cond rfl (zc ?_) (zc ?_) <;> intro hc <;> (try (first | contradiction | (exfalso; omega; done) | (have : hc = trivial := rfl; clear this; clear hc))))) | ((with_reducible refine r_is ?_); first | refine yr ?_) | fail)
    (refine Runs.retC Try.func32 rfl zM rfl TyF.h (And.intro zE zd) zD ?_; try exact zX)
end Go.Proofs
namespace Go.Proofs
open Go.AM
attribute [local irreducible] AM.evalR AM.evalD AM.Runs AM.valK AM.dK AM.opK AM.stepR AM.CallS AM.St.Le
theorem grow_nil (n : Nat) (hn : n ≤ 1000000000) : AM.Spec Try.prog 80 [.sc (.slice none 0 0), .i (n : Nat)] [] (OwnPost 3 1 fun l => l = ([] : List Int).map .i) := by
  (refine spec_of_runs Try.func80 rfl ?_; simp only [Try.f80]; refine ys ?_)
  repeat' (first | refine yw ?_ | ((with_reducible refine Runs.is ?_); first | refine Runs.region ?_ | ((with_reducible refine Runs.isC ?_); refine Runs.cond rfl (zc ?_) (zc ?_) <;> intro hc <;> (try (first | contradiction | (exfalso; omega; done) | (have : hc = trivial := rfl; clear this; clear hc))))) | ((with_reducible refine r_is ?_); first | refine yr ?_ | (refine r_append_full SlF.h SlF.s ZoF.h zd rfl rfl zC zJ zS rfl (fun hn => ?_) (fun hn => ?_) <;> refine r_nn zN zH ?_)) | fail)
  · exact Runs.ret_own Try.func80 rfl rfl rfl (by simp)
  · exact Runs.ret_nil Try.func80 rfl rfl zd rfl rfl
theorem sum_take (ls : List (List Int)) (k : Nat) (h : k < ls.length) : ((ls.take (k + 1)).map List.length).sum = ((ls.take k).map List.length).sum + (ls.getD k default).length := by
  rw [take_getD h, List.map_append, List.sum_append]; simp
theorem sum_take_le (ls : List (List Int)) (k : Nat) : ((ls.take k).map List.length).sum ≤ (ls.map List.length).sum := by
  have h : ls.map List.length = (ls.take k).map List.length ++ (ls.drop k).map List.length := by rw [← List.map_append, List.take_append_drop]
  rw [h, List.sum_append]; omega
theorem flatten_len (ls : List (List Int)) : ls.flatten.length = (ls.map List.length).sum := List.length_flatten
theorem concat_ints (f : Bool) (ls : List (List Int)) (hs : (ls.map List.length).sum ≤ 1000000000) : AM.Spec Try.prog 45 [.sl f (ls.map inV)] [] (OwnPost 3 1 fun l => l = ls.flatten.map .i) := by
  (refine spec_of_runs Try.func45 rfl ?_; simp only [Try.f45]; refine ys ?_)
  (refine Runs.lens 0 ?_; refine yl ?_)
  intro hlb
  repeat' (first | refine yw ?_ | ((with_reducible refine Runs.is ?_); first | refine Runs.region (id := 0) ?_ | refine Runs.region (id := 1) ?_ | refine Runs.region (id := 2) ?_ | ((with_reducible refine Runs.isC ?_); refine Runs.cond rfl (zc ?_) (zc ?_) <;> intro hc <;> (try (first | contradiction | (exfalso; omega; done) | (have : hc = trivial := rfl; clear this; clear hc))))) | ((with_reducible refine r_is ?_); first | refine yr ?_) | fail)
  refine Runs.loopI (fun k : Nat => ls.length - k) (fun k => k ≤ ls.length)
    (fun k => ⟨[.sl f (ls.map inV), .any, .any, .i ((((ls.take k).map List.length).sum : Nat) : Int), .any, .any, .any, .any, .any, .sl f (ls.map inV), .i (ls.length : Nat), .i (k : Nat), .any, .any, .any, .any, .any, .any, .any, .any, .any, .any, .any, .any, .any, .any, .any, .any, .any, .any, .any, .any, .any, .any, .any, .any], []⟩) 0 (by simp) ?_ ?_
  · (refine St.Le.clean zR zU zV)
  rintro k hk ih
  have hst := fun (h : k < ls.length) => sum_take ls k h
  have hle := sum_take_le ls k
  have hle2 := sum_take_le ls (k + 1)
  have hend : ls.length ≤ k → ((ls.take k).map List.length).sum = (ls.map List.length).sum := fun h => by rw [List.take_of_length_le h]
  generalize ((ls.take k).map List.length).sum = n at hst hle hend ⊢
  by_cases hlt : k < ls.length
  · have hst2 := hst hlt
    repeat' (first | refine yw ?_ | ((with_reducible refine Runs.is ?_); first | refine Runs.region (id := 3) ?_ | refine Runs.region (id := 4) ?_ | refine Runs.region (id := 5) ?_ | refine Runs.region (id := 6) ?_ | ((with_reducible refine Runs.isC ?_); refine Runs.cond rfl (zc ?_) (zc ?_) <;> intro hc <;> (try (first | contradiction | (exfalso; omega; done) | (have : hc = trivial := rfl; clear this; clear hc))))) | ((with_reducible refine r_is ?_); first | refine yr ?_) | fail)
    repeat' (first | refine yw ?_ | ((with_reducible refine Runs.is ?_); first | refine Runs.region (id := 8) ?_ | ((with_reducible refine Runs.isC ?_); refine Runs.cond rfl (zc ?_) (zc ?_) <;> intro hc <;> (try (first | contradiction | (exfalso; omega; done) | (have : hc = trivial := rfl; clear this; clear hc))))) | ((with_reducible refine r_is ?_); first | refine yr ?_) | fail)
    refine ih (k + 1) _ zo zo ?_
    rw [hst2]
    (refine St.Le.clean zR zU zV)
  · have hn := hend zo
    clear hst hend hle2 ih
    repeat' (first | refine yw ?_ | ((with_reducible refine Runs.is ?_); first | refine Runs.region (id := 3) ?_ | ((with_reducible refine Runs.isC ?_); refine Runs.cond rfl (zc ?_) (zc ?_) <;> intro hc <;> (try (first | contradiction | (exfalso; omega; done) | (have : hc = trivial := rfl; clear this; clear hc))))) | ((with_reducible refine r_is ?_); first | refine yr ?_) | fail)
    repeat' (first | refine yw ?_ | ((with_reducible refine Runs.is ?_); first | refine Runs.region (id := 9) ?_ | refine Runs.region (id := 10) ?_ | ((with_reducible refine Runs.isC ?_); refine Runs.cond rfl (zc ?_) (zc ?_) <;> intro hc <;> (try (first | contradiction | (exfalso; omega; done) | (have : hc = trivial := rfl; clear this; clear hc))))) | ((with_reducible refine r_is ?_); first | refine yr ?_ | (refine r_own rfl (grow_nil n zo) HbF.h zL2 zD rfl (fun _ hq _ => ?_); (try subst hq); refine r_nn zN zH ?_)) | fail)
    refine Runs.loopI (fun k : Nat => ls.length - k) (fun k => k ≤ ls.length)
      (fun k => ⟨[.any, .any, .any, .any, .any, .any, .own 24, .any, .any, .any, .any, .any, .any, .any, .any, .any, .any, .any, .any, .any, .any, .any, .any, .any, .any, .sl f (ls.map inV), .i (ls.length : Nat), .i (k : Nat), .any, .any, .any, .any, .any, .any, .any, .any], [(24, .lst 3 1 ((ls.take k).flatten.map .i))]⟩) 0 (by simp) ?_ ?_
    · (refine St.Le.clean zR zU zV)
    rintro k hk ih
    have hle := sum_take_le ls (k + 1)
    have hfl := flatten_len (ls.take k)
    have hle1 := sum_take_le ls k
    have hend : ls.length ≤ k → (ls.take k).flatten = ls.flatten := fun h => by rw [List.take_of_length_le h]
    have hst := fun (h : k < ls.length) => take_getD (xs := ls) h
    have hsm := fun (h : k < ls.length) => sum_take ls k h
    by_cases hlt : k < ls.length
    · have hfl2 : (ls.take (k + 1)).flatten = (ls.take k).flatten ++ ls.getD k default := by rw [hst hlt, List.flatten_append]; simp
      have hsm2 := hsm hlt
      generalize (ls.take k).flatten = acc at hfl hend hfl2 ⊢
      repeat' (first | refine yw ?_ | ((with_reducible refine Runs.is ?_); first | refine Runs.region (id := 11) ?_ | refine Runs.region (id := 12) ?_ | refine Runs.region (id := 13) ?_ | refine Runs.region (id := 14) ?_ | ((with_reducible refine Runs.isC ?_); refine Runs.cond rfl (zc ?_) (zc ?_) <;> intro hc <;> (try (first | contradiction | (exfalso; omega; done) | (have : hc = trivial := rfl; clear this; clear hc))))) | ((with_reducible refine r_is ?_); first | refine yr ?_ | (refine r_append_full SlF.h SlF.s ZoF.h zd rfl rfl zC zJ zS rfl (fun hn => ?_) (fun hn => ?_) <;> refine r_nn zN zH ?_)) | fail)
      refine ih (k + 1) _ zo zo ?_
      rw [hfl2]
      (refine St.Le.clean zR zU zV)
    · repeat' (first | refine yw ?_ | ((with_reducible refine Runs.is ?_); first | refine Runs.region (id := 11) ?_ | ((with_reducible refine Runs.isC ?_); refine Runs.cond rfl (zc ?_) (zc ?_) <;> intro hc <;> (try (first | contradiction | (exfalso; omega; done) | (have : hc = trivial := rfl; clear this; clear hc))))) | ((with_reducible refine r_is ?_); first | refine yr ?_) | fail)
      rw [hend zo]
      repeat' (first | refine yw ?_ | ((with_reducible refine Runs.is ?_); first | refine Runs.region (id := 15) ?_ | ((with_reducible refine Runs.isC ?_); refine Runs.cond rfl (zc ?_) (zc ?_) <;> intro hc <;> (try (first | contradiction | (exfalso; omega; done) | (have : hc = trivial := rfl; clear this; clear hc))))) | ((with_reducible refine r_is ?_); first | refine yr ?_) | fail)
      exact Runs.ret_own Try.func45 rfl rfl rfl rfl
end Go.Proofs
namespace Go.Proofs
open Go.AM
attribute [local irreducible] AM.evalR AM.evalD AM.Runs AM.valK AM.dK AM.opK AM.stepR AM.CallS AM.St.Le
def fac (low : Vector) (e : Entry) : Int := 1 + e.count - getV low e.author
def countI (low high : Vector) : Int := high.foldl (fun n e => n * fac low e) 1
def countB (a b : Config) : Int := if containsB b a then countI (vectorV a) (vectorV b) else 0
end Go.Proofs
namespace Go.Proofs
open Go.AM
attribute [local irreducible] AM.evalR AM.evalD AM.Runs AM.valK AM.dK AM.opK AM.stepR AM.CallS AM.St.Le
end Go.Proofs
namespace Go.Proofs
open Go.AM
attribute [local irreducible] AM.evalR AM.evalD AM.Runs AM.valK AM.dK AM.opK AM.stepR AM.CallS AM.St.Le
def laterB (a b : WeightEntry) : Bool := if a.version ≠ b.version then decide (b.version < a.version) else if a.admin ≠ b.admin then decide (b.admin < a.admin) else decide (b.number < a.number)
def insStep (n : Int) (s : List Int × Bool) (y : Int) : List Int × Bool :=
  let t := if s.2 = false ∧ n ≤ y then (s.1 ++ [n], true) else s
  if y ≠ n then (t.1 ++ [y], t.2) else t
def insR (l : List Int) (n : Int) : List Int := let s := l.foldl (insStep n) ([], false); if s.2 = false then s.1 ++ [n] else s.1
theorem insStep_a {n y : Int} {acc : List Int} (h1 : n ≤ y) (h2 : ¬ y = n) : insStep n (acc, false) y = (acc ++ [n] ++ [y], true) := by simp [insStep, h1, h2]
theorem insStep_b {n y : Int} {acc : List Int} (h1 : n ≤ y) (h2 : y = n) : insStep n (acc, false) y = (acc ++ [n], true) := by simp [insStep, h2]
theorem insStep_c {n y : Int} {acc : List Int} (h1 : y < n) (h2 : ¬ y = n) : insStep n (acc, false) y = (acc ++ [y], false) := by
  have : ¬ n ≤ y := by omega
  simp [insStep, h2, this]
theorem insStep_d {n y : Int} {acc : List Int} (h2 : ¬ y = n) : insStep n (acc, true) y = (acc ++ [y], true) := by simp [insStep, h2]
def weightR : List WeightEntry → Int → Int
  | [], _ => 1
  | w :: ws, x => if w.server = x then w.weight else weightR ws x
end Go.Proofs
namespace Go.Proofs
open Go.AM
attribute [local irreducible] AM.evalR AM.evalD AM.Runs AM.valK AM.dK AM.opK AM.stepR AM.CallS AM.St.Le
def ascR : List Int → Bool
  | [] => true
  | [_] => true
  | x :: y :: l => decide (x < y) && ascR (y :: l)
theorem ascR_drop {l : List Int} {i : Nat} (h : i + 1 < l.length) : ascR (l.drop i) = (decide (l.getD i default < l.getD (i + 1) default) && ascR (l.drop (i + 1))) := by
  rw [drop_getD (show i < l.length by omega), drop_getD h, ascR]
theorem ref_Ascending (f : Bool) (l : List Int) : AM.Fn Try.prog 51 [.sl f (l.map .i)] (.b (ascR l)) := by
  (refine spec_of_runs Try.func51 rfl ?_; simp only [Try.f51]; refine ys ?_)
  (refine Runs.lens 0 ?_; refine yl ?_)
  intro hl
  repeat' (first | refine yw ?_ | ((with_reducible refine Runs.is ?_); first | refine Runs.region (id := 0) ?_ | refine Runs.region (id := 1) ?_ | ((with_reducible refine Runs.isC ?_); refine Runs.cond rfl (zc ?_) (zc ?_) <;> intro hc <;> (try (first | contradiction | (exfalso; omega; done) | (have : hc = trivial := rfl; clear this; clear hc))))) | ((with_reducible refine r_is ?_); first | refine yr ?_) | fail)
  refine Runs.loopI (fun i : Nat => l.length - i) (fun i => i ≤ l.length ∧ ascR l = ascR (l.drop i))
    (fun i => ⟨[.sl f (l.map .i), .any, .any, .i ((i + 1 : Nat) : Int), .any, .any, .any, .any, .any, .any, .any, .any, .any, .any, .any, .any, .any, .any, .any, .any], []⟩) 0 (by simp) ?_ ?_
  · (refine St.Le.clean zR zU zV)
  rintro i ⟨hi, he⟩ ih
  rw [he]
  by_cases hlt : i + 1 < l.length
  · have hd := ascR_drop hlt
    rw [hd]
    have e1 : (((i + 1 : Nat) : Int) - 1).toNat = i := by omega
    repeat' (first | refine yw ?_ | ((with_reducible refine Runs.is ?_); first | refine Runs.region (id := 2) ?_ | refine Runs.drawn (id := 4) mixed zK ?_ | refine Runs.region (id := 5) ?_ | refine Runs.region (id := 3) ?_ | ((with_reducible refine Runs.isC ?_); refine Runs.cond rfl (zc ?_) (zc ?_) <;> intro hc <;> (try (first | contradiction | (exfalso; omega; done) | (have : hc = trivial := rfl; clear this; clear hc))))) | ((with_reducible refine r_is ?_); first | refine yr ?_) | ((with_reducible refine d_is ?_); first | refine yd ?_) | fail)
    · (refine Runs.ret1 Try.func51 rfl zM zD ?_; try exact zX)
      rw [e1] at hc
      exact V.Le.of_eq (congrArg V.b (by rw [decide_eq_false zo]; rfl))
    · rw [e1] at hc
      rw [decide_eq_true (show l.getD i default < l.getD (i + 1) default by omega), Bool.true_and] at hd ⊢
      rw [← hd, ← he]
      repeat' (first | refine yw ?_ | ((with_reducible refine Runs.is ?_); first | refine Runs.region (id := 3) ?_ | ((with_reducible refine Runs.isC ?_); refine Runs.cond rfl (zc ?_) (zc ?_) <;> intro hc <;> (try (first | contradiction | (exfalso; omega; done) | (have : hc = trivial := rfl; clear this; clear hc))))) | ((with_reducible refine r_is ?_); first | refine yr ?_) | fail)
      refine ih (i + 1) _ ⟨by omega, by rw [he, hd]⟩ zo ?_
      (refine St.Le.clean zR zU zV)
  · have hd : ascR (l.drop i) = true := by
      match hm : l.drop i with
      | [] => rfl
      | [_] => rfl
      | x :: y :: t => have := congrArg List.length hm; simp at this; omega
    rw [hd]
    repeat' (first | refine yw ?_ | ((with_reducible refine Runs.is ?_); first | refine Runs.region (id := 2) ?_ | ((with_reducible refine Runs.isC ?_); refine Runs.cond rfl (zc ?_) (zc ?_) <;> intro hc <;> (try (first | contradiction | (exfalso; omega; done) | (have : hc = trivial := rfl; clear this; clear hc))))) | ((with_reducible refine r_is ?_); first | refine yr ?_) | fail)
    repeat' (first | refine yw ?_ | ((with_reducible refine Runs.is ?_); first | refine Runs.region (id := 6) ?_ | ((with_reducible refine Runs.isC ?_); refine Runs.cond rfl (zc ?_) (zc ?_) <;> intro hc <;> (try (first | contradiction | (exfalso; omega; done) | (have : hc = trivial := rfl; clear this; clear hc))))) | ((with_reducible refine r_is ?_); first | refine yr ?_) | fail)
    (refine Runs.ret1 Try.func51 rfl zM zD ?_; try exact zX)
end Go.Proofs
namespace Go.Proofs
open Go.AM
attribute [local irreducible] AM.evalR AM.evalD AM.Runs AM.valK AM.dK AM.opK AM.stepR AM.CallS AM.St.Le
end Go.Proofs
namespace Go.Proofs
open Go.AM
attribute [local irreducible] AM.evalR AM.evalD AM.Runs AM.valK AM.dK AM.opK AM.stepR AM.CallS AM.St.Le
end Go.Proofs
namespace Go.Proofs
open Go.AM
attribute [local irreducible] AM.evalR AM.evalD AM.Runs AM.valK AM.dK AM.opK AM.stepR AM.CallS AM.St.Le
def weighStep (w : WeightEntry) (s : List WeightEntry × Bool) (x : WeightEntry) : List WeightEntry × Bool :=
  if x.server = w.server then (s.1 ++ [if laterB w x = true then w else x], true)
  else if s.2 = false ∧ w.server < x.server then (s.1 ++ [w, x], true) else (s.1 ++ [x], s.2)
def weighR (l : List WeightEntry) (w : WeightEntry) : List WeightEntry := let s := l.foldl (weighStep w) ([], false); if s.2 = false then s.1 ++ [w] else s.1
theorem weighStep_a {w x : WeightEntry} {acc : List WeightEntry} {put : Bool} (h1 : x.server = w.server) (h2 : laterB w x = true) : weighStep w (acc, put) x = (acc ++ [w], true) := by simp [weighStep, h1, h2]
theorem weighStep_b {w x : WeightEntry} {acc : List WeightEntry} {put : Bool} (h1 : x.server = w.server) (h2 : laterB w x = false) : weighStep w (acc, put) x = (acc ++ [x], true) := by simp [weighStep, h1, h2]
theorem weighStep_c {w x : WeightEntry} {acc : List WeightEntry} (h1 : ¬ x.server = w.server) (h2 : w.server < x.server) : weighStep w (acc, false) x = (acc ++ [w, x], true) := by simp [weighStep, h1, h2]
theorem weighStep_d {w x : WeightEntry} {acc : List WeightEntry} (h1 : ¬ x.server = w.server) (h2 : ¬ w.server < x.server) : weighStep w (acc, false) x = (acc ++ [x], false) := by simp [weighStep, h1, h2]
theorem weighStep_e {w x : WeightEntry} {acc : List WeightEntry} (h1 : ¬ x.server = w.server) : weighStep w (acc, true) x = (acc ++ [x], true) := by simp [weighStep, h1]
end Go.Proofs
namespace Go.Proofs
open Go.AM
attribute [local irreducible] AM.evalR AM.evalD AM.Runs AM.valK AM.dK AM.opK AM.stepR AM.CallS AM.St.Le
end Go.Proofs
namespace Go.Proofs
open Go.AM
attribute [local irreducible] AM.evalR AM.evalD AM.Runs AM.valK AM.dK AM.opK AM.stepR AM.CallS AM.St.Le
def pickT (a b : Summary) : Summary := if b.rule ≠ ⟨0, 0, 0⟩ ∧ (a.rule = ⟨0, 0, 0⟩ ∨ laterB (originW b) (originW a) = true) then b else a
def joinT (a b : Summary) : Summary := ⟨b.joined.foldl insR a.joined, b.removed.foldl insR a.removed, b.weights.foldl weighR a.weights, (pickT a b).rule, (pickT a b).version, (pickT a b).admin, (pickT a b).number⟩
end Go.Proofs
namespace Go.Proofs
open Go.AM
attribute [local irreducible] AM.evalR AM.evalD AM.Runs AM.valK AM.dK AM.opK AM.stepR AM.CallS AM.St.Le
def sum0 : Summary := ⟨[], [], [], ⟨0, 0, 0⟩, 0, 0, 0⟩
def ofTStep (p : Proposal) (s : Summary) (c : Change) : Summary :=
  if c.kind = 1 then { s with joined := insR s.joined c.server, weights := weighR s.weights ⟨c.server, c.weight, 0, p.admin, p.number⟩ }
  else if c.kind = 2 then { s with removed := insR s.removed c.server }
  else if c.kind = 3 then { s with weights := weighR s.weights ⟨c.server, c.weight, c.version, p.admin, p.number⟩ }
  else if c.kind = 4 then { s with rule := c.rule, version := c.version, admin := p.admin, number := p.number }
  else s
def ofT (p : Proposal) : Summary := p.changes.foldl (ofTStep p) sum0
end Go.Proofs
namespace Go.Proofs
open Go.AM
attribute [local irreducible] AM.evalR AM.evalD AM.Runs AM.valK AM.dK AM.opK AM.stepR AM.CallS AM.St.Le
def sumTStep (s : Summary) (p : Proposal) : Summary := joinT s (ofT p)
def sumT (g : View) (c : Config) : Summary := c.foldl sumTStep (initS g)
theorem Short.mono {s : Summary} {m n : Nat} (h : Short s m) (hmn : m ≤ n) : Short s n := ⟨Nat.le_trans h.1 hmn, Nat.le_trans h.2.1 hmn, Nat.le_trans h.2.2 hmn⟩
def vAccT (R : List Int) (W : List WeightEntry) (l : List Int) : List Member := (l.filter fun x => !R.any fun y => decide (y = x)).map fun x => ⟨x, weightR W x⟩
def viewT (s : Summary) : View := ⟨vAccT s.removed s.weights s.joined, viewRule s.rule⟩
end Go.Proofs
namespace Go.Proofs
open Go.AM
attribute [local irreducible] AM.evalR AM.evalD AM.Runs AM.valK AM.dK AM.opK AM.stepR AM.CallS AM.St.Le
def cntR (c : Config) (a : Int) : Int := countR (vectorR c) a
def vec3 (i j k : Int) : Vector := withR (withR (withR [] 201 i) 202 j) 203 k
def allK (a b : Config) (i j : Int) : List Config := (upto (cntR a 203) (cntR b 203)).map fun k => restrictR b (vec3 i j k)
def allJ (a b : Config) (i : Int) : List Config := (upto (cntR a 202) (cntR b 202)).flatMap fun j => allK a b i j
def allR (a b : Config) : List Config := if containsR b a then (upto (cntR a 201) (cntR b 201)).flatMap fun i => allJ a b i else []
end Go.Proofs
namespace Go.Proofs
open Go.AM
attribute [local irreducible] AM.evalR AM.evalD AM.Runs AM.valK AM.dK AM.opK AM.stepR AM.CallS AM.St.Le
end Go.Proofs
namespace Go.Proofs
open Go.AM
attribute [local irreducible] AM.evalR AM.evalD AM.Runs AM.valK AM.dK AM.opK AM.stepR AM.CallS AM.St.Le
def blk (f : Nat → Nat → Proposal) (a n : Nat) : Config := (List.range n).map (f a)
def cut (f : Nat → Nat → Proposal) (i j k : Nat) : Config := blk f 0 i ++ blk f 1 j ++ blk f 2 k
def Nice (f : Nat → Nat → Proposal) : Prop := ∀ a i, (f a i).admin = 201 + a ∧ (f a i).number = i + 1
def IsCut (f : Nat → Nat → Proposal) (c : Config) : Prop := ∃ i j k, (i < 4 ∧ j < 4 ∧ k < 4) ∧ c = cut f i j k
def key (p : Proposal) : Proposal := ⟨p.admin, p.number, []⟩
def f0 (a i : Nat) : Proposal := ⟨201 + a, i + 1, []⟩
theorem key_nice {f : Nat → Nat → Proposal} (hf : Nice f) (a i : Nat) : key (f a i) = f0 a i := by
  unfold key f0; rw [(hf a i).1, (hf a i).2]
theorem cut_key {f : Nat → Nat → Proposal} (hf : Nice f) (i j k : Nat) : (cut f i j k).map key = cut f0 i j k := by
  simp only [cut, blk, List.map_append, List.map_map]
  congr 1
  · congr 1 <;> exact List.map_congr_left fun n _ => key_nice hf _ n
  · exact List.map_congr_left fun n _ => key_nice hf _ n
theorem vectorV_key (c : Config) : vectorV (c.map key) = vectorV c := by
  unfold vectorV; rw [List.foldl_map]; rfl
theorem vectorR_key (c : Config) : vectorR (c.map key) = vectorR c := by
  unfold vectorR; rw [List.foldl_map]; rfl
def vecC (i j k : Nat) : Vector := (if 0 < i then [⟨201, i⟩] else []) ++ (if 0 < j then [⟨202, j⟩] else []) ++ (if 0 < k then [⟨203, k⟩] else [])
theorem vec_fin : ∀ i j k : Fin 4, vectorV (cut f0 i j k) = vecC i j k ∧ vectorR (cut f0 i j k) = vecC i j k ∧ vec3 (i : Nat) (j : Nat) (k : Nat) = vecC i j k ∧ (getV (vecC i j k) 201 = (i : Nat) ∧ getV (vecC i j k) 202 = (j : Nat) ∧ getV (vecC i j k) 203 = (k : Nat)) ∧ countR (vecC i j k) 201 = (i : Nat) ∧ countR (vecC i j k) 202 = (j : Nat) ∧ countR (vecC i j k) 203 = (k : Nat) := by decide +kernel
theorem vec_cut {f : Nat → Nat → Proposal} (hf : Nice f) {i j k : Nat} (h : i < 4 ∧ j < 4 ∧ k < 4) : vectorV (cut f i j k) = vecC i j k ∧ vectorR (cut f i j k) = vecC i j k := by
  rw [← vectorV_key, ← vectorR_key, cut_key hf]
  have := vec_fin ⟨i, h.1⟩ ⟨j, h.2.1⟩ ⟨k, h.2.2⟩
  exact ⟨this.1, this.2.1⟩
theorem mem_upto {a b x : Int} : x ∈ upto a b ↔ a ≤ x ∧ x ≤ b := by
  unfold upto
  rw [List.mem_map]
  constructor
  · rintro ⟨n, hn, rfl⟩; rw [List.mem_range] at hn; omega
  · intro h; exact ⟨(x - a).toNat, by rw [List.mem_range]; omega, by omega⟩
theorem fine_fin : ∀ i j k : Fin 4, Fine (vecC i j k) := by unfold Fine; decide +kernel
theorem IsCut.fine {f : Nat → Nat → Proposal} (hf : Nice f) {c : Config} (hc : IsCut f c) : Fine (vectorV c) := by
  obtain ⟨i, j, k, h, rfl⟩ := hc
  rw [(vec_cut hf h).1]
  exact fine_fin ⟨i, h.1⟩ ⟨j, h.2.1⟩ ⟨k, h.2.2⟩
theorem count_vecC (i j k : Nat) (h : i < 4 ∧ j < 4 ∧ k < 4) (t : Int) : countR (vecC i j k) t ≤ 3 := by
  unfold vecC
  split <;> split <;> split <;> simp only [List.nil_append, List.cons_append, countR] <;> (repeat' split) <;> omega
theorem IsCut.cnt {f : Nat → Nat → Proposal} (hf : Nice f) {c : Config} (hc : IsCut f c) (t : Int) : cntR c t ≤ 3 := by
  obtain ⟨i, j, k, h, rfl⟩ := hc
  unfold cntR
  rw [(vec_cut hf h).2]
  exact count_vecC i j k h t
end Go.Proofs
namespace Go.Proofs
open Go.AM
attribute [local irreducible] AM.evalR AM.evalD AM.Runs AM.valK AM.dK AM.opK AM.stepR AM.CallS AM.St.Le
end Go.Proofs
namespace Go.Proofs
open Go.AM
attribute [local irreducible] AM.evalR AM.evalD AM.Runs AM.valK AM.dK AM.opK AM.stepR AM.CallS AM.St.Le
end Go.Proofs
namespace Go.Proofs
open Go.AM
attribute [local irreducible] AM.evalR AM.evalD AM.Runs AM.valK AM.dK AM.opK AM.stepR AM.CallS AM.St.Le
end Go.Proofs
namespace Go.Proofs
open Go.AM
attribute [local irreducible] AM.evalR AM.evalD AM.Runs AM.valK AM.dK AM.opK AM.stepR AM.CallS AM.St.Le
def RuleOK (r : Rule) : Prop := (1 ≤ r.kind ∧ r.kind ≤ 4) ∧ (r.kind = 3 → 1 ≤ r.columns ∧ r.columns ≤ 12) ∧ (r.kind ≠ 3 → r.columns = 0) ∧ (r.kind = 4 → 0 ≤ r.faulty ∧ r.faulty ≤ 12) ∧ (r.kind ≠ 4 → r.faulty = 0)
def ChangeOK (c : Change) : Prop := (c.kind = 1 ∧ (1 ≤ c.server ∧ c.server ≤ 12) ∧ (1 ≤ c.weight ∧ c.weight ≤ 9) ∧ c.version = 0 ∧ c.rule = ⟨0, 0, 0⟩) ∨ (c.kind = 2 ∧ (1 ≤ c.server ∧ c.server ≤ 12) ∧ c.weight = 0 ∧ c.version = 0 ∧ c.rule = ⟨0, 0, 0⟩) ∨
  (c.kind = 3 ∧ (1 ≤ c.server ∧ c.server ≤ 12) ∧ (1 ≤ c.weight ∧ c.weight ≤ 9) ∧ (1 ≤ c.version ∧ c.version ≤ 1000) ∧ c.rule = ⟨0, 0, 0⟩) ∨ (c.kind = 4 ∧ c.server = 0 ∧ c.weight = 0 ∧ (1 ≤ c.version ∧ c.version ≤ 1000) ∧ RuleOK c.rule)
def PropOK (p : Proposal) : Prop := (201 ≤ p.admin ∧ p.admin < 204) ∧ (1 ≤ p.number ∧ p.number ≤ 3) ∧ (1 ≤ p.changes.length ∧ p.changes.length ≤ 6) ∧ (∀ c ∈ p.changes, ChangeOK c) ∧
  ∀ i k : Nat, k < i → i < p.changes.length → ¬ ((p.changes.getD k default).kind = (p.changes.getD i default).kind ∧ (p.changes.getD k default).server = (p.changes.getD i default).server)
def ConfOK (c : Config) : Prop := (∀ p ∈ c, PropOK p) ∧ (∀ i : Nat, 0 < i → i < c.length → cmpP (c.getD (i - 1) default) (c.getD i default) < 0) ∧
  ∀ i : Nat, i < c.length → 1 < (c.getD i default).number → 0 < i ∧ (c.getD (i - 1) default).admin = (c.getD i default).admin ∧ (c.getD (i - 1) default).number = (c.getD i default).number - 1
theorem val_Server (n : Int) : AM.Fn Try.prog 52 [.i n] (.b (decide (1 ≤ n ∧ n ≤ 12))) := by
  (refine spec_of_runs Try.func52 rfl ?_; simp only [Try.f52]; refine ys ?_)
  repeat' (first | refine yw ?_ | ((with_reducible refine Runs.is ?_); first | refine Runs.region ?_ | ((with_reducible refine Runs.isC ?_); refine Runs.cond rfl (zc ?_) (zc ?_) <;> intro hc <;> (try (first | contradiction | (exfalso; omega; done) | (have : hc = trivial := rfl; clear this; clear hc))))) | ((with_reducible refine r_is ?_); first | refine yr ?_ | ((with_reducible refine r_gd ?_); (first | refine r_guardPt rfl rfl ?_ ?_ | refine r_guardNt rfl rfl ?_ ?_ | refine r_guard rfl rfl ?_ ?_) <;> intro hG <;> (try (exfalso; omega; done)) <;> refine r_nn zN zH ?_)) | fail)
  all_goals ((refine Runs.ret1 Try.func52 rfl zM zD ?_; try exact zX))
  all_goals (first | (refine V.Le.of_eq (congrArg V.b (decide_eq_decide.2 ?_)); omega) | (refine V.Le.of_eq (congrArg V.b (decide_eq_false ?_).symm); omega))
end Go.Proofs
namespace Go.Proofs
open Go.AM
attribute [local irreducible] AM.evalR AM.evalD AM.Runs AM.valK AM.dK AM.opK AM.stepR AM.CallS AM.St.Le
end Go.Proofs
namespace Go.Proofs
open Go.AM
attribute [local irreducible] AM.evalR AM.evalD AM.Runs AM.valK AM.dK AM.opK AM.stepR AM.CallS AM.St.Le
theorem getD_in {α : Type} [Inhabited α] {l : List α} {i : Nat} (h : i < l.length) : l.getD i default ∈ l := by
  rw [List.getD_eq_getElem?_getD, List.getElem?_eq_getElem h]; exact List.getElem_mem h
end Go.Proofs
namespace Go.Proofs
open Go.AM
attribute [local irreducible] AM.evalR AM.evalD AM.Runs AM.valK AM.dK AM.opK AM.stepR AM.CallS AM.St.Le
end Go.Proofs
namespace Go.Proofs
open Go.AM
attribute [local irreducible] AM.evalR AM.evalD AM.Runs AM.valK AM.dK AM.opK AM.stepR AM.CallS AM.St.Le
end Go.Proofs
namespace Go.Proofs
open Go.AM
attribute [local irreducible] AM.evalR AM.evalD AM.Runs AM.valK AM.dK AM.opK AM.stepR AM.CallS AM.St.Le
theorem strict_ext : ∀ {a b : List Int}, a.Pairwise (· < ·) → b.Pairwise (· < ·) → (∀ x, x ∈ a ↔ x ∈ b) → a = b
  | [], [], _, _, _ => rfl
  | [], y :: b, _, _, h => absurd ((h y).2 (by simp)) (by simp)
  | x :: a, [], _, _, h => absurd ((h x).1 (by simp)) (by simp)
  | x :: a, y :: b, ha, hb, h => by
    rw [List.pairwise_cons] at ha hb
    have hxy : x = y := by
      rcases List.mem_cons.1 ((h x).1 (by simp)) with e | e
      · exact e
      · rcases List.mem_cons.1 ((h y).2 (by simp)) with e' | e'
        · exact e'.symm
        · have := hb.1 _ e; have := ha.1 _ e'; omega
    subst hxy
    congr 1
    refine strict_ext ha.2 hb.2 fun z => ⟨fun hz => ?_, fun hz => ?_⟩
    · rcases List.mem_cons.1 ((h z).1 (by simp [hz])) with e | e
      · have := ha.1 _ hz; omega
      · exact e
    · rcases List.mem_cons.1 ((h z).2 (by simp [hz])) with e | e
      · have := hb.1 _ hz; omega
      · exact e
theorem sortI_le (zs : List Int) : (sortI zs).Pairwise (· ≤ ·) := by
  have := List.pairwise_mergeSort (le := fun a b : Int => decide (a ≤ b)) (fun a b c h1 h2 => by simp at *; omega) (fun a b => by simp; omega) zs
  exact List.Pairwise.imp (fun h => by simpa using h) this
theorem mem_sortI {zs : List Int} {x : Int} : x ∈ sortI zs ↔ x ∈ zs := List.mem_mergeSort
end Go.Proofs
namespace Go.Proofs
open Go.AM
attribute [local irreducible] AM.evalR AM.evalD AM.Runs AM.valK AM.dK AM.opK AM.stepR AM.CallS AM.St.Le
theorem bs_spec (k : Nat → Int) (i j : Nat) (hij : i ≤ j) (hm : ∀ s t, i ≤ s → s ≤ t → t < j → k t < 0 → k s < 0) :
    (i ≤ bs k i j ∧ bs k i j ≤ j) ∧ (∀ t, i ≤ t → t < bs k i j → k t < 0) ∧ ∀ t, bs k i j ≤ t → t < j → ¬ k t < 0 := by
  by_cases h : i < j
  · rw [bs.eq_1, dif_pos h]
    by_cases h2 : k ((i + j) / 2) < 0
    · rw [if_pos h2]
      obtain ⟨⟨a1, a2⟩, a3, a4⟩ := bs_spec k ((i + j) / 2 + 1) j zo (fun s t h1 h3 h4 => hm s t zo h3 h4)
      refine ⟨⟨by omega, a2⟩, fun t h5 h6 => ?_, a4⟩
      by_cases h7 : t ≤ (i + j) / 2
      · exact hm t _ h5 h7 zo h2
      · exact a3 t zo h6
    · rw [if_neg h2]
      obtain ⟨⟨a1, a2⟩, a3, a4⟩ := bs_spec k i ((i + j) / 2) zo (fun s t h1 h3 h4 => hm s t h1 h3 zo)
      refine ⟨⟨a1, by omega⟩, a3, fun t h5 h6 => ?_⟩
      by_cases h7 : t < (i + j) / 2
      · exact a4 t h5 h7
      · intro h8
        exact h2 (hm _ t zo zo h6 h8)
  · rw [bs.eq_1, dif_neg h]
    exact ⟨⟨Nat.le_refl _, hij⟩, fun t h1 h2 => by omega, fun t h1 h2 => by omega⟩
termination_by j - i
abbrev StrictI (l : List Int) : Prop := l.Pairwise (· < ·)
def insRec (n : Int) : List Int → List Int
  | [] => [n]
  | y :: ys => if y = n then y :: ys else if n < y then n :: y :: ys else y :: insRec n ys
theorem mem_insRec (n x : Int) : ∀ l, x ∈ insRec n l ↔ x ∈ l ∨ x = n
  | [] => by simp [insRec]
  | y :: ys => by
    rw [insRec]
    split
    · rename_i h; subst h; simp; intro h; exact .inl h
    · split
      · simp [or_comm]
      · rw [List.mem_cons, mem_insRec n x ys, List.mem_cons, or_assoc]
theorem insRec_strict (n : Int) : ∀ {l : List Int}, StrictI l → StrictI (insRec n l)
  | [], _ => by simp [insRec]
  | y :: ys, h => by
    replace h := List.pairwise_cons.1 h
    rw [insRec]
    split
    · exact List.pairwise_cons.2 h
    · split
      · refine List.pairwise_cons.2 ⟨fun z hz => ?_, List.pairwise_cons.2 h⟩
        rcases List.mem_cons.1 hz with rfl | hz
        · assumption
        · have := h.1 z hz; omega
      · refine List.pairwise_cons.2 ⟨fun z hz => ?_, insRec_strict n h.2⟩
        rcases (mem_insRec n z ys).1 hz with hz | rfl
        · exact h.1 z hz
        · omega
theorem insFold_put (n : Int) : ∀ (l acc : List Int), (∀ x ∈ l, x ≠ n) → l.foldl (insStep n) (acc, true) = (acc ++ l, true)
  | [], acc, _ => by simp
  | y :: ys, acc, h => by
    rw [List.foldl_cons, insStep_d (h y (by simp)), insFold_put n ys _ (fun x hx => h x (by simp [hx]))]
    simp
theorem insFold_rec (n : Int) : ∀ (l acc : List Int), StrictI l → (let s := l.foldl (insStep n) (acc, false); if s.2 = false then s.1 ++ [n] else s.1) = acc ++ insRec n l
  | [], acc, _ => by simp [insRec]
  | y :: ys, acc, h => by
    replace h := List.pairwise_cons.1 h
    rw [List.foldl_cons, insRec]
    by_cases e : y = n
    · rw [insStep_b zo e, if_pos e, insFold_put n ys _ (fun x hx => by have := h.1 x hx; omega)]
      simp [e]
    · by_cases g : n < y
      · rw [insStep_a zo e, if_neg e, if_pos g, insFold_put n ys _ (fun x hx => by have := h.1 x hx; omega)]
        simp
      · rw [insStep_c zo e, if_neg e, if_neg g, insFold_rec n ys _ h.2]
        simp
theorem insR_rec {l : List Int} (h : StrictI l) (n : Int) : insR l n = insRec n l := by
  have := insFold_rec n l [] h
  simpa [insR] using this
theorem insRec_append (n : Int) : ∀ (a b : List Int), (∀ x ∈ a, x < n) → insRec n (a ++ b) = a ++ insRec n b
  | [], b, _ => rfl
  | y :: a, b, h => by
    have := h y (by simp)
    rw [List.cons_append, insRec, if_neg zo, if_neg zo, insRec_append n a b (fun x hx => h x (by simp [hx]))]
    rfl
theorem strict_getD {l : List Int} (h : StrictI l) {i j : Nat} (hij : i < j) (hj : j < l.length) : l.getD i default < l.getD j default := by
  have := (List.pairwise_iff_getElem.1 h) i j zo hj hij
  rw [List.getD_eq_getElem?_getD, List.getD_eq_getElem?_getD, List.getElem?_eq_getElem hj, List.getElem?_eq_getElem (show i < l.length by omega)]
  exact this
theorem mem_take_getD {α : Type} [Inhabited α] {l : List α} {r : Nat} {x : α} (h : x ∈ l.take r) : ∃ t, t < r ∧ t < l.length ∧ l.getD t default = x := by
  obtain ⟨t, ht, e⟩ := List.mem_iff_getElem.1 h
  rw [List.length_take] at ht
  refine ⟨t, by omega, by omega, ?_⟩
  rw [List.getElem_take] at e
  rw [List.getD_eq_getElem?_getD, List.getElem?_eq_getElem zo]; exact e
theorem insI_rec {l : List Int} (h : StrictI l) (n : Int) : insI l n = insRec n l := by
  have hs := bs_spec (ltK l n) 0 l.length (Nat.zero_le _) (fun s t _ hst ht hk => by
    rw [ltK_neg] at hk ⊢
    by_cases e : s = t
    · subst e; exact hk
    · have := strict_getD h (show s < t by omega) ht; omega)
  change (0 ≤ bsI l n ∧ bsI l n ≤ l.length) ∧ (∀ t, 0 ≤ t → t < bsI l n → ltK l n t < 0) ∧ (∀ t, bsI l n ≤ t → t < l.length → ¬ ltK l n t < 0) at hs
  obtain ⟨⟨_, h1⟩, h2, h3⟩ := hs
  unfold insI foundI putI
  generalize bsI l n = r at *
  have ha : ∀ x ∈ l.take r, x < n := by
    intro x hx
    obtain ⟨t, ht, _, rfl⟩ := mem_take_getD hx
    exact ltK_neg.1 (h2 t (Nat.zero_le _) ht)
  have key : insRec n l = l.take r ++ insRec n (l.drop r) := by rw [← insRec_append n _ _ ha, List.take_append_drop]
  rw [key]
  by_cases hr : r < l.length
  · have h4 := h3 r (Nat.le_refl _) hr
    rw [ltK_neg] at h4
    rw [drop_getD hr, insRec]
    by_cases e : l.getD r default = n
    · rw [decide_eq_true ⟨hr, e⟩, if_pos rfl, if_pos e, ← drop_getD hr, List.take_append_drop]
    · rw [decide_eq_false (fun q => e q.2), if_neg zd, if_neg e, if_pos zo]
  · rw [decide_eq_false (fun q => hr q.1), if_neg zd, List.drop_of_length_le zo, insRec]
theorem insFoldl {f g : List Int → Int → List Int} (hf : ∀ l n, StrictI l → f l n = insRec n l) (hg : ∀ l n, StrictI l → g l n = insRec n l) : ∀ (b : List Int) {a : List Int}, StrictI a → b.foldl f a = b.foldl g a ∧ StrictI (b.foldl g a)
  | [], a, h => ⟨rfl, h⟩
  | n :: b, a, h => by
    have h2 := insRec_strict n h
    rw [List.foldl_cons, List.foldl_cons, hf a n h, hg a n h]
    exact insFoldl hf hg b h2
theorem unionI_R {a : List Int} (h : StrictI a) (b : List Int) : unionI a b = b.foldl insR a ∧ StrictI (b.foldl insR a) := insFoldl (fun l n h => insI_rec h n) (fun l n h => insR_rec h n) b h
abbrev StrictW (l : List WeightEntry) : Prop := l.Pairwise (fun a b => a.server < b.server)
def weighRec (w : WeightEntry) : List WeightEntry → List WeightEntry
  | [] => [w]
  | y :: ys => if y.server = w.server then (if laterB w y = true then w else y) :: ys else if w.server < y.server then w :: y :: ys else y :: weighRec w ys
theorem mem_weighRec (w x : WeightEntry) : ∀ l, x ∈ weighRec w l → x ∈ l ∨ x = w
  | [] => by simp [weighRec]
  | y :: ys => by
    rw [weighRec]
    intro h
    split at h
    · split at h
      · rcases List.mem_cons.1 h with h | h
        · exact .inr h
        · exact .inl (by simp [h])
      · exact .inl h
    · split at h
      · rcases List.mem_cons.1 h with h | h
        · exact .inr h
        · exact .inl h
      · rcases List.mem_cons.1 h with h | h
        · exact .inl (by simp [h])
        · rcases mem_weighRec w x ys h with h | h
          · exact .inl (by simp [h])
          · exact .inr h
theorem weighRec_strict (w : WeightEntry) : ∀ {l : List WeightEntry}, StrictW l → StrictW (weighRec w l)
  | [], _ => by simp [weighRec]
  | y :: ys, h => by
    replace h := List.pairwise_cons.1 h
    rw [weighRec]
    split
    · rename_i e
      split
      · exact List.pairwise_cons.2 ⟨fun z hz => by have := h.1 z hz; omega, h.2⟩
      · exact List.pairwise_cons.2 h
    · split
      · refine List.pairwise_cons.2 ⟨fun z hz => ?_, List.pairwise_cons.2 h⟩
        rcases List.mem_cons.1 hz with rfl | hz
        · assumption
        · have := h.1 z hz; omega
      · refine List.pairwise_cons.2 ⟨fun z hz => ?_, weighRec_strict w h.2⟩
        rcases mem_weighRec w z ys hz with hz | rfl
        · exact h.1 z hz
        · omega
theorem weighFold_put (w : WeightEntry) : ∀ (l acc : List WeightEntry), (∀ x ∈ l, x.server ≠ w.server) → l.foldl (weighStep w) (acc, true) = (acc ++ l, true)
  | [], acc, _ => by simp
  | y :: ys, acc, h => by
    rw [List.foldl_cons, weighStep_e (h y (by simp)), weighFold_put w ys _ (fun x hx => h x (by simp [hx]))]
    simp
theorem weighFold_rec (w : WeightEntry) : ∀ (l acc : List WeightEntry), StrictW l → (let s := l.foldl (weighStep w) (acc, false); if s.2 = false then s.1 ++ [w] else s.1) = acc ++ weighRec w l
  | [], acc, _ => by simp [weighRec]
  | y :: ys, acc, h => by
    replace h := List.pairwise_cons.1 h
    rw [List.foldl_cons, weighRec]
    by_cases e : y.server = w.server
    · cases hl : laterB w y
      · rw [weighStep_b e hl, if_pos e, weighFold_put w ys _ (fun x hx => by have := h.1 x hx; omega)]
        simp
      · rw [weighStep_a e hl, if_pos e, weighFold_put w ys _ (fun x hx => by have := h.1 x hx; omega)]
        simp
    · by_cases g : w.server < y.server
      · rw [weighStep_c e g, if_neg e, if_pos g, weighFold_put w ys _ (fun x hx => by have := h.1 x hx; omega)]
        simp
      · rw [weighStep_d e g, if_neg e, if_neg g, weighFold_rec w ys _ h.2]
        simp
theorem weighR_rec {l : List WeightEntry} (h : StrictW l) (w : WeightEntry) : weighR l w = weighRec w l := by
  have := weighFold_rec w l [] h
  simpa [weighR] using this
theorem weighRec_append (w : WeightEntry) : ∀ (a b : List WeightEntry), (∀ x ∈ a, x.server < w.server) → weighRec w (a ++ b) = a ++ weighRec w b
  | [], b, _ => rfl
  | y :: a, b, h => by
    have := h y (by simp)
    rw [List.cons_append, weighRec, if_neg zo, if_neg zo, weighRec_append w a b (fun x hx => h x (by simp [hx]))]
    rfl
theorem newer_later (a b : WeightEntry) : newerW a b = laterB b a := by
  unfold newerW laterB
  rw [Bool.eq_iff_iff]
  simp only [orI, cmpI]
  (repeat' split) <;> simp <;> omega
theorem strictW_getD {l : List WeightEntry} (h : StrictW l) {i j : Nat} (hij : i < j) (hj : j < l.length) : (l.getD i default).server < (l.getD j default).server := by
  have := (List.pairwise_iff_getElem.1 h) i j zo hj hij
  rw [List.getD_eq_getElem?_getD, List.getD_eq_getElem?_getD, List.getElem?_eq_getElem hj, List.getElem?_eq_getElem (show i < l.length by omega)]
  exact this
theorem weK_neg {l : List WeightEntry} {w : WeightEntry} {t : Nat} : weK l w t < 0 ↔ (l.getD t default).server < w.server := by unfold weK cmpI; (repeat' split) <;> omega
theorem cmpI_zero {x y : Int} : cmpI x y = 0 ↔ x = y := by unfold cmpI; (repeat' split) <;> omega
theorem insW_rec {l : List WeightEntry} (h : StrictW l) (w : WeightEntry) : insW l w = weighRec w l := by
  have hs := bs_spec (weK l w) 0 l.length (Nat.zero_le _) (fun s t _ hst ht hk => by
    rw [weK_neg] at hk ⊢
    by_cases e : s = t
    · subst e; exact hk
    · have := strictW_getD h (show s < t by omega) ht; omega)
  change (0 ≤ bsW l w ∧ bsW l w ≤ l.length) ∧ (∀ t, 0 ≤ t → t < bsW l w → weK l w t < 0) ∧ (∀ t, bsW l w ≤ t → t < l.length → ¬ weK l w t < 0) at hs
  obtain ⟨⟨_, h1⟩, h2, h3⟩ := hs
  unfold insW foundW putW
  generalize bsW l w = r at *
  have ha : ∀ x ∈ l.take r, x.server < w.server := by
    intro x hx
    obtain ⟨t, ht, _, rfl⟩ := mem_take_getD hx
    exact weK_neg.1 (h2 t (Nat.zero_le _) ht)
  have key : weighRec w l = l.take r ++ weighRec w (l.drop r) := by rw [← weighRec_append w _ _ ha, List.take_append_drop]
  rw [key]
  by_cases hr : r < l.length
  · have h4 := h3 r (Nat.le_refl _) hr
    rw [weK_neg] at h4
    by_cases e : (l.getD r default).server = w.server
    · rw [decide_eq_true ⟨hr, cmpI_zero.2 e⟩, if_pos rfl, newer_later]
      cases hl : laterB w (l.getD r default)
      · rw [if_neg zd, drop_getD hr, weighRec, if_pos e, hl, if_neg zd, ← drop_getD hr, List.take_append_drop]
      · rw [if_pos rfl, drop_getD hr, weighRec, if_pos e, hl, if_pos rfl]
        rw [List.set_eq_take_append_cons_drop, if_pos hr]
    · rw [decide_eq_false (fun q => e (cmpI_zero.1 q.2)), if_neg zd, drop_getD hr, weighRec, if_neg e, if_pos zo]
  · rw [decide_eq_false (fun q => hr q.1), if_neg zd, List.drop_of_length_le zo, weighRec]
theorem weighFoldl {f g : List WeightEntry → WeightEntry → List WeightEntry} (hf : ∀ l n, StrictW l → f l n = weighRec n l) (hg : ∀ l n, StrictW l → g l n = weighRec n l) : ∀ (b : List WeightEntry) {a : List WeightEntry}, StrictW a → b.foldl f a = b.foldl g a ∧ StrictW (b.foldl g a)
  | [], a, h => ⟨rfl, h⟩
  | n :: b, a, h => by
    have h2 := weighRec_strict n h
    rw [List.foldl_cons, List.foldl_cons, hf a n h, hg a n h]
    exact weighFoldl hf hg b h2
theorem weightsI_R {a : List WeightEntry} (h : StrictW a) (b : List WeightEntry) : weightsI a b = b.foldl weighR a ∧ StrictW (b.foldl weighR a) := weighFoldl (fun l n h => insW_rec h n) (fun l n h => weighR_rec h n) b h
def SortedS (s : Summary) : Prop := StrictI s.joined ∧ StrictI s.removed ∧ StrictW s.weights
theorem joinS_T {a : Summary} (h : SortedS a) (b : Summary) : joinS a b = joinT a b ∧ SortedS (joinT a b) := by
  obtain ⟨h1, h2, h3⟩ := h
  have e1 := unionI_R h1 b.joined
  have e2 := unionI_R h2 b.removed
  have e3 := weightsI_R h3 b.weights
  refine ⟨?_, e1.2, e2.2, e3.2⟩
  have e4 : joinR a b = pickT a b := by unfold joinR pickT; rw [newer_later]
  unfold joinS joinT
  rw [e1.1, e2.1, e3.1, e4]
def lk (l : List WeightEntry) (x : Int) : Option WeightEntry := l.find? fun w => decide (w.server = x)
theorem lk_cons (w : WeightEntry) (l : List WeightEntry) (x : Int) : lk (w :: l) x = if w.server = x then some w else lk l x := by
  unfold lk
  by_cases h : w.server = x <;> simp [h]
theorem lk_none {l : List WeightEntry} {x : Int} (h : ∀ w ∈ l, w.server ≠ x) : lk l x = none := by
  unfold lk
  rw [List.find?_eq_none]
  intro w hw; simp; exact h w hw
theorem lk_weigh (w : WeightEntry) (x : Int) : ∀ {l : List WeightEntry}, StrictW l → lk (weighRec w l) x = if w.server = x then (match lk l x with | none => some w | some o => some (if laterB w o = true then w else o)) else lk l x
  | [], _ => by simp [weighRec, lk_cons, lk]
  | y :: ys, h => by
    replace h := List.pairwise_cons.1 h
    rw [weighRec]
    by_cases e : y.server = w.server
    · rw [if_pos e]
      by_cases ex : w.server = x
      · have e2 : y.server = x := e.trans ex
        rw [lk_cons y, if_pos e2, if_pos ex]
        cases hl : laterB w y <;> simp [lk_cons, ex, e2, hl]
      · have e2 : ¬ y.server = x := fun q => ex (e ▸ q)
        rw [if_neg ex, lk_cons y, if_neg e2]
        cases hl : laterB w y <;> simp [lk_cons, ex, e2, hl]
    · rw [if_neg e]
      by_cases g : w.server < y.server
      · rw [if_pos g, lk_cons w]
        by_cases ex : w.server = x
        · have hn : lk (y :: ys) x = none := lk_none (by
            intro z hz
            rcases List.mem_cons.1 hz with rfl | hz
            · omega
            · have := h.1 z hz; omega)
          rw [if_pos ex, if_pos ex, hn]
        · rw [if_neg ex, if_neg ex]
      · rw [if_neg g, lk_cons y, lk_cons y, lk_weigh w x h.2]
        by_cases ey : y.server = x
        · rw [if_pos ey, if_pos ey, if_neg (fun q => e zo)]
        · rw [if_neg ey, if_neg ey]
theorem strictW_ext : ∀ {a b : List WeightEntry}, StrictW a → StrictW b → (∀ x, lk a x = lk b x) → a = b
  | [], [], _, _, _ => rfl
  | [], y :: b, _, _, h => by have := h y.server; rw [lk_cons, if_pos rfl] at this; cases this
  | x :: a, [], _, _, h => by have := h x.server; rw [lk_cons, if_pos rfl] at this; cases this
  | x :: a, y :: b, ha, hb, h => by
    replace ha := List.pairwise_cons.1 ha
    replace hb := List.pairwise_cons.1 hb
    have hs : x.server = y.server := by
      rcases Int.lt_trichotomy x.server y.server with e | e | e
      · have h1 := h x.server
        rw [lk_cons, if_pos rfl, lk_none (l := y :: b)] at h1
        · cases h1
        · intro z hz
          rcases List.mem_cons.1 hz with rfl | hz
          · omega
          · have := hb.1 z hz; omega
      · exact e
      · have h1 := h y.server
        rw [lk_cons y, if_pos rfl, lk_none (l := x :: a)] at h1
        · cases h1
        · intro z hz
          rcases List.mem_cons.1 hz with rfl | hz
          · omega
          · have := ha.1 z hz; omega
    have hxy : x = y := by
      have h1 := h x.server
      rw [lk_cons, if_pos rfl, lk_cons, if_pos hs.symm] at h1
      exact Option.some.inj h1
    subst hxy
    congr 1
    refine strictW_ext ha.2 hb.2 fun z => ?_
    by_cases e : x.server = z
    · rw [lk_none (l := a) (fun w hw => by have := ha.1 w hw; omega), lk_none (l := b) (fun w hw => by have := hb.1 w hw; omega)]
    · have h1 := h z
      rw [lk_cons, if_neg e, lk_cons, if_neg e] at h1
      exact h1
theorem weightIn_none {l : List WeightEntry} {x : Int} (h : ∀ w ∈ l, w.server ≠ x) : ∀ n, weightIn l x n = n := by
  unfold weightIn
  induction l with
  | nil => intro n; rfl
  | cons w l ih => intro n; rw [List.foldl_cons, if_neg (h w (by simp)), ih (fun v hv => h v (by simp [hv]))]
theorem weightIn_R (x : Int) : ∀ {l : List WeightEntry}, StrictW l → weightIn l x 1 = weightR l x
  | [], _ => rfl
  | w :: l, h => by
    replace h := List.pairwise_cons.1 h
    rw [weightR]
    by_cases e : w.server = x
    · rw [if_pos e]
      have : weightIn (w :: l) x 1 = weightIn l x w.weight := by unfold weightIn; rw [List.foldl_cons, if_pos e]
      rw [this]
      exact weightIn_none (fun v hv => by have := h.1 v hv; omega) _
    · rw [if_neg e, ← weightIn_R x h.2]
      unfold weightIn; rw [List.foldl_cons, if_neg e]
theorem viewS_T {s : Summary} (h : StrictW s.weights) : viewS s = viewT s := by
  unfold viewS viewT viewMs vAccT
  congr 1
  have h1 : (fun x => !s.removed.contains x) = (fun x => !s.removed.any fun y => decide (y = x)) := by
    funext x
    congr 1
    rw [Bool.eq_iff_iff]
    simp
  rw [h1]
  refine List.map_congr_left fun x _ => ?_
  rw [weightIn_R x h]
end Go.Proofs
