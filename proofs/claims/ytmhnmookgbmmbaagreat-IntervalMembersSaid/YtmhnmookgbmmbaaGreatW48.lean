/- Package interval: Views, Span; slices.Grow, slices.Concat. -/
import Derived.Test.YtmhnmookgbmmbaaGreatW47
import Derived.Test.YtmhnmookgbmmbaaGreatW12
set_option linter.unusedVariables false
set_option linter.unusedSimpArgs false
set_option maxRecDepth 8000
set_option maxHeartbeats 4000000
set_option pp.deepTerms false
set_option pp.deepTerms.threshold 6
namespace Go.Proofs
open Go.AM
attribute [local irreducible] AM.evalR AM.evalD AM.Runs AM.valK AM.dK AM.opK AM.stepR AM.CallS AM.St.Le
def viewOf (g : View) (c : Config) : View := viewS (sumS g c)
theorem interval_Views (f h : Bool) (g : View) (a b : Config) (hA : AM.Fn Tryz.prog 11 [.sl f (a.map prV), .sl h (b.map prV)] (.sl false ((allB a b).map cfV))) (hn : (allB a b).length ≤ 100000) (hg : g.members.length ≤ 1000)
    (hc0 : ∀ c ∈ allB a b, c.length ≤ 100 ∧ ∀ p ∈ c, Plain p) : AM.Fn Tryz.prog 16 [viV g, .sl f (a.map prV), .sl h (b.map prV)] (.sl false (((allB a b).map (viewOf g)).map viV)) := by
  (refine spec_of_runs Tryz.func16 rfl ?_; simp only [Tryz.f16]; refine ys ?_)
  generalize allB a b = l at *
  repeat' (first | refine yw ?_ | ((with_reducible refine Runs.is ?_); first | refine Runs.region (id := 0) ?_ | refine Runs.region (id := 1) ?_ | refine Runs.region (id := 2) ?_ | ((with_reducible refine Runs.isC ?_); refine Runs.cond rfl (zc ?_) (zc ?_) <;> intro hc <;> (try (first | contradiction | (exfalso; omega; done) | (have : hc = trivial := rfl; clear this; clear hc))))) | ((with_reducible refine r_is ?_); first | refine yr ?_ | (refine r_fn rfl (hA) HbF.h zL2 zD ?_; refine r_nn zN zH ?_)) | fail)
  (refine Runs.weaken (St.Le.nil 7 41 4 7 zd rfl rfl zE) ?_)
  refine Runs.loopI (fun k : Nat => l.length - k) (fun k => k ≤ l.length)
    (fun k => ⟨[.any, .any, .any, .ptr 3 0 0, .any, .any, .any, .own 7, .any, .any, .any, .any, .sl false (l.map cfV), .i (l.length : Nat), .i (k : Nat), .any, .any, .any, .any, .any, .any, .any, .any, .any, .any, .any, .any], [(7, .lst 41 4 (((l.take k).map (viewOf g)).map viV)), (3, .var 35 (viV g))]⟩) 0 (by simp) ?_ ?_
  · (refine St.Le.clean zR zU zV)
  rintro k hk ih
  have htk := fun (h : k < l.length) => take_getD (xs := l) h
  have hl1 : ((l.take k).map (viewOf g)).length ≤ 100000 := by rw [List.length_map, List.length_take]; omega
  by_cases hlt : k < l.length
  · have hcc := hc0 (l.getD k default) (by rw [List.getD_eq_getElem?_getD, List.getElem?_eq_getElem hlt]; exact List.getElem_mem hlt)
    have htk2 := htk hlt
    have hS := member_Summarize false g (l.getD k default) hg hcc.1 hcc.2
    have hsh := sumS_short hg (l.getD k default) (fun p q => (hcc.2 p q).1)
    have hlen := hcc.1
    have hV := member_View (sumS g (l.getD k default)) (by have := hsh.1; omega) (by have := hsh.2.2; omega)
    have hm : (l.take (k + 1)).map (viewOf g) = (l.take k).map (viewOf g) ++ [viewS (sumS g (l.getD k default))] := by rw [htk2, List.map_append]; rfl
    repeat' (first | refine yw ?_ | ((with_reducible refine Runs.is ?_); first | refine Runs.region (id := 3) ?_ | refine Runs.region (id := 4) ?_ | refine Runs.region (id := 5) ?_ | ((with_reducible refine Runs.isC ?_); refine Runs.cond rfl (zc ?_) (zc ?_) <;> intro hc <;> (try (first | contradiction | (exfalso; omega; done) | (have : hc = trivial := rfl; clear this; clear hc))))) | ((with_reducible refine r_is ?_); first | refine yr ?_ | (refine r_fn rfl (hS) HbF.h zL2 zD ?_; refine r_nn zN zH ?_) | (refine r_fn rfl (hV) HbF.h zL1 zD ?_; refine r_nn zN zH ?_) | (refine r_append_full SlF.h SlF.s ZoF.h zd rfl rfl zC zJ zS rfl (fun hn => ?_) (fun hn => ?_) <;> refine r_nn zN zH ?_)) | fail)
    repeat' (first | refine yw ?_ | ((with_reducible refine Runs.is ?_); first | refine Runs.region (id := 6) ?_ | ((with_reducible refine Runs.isC ?_); refine Runs.cond rfl (zc ?_) (zc ?_) <;> intro hc <;> (try (first | contradiction | (exfalso; omega; done) | (have : hc = trivial := rfl; clear this; clear hc))))) | ((with_reducible refine r_is ?_); first | refine yr ?_) | fail)
    refine ih (k + 1) _ zo zo ?_
    rw [hm]
    (refine St.Le.clean zR zU zV)
  · repeat' (first | refine yw ?_ | ((with_reducible refine Runs.is ?_); first | refine Runs.region (id := 3) ?_ | ((with_reducible refine Runs.isC ?_); refine Runs.cond rfl (zc ?_) (zc ?_) <;> intro hc <;> (try (first | contradiction | (exfalso; omega; done) | (have : hc = trivial := rfl; clear this; clear hc))))) | ((with_reducible refine r_is ?_); first | refine yr ?_) | fail)
    rw [List.take_of_length_le zo]
    repeat' (first | refine yw ?_ | ((with_reducible refine Runs.is ?_); first | refine Runs.region (id := 7) ?_ | ((with_reducible refine Runs.isC ?_); refine Runs.cond rfl (zc ?_) (zc ?_) <;> intro hc <;> (try (first | contradiction | (exfalso; omega; done) | (have : hc = trivial := rfl; clear this; clear hc))))) | ((with_reducible refine r_is ?_); first | refine yr ?_) | fail)
    exact Runs.ret_frz Tryz.func16 rfl rfl rfl rfl
/-! slices.Grow, slices.Concat -/
theorem grow_nil (n : Nat) (hn : n ≤ 1000000000) : AM.Spec Tryz.prog 94 [.sc (.slice none 0 0), .i (n : Nat)] [] (OwnPost 3 1 fun l => l = ([] : List Int).map .i) := by
  (refine spec_of_runs Tryz.func94 rfl ?_; simp only [Tryz.f94]; refine ys ?_)
  repeat' (first | refine yw ?_ | ((with_reducible refine Runs.is ?_); first | refine Runs.region ?_ | ((with_reducible refine Runs.isC ?_); refine Runs.cond rfl (zc ?_) (zc ?_) <;> intro hc <;> (try (first | contradiction | (exfalso; omega; done) | (have : hc = trivial := rfl; clear this; clear hc))))) | ((with_reducible refine r_is ?_); first | refine yr ?_ | (refine r_append_full SlF.h SlF.s ZoF.h zd rfl rfl zC zJ zS rfl (fun hn => ?_) (fun hn => ?_) <;> refine r_nn zN zH ?_)) | fail)
  · exact Runs.ret_own Tryz.func94 rfl rfl rfl (by simp)
  · exact Runs.ret_nil Tryz.func94 rfl rfl zd rfl rfl
theorem sum_take (ls : List (List Int)) (k : Nat) (h : k < ls.length) : ((ls.take (k + 1)).map List.length).sum = ((ls.take k).map List.length).sum + (ls.getD k default).length := by
  rw [take_getD h, List.map_append, List.sum_append]; simp
theorem sum_take_le (ls : List (List Int)) (k : Nat) : ((ls.take k).map List.length).sum ≤ (ls.map List.length).sum := by
  have h : ls.map List.length = (ls.take k).map List.length ++ (ls.drop k).map List.length := by rw [← List.map_append, List.take_append_drop]
  rw [h, List.sum_append]; omega
theorem flatten_len (ls : List (List Int)) : ls.flatten.length = (ls.map List.length).sum := List.length_flatten
theorem concat_ints (f : Bool) (ls : List (List Int)) (hs : (ls.map List.length).sum ≤ 1000000000) : AM.Spec Tryz.prog 72 [.sl f (ls.map inV)] [] (OwnPost 3 1 fun l => l = ls.flatten.map .i) := by
  (refine spec_of_runs Tryz.func72 rfl ?_; simp only [Tryz.f72]; refine ys ?_)
  (refine Runs.lens 0 ?_; refine yl ?_)
  intro hlb
  repeat' (first | refine yw ?_ | ((with_reducible refine Runs.is ?_); first | refine Runs.region (id := 0) ?_ | refine Runs.region (id := 1) ?_ | refine Runs.region (id := 2) ?_ | ((with_reducible refine Runs.isC ?_); refine Runs.cond rfl (zc ?_) (zc ?_) <;> intro hc <;> (try (first | contradiction | (exfalso; omega; done) | (have : hc = trivial := rfl; clear this; clear hc))))) | ((with_reducible refine r_is ?_); first | refine yr ?_) | fail)
  refine Runs.loopI (fun k : Nat => ls.length - k) (fun k => k ≤ ls.length)
    (fun k => ⟨[.sl f (ls.map inV), .any, .any, .i ((((ls.take k).map List.length).sum : Nat) : Int), .any, .any, .any, .any, .any, .sl f (ls.map inV), .i (ls.length : Nat), .i (k : Nat), .any, .any, .any, .any, .any, .any, .any, .any, .any, .any, .any, .any, .any, .any, .any, .any, .any, .any, .any, .any, .any, .any, .any, .any], []⟩) 0 (by simp) ?_ ?_
  · (refine St.Le.clean zR zU zV)
  rintro k hk ih
  have hst := fun (h : k < ls.length) => sum_take ls k h
  have hle := sum_take_le ls k
  have hle2 := sum_take_le ls (k + 1)
  have hend : ls.length ≤ k → ((ls.take k).map List.length).sum = (ls.map List.length).sum := fun h => by rw [List.take_of_length_le h]
  generalize ((ls.take k).map List.length).sum = n at hst hle hend ⊢
  by_cases hlt : k < ls.length
  · have hst2 := hst hlt
    repeat' (first | refine yw ?_ | ((with_reducible refine Runs.is ?_); first | refine Runs.region (id := 3) ?_ | refine Runs.region (id := 4) ?_ | refine Runs.region (id := 5) ?_ | refine Runs.region (id := 6) ?_ | ((with_reducible refine Runs.isC ?_); refine Runs.cond rfl (zc ?_) (zc ?_) <;> intro hc <;> (try (first | contradiction | (exfalso; omega; done) | (have : hc = trivial := rfl; clear this; clear hc))))) | ((with_reducible refine r_is ?_); first | refine yr ?_) | fail)
    repeat' (first | refine yw ?_ | ((with_reducible refine Runs.is ?_); first | refine Runs.region (id := 8) ?_ | ((with_reducible refine Runs.isC ?_); refine Runs.cond rfl (zc ?_) (zc ?_) <;> intro hc <;> (try (first | contradiction | (exfalso; omega; done) | (have : hc = trivial := rfl; clear this; clear hc))))) | ((with_reducible refine r_is ?_); first | refine yr ?_) | fail)
    refine ih (k + 1) _ zo zo ?_
    rw [hst2]
    (refine St.Le.clean zR zU zV)
  · have hn := hend zo
    clear hst hend hle2 ih
    repeat' (first | refine yw ?_ | ((with_reducible refine Runs.is ?_); first | refine Runs.region (id := 3) ?_ | ((with_reducible refine Runs.isC ?_); refine Runs.cond rfl (zc ?_) (zc ?_) <;> intro hc <;> (try (first | contradiction | (exfalso; omega; done) | (have : hc = trivial := rfl; clear this; clear hc))))) | ((with_reducible refine r_is ?_); first | refine yr ?_) | fail)
    repeat' (first | refine yw ?_ | ((with_reducible refine Runs.is ?_); first | refine Runs.region (id := 9) ?_ | refine Runs.region (id := 10) ?_ | ((with_reducible refine Runs.isC ?_); refine Runs.cond rfl (zc ?_) (zc ?_) <;> intro hc <;> (try (first | contradiction | (exfalso; omega; done) | (have : hc = trivial := rfl; clear this; clear hc))))) | ((with_reducible refine r_is ?_); first | refine yr ?_ | (refine r_own rfl (grow_nil n zo) HbF.h zL2 zD rfl (fun _ hq _ => ?_); (try subst hq); refine r_nn zN zH ?_)) | fail)
    refine Runs.loopI (fun k : Nat => ls.length - k) (fun k => k ≤ ls.length)
      (fun k => ⟨[.any, .any, .any, .any, .any, .any, .own 24, .any, .any, .any, .any, .any, .any, .any, .any, .any, .any, .any, .any, .any, .any, .any, .any, .any, .any, .sl f (ls.map inV), .i (ls.length : Nat), .i (k : Nat), .any, .any, .any, .any, .any, .any, .any, .any], [(24, .lst 3 1 ((ls.take k).flatten.map .i))]⟩) 0 (by simp) ?_ ?_
    · (refine St.Le.clean zR zU zV)
    rintro k hk ih
    have hle := sum_take_le ls (k + 1)
    have hfl := flatten_len (ls.take k)
    have hle1 := sum_take_le ls k
    have hend : ls.length ≤ k → (ls.take k).flatten = ls.flatten := fun h => by rw [List.take_of_length_le h]
    have hst := fun (h : k < ls.length) => take_getD (xs := ls) h
    have hsm := fun (h : k < ls.length) => sum_take ls k h
    by_cases hlt : k < ls.length
    · have hfl2 : (ls.take (k + 1)).flatten = (ls.take k).flatten ++ ls.getD k default := by rw [hst hlt, List.flatten_append]; simp
      have hsm2 := hsm hlt
      generalize (ls.take k).flatten = acc at hfl hend hfl2 ⊢
      repeat' (first | refine yw ?_ | ((with_reducible refine Runs.is ?_); first | refine Runs.region (id := 11) ?_ | refine Runs.region (id := 12) ?_ | refine Runs.region (id := 13) ?_ | refine Runs.region (id := 14) ?_ | ((with_reducible refine Runs.isC ?_); refine Runs.cond rfl (zc ?_) (zc ?_) <;> intro hc <;> (try (first | contradiction | (exfalso; omega; done) | (have : hc = trivial := rfl; clear this; clear hc))))) | ((with_reducible refine r_is ?_); first | refine yr ?_ | (refine r_append_full SlF.h SlF.s ZoF.h zd rfl rfl zC zJ zS rfl (fun hn => ?_) (fun hn => ?_) <;> refine r_nn zN zH ?_)) | fail)
      refine ih (k + 1) _ zo zo ?_
      rw [hfl2]
      (refine St.Le.clean zR zU zV)
    · repeat' (first | refine yw ?_ | ((with_reducible refine Runs.is ?_); first | refine Runs.region (id := 11) ?_ | ((with_reducible refine Runs.isC ?_); refine Runs.cond rfl (zc ?_) (zc ?_) <;> intro hc <;> (try (first | contradiction | (exfalso; omega; done) | (have : hc = trivial := rfl; clear this; clear hc))))) | ((with_reducible refine r_is ?_); first | refine yr ?_) | fail)
      rw [hend zo]
      repeat' (first | refine yw ?_ | ((with_reducible refine Runs.is ?_); first | refine Runs.region (id := 15) ?_ | ((with_reducible refine Runs.isC ?_); refine Runs.cond rfl (zc ?_) (zc ?_) <;> intro hc <;> (try (first | contradiction | (exfalso; omega; done) | (have : hc = trivial := rfl; clear this; clear hc))))) | ((with_reducible refine r_is ?_); first | refine yr ?_) | fail)
      exact Runs.ret_own Tryz.func72 rfl rfl rfl rfl
def distinctI (ls : List (List Int)) : List Int := compactI (sortI ls.flatten)
theorem distinct_ints (f : Bool) (ls : List (List Int)) (hs : (ls.map List.length).sum ≤ 1000000000) : AM.Fn Tryz.prog 45 [.sl f (ls.map inV)] (.sl false ((distinctI ls).map .i)) := by
  have hl : ls.flatten.length ≤ 1000000000 := by rw [flatten_len]; exact hs
  have hl2 : (sortI ls.flatten).length ≤ 1000000000 := by rw [sortI_length]; exact hl
  unfold distinctI
  (refine spec_of_runs Tryz.func45 rfl ?_; simp only [Tryz.f45]; refine ys ?_)
  repeat' (first | refine yw ?_ | ((with_reducible refine Runs.is ?_); first | refine Runs.region ?_ | ((with_reducible refine Runs.isC ?_); refine Runs.cond rfl (zc ?_) (zc ?_) <;> intro hc <;> (try (first | contradiction | (exfalso; omega; done) | (have : hc = trivial := rfl; clear this; clear hc))))) | ((with_reducible refine r_is ?_); first | refine yr ?_ | (refine r_own rfl (concat_ints f ls hs) HbF.h zL1 zD rfl (fun _ hq _ => ?_); (try subst hq); refine r_nn zN zH ?_) | (refine r_turn rfl (sort_turns ls.flatten zo) HbF.h rfl rfl ?_; refine r_nn zN zH ?_) | (refine r_give rfl (compact_gives 1000 (sortI ls.flatten) zo) HbF.h rfl rfl zL0 zD ?_; refine r_nn zN zH ?_)) | fail)
  exact Runs.ret_frz Tryz.func45 rfl rfl rfl rfl
def srv (v : View) : List Int := v.members.map (·.server)
def spanI (vs : List View) : List Int := distinctI (vs.map srv)
theorem interval_Span (f h : Bool) (g : View) (a b : Config) (vs : List View) (hV : AM.Fn Tryz.prog 16 [viV g, .sl f (a.map prV), .sl h (b.map prV)] (.sl false (vs.map viV))) (hn : vs.length ≤ 100000) (hm : ∀ v ∈ vs, v.members.length ≤ 1000000)
    (hs : ((vs.map srv).map List.length).sum ≤ 1000000000) : AM.Fn Tryz.prog 20 [viV g, .sl f (a.map prV), .sl h (b.map prV)] (.sl false ((spanI vs).map .i)) := by
  (refine spec_of_runs Tryz.func20 rfl ?_; simp only [Tryz.f20]; refine ys ?_)
  repeat' (first | refine yw ?_ | ((with_reducible refine Runs.is ?_); first | refine Runs.region (id := 0) ?_ | refine Runs.region (id := 1) ?_ | refine Runs.region (id := 2) ?_ | ((with_reducible refine Runs.isC ?_); refine Runs.cond rfl (zc ?_) (zc ?_) <;> intro hc <;> (try (first | contradiction | (exfalso; omega; done) | (have : hc = trivial := rfl; clear this; clear hc))))) | ((with_reducible refine r_is ?_); first | refine yr ?_ | (refine r_fn rfl (hV) HbF.h zL3 zD ?_; refine r_nn zN zH ?_)) | fail)
  (refine Runs.weaken (St.Le.nil 7 44 1 7 zd rfl rfl zE) ?_)
  refine Runs.loopI (fun k : Nat => vs.length - k) (fun k => k ≤ vs.length)
    (fun k => ⟨[.any, .any, .any, .any, .any, .any, .any, .own 7, .any, .any, .any, .any, .any, .any, .any, .any, .sl false (vs.map viV), .i (vs.length : Nat), .i (k : Nat), .any, .any, .any, .any, .any, .any, .any, .any, .any, .any, .any, .any, .any, .any, .any, .any, .any, .any, .any, .any, .any, .any, .any], [(7, .lst 44 1 (((vs.take k).map srv).map inV))]⟩) 0 (by simp) ?_ ?_
  · (refine St.Le.clean zR zU zV)
  rintro k hk ih
  have htk := fun (h : k < vs.length) => take_getD (xs := vs) h
  have hl1 : ((vs.take k).map srv).length ≤ 100000 := by rw [List.length_map, List.length_take]; omega
  by_cases hlt : k < vs.length
  · have hmm := hm (vs.getD k default) (by rw [List.getD_eq_getElem?_getD, List.getElem?_eq_getElem hlt]; exact List.getElem_mem hlt)
    have hst : (vs.take (k + 1)).map srv = (vs.take k).map srv ++ [srv (vs.getD k default)] := by rw [htk hlt, List.map_append]; rfl
    generalize (vs.take k).map srv = acc at hl1 hst ⊢
    repeat' (first | refine yw ?_ | ((with_reducible refine Runs.is ?_); first | refine Runs.region (id := 3) ?_ | refine Runs.region (id := 4) ?_ | refine Runs.region (id := 5) ?_ | refine Runs.region (id := 6) ?_ | ((with_reducible refine Runs.isC ?_); refine Runs.cond rfl (zc ?_) (zc ?_) <;> intro hc <;> (try (first | contradiction | (exfalso; omega; done) | (have : hc = trivial := rfl; clear this; clear hc))))) | ((with_reducible refine r_is ?_); first | refine yr ?_) | fail)
    generalize vs.getD k default = v at hmm hst ⊢
    obtain ⟨ms, ru⟩ := v
    change (vs.take (k + 1)).map srv = acc ++ [ms.map (·.server)] at hst
    dsimp only at hmm ⊢
    (refine Runs.weaken (St.Le.nil 10 3 1 10 zd rfl rfl zE) ?_)
    refine Runs.loopI (fun j : Nat => ms.length - j) (fun j => j ≤ ms.length)
      (fun j => ⟨[.any, .any, .any, .any, .any, .any, .any, .own 7, .any, .any, .own 10, .any, .any, .any, .any, .any, .sl false (vs.map viV), .i (vs.length : Nat), .i (k : Nat), .any, .any, .any, .any, .sl false (ms.map mbV), .i (ms.length : Nat), .i (j : Nat), .any, .any, .any, .any, .any, .any, .any, .any, .any, .any, .any, .any, .any, .any, .any, .any], [(10, .lst 3 1 (((ms.take j).map (·.server)).map .i)), (7, .lst 44 1 (acc.map inV))]⟩) 0 (by simp) ?_ ?_
    · (refine St.Le.clean zR zU zV)
    rintro j hj ihj
    have htj := fun (h : j < ms.length) => take_getD (xs := ms) h
    have hl2 : ((ms.take j).map (·.server)).length ≤ 1000000 := by rw [List.length_map, List.length_take]; omega
    by_cases hjt : j < ms.length
    · have htj2 : (ms.take (j + 1)).map (·.server) = (ms.take j).map (·.server) ++ [(ms.getD j default).server] := by rw [htj hjt, List.map_append]; rfl
      generalize (ms.take j).map (·.server) = acc2 at hl2 htj2 ⊢
      repeat' (first | refine yw ?_ | ((with_reducible refine Runs.is ?_); first | refine Runs.region (id := 7) ?_ | refine Runs.region (id := 8) ?_ | refine Runs.region (id := 9) ?_ | refine Runs.region (id := 10) ?_ | ((with_reducible refine Runs.isC ?_); refine Runs.cond rfl (zc ?_) (zc ?_) <;> intro hc <;> (try (first | contradiction | (exfalso; omega; done) | (have : hc = trivial := rfl; clear this; clear hc))))) | ((with_reducible refine r_is ?_); first | refine yr ?_ | (refine r_append_full SlF.h SlF.s ZoF.h zd rfl rfl zC zJ zS rfl (fun hn => ?_) (fun hn => ?_) <;> refine r_nn zN zH ?_)) | fail)
      refine ihj (j + 1) _ zo zo ?_
      rw [htj2]
      (refine St.Le.clean zR zU zV)
    · repeat' (first | refine yw ?_ | ((with_reducible refine Runs.is ?_); first | refine Runs.region (id := 7) ?_ | ((with_reducible refine Runs.isC ?_); refine Runs.cond rfl (zc ?_) (zc ?_) <;> intro hc <;> (try (first | contradiction | (exfalso; omega; done) | (have : hc = trivial := rfl; clear this; clear hc))))) | ((with_reducible refine r_is ?_); first | refine yr ?_) | fail)
      rw [List.take_of_length_le zo]
      (refine Runs.weaken (St.Le.freeze_lst 10 rfl) ?_; refine yf ?_)
      repeat' (first | refine yw ?_ | ((with_reducible refine Runs.is ?_); first | refine Runs.region (id := 11) ?_ | refine Runs.region (id := 12) ?_ | ((with_reducible refine Runs.isC ?_); refine Runs.cond rfl (zc ?_) (zc ?_) <;> intro hc <;> (try (first | contradiction | (exfalso; omega; done) | (have : hc = trivial := rfl; clear this; clear hc))))) | ((with_reducible refine r_is ?_); first | refine yr ?_ | (refine r_append_full SlF.h SlF.s ZoF.h zd rfl rfl zC zJ zS rfl (fun hn => ?_) (fun hn => ?_) <;> refine r_nn zN zH ?_)) | fail)
      refine ih (k + 1) _ zo zo ?_
      rw [hst]
      (refine St.Le.clean zR zU zV)
  · repeat' (first | refine yw ?_ | ((with_reducible refine Runs.is ?_); first | refine Runs.region (id := 3) ?_ | ((with_reducible refine Runs.isC ?_); refine Runs.cond rfl (zc ?_) (zc ?_) <;> intro hc <;> (try (first | contradiction | (exfalso; omega; done) | (have : hc = trivial := rfl; clear this; clear hc))))) | ((with_reducible refine r_is ?_); first | refine yr ?_) | fail)
    rw [List.take_of_length_le zo]
    (refine Runs.weaken (St.Le.freeze_lst 7 rfl) ?_; refine yf ?_)
    repeat' (first | refine yw ?_ | ((with_reducible refine Runs.is ?_); first | refine Runs.region (id := 13) ?_ | ((with_reducible refine Runs.isC ?_); refine Runs.cond rfl (zc ?_) (zc ?_) <;> intro hc <;> (try (first | contradiction | (exfalso; omega; done) | (have : hc = trivial := rfl; clear this; clear hc))))) | ((with_reducible refine r_is ?_); first | refine yr ?_ | (refine r_fn rfl (distinct_ints false (vs.map srv) hs) HbF.h zL1 zD ?_; refine r_nn zN zH ?_)) | fail)
    (refine Runs.ret1 Tryz.func20 rfl zM zD ?_; try exact zX)
end Go.Proofs
