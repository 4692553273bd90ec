/- Contracts of functions and plain laws: W48, W49, W50, W63, W64, W19, W65, W66, W67, W68, W69, W70, W13, W20, W51, W52, W10, W54, W56, W59, W57, W58, W60, W71, W81, W82, W75, W83, W86, W96, W106, W110, W141, W112, W113, W114, W115, W116, W117. -/
import Derived.Test.YtndpgjcmmjeoiaaGreatQc
import Derived.Test.YtndpgjcmmjeoiaaGreatQd
import Derived.Test.YtndpgjcmmjeoiaaGreatMi
import Derived.Test.YtndpgjcmmjeoiaaGreatG2
set_option linter.unusedVariables false
set_option linter.unusedSimpArgs false
set_option maxRecDepth 8000
set_option maxHeartbeats 4000000
set_option pp.deepTerms false
set_option pp.deepTerms.threshold 10
namespace Go.Proofs
open Go.AM
attribute [local irreducible] AM.evalR AM.evalD AM.Runs AM.valK AM.dK AM.opK AM.stepR AM.CallS AM.St.Le
def viewOf (g : View) (c : Config) : View := viewS (sumS g c)
theorem interval_Views (f h : Bool) (g : View) (a b : Config) (hA : AM.Fn Tryz.prog 100 [.sl f (a.map prV), .sl h (b.map prV)] (.sl false ((allB a b).map cfV))) (hn : (allB a b).length ≤ 100000) (hg : g.members.length ≤ 1000)
    (hc0 : ∀ c ∈ allB a b, c.length ≤ 100 ∧ ∀ p ∈ c, Plain p) : AM.Fn Tryz.prog 146 [viV g, .sl f (a.map prV), .sl h (b.map prV)] (.sl false (((allB a b).map (viewOf g)).map viV)) := by
  (refine spec_of_runs Tryz.func146 rfl ?_; simp only [Tryz.f146]; refine ys ?_)
  generalize allB a b = l at *
  repeat' (first | refine yw ?_ | ((with_reducible refine Runs.is ?_); first | refine Runs.region (id := 0) ?_ | refine Runs.region (id := 1) ?_ | refine Runs.region (id := 2) ?_ | ((with_reducible refine Runs.isC ?_); refine Runs.cond rfl (zc ?_) (zc ?_) <;> intro hc <;> (try (first | contradiction | (exfalso; omega; done) | (have : hc = trivial := rfl; clear this; clear hc))))) | ((with_reducible refine r_is ?_); first | refine yr ?_ | (refine r_fn rfl (hA) HbF.h zL2 zD ?_; refine r_nn zN zH ?_)) | fail)
  (refine Runs.weaken (St.Le.nil 7 79 4 7 zd rfl rfl zE) ?_)
  refine Runs.loopI (fun k : Nat => l.length - k) (fun k => k ≤ l.length)
    (fun k => ⟨[.any, .any, .any, .ptr 3 0 0, .any, .any, .any, .own 7, .any, .any, .any, .any, .sl false (l.map cfV), .i (l.length : Nat), .i (k : Nat), .any, .any, .any, .any, .any, .any, .any, .any, .any, .any, .any, .any], [(7, .lst 79 4 (((l.take k).map (viewOf g)).map viV)), (3, .var 26 (viV g))]⟩) 0 (by simp) ?_ ?_
  · (refine St.Le.clean zR zU zV)
  rintro k hk ih
  have htk := fun (h : k < l.length) => take_getD (xs := l) h
  have hl1 : ((l.take k).map (viewOf g)).length ≤ 100000 := by rw [List.length_map, List.length_take]; omega
  by_cases hlt : k < l.length
  · have hcc := hc0 (l.getD k default) (by rw [List.getD_eq_getElem?_getD, List.getElem?_eq_getElem hlt]; exact List.getElem_mem hlt)
    have htk2 := htk hlt
    have hS := member_Summarize false g (l.getD k default) hg hcc.1 hcc.2
    have hsh := sumS_short hg (l.getD k default) (fun p q => (hcc.2 p q).1)
    have hlen := hcc.1
    have hV := member_View (sumS g (l.getD k default)) (by have := hsh.1; omega) (by have := hsh.2.2; omega)
    have hm : (l.take (k + 1)).map (viewOf g) = (l.take k).map (viewOf g) ++ [viewS (sumS g (l.getD k default))] := by rw [htk2, List.map_append]; rfl
    repeat' (first | refine yw ?_ | ((with_reducible refine Runs.is ?_); first | refine Runs.region (id := 3) ?_ | refine Runs.region (id := 4) ?_ | refine Runs.region (id := 5) ?_ | ((with_reducible refine Runs.isC ?_); refine Runs.cond rfl (zc ?_) (zc ?_) <;> intro hc <;> (try (first | contradiction | (exfalso; omega; done) | (have : hc = trivial := rfl; clear this; clear hc))))) | ((with_reducible refine r_is ?_); first | refine yr ?_ | (refine r_fn rfl (hS) HbF.h zL2 zD ?_; refine r_nn zN zH ?_) | (refine r_fn rfl (hV) HbF.h zL1 zD ?_; refine r_nn zN zH ?_) | (refine r_append_full SlF.h SlF.s ZoF.h zd rfl rfl zC zJ zS rfl (fun hn => ?_) (fun hn => ?_) <;> refine r_nn zN zH ?_)) | fail)
    repeat' (first | refine yw ?_ | ((with_reducible refine Runs.is ?_); first | refine Runs.region (id := 6) ?_ | ((with_reducible refine Runs.isC ?_); refine Runs.cond rfl (zc ?_) (zc ?_) <;> intro hc <;> (try (first | contradiction | (exfalso; omega; done) | (have : hc = trivial := rfl; clear this; clear hc))))) | ((with_reducible refine r_is ?_); first | refine yr ?_) | fail)
    refine ih (k + 1) _ zo zo ?_
    rw [hm]
    (refine St.Le.clean zR zU zV)
  · repeat' (first | refine yw ?_ | ((with_reducible refine Runs.is ?_); first | refine Runs.region (id := 3) ?_ | ((with_reducible refine Runs.isC ?_); refine Runs.cond rfl (zc ?_) (zc ?_) <;> intro hc <;> (try (first | contradiction | (exfalso; omega; done) | (have : hc = trivial := rfl; clear this; clear hc))))) | ((with_reducible refine r_is ?_); first | refine yr ?_) | fail)
    rw [List.take_of_length_le zo]
    repeat' (first | refine yw ?_ | ((with_reducible refine Runs.is ?_); first | refine Runs.region (id := 7) ?_ | ((with_reducible refine Runs.isC ?_); refine Runs.cond rfl (zc ?_) (zc ?_) <;> intro hc <;> (try (first | contradiction | (exfalso; omega; done) | (have : hc = trivial := rfl; clear this; clear hc))))) | ((with_reducible refine r_is ?_); first | refine yr ?_) | fail)
    exact Runs.ret_frz Tryz.func146 rfl rfl rfl rfl
theorem grow_nil (n : Nat) (hn : n ≤ 1000000000) : AM.Spec Tryz.prog 232 [.sc (.slice none 0 0), .i (n : Nat)] [] (OwnPost 3 1 fun l => l = ([] : List Int).map .i) := by
  (refine spec_of_runs Tryz.func232 rfl ?_; simp only [Tryz.f232]; refine ys ?_)
  repeat' (first | refine yw ?_ | ((with_reducible refine Runs.is ?_); first | refine Runs.region ?_ | ((with_reducible refine Runs.isC ?_); refine Runs.cond rfl (zc ?_) (zc ?_) <;> intro hc <;> (try (first | contradiction | (exfalso; omega; done) | (have : hc = trivial := rfl; clear this; clear hc))))) | ((with_reducible refine r_is ?_); first | refine yr ?_ | (refine r_append_full SlF.h SlF.s ZoF.h zd rfl rfl zC zJ zS rfl (fun hn => ?_) (fun hn => ?_) <;> refine r_nn zN zH ?_)) | fail)
  · exact Runs.ret_own Tryz.func232 rfl rfl rfl (by simp)
  · exact Runs.ret_nil Tryz.func232 rfl rfl zd rfl rfl
theorem sum_take (ls : List (List Int)) (k : Nat) (h : k < ls.length) : ((ls.take (k + 1)).map List.length).sum = ((ls.take k).map List.length).sum + (ls.getD k default).length := by
  rw [take_getD h, List.map_append, List.sum_append]; simp
theorem sum_take_le (ls : List (List Int)) (k : Nat) : ((ls.take k).map List.length).sum ≤ (ls.map List.length).sum := by
  have h : ls.map List.length = (ls.take k).map List.length ++ (ls.drop k).map List.length := by rw [← List.map_append, List.take_append_drop]
  rw [h, List.sum_append]; omega
theorem flatten_len (ls : List (List Int)) : ls.flatten.length = (ls.map List.length).sum := List.length_flatten
theorem concat_ints (f : Bool) (ls : List (List Int)) (hs : (ls.map List.length).sum ≤ 1000000000) : AM.Spec Tryz.prog 198 [.sl f (ls.map inV)] [] (OwnPost 3 1 fun l => l = ls.flatten.map .i) := by
  (refine spec_of_runs Tryz.func198 rfl ?_; simp only [Tryz.f198]; refine ys ?_)
  (refine Runs.lens 0 ?_; refine yl ?_)
  intro hlb
  repeat' (first | refine yw ?_ | ((with_reducible refine Runs.is ?_); first | refine Runs.region (id := 0) ?_ | refine Runs.region (id := 1) ?_ | refine Runs.region (id := 2) ?_ | ((with_reducible refine Runs.isC ?_); refine Runs.cond rfl (zc ?_) (zc ?_) <;> intro hc <;> (try (first | contradiction | (exfalso; omega; done) | (have : hc = trivial := rfl; clear this; clear hc))))) | ((with_reducible refine r_is ?_); first | refine yr ?_) | fail)
  refine Runs.loopI (fun k : Nat => ls.length - k) (fun k => k ≤ ls.length)
    (fun k => ⟨[.sl f (ls.map inV), .any, .any, .i ((((ls.take k).map List.length).sum : Nat) : Int), .any, .any, .any, .any, .any, .sl f (ls.map inV), .i (ls.length : Nat), .i (k : Nat), .any, .any, .any, .any, .any, .any, .any, .any, .any, .any, .any, .any, .any, .any, .any, .any, .any, .any, .any, .any, .any, .any, .any, .any], []⟩) 0 (by simp) ?_ ?_
  · (refine St.Le.clean zR zU zV)
  rintro k hk ih
  have hst := fun (h : k < ls.length) => sum_take ls k h
  have hle := sum_take_le ls k
  have hle2 := sum_take_le ls (k + 1)
  have hend : ls.length ≤ k → ((ls.take k).map List.length).sum = (ls.map List.length).sum := fun h => by rw [List.take_of_length_le h]
  generalize ((ls.take k).map List.length).sum = n at hst hle hend ⊢
  by_cases hlt : k < ls.length
  · have hst2 := hst hlt
    repeat' (first | refine yw ?_ | ((with_reducible refine Runs.is ?_); first | refine Runs.region (id := 3) ?_ | refine Runs.region (id := 4) ?_ | refine Runs.region (id := 5) ?_ | refine Runs.region (id := 6) ?_ | ((with_reducible refine Runs.isC ?_); refine Runs.cond rfl (zc ?_) (zc ?_) <;> intro hc <;> (try (first | contradiction | (exfalso; omega; done) | (have : hc = trivial := rfl; clear this; clear hc))))) | ((with_reducible refine r_is ?_); first | refine yr ?_) | fail)
    repeat' (first | refine yw ?_ | ((with_reducible refine Runs.is ?_); first | refine Runs.region (id := 8) ?_ | ((with_reducible refine Runs.isC ?_); refine Runs.cond rfl (zc ?_) (zc ?_) <;> intro hc <;> (try (first | contradiction | (exfalso; omega; done) | (have : hc = trivial := rfl; clear this; clear hc))))) | ((with_reducible refine r_is ?_); first | refine yr ?_) | fail)
    refine ih (k + 1) _ zo zo ?_
    rw [hst2]
    (refine St.Le.clean zR zU zV)
  · have hn := hend zo
    clear hst hend hle2 ih
    repeat' (first | refine yw ?_ | ((with_reducible refine Runs.is ?_); first | refine Runs.region (id := 3) ?_ | ((with_reducible refine Runs.isC ?_); refine Runs.cond rfl (zc ?_) (zc ?_) <;> intro hc <;> (try (first | contradiction | (exfalso; omega; done) | (have : hc = trivial := rfl; clear this; clear hc))))) | ((with_reducible refine r_is ?_); first | refine yr ?_) | fail)
    repeat' (first | refine yw ?_ | ((with_reducible refine Runs.is ?_); first | refine Runs.region (id := 9) ?_ | refine Runs.region (id := 10) ?_ | ((with_reducible refine Runs.isC ?_); refine Runs.cond rfl (zc ?_) (zc ?_) <;> intro hc <;> (try (first | contradiction | (exfalso; omega; done) | (have : hc = trivial := rfl; clear this; clear hc))))) | ((with_reducible refine r_is ?_); first | refine yr ?_ | (refine r_own rfl (grow_nil n zo) HbF.h zL2 zD rfl (fun _ hq _ => ?_); (try subst hq); refine r_nn zN zH ?_)) | fail)
    refine Runs.loopI (fun k : Nat => ls.length - k) (fun k => k ≤ ls.length)
      (fun k => ⟨[.any, .any, .any, .any, .any, .any, .own 24, .any, .any, .any, .any, .any, .any, .any, .any, .any, .any, .any, .any, .any, .any, .any, .any, .any, .any, .sl f (ls.map inV), .i (ls.length : Nat), .i (k : Nat), .any, .any, .any, .any, .any, .any, .any, .any], [(24, .lst 3 1 ((ls.take k).flatten.map .i))]⟩) 0 (by simp) ?_ ?_
    · (refine St.Le.clean zR zU zV)
    rintro k hk ih
    have hle := sum_take_le ls (k + 1)
    have hfl := flatten_len (ls.take k)
    have hle1 := sum_take_le ls k
    have hend : ls.length ≤ k → (ls.take k).flatten = ls.flatten := fun h => by rw [List.take_of_length_le h]
    have hst := fun (h : k < ls.length) => take_getD (xs := ls) h
    have hsm := fun (h : k < ls.length) => sum_take ls k h
    by_cases hlt : k < ls.length
    · have hfl2 : (ls.take (k + 1)).flatten = (ls.take k).flatten ++ ls.getD k default := by rw [hst hlt, List.flatten_append]; simp
      have hsm2 := hsm hlt
      generalize (ls.take k).flatten = acc at hfl hend hfl2 ⊢
      repeat' (first | refine yw ?_ | ((with_reducible refine Runs.is ?_); first | refine Runs.region (id := 11) ?_ | refine Runs.region (id := 12) ?_ | refine Runs.region (id := 13) ?_ | refine Runs.region (id := 14) ?_ | ((with_reducible refine Runs.isC ?_); refine Runs.cond rfl (zc ?_) (zc ?_) <;> intro hc <;> (try (first | contradiction | (exfalso; omega; done) | (have : hc = trivial := rfl; clear this; clear hc))))) | ((with_reducible refine r_is ?_); first | refine yr ?_ | (refine r_append_full SlF.h SlF.s ZoF.h zd rfl rfl zC zJ zS rfl (fun hn => ?_) (fun hn => ?_) <;> refine r_nn zN zH ?_)) | fail)
      refine ih (k + 1) _ zo zo ?_
      rw [hfl2]
      (refine St.Le.clean zR zU zV)
    · repeat' (first | refine yw ?_ | ((with_reducible refine Runs.is ?_); first | refine Runs.region (id := 11) ?_ | ((with_reducible refine Runs.isC ?_); refine Runs.cond rfl (zc ?_) (zc ?_) <;> intro hc <;> (try (first | contradiction | (exfalso; omega; done) | (have : hc = trivial := rfl; clear this; clear hc))))) | ((with_reducible refine r_is ?_); first | refine yr ?_) | fail)
      rw [hend zo]
      repeat' (first | refine yw ?_ | ((with_reducible refine Runs.is ?_); first | refine Runs.region (id := 15) ?_ | ((with_reducible refine Runs.isC ?_); refine Runs.cond rfl (zc ?_) (zc ?_) <;> intro hc <;> (try (first | contradiction | (exfalso; omega; done) | (have : hc = trivial := rfl; clear this; clear hc))))) | ((with_reducible refine r_is ?_); first | refine yr ?_) | fail)
      exact Runs.ret_own Tryz.func198 rfl rfl rfl rfl
def distinctI (ls : List (List Int)) : List Int := compactI (sortI ls.flatten)
theorem distinct_ints (f : Bool) (ls : List (List Int)) (hs : (ls.map List.length).sum ≤ 1000000000) : AM.Fn Tryz.prog 147 [.sl f (ls.map inV)] (.sl false ((distinctI ls).map .i)) := by
  have hl : ls.flatten.length ≤ 1000000000 := by rw [flatten_len]; exact hs
  have hl2 : (sortI ls.flatten).length ≤ 1000000000 := by rw [sortI_length]; exact hl
  unfold distinctI
  (refine spec_of_runs Tryz.func147 rfl ?_; simp only [Tryz.f147]; refine ys ?_)
  repeat' (first | refine yw ?_ | ((with_reducible refine Runs.is ?_); first | refine Runs.region ?_ | ((with_reducible refine Runs.isC ?_); refine Runs.cond rfl (zc ?_) (zc ?_) <;> intro hc <;> (try (first | contradiction | (exfalso; omega; done) | (have : hc = trivial := rfl; clear this; clear hc))))) | ((with_reducible refine r_is ?_); first | refine yr ?_ | (refine r_own rfl (concat_ints f ls hs) HbF.h zL1 zD rfl (fun _ hq _ => ?_); (try subst hq); refine r_nn zN zH ?_) | (refine r_turn rfl (sort_turns ls.flatten zo) HbF.h rfl rfl ?_; refine r_nn zN zH ?_) | (refine r_give rfl (compact_gives 1000 (sortI ls.flatten) zo) HbF.h rfl rfl zL0 zD ?_; refine r_nn zN zH ?_)) | fail)
  exact Runs.ret_frz Tryz.func147 rfl rfl rfl rfl
def srv (v : View) : List Int := v.members.map (·.server)
def spanI (vs : List View) : List Int := distinctI (vs.map srv)
theorem interval_Span (f h : Bool) (g : View) (a b : Config) (vs : List View) (hV : AM.Fn Tryz.prog 146 [viV g, .sl f (a.map prV), .sl h (b.map prV)] (.sl false (vs.map viV))) (hn : vs.length ≤ 100000) (hm : ∀ v ∈ vs, v.members.length ≤ 1000000)
    (hs : ((vs.map srv).map List.length).sum ≤ 1000000000) : AM.Fn Tryz.prog 79 [viV g, .sl f (a.map prV), .sl h (b.map prV)] (.sl false ((spanI vs).map .i)) := by
  (refine spec_of_runs Tryz.func79 rfl ?_; simp only [Tryz.f79]; refine ys ?_)
  repeat' (first | refine yw ?_ | ((with_reducible refine Runs.is ?_); first | refine Runs.region (id := 0) ?_ | refine Runs.region (id := 1) ?_ | refine Runs.region (id := 2) ?_ | ((with_reducible refine Runs.isC ?_); refine Runs.cond rfl (zc ?_) (zc ?_) <;> intro hc <;> (try (first | contradiction | (exfalso; omega; done) | (have : hc = trivial := rfl; clear this; clear hc))))) | ((with_reducible refine r_is ?_); first | refine yr ?_ | (refine r_fn rfl (hV) HbF.h zL3 zD ?_; refine r_nn zN zH ?_)) | fail)
  (refine Runs.weaken (St.Le.nil 7 46 1 7 zd rfl rfl zE) ?_)
  refine Runs.loopI (fun k : Nat => vs.length - k) (fun k => k ≤ vs.length)
    (fun k => ⟨[.any, .any, .any, .any, .any, .any, .any, .own 7, .any, .any, .any, .any, .any, .any, .any, .any, .sl false (vs.map viV), .i (vs.length : Nat), .i (k : Nat), .any, .any, .any, .any, .any, .any, .any, .any, .any, .any, .any, .any, .any, .any, .any, .any, .any, .any, .any, .any, .any, .any, .any], [(7, .lst 46 1 (((vs.take k).map srv).map inV))]⟩) 0 (by simp) ?_ ?_
  · (refine St.Le.clean zR zU zV)
  rintro k hk ih
  have htk := fun (h : k < vs.length) => take_getD (xs := vs) h
  have hl1 : ((vs.take k).map srv).length ≤ 100000 := by rw [List.length_map, List.length_take]; omega
  by_cases hlt : k < vs.length
  · have hmm := hm (vs.getD k default) (by rw [List.getD_eq_getElem?_getD, List.getElem?_eq_getElem hlt]; exact List.getElem_mem hlt)
    have hst : (vs.take (k + 1)).map srv = (vs.take k).map srv ++ [srv (vs.getD k default)] := by rw [htk hlt, List.map_append]; rfl
    generalize (vs.take k).map srv = acc at hl1 hst ⊢
    repeat' (first | refine yw ?_ | ((with_reducible refine Runs.is ?_); first | refine Runs.region (id := 3) ?_ | refine Runs.region (id := 4) ?_ | refine Runs.region (id := 5) ?_ | refine Runs.region (id := 6) ?_ | ((with_reducible refine Runs.isC ?_); refine Runs.cond rfl (zc ?_) (zc ?_) <;> intro hc <;> (try (first | contradiction | (exfalso; omega; done) | (have : hc = trivial := rfl; clear this; clear hc))))) | ((with_reducible refine r_is ?_); first | refine yr ?_) | fail)
    generalize vs.getD k default = v at hmm hst ⊢
    obtain ⟨ms, ru⟩ := v
    change (vs.take (k + 1)).map srv = acc ++ [ms.map (·.server)] at hst
    dsimp only at hmm ⊢
    (refine Runs.weaken (St.Le.nil 10 3 1 10 zd rfl rfl zE) ?_)
    refine Runs.loopI (fun j : Nat => ms.length - j) (fun j => j ≤ ms.length)
      (fun j => ⟨[.any, .any, .any, .any, .any, .any, .any, .own 7, .any, .any, .own 10, .any, .any, .any, .any, .any, .sl false (vs.map viV), .i (vs.length : Nat), .i (k : Nat), .any, .any, .any, .any, .sl false (ms.map mbV), .i (ms.length : Nat), .i (j : Nat), .any, .any, .any, .any, .any, .any, .any, .any, .any, .any, .any, .any, .any, .any, .any, .any], [(10, .lst 3 1 (((ms.take j).map (·.server)).map .i)), (7, .lst 46 1 (acc.map inV))]⟩) 0 (by simp) ?_ ?_
    · (refine St.Le.clean zR zU zV)
    rintro j hj ihj
    have htj := fun (h : j < ms.length) => take_getD (xs := ms) h
    have hl2 : ((ms.take j).map (·.server)).length ≤ 1000000 := by rw [List.length_map, List.length_take]; omega
    by_cases hjt : j < ms.length
    · have htj2 : (ms.take (j + 1)).map (·.server) = (ms.take j).map (·.server) ++ [(ms.getD j default).server] := by rw [htj hjt, List.map_append]; rfl
      generalize (ms.take j).map (·.server) = acc2 at hl2 htj2 ⊢
      repeat' (first | refine yw ?_ | ((with_reducible refine Runs.is ?_); first | refine Runs.region (id := 7) ?_ | refine Runs.region (id := 8) ?_ | refine Runs.region (id := 9) ?_ | refine Runs.region (id := 10) ?_ | ((with_reducible refine Runs.isC ?_); refine Runs.cond rfl (zc ?_) (zc ?_) <;> intro hc <;> (try (first | contradiction | (exfalso; omega; done) | (have : hc = trivial := rfl; clear this; clear hc))))) | ((with_reducible refine r_is ?_); first | refine yr ?_ | (refine r_append_full SlF.h SlF.s ZoF.h zd rfl rfl zC zJ zS rfl (fun hn => ?_) (fun hn => ?_) <;> refine r_nn zN zH ?_)) | fail)
      refine ihj (j + 1) _ zo zo ?_
      rw [htj2]
      (refine St.Le.clean zR zU zV)
    · repeat' (first | refine yw ?_ | ((with_reducible refine Runs.is ?_); first | refine Runs.region (id := 7) ?_ | ((with_reducible refine Runs.isC ?_); refine Runs.cond rfl (zc ?_) (zc ?_) <;> intro hc <;> (try (first | contradiction | (exfalso; omega; done) | (have : hc = trivial := rfl; clear this; clear hc))))) | ((with_reducible refine r_is ?_); first | refine yr ?_) | fail)
      rw [List.take_of_length_le zo]
      (refine Runs.weaken (St.Le.freeze_lst 10 rfl) ?_; refine yf ?_)
      repeat' (first | refine yw ?_ | ((with_reducible refine Runs.is ?_); first | refine Runs.region (id := 11) ?_ | refine Runs.region (id := 12) ?_ | ((with_reducible refine Runs.isC ?_); refine Runs.cond rfl (zc ?_) (zc ?_) <;> intro hc <;> (try (first | contradiction | (exfalso; omega; done) | (have : hc = trivial := rfl; clear this; clear hc))))) | ((with_reducible refine r_is ?_); first | refine yr ?_ | (refine r_append_full SlF.h SlF.s ZoF.h zd rfl rfl zC zJ zS rfl (fun hn => ?_) (fun hn => ?_) <;> refine r_nn zN zH ?_)) | fail)
      refine ih (k + 1) _ zo zo ?_
      rw [hst]
      (refine St.Le.clean zR zU zV)
  · repeat' (first | refine yw ?_ | ((with_reducible refine Runs.is ?_); first | refine Runs.region (id := 3) ?_ | ((with_reducible refine Runs.isC ?_); refine Runs.cond rfl (zc ?_) (zc ?_) <;> intro hc <;> (try (first | contradiction | (exfalso; omega; done) | (have : hc = trivial := rfl; clear this; clear hc))))) | ((with_reducible refine r_is ?_); first | refine yr ?_) | fail)
    rw [List.take_of_length_le zo]
    (refine Runs.weaken (St.Le.freeze_lst 7 rfl) ?_; refine yf ?_)
    repeat' (first | refine yw ?_ | ((with_reducible refine Runs.is ?_); first | refine Runs.region (id := 13) ?_ | ((with_reducible refine Runs.isC ?_); refine Runs.cond rfl (zc ?_) (zc ?_) <;> intro hc <;> (try (first | contradiction | (exfalso; omega; done) | (have : hc = trivial := rfl; clear this; clear hc))))) | ((with_reducible refine r_is ?_); first | refine yr ?_ | (refine r_fn rfl (distinct_ints false (vs.map srv) hs) HbF.h zL1 zD ?_; refine r_nn zN zH ?_)) | fail)
    (refine Runs.ret1 Tryz.func79 rfl zM zD ?_; try exact zX)
end Go.Proofs
namespace Go.Proofs
open Go.AM
attribute [local irreducible] AM.evalR AM.evalD AM.Runs AM.valK AM.dK AM.opK AM.stepR AM.CallS AM.St.Le
end Go.Proofs
namespace Go.Proofs
open Go.AM
attribute [local irreducible] AM.evalR AM.evalD AM.Runs AM.valK AM.dK AM.opK AM.stepR AM.CallS AM.St.Le
end Go.Proofs
namespace Go.Proofs
open Go.AM
attribute [local irreducible] AM.evalR AM.evalD AM.Runs AM.valK AM.dK AM.opK AM.stepR AM.CallS AM.St.Le
def laterB (a b : WeightEntry) : Bool := if a.version ≠ b.version then decide (b.version < a.version) else if a.admin ≠ b.admin then decide (b.admin < a.admin) else decide (b.number < a.number)
def insStep (n : Int) (s : List Int × Bool) (y : Int) : List Int × Bool :=
  let t := if s.2 = false ∧ n ≤ y then (s.1 ++ [n], true) else s
  if y ≠ n then (t.1 ++ [y], t.2) else t
def insR (l : List Int) (n : Int) : List Int := let s := l.foldl (insStep n) ([], false); if s.2 = false then s.1 ++ [n] else s.1
theorem insStep_a {n y : Int} {acc : List Int} (h1 : n ≤ y) (h2 : ¬ y = n) : insStep n (acc, false) y = (acc ++ [n] ++ [y], true) := by simp [insStep, h1, h2]
theorem insStep_b {n y : Int} {acc : List Int} (h1 : n ≤ y) (h2 : y = n) : insStep n (acc, false) y = (acc ++ [n], true) := by simp [insStep, h2]
theorem insStep_c {n y : Int} {acc : List Int} (h1 : y < n) (h2 : ¬ y = n) : insStep n (acc, false) y = (acc ++ [y], false) := by
  have : ¬ n ≤ y := by omega
  simp [insStep, h2, this]
theorem insStep_d {n y : Int} {acc : List Int} (h2 : ¬ y = n) : insStep n (acc, true) y = (acc ++ [y], true) := by simp [insStep, h2]
end Go.Proofs
namespace Go.Proofs
open Go.AM
attribute [local irreducible] AM.evalR AM.evalD AM.Runs AM.valK AM.dK AM.opK AM.stepR AM.CallS AM.St.Le
end Go.Proofs
namespace Go.Proofs
open Go.AM
attribute [local irreducible] AM.evalR AM.evalD AM.Runs AM.valK AM.dK AM.opK AM.stepR AM.CallS AM.St.Le
end Go.Proofs
namespace Go.Proofs
open Go.AM
attribute [local irreducible] AM.evalR AM.evalD AM.Runs AM.valK AM.dK AM.opK AM.stepR AM.CallS AM.St.Le
end Go.Proofs
namespace Go.Proofs
open Go.AM
attribute [local irreducible] AM.evalR AM.evalD AM.Runs AM.valK AM.dK AM.opK AM.stepR AM.CallS AM.St.Le
def weighStep (w : WeightEntry) (s : List WeightEntry × Bool) (x : WeightEntry) : List WeightEntry × Bool :=
  if x.server = w.server then (s.1 ++ [if laterB w x = true then w else x], true)
  else if s.2 = false ∧ w.server < x.server then (s.1 ++ [w, x], true) else (s.1 ++ [x], s.2)
def weighR (l : List WeightEntry) (w : WeightEntry) : List WeightEntry := let s := l.foldl (weighStep w) ([], false); if s.2 = false then s.1 ++ [w] else s.1
end Go.Proofs
namespace Go.Proofs
open Go.AM
attribute [local irreducible] AM.evalR AM.evalD AM.Runs AM.valK AM.dK AM.opK AM.stepR AM.CallS AM.St.Le
end Go.Proofs
namespace Go.Proofs
open Go.AM
attribute [local irreducible] AM.evalR AM.evalD AM.Runs AM.valK AM.dK AM.opK AM.stepR AM.CallS AM.St.Le
end Go.Proofs
namespace Go.Proofs
open Go.AM
attribute [local irreducible] AM.evalR AM.evalD AM.Runs AM.valK AM.dK AM.opK AM.stepR AM.CallS AM.St.Le
def sum0 : Summary := ⟨[], [], [], ⟨0, 0, 0⟩, 0, 0, 0⟩
def ofTStep (p : Proposal) (s : Summary) (c : Change) : Summary :=
  if c.kind = 1 then { s with joined := insR s.joined c.server, weights := weighR s.weights ⟨c.server, c.weight, 0, p.admin, p.number⟩ }
  else if c.kind = 2 then { s with removed := insR s.removed c.server }
  else if c.kind = 3 then { s with weights := weighR s.weights ⟨c.server, c.weight, c.version, p.admin, p.number⟩ }
  else if c.kind = 4 then { s with rule := c.rule, version := c.version, admin := p.admin, number := p.number }
  else s
def ofT (p : Proposal) : Summary := p.changes.foldl (ofTStep p) sum0
end Go.Proofs
namespace Go.Proofs
open Go.AM
attribute [local irreducible] AM.evalR AM.evalD AM.Runs AM.valK AM.dK AM.opK AM.stepR AM.CallS AM.St.Le
theorem Short.mono {s : Summary} {m n : Nat} (h : Short s m) (hmn : m ≤ n) : Short s n := ⟨Nat.le_trans h.1 hmn, Nat.le_trans h.2.1 hmn, Nat.le_trans h.2.2 hmn⟩
end Go.Proofs
namespace Go.Proofs
open Go.AM
attribute [local irreducible] AM.evalR AM.evalD AM.Runs AM.valK AM.dK AM.opK AM.stepR AM.CallS AM.St.Le
end Go.Proofs
namespace Go.Proofs
open Go.AM
attribute [local irreducible] AM.evalR AM.evalD AM.Runs AM.valK AM.dK AM.opK AM.stepR AM.CallS AM.St.Le
end Go.Proofs
namespace Go.Proofs
open Go.AM
attribute [local irreducible] AM.evalR AM.evalD AM.Runs AM.valK AM.dK AM.opK AM.stepR AM.CallS AM.St.Le
def blk (f : Nat → Nat → Proposal) (a n : Nat) : Config := (List.range n).map (f a)
def cut (f : Nat → Nat → Proposal) (i j k : Nat) : Config := blk f 0 i ++ blk f 1 j ++ blk f 2 k
def Nice (f : Nat → Nat → Proposal) : Prop := ∀ a i, (f a i).admin = 201 + a ∧ (f a i).number = i + 1
def IsCut (f : Nat → Nat → Proposal) (c : Config) : Prop := ∃ i j k, (i < 4 ∧ j < 4 ∧ k < 4) ∧ c = cut f i j k
def key (p : Proposal) : Proposal := ⟨p.admin, p.number, []⟩
end Go.Proofs
namespace Go.Proofs
open Go.AM
attribute [local irreducible] AM.evalR AM.evalD AM.Runs AM.valK AM.dK AM.opK AM.stepR AM.CallS AM.St.Le
end Go.Proofs
namespace Go.Proofs
open Go.AM
attribute [local irreducible] AM.evalR AM.evalD AM.Runs AM.valK AM.dK AM.opK AM.stepR AM.CallS AM.St.Le
end Go.Proofs
namespace Go.Proofs
open Go.AM
attribute [local irreducible] AM.evalR AM.evalD AM.Runs AM.valK AM.dK AM.opK AM.stepR AM.CallS AM.St.Le
end Go.Proofs
namespace Go.Proofs
open Go.AM
attribute [local irreducible] AM.evalR AM.evalD AM.Runs AM.valK AM.dK AM.opK AM.stepR AM.CallS AM.St.Le
def RuleOK (r : Rule) : Prop := (1 ≤ r.kind ∧ r.kind ≤ 4) ∧ (r.kind = 3 → 1 ≤ r.columns ∧ r.columns ≤ 12) ∧ (r.kind ≠ 3 → r.columns = 0) ∧ (r.kind = 4 → 0 ≤ r.faulty ∧ r.faulty ≤ 12) ∧ (r.kind ≠ 4 → r.faulty = 0)
def ChangeOK (c : Change) : Prop := (c.kind = 1 ∧ (1 ≤ c.server ∧ c.server ≤ 12) ∧ (1 ≤ c.weight ∧ c.weight ≤ 9) ∧ c.version = 0 ∧ c.rule = ⟨0, 0, 0⟩) ∨ (c.kind = 2 ∧ (1 ≤ c.server ∧ c.server ≤ 12) ∧ c.weight = 0 ∧ c.version = 0 ∧ c.rule = ⟨0, 0, 0⟩) ∨
  (c.kind = 3 ∧ (1 ≤ c.server ∧ c.server ≤ 12) ∧ (1 ≤ c.weight ∧ c.weight ≤ 9) ∧ (1 ≤ c.version ∧ c.version ≤ 1000) ∧ c.rule = ⟨0, 0, 0⟩) ∨ (c.kind = 4 ∧ c.server = 0 ∧ c.weight = 0 ∧ (1 ≤ c.version ∧ c.version ≤ 1000) ∧ RuleOK c.rule)
def PropOK (p : Proposal) : Prop := (201 ≤ p.admin ∧ p.admin < 204) ∧ (1 ≤ p.number ∧ p.number ≤ 3) ∧ (1 ≤ p.changes.length ∧ p.changes.length ≤ 6) ∧ (∀ c ∈ p.changes, ChangeOK c) ∧
  ∀ i k : Nat, k < i → i < p.changes.length → ¬ ((p.changes.getD k default).kind = (p.changes.getD i default).kind ∧ (p.changes.getD k default).server = (p.changes.getD i default).server)
end Go.Proofs
namespace Go.Proofs
open Go.AM
attribute [local irreducible] AM.evalR AM.evalD AM.Runs AM.valK AM.dK AM.opK AM.stepR AM.CallS AM.St.Le
end Go.Proofs
namespace Go.Proofs
open Go.AM
attribute [local irreducible] AM.evalR AM.evalD AM.Runs AM.valK AM.dK AM.opK AM.stepR AM.CallS AM.St.Le
theorem getD_in {α : Type} [Inhabited α] {l : List α} {i : Nat} (h : i < l.length) : l.getD i default ∈ l := by
  rw [List.getD_eq_getElem?_getD, List.getElem?_eq_getElem h]; exact List.getElem_mem h
end Go.Proofs
namespace Go.Proofs
open Go.AM
attribute [local irreducible] AM.evalR AM.evalD AM.Runs AM.valK AM.dK AM.opK AM.stepR AM.CallS AM.St.Le
end Go.Proofs
namespace Go.Proofs
open Go.AM
attribute [local irreducible] AM.evalR AM.evalD AM.Runs AM.valK AM.dK AM.opK AM.stepR AM.CallS AM.St.Le
end Go.Proofs
namespace Go.Proofs
open Go.AM
attribute [local irreducible] AM.evalR AM.evalD AM.Runs AM.valK AM.dK AM.opK AM.stepR AM.CallS AM.St.Le
theorem strict_ext : ∀ {a b : List Int}, a.Pairwise (· < ·) → b.Pairwise (· < ·) → (∀ x, x ∈ a ↔ x ∈ b) → a = b
  | [], [], _, _, _ => rfl
  | [], y :: b, _, _, h => absurd ((h y).2 (by simp)) (by simp)
  | x :: a, [], _, _, h => absurd ((h x).1 (by simp)) (by simp)
  | x :: a, y :: b, ha, hb, h => by
    rw [List.pairwise_cons] at ha hb
    have hxy : x = y := by
      rcases List.mem_cons.1 ((h x).1 (by simp)) with e | e
      · exact e
      · rcases List.mem_cons.1 ((h y).2 (by simp)) with e' | e'
        · exact e'.symm
        · have := hb.1 _ e; have := ha.1 _ e'; omega
    subst hxy
    congr 1
    refine strict_ext ha.2 hb.2 fun z => ⟨fun hz => ?_, fun hz => ?_⟩
    · rcases List.mem_cons.1 ((h z).1 (by simp [hz])) with e | e
      · have := ha.1 _ hz; omega
      · exact e
    · rcases List.mem_cons.1 ((h z).2 (by simp [hz])) with e | e
      · have := hb.1 _ hz; omega
      · exact e
theorem at_arr (zs : List Int) (j : Nat) (h : j < zs.length) : zs.toArray[j]! = zs[j] := by simp [h]
theorem compactI_strict {zs : List Int} (h : zs.Pairwise (· ≤ ·)) : (compactI zs).Pairwise (· < ·) := by
  unfold compactI Lib.compact Lib.compactUpTo
  rw [List.pairwise_map]
  refine List.Pairwise.imp_of_mem ?_ (List.Pairwise.filter _ List.pairwise_lt_range)
  intro i j hi hj hij
  rw [List.mem_filter, List.mem_range] at hi hj
  have hk := hj.2
  unfold Lib.keeps at hk
  rw [decide_eq_true_eq] at hk
  rw [List.pairwise_iff_getElem] at h
  rw [at_arr zs i hi.1, at_arr zs j hj.1]
  rw [at_arr zs j hj.1, at_arr zs (j - 1) zo] at hk
  have h1 := h (j - 1) j zo hj.1 zo
  have h2 : zs[i] ≤ zs[j - 1] := by
    by_cases e : i = j - 1
    · subst e; exact Int.le_refl _
    · exact h i (j - 1) hi.1 zo zo
  rcases hk with e | e
  · omega
  · omega
theorem mem_compactI {zs : List Int} {x : Int} : x ∈ compactI zs ↔ x ∈ zs := by
  unfold compactI Lib.compact Lib.compactUpTo
  simp only [List.mem_map, List.mem_filter, List.mem_range]
  constructor
  · rintro ⟨j, ⟨hj, _⟩, rfl⟩
    rw [at_arr zs j hj]; exact List.getElem_mem hj
  · intro hx
    obtain ⟨j, hj, e⟩ := List.mem_iff_getElem.1 hx
    induction j with
    | zero => exact ⟨0, ⟨hj, by simp [Lib.keeps]⟩, by rw [at_arr zs 0 hj, e]⟩
    | succ j ih =>
      by_cases h : zs[j]'zo = x
      · exact ih zo h
      · refine ⟨j + 1, ⟨hj, ?_⟩, by rw [at_arr zs _ hj, e]⟩
        unfold Lib.keeps
        rw [decide_eq_true_eq, at_arr zs _ hj, e, Nat.add_sub_cancel, at_arr zs j zo]
        exact .inr (fun q => h q.symm)
theorem sortI_le (zs : List Int) : (sortI zs).Pairwise (· ≤ ·) := by
  have := List.pairwise_mergeSort (le := fun a b : Int => decide (a ≤ b)) (fun a b c h1 h2 => by simp at *; omega) (fun a b => by simp; omega) zs
  exact List.Pairwise.imp (fun h => by simpa using h) this
theorem mem_sortI {zs : List Int} {x : Int} : x ∈ sortI zs ↔ x ∈ zs := List.mem_mergeSort
theorem mem_insFold (n x : Int) : ∀ (l : List Int) (s : List Int × Bool), ((x ∈ (l.foldl (insStep n) s).1 ↔ x ∈ s.1 ∨ (x ∈ l ∧ x ≠ n) ∨ (x = n ∧ s.2 = false ∧ (l.foldl (insStep n) s).2 = true)) ∧ (s.2 = true → (l.foldl (insStep n) s).2 = true))
  | [], s => by
    constructor
    · simp only [List.foldl_nil, List.not_mem_nil, false_and, false_or]
      constructor
      · intro h; exact .inl h
      · rintro (h | ⟨_, h1, h2⟩)
        · exact h
        · rw [h1] at h2; cases h2
    · intro h; exact h
  | y :: l, s => by
    obtain ⟨h1, h2⟩ := mem_insFold n x l (insStep n s y)
    rw [List.foldl_cons]
    obtain ⟨acc, put⟩ := s
    by_cases e : y = n <;> by_cases g : n ≤ y <;> cases put <;> simp [insStep, e, g] at h1 h2 ⊢ <;> (try omega) <;> (generalize (List.foldl _ _ l) = t at *; obtain ⟨t1, t2⟩ := t; cases t2 <;> simp at * <;> (try subst e) <;> (try (constructor <;> intros <;> simp_all <;> omega)) <;> (try grind))
theorem mem_insR (l : List Int) (n x : Int) : x ∈ insR l n ↔ x ∈ l ∨ x = n := by
  have h := (mem_insFold n x l ([], false)).1
  unfold insR
  dsimp only
  generalize l.foldl (insStep n) ([], false) = t at *
  obtain ⟨t1, t2⟩ := t
  cases t2 <;> simp at h ⊢ <;> rw [h] <;> by_cases e : x = n <;> simp [e]
theorem mem_foldl {f : List Int → Int → List Int} (hf : ∀ l n x, x ∈ f l n ↔ x ∈ l ∨ x = n) : ∀ (b a : List Int) (x : Int), x ∈ b.foldl f a ↔ x ∈ a ∨ x ∈ b
  | [], a, x => by simp
  | n :: b, a, x => by rw [List.foldl_cons, mem_foldl hf b (f a n) x, hf, List.mem_cons, or_assoc]
theorem mem_spanI (vs : List View) (x : Int) : x ∈ spanI vs ↔ ∃ v ∈ vs, x ∈ srv v := by
  unfold spanI distinctI
  rw [mem_compactI, mem_sortI, List.mem_flatten]
  constructor
  · rintro ⟨l, hl, hx⟩
    obtain ⟨v, hv, rfl⟩ := List.mem_map.1 hl
    exact ⟨v, hv, hx⟩
  · rintro ⟨v, hv, hx⟩
    exact ⟨srv v, List.mem_map.2 ⟨v, hv, rfl⟩, hx⟩
theorem span_strict (vs : List View) : (spanI vs).Pairwise (· < ·) := compactI_strict (sortI_le _)
theorem sum_le_mul {l : List Nat} {m : Nat} (h : ∀ x ∈ l, x ≤ m) : l.sum ≤ l.length * m := by
  induction l with
  | nil => simp
  | cons x l ih =>
    have := ih (fun y hy => h y (by simp [hy]))
    have := h x (by simp)
    rw [List.sum_cons, List.length_cons, Nat.add_mul]; omega
theorem view_len {g : View} (hg : g.members.length ≤ 1000) {c : Config} (hc : c.length ≤ 100) (hp : ∀ p ∈ c, Plain p) : (viewOf g c).members.length ≤ 200000 := by
  have h := (sumS_short hg c (fun p q => (hp p q).1)).1
  show ((List.filter _ (sumS g c).joined).map _).length ≤ _
  rw [List.length_map]
  exact Nat.le_trans (List.length_filter_le _ _) zo
end Go.Proofs
namespace Go.Proofs
open Go.AM
attribute [local irreducible] AM.evalR AM.evalD AM.Runs AM.valK AM.dK AM.opK AM.stepR AM.CallS AM.St.Le
theorem bs_spec (k : Nat → Int) (i j : Nat) (hij : i ≤ j) (hm : ∀ s t, i ≤ s → s ≤ t → t < j → k t < 0 → k s < 0) :
    (i ≤ bs k i j ∧ bs k i j ≤ j) ∧ (∀ t, i ≤ t → t < bs k i j → k t < 0) ∧ ∀ t, bs k i j ≤ t → t < j → ¬ k t < 0 := by
  by_cases h : i < j
  · rw [bs.eq_1, dif_pos h]
    by_cases h2 : k ((i + j) / 2) < 0
    · rw [if_pos h2]
      obtain ⟨⟨a1, a2⟩, a3, a4⟩ := bs_spec k ((i + j) / 2 + 1) j zo (fun s t h1 h3 h4 => hm s t zo h3 h4)
      refine ⟨⟨by omega, a2⟩, fun t h5 h6 => ?_, a4⟩
      by_cases h7 : t ≤ (i + j) / 2
      · exact hm t _ h5 h7 zo h2
      · exact a3 t zo h6
    · rw [if_neg h2]
      obtain ⟨⟨a1, a2⟩, a3, a4⟩ := bs_spec k i ((i + j) / 2) zo (fun s t h1 h3 h4 => hm s t h1 h3 zo)
      refine ⟨⟨a1, by omega⟩, a3, fun t h5 h6 => ?_⟩
      by_cases h7 : t < (i + j) / 2
      · exact a4 t h5 h7
      · intro h8
        exact h2 (hm _ t zo zo h6 h8)
  · rw [bs.eq_1, dif_neg h]
    exact ⟨⟨Nat.le_refl _, hij⟩, fun t h1 h2 => by omega, fun t h1 h2 => by omega⟩
termination_by j - i
abbrev StrictI (l : List Int) : Prop := l.Pairwise (· < ·)
def insRec (n : Int) : List Int → List Int
  | [] => [n]
  | y :: ys => if y = n then y :: ys else if n < y then n :: y :: ys else y :: insRec n ys
theorem mem_insRec (n x : Int) : ∀ l, x ∈ insRec n l ↔ x ∈ l ∨ x = n
  | [] => by simp [insRec]
  | y :: ys => by
    rw [insRec]
    split
    · rename_i h; subst h; simp; intro h; exact .inl h
    · split
      · simp [or_comm]
      · rw [List.mem_cons, mem_insRec n x ys, List.mem_cons, or_assoc]
theorem insRec_strict (n : Int) : ∀ {l : List Int}, StrictI l → StrictI (insRec n l)
  | [], _ => by simp [insRec]
  | y :: ys, h => by
    replace h := List.pairwise_cons.1 h
    rw [insRec]
    split
    · exact List.pairwise_cons.2 h
    · split
      · refine List.pairwise_cons.2 ⟨fun z hz => ?_, List.pairwise_cons.2 h⟩
        rcases List.mem_cons.1 hz with rfl | hz
        · assumption
        · have := h.1 z hz; omega
      · refine List.pairwise_cons.2 ⟨fun z hz => ?_, insRec_strict n h.2⟩
        rcases (mem_insRec n z ys).1 hz with hz | rfl
        · exact h.1 z hz
        · omega
theorem insFold_put (n : Int) : ∀ (l acc : List Int), (∀ x ∈ l, x ≠ n) → l.foldl (insStep n) (acc, true) = (acc ++ l, true)
  | [], acc, _ => by simp
  | y :: ys, acc, h => by
    rw [List.foldl_cons, insStep_d (h y (by simp)), insFold_put n ys _ (fun x hx => h x (by simp [hx]))]
    simp
theorem insFold_rec (n : Int) : ∀ (l acc : List Int), StrictI l → (let s := l.foldl (insStep n) (acc, false); if s.2 = false then s.1 ++ [n] else s.1) = acc ++ insRec n l
  | [], acc, _ => by simp [insRec]
  | y :: ys, acc, h => by
    replace h := List.pairwise_cons.1 h
    rw [List.foldl_cons, insRec]
    by_cases e : y = n
    · rw [insStep_b zo e, if_pos e, insFold_put n ys _ (fun x hx => by have := h.1 x hx; omega)]
      simp [e]
    · by_cases g : n < y
      · rw [insStep_a zo e, if_neg e, if_pos g, insFold_put n ys _ (fun x hx => by have := h.1 x hx; omega)]
        simp
      · rw [insStep_c zo e, if_neg e, if_neg g, insFold_rec n ys _ h.2]
        simp
theorem insR_rec {l : List Int} (h : StrictI l) (n : Int) : insR l n = insRec n l := by
  have := insFold_rec n l [] h
  simpa [insR] using this
theorem insRec_append (n : Int) : ∀ (a b : List Int), (∀ x ∈ a, x < n) → insRec n (a ++ b) = a ++ insRec n b
  | [], b, _ => rfl
  | y :: a, b, h => by
    have := h y (by simp)
    rw [List.cons_append, insRec, if_neg zo, if_neg zo, insRec_append n a b (fun x hx => h x (by simp [hx]))]
    rfl
theorem strict_getD {l : List Int} (h : StrictI l) {i j : Nat} (hij : i < j) (hj : j < l.length) : l.getD i default < l.getD j default := by
  have := (List.pairwise_iff_getElem.1 h) i j zo hj hij
  rw [List.getD_eq_getElem?_getD, List.getD_eq_getElem?_getD, List.getElem?_eq_getElem hj, List.getElem?_eq_getElem (show i < l.length by omega)]
  exact this
theorem mem_take_getD {α : Type} [Inhabited α] {l : List α} {r : Nat} {x : α} (h : x ∈ l.take r) : ∃ t, t < r ∧ t < l.length ∧ l.getD t default = x := by
  obtain ⟨t, ht, e⟩ := List.mem_iff_getElem.1 h
  rw [List.length_take] at ht
  refine ⟨t, by omega, by omega, ?_⟩
  rw [List.getElem_take] at e
  rw [List.getD_eq_getElem?_getD, List.getElem?_eq_getElem zo]; exact e
theorem insI_rec {l : List Int} (h : StrictI l) (n : Int) : insI l n = insRec n l := by
  have hs := bs_spec (ltK l n) 0 l.length (Nat.zero_le _) (fun s t _ hst ht hk => by
    rw [ltK_neg] at hk ⊢
    by_cases e : s = t
    · subst e; exact hk
    · have := strict_getD h (show s < t by omega) ht; omega)
  change (0 ≤ bsI l n ∧ bsI l n ≤ l.length) ∧ (∀ t, 0 ≤ t → t < bsI l n → ltK l n t < 0) ∧ (∀ t, bsI l n ≤ t → t < l.length → ¬ ltK l n t < 0) at hs
  obtain ⟨⟨_, h1⟩, h2, h3⟩ := hs
  unfold insI foundI putI
  generalize bsI l n = r at *
  have ha : ∀ x ∈ l.take r, x < n := by
    intro x hx
    obtain ⟨t, ht, _, rfl⟩ := mem_take_getD hx
    exact ltK_neg.1 (h2 t (Nat.zero_le _) ht)
  have key : insRec n l = l.take r ++ insRec n (l.drop r) := by rw [← insRec_append n _ _ ha, List.take_append_drop]
  rw [key]
  by_cases hr : r < l.length
  · have h4 := h3 r (Nat.le_refl _) hr
    rw [ltK_neg] at h4
    rw [drop_getD hr, insRec]
    by_cases e : l.getD r default = n
    · rw [decide_eq_true ⟨hr, e⟩, if_pos rfl, if_pos e, ← drop_getD hr, List.take_append_drop]
    · rw [decide_eq_false (fun q => e q.2), if_neg zd, if_neg e, if_pos zo]
  · rw [decide_eq_false (fun q => hr q.1), if_neg zd, List.drop_of_length_le zo, insRec]
theorem insFoldl {f g : List Int → Int → List Int} (hf : ∀ l n, StrictI l → f l n = insRec n l) (hg : ∀ l n, StrictI l → g l n = insRec n l) : ∀ (b : List Int) {a : List Int}, StrictI a → b.foldl f a = b.foldl g a ∧ StrictI (b.foldl g a)
  | [], a, h => ⟨rfl, h⟩
  | n :: b, a, h => by
    have h2 := insRec_strict n h
    rw [List.foldl_cons, List.foldl_cons, hf a n h, hg a n h]
    exact insFoldl hf hg b h2
theorem unionI_R {a : List Int} (h : StrictI a) (b : List Int) : unionI a b = b.foldl insR a ∧ StrictI (b.foldl insR a) := insFoldl (fun l n h => insI_rec h n) (fun l n h => insR_rec h n) b h
abbrev StrictW (l : List WeightEntry) : Prop := l.Pairwise (fun a b => a.server < b.server)
def SortedS (s : Summary) : Prop := StrictI s.joined ∧ StrictI s.removed ∧ StrictW s.weights
def lk (l : List WeightEntry) (x : Int) : Option WeightEntry := l.find? fun w => decide (w.server = x)
end Go.Proofs
namespace Go.Proofs
open Go.AM
attribute [local irreducible] AM.evalR AM.evalD AM.Runs AM.valK AM.dK AM.opK AM.stepR AM.CallS AM.St.Le
structure OfInv (p : Proposal) (done : List Change) (s : Acc) (t : Summary) : Prop where
  sort : SortedS t
  j : s.j.Nodup ∧ (∀ x, x ∈ s.j ↔ ∃ c ∈ done, c.kind = 1 ∧ c.server = x) ∧ ∀ x, x ∈ t.joined ↔ x ∈ s.j
  r : s.r.Nodup ∧ (∀ x, x ∈ s.r ↔ ∃ c ∈ done, c.kind = 2 ∧ c.server = x) ∧ ∀ x, x ∈ t.removed ↔ x ∈ s.r
  w : ∀ x, lk t.weights x = getI s.m x
  e : ∀ x o, getI s.m x = some o → o.server = x ∧ (1 ≤ x ∧ x ≤ 12) ∧ o.admin = p.admin ∧ o.number = p.number ∧ (o.version = 0 ∨ 1 ≤ o.version ∧ ∃ c ∈ done, c.kind = 3 ∧ c.server = x)
  k : ∀ x, (∃ c ∈ done, c.kind = 1 ∧ c.server = x) → (getI s.m x).isSome = true
  ru : s.rule = t.rule ∧ s.ver = t.version ∧ s.adm = t.admin ∧ s.num = t.number
def MemOK (g : View) : Prop := (∀ m ∈ g.members, (1 ≤ m.server ∧ m.server ≤ 12) ∧ 1 ≤ m.weight ∧ m.weight ≤ 9) ∧ g.members.Pairwise (fun a b => a.server < b.server)
theorem strictI_len : ∀ {l : List Int} {lo hi : Int}, StrictI l → (∀ x ∈ l, lo ≤ x ∧ x ≤ hi) → (l.length : Int) ≤ max 0 (hi - lo + 1)
  | [], lo, hi, _, _ => by simp; omega
  | x :: l, lo, hi, h, hb => by
    replace h := List.pairwise_cons.1 h
    have h0 := hb x (by simp)
    have h1 := strictI_len (lo := x + 1) (hi := hi) h.2 (fun y hy => ⟨by have := h.1 y hy; omega, (hb y (by simp [hy])).2⟩)
    rw [List.length_cons]; omega
theorem MemOK.len {g : View} (h : MemOK g) : g.members.length ≤ 12 := by
  have := strictI_len (l := g.members.map (·.server)) (lo := 1) (hi := 12) (by rw [StrictI, List.pairwise_map]; exact h.2) (fun x hx => by obtain ⟨m, hm, rfl⟩ := List.mem_map.1 hx; exact (h.1 m hm).1)
  rw [List.length_map] at this; omega
end Go.Proofs
namespace Go.Proofs
open Go.AM
attribute [local irreducible] AM.evalR AM.evalD AM.Runs AM.valK AM.dK AM.opK AM.stepR AM.CallS AM.St.Le
end Go.Proofs
namespace Go.Proofs
open Go.AM
attribute [local irreducible] AM.evalR AM.evalD AM.Runs AM.valK AM.dK AM.opK AM.stepR AM.CallS AM.St.Le
def spanR (vs : List View) : List Int := (vs.flatMap srv).foldl insR []
theorem spanR_strict (vs : List View) : StrictI (spanR vs) := (unionI_R (a := []) List.Pairwise.nil _).2
theorem spanR_I (vs : List View) : spanR vs = spanI vs := by
  refine strict_ext (spanR_strict vs) (span_strict vs) fun x => ?_
  rw [mem_spanI]
  unfold spanR
  rw [mem_foldl mem_insR]
  simp
end Go.Proofs
namespace Go.Proofs
open Go.AM
attribute [local irreducible] AM.evalR AM.evalD AM.Runs AM.valK AM.dK AM.opK AM.stepR AM.CallS AM.St.Le
end Go.Proofs
namespace Go.Proofs
open Go.AM
attribute [local irreducible] AM.evalR AM.evalD AM.Runs AM.valK AM.dK AM.opK AM.stepR AM.CallS AM.St.Le
def Srv (x : Int) : Prop := 1 ≤ x ∧ x ≤ 12
def WOK (w : WeightEntry) : Prop := Srv w.server ∧ (1 ≤ w.weight ∧ w.weight ≤ 9) ∧ 0 ≤ w.version ∧ 0 ≤ w.admin ∧ 0 ≤ w.number
structure SumOK (s : Summary) : Prop where
  sort : SortedS s
  j : ∀ x ∈ s.joined, Srv x
  r : ∀ x ∈ s.removed, Srv x
  w : ∀ w ∈ s.weights, WOK w
  o : 0 ≤ s.version ∧ 0 ≤ s.admin ∧ 0 ≤ s.number
  ru : s.rule = ⟨0, 0, 0⟩ ∧ (s.version = 0 ∧ s.admin = 0 ∧ s.number = 0) ∨ s.rule ≠ ⟨0, 0, 0⟩ ∧ RuleOK s.rule
end Go.Proofs
namespace Go.Proofs
open Go.AM
attribute [local irreducible] AM.evalR AM.evalD AM.Runs AM.valK AM.dK AM.opK AM.stepR AM.CallS AM.St.Le
theorem laterB_iff (a b : WeightEntry) : laterB a b = true ↔ (b.version < a.version ∨ (a.version = b.version ∧ (b.admin < a.admin ∨ (a.admin = b.admin ∧ b.number < a.number)))) := by
  unfold laterB
  split
  · rw [decide_eq_true_eq]; omega
  · split
    · rw [decide_eq_true_eq]; omega
    · rw [decide_eq_true_eq]; omega
theorem laterB_not (a b : WeightEntry) : laterB a b = false ↔ ¬ (b.version < a.version ∨ (a.version = b.version ∧ (b.admin < a.admin ∨ (a.admin = b.admin ∧ b.number < a.number)))) := by
  rw [← laterB_iff]; simp
theorem laterB_irr (a : WeightEntry) : laterB a a = false := by rw [laterB_not]; omega
structure Is (A : List Summary) (s : Summary) : Prop where
  sort : SortedS s
  j : ∀ x, x ∈ s.joined ↔ ∃ t ∈ A, x ∈ t.joined
  r : ∀ x, x ∈ s.removed ↔ ∃ t ∈ A, x ∈ t.removed
  w1 : ∀ x o, lk s.weights x = some o → ∃ t ∈ A, lk t.weights x = some o
  w2 : ∀ x, ∀ t ∈ A, ∀ o', lk t.weights x = some o' → ∃ o, lk s.weights x = some o ∧ laterB o' o = false
  ru1 : ∃ t ∈ A, s.rule = t.rule ∧ s.version = t.version ∧ s.admin = t.admin ∧ s.number = t.number
  ru2 : ∀ t ∈ A, t.rule ≠ ⟨0, 0, 0⟩ → s.rule ≠ ⟨0, 0, 0⟩ ∧ laterB (originW t) (originW s) = false
structure Coh (A : List Summary) : Prop where
  w : ∀ t ∈ A, ∀ u ∈ A, ∀ x o o', lk t.weights x = some o → lk u.weights x = some o' → laterB o o' = false → laterB o' o = false → o = o'
  ru : ∀ t ∈ A, ∀ u ∈ A, t.rule ≠ ⟨0, 0, 0⟩ → u.rule ≠ ⟨0, 0, 0⟩ → laterB (originW t) (originW u) = false → laterB (originW u) (originW t) = false → t.rule = u.rule
  z : ∀ t ∈ A, t.rule = ⟨0, 0, 0⟩ → t.version = 0 ∧ t.admin = 0 ∧ t.number = 0
theorem Coh.mono {A B : List Summary} (h : Coh B) (k : ∀ t ∈ A, t ∈ B) : Coh A :=
  ⟨fun t ht u hu => h.w t (k t ht) u (k u hu), fun t ht u hu => h.ru t (k t ht) u (k u hu), fun t ht => h.z t (k t ht)⟩
theorem Is.congr {A B : List Summary} {s : Summary} (h : Is A s) (e : ∀ t, t ∈ A ↔ t ∈ B) : Is B s := by
  refine ⟨h.sort, fun x => ?_, fun x => ?_, fun x o q => ?_, fun x t ht => h.w2 x t ((e t).2 ht), ?_, fun t ht => h.ru2 t ((e t).2 ht)⟩
  · rw [h.j]; simp only [e]
  · rw [h.r]; simp only [e]
  · obtain ⟨t, ht, k⟩ := h.w1 x o q; exact ⟨t, (e t).1 ht, k⟩
  · obtain ⟨t, ht, k⟩ := h.ru1; exact ⟨t, (e t).1 ht, k⟩
theorem Is.one {t : Summary} (h : SortedS t) : Is [t] t := by
  refine ⟨h, fun x => by simp, fun x => by simp, fun x o q => ⟨t, by simp, q⟩, fun x u hu o q => ⟨o, ?_, laterB_irr o⟩, ⟨t, by simp, rfl, rfl, rfl, rfl⟩, fun u hu q => ?_⟩
  · rw [List.mem_singleton.1 hu] at q; exact q
  · rw [List.mem_singleton.1 hu] at q ⊢; exact ⟨q, laterB_irr _⟩
theorem mem_cutI {f : Nat → Nat → Proposal} {i j k : Nat} {p : Proposal} : p ∈ cut f i j k ↔ (∃ n, n < i ∧ p = f 0 n) ∨ (∃ n, n < j ∧ p = f 1 n) ∨ (∃ n, n < k ∧ p = f 2 n) := by
  simp only [cut, blk, List.mem_append, List.mem_map, List.mem_range, or_assoc, eq_comm]
theorem cut_sub {f : Nat → Nat → Proposal} {i j k i' j' k' : Nat} (h : i ≤ i' ∧ j ≤ j' ∧ k ≤ k') {p : Proposal} (hp : p ∈ cut f i j k) : p ∈ cut f i' j' k' := by
  rw [mem_cutI] at *
  rcases hp with ⟨n, hn, e⟩ | ⟨n, hn, e⟩ | ⟨n, hn, e⟩
  · exact .inl ⟨n, by omega, e⟩
  · exact .inr (.inl ⟨n, by omega, e⟩)
  · exact .inr (.inr ⟨n, by omega, e⟩)
structure Fam (f : Nat → Nat → Proposal) : Prop where
  nice : Nice f
  ok : ∀ a n, a < 3 → n < 3 → PropOK (f a n)
theorem Fam.sub {f : Nat → Nat → Proposal} {c : Config} (hc : IsCut f c) : ∀ p ∈ c, p ∈ cut f 3 3 3 := by
  obtain ⟨i, j, k, h, rfl⟩ := hc
  intro p hp
  exact cut_sub zo hp
theorem Fam.src {f : Nat → Nat → Proposal} {g : View} {c : Config} (hc : IsCut f c) : ∀ t ∈ initS g :: c.map ofT, t ∈ initS g :: (cut f 3 3 3).map ofT := by
  intro t ht
  rcases List.mem_cons.1 ht with rfl | ht
  · simp
  · obtain ⟨p, hp, rfl⟩ := List.mem_map.1 ht
    exact List.mem_cons_of_mem _ (List.mem_map.2 ⟨p, Fam.sub hc p hp, rfl⟩)
end Go.Proofs
namespace Go.Proofs
open Go.AM
attribute [local irreducible] AM.evalR AM.evalD AM.Runs AM.valK AM.dK AM.opK AM.stepR AM.CallS AM.St.Le
theorem da_bo (x : Bool) : (V.b x).data = true := rfl
theorem st_bo (xs : List Bool) : Storable (xs.map V.b) := Storable_map _ _ fun _ => rfl
theorem sd_bo (xs : List Bool) : Stride 1 (xs.map V.b) := Stride_map _ _ fun _ => rfl
theorem dl_bo (xs : List Bool) : V.dataL (xs.map V.b) = true := dataL_map _ _ fun _ => rfl
attribute [go_sem] da_bo st_bo sd_bo dl_bo
structure Source where
  server : Int
  filled : Bool
  deriving DecidableEq, Inhabited
def soV (s : Source) : V := .agg [.i s.server, .b s.filled]
theorem ce_soV (x : Source) : (soV x).cells = [.i x.server, .b x.filled] := rfl
theorem ok_soV (x : Source) : (soV x).okCells = true := rfl
theorem da_soV (x : Source) : (soV x).data = true := rfl
theorem st_soV (xs : List Source) : Storable (xs.map soV) := Storable_map _ _ fun _ => rfl
theorem sd_soV (xs : List Source) : Stride 2 (xs.map soV) := Stride_map _ _ fun _ => rfl
theorem dl_soV (xs : List Source) : V.dataL (xs.map soV) = true := dataL_map _ _ da_soV
theorem sp_soV (x : Source) (fo : Nat) (cs : List V) : splice (soV x) fo cs = .agg ((soV x).cells.take fo ++ cs ++ (soV x).cells.drop (fo + cs.length)) := rfl
theorem kl_soV (d : Nat) (x : Source) : V.kill d (soV x) = soV x := rfl
attribute [go_sem] sp_soV st_soV sd_soV da_soV dl_soV ce_soV ok_soV kl_soV
theorem cntB_take {l : List Bool} {i : Nat} (h : i < l.length) : cntB (l.take (i + 1)) = cntB (l.take i) + (if l.getD i default = true then 1 else 0) := by rw [take_getD h, cntB_snoc]
theorem quo_count (f : Bool) (l : List Bool) : AM.Fn Tryz.prog 213 [.sl f (l.map .b)] (.i (cntB l : Nat)) := by
  (refine spec_of_runs Tryz.func213 rfl ?_; simp only [Tryz.f213]; refine ys ?_)
  (refine Runs.lens 0 ?_; refine yl ?_)
  intro hl
  repeat' (first | refine yw ?_ | ((with_reducible refine Runs.is ?_); first | refine Runs.region (id := 0) ?_ | refine Runs.region (id := 1) ?_ | refine Runs.region (id := 2) ?_ | ((with_reducible refine Runs.isC ?_); refine Runs.cond rfl (zc ?_) (zc ?_) <;> intro hc <;> (try (first | contradiction | (exfalso; omega; done) | (have : hc = trivial := rfl; clear this; clear hc))))) | ((with_reducible refine r_is ?_); first | refine yr ?_) | fail)
  refine Runs.loopI (fun k : Nat => l.length - k) (fun k => k ≤ l.length)
    (fun k => ⟨[.any, .any, .any, .i (cntB (l.take k) : Nat), .any, .any, .sl f (l.map .b), .i (l.length : Nat), .i (k : Nat), .any, .any, .any, .any, .any, .any, .any, .any], []⟩) 0 (by simp) ?_ ?_
  · (refine St.Le.clean zR zU zV)
  intro k hk ih
  have hst := fun (h : k < l.length) => cntB_take h
  have hle := cntB_le (l.take k)
  rw [List.length_take] at hle
  have hend : l.length ≤ k → cntB (l.take k) = cntB l := fun h => by rw [List.take_of_length_le h]
  by_cases hlt : k < l.length
  · have hst2 := hst hlt
    generalize cntB (l.take k) = c at *
    repeat' (first | refine yw ?_ | ((with_reducible refine Runs.is ?_); first | refine Runs.region (id := 3) ?_ | refine Runs.region (id := 4) ?_ | refine Runs.region (id := 5) ?_ | refine Runs.region (id := 6) ?_ | refine Runs.region (id := 7) ?_ | ((with_reducible refine Runs.isC ?_); refine Runs.cond rfl (zc ?_) (zc ?_) <;> intro hc <;> (try (first | contradiction | (exfalso; omega; done) | (have : hc = trivial := rfl; clear this; clear hc))))) | ((with_reducible refine r_is ?_); first | refine yr ?_) | fail)
    · rw [if_pos hc] at hst2
      refine ih (k + 1) _ zo zo ?_
      rw [hst2]
      (refine St.Le.clean zR zU zV)
    · rw [if_neg (by rw [hc]; decide)] at hst2
      refine ih (k + 1) _ zo zo ?_
      rw [hst2]
      (refine St.Le.clean zR zU zV)
  · have he := hend zo
    rw [he]
    repeat' (first | refine yw ?_ | ((with_reducible refine Runs.is ?_); first | refine Runs.region (id := 3) ?_ | ((with_reducible refine Runs.isC ?_); refine Runs.cond rfl (zc ?_) (zc ?_) <;> intro hc <;> (try (first | contradiction | (exfalso; omega; done) | (have : hc = trivial := rfl; clear this; clear hc))))) | ((with_reducible refine r_is ?_); first | refine yr ?_) | fail)
    repeat' (first | refine yw ?_ | ((with_reducible refine Runs.is ?_); first | refine Runs.region (id := 8) ?_ | ((with_reducible refine Runs.isC ?_); refine Runs.cond rfl (zc ?_) (zc ?_) <;> intro hc <;> (try (first | contradiction | (exfalso; omega; done) | (have : hc = trivial := rfl; clear this; clear hc))))) | ((with_reducible refine r_is ?_); first | refine yr ?_) | fail)
    (refine Runs.ret1 Tryz.func213 rfl zM zD ?_; try exact zX)
def wInK (ms : List Member) (bs : List Bool) : Nat → Int
  | 0 => 0
  | k + 1 => wInK ms bs k + (if bs.getD k default = true then (ms.getD k default).weight else 0)
def wAllK (ms : List Member) : Nat → Int
  | 0 => 0
  | k + 1 => wAllK ms k + (ms.getD k default).weight
def Light (ms : List Member) : Prop := ms.length ≤ 1000 ∧ ∀ m ∈ ms, 0 ≤ m.weight ∧ m.weight ≤ 9
theorem wInK_bd {ms : List Member} (h : Light ms) (bs : List Bool) : ∀ k, k ≤ ms.length → 0 ≤ wInK ms bs k ∧ wInK ms bs k ≤ 9 * k
  | 0, _ => by simp [wInK]
  | k + 1, hk => by
    have := wInK_bd h bs k zo
    have := h.2 _ (getD_in (show k < ms.length by omega))
    rw [wInK]
    split <;> omega
theorem wAllK_bd {ms : List Member} (h : Light ms) : ∀ k, k ≤ ms.length → 0 ≤ wAllK ms k ∧ wAllK ms k ≤ 9 * k
  | 0, _ => by simp [wAllK]
  | k + 1, hk => by
    have := wAllK_bd h k zo
    have := h.2 _ (getD_in (show k < ms.length by omega))
    rw [wAllK]; omega
theorem quo_weighted (f g : Bool) (ms : List Member) (bs : List Bool) (hm : Light ms) (hl : bs.length = ms.length) : AM.Fn Tryz.prog 214 [.sl f (ms.map mbV), .sl g (bs.map .b)] (.b (decide (wAllK ms ms.length < 2 * wInK ms bs ms.length))) := by
  (refine spec_of_runs Tryz.func214 rfl ?_; simp only [Tryz.f214]; refine ys ?_)
  repeat' (first | refine yw ?_ | ((with_reducible refine Runs.is ?_); first | refine Runs.region (id := 0) ?_ | refine Runs.region (id := 1) ?_ | refine Runs.region (id := 2) ?_ | ((with_reducible refine Runs.isC ?_); refine Runs.cond rfl (zc ?_) (zc ?_) <;> intro hc <;> (try (first | contradiction | (exfalso; omega; done) | (have : hc = trivial := rfl; clear this; clear hc))))) | ((with_reducible refine r_is ?_); first | refine yr ?_) | fail)
  have hlen := hm.1
  refine Runs.loopI (fun k : Nat => ms.length - k) (fun k => k ≤ ms.length)
    (fun k => ⟨[.any, .sl g (bs.map .b), .any, .any, .any, .i (2 * wInK ms bs k), .i (wAllK ms k), .any, .any, .sl f (ms.map mbV), .i (ms.length : Nat), .i (k : Nat), .any, .any, .any, .any, .any, .any, .any, .any, .any, .any, .any, .any, .any, .any, .any, .any, .any, .any, .any, .any, .any], []⟩) 0 (by simp) ?_ ?_
  · (refine St.Le.clean zR zU zV)
  intro k hk ih
  have b1 := wInK_bd hm bs k hk
  have b2 := wAllK_bd hm k hk
  by_cases hlt : k < ms.length
  · have hw := hm.2 _ (getD_in hlt)
    have s1 : wInK ms bs (k + 1) = wInK ms bs k + (if bs.getD k default = true then (ms.getD k default).weight else 0) := rfl
    have s2 : wAllK ms (k + 1) = wAllK ms k + (ms.getD k default).weight := rfl
    generalize wInK ms bs k = x at *
    generalize wAllK ms k = y at *
    repeat' (first | refine yw ?_ | ((with_reducible refine Runs.is ?_); first | refine Runs.region (id := 3) ?_ | refine Runs.region (id := 4) ?_ | refine Runs.region (id := 5) ?_ | refine Runs.region (id := 6) ?_ | refine Runs.region (id := 7) ?_ | refine Runs.region (id := 8) ?_ | ((with_reducible refine Runs.isC ?_); refine Runs.cond rfl (zc ?_) (zc ?_) <;> intro hc <;> (try (first | contradiction | (exfalso; omega; done) | (have : hc = trivial := rfl; clear this; clear hc))))) | ((with_reducible refine r_is ?_); first | refine yr ?_) | fail)
    · rw [if_pos hc] at s1
      refine ih (k + 1) _ zo zo ?_
      rw [s1, s2, Int.mul_add]
      (refine St.Le.clean zR zU zV)
    · rw [if_neg (by rw [hc]; decide)] at s1
      refine ih (k + 1) _ zo zo ?_
      rw [s1, s2, Int.add_zero]
      (refine St.Le.clean zR zU zV)
  · obtain rfl : k = ms.length := by omega
    repeat' (first | refine yw ?_ | ((with_reducible refine Runs.is ?_); first | refine Runs.region (id := 3) ?_ | ((with_reducible refine Runs.isC ?_); refine Runs.cond rfl (zc ?_) (zc ?_) <;> intro hc <;> (try (first | contradiction | (exfalso; omega; done) | (have : hc = trivial := rfl; clear this; clear hc))))) | ((with_reducible refine r_is ?_); first | refine yr ?_) | fail)
    repeat' (first | refine yw ?_ | ((with_reducible refine Runs.is ?_); first | refine Runs.region (id := 9) ?_ | ((with_reducible refine Runs.isC ?_); refine Runs.cond rfl (zc ?_) (zc ?_) <;> intro hc <;> (try (first | contradiction | (exfalso; omega; done) | (have : hc = trivial := rfl; clear this; clear hc))))) | ((with_reducible refine r_is ?_); first | refine yr ?_) | fail)
    (refine Runs.ret1 Tryz.func214 rfl zM zD ?_; try exact zX)
end Go.Proofs
namespace Go.Proofs
open Go.AM
attribute [local irreducible] AM.evalR AM.evalD AM.Runs AM.valK AM.dK AM.opK AM.stepR AM.CallS AM.St.Le
structure Effect where
  kind : Int
  object : ByteArray
  field : ByteArray
  n : Int
  s : ByteArray
  deriving DecidableEq, Inhabited
def efV (x : Effect) : V := .agg [.i x.kind, .sc (.string x.object), .sc (.string x.field), .i x.n, .sc (.string x.s)]
theorem ce_efV (x : Effect) : (efV x).cells = [.i x.kind, .sc (.string x.object), .sc (.string x.field), .i x.n, .sc (.string x.s)] := rfl
theorem ok_efV (x : Effect) : (efV x).okCells = true := rfl
theorem da_efV (x : Effect) : (efV x).data = true := rfl
theorem st_efV (xs : List Effect) : Storable (xs.map efV) := Storable_map _ _ fun _ => rfl
theorem sd_efV (xs : List Effect) : Stride 5 (xs.map efV) := Stride_map _ _ fun _ => rfl
theorem dl_efV (xs : List Effect) : V.dataL (xs.map efV) = true := dataL_map _ _ da_efV
theorem sp_efV (x : Effect) (fo : Nat) (cs : List V) : splice (efV x) fo cs = .agg ((efV x).cells.take fo ++ cs ++ (efV x).cells.drop (fo + cs.length)) := rfl
theorem kl_efV (d : Nat) (x : Effect) : V.kill d (efV x) = efV x := rfl
theorem fz_efV (d : Nat) (u z : V) (x : Effect) : V.frz d u z (efV x) = efV x := V.frz_data d u z _ (da_efV x)
attribute [go_sem] sp_efV st_efV sd_efV da_efV dl_efV ce_efV ok_efV kl_efV fz_efV
structure Update where
  client : Int
  seq : Int
  tag : Int
  effects : List Effect
  deriving DecidableEq, Inhabited
def upV (x : Update) : V := .agg [.i x.client, .i x.seq, .i x.tag, .sl false (x.effects.map efV)]
theorem ce_upV (x : Update) : (upV x).cells = [.i x.client, .i x.seq, .i x.tag, .sl false (x.effects.map efV)] := rfl
theorem ok_upV (x : Update) : (upV x).okCells = true := rfl
theorem da_upV (x : Update) : (upV x).data = true := by simp [upV, V.data, V.dataL, dl_efV]
theorem st_upV (xs : List Update) : Storable (xs.map upV) := Storable_map _ _ fun _ => rfl
theorem sd_upV (xs : List Update) : Stride 4 (xs.map upV) := Stride_map _ _ fun _ => rfl
theorem dl_upV (xs : List Update) : V.dataL (xs.map upV) = true := dataL_map _ _ da_upV
theorem sp_upV (x : Update) (fo : Nat) (cs : List V) : splice (upV x) fo cs = .agg ((upV x).cells.take fo ++ cs ++ (upV x).cells.drop (fo + cs.length)) := rfl
theorem kl_upV (d : Nat) (x : Update) : V.kill d (upV x) = upV x := rfl
theorem fz_upV (d : Nat) (u z : V) (x : Update) : V.frz d u z (upV x) = upV x := V.frz_data d u z _ (da_upV x)
attribute [go_sem] sp_upV st_upV sd_upV da_upV dl_upV ce_upV ok_upV kl_upV fz_upV
structure Cert where
  «from» : Config
  to : Config
  deriving DecidableEq, Inhabited
def ceV (x : Cert) : V := .agg [.sl false (x.«from».map prV), .sl false (x.to.map prV)]
theorem ce_ceV (x : Cert) : (ceV x).cells = [.sl false (x.«from».map prV), .sl false (x.to.map prV)] := rfl
theorem ok_ceV (x : Cert) : (ceV x).okCells = true := rfl
theorem da_ceV (x : Cert) : (ceV x).data = true := by simp [ceV, V.data, V.dataL, dl_prV]
theorem st_ceV (xs : List Cert) : Storable (xs.map ceV) := Storable_map _ _ fun _ => rfl
theorem sd_ceV (xs : List Cert) : Stride 2 (xs.map ceV) := Stride_map _ _ fun _ => rfl
theorem dl_ceV (xs : List Cert) : V.dataL (xs.map ceV) = true := dataL_map _ _ da_ceV
theorem sp_ceV (x : Cert) (fo : Nat) (cs : List V) : splice (ceV x) fo cs = .agg ((ceV x).cells.take fo ++ cs ++ (ceV x).cells.drop (fo + cs.length)) := rfl
theorem kl_ceV (d : Nat) (x : Cert) : V.kill d (ceV x) = ceV x := rfl
theorem fz_ceV (d : Nat) (u z : V) (x : Cert) : V.frz d u z (ceV x) = ceV x := V.frz_data d u z _ (da_ceV x)
attribute [go_sem] sp_ceV st_ceV sd_ceV da_ceV dl_ceV ce_ceV ok_ceV kl_ceV fz_ceV
structure AccessID where
  process : Int
  number : Int
  deriving DecidableEq, Inhabited
def idV (x : AccessID) : V := .agg [.i x.process, .i x.number]
theorem ce_idV (x : AccessID) : (idV x).cells = [.i x.process, .i x.number] := rfl
theorem ok_idV (x : AccessID) : (idV x).okCells = true := rfl
theorem da_idV (x : AccessID) : (idV x).data = true := rfl
theorem st_idV (xs : List AccessID) : Storable (xs.map idV) := Storable_map _ _ fun _ => rfl
theorem sd_idV (xs : List AccessID) : Stride 2 (xs.map idV) := Stride_map _ _ fun _ => rfl
theorem dl_idV (xs : List AccessID) : V.dataL (xs.map idV) = true := dataL_map _ _ da_idV
theorem sp_idV (x : AccessID) (fo : Nat) (cs : List V) : splice (idV x) fo cs = .agg ((idV x).cells.take fo ++ cs ++ (idV x).cells.drop (fo + cs.length)) := rfl
theorem kl_idV (d : Nat) (x : AccessID) : V.kill d (idV x) = idV x := rfl
theorem fz_idV (d : Nat) (u z : V) (x : AccessID) : V.frz d u z (idV x) = idV x := V.frz_data d u z _ (da_idV x)
attribute [go_sem] sp_idV st_idV sd_idV da_idV dl_idV ce_idV ok_idV kl_idV fz_idV
structure Message where
  kind : Int
  «from» : Int
  to : Int
  access : AccessID
  round : Int
  mode : Int
  cert : Cert
  base : Cert
  hasBase : Bool
  established : Cert
  config : Config
  state : List Update
  «have» : Vector
  more : Bool
  deriving DecidableEq, Inhabited
def msV (x : Message) : V := .agg [.i x.kind, .i x.«from», .i x.to, .i x.access.process, .i x.access.number, .i x.round, .i x.mode, .sl false (x.cert.«from».map prV), .sl false (x.cert.to.map prV), .sl false (x.base.«from».map prV), .sl false (x.base.to.map prV), .b x.hasBase, .sl false (x.established.«from».map prV), .sl false (x.established.to.map prV), .sl false (x.config.map prV), .sl false (x.state.map upV), .sl false (x.«have».map enV), .b x.more]
theorem ce_msV (x : Message) : (msV x).cells = [.i x.kind, .i x.«from», .i x.to, .i x.access.process, .i x.access.number, .i x.round, .i x.mode, .sl false (x.cert.«from».map prV), .sl false (x.cert.to.map prV), .sl false (x.base.«from».map prV), .sl false (x.base.to.map prV), .b x.hasBase, .sl false (x.established.«from».map prV), .sl false (x.established.to.map prV), .sl false (x.config.map prV), .sl false (x.state.map upV), .sl false (x.«have».map enV), .b x.more] := rfl
theorem ok_msV (x : Message) : (msV x).okCells = true := rfl
theorem da_msV (x : Message) : (msV x).data = true := by simp [msV, V.data, V.dataL, dl_prV, dl_upV, dl_enV]
theorem st_msV (xs : List Message) : Storable (xs.map msV) := Storable_map _ _ fun _ => rfl
theorem sd_msV (xs : List Message) : Stride 18 (xs.map msV) := Stride_map _ _ fun _ => rfl
theorem dl_msV (xs : List Message) : V.dataL (xs.map msV) = true := dataL_map _ _ da_msV
theorem sp_msV (x : Message) (fo : Nat) (cs : List V) : splice (msV x) fo cs = .agg ((msV x).cells.take fo ++ cs ++ (msV x).cells.drop (fo + cs.length)) := rfl
theorem kl_msV (d : Nat) (x : Message) : V.kill d (msV x) = msV x := rfl
theorem fz_msV (d : Nat) (u z : V) (x : Message) : V.frz d u z (msV x) = msV x := V.frz_data d u z _ (da_msV x)
attribute [go_sem] sp_msV st_msV sd_msV da_msV dl_msV ce_msV ok_msV kl_msV fz_msV
structure Job where
  active : Bool
  «from» : Config
  to : Config
  done : List Source
  deriving DecidableEq, Inhabited
def joV (x : Job) : V := .agg [.b x.active, .sl false (x.«from».map prV), .sl false (x.to.map prV), .sl false (x.done.map soV)]
theorem ce_joV (x : Job) : (joV x).cells = [.b x.active, .sl false (x.«from».map prV), .sl false (x.to.map prV), .sl false (x.done.map soV)] := rfl
theorem ok_joV (x : Job) : (joV x).okCells = true := rfl
theorem da_joV (x : Job) : (joV x).data = true := by simp [joV, V.data, V.dataL, dl_prV, dl_soV]
theorem st_joV (xs : List Job) : Storable (xs.map joV) := Storable_map _ _ fun _ => rfl
theorem sd_joV (xs : List Job) : Stride 4 (xs.map joV) := Stride_map _ _ fun _ => rfl
theorem dl_joV (xs : List Job) : V.dataL (xs.map joV) = true := dataL_map _ _ da_joV
theorem sp_joV (x : Job) (fo : Nat) (cs : List V) : splice (joV x) fo cs = .agg ((joV x).cells.take fo ++ cs ++ (joV x).cells.drop (fo + cs.length)) := rfl
theorem kl_joV (d : Nat) (x : Job) : V.kill d (joV x) = joV x := rfl
theorem fz_joV (d : Nat) (u z : V) (x : Job) : V.frz d u z (joV x) = joV x := V.frz_data d u z _ (da_joV x)
attribute [go_sem] sp_joV st_joV sd_joV da_joV dl_joV ce_joV ok_joV kl_joV fz_joV
structure Replica where
  server : Int
  genesis : View
  config : Config
  state : List Update
  base : Cert
  hasBase : Bool
  established : Cert
  job : Job
  deriving DecidableEq, Inhabited
def rpV (x : Replica) : V := .agg [.i x.server, .sl false (x.genesis.members.map mbV), .i x.genesis.rule.kind, .i x.genesis.rule.columns, .i x.genesis.rule.faulty, .sl false (x.config.map prV), .sl false (x.state.map upV), .sl false (x.base.«from».map prV), .sl false (x.base.to.map prV), .b x.hasBase, .sl false (x.established.«from».map prV), .sl false (x.established.to.map prV), .b x.job.active, .sl false (x.job.«from».map prV), .sl false (x.job.to.map prV), .sl false (x.job.done.map soV)]
theorem ce_rpV (x : Replica) : (rpV x).cells = [.i x.server, .sl false (x.genesis.members.map mbV), .i x.genesis.rule.kind, .i x.genesis.rule.columns, .i x.genesis.rule.faulty, .sl false (x.config.map prV), .sl false (x.state.map upV), .sl false (x.base.«from».map prV), .sl false (x.base.to.map prV), .b x.hasBase, .sl false (x.established.«from».map prV), .sl false (x.established.to.map prV), .b x.job.active, .sl false (x.job.«from».map prV), .sl false (x.job.to.map prV), .sl false (x.job.done.map soV)] := rfl
theorem ok_rpV (x : Replica) : (rpV x).okCells = true := rfl
theorem da_rpV (x : Replica) : (rpV x).data = true := by simp [rpV, V.data, V.dataL, dl_mbV, dl_prV, dl_upV, dl_soV]
theorem st_rpV (xs : List Replica) : Storable (xs.map rpV) := Storable_map _ _ fun _ => rfl
theorem sd_rpV (xs : List Replica) : Stride 16 (xs.map rpV) := Stride_map _ _ fun _ => rfl
theorem dl_rpV (xs : List Replica) : V.dataL (xs.map rpV) = true := dataL_map _ _ da_rpV
theorem sp_rpV (x : Replica) (fo : Nat) (cs : List V) : splice (rpV x) fo cs = .agg ((rpV x).cells.take fo ++ cs ++ (rpV x).cells.drop (fo + cs.length)) := rfl
theorem kl_rpV (d : Nat) (x : Replica) : V.kill d (rpV x) = rpV x := rfl
theorem fz_rpV (d : Nat) (u z : V) (x : Replica) : V.frz d u z (rpV x) = rpV x := V.frz_data d u z _ (da_rpV x)
attribute [go_sem] sp_rpV st_rpV sd_rpV da_rpV dl_rpV ce_rpV ok_rpV kl_rpV fz_rpV
theorem fz_soV (d : Nat) (u z : V) (x : Source) : V.frz d u z (soV x) = soV x := V.frz_data d u z _ (da_soV x)
attribute [go_sem] fz_soV
theorem eqc_so (a b : Source) : eqCells [.i a.server, .b a.filled] [.i b.server, .b b.filled] = decide (a = b) := by
  obtain ⟨a1, a2⟩ := a
  obtain ⟨b1, b2⟩ := b
  cases a2 <;> cases b2 <;> simp [eqCells, Source.mk.injEq, Bool.decide_and]
end Go.Proofs
namespace Go.Proofs
open Go.AM
attribute [local irreducible] AM.evalR AM.evalD AM.Runs AM.valK AM.dK AM.opK AM.stepR AM.CallS AM.St.Le
theorem bo_getD {l : List Bool} {i : Nat} (h : i < l.length) : (l.map V.b).getD i .any = V.b (l.getD i false) := by
  rw [List.getD_eq_getElem?_getD, List.getElem?_map, List.getElem?_eq_getElem h, List.getD_eq_getElem?_getD, List.getElem?_eq_getElem h]; rfl
theorem bools_rel {E : Env} {g o : Nat} {l : List Bool} (hF : E.F g) (hl : l.length ≤ 1000000) (hr : ∀ j, j < l.length → E.w.cell? ⟨g, o + j, none⟩ = some (.bool (l.getD j false))) : Rel E (.slice (some ⟨g, o, none⟩) l.length l.length) (.sl true (l.map .b)) := by
  have := Rel.sl (E := E) true (l.map V.b) g o l.length 1 (fun k => .bool (l.getD k false)) (dl_bo l) (by simp) (by simp [maxLen]; omega) (fun _ => by simp) hF zd (fun i hi => by
    rw [List.length_map] at hi
    rw [List.getD_eq_getElem?_getD, List.getElem?_map, List.getElem?_eq_getElem hi]; rfl) (fun k hk => hr k (by simpa using hk)) (fun i j hi hj => by
    rw [List.length_map] at hi
    obtain rfl : j = 0 := by omega
    rw [Nat.mul_one, Nat.add_zero, bo_getD hi]
    exact Rel.sc _)
  rw [List.length_map] at this
  exact this
theorem countsB : CountsB := by
  intro w g o l hl hg hr
  have S : SimAt w (fun _ => False) (Owned [] (fun _ => undef)) [] (fun _ => undef) [.sl true (l.map .b)] [.slice (some ⟨g, o, none⟩) l.length l.length] w :=
    ⟨RelL.cons (bools_rel ⟨hg, id, fun id h => (by rw [AM.look_nil] at h; cases h)⟩ hl hr) (RelL.nil _), fun id o h => (by rw [AM.look_nil] at h; cases h), fun id id' b h => (by rw [AM.look_nil] at h; cases h), fun id b h => (by rw [AM.look_nil] at h; cases h), Ext.refl _ _, fun b h => h.elim⟩
  refine (quo_count true l w _ _ _ S).mono ?_
  rintro e w' ⟨r, H', x, loc', ⟨rfl, rfl⟩, rfl, S'⟩
  have hx := S'.vals.getD 0
  have hx : x = .int .i64 (cntB l : Nat) := Rel.sc_iff.1 hx
  subst hx
  exact ⟨rfl, S'.ext.os, S'.ext.tape, S'.ext.output, S'.ext.size, fun b hb => S'.ext.block b hb (by rintro ⟨id, h1, _⟩; rw [AM.look_nil] at h1; cases h1)⟩
theorem quo_grid (f : Bool) (c : Int) (hc : 1 ≤ c ∧ c ≤ 1000000) (bs : List Bool) (hne : bs ≠ []) (hl : bs.length ≤ 1000000) : AM.Fn Tryz.prog 215 [.i c, .sl f (bs.map .b)] (.b (gridB c bs)) := by
  intro w O xs loc S
  obtain ⟨x0, x1, rfl⟩ : ∃ x0 x1, xs = [x0, x1] := by
    have := S.vals.1
    match xs, this with
    | [x0, x1], _ => exact ⟨x0, x1, rfl⟩
  have r0 := S.vals.getD 0
  have r1 := S.vals.getD 1
  have r0 : x0 = .int .i64 c := Rel.sc_iff.1 r0
  subst r0
  change Rel _ x1 (.sl f (bs.map .b)) at r1
  have key : ∃ g off cap, x1 = .slice (some ⟨g, off, none⟩) bs.length cap ∧ bs.length ≤ cap ∧ cap ≤ maxLen ∧ g < w.heap.size ∧ ∀ j, j < bs.length → w.cell? ⟨g, off + j, none⟩ = some (.bool (bs.getD j false)) := by
    generalize hv : V.sl f (bs.map V.b) = v at r1
    cases r1 with
    | nil full a c h1 h2 =>
      injection hv with _ hv
      exact absurd (List.map_eq_nil_iff.1 hv) hne
    | sl full es g off c sz fv a1 a2 a3 a4 a5 a6 a7 a8 a9 =>
      injection hv with _ hv
      subst hv
      rw [List.length_map] at a2 a7 a8 a9 ⊢
      have hp : 0 < bs.length := List.length_pos_iff.2 hne
      have hsz : sz = 1 := by
        have := a7 0 hp
        rw [List.getD_eq_getElem?_getD, List.getElem?_map, List.getElem?_eq_getElem hp] at this
        exact this.symm
      subst hsz
      refine ⟨g, off, c, rfl, a2, a3, a5.1, fun j hj => ?_⟩
      have h8 := a8 j zo
      have h9 := a9 j 0 hj zd
      rw [Nat.mul_one, Nat.add_zero, bo_getD hj] at h9
      have h9 : fv j = .bool (bs.getD j false) := Rel.sc_iff.1 h9
      rw [h9] at h8
      exact h8
    | _ => cases hv
  obtain ⟨g, off, cap, rfl, h1, h2, h3, h4⟩ := key
  have hcc : ((c.toNat : Nat) : Int) = c := by omega
  have hG := grid_calls countsB c.toNat ⟨by omega, by omega⟩ bs hl w g off cap h1 (by have : maxLen = 9223372036854775807 := rfl; omega) h3 h4
  rw [hcc] at hG
  refine hG.mono ?_
  rintro e W' ⟨rfl, hB⟩
  have S' := S.grows (w' := W') ⟨hB.os, hB.tape, hB.output, hB.size, fun b hb _ => hB.block b hb⟩
  exact ⟨.b (gridB c bs), [], .bool (gridB c bs), loc, ⟨rfl, rfl⟩, rfl, ⟨RelL.cons (Rel.sc _) (RelL.nil _), S'.objs, S'.dist, S'.own, S'.ext, S'.O_lt⟩⟩
end Go.Proofs
namespace Go.Proofs
open Go.AM
attribute [local irreducible] AM.evalR AM.evalD AM.Runs AM.valK AM.dK AM.opK AM.stepR AM.CallS AM.St.Le
def quoB (v : View) (bs : List Bool) : Bool :=
  if v.members.length = 0 then false
  else if v.rule.kind = 1 then decide ((v.members.length : Int) < 2 * (cntB bs : Nat))
  else if v.rule.kind = 2 then decide (wAllK v.members v.members.length < 2 * wInK v.members bs v.members.length)
  else if v.rule.kind = 3 then gridB v.rule.columns bs
  else if v.rule.kind = 4 then decide (((v.members.length : Int) + v.rule.faulty + 2) / 2 ≤ (cntB bs : Nat))
  else false
theorem quo_contains (f : Bool) (v : View) (bs : List Bool) (hm : Light v.members) (hr : RuleOK v.rule) (hl : bs.length = v.members.length) : AM.Fn Tryz.prog 170 [viV v, .sl f (bs.map .b)] (.b (quoB v bs)) := by
  have hW := quo_weighted false f v.members bs hm hl
  have hC := quo_count f bs
  have hcb := cntB_le bs
  have hgo : ∀ e, quoB v bs = e → AM.Fn Tryz.prog 170 [viV v, .sl f (bs.map .b)] (.b e) := by
    intro e he
    unfold quoB at he
    obtain ⟨r1, r2, r3, r4, r5⟩ := hr
    have hlen := hm.1
    by_cases h0 : v.members.length = 0
    · rw [if_pos h0] at he
      subst he
      clear hW hC
      obtain ⟨ms, ru⟩ := v
      dsimp only at h0 hl
      (refine spec_of_runs Tryz.func170 rfl ?_; simp only [Tryz.f170]; refine ys ?_)
      repeat' (first | refine yw ?_ | ((with_reducible refine Runs.is ?_); first | refine Runs.region (id := 0) ?_ | refine Runs.region (id := 1) ?_ | refine Runs.region (id := 2) ?_ | refine Runs.region (id := 3) ?_ | ((with_reducible refine Runs.isC ?_); refine Runs.cond rfl (zc ?_) (zc ?_) <;> intro hc <;> (try (first | contradiction | (exfalso; omega; done) | (have : hc = trivial := rfl; clear this; clear hc))))) | ((with_reducible refine r_is ?_); first | refine yr ?_) | fail)
      (refine Runs.ret1 Tryz.func170 rfl zM zD ?_; try exact zX)
    rw [if_neg h0] at he
    have hG : v.rule.kind = 3 → AM.Fn Tryz.prog 215 [.i v.rule.columns, .sl f (bs.map .b)] (.b (gridB v.rule.columns bs)) := fun h => quo_grid f v.rule.columns (by have := r2 h; omega) bs (by rintro rfl; exact h0 hl.symm) zo
    generalize decide (wAllK v.members v.members.length < 2 * wInK v.members bs v.members.length) = wb at *
    generalize cntB bs = cn at *
    generalize gridB v.rule.columns bs = gb at *
    obtain ⟨ms, ⟨k, co, fa⟩⟩ := v
    dsimp only at *
    by_cases h1 : k = 1
    · subst h1
      rw [if_pos rfl] at he
      subst he
      (refine spec_of_runs Tryz.func170 rfl ?_; simp only [Tryz.f170]; refine ys ?_)
      repeat' (first | refine yw ?_ | ((with_reducible refine Runs.is ?_); first | refine Runs.region (id := 0) ?_ | refine Runs.region (id := 1) ?_ | refine Runs.region (id := 2) ?_ | refine Runs.region (id := 3) ?_ | refine Runs.region (id := 4) ?_ | refine Runs.region (id := 5) ?_ | refine Runs.region (id := 6) ?_ | ((with_reducible refine Runs.isC ?_); refine Runs.cond rfl (zc ?_) (zc ?_) <;> intro hc <;> (try (first | contradiction | (exfalso; omega; done) | (have : hc = trivial := rfl; clear this; clear hc))))) | ((with_reducible refine r_is ?_); first | refine yr ?_ | (refine r_fn rfl (hC) HbF.h zL1 zD ?_; refine r_nn zN zH ?_)) | fail)
      (refine Runs.ret1 Tryz.func170 rfl zM zD ?_; try exact zX)
    rw [if_neg h1] at he
    by_cases h2 : k = 2
    · subst h2
      rw [if_pos rfl] at he
      subst he
      (refine spec_of_runs Tryz.func170 rfl ?_; simp only [Tryz.f170]; refine ys ?_)
      repeat' (first | refine yw ?_ | ((with_reducible refine Runs.is ?_); first | refine Runs.region (id := 0) ?_ | refine Runs.region (id := 1) ?_ | refine Runs.region (id := 2) ?_ | refine Runs.region (id := 3) ?_ | refine Runs.region (id := 4) ?_ | refine Runs.region (id := 5) ?_ | refine Runs.region (id := 6) ?_ | refine Runs.region (id := 7) ?_ | refine Runs.region (id := 8) ?_ | ((with_reducible refine Runs.isC ?_); refine Runs.cond rfl (zc ?_) (zc ?_) <;> intro hc <;> (try (first | contradiction | (exfalso; omega; done) | (have : hc = trivial := rfl; clear this; clear hc))))) | ((with_reducible refine r_is ?_); first | refine yr ?_ | (refine r_fn rfl (hW) HbF.h zL2 zD ?_; refine r_nn zN zH ?_)) | fail)
      (refine Runs.ret1 Tryz.func170 rfl zM zD ?_; try exact zX)
    rw [if_neg h2] at he
    by_cases h3 : k = 3
    · subst h3
      rw [if_pos rfl] at he
      subst he
      have hG3 := hG rfl
      clear hG
      (refine spec_of_runs Tryz.func170 rfl ?_; simp only [Tryz.f170]; refine ys ?_)
      repeat' (first | refine yw ?_ | ((with_reducible refine Runs.is ?_); first | refine Runs.region (id := 0) ?_ | refine Runs.region (id := 1) ?_ | refine Runs.region (id := 2) ?_ | refine Runs.region (id := 3) ?_ | refine Runs.region (id := 4) ?_ | refine Runs.region (id := 5) ?_ | refine Runs.region (id := 6) ?_ | refine Runs.region (id := 7) ?_ | refine Runs.region (id := 8) ?_ | refine Runs.region (id := 9) ?_ | refine Runs.region (id := 10) ?_ | ((with_reducible refine Runs.isC ?_); refine Runs.cond rfl (zc ?_) (zc ?_) <;> intro hc <;> (try (first | contradiction | (exfalso; omega; done) | (have : hc = trivial := rfl; clear this; clear hc))))) | ((with_reducible refine r_is ?_); first | refine yr ?_ | (refine r_fn rfl (hG3) HbF.h zL2 zD ?_; refine r_nn zN zH ?_)) | fail)
      (refine Runs.ret1 Tryz.func170 rfl zM zD ?_; try exact zX)
    rw [if_neg h3] at he
    obtain rfl : k = 4 := by omega
    rw [if_pos rfl] at he
    subst he
    have := r4 rfl
    clear hG
    (refine spec_of_runs Tryz.func170 rfl ?_; simp only [Tryz.f170]; refine ys ?_)
    repeat' (first | refine yw ?_ | ((with_reducible refine Runs.is ?_); first | refine Runs.region (id := 0) ?_ | refine Runs.region (id := 1) ?_ | refine Runs.region (id := 2) ?_ | refine Runs.region (id := 3) ?_ | refine Runs.region (id := 4) ?_ | refine Runs.region (id := 5) ?_ | refine Runs.region (id := 6) ?_ | refine Runs.region (id := 7) ?_ | refine Runs.region (id := 8) ?_ | refine Runs.region (id := 9) ?_ | refine Runs.region (id := 10) ?_ | refine Runs.region (id := 11) ?_ | refine Runs.drawn (id := 12) mixed zK ?_ | ((with_reducible refine Runs.isC ?_); refine Runs.cond rfl (zc ?_) (zc ?_) <;> intro hc <;> (try (first | contradiction | (exfalso; omega; done) | (have : hc = trivial := rfl; clear this; clear hc))))) | ((with_reducible refine r_is ?_); first | refine yr ?_ | (refine r_fn rfl (hC) HbF.h zL1 zD ?_; refine r_nn zN zH ?_)) | ((with_reducible refine d_is ?_); first | refine yd ?_ | (refine d_fn rfl (hC) HbF.h zL1 zD ?_; refine d_nn zN zH ?_)) | fail)
    (refine Runs.ret1 Tryz.func170 rfl zM zD ?_; try exact zX)
  exact hgo _ rfl
def inK (p : Member → Bool) (ms : List Member) : Nat → List Bool
  | 0 => List.replicate ms.length false
  | k + 1 => (inK p ms k).set k (p (ms.getD k default))
theorem inK_len (p : Member → Bool) (ms : List Member) : ∀ k, (inK p ms k).length = ms.length
  | 0 => by simp [inK]
  | k + 1 => by rw [inK, List.length_set, inK_len p ms k]
theorem inK_get (p : Member → Bool) (ms : List Member) : ∀ k, k ≤ ms.length → ∀ i, i < ms.length → (inK p ms k)[i]? = some (if i < k then p (ms.getD i default) else false)
  | 0, _, i, hi => by simp [inK, hi]
  | k + 1, hk, i, hi => by
    rw [inK, List.getElem?_set]
    by_cases e : k = i
    · subst e; rw [if_pos rfl, if_pos (by rw [inK_len]; omega), if_pos zo]
    · rw [if_neg e, inK_get p ms k zo i hi]
      congr 1
      by_cases h : i < k
      · rw [if_pos h, if_pos zo]
      · rw [if_neg h, if_neg zo]
theorem inK_all (p : Member → Bool) (ms : List Member) : inK p ms ms.length = ms.map p := by
  apply List.ext_getElem?
  intro i
  by_cases hi : i < ms.length
  · rw [inK_get p ms _ (Nat.le_refl _) i hi, if_pos hi, List.getElem?_map, List.getElem?_eq_getElem hi, List.getD_eq_getElem?_getD, List.getElem?_eq_getElem hi]; rfl
  · rw [List.getElem?_eq_none (by rw [inK_len]; omega), List.getElem?_eq_none (by rw [List.length_map]; omega)]
def inSrv (ss : List Int) (m : Member) : Bool := ss.contains m.server
theorem quo_IsQuorum (f : Bool) (v : View) (ss : List Int) (hm : Light v.members) (hr : RuleOK v.rule) : AM.Fn Tryz.prog 102 [viV v, .sl f (ss.map .i)] (.b (quoB v (v.members.map (inSrv ss)))) := by
  have hC := quo_contains false v (v.members.map (inSrv ss)) hm hr (by rw [List.length_map])
  have hlen := hm.1
  generalize quoB v (v.members.map (inSrv ss)) = res at *
  clear hm hr
  rw [← inK_all] at hC
  obtain ⟨ms, ru⟩ := v
  dsimp only at hC hlen
  (refine spec_of_runs Tryz.func102 rfl ?_; simp only [Tryz.f102]; refine ys ?_)
  repeat' (first | refine yw ?_ | ((with_reducible refine Runs.is ?_); first | refine Runs.region (id := 0) ?_ | refine Runs.region (id := 1) ?_ | refine Runs.region (id := 2) ?_ | ((with_reducible refine Runs.isC ?_); refine Runs.cond rfl (zc ?_) (zc ?_) <;> intro hc <;> (try (first | contradiction | (exfalso; omega; done) | (have : hc = trivial := rfl; clear this; clear hc))))) | ((with_reducible refine r_is ?_); first | refine yr ?_) | fail)
  refine Runs.loopI (fun k : Nat => ms.length - k) (fun k => k ≤ ms.length)
    (fun k => ⟨[.any, .sl f (ss.map .i), .ptr 2 0 0, .any, .any, .own 11, .any, .any, .any, .any, .any, .any, .any, .sl false (ms.map mbV), .i (ms.length : Nat), .i (k : Nat), .any, .any, .any, .any, .any, .any, .any, .any, .any, .any, .any, .any, .any, .any, .any], [(11, .lst 4 1 ((inK (inSrv ss) ms k).map .b)), (2, .var 79 (viV ⟨ms, ru⟩))]⟩) 0 zo ?_ ?_
  · show St.Le _ ⟨_, [(11, .lst 4 1 ((List.replicate ms.length false).map .b)), (2, .var 79 (viV ⟨ms, ru⟩))]⟩
    (refine St.Le.clean zR zU zV)
  intro k hk ih
  have hkl := inK_len (inSrv ss) ms k
  by_cases hlt : k < ms.length
  · have hS := contains_ints f ss (ms.getD k default).server
    have hst : inK (inSrv ss) ms (k + 1) = (inK (inSrv ss) ms k).set k (ss.contains (ms.getD k default).server) := rfl
    generalize ss.contains (ms.getD k default).server = b at *
    generalize inK (inSrv ss) ms k = acc at *
    repeat' (first | refine yw ?_ | ((with_reducible refine Runs.is ?_); first | refine Runs.region (id := 3) ?_ | refine Runs.region (id := 4) ?_ | refine Runs.region (id := 5) ?_ | refine Runs.region (id := 6) ?_ | ((with_reducible refine Runs.isC ?_); refine Runs.cond rfl (zc ?_) (zc ?_) <;> intro hc <;> (try (first | contradiction | (exfalso; omega; done) | (have : hc = trivial := rfl; clear this; clear hc))))) | ((with_reducible refine r_is ?_); first | refine yr ?_ | (refine r_fn rfl (hS) HbF.h zL2 zD ?_; refine r_nn zN zH ?_)) | fail)
    refine ih (k + 1) _ zo zo ?_
    rw [hst]
    (refine St.Le.clean zR zU zV)
  · obtain rfl : k = ms.length := by omega
    generalize inK (inSrv ss) ms ms.length = acc at *
    repeat' (first | refine yw ?_ | ((with_reducible refine Runs.is ?_); first | refine Runs.region (id := 3) ?_ | ((with_reducible refine Runs.isC ?_); refine Runs.cond rfl (zc ?_) (zc ?_) <;> intro hc <;> (try (first | contradiction | (exfalso; omega; done) | (have : hc = trivial := rfl; clear this; clear hc))))) | ((with_reducible refine r_is ?_); first | refine yr ?_) | fail)
    (refine Runs.weaken (St.Le.freeze_lst 11 rfl) ?_; refine yf ?_)
    repeat' (first | refine yw ?_ | ((with_reducible refine Runs.is ?_); first | refine Runs.region (id := 7) ?_ | ((with_reducible refine Runs.isC ?_); refine Runs.cond rfl (zc ?_) (zc ?_) <;> intro hc <;> (try (first | contradiction | (exfalso; omega; done) | (have : hc = trivial := rfl; clear this; clear hc))))) | ((with_reducible refine r_is ?_); first | refine yr ?_ | (refine r_fn rfl (hC) HbF.h zL2 zD ?_; refine r_nn zN zH ?_)) | fail)
    (refine Runs.ret1 Tryz.func102 rfl zM zD ?_; try exact zX)
end Go.Proofs
namespace Go.Proofs
open Go.AM
attribute [local irreducible] AM.evalR AM.evalD AM.Runs AM.valK AM.dK AM.opK AM.stepR AM.CallS AM.St.Le
end Go.Proofs
namespace Go.Proofs
open Go.AM
attribute [local irreducible] AM.evalR AM.evalD AM.Runs AM.valK AM.dK AM.opK AM.stepR AM.CallS AM.St.Le
def chosenR (l : List Source) (fl : Bool) : List Int := (l.filter fun a => !fl || a.filled).map (·.server)
end Go.Proofs
namespace Go.Proofs
open Go.AM
attribute [local irreducible] AM.evalR AM.evalD AM.Runs AM.valK AM.dK AM.opK AM.stepR AM.CallS AM.St.Le
end Go.Proofs
namespace Go.Proofs
open Go.AM
attribute [local irreducible] AM.evalR AM.evalD AM.Runs AM.valK AM.dK AM.opK AM.stepR AM.CallS AM.St.Le
def eqvB (a b : Config) : Bool := containsB a b && containsB b a
structure Fair (g : View) (l : List Config) : Prop where
  gl : g.members.length ≤ 1000
  n : l.length ≤ 1000
  c : ∀ c ∈ l, c.length ≤ 100 ∧ ∀ p ∈ c, Plain p
  v : ∀ c ∈ l, Light (viewOf g c).members ∧ RuleOK (viewOf g c).rule
end Go.Proofs
