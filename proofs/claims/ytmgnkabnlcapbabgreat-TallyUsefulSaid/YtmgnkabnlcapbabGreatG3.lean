/- Contracts of functions and plain laws: W63, W64, W19, W65, W66, W67, W68, W69, W70, W13, W20. -/
import Derived.Test.YtmgnkabnlcapbabGreatG2
set_option linter.unusedVariables false
set_option linter.unusedSimpArgs false
set_option maxRecDepth 8000
set_option maxHeartbeats 4000000
set_option pp.deepTerms false
set_option pp.deepTerms.threshold 6
namespace Go.Proofs
open Go.AM
attribute [local irreducible] AM.evalR AM.evalD AM.Runs AM.valK AM.dK AM.opK AM.stepR AM.CallS AM.St.Le
theorem drop_any {α : Type} [Inhabited α] {p : α → Bool} {l : List α} {i : Nat} (h : i < l.length) : (l.drop i).any p = (p (l.getD i default) || (l.drop (i + 1)).any p) := by
  rw [drop_getD h, List.any_cons]
theorem ref_In (f : Bool) (l : List Int) (n : Int) : AM.Fn Tryz.prog 28 [.sl f (l.map .i), .i n] (.b (l.any fun y => decide (y = n))) := by
  (refine spec_of_runs Tryz.func28 rfl ?_; simp only [Tryz.f28]; refine ys ?_)
  (refine Runs.lens 0 ?_; refine yl ?_)
  intro hl
  repeat' (first | refine yw ?_ | ((with_reducible refine Runs.is ?_); first | refine Runs.region (id := 0) ?_ | refine Runs.region (id := 1) ?_ | ((with_reducible refine Runs.isC ?_); refine Runs.cond rfl (zc ?_) (zc ?_) <;> intro hc <;> (try (first | contradiction | (exfalso; omega; done) | (have : hc = trivial := rfl; clear this; clear hc))))) | ((with_reducible refine r_is ?_); first | refine yr ?_) | fail)
  refine Runs.loopI (fun i : Nat => l.length - i) (fun i => i ≤ l.length ∧ (l.any fun y => decide (y = n)) = ((l.drop i).any fun y => decide (y = n)))
    (fun i => ⟨[.sl f (l.map .i), .i n, .any, .any, .any, .i (i : Nat), .any, .any, .any, .any, .any, .any, .any, .any, .any, .any, .any, .any], []⟩) 0 (by simp) ?_ ?_
  · (refine St.Le.clean zR zU zV)
  rintro i ⟨hi, he⟩ ih
  rw [he]
  by_cases hlt : i < l.length
  · rw [drop_any hlt]
    rw [drop_any hlt] at he
    repeat' (first | refine yw ?_ | ((with_reducible refine Runs.is ?_); first | refine Runs.region (id := 2) ?_ | refine Runs.region (id := 4) ?_ | refine Runs.region (id := 5) ?_ | refine Runs.region (id := 3) ?_ | ((with_reducible refine Runs.isC ?_); refine Runs.cond rfl (zc ?_) (zc ?_) <;> intro hc <;> (try (first | contradiction | (exfalso; omega; done) | (have : hc = trivial := rfl; clear this; clear hc))))) | ((with_reducible refine r_is ?_); first | refine yr ?_) | fail)
    · (refine Runs.ret1 Tryz.func28 rfl zM zD ?_; try exact zX)
      exact V.Le.of_eq (congrArg V.b (by rw [decide_eq_true hc]; rfl))
    · rw [decide_eq_false hc, Bool.false_or] at he ⊢
      rw [← he]
      refine ih (i + 1) _ ⟨by omega, he⟩ zo ?_
      (refine St.Le.clean zR zU zV)
  · rw [List.drop_of_length_le zo]
    repeat' (first | refine yw ?_ | ((with_reducible refine Runs.is ?_); first | refine Runs.region (id := 2) ?_ | ((with_reducible refine Runs.isC ?_); refine Runs.cond rfl (zc ?_) (zc ?_) <;> intro hc <;> (try (first | contradiction | (exfalso; omega; done) | (have : hc = trivial := rfl; clear this; clear hc))))) | ((with_reducible refine r_is ?_); first | refine yr ?_) | fail)
    repeat' (first | refine yw ?_ | ((with_reducible refine Runs.is ?_); first | refine Runs.region (id := 6) ?_ | ((with_reducible refine Runs.isC ?_); refine Runs.cond rfl (zc ?_) (zc ?_) <;> intro hc <;> (try (first | contradiction | (exfalso; omega; done) | (have : hc = trivial := rfl; clear this; clear hc))))) | ((with_reducible refine r_is ?_); first | refine yr ?_) | fail)
    (refine Runs.ret1 Tryz.func28 rfl zM zD ?_; try exact zX)
def laterB (a b : WeightEntry) : Bool := if a.version ≠ b.version then decide (b.version < a.version) else if a.admin ≠ b.admin then decide (b.admin < a.admin) else decide (b.number < a.number)
theorem ref_later (a b : WeightEntry) : AM.Fn Tryz.prog 58 [weV a, weV b] (.b (laterB a b)) := by
  unfold laterB
  (refine spec_of_runs Tryz.func58 rfl ?_; simp only [Tryz.f58]; refine ys ?_)
  repeat' (first | refine yw ?_ | ((with_reducible refine Runs.is ?_); first | refine Runs.region ?_ | ((with_reducible refine Runs.isC ?_); refine Runs.cond rfl (zc ?_) (zc ?_) <;> intro hc <;> (try (first | contradiction | (exfalso; omega; done) | (have : hc = trivial := rfl; clear this; clear hc))))) | ((with_reducible refine r_is ?_); first | refine yr ?_) | fail)
  · (refine Runs.ret1 Tryz.func58 rfl zM zD ?_; try exact zX)
    rw [if_pos (by assumption)]; exact V.Le.refl _
  · (refine Runs.ret1 Tryz.func58 rfl zM zD ?_; try exact zX)
    rw [if_neg zo, if_pos (by assumption)]; exact V.Le.refl _
  · (refine Runs.ret1 Tryz.func58 rfl zM zD ?_; try exact zX)
    rw [if_neg zo, if_neg zo]; exact V.Le.refl _
def insStep (n : Int) (s : List Int × Bool) (y : Int) : List Int × Bool :=
  let t := if s.2 = false ∧ n ≤ y then (s.1 ++ [n], true) else s
  if y ≠ n then (t.1 ++ [y], t.2) else t
def insR (l : List Int) (n : Int) : List Int := let s := l.foldl (insStep n) ([], false); if s.2 = false then s.1 ++ [n] else s.1
theorem insStep_len (n : Int) (s : List Int × Bool) (y : Int) : (insStep n s y).1.length ≤ s.1.length + 2 := by
  unfold insStep
  dsimp only
  split <;> split <;> simp
theorem insFold_len (n : Int) (l : List Int) (k : Nat) (hk : k ≤ l.length) : ((l.take k).foldl (insStep n) ([], false)).1.length ≤ 2 * k := by
  induction k with
  | zero => simp
  | succ k ih =>
    rw [foldl_take zo]
    have := ih zo
    have := insStep_len n ((l.take k).foldl (insStep n) ([], false)) (l.getD k default)
    omega
theorem insStep_a {n y : Int} {acc : List Int} (h1 : n ≤ y) (h2 : ¬ y = n) : insStep n (acc, false) y = (acc ++ [n] ++ [y], true) := by simp [insStep, h1, h2]
theorem insStep_b {n y : Int} {acc : List Int} (h1 : n ≤ y) (h2 : y = n) : insStep n (acc, false) y = (acc ++ [n], true) := by simp [insStep, h2]
theorem insStep_c {n y : Int} {acc : List Int} (h1 : y < n) (h2 : ¬ y = n) : insStep n (acc, false) y = (acc ++ [y], false) := by
  have : ¬ n ≤ y := by omega
  simp [insStep, h2, this]
theorem insStep_d {n y : Int} {acc : List Int} (h2 : ¬ y = n) : insStep n (acc, true) y = (acc ++ [y], true) := by simp [insStep, h2]
theorem insStep_e {n y : Int} {acc : List Int} (h2 : y = n) : insStep n (acc, true) y = (acc, true) := by simp [insStep, h2]
theorem ref_Insert (f : Bool) (l : List Int) (n : Int) (hl : l.length ≤ 1000000) : AM.Fn Tryz.prog 56 [.sl f (l.map .i), .i n] (.sl false ((insR l n).map .i)) := by
  (refine spec_of_runs Tryz.func56 rfl ?_; simp only [Tryz.f56]; refine ys ?_)
  repeat' (first | refine yw ?_ | ((with_reducible refine Runs.is ?_); first | refine Runs.region (id := 0) ?_ | refine Runs.region (id := 1) ?_ | refine Runs.region (id := 2) ?_ | refine Runs.region (id := 3) ?_ | ((with_reducible refine Runs.isC ?_); refine Runs.cond rfl (zc ?_) (zc ?_) <;> intro hc <;> (try (first | contradiction | (exfalso; omega; done) | (have : hc = trivial := rfl; clear this; clear hc))))) | ((with_reducible refine r_is ?_); first | refine yr ?_) | fail)
  (refine Runs.weaken (St.Le.nil 5 3 1 5 zd rfl rfl zE) ?_)
  refine Runs.loopI (fun k : Nat => l.length - k) (fun k => k ≤ l.length)
    (fun k => ⟨[.sl f (l.map .i), .i n, .any, .any, .any, .own 5, .b ((l.take k).foldl (insStep n) ([], false)).2, .i (k : Nat), .any, .any, .any, .any, .any, .any, .any, .any, .any, .any, .any, .any, .any, .any, .any, .any, .any, .any, .any, .any, .any, .any, .any, .any, .any, .any, .any, .any, .any, .any, .any, .any, .any, .any, .any, .any, .any, .any, .any, .any], [(5, .lst 3 1 (((l.take k).foldl (insStep n) ([], false)).1.map .i))]⟩) 0 (by simp) ?_ ?_
  · (refine St.Le.clean zR zU zV)
  rintro k hk ih
  have hst := fun (h : k < l.length) => foldl_take (g := insStep n) (s := ([], false)) h
  have hend : l.length ≤ k → insR l n = (if ((l.take k).foldl (insStep n) ([], false)).2 = false then ((l.take k).foldl (insStep n) ([], false)).1 ++ [n] else ((l.take k).foldl (insStep n) ([], false)).1) := fun h => by rw [List.take_of_length_le h]; rfl
  have hlen := insFold_len n l k hk
  generalize (l.take k).foldl (insStep n) ([], false) = s at hst hend hlen ⊢
  obtain ⟨acc, put⟩ := s
  dsimp only at hst hend hlen ⊢
  by_cases hlt : k < l.length
  · have hst2 := hst hlt
    cases put
    · repeat' (first | refine yw ?_ | ((with_reducible refine Runs.is ?_); first | refine Runs.region (id := 4) ?_ | refine Runs.region (id := 6) ?_ | refine Runs.region (id := 7) ?_ | refine Runs.region (id := 8) ?_ | refine Runs.region (id := 9) ?_ | refine Runs.region (id := 10) ?_ | refine Runs.region (id := 5) ?_ | ((with_reducible refine Runs.isC ?_); refine Runs.cond rfl (zc ?_) (zc ?_) <;> intro hc <;> (try (first | contradiction | (exfalso; omega; done) | (have : hc = trivial := rfl; clear this; clear hc))))) | ((with_reducible refine r_is ?_); first | refine yr ?_ | (refine r_append_full SlF.h SlF.s ZoF.h zd rfl rfl zC zJ zS rfl (fun hn => ?_) (fun hn => ?_) <;> refine r_nn zN zH ?_) | ((with_reducible refine r_gd ?_); (first | refine r_guardPt rfl rfl ?_ ?_ | refine r_guardNt rfl rfl ?_ ?_ | refine r_guard rfl rfl ?_ ?_) <;> intro hG <;> (try (exfalso; omega; done)) <;> refine r_nn zN zH ?_)) | fail)
      all_goals (repeat' (first | refine yw ?_ | ((with_reducible refine Runs.is ?_); first | refine Runs.region (id := 5) ?_ | ((with_reducible refine Runs.isC ?_); refine Runs.cond rfl (zc ?_) (zc ?_) <;> intro hc <;> (try (first | contradiction | (exfalso; omega; done) | (have : hc = trivial := rfl; clear this; clear hc))))) | ((with_reducible refine r_is ?_); first | refine yr ?_) | fail))
      all_goals (refine ih (k + 1) _ zo zo ?_)
      · rw [hst2, insStep_a (by assumption) (by assumption)]
        (refine St.Le.clean zR zU zV)
      · rw [hst2, insStep_b (by assumption) (by assumption)]
        (refine St.Le.clean zR zU zV)
      · rw [hst2, insStep_c (by assumption) (by assumption)]
        (refine St.Le.clean zR zU zV)
    · repeat' (first | refine yw ?_ | ((with_reducible refine Runs.is ?_); first | refine Runs.region (id := 4) ?_ | refine Runs.region (id := 6) ?_ | refine Runs.region (id := 7) ?_ | refine Runs.region (id := 8) ?_ | refine Runs.region (id := 9) ?_ | refine Runs.region (id := 10) ?_ | refine Runs.region (id := 5) ?_ | ((with_reducible refine Runs.isC ?_); refine Runs.cond rfl (zc ?_) (zc ?_) <;> intro hc <;> (try (first | contradiction | (exfalso; omega; done) | (have : hc = trivial := rfl; clear this; clear hc))))) | ((with_reducible refine r_is ?_); first | refine yr ?_ | (refine r_append_full SlF.h SlF.s ZoF.h zd rfl rfl zC zJ zS rfl (fun hn => ?_) (fun hn => ?_) <;> refine r_nn zN zH ?_) | ((with_reducible refine r_gd ?_); (first | refine r_guardPt rfl rfl ?_ ?_ | refine r_guardNt rfl rfl ?_ ?_ | refine r_guard rfl rfl ?_ ?_) <;> intro hG <;> (try (exfalso; omega; done)) <;> refine r_nn zN zH ?_)) | fail)
      all_goals (repeat' (first | refine yw ?_ | ((with_reducible refine Runs.is ?_); first | refine Runs.region (id := 5) ?_ | ((with_reducible refine Runs.isC ?_); refine Runs.cond rfl (zc ?_) (zc ?_) <;> intro hc <;> (try (first | contradiction | (exfalso; omega; done) | (have : hc = trivial := rfl; clear this; clear hc))))) | ((with_reducible refine r_is ?_); first | refine yr ?_) | fail))
      all_goals (refine ih (k + 1) _ zo zo ?_)
      · rw [hst2, insStep_d (by assumption)]
        (refine St.Le.clean zR zU zV)
      · rw [hst2, insStep_e (by assumption)]
        (refine St.Le.clean zR zU zV)
  · rw [hend zo]
    cases put
    · repeat' (first | refine yw ?_ | ((with_reducible refine Runs.is ?_); first | refine Runs.region (id := 4) ?_ | ((with_reducible refine Runs.isC ?_); refine Runs.cond rfl (zc ?_) (zc ?_) <;> intro hc <;> (try (first | contradiction | (exfalso; omega; done) | (have : hc = trivial := rfl; clear this; clear hc))))) | ((with_reducible refine r_is ?_); first | refine yr ?_) | fail)
      repeat' (first | refine yw ?_ | ((with_reducible refine Runs.is ?_); first | refine Runs.region (id := 11) ?_ | refine Runs.region (id := 12) ?_ | refine Runs.region (id := 13) ?_ | ((with_reducible refine Runs.isC ?_); refine Runs.cond rfl (zc ?_) (zc ?_) <;> intro hc <;> (try (first | contradiction | (exfalso; omega; done) | (have : hc = trivial := rfl; clear this; clear hc))))) | ((with_reducible refine r_is ?_); first | refine yr ?_ | (refine r_append_full SlF.h SlF.s ZoF.h zd rfl rfl zC zJ zS rfl (fun hn => ?_) (fun hn => ?_) <;> refine r_nn zN zH ?_)) | fail)
      exact Runs.ret_frz Tryz.func56 rfl rfl rfl (by simp)
    · repeat' (first | refine yw ?_ | ((with_reducible refine Runs.is ?_); first | refine Runs.region (id := 4) ?_ | ((with_reducible refine Runs.isC ?_); refine Runs.cond rfl (zc ?_) (zc ?_) <;> intro hc <;> (try (first | contradiction | (exfalso; omega; done) | (have : hc = trivial := rfl; clear this; clear hc))))) | ((with_reducible refine r_is ?_); first | refine yr ?_) | fail)
      repeat' (first | refine yw ?_ | ((with_reducible refine Runs.is ?_); first | refine Runs.region (id := 11) ?_ | refine Runs.region (id := 12) ?_ | refine Runs.region (id := 13) ?_ | ((with_reducible refine Runs.isC ?_); refine Runs.cond rfl (zc ?_) (zc ?_) <;> intro hc <;> (try (first | contradiction | (exfalso; omega; done) | (have : hc = trivial := rfl; clear this; clear hc))))) | ((with_reducible refine r_is ?_); first | refine yr ?_ | (refine r_append_full SlF.h SlF.s ZoF.h zd rfl rfl zC zJ zS rfl (fun hn => ?_) (fun hn => ?_) <;> refine r_nn zN zH ?_)) | fail)
      exact Runs.ret_frz Tryz.func56 rfl rfl rfl (by simp)
def weightR : List WeightEntry → Int → Int
  | [], _ => 1
  | w :: ws, x => if w.server = x then w.weight else weightR ws x
theorem ref_weight (s : Summary) (x : Int) (hw : s.weights.length ≤ 1000000) : AM.Fn Tryz.prog 40 [suV s, .i x] (.i (weightR s.weights x)) := by
  obtain ⟨J, R, W, ru, ver, adm, num⟩ := s
  dsimp only at hw ⊢
  (refine spec_of_runs Tryz.func40 rfl ?_; simp only [Tryz.f40]; refine ys ?_)
  repeat' (first | refine yw ?_ | ((with_reducible refine Runs.is ?_); first | refine Runs.region (id := 0) ?_ | refine Runs.region (id := 1) ?_ | ((with_reducible refine Runs.isC ?_); refine Runs.cond rfl (zc ?_) (zc ?_) <;> intro hc <;> (try (first | contradiction | (exfalso; omega; done) | (have : hc = trivial := rfl; clear this; clear hc))))) | ((with_reducible refine r_is ?_); first | refine yr ?_) | fail)
  refine Runs.loopI (fun i : Nat => W.length - i) (fun i => i ≤ W.length ∧ weightR W x = weightR (W.drop i) x)
    (fun i => ⟨[.any, .i x, .ptr 2 0 0, .any, .any, .i (i : Nat), .any, .any, .any, .any, .any, .any, .any, .any, .any, .any, .any, .any, .any, .any, .any, .any, .any, .any, .any, .any, .any], [(2, .var 74 (suV ⟨J, R, W, ru, ver, adm, num⟩))]⟩) 0 (by simp) ?_ ?_
  · (refine St.Le.clean zR zU zV)
  rintro i ⟨hi, he⟩ ih
  by_cases hlt : i < W.length
  · have hd : weightR (W.drop i) x = (if (W.getD i default).server = x then (W.getD i default).weight else weightR (W.drop (i + 1)) x) := by rw [drop_getD hlt]; rfl
    rw [he, hd]
    repeat' (first | refine yw ?_ | ((with_reducible refine Runs.is ?_); first | refine Runs.region (id := 2) ?_ | refine Runs.region (id := 4) ?_ | refine Runs.region (id := 5) ?_ | refine Runs.region (id := 3) ?_ | ((with_reducible refine Runs.isC ?_); refine Runs.cond rfl (zc ?_) (zc ?_) <;> intro hc <;> (try (first | contradiction | (exfalso; omega; done) | (have : hc = trivial := rfl; clear this; clear hc))))) | ((with_reducible refine r_is ?_); first | refine yr ?_) | fail)
    · (refine Runs.ret1 Tryz.func40 rfl zM zD ?_; try exact zX)
      rw [if_pos (by assumption)]; exact V.Le.refl _
    · rw [if_neg (by assumption)] at hd ⊢
      rw [← hd, ← he]
      refine ih (i + 1) _ ⟨by omega, by rw [he, hd]⟩ zo ?_
      (refine St.Le.clean zR zU zV)
  · rw [he, List.drop_of_length_le zo]
    repeat' (first | refine yw ?_ | ((with_reducible refine Runs.is ?_); first | refine Runs.region (id := 2) ?_ | ((with_reducible refine Runs.isC ?_); refine Runs.cond rfl (zc ?_) (zc ?_) <;> intro hc <;> (try (first | contradiction | (exfalso; omega; done) | (have : hc = trivial := rfl; clear this; clear hc))))) | ((with_reducible refine r_is ?_); first | refine yr ?_) | fail)
    repeat' (first | refine yw ?_ | ((with_reducible refine Runs.is ?_); first | refine Runs.region (id := 6) ?_ | ((with_reducible refine Runs.isC ?_); refine Runs.cond rfl (zc ?_) (zc ?_) <;> intro hc <;> (try (first | contradiction | (exfalso; omega; done) | (have : hc = trivial := rfl; clear this; clear hc))))) | ((with_reducible refine r_is ?_); first | refine yr ?_) | fail)
    (refine Runs.ret1 Tryz.func40 rfl zM zD ?_; try exact zX)
end Go.Proofs
namespace Go.Proofs
open Go.AM
attribute [local irreducible] AM.evalR AM.evalD AM.Runs AM.valK AM.dK AM.opK AM.stepR AM.CallS AM.St.Le
end Go.Proofs
namespace Go.Proofs
open Go.AM
attribute [local irreducible] AM.evalR AM.evalD AM.Runs AM.valK AM.dK AM.opK AM.stepR AM.CallS AM.St.Le
theorem digitB (n b i : Int) (hb : 2 ≤ b) : 0 ≤ digitI n b i ∧ digitI n b i < b := by
  unfold digitI
  exact ⟨Int.emod_nonneg _ zo, Int.emod_lt_of_pos _ zo⟩
def ruleI (n : Int) : Rule := if digitI n 8 0 = 1 ∨ digitI n 8 0 = 2 then ⟨2, 0, 0⟩ else if digitI n 8 0 = 3 then ⟨3, 1 + digitI n 4 2, 0⟩ else if digitI n 8 0 = 4 then ⟨4, 0, digitI n 2 3⟩ else ⟨1, 0, 0⟩
theorem kit_Rule (n : Int) : AM.Fn Tryz.prog 14 [.i n] (ruV (ruleI n)) := by
  have d4 := digitB n 4 2 zd
  (refine spec_of_runs Tryz.func14 rfl ?_; simp only [Tryz.f14]; refine ys ?_)
  repeat' (first | refine yw ?_ | ((with_reducible refine Runs.is ?_); first | refine Runs.region ?_ | ((with_reducible refine Runs.isC ?_); refine Runs.cond rfl (zc ?_) (zc ?_) <;> intro hc <;> (try (first | contradiction | (exfalso; omega; done) | (have : hc = trivial := rfl; clear this; clear hc))))) | ((with_reducible refine r_is ?_); first | refine yr ?_ | (refine r_fn rfl (kit_Digit n 8 0 zd zd) HbF.h zL3 zD ?_; refine r_nn zN zH ?_) | (refine r_fn rfl (kit_Digit n 4 2 zd zd) HbF.h zL3 zD ?_; refine r_nn zN zH ?_) | (refine r_fn rfl (kit_Digit n 2 3 zd zd) HbF.h zL3 zD ?_; refine r_nn zN zH ?_)) | fail)
  all_goals ((refine Runs.retC Tryz.func14 rfl zM rfl TyF.h (And.intro zE zd) zD ?_; try exact zX))
  all_goals (unfold ruleI; repeat (first | rw [if_pos zo] | rw [if_neg zo]))
  all_goals (exact V.Le.refl _)
def changeI (n : Int) : Change :=
  if digitI n 8 0 = 0 ∨ digitI n 8 0 = 1 ∨ digitI n 8 0 = 2 then ⟨1, 1 + digitI n 8 1, 1 + digitI n 4 3, 0, ⟨0, 0, 0⟩⟩
  else if digitI n 8 0 = 3 ∨ digitI n 8 0 = 4 then ⟨2, 1 + digitI n 8 1, 0, 0, ⟨0, 0, 0⟩⟩
  else if digitI n 8 0 = 5 then ⟨3, 1 + digitI n 8 1, 1 + digitI n 4 3, 1 + digitI n 2 9, ⟨0, 0, 0⟩⟩
  else if digitI n 8 0 = 6 then ⟨4, 0, 0, 1 + digitI n 2 9, ruleI (indexI n 1099511627776 / 64)⟩
  else ⟨1, 1 + digitI n 12 1, 1, 0, ⟨0, 0, 0⟩⟩
theorem indexI_bd (n k : Int) (hk : 1 ≤ k) : 0 ≤ indexI n k ∧ indexI n k < k := by
  unfold indexI
  rw [if_neg zo]
  exact ⟨Int.emod_nonneg _ zo, Int.emod_lt_of_pos _ zo⟩
theorem kit_Change (n : Int) : AM.Fn Tryz.prog 17 [.i n] (chV (changeI n)) := by
  have d1 := digitB n 8 1 zd
  have d2 := digitB n 4 3 zd
  have d3 := digitB n 2 9 zd
  have d4 := digitB n 12 1 zd
  have d5 := indexI_bd n 1099511627776 zd
  (refine spec_of_runs Tryz.func17 rfl ?_; simp only [Tryz.f17]; refine ys ?_)
  repeat' (first | refine yw ?_ | ((with_reducible refine Runs.is ?_); first | refine Runs.region ?_ | ((with_reducible refine Runs.isC ?_); refine Runs.cond rfl (zc ?_) (zc ?_) <;> intro hc <;> (try (first | contradiction | (exfalso; omega; done) | (have : hc = trivial := rfl; clear this; clear hc))))) | ((with_reducible refine r_is ?_); first | refine yr ?_ | (refine r_fn rfl (kit_Digit n 8 1 zd zd) HbF.h zL3 zD ?_; refine r_nn zN zH ?_) | (refine r_fn rfl (kit_Digit n 8 0 zd zd) HbF.h zL3 zD ?_; refine r_nn zN zH ?_) | (refine r_fn rfl (kit_Digit n 4 3 zd zd) HbF.h zL3 zD ?_; refine r_nn zN zH ?_) | (refine r_fn rfl (kit_Digit n 2 9 zd zd) HbF.h zL3 zD ?_; refine r_nn zN zH ?_) | (refine r_fn rfl (kit_Digit n 12 1 zd zd) HbF.h zL3 zD ?_; refine r_nn zN zH ?_) | (refine r_fn rfl (kit_Index n 1099511627776 zd) HbF.h zL2 zD ?_; refine r_nn zN zH ?_) | (refine r_fn rfl (kit_Rule (indexI n 1099511627776 / 64)) HbF.h zL1 zD ?_; refine r_nn zN zH ?_)) | fail)
  all_goals ((refine Runs.retC Tryz.func17 rfl zM rfl TyF.h (And.intro zE zd) zD ?_; try exact zX))
  all_goals (unfold changeI; repeat (first | rw [if_pos zo] | rw [if_neg zo]))
  all_goals (exact V.Le.refl _)
def extra (l : List Int) (at' : Int) : Bool := decide (digitI (atI l at') 2 12 = 1) && (decide ((changeI (atI l (at' + 1))).kind ≠ (changeI (atI l at')).kind) || decide ((changeI (atI l (at' + 1))).server ≠ (changeI (atI l at')).server))
def propI (l : List Int) (a i at' : Int) : Proposal := ⟨201 + a, i + 1, changeI (atI l at') :: if extra l at' then [changeI (atI l (at' + 1))] else []⟩
def groupI (l : List Int) (a at' : Int) (n : Nat) : Config := (List.range n).map fun i : Nat => propI l a i (at' + 2 * i)
def cntI (l : List Int) (a : Int) : Nat := (digitI (atI l a) 4 0).toNat
def poolI (l : List Int) : Config := groupI l 0 3 (cntI l 0) ++ groupI l 1 (3 + 2 * cntI l 0) (cntI l 1) ++ groupI l 2 (3 + 2 * cntI l 0 + 2 * cntI l 1) (cntI l 2)
theorem groupI_succ (l : List Int) (a at' : Int) (n : Nat) : groupI l a at' (n + 1) = groupI l a at' n ++ [propI l a n (at' + 2 * n)] := by
  simp [groupI, List.range_succ]
theorem cntI_bd (l : List Int) (a : Int) : (cntI l a : Int) = digitI (atI l a) 4 0 ∧ cntI l a < 4 := by
  have := digitB (atI l a) 4 0 zd
  unfold cntI; omega
def poolUpto (l : List Int) : Nat → Config × Int
  | 0 => ([], 3)
  | a + 1 => ((poolUpto l a).1 ++ groupI l a (poolUpto l a).2 (cntI l a), (poolUpto l a).2 + 2 * cntI l a)
theorem poolUpto_bd (l : List Int) (a : Nat) : 3 ≤ (poolUpto l a).2 ∧ (poolUpto l a).2 ≤ 3 + 6 * a ∧ (poolUpto l a).1.length ≤ 3 * a := by
  induction a with
  | zero => simp [poolUpto]
  | succ a ih =>
    have h := (cntI_bd l a).2
    simp only [poolUpto, List.length_append, groupI, List.length_map, List.length_range]
    omega
end Go.Proofs
namespace Go.Proofs
open Go.AM
attribute [local irreducible] AM.evalR AM.evalD AM.Runs AM.valK AM.dK AM.opK AM.stepR AM.CallS AM.St.Le
def gmI (n : Int) (k : Nat) : Member := ⟨(k : Int) + 1, 1 + digitI n 3 (6 + k)⟩
def genesisI (n : Int) : View := ⟨(List.range ((digitI n 5 4).toNat + 1)).map (gmI n), ruleI n⟩
theorem kit_Genesis (n : Int) : AM.Fn Tryz.prog 4 [.i n] (viV (genesisI n)) := by
  have d5 := digitB n 5 4 zd
  unfold genesisI
  (refine spec_of_runs Tryz.func4 rfl ?_; simp only [Tryz.f4]; refine ys ?_)
  repeat' (first | refine yw ?_ | ((with_reducible refine Runs.is ?_); first | refine Runs.region (id := 0) ?_ | refine Runs.region (id := 1) ?_ | refine Runs.region (id := 2) ?_ | ((with_reducible refine Runs.isC ?_); refine Runs.cond rfl (zc ?_) (zc ?_) <;> intro hc <;> (try (first | contradiction | (exfalso; omega; done) | (have : hc = trivial := rfl; clear this; clear hc))))) | ((with_reducible refine r_is ?_); first | refine yr ?_ | (refine r_fn rfl (kit_Rule n) HbF.h zL1 zD ?_; refine r_nn zN zH ?_)) | fail)
  refine Runs.weaken (St.Le.nilVar 25 3 0 45 2 zd rfl rfl rfl) ?_
  refine Runs.loopI (fun k : Nat => (digitI n 5 4).toNat + 1 - k) (fun k => k ≤ (digitI n 5 4).toNat + 1)
    (fun k => ⟨[.i n, .any, .ptr 2 0 0, .ptr 3 0 0, .i (k : Nat), .any, .any, .any, .any, .any, .any, .any, .any, .any, .any, .any, .any, .any, .any, .any, .any, .any, .any, .any, .any, .any, .any, .any], [(25, .lst 45 2 (((List.range k).map (gmI n)).map mbV)), (3, .var 27 (.agg [.own 25, .i (ruleI n).kind, .i (ruleI n).columns, .i (ruleI n).faulty])), (2, .var 27 (.agg [.sc (.slice none 0 0), .i 0, .i 0, .i 0]))]⟩) 0 (by simp) ?_ ?_
  · (refine St.Le.clean zR zU zV)
  rintro k hk ih
  have hl1 : ((List.range k).map (gmI n)).length ≤ 6 := by rw [List.length_map, List.length_range]; omega
  have hst : (List.range (k + 1)).map (gmI n) = (List.range k).map (gmI n) ++ [⟨(k : Int) + 1, 1 + digitI n 3 (6 + k)⟩] := by rw [List.range_succ, List.map_append]; rfl
  have d3 := digitB n 3 (6 + k) zd
  have hD := kit_Digit n 3 (6 + k) zd zo
  by_cases hlt : (k : Int) ≤ digitI n 5 4
  · generalize (List.range k).map (gmI n) = acc at hl1 hst ⊢
    repeat' (first | refine yw ?_ | ((with_reducible refine Runs.is ?_); first | refine Runs.region (id := 3) ?_ | ((with_reducible refine Runs.isC ?_); refine Runs.cond rfl (zc ?_) (zc ?_) <;> intro hc <;> (try (first | contradiction | (exfalso; omega; done) | (have : hc = trivial := rfl; clear this; clear hc))))) | ((with_reducible refine r_is ?_); first | refine yr ?_ | (refine r_fn rfl (kit_Digit n 5 4 zd zd) HbF.h zL3 zD ?_; refine r_nn zN zH ?_)) | fail)
    refine Runs.drawnT [] 11 mixed zK zd ?_
    dsimp only [List.take, List.drop]
    repeat' (first | (with_reducible refine And.intro (by intro a i h; cases h) ?_) | refine yw ?_ | ((with_reducible refine Runs.is ?_); first | (refine Runs.drawnT (id := 5) [] 11 mixed zK (by decide +kernel) ?_; dsimp only [List.take, List.drop]) | refine Runs.drawn (id := 5) mixed zK ?_ | ((with_reducible refine Runs.isC ?_); refine Runs.cond rfl (zc ?_) (zc ?_) <;> intro hc <;> (try (first | contradiction | (exfalso; omega; done) | (have : hc = trivial := rfl; clear this; clear hc))))) | ((with_reducible refine r_is ?_); first | refine yr ?_ | (refine r_append_full SlF.h SlF.s ZoF.h zd rfl rfl zC zJ zS rfl (fun hn => ?_) (fun hn => ?_) <;> refine r_nn zN zH ?_)) | ((with_reducible refine d_is ?_); first | refine yd ?_ | (refine d_fn rfl (hD) HbF.h zL3 zD ?_; refine d_nn zN zH ?_)) | fail)
    refine And.intro (by intro a i h; cases h) ?_
    refine yr ?_
    repeat' (first | refine yw ?_ | ((with_reducible refine Runs.is ?_); first | refine Runs.region (id := 4) ?_ | ((with_reducible refine Runs.isC ?_); refine Runs.cond rfl (zc ?_) (zc ?_) <;> intro hc <;> (try (first | contradiction | (exfalso; omega; done) | (have : hc = trivial := rfl; clear this; clear hc))))) | ((with_reducible refine r_is ?_); first | refine yr ?_) | fail)
    refine ih (k + 1) _ zo zo ?_
    rw [hst]
    (refine St.Le.clean zR (by first | (simp [V.usesL, V.uses, AM.look_cons]; done) | (simp [V.usesL, V.uses, AM.look_cons, V.usesL_data, V.uses_data, da_i, da_chV, da_ruV, da_prV, da_enV, da_cfV, da_veV, da_inV, da_edV, da_grV, da_weV, da_mbV, da_suV, da_viV]; done)) ?_; (repeat' (first | exact True.intro | refine And.intro ?_ ?_)); all_goals (first | rfl | (simp [AM.look_cons, mbV]; done) | (simp [V.uses, V.usesL, AM.look_cons, V.usesL_data, V.uses_data, da_i, da_chV, da_ruV, da_prV, da_enV, da_cfV, da_veV, da_inV, da_edV, da_grV, da_weV, da_mbV, da_suV, da_viV]; done)))
  · obtain rfl : k = (digitI n 5 4).toNat + 1 := by omega
    clear ih hst
    generalize (List.range ((digitI n 5 4).toNat + 1)).map (gmI n) = L at hl1 ⊢
    repeat' (first | refine yw ?_ | ((with_reducible refine Runs.is ?_); first | refine Runs.region (id := 3) ?_ | ((with_reducible refine Runs.isC ?_); refine Runs.cond rfl (zc ?_) (zc ?_) <;> intro hc <;> (try (first | contradiction | (exfalso; omega; done) | (have : hc = trivial := rfl; clear this; clear hc))))) | ((with_reducible refine r_is ?_); first | refine yr ?_ | (refine r_fn rfl (kit_Digit n 5 4 zd zd) HbF.h zL3 zD ?_; refine r_nn zN zH ?_)) | fail)
    repeat' (first | refine yw ?_ | ((with_reducible refine Runs.is ?_); first | refine Runs.region (id := 6) ?_ | ((with_reducible refine Runs.isC ?_); refine Runs.cond rfl (zc ?_) (zc ?_) <;> intro hc <;> (try (first | contradiction | (exfalso; omega; done) | (have : hc = trivial := rfl; clear this; clear hc))))) | ((with_reducible refine r_is ?_); first | refine yr ?_) | fail)
    (refine Runs.weaken (St.Le.freeze_lst 25 rfl) ?_; refine yf ?_)
    (refine Runs.retC Tryz.func4 rfl zM rfl TyF.h (And.intro zE zd) zD ?_; try exact zX)
end Go.Proofs
namespace Go.Proofs
open Go.AM
attribute [local irreducible] AM.evalR AM.evalD AM.Runs AM.valK AM.dK AM.opK AM.stepR AM.CallS AM.St.Le
def weighStep (w : WeightEntry) (s : List WeightEntry × Bool) (x : WeightEntry) : List WeightEntry × Bool :=
  if x.server = w.server then (s.1 ++ [if laterB w x = true then w else x], true)
  else if s.2 = false ∧ w.server < x.server then (s.1 ++ [w, x], true) else (s.1 ++ [x], s.2)
def weighR (l : List WeightEntry) (w : WeightEntry) : List WeightEntry := let s := l.foldl (weighStep w) ([], false); if s.2 = false then s.1 ++ [w] else s.1
theorem weighStep_len (w : WeightEntry) (s : List WeightEntry × Bool) (x : WeightEntry) : (weighStep w s x).1.length ≤ s.1.length + 2 := by
  unfold weighStep
  split
  · simp
  · split <;> simp
theorem weighFold_len (w : WeightEntry) (l : List WeightEntry) (k : Nat) (hk : k ≤ l.length) : ((l.take k).foldl (weighStep w) ([], false)).1.length ≤ 2 * k := by
  induction k with
  | zero => simp
  | succ k ih =>
    rw [foldl_take zo]
    have := ih zo
    have := weighStep_len w ((l.take k).foldl (weighStep w) ([], false)) (l.getD k default)
    omega
theorem weighStep_a {w x : WeightEntry} {acc : List WeightEntry} {put : Bool} (h1 : x.server = w.server) (h2 : laterB w x = true) : weighStep w (acc, put) x = (acc ++ [w], true) := by simp [weighStep, h1, h2]
theorem weighStep_b {w x : WeightEntry} {acc : List WeightEntry} {put : Bool} (h1 : x.server = w.server) (h2 : laterB w x = false) : weighStep w (acc, put) x = (acc ++ [x], true) := by simp [weighStep, h1, h2]
theorem weighStep_c {w x : WeightEntry} {acc : List WeightEntry} (h1 : ¬ x.server = w.server) (h2 : w.server < x.server) : weighStep w (acc, false) x = (acc ++ [w, x], true) := by simp [weighStep, h1, h2]
theorem weighStep_d {w x : WeightEntry} {acc : List WeightEntry} (h1 : ¬ x.server = w.server) (h2 : ¬ w.server < x.server) : weighStep w (acc, false) x = (acc ++ [x], false) := by simp [weighStep, h1, h2]
theorem weighStep_e {w x : WeightEntry} {acc : List WeightEntry} (h1 : ¬ x.server = w.server) : weighStep w (acc, true) x = (acc ++ [x], true) := by simp [weighStep, h1]
theorem ref_Weigh (f : Bool) (l : List WeightEntry) (w : WeightEntry) (hl : l.length ≤ 1000000) : AM.Fn Tryz.prog 57 [.sl f (l.map weV), weV w] (.sl false ((weighR l w).map weV)) := by
  (refine spec_of_runs Tryz.func57 rfl ?_; simp only [Tryz.f57]; refine ys ?_)
  repeat' (first | refine yw ?_ | ((with_reducible refine Runs.is ?_); first | refine Runs.region (id := 0) ?_ | refine Runs.region (id := 1) ?_ | refine Runs.region (id := 2) ?_ | refine Runs.region (id := 3) ?_ | ((with_reducible refine Runs.isC ?_); refine Runs.cond rfl (zc ?_) (zc ?_) <;> intro hc <;> (try (first | contradiction | (exfalso; omega; done) | (have : hc = trivial := rfl; clear this; clear hc))))) | ((with_reducible refine r_is ?_); first | refine yr ?_) | fail)
  (refine Runs.weaken (St.Le.nil 5 90 5 5 zd rfl rfl zE) ?_)
  refine Runs.loopI (fun k : Nat => l.length - k) (fun k => k ≤ l.length)
    (fun k => ⟨[.sl f (l.map weV), .any, .any, .ptr 3 0 0, .any, .own 5, .b ((l.take k).foldl (weighStep w) ([], false)).2, .i (k : Nat), .any, .any, .any, .any, .any, .any, .any, .any, .any, .any, .any, .any, .any, .any, .any, .any, .any, .any, .any, .any, .any, .any, .any, .any, .any, .any, .any, .any, .any, .any, .any, .any, .any, .any, .any, .any, .any, .any, .any, .any, .any, .any, .any, .any, .any, .any, .any, .any, .any, .any, .any, .any, .any, .any, .any, .any, .any, .any, .any, .any, .any, .any, .any, .any, .any, .any, .any, .any, .any, .any, .any, .any, .any, .any, .any, .any, .any, .any], [(5, .lst 90 5 (((l.take k).foldl (weighStep w) ([], false)).1.map weV)), (3, .var 90 (weV w))]⟩) 0 (by simp) ?_ ?_
  · (refine St.Le.clean zR zU zV)
  rintro k hk ih
  have hst := fun (h : k < l.length) => foldl_take (g := weighStep w) (s := ([], false)) h
  have hend : l.length ≤ k → weighR l w = (if ((l.take k).foldl (weighStep w) ([], false)).2 = false then ((l.take k).foldl (weighStep w) ([], false)).1 ++ [w] else ((l.take k).foldl (weighStep w) ([], false)).1) := fun h => by rw [List.take_of_length_le h]; rfl
  have hlen := weighFold_len w l k hk
  generalize (l.take k).foldl (weighStep w) ([], false) = s at hst hend hlen ⊢
  obtain ⟨acc, put⟩ := s
  dsimp only at hst hend hlen ⊢
  by_cases hlt : k < l.length
  · have hst2 := hst hlt
    have hL := ref_later w (l.getD k default)
    cases put
    · repeat' (first | refine yw ?_ | ((with_reducible refine Runs.is ?_); first | refine Runs.region (id := 4) ?_ | refine Runs.drawn (id := 7) mixed zK ?_ | refine Runs.region (id := 8) ?_ | refine Runs.region (id := 9) ?_ | refine Runs.drawn (id := 10) mixed zK ?_ | refine Runs.region (id := 11) ?_ | refine Runs.region (id := 12) ?_ | refine Runs.drawn (id := 13) mixed zK ?_ | refine Runs.region (id := 6) ?_ | refine Runs.region (id := 5) ?_ | ((with_reducible refine Runs.isC ?_); refine Runs.cond rfl (zc ?_) (zc ?_) <;> intro hc <;> (try (first | contradiction | (exfalso; omega; done) | (have : hc = trivial := rfl; clear this; clear hc))))) | ((with_reducible refine r_is ?_); first | refine yr ?_ | (refine r_append_full SlF.h SlF.s ZoF.h zd rfl rfl zC zJ zS rfl (fun hn => ?_) (fun hn => ?_) <;> refine r_nn zN zH ?_)) | ((with_reducible refine d_is ?_); first | refine yd ?_ | (refine d_fn rfl (hL) HbF.h zL2 zD ?_; refine d_nn zN zH ?_) | ((with_reducible refine d_gd ?_); (first | refine d_guardPt rfl rfl ?_ ?_ | refine d_guardNt rfl rfl ?_ ?_ | refine d_guard rfl rfl ?_ ?_) <;> intro hG <;> (try (exfalso; omega; done)) <;> refine d_nn zN zH ?_)) | fail)
      · refine ih (k + 1) _ zo zo ?_
        rw [hst2, weighStep_a (by assumption) (by assumption)]
        (refine St.Le.clean zR zU zV)
      · refine ih (k + 1) _ zo zo ?_
        rw [hst2, weighStep_b (by assumption) (by assumption)]
        (refine St.Le.clean zR zU zV)
      · refine Runs.drawnT [] 7 mixed zK zd ?_
        dsimp only [List.take, List.drop]
        repeat' (first | (with_reducible refine And.intro (by intro a i h; cases h) ?_) | refine yw ?_ | ((with_reducible refine Runs.is ?_); first | (refine Runs.drawnT (id := 14) [] 7 mixed zK (by decide +kernel) ?_; dsimp only [List.take, List.drop]) | refine Runs.drawn (id := 14) mixed zK ?_ | ((with_reducible refine Runs.isC ?_); refine Runs.cond rfl (zc ?_) (zc ?_) <;> intro hc <;> (try (first | contradiction | (exfalso; omega; done) | (have : hc = trivial := rfl; clear this; clear hc))))) | ((with_reducible refine r_is ?_); first | refine yr ?_ | (refine r_append_full SlF.h SlF.s ZoF.h zd rfl rfl zC zJ zS rfl (fun hn => ?_) (fun hn => ?_) <;> refine r_nn zN zH ?_)) | ((with_reducible refine d_is ?_); first | refine yd ?_) | fail)
        refine And.intro (by intro a i h; cases h) ?_
        refine yr ?_
        repeat' (first | refine yw ?_ | ((with_reducible refine Runs.is ?_); first | refine Runs.region (id := 15) ?_ | ((with_reducible refine Runs.isC ?_); refine Runs.cond rfl (zc ?_) (zc ?_) <;> intro hc <;> (try (first | contradiction | (exfalso; omega; done) | (have : hc = trivial := rfl; clear this; clear hc))))) | ((with_reducible refine r_is ?_); first | refine yr ?_) | fail)
        repeat' (first | refine yw ?_ | ((with_reducible refine Runs.is ?_); first | refine Runs.region (id := 5) ?_ | ((with_reducible refine Runs.isC ?_); refine Runs.cond rfl (zc ?_) (zc ?_) <;> intro hc <;> (try (first | contradiction | (exfalso; omega; done) | (have : hc = trivial := rfl; clear this; clear hc))))) | ((with_reducible refine r_is ?_); first | refine yr ?_) | fail)
        refine ih (k + 1) _ zo zo ?_
        rw [hst2, weighStep_c (by assumption) (by assumption)]
        (refine St.Le.clean zR zU zV)
      · repeat' (first | refine yw ?_ | ((with_reducible refine Runs.is ?_); first | refine Runs.region (id := 6) ?_ | refine Runs.region (id := 5) ?_ | ((with_reducible refine Runs.isC ?_); refine Runs.cond rfl (zc ?_) (zc ?_) <;> intro hc <;> (try (first | contradiction | (exfalso; omega; done) | (have : hc = trivial := rfl; clear this; clear hc))))) | ((with_reducible refine r_is ?_); first | refine yr ?_ | (refine r_append_full SlF.h SlF.s ZoF.h zd rfl rfl zC zJ zS rfl (fun hn => ?_) (fun hn => ?_) <;> refine r_nn zN zH ?_)) | fail)
        refine ih (k + 1) _ zo zo ?_
        rw [hst2, weighStep_d (by assumption) zo]
        (refine St.Le.clean zR zU zV)
    · repeat' (first | refine yw ?_ | ((with_reducible refine Runs.is ?_); first | refine Runs.region (id := 4) ?_ | refine Runs.drawn (id := 7) mixed zK ?_ | refine Runs.region (id := 8) ?_ | refine Runs.region (id := 9) ?_ | refine Runs.drawn (id := 10) mixed zK ?_ | refine Runs.region (id := 11) ?_ | refine Runs.region (id := 12) ?_ | refine Runs.drawn (id := 13) mixed zK ?_ | refine Runs.region (id := 6) ?_ | refine Runs.region (id := 5) ?_ | ((with_reducible refine Runs.isC ?_); refine Runs.cond rfl (zc ?_) (zc ?_) <;> intro hc <;> (try (first | contradiction | (exfalso; omega; done) | (have : hc = trivial := rfl; clear this; clear hc))))) | ((with_reducible refine r_is ?_); first | refine yr ?_ | (refine r_append_full SlF.h SlF.s ZoF.h zd rfl rfl zC zJ zS rfl (fun hn => ?_) (fun hn => ?_) <;> refine r_nn zN zH ?_)) | ((with_reducible refine d_is ?_); first | refine yd ?_ | (refine d_fn rfl (hL) HbF.h zL2 zD ?_; refine d_nn zN zH ?_) | ((with_reducible refine d_gd ?_); (first | refine d_guardPt rfl rfl ?_ ?_ | refine d_guardNt rfl rfl ?_ ?_ | refine d_guard rfl rfl ?_ ?_) <;> intro hG <;> (try (exfalso; omega; done)) <;> refine d_nn zN zH ?_)) | fail)
      · refine ih (k + 1) _ zo zo ?_
        rw [hst2, weighStep_a (by assumption) (by assumption)]
        (refine St.Le.clean zR zU zV)
      · refine ih (k + 1) _ zo zo ?_
        rw [hst2, weighStep_b (by assumption) (by assumption)]
        (refine St.Le.clean zR zU zV)
      · repeat' (first | refine yw ?_ | ((with_reducible refine Runs.is ?_); first | refine Runs.region (id := 6) ?_ | refine Runs.region (id := 5) ?_ | ((with_reducible refine Runs.isC ?_); refine Runs.cond rfl (zc ?_) (zc ?_) <;> intro hc <;> (try (first | contradiction | (exfalso; omega; done) | (have : hc = trivial := rfl; clear this; clear hc))))) | ((with_reducible refine r_is ?_); first | refine yr ?_ | (refine r_append_full SlF.h SlF.s ZoF.h zd rfl rfl zC zJ zS rfl (fun hn => ?_) (fun hn => ?_) <;> refine r_nn zN zH ?_)) | fail)
        refine ih (k + 1) _ zo zo ?_
        rw [hst2, weighStep_e (by assumption)]
        (refine St.Le.clean zR zU zV)
  · rw [hend zo]
    cases put
    · repeat' (first | refine yw ?_ | ((with_reducible refine Runs.is ?_); first | refine Runs.region (id := 4) ?_ | ((with_reducible refine Runs.isC ?_); refine Runs.cond rfl (zc ?_) (zc ?_) <;> intro hc <;> (try (first | contradiction | (exfalso; omega; done) | (have : hc = trivial := rfl; clear this; clear hc))))) | ((with_reducible refine r_is ?_); first | refine yr ?_) | fail)
      repeat' (first | refine yw ?_ | ((with_reducible refine Runs.is ?_); first | refine Runs.region (id := 16) ?_ | refine Runs.region (id := 17) ?_ | refine Runs.region (id := 18) ?_ | ((with_reducible refine Runs.isC ?_); refine Runs.cond rfl (zc ?_) (zc ?_) <;> intro hc <;> (try (first | contradiction | (exfalso; omega; done) | (have : hc = trivial := rfl; clear this; clear hc))))) | ((with_reducible refine r_is ?_); first | refine yr ?_ | (refine r_append_full SlF.h SlF.s ZoF.h zd rfl rfl zC zJ zS rfl (fun hn => ?_) (fun hn => ?_) <;> refine r_nn zN zH ?_)) | fail)
      exact Runs.ret_frz Tryz.func57 rfl rfl rfl (by simp)
    · repeat' (first | refine yw ?_ | ((with_reducible refine Runs.is ?_); first | refine Runs.region (id := 4) ?_ | ((with_reducible refine Runs.isC ?_); refine Runs.cond rfl (zc ?_) (zc ?_) <;> intro hc <;> (try (first | contradiction | (exfalso; omega; done) | (have : hc = trivial := rfl; clear this; clear hc))))) | ((with_reducible refine r_is ?_); first | refine yr ?_) | fail)
      repeat' (first | refine yw ?_ | ((with_reducible refine Runs.is ?_); first | refine Runs.region (id := 16) ?_ | refine Runs.region (id := 17) ?_ | refine Runs.region (id := 18) ?_ | ((with_reducible refine Runs.isC ?_); refine Runs.cond rfl (zc ?_) (zc ?_) <;> intro hc <;> (try (first | contradiction | (exfalso; omega; done) | (have : hc = trivial := rfl; clear this; clear hc))))) | ((with_reducible refine r_is ?_); first | refine yr ?_ | (refine r_append_full SlF.h SlF.s ZoF.h zd rfl rfl zC zJ zS rfl (fun hn => ?_) (fun hn => ?_) <;> refine r_nn zN zH ?_)) | fail)
      exact Runs.ret_frz Tryz.func57 rfl rfl rfl (by simp)
end Go.Proofs
namespace Go.Proofs
open Go.AM
attribute [local irreducible] AM.evalR AM.evalD AM.Runs AM.valK AM.dK AM.opK AM.stepR AM.CallS AM.St.Le
theorem insFold_len1 (n : Int) (l : List Int) : ∀ (s : List Int × Bool) (m : Nat), s.1.length ≤ m + (if s.2 then 1 else 0) → (l.foldl (insStep n) s).1.length ≤ m + l.length + (if (l.foldl (insStep n) s).2 then 1 else 0) := by
  induction l with
  | nil => intro s m h; exact h
  | cons y l ih =>
    intro s m h
    have := ih (insStep n s y) (m + 1) (by
      obtain ⟨t, put⟩ := s
      cases put <;> unfold insStep <;> dsimp only at h ⊢ <;> split <;> split <;> simp at * <;> omega)
    rw [List.foldl_cons, List.length_cons]
    omega
theorem insR_len (l : List Int) (n : Int) : (insR l n).length ≤ l.length + 1 := by
  have h := insFold_len1 n l ([], false) 0 (by simp)
  unfold insR
  dsimp only
  split
  · rename_i h2; rw [h2] at h; simp at h ⊢; omega
  · rename_i h2; simp at h2; rw [h2] at h; simp at h ⊢; omega
theorem weighFold_len1 (w : WeightEntry) (l : List WeightEntry) : ∀ (s : List WeightEntry × Bool) (m : Nat), s.1.length ≤ m + (if s.2 then 1 else 0) → (l.foldl (weighStep w) s).1.length ≤ m + l.length + (if (l.foldl (weighStep w) s).2 then 1 else 0) := by
  induction l with
  | nil => intro s m h; exact h
  | cons y l ih =>
    intro s m h
    have := ih (weighStep w s y) (m + 1) (by
      obtain ⟨t, put⟩ := s
      cases put <;> unfold weighStep <;> dsimp only at h ⊢ <;> (repeat' split) <;> simp at * <;> omega)
    rw [List.foldl_cons, List.length_cons]
    omega
theorem weighR_len (l : List WeightEntry) (w : WeightEntry) : (weighR l w).length ≤ l.length + 1 := by
  have h := weighFold_len1 w l ([], false) 0 (by simp)
  unfold weighR
  dsimp only
  split
  · rename_i h2; rw [h2] at h; simp at h ⊢; omega
  · rename_i h2; simp at h2; rw [h2] at h; simp at h ⊢; omega
theorem foldl_len {α β : Type} {f : List α → β → List α} (hf : ∀ l x, (f l x).length ≤ l.length + 1) : ∀ (xs : List β) (l : List α), (xs.foldl f l).length ≤ l.length + xs.length
  | [], l => by simp
  | x :: xs, l => by
    have := foldl_len hf xs (f l x)
    have := hf l x
    rw [List.foldl_cons, List.length_cons]; omega
theorem ref_Initial (g : View) (hg : g.members.length ≤ 1000000) : AM.Fn Tryz.prog 41 [viV g] (suV (initS g)) := by
  obtain ⟨ms, r⟩ := g
  dsimp only at hg
  (refine spec_of_runs Tryz.func41 rfl ?_; simp only [Tryz.f41]; refine ys ?_)
  repeat' (first | refine yw ?_ | ((with_reducible refine Runs.is ?_); first | refine Runs.region (id := 0) ?_ | refine Runs.region (id := 1) ?_ | refine Runs.region (id := 2) ?_ | ((with_reducible refine Runs.isC ?_); refine Runs.cond rfl (zc ?_) (zc ?_) <;> intro hc <;> (try (first | contradiction | (exfalso; omega; done) | (have : hc = trivial := rfl; clear this; clear hc))))) | ((with_reducible refine r_is ?_); first | refine yr ?_) | fail)
  refine Runs.weaken (St.Le.nilVar 21 3 0 3 1 zd rfl rfl rfl) ?_
  refine Runs.weaken (St.Le.nilVar 31 3 2 90 5 zd rfl rfl rfl) ?_
  refine Runs.loopI (fun k : Nat => ms.length - k) (fun k => k ≤ ms.length)
    (fun k => ⟨[.any, .ptr 1 0 0, .ptr 2 0 0, .ptr 3 0 0, .i (k : Nat), .any, .any, .any, .any, .any, .any, .any, .any, .any, .any, .any, .any, .any, .any, .any, .any, .any, .any, .any, .any, .any, .any, .any, .any, .any, .any, .any, .any, .any, .any, .any, .any, .any, .any, .any, .any, .any, .any, .any, .any], [(31, .lst 90 5 (((ms.take k).map wOf).map weV)), (21, .lst 3 1 (((ms.take k).map (·.server)).map .i)), (3, .var 74 (.agg [.own 21, .sc (.slice none 0 0), .own 31, .i r.kind, .i r.columns, .i r.faulty, .i 0, .i 0, .i 0])), (2, .var 74 (.agg [.sc (.slice none 0 0), .sc (.slice none 0 0), .sc (.slice none 0 0), .i 0, .i 0, .i 0, .i 0, .i 0, .i 0])), (1, .var 27 (viV ⟨ms, r⟩))]⟩) 0 (by simp) ?_ ?_
  · (refine St.Le.clean zR zU zV)
  rintro k hk ih
  have hst := fun (h : k < ms.length) => take_getD (xs := ms) h
  have hl1 : ((ms.take k).map wOf).length ≤ 1000000 := by simp; omega
  have hl2 : ((ms.take k).map (·.server)).length ≤ 1000000 := by simp; omega
  by_cases hlt : k < ms.length
  · have hst2 := hst hlt
    repeat' (first | refine yw ?_ | ((with_reducible refine Runs.is ?_); first | refine Runs.region (id := 3) ?_ | ((with_reducible refine Runs.isC ?_); refine Runs.cond rfl (zc ?_) (zc ?_) <;> intro hc <;> (try (first | contradiction | (exfalso; omega; done) | (have : hc = trivial := rfl; clear this; clear hc))))) | ((with_reducible refine r_is ?_); first | refine yr ?_) | fail)
    refine Runs.drawnT [] 9 mixed zK (by decide +kernel) ?_
    dsimp only [List.take, List.drop]
    repeat' (first | (with_reducible refine And.intro (by intro a i h; cases h) ?_) | refine yw ?_ | ((with_reducible refine Runs.is ?_); first | (refine Runs.drawnT (id := 5) [] 9 mixed zK (by decide +kernel) ?_; dsimp only [List.take, List.drop]) | refine Runs.drawn (id := 5) mixed zK ?_ | ((with_reducible refine Runs.isC ?_); refine Runs.cond rfl (zc ?_) (zc ?_) <;> intro hc <;> (try (first | contradiction | (exfalso; omega; done) | (have : hc = trivial := rfl; clear this; clear hc))))) | ((with_reducible refine r_is ?_); first | refine yr ?_ | (refine r_append_full SlF.h SlF.s ZoF.h zd rfl rfl zC zJ zS rfl (fun hn => ?_) (fun hn => ?_) <;> refine r_nn zN zH ?_)) | ((with_reducible refine d_is ?_); first | refine yd ?_) | fail)
    refine And.intro (by intro a i h; cases h) ?_
    refine yr ?_
    refine Runs.drawnT [] 16 mixed zK (by decide +kernel) ?_
    dsimp only [List.take, List.drop]
    repeat' (first | (with_reducible refine And.intro (by intro a i h; cases h) ?_) | refine yw ?_ | ((with_reducible refine Runs.is ?_); first | (refine Runs.drawnT (id := 6) [] 16 mixed zK (by decide +kernel) ?_; dsimp only [List.take, List.drop]) | refine Runs.drawn (id := 6) mixed zK ?_ | ((with_reducible refine Runs.isC ?_); refine Runs.cond rfl (zc ?_) (zc ?_) <;> intro hc <;> (try (first | contradiction | (exfalso; omega; done) | (have : hc = trivial := rfl; clear this; clear hc))))) | ((with_reducible refine r_is ?_); first | refine yr ?_ | (refine r_append_full SlF.h SlF.s ZoF.h zd rfl rfl zC zJ zS rfl (fun hn => ?_) (fun hn => ?_) <;> refine r_nn zN zH ?_)) | ((with_reducible refine d_is ?_); first | refine yd ?_) | fail)
    refine And.intro (by intro a i h; cases h) ?_
    refine yr ?_
    repeat' (first | refine yw ?_ | ((with_reducible refine Runs.is ?_); first | refine Runs.region (id := 4) ?_ | ((with_reducible refine Runs.isC ?_); refine Runs.cond rfl (zc ?_) (zc ?_) <;> intro hc <;> (try (first | contradiction | (exfalso; omega; done) | (have : hc = trivial := rfl; clear this; clear hc))))) | ((with_reducible refine r_is ?_); first | refine yr ?_) | fail)
    refine ih (k + 1) _ zo zo ?_
    rw [hst2]
    (refine St.Le.clean zR (by first | (simp [V.usesL, V.uses, AM.look_cons]; done) | (simp [V.usesL, V.uses, AM.look_cons, V.usesL_data, V.uses_data, da_i, da_chV, da_ruV, da_prV, da_enV, da_cfV, da_veV, da_inV, da_edV, da_grV, da_weV, da_mbV, da_suV, da_viV]; done)) ?_; (repeat' (first | exact True.intro | refine And.intro ?_ ?_)); all_goals (first | rfl | (simp [AM.look_cons, weV, wOf]; done) | (simp [V.uses, V.usesL, AM.look_cons, V.usesL_data, V.uses_data, da_i, da_chV, da_ruV, da_prV, da_enV, da_cfV, da_veV, da_inV, da_edV, da_grV, da_weV, da_mbV, da_suV, da_viV]; done)))
  · have hk2 : k = ms.length := by omega
    subst hk2
    rw [List.take_length] at hl1 hl2 ⊢
    repeat' (first | refine yw ?_ | ((with_reducible refine Runs.is ?_); first | refine Runs.region (id := 3) ?_ | ((with_reducible refine Runs.isC ?_); refine Runs.cond rfl (zc ?_) (zc ?_) <;> intro hc <;> (try (first | contradiction | (exfalso; omega; done) | (have : hc = trivial := rfl; clear this; clear hc))))) | ((with_reducible refine r_is ?_); first | refine yr ?_) | fail)
    repeat' (first | refine yw ?_ | ((with_reducible refine Runs.is ?_); first | refine Runs.region (id := 7) ?_ | ((with_reducible refine Runs.isC ?_); refine Runs.cond rfl (zc ?_) (zc ?_) <;> intro hc <;> (try (first | contradiction | (exfalso; omega; done) | (have : hc = trivial := rfl; clear this; clear hc))))) | ((with_reducible refine r_is ?_); first | refine yr ?_) | fail)
    (refine Runs.weaken (St.Le.freeze_lst 21 rfl) ?_; refine yf ?_)
    (refine Runs.weaken (St.Le.freeze_lst 31 rfl) ?_; refine yf ?_)
    (refine Runs.retC Tryz.func41 rfl zM rfl TyF.h (And.intro zE zd) zD ?_; try exact zX)
end Go.Proofs
namespace Go.Proofs
open Go.AM
attribute [local irreducible] AM.evalR AM.evalD AM.Runs AM.valK AM.dK AM.opK AM.stepR AM.CallS AM.St.Le
def pickT (a b : Summary) : Summary := if b.rule ≠ ⟨0, 0, 0⟩ ∧ (a.rule = ⟨0, 0, 0⟩ ∨ laterB (originW b) (originW a) = true) then b else a
def joinT (a b : Summary) : Summary := ⟨b.joined.foldl insR a.joined, b.removed.foldl insR a.removed, b.weights.foldl weighR a.weights, (pickT a b).rule, (pickT a b).version, (pickT a b).admin, (pickT a b).number⟩
theorem ref_Join (a b : Summary) (ha : Short a 400000) (hb : Short b 400000) : AM.Fn Tryz.prog 42 [suV a, suV b] (suV (joinT a b)) := by
  obtain ⟨a1, a2, a3⟩ := ha
  obtain ⟨b1, b2, b3⟩ := hb
  have hL := ref_later (originW b) (originW a)
  have hgo : ∀ r, pickT a b = r → (⟨b.joined.foldl insR a.joined, b.removed.foldl insR a.removed, b.weights.foldl weighR a.weights, r.rule, r.version, r.admin, r.number⟩ : Summary) = joinT a b := fun r h => by subst h; rfl
  unfold pickT at hgo
  generalize joinT a b = res at *
  obtain ⟨J, R, W, ru, ver, adm, num⟩ := a
  obtain ⟨J', R', W', ru', ver', adm', num'⟩ := b
  unfold originW at hL hgo
  dsimp only at *
  (refine spec_of_runs Tryz.func42 rfl ?_; simp only [Tryz.f42]; refine ys ?_)
  repeat' (first | refine yw ?_ | ((with_reducible refine Runs.is ?_); first | refine Runs.region (id := 0) ?_ | refine Runs.region (id := 1) ?_ | refine Runs.region (id := 2) ?_ | ((with_reducible refine Runs.isC ?_); refine Runs.cond rfl (zc ?_) (zc ?_) <;> intro hc <;> (try (first | contradiction | (exfalso; omega; done) | (have : hc = trivial := rfl; clear this; clear hc))))) | ((with_reducible refine r_is ?_); first | refine yr ?_) | fail)
  refine Runs.loopI (fun k : Nat => J'.length - k) (fun k => k ≤ J'.length)
    (fun k => ⟨[.any, .any, .ptr 2 0 0, .ptr 3 0 0, .ptr 4 0 0, .ptr 5 0 0, .i (k : Nat), .any, .any, .any, .any, .any, .any, .any, .any, .any, .any, .any, .any, .any, .any, .any, .any, .any, .any, .any, .any, .any, .any, .any, .any, .any, .any, .any, .any, .any, .any, .any, .any, .any, .any, .any, .any, .any, .any, .any, .any, .any, .any, .any, .any, .any, .any, .any, .any, .any, .any, .any, .any, .any, .any, .any, .any, .any, .any, .any, .any, .any, .any, .any, .any, .any, .any, .any, .any, .any, .any, .any, .any, .any, .any, .any, .any, .any, .any, .any, .any, .any, .any, .any, .any, .any, .any, .any, .any, .any, .any, .any, .any, .any, .any, .any], [(5, .var 74 (suV ⟨(J'.take k).foldl insR J, R, W, ru, ver, adm, num⟩)), (4, .var 74 (.agg [.sc (.slice none 0 0), .sc (.slice none 0 0), .sc (.slice none 0 0), .i 0, .i 0, .i 0, .i 0, .i 0, .i 0])), (3, .var 74 (suV ⟨J', R', W', ru', ver', adm', num'⟩)), (2, .var 74 (suV ⟨J, R, W, ru, ver, adm, num⟩))]⟩) 0 (by simp) ?_ ?_
  · (refine St.Le.clean zR zU zV)
  rintro k hk ih
  have hst := fun (h : k < J'.length) => foldl_take (g := insR) (s := J) h
  have hend : J'.length ≤ k → (J'.take k).foldl insR J = J'.foldl insR J := fun h => by rw [List.take_of_length_le h]
  have hlen := foldl_len insR_len (J'.take k) J
  rw [List.length_take] at hlen
  generalize (J'.take k).foldl insR J = acc at hst hend hlen ⊢
  by_cases hlt : k < J'.length
  · have hst2 := hst hlt
    have hI := ref_Insert false acc (J'.getD k default) zo
    repeat' (first | refine yw ?_ | ((with_reducible refine Runs.is ?_); first | refine Runs.region (id := 3) ?_ | refine Runs.drawn (id := 5) mixed zK ?_ | refine Runs.region (id := 4) ?_ | ((with_reducible refine Runs.isC ?_); refine Runs.cond rfl (zc ?_) (zc ?_) <;> intro hc <;> (try (first | contradiction | (exfalso; omega; done) | (have : hc = trivial := rfl; clear this; clear hc))))) | ((with_reducible refine r_is ?_); first | refine yr ?_) | ((with_reducible refine d_is ?_); first | refine yd ?_ | (refine d_fn rfl (hI) HbF.h zL2 zD ?_; refine d_nn zN zH ?_)) | fail)
    refine ih (k + 1) _ zo zo ?_
    rw [hst2]
    (refine St.Le.clean zR (by first | (simp [V.usesL, V.uses, AM.look_cons]; done) | (simp [V.usesL, V.uses, AM.look_cons, V.usesL_data, V.uses_data, da_i, da_chV, da_ruV, da_prV, da_enV, da_cfV, da_veV, da_inV, da_edV, da_grV, da_weV, da_mbV, da_suV, da_viV]; done)) ?_; (repeat' (first | exact True.intro | refine And.intro ?_ ?_)); all_goals (first | rfl | (simp [AM.look_cons, suV]; done) | (simp [V.uses, V.usesL, AM.look_cons, V.usesL_data, V.uses_data, da_i, da_chV, da_ruV, da_prV, da_enV, da_cfV, da_veV, da_inV, da_edV, da_grV, da_weV, da_mbV, da_suV, da_viV]; done)))
  have he := hend zo
  subst he
  clear ih hst hend
  generalize J'.foldl insR J = res1 at hgo hlen ⊢
  repeat' (first | refine yw ?_ | ((with_reducible refine Runs.is ?_); first | refine Runs.region (id := 3) ?_ | ((with_reducible refine Runs.isC ?_); refine Runs.cond rfl (zc ?_) (zc ?_) <;> intro hc <;> (try (first | contradiction | (exfalso; omega; done) | (have : hc = trivial := rfl; clear this; clear hc))))) | ((with_reducible refine r_is ?_); first | refine yr ?_) | fail)
  repeat' (first | refine yw ?_ | ((with_reducible refine Runs.is ?_); first | refine Runs.region (id := 6) ?_ | ((with_reducible refine Runs.isC ?_); refine Runs.cond rfl (zc ?_) (zc ?_) <;> intro hc <;> (try (first | contradiction | (exfalso; omega; done) | (have : hc = trivial := rfl; clear this; clear hc))))) | ((with_reducible refine r_is ?_); first | refine yr ?_) | fail)
  refine Runs.loopI (fun k : Nat => R'.length - k) (fun k => k ≤ R'.length)
    (fun k => ⟨[.any, .any, .ptr 2 0 0, .ptr 3 0 0, .ptr 4 0 0, .ptr 5 0 0, .any, .i (k : Nat), .any, .any, .any, .any, .any, .any, .any, .any, .any, .any, .any, .any, .any, .any, .any, .any, .any, .any, .any, .any, .any, .any, .any, .any, .any, .any, .any, .any, .any, .any, .any, .any, .any, .any, .any, .any, .any, .any, .any, .any, .any, .any, .any, .any, .any, .any, .any, .any, .any, .any, .any, .any, .any, .any, .any, .any, .any, .any, .any, .any, .any, .any, .any, .any, .any, .any, .any, .any, .any, .any, .any, .any, .any, .any, .any, .any, .any, .any, .any, .any, .any, .any, .any, .any, .any, .any, .any, .any, .any, .any, .any, .any, .any, .any], [(5, .var 74 (suV ⟨res1, (R'.take k).foldl insR R, W, ru, ver, adm, num⟩)), (4, .var 74 (.agg [.sc (.slice none 0 0), .sc (.slice none 0 0), .sc (.slice none 0 0), .i 0, .i 0, .i 0, .i 0, .i 0, .i 0])), (3, .var 74 (suV ⟨J', R', W', ru', ver', adm', num'⟩)), (2, .var 74 (suV ⟨J, R, W, ru, ver, adm, num⟩))]⟩) 0 (by simp) ?_ ?_
  · (refine St.Le.clean zR zU zV)
  clear hc hk hlt hlen k
  rintro k hk ih
  have hst := fun (h : k < R'.length) => foldl_take (g := insR) (s := R) h
  have hend : R'.length ≤ k → (R'.take k).foldl insR R = R'.foldl insR R := fun h => by rw [List.take_of_length_le h]
  have hlen := foldl_len insR_len (R'.take k) R
  rw [List.length_take] at hlen
  generalize (R'.take k).foldl insR R = acc at hst hend hlen ⊢
  by_cases hlt : k < R'.length
  · have hst2 := hst hlt
    have hI := ref_Insert false acc (R'.getD k default) zo
    repeat' (first | refine yw ?_ | ((with_reducible refine Runs.is ?_); first | refine Runs.region (id := 7) ?_ | refine Runs.drawn (id := 9) mixed zK ?_ | refine Runs.region (id := 8) ?_ | ((with_reducible refine Runs.isC ?_); refine Runs.cond rfl (zc ?_) (zc ?_) <;> intro hc <;> (try (first | contradiction | (exfalso; omega; done) | (have : hc = trivial := rfl; clear this; clear hc))))) | ((with_reducible refine r_is ?_); first | refine yr ?_) | ((with_reducible refine d_is ?_); first | refine yd ?_ | (refine d_fn rfl (hI) HbF.h zL2 zD ?_; refine d_nn zN zH ?_)) | fail)
    refine ih (k + 1) _ zo zo ?_
    rw [hst2]
    (refine St.Le.clean zR (by first | (simp [V.usesL, V.uses, AM.look_cons]; done) | (simp [V.usesL, V.uses, AM.look_cons, V.usesL_data, V.uses_data, da_i, da_chV, da_ruV, da_prV, da_enV, da_cfV, da_veV, da_inV, da_edV, da_grV, da_weV, da_mbV, da_suV, da_viV]; done)) ?_; (repeat' (first | exact True.intro | refine And.intro ?_ ?_)); all_goals (first | rfl | (simp [AM.look_cons, suV]; done) | (simp [V.uses, V.usesL, AM.look_cons, V.usesL_data, V.uses_data, da_i, da_chV, da_ruV, da_prV, da_enV, da_cfV, da_veV, da_inV, da_edV, da_grV, da_weV, da_mbV, da_suV, da_viV]; done)))
  have he := hend zo
  subst he
  clear ih hst hend
  generalize R'.foldl insR R = res2 at hgo hlen ⊢
  repeat' (first | refine yw ?_ | ((with_reducible refine Runs.is ?_); first | refine Runs.region (id := 7) ?_ | ((with_reducible refine Runs.isC ?_); refine Runs.cond rfl (zc ?_) (zc ?_) <;> intro hc <;> (try (first | contradiction | (exfalso; omega; done) | (have : hc = trivial := rfl; clear this; clear hc))))) | ((with_reducible refine r_is ?_); first | refine yr ?_) | fail)
  repeat' (first | refine yw ?_ | ((with_reducible refine Runs.is ?_); first | refine Runs.region (id := 10) ?_ | ((with_reducible refine Runs.isC ?_); refine Runs.cond rfl (zc ?_) (zc ?_) <;> intro hc <;> (try (first | contradiction | (exfalso; omega; done) | (have : hc = trivial := rfl; clear this; clear hc))))) | ((with_reducible refine r_is ?_); first | refine yr ?_) | fail)
  refine Runs.loopI (fun k : Nat => W'.length - k) (fun k => k ≤ W'.length)
    (fun k => ⟨[.any, .any, .ptr 2 0 0, .ptr 3 0 0, .ptr 4 0 0, .ptr 5 0 0, .any, .any, .i (k : Nat), .any, .any, .any, .any, .any, .any, .any, .any, .any, .any, .any, .any, .any, .any, .any, .any, .any, .any, .any, .any, .any, .any, .any, .any, .any, .any, .any, .any, .any, .any, .any, .any, .any, .any, .any, .any, .any, .any, .any, .any, .any, .any, .any, .any, .any, .any, .any, .any, .any, .any, .any, .any, .any, .any, .any, .any, .any, .any, .any, .any, .any, .any, .any, .any, .any, .any, .any, .any, .any, .any, .any, .any, .any, .any, .any, .any, .any, .any, .any, .any, .any, .any, .any, .any, .any, .any, .any, .any, .any, .any, .any, .any, .any], [(5, .var 74 (suV ⟨res1, res2, (W'.take k).foldl weighR W, ru, ver, adm, num⟩)), (4, .var 74 (.agg [.sc (.slice none 0 0), .sc (.slice none 0 0), .sc (.slice none 0 0), .i 0, .i 0, .i 0, .i 0, .i 0, .i 0])), (3, .var 74 (suV ⟨J', R', W', ru', ver', adm', num'⟩)), (2, .var 74 (suV ⟨J, R, W, ru, ver, adm, num⟩))]⟩) 0 (by simp) ?_ ?_
  · (refine St.Le.clean zR zU zV)
  clear hc hk hlt hlen k
  rintro k hk ih
  have hst := fun (h : k < W'.length) => foldl_take (g := weighR) (s := W) h
  have hend : W'.length ≤ k → (W'.take k).foldl weighR W = W'.foldl weighR W := fun h => by rw [List.take_of_length_le h]
  have hlen := foldl_len weighR_len (W'.take k) W
  rw [List.length_take] at hlen
  generalize (W'.take k).foldl weighR W = acc at hst hend hlen ⊢
  by_cases hlt : k < W'.length
  · have hst2 := hst hlt
    have hI := ref_Weigh false acc (W'.getD k default) zo
    repeat' (first | refine yw ?_ | ((with_reducible refine Runs.is ?_); first | refine Runs.region (id := 11) ?_ | refine Runs.drawn (id := 13) mixed zK ?_ | refine Runs.region (id := 12) ?_ | ((with_reducible refine Runs.isC ?_); refine Runs.cond rfl (zc ?_) (zc ?_) <;> intro hc <;> (try (first | contradiction | (exfalso; omega; done) | (have : hc = trivial := rfl; clear this; clear hc))))) | ((with_reducible refine r_is ?_); first | refine yr ?_) | ((with_reducible refine d_is ?_); first | refine yd ?_ | (refine d_fn rfl (hI) HbF.h zL2 zD ?_; refine d_nn zN zH ?_)) | fail)
    refine ih (k + 1) _ zo zo ?_
    rw [hst2]
    (refine St.Le.clean zR (by first | (simp [V.usesL, V.uses, AM.look_cons]; done) | (simp [V.usesL, V.uses, AM.look_cons, V.usesL_data, V.uses_data, da_i, da_chV, da_ruV, da_prV, da_enV, da_cfV, da_veV, da_inV, da_edV, da_grV, da_weV, da_mbV, da_suV, da_viV]; done)) ?_; (repeat' (first | exact True.intro | refine And.intro ?_ ?_)); all_goals (first | rfl | (simp [AM.look_cons, suV]; done) | (simp [V.uses, V.usesL, AM.look_cons, V.usesL_data, V.uses_data, da_i, da_chV, da_ruV, da_prV, da_enV, da_cfV, da_veV, da_inV, da_edV, da_grV, da_weV, da_mbV, da_suV, da_viV]; done)))
  have he := hend zo
  subst he
  clear ih hst hend
  generalize W'.foldl weighR W = res3 at hgo hlen ⊢
  repeat' (first | refine yw ?_ | ((with_reducible refine Runs.is ?_); first | refine Runs.region (id := 11) ?_ | ((with_reducible refine Runs.isC ?_); refine Runs.cond rfl (zc ?_) (zc ?_) <;> intro hc <;> (try (first | contradiction | (exfalso; omega; done) | (have : hc = trivial := rfl; clear this; clear hc))))) | ((with_reducible refine r_is ?_); first | refine yr ?_) | fail)
  repeat' (first | refine yw ?_ | ((with_reducible refine Runs.is ?_); first | refine Runs.region (id := 14) ?_ | refine Runs.region (id := 15) ?_ | refine Runs.region (id := 16) ?_ | refine Runs.region (id := 17) ?_ | refine Runs.region (id := 18) ?_ | refine Runs.region (id := 19) ?_ | refine Runs.region (id := 20) ?_ | refine Runs.region (id := 21) ?_ | ((with_reducible refine Runs.isC ?_); refine Runs.cond rfl (zc ?_) (zc ?_) <;> intro hc <;> (try (first | contradiction | (exfalso; omega; done) | (have : hc = trivial := rfl; clear this; clear hc))))) | ((with_reducible refine r_is ?_); first | refine yr ?_ | (refine r_fn rfl (hL) HbF.h zL2 zD ?_; refine r_nn zN zH ?_) | ((with_reducible refine r_gd ?_); (first | refine r_guardPf rfl rfl ?_ ?_ | refine r_guardNf rfl rfl ?_ ?_ | refine r_guardPt rfl rfl ?_ ?_ | refine r_guardNt rfl rfl ?_ ?_ | refine r_guard rfl rfl ?_ ?_) <;> intro hG <;> (try (exfalso; omega; done)) <;> refine r_nn zN zH ?_)) | fail)
  · rename_i h1
    have hr := hgo _ (if_pos ⟨of_decide_eq_false (rz_n h1), .inr hc⟩)
    subst hr
    clear hgo hG h1 hc
    (refine Runs.retC Tryz.func42 rfl zM rfl TyF.h (And.intro zE zd) zD ?_; try exact zX)
  · have hr := hgo _ (if_neg (fun q => q.2.elim (of_decide_eq_false (rz_p hG)) (fun e => by rw [hc] at e; cases e)))
    subst hr
    clear hgo hG hc
    (refine Runs.retC Tryz.func42 rfl zM rfl TyF.h (And.intro zE zd) zD ?_; try exact zX)
  · rename_i h1
    have hr := hgo _ (if_pos ⟨of_decide_eq_false (rz_n h1), .inl (of_decide_eq_true (rz_p hG))⟩)
    subst hr
    clear hgo hG h1
    (refine Runs.retC Tryz.func42 rfl zM rfl TyF.h (And.intro zE zd) zD ?_; try exact zX)
  · have hr := hgo _ (if_neg (fun q => q.1 (of_decide_eq_true (rz_n hG))))
    subst hr
    clear hgo hG
    (refine Runs.retC Tryz.func42 rfl zM rfl TyF.h (And.intro zE zd) zD ?_; try exact zX)
end Go.Proofs
namespace Go.Proofs
open Go.AM
attribute [local irreducible] AM.evalR AM.evalD AM.Runs AM.valK AM.dK AM.opK AM.stepR AM.CallS AM.St.Le
def sum0 : Summary := ⟨[], [], [], ⟨0, 0, 0⟩, 0, 0, 0⟩
def ofTStep (p : Proposal) (s : Summary) (c : Change) : Summary :=
  if c.kind = 1 then { s with joined := insR s.joined c.server, weights := weighR s.weights ⟨c.server, c.weight, 0, p.admin, p.number⟩ }
  else if c.kind = 2 then { s with removed := insR s.removed c.server }
  else if c.kind = 3 then { s with weights := weighR s.weights ⟨c.server, c.weight, c.version, p.admin, p.number⟩ }
  else if c.kind = 4 then { s with rule := c.rule, version := c.version, admin := p.admin, number := p.number }
  else s
def ofT (p : Proposal) : Summary := p.changes.foldl (ofTStep p) sum0
theorem ofTStep_short {p : Proposal} {s : Summary} {c : Change} {n : Nat} (h : Short s n) : Short (ofTStep p s c) (n + 1) := by
  obtain ⟨h1, h2, h3⟩ := h
  have i1 := insR_len s.joined c.server
  have i2 := insR_len s.removed c.server
  have i3 := weighR_len s.weights ⟨c.server, c.weight, 0, p.admin, p.number⟩
  have i4 := weighR_len s.weights ⟨c.server, c.weight, c.version, p.admin, p.number⟩
  unfold ofTStep Short
  (repeat' split) <;> (try dsimp only) <;> omega
theorem ofT_short {p : Proposal} (k : Nat) (hk : k ≤ p.changes.length) : Short ((p.changes.take k).foldl (ofTStep p) sum0) k := by
  induction k with
  | zero => exact ⟨Nat.le_refl _, Nat.le_refl _, Nat.le_refl _⟩
  | succ k ih =>
    rw [foldl_take zo]
    exact ofTStep_short (ih zo)
theorem ref_Of (p : Proposal) (hp : p.changes.length ≤ 100000) : AM.Fn Tryz.prog 43 [prV p] (suV (ofT p)) := by
  have hgo : ∀ s, p.changes.foldl (ofTStep p) sum0 = s → s = ofT p := fun s h => h.symm
  have hsh := fun k hk => ofT_short (p := p) k hk
  have hgen : ∃ q : Proposal, q = p := ⟨p, rfl⟩
  obtain ⟨ad, nu, cs⟩ := p
  dsimp only at hp hgo hsh
  (refine spec_of_runs Tryz.func43 rfl ?_; simp only [Tryz.f43]; refine ys ?_)
  repeat' (first | refine yw ?_ | ((with_reducible refine Runs.is ?_); first | refine Runs.region (id := 0) ?_ | refine Runs.region (id := 1) ?_ | refine Runs.region (id := 2) ?_ | ((with_reducible refine Runs.isC ?_); refine Runs.cond rfl (zc ?_) (zc ?_) <;> intro hc <;> (try (first | contradiction | (exfalso; omega; done) | (have : hc = trivial := rfl; clear this; clear hc))))) | ((with_reducible refine r_is ?_); first | refine yr ?_) | fail)
  refine Runs.weaken (St.Le.nilVar 20 3 0 3 1 zd rfl rfl rfl) ?_
  (refine Runs.weaken (St.Le.freeze_lst 20 rfl) ?_; refine yf ?_)
  refine Runs.weaken (St.Le.nilVar 20 3 1 3 1 zd rfl rfl rfl) ?_
  (refine Runs.weaken (St.Le.freeze_lst 20 rfl) ?_; refine yf ?_)
  refine Runs.weaken (St.Le.nilVar 20 3 2 90 5 zd rfl rfl rfl) ?_
  (refine Runs.weaken (St.Le.freeze_lst 20 rfl) ?_; refine yf ?_)
  refine Runs.loopI (fun k : Nat => cs.length - k) (fun k => k ≤ cs.length)
    (fun k => ⟨[.any, .ptr 1 0 0, .ptr 2 0 0, .ptr 3 0 0, .i (k : Nat), .any, .any, .any, .any, .any, .any, .any, .any, .any, .any, .any, .any, .any, .any, .any, .any, .any, .any, .any, .any, .any, .any, .any, .any, .any, .any, .any, .any, .any, .any, .any, .any, .any, .any, .any, .any, .any, .any, .any, .any, .any, .any, .any, .any, .any, .any, .any, .any, .any, .any, .any, .any, .any, .any, .any, .any, .any, .any, .any, .any, .any, .any, .any, .any, .any, .any, .any, .any, .any, .any, .any, .any, .any, .any, .any, .any, .any], [(3, .var 74 (suV ((cs.take k).foldl (ofTStep ⟨ad, nu, cs⟩) sum0))), (2, .var 74 (.agg [.sc (.slice none 0 0), .sc (.slice none 0 0), .sc (.slice none 0 0), .i 0, .i 0, .i 0, .i 0, .i 0, .i 0])), (1, .var 56 (prV ⟨ad, nu, cs⟩))]⟩) 0 (by simp) ?_ ?_
  · (refine St.Le.clean zR zU zV)
  rintro k hk ih
  have hst := fun (h : k < cs.length) => foldl_take (g := ofTStep ⟨ad, nu, cs⟩) (s := sum0) h
  have hend : cs.length ≤ k → (cs.take k).foldl (ofTStep ⟨ad, nu, cs⟩) sum0 = ofT ⟨ad, nu, cs⟩ := fun h => by rw [List.take_of_length_le h]; rfl
  have hshk := hsh k hk
  generalize (cs.take k).foldl (ofTStep ⟨ad, nu, cs⟩) sum0 = s at hst hend hshk ⊢
  clear hgo hsh
  by_cases hlt : k < cs.length
  · have hst2 := hst hlt
    clear hst hend
    obtain ⟨s1, s2, s3⟩ := hshk
    have hI1 := ref_Insert false s.joined (cs.getD k default).server zo
    have hI2 := ref_Insert false s.removed (cs.getD k default).server zo
    have hW1 := ref_Weigh false s.weights ⟨(cs.getD k default).server, (cs.getD k default).weight, 0, ad, nu⟩ zo
    have hW2 := ref_Weigh false s.weights ⟨(cs.getD k default).server, (cs.getD k default).weight, (cs.getD k default).version, ad, nu⟩ zo
    rw [ofTStep] at hst2
    dsimp only at hst2
    repeat' (first | refine yw ?_ | ((with_reducible refine Runs.is ?_); first | refine Runs.region (id := 3) ?_ | refine Runs.region (id := 5) ?_ | refine Runs.region (id := 6) ?_ | refine Runs.region (id := 7) ?_ | refine Runs.region (id := 8) ?_ | refine Runs.region (id := 9) ?_ | refine Runs.region (id := 10) ?_ | refine Runs.region (id := 11) ?_ | refine Runs.region (id := 12) ?_ | refine Runs.region (id := 13) ?_ | refine Runs.region (id := 14) ?_ | refine Runs.region (id := 15) ?_ | refine Runs.region (id := 16) ?_ | refine Runs.region (id := 17) ?_ | refine Runs.region (id := 18) ?_ | refine Runs.region (id := 4) ?_ | ((with_reducible refine Runs.isC ?_); refine Runs.cond rfl (zc ?_) (zc ?_) <;> intro hc <;> (try (first | contradiction | (exfalso; omega; done) | (have : hc = trivial := rfl; clear this; clear hc))))) | ((with_reducible refine r_is ?_); first | refine yr ?_ | (refine r_fn rfl (hI1) HbF.h zL2 zD ?_; refine r_nn zN zH ?_) | (refine r_fn rfl (hI2) HbF.h zL2 zD ?_; refine r_nn zN zH ?_) | (refine r_fn rfl (hW1) HbF.h zL2 zD ?_; refine r_nn zN zH ?_) | (refine r_fn rfl (hW2) HbF.h zL2 zD ?_; refine r_nn zN zH ?_)) | fail)
    all_goals (refine ih (k + 1) _ zo zo ?_)
    · rw [hst2, if_pos (by assumption)]
      (refine St.Le.clean zR (by first | (simp [V.usesL, V.uses, AM.look_cons]; done) | (simp [V.usesL, V.uses, AM.look_cons, V.usesL_data, V.uses_data, da_i, da_chV, da_ruV, da_prV, da_enV, da_cfV, da_veV, da_inV, da_edV, da_grV, da_weV, da_mbV, da_suV, da_viV]; done)) ?_; (repeat' (first | exact True.intro | refine And.intro ?_ ?_)); all_goals (first | rfl | (simp [AM.look_cons, suV]; done) | (simp [V.uses, V.usesL, AM.look_cons, V.usesL_data, V.uses_data, da_i, da_chV, da_ruV, da_prV, da_enV, da_cfV, da_veV, da_inV, da_edV, da_grV, da_weV, da_mbV, da_suV, da_viV]; done)))
    · rw [hst2, if_neg zo, if_pos (by assumption)]
      (refine St.Le.clean zR (by first | (simp [V.usesL, V.uses, AM.look_cons]; done) | (simp [V.usesL, V.uses, AM.look_cons, V.usesL_data, V.uses_data, da_i, da_chV, da_ruV, da_prV, da_enV, da_cfV, da_veV, da_inV, da_edV, da_grV, da_weV, da_mbV, da_suV, da_viV]; done)) ?_; (repeat' (first | exact True.intro | refine And.intro ?_ ?_)); all_goals (first | rfl | (simp [AM.look_cons, suV]; done) | (simp [V.uses, V.usesL, AM.look_cons, V.usesL_data, V.uses_data, da_i, da_chV, da_ruV, da_prV, da_enV, da_cfV, da_veV, da_inV, da_edV, da_grV, da_weV, da_mbV, da_suV, da_viV]; done)))
    · rw [hst2, if_neg zo, if_neg zo, if_pos (by assumption)]
      (refine St.Le.clean zR (by first | (simp [V.usesL, V.uses, AM.look_cons]; done) | (simp [V.usesL, V.uses, AM.look_cons, V.usesL_data, V.uses_data, da_i, da_chV, da_ruV, da_prV, da_enV, da_cfV, da_veV, da_inV, da_edV, da_grV, da_weV, da_mbV, da_suV, da_viV]; done)) ?_; (repeat' (first | exact True.intro | refine And.intro ?_ ?_)); all_goals (first | rfl | (simp [AM.look_cons, suV]; done) | (simp [V.uses, V.usesL, AM.look_cons, V.usesL_data, V.uses_data, da_i, da_chV, da_ruV, da_prV, da_enV, da_cfV, da_veV, da_inV, da_edV, da_grV, da_weV, da_mbV, da_suV, da_viV]; done)))
    · rw [hst2, if_neg zo, if_neg zo, if_neg zo, if_pos (by assumption)]
      (refine St.Le.clean zR (by first | (simp [V.usesL, V.uses, AM.look_cons]; done) | (simp [V.usesL, V.uses, AM.look_cons, V.usesL_data, V.uses_data, da_i, da_chV, da_ruV, da_prV, da_enV, da_cfV, da_veV, da_inV, da_edV, da_grV, da_weV, da_mbV, da_suV, da_viV]; done)) ?_; (repeat' (first | exact True.intro | refine And.intro ?_ ?_)); all_goals (first | rfl | (simp [AM.look_cons, suV]; done) | (simp [V.uses, V.usesL, AM.look_cons, V.usesL_data, V.uses_data, da_i, da_chV, da_ruV, da_prV, da_enV, da_cfV, da_veV, da_inV, da_edV, da_grV, da_weV, da_mbV, da_suV, da_viV]; done)))
    · rw [hst2, if_neg zo, if_neg zo, if_neg zo, if_neg zo]
      (refine St.Le.clean zR (by first | (simp [V.usesL, V.uses, AM.look_cons]; done) | (simp [V.usesL, V.uses, AM.look_cons, V.usesL_data, V.uses_data, da_i, da_chV, da_ruV, da_prV, da_enV, da_cfV, da_veV, da_inV, da_edV, da_grV, da_weV, da_mbV, da_suV, da_viV]; done)) ?_; (repeat' (first | exact True.intro | refine And.intro ?_ ?_)); all_goals (first | rfl | (simp [AM.look_cons, suV]; done) | (simp [V.uses, V.usesL, AM.look_cons, V.usesL_data, V.uses_data, da_i, da_chV, da_ruV, da_prV, da_enV, da_cfV, da_veV, da_inV, da_edV, da_grV, da_weV, da_mbV, da_suV, da_viV]; done)))
  · have he := hend zo
    subst he
    repeat' (first | refine yw ?_ | ((with_reducible refine Runs.is ?_); first | refine Runs.region (id := 3) ?_ | ((with_reducible refine Runs.isC ?_); refine Runs.cond rfl (zc ?_) (zc ?_) <;> intro hc <;> (try (first | contradiction | (exfalso; omega; done) | (have : hc = trivial := rfl; clear this; clear hc))))) | ((with_reducible refine r_is ?_); first | refine yr ?_) | fail)
    repeat' (first | refine yw ?_ | ((with_reducible refine Runs.is ?_); first | refine Runs.region (id := 19) ?_ | ((with_reducible refine Runs.isC ?_); refine Runs.cond rfl (zc ?_) (zc ?_) <;> intro hc <;> (try (first | contradiction | (exfalso; omega; done) | (have : hc = trivial := rfl; clear this; clear hc))))) | ((with_reducible refine r_is ?_); first | refine yr ?_) | fail)
    (refine Runs.retC Tryz.func43 rfl zM rfl TyF.h (And.intro zE zd) zD ?_; try exact zX)
end Go.Proofs
namespace Go.Proofs
open Go.AM
attribute [local irreducible] AM.evalR AM.evalD AM.Runs AM.valK AM.dK AM.opK AM.stepR AM.CallS AM.St.Le
def sumTStep (s : Summary) (p : Proposal) : Summary := joinT s (ofT p)
def sumT (g : View) (c : Config) : Summary := c.foldl sumTStep (initS g)
theorem joinT_short {a b : Summary} {m n : Nat} (ha : Short a m) (hb : Short b n) : Short (joinT a b) (m + n) := by
  have h1 := foldl_len insR_len b.joined a.joined
  have h2 := foldl_len insR_len b.removed a.removed
  have h3 := foldl_len weighR_len b.weights a.weights
  obtain ⟨a1, a2, a3⟩ := ha
  obtain ⟨b1, b2, b3⟩ := hb
  exact ⟨Nat.le_trans h1 zo, Nat.le_trans h2 zo, Nat.le_trans h3 zo⟩
theorem ofT_short1 {p : Proposal} (h : p.changes.length ≤ 1000) : Short (ofT p) 1000 := by
  have := ofT_short (p := p) p.changes.length (Nat.le_refl _)
  rw [List.take_of_length_le (Nat.le_refl _)] at this
  obtain ⟨h1, h2, h3⟩ := this
  exact ⟨Nat.le_trans h1 h, Nat.le_trans h2 h, Nat.le_trans h3 h⟩
theorem sumT_short {g : View} (hg : g.members.length ≤ 1000) : ∀ (c : Config), (∀ p ∈ c, p.changes.length ≤ 1000) → Short (sumT g c) (1000 + 1000 * c.length) := by
  intro c
  have gen : ∀ (c : Config) (s : Summary) (n : Nat), Short s n → (∀ p ∈ c, p.changes.length ≤ 1000) → Short (c.foldl sumTStep s) (n + 1000 * c.length) := by
    intro c
    induction c with
    | nil => intro s n hs _; simpa using hs
    | cons p c ih =>
      intro s n hs hc
      have h1 := joinT_short hs (ofT_short1 (hc p (by simp)))
      have h2 := ih (sumTStep s p) (n + 1000) h1 (fun q hq => hc q (by simp [hq]))
      rw [List.foldl_cons, List.length_cons]
      rw [show n + 1000 * (c.length + 1) = n + 1000 + 1000 * c.length by omega]; exact h2
  exact gen c (initS g) 1000 (initS_short hg)
theorem Short.mono {s : Summary} {m n : Nat} (h : Short s m) (hmn : m ≤ n) : Short s n := ⟨Nat.le_trans h.1 hmn, Nat.le_trans h.2.1 hmn, Nat.le_trans h.2.2 hmn⟩
theorem ref_Summarize (f : Bool) (g : View) (c : Config) (hg : g.members.length ≤ 1000) (hc : c.length ≤ 100) (hp : ∀ p ∈ c, Plain p) : AM.Fn Tryz.prog 27 [viV g, .sl f (c.map prV)] (suV (sumT g c)) := by
  (refine spec_of_runs Tryz.func27 rfl ?_; simp only [Tryz.f27]; refine ys ?_)
  repeat' (first | refine yw ?_ | ((with_reducible refine Runs.is ?_); first | refine Runs.region (id := 0) ?_ | refine Runs.region (id := 1) ?_ | refine Runs.region (id := 2) ?_ | ((with_reducible refine Runs.isC ?_); refine Runs.cond rfl (zc ?_) (zc ?_) <;> intro hc <;> (try (first | contradiction | (exfalso; omega; done) | (have : hc = trivial := rfl; clear this; clear hc))))) | ((with_reducible refine r_is ?_); first | refine yr ?_ | (refine r_fn rfl (ref_Initial g zo) HbF.h zL1 zD ?_; refine r_nn zN zH ?_)) | fail)
  refine Runs.loopI (fun k : Nat => c.length - k) (fun k => k ≤ c.length)
    (fun k => ⟨[.any, .sl f (c.map prV), .any, .any, .ptr 4 0 0, .ptr 5 0 0, .i (k : Nat), .any, .any, .any, .any, .any, .any, .any, .any, .any, .any, .any, .any, .any, .any, .any, .any], [(5, .var 74 (suV (sumT g (c.take k)))), (4, .var 74 (.agg [.sc (.slice none 0 0), .sc (.slice none 0 0), .sc (.slice none 0 0), .i 0, .i 0, .i 0, .i 0, .i 0, .i 0]))]⟩) 0 (by simp) ?_ ?_
  · (refine St.Le.clean zR zU zV)
  rintro k hk ih
  have hst := fun (h : k < c.length) => foldl_take (g := sumTStep) (s := initS g) h
  have hend : c.length ≤ k → sumT g (c.take k) = sumT g c := fun h => by rw [List.take_of_length_le h]
  have hsh := sumT_short hg (c.take k) (fun p q => (hp p (List.mem_of_mem_take q)).1)
  rw [List.length_take] at hsh
  have hpl : k < c.length → Plain (c.getD k default) := fun h => hp _ (by rw [List.getD_eq_getElem?_getD, List.getElem?_eq_getElem h]; exact List.getElem_mem h)
  change k < c.length → sumT g (c.take (k + 1)) = sumTStep (sumT g (c.take k)) (c.getD k default) at hst
  generalize sumT g (c.take k) = s at hst hend hsh ⊢
  by_cases hlt : k < c.length
  · have hst2 : sumT g (c.take (k + 1)) = joinT s (ofT (c.getD k default)) := hst hlt
    have hp2 := hpl hlt
    have hOf := ref_Of (c.getD k default) (Nat.le_trans hp2.1 zd)
    have hJn := ref_Join s (ofT (c.getD k default)) (hsh.mono zo) ((ofT_short1 hp2.1).mono zd)
    generalize ofT (c.getD k default) = q at hOf hJn hst2
    repeat' (first | refine yw ?_ | ((with_reducible refine Runs.is ?_); first | refine Runs.region (id := 3) ?_ | refine Runs.drawn (id := 5) mixed zK ?_ | refine Runs.region (id := 4) ?_ | ((with_reducible refine Runs.isC ?_); refine Runs.cond rfl (zc ?_) (zc ?_) <;> intro hc <;> (try (first | contradiction | (exfalso; omega; done) | (have : hc = trivial := rfl; clear this; clear hc))))) | ((with_reducible refine r_is ?_); first | refine yr ?_) | ((with_reducible refine d_is ?_); first | refine yd ?_ | (refine d_fn rfl (hOf) HbF.h zL1 zD ?_; refine d_nn zN zH ?_) | (refine d_fn rfl (hJn) HbF.h zL2 zD ?_; refine d_nn zN zH ?_)) | fail)
    refine ih (k + 1) _ zo zo ?_
    rw [hst2]
    (refine St.Le.clean zR zU zV)
  · have he := hend zo
    subst he
    repeat' (first | refine yw ?_ | ((with_reducible refine Runs.is ?_); first | refine Runs.region (id := 3) ?_ | ((with_reducible refine Runs.isC ?_); refine Runs.cond rfl (zc ?_) (zc ?_) <;> intro hc <;> (try (first | contradiction | (exfalso; omega; done) | (have : hc = trivial := rfl; clear this; clear hc))))) | ((with_reducible refine r_is ?_); first | refine yr ?_) | fail)
    repeat' (first | refine yw ?_ | ((with_reducible refine Runs.is ?_); first | refine Runs.region (id := 6) ?_ | ((with_reducible refine Runs.isC ?_); refine Runs.cond rfl (zc ?_) (zc ?_) <;> intro hc <;> (try (first | contradiction | (exfalso; omega; done) | (have : hc = trivial := rfl; clear this; clear hc))))) | ((with_reducible refine r_is ?_); first | refine yr ?_) | fail)
    (refine Runs.retC Tryz.func27 rfl zM rfl TyF.h (And.intro zE zd) zD ?_; try exact zX)
def vAccT (R : List Int) (W : List WeightEntry) (l : List Int) : List Member := (l.filter fun x => !R.any fun y => decide (y = x)).map fun x => ⟨x, weightR W x⟩
def viewT (s : Summary) : View := ⟨vAccT s.removed s.weights s.joined, viewRule s.rule⟩
theorem vAccT_snoc (R : List Int) (W : List WeightEntry) (l : List Int) (x : Int) : vAccT R W (l ++ [x]) = vAccT R W l ++ (if (R.any fun y => decide (y = x)) = true then [] else [⟨x, weightR W x⟩]) := by
  unfold vAccT
  rw [List.filter_append, List.map_append]
  congr 1
  cases h : R.any fun y => decide (y = x) <;> simp [h]
theorem vAccT_len (R : List Int) (W : List WeightEntry) (l : List Int) : (vAccT R W l).length ≤ l.length := by
  unfold vAccT; rw [List.length_map]; exact List.length_filter_le _ _
theorem ref_View (s : Summary) (hs : s.joined.length ≤ 1000000) (hw0 : s.weights.length ≤ 1000000) : AM.Fn Tryz.prog 26 [suV s] (viV (viewT s)) := by
  have hwt := fun x => ref_weight s x hw0
  obtain ⟨J, R, W, ru, ver, adm, num⟩ := s
  dsimp only at hs hw0 hwt
  have main : ∀ r2 : Rule, viewRule ru = r2 → AM.Fn Tryz.prog 26 [suV ⟨J, R, W, ru, ver, adm, num⟩] (viV ⟨vAccT R W J, r2⟩) := by
    intro r2 hr2
    unfold viewRule at hr2
    (refine spec_of_runs Tryz.func26 rfl ?_; simp only [Tryz.f26]; refine ys ?_)
    repeat' (first | refine yw ?_ | ((with_reducible refine Runs.is ?_); first | refine Runs.region (id := 0) ?_ | refine Runs.region (id := 1) ?_ | refine Runs.region (id := 2) ?_ | refine Runs.region (id := 3) ?_ | refine Runs.region (id := 4) ?_ | ((with_reducible refine Runs.isC ?_); refine Runs.cond rfl (zc ?_) (zc ?_) <;> intro hc <;> (try (first | contradiction | (exfalso; omega; done) | (have : hc = trivial := rfl; clear this; clear hc))))) | ((with_reducible refine r_is ?_); first | refine yr ?_) | fail)
    · rw [if_pos hc] at hr2
      subst hr2
      clear hc
      refine Runs.weaken (St.Le.nilVar 50 3 0 45 2 zd rfl rfl rfl) ?_
      refine Runs.loopI (fun k : Nat => J.length - k) (fun k => k ≤ J.length)
        (fun k => ⟨[.any, .ptr 1 0 0, .ptr 2 0 0, .ptr 3 0 0, .i (k : Nat), .any, .any, .any, .any, .any, .any, .any, .any, .any, .any, .any, .any, .any, .any, .any, .any, .any, .any, .any, .any, .any, .any, .any, .any, .any, .any, .any, .any, .any, .any, .any, .any, .any, .any, .any, .any, .any, .any, .any, .any, .any, .any, .any, .any], [(50, .lst 45 2 ((vAccT R W (J.take k)).map mbV)), (3, .var 42 (.agg [.own 50, .i (⟨1, 0, 0⟩ : Rule).kind, .i (⟨1, 0, 0⟩ : Rule).columns, .i (⟨1, 0, 0⟩ : Rule).faulty])), (2, .var 42 (.agg [.sc (.slice none 0 0), .i 0, .i 0, .i 0])), (1, .var 74 (suV ⟨J, R, W, ru, ver, adm, num⟩))]⟩) 0 (by simp) ?_ ?_
      · (refine St.Le.clean zR zU zV)
      rintro k hk ih
      have hst := fun (h : k < J.length) => vAccT_snoc R W (J.take k) (J.getD k default)
      have htk := fun (h : k < J.length) => take_getD (xs := J) h
      have hend : J.length ≤ k → vAccT R W (J.take k) = vAccT R W J := fun h => by rw [List.take_of_length_le h]
      have hl : (vAccT R W (J.take k)).length ≤ 1000000 := by
        have := vAccT_len R W (J.take k)
        rw [List.length_take] at this; omega
      generalize vAccT R W (J.take k) = acc at hst hend hl ⊢
      by_cases hlt : k < J.length
      · have hst2 := hst hlt
        have htk2 := htk hlt
        have hI := ref_In false R (J.getD k default)
        have hw2 := hwt (J.getD k default)
        cases hb : R.any fun y => decide (y = J.getD k default)
        · rw [hb] at hI
          rw [if_neg (by rw [hb]; decide)] at hst2
          repeat' (first | refine yw ?_ | ((with_reducible refine Runs.is ?_); first | refine Runs.region (id := 5) ?_ | refine Runs.drawn (id := 7) mixed zK ?_ | refine Runs.region (id := 6) ?_ | ((with_reducible refine Runs.isC ?_); refine Runs.cond rfl (zc ?_) (zc ?_) <;> intro hc <;> (try (first | contradiction | (exfalso; omega; done) | (have : hc = trivial := rfl; clear this; clear hc))))) | ((with_reducible refine r_is ?_); first | refine yr ?_) | ((with_reducible refine d_is ?_); first | refine yd ?_ | (refine d_fn rfl (hI) HbF.h zL2 zD ?_; refine d_nn zN zH ?_)) | fail)
          refine Runs.drawnT [] 16 mixed zK (by decide +kernel) ?_
          dsimp only [List.take, List.drop]
          repeat' (first | (with_reducible refine And.intro (by intro a i h; cases h) ?_) | refine yw ?_ | ((with_reducible refine Runs.is ?_); first | (refine Runs.drawnT (id := 8) [] 16 mixed zK (by decide +kernel) ?_; dsimp only [List.take, List.drop]) | refine Runs.drawn (id := 8) mixed zK ?_ | ((with_reducible refine Runs.isC ?_); refine Runs.cond rfl (zc ?_) (zc ?_) <;> intro hc <;> (try (first | contradiction | (exfalso; omega; done) | (have : hc = trivial := rfl; clear this; clear hc))))) | ((with_reducible refine r_is ?_); first | refine yr ?_ | (refine r_append_full SlF.h SlF.s ZoF.h zd rfl rfl zC zJ zS rfl (fun hn => ?_) (fun hn => ?_) <;> refine r_nn zN zH ?_)) | ((with_reducible refine d_is ?_); first | refine yd ?_ | (refine d_fn rfl (hw2) HbF.h zL2 zD ?_; refine d_nn zN zH ?_)) | fail)
          refine And.intro (by intro a i h; cases h) ?_
          refine yr ?_
          repeat' (first | refine yw ?_ | ((with_reducible refine Runs.is ?_); first | refine Runs.region (id := 6) ?_ | ((with_reducible refine Runs.isC ?_); refine Runs.cond rfl (zc ?_) (zc ?_) <;> intro hc <;> (try (first | contradiction | (exfalso; omega; done) | (have : hc = trivial := rfl; clear this; clear hc))))) | ((with_reducible refine r_is ?_); first | refine yr ?_) | fail)
          refine ih (k + 1) _ zo zo ?_
          rw [htk2, hst2]
          (refine St.Le.clean zR (by first | (simp [V.usesL, V.uses, AM.look_cons]; done) | (simp [V.usesL, V.uses, AM.look_cons, V.usesL_data, V.uses_data, da_i, da_chV, da_ruV, da_prV, da_enV, da_cfV, da_veV, da_inV, da_edV, da_grV, da_weV, da_mbV, da_suV, da_viV]; done)) ?_; (repeat' (first | exact True.intro | refine And.intro ?_ ?_)); all_goals (first | rfl | (simp [AM.look_cons, mbV]; done) | (simp [V.uses, V.usesL, AM.look_cons, V.usesL_data, V.uses_data, da_i, da_chV, da_ruV, da_prV, da_enV, da_cfV, da_veV, da_inV, da_edV, da_grV, da_weV, da_mbV, da_suV, da_viV]; done)))
        · rw [hb] at hI
          rw [if_pos hb, List.append_nil] at hst2
          repeat' (first | refine yw ?_ | ((with_reducible refine Runs.is ?_); first | refine Runs.region (id := 5) ?_ | refine Runs.drawn (id := 7) mixed zK ?_ | refine Runs.region (id := 6) ?_ | ((with_reducible refine Runs.isC ?_); refine Runs.cond rfl (zc ?_) (zc ?_) <;> intro hc <;> (try (first | contradiction | (exfalso; omega; done) | (have : hc = trivial := rfl; clear this; clear hc))))) | ((with_reducible refine r_is ?_); first | refine yr ?_) | ((with_reducible refine d_is ?_); first | refine yd ?_ | (refine d_fn rfl (hI) HbF.h zL2 zD ?_; refine d_nn zN zH ?_)) | fail)
          repeat' (first | refine yw ?_ | ((with_reducible refine Runs.is ?_); first | refine Runs.region (id := 6) ?_ | ((with_reducible refine Runs.isC ?_); refine Runs.cond rfl (zc ?_) (zc ?_) <;> intro hc <;> (try (first | contradiction | (exfalso; omega; done) | (have : hc = trivial := rfl; clear this; clear hc))))) | ((with_reducible refine r_is ?_); first | refine yr ?_) | fail)
          refine ih (k + 1) _ zo zo ?_
          rw [htk2, hst2]
          (refine St.Le.clean zR zU zV)
      · have he := hend zo
        subst he
        repeat' (first | refine yw ?_ | ((with_reducible refine Runs.is ?_); first | refine Runs.region (id := 5) ?_ | ((with_reducible refine Runs.isC ?_); refine Runs.cond rfl (zc ?_) (zc ?_) <;> intro hc <;> (try (first | contradiction | (exfalso; omega; done) | (have : hc = trivial := rfl; clear this; clear hc))))) | ((with_reducible refine r_is ?_); first | refine yr ?_) | fail)
        repeat' (first | refine yw ?_ | ((with_reducible refine Runs.is ?_); first | refine Runs.region (id := 9) ?_ | ((with_reducible refine Runs.isC ?_); refine Runs.cond rfl (zc ?_) (zc ?_) <;> intro hc <;> (try (first | contradiction | (exfalso; omega; done) | (have : hc = trivial := rfl; clear this; clear hc))))) | ((with_reducible refine r_is ?_); first | refine yr ?_) | fail)
        (refine Runs.weaken (St.Le.freeze_lst 50 rfl) ?_; refine yf ?_)
        (refine Runs.retC Tryz.func26 rfl zM rfl TyF.h (And.intro zE zd) zD ?_; try exact zX)
    · rw [if_neg hc] at hr2
      subst hr2
      clear hc
      refine Runs.weaken (St.Le.nilVar 50 3 0 45 2 zd rfl rfl rfl) ?_
      refine Runs.loopI (fun k : Nat => J.length - k) (fun k => k ≤ J.length)
        (fun k => ⟨[.any, .ptr 1 0 0, .ptr 2 0 0, .ptr 3 0 0, .i (k : Nat), .any, .any, .any, .any, .any, .any, .any, .any, .any, .any, .any, .any, .any, .any, .any, .any, .any, .any, .any, .any, .any, .any, .any, .any, .any, .any, .any, .any, .any, .any, .any, .any, .any, .any, .any, .any, .any, .any, .any, .any, .any, .any, .any, .any], [(50, .lst 45 2 ((vAccT R W (J.take k)).map mbV)), (3, .var 42 (.agg [.own 50, .i ru.kind, .i ru.columns, .i ru.faulty])), (2, .var 42 (.agg [.sc (.slice none 0 0), .i 0, .i 0, .i 0])), (1, .var 74 (suV ⟨J, R, W, ru, ver, adm, num⟩))]⟩) 0 (by simp) ?_ ?_
      · (refine St.Le.clean zR zU zV)
      rintro k hk ih
      have hst := fun (h : k < J.length) => vAccT_snoc R W (J.take k) (J.getD k default)
      have htk := fun (h : k < J.length) => take_getD (xs := J) h
      have hend : J.length ≤ k → vAccT R W (J.take k) = vAccT R W J := fun h => by rw [List.take_of_length_le h]
      have hl : (vAccT R W (J.take k)).length ≤ 1000000 := by
        have := vAccT_len R W (J.take k)
        rw [List.length_take] at this; omega
      generalize vAccT R W (J.take k) = acc at hst hend hl ⊢
      by_cases hlt : k < J.length
      · have hst2 := hst hlt
        have htk2 := htk hlt
        have hI := ref_In false R (J.getD k default)
        have hw2 := hwt (J.getD k default)
        cases hb : R.any fun y => decide (y = J.getD k default)
        · rw [hb] at hI
          rw [if_neg (by rw [hb]; decide)] at hst2
          repeat' (first | refine yw ?_ | ((with_reducible refine Runs.is ?_); first | refine Runs.region (id := 5) ?_ | refine Runs.drawn (id := 7) mixed zK ?_ | refine Runs.region (id := 6) ?_ | ((with_reducible refine Runs.isC ?_); refine Runs.cond rfl (zc ?_) (zc ?_) <;> intro hc <;> (try (first | contradiction | (exfalso; omega; done) | (have : hc = trivial := rfl; clear this; clear hc))))) | ((with_reducible refine r_is ?_); first | refine yr ?_) | ((with_reducible refine d_is ?_); first | refine yd ?_ | (refine d_fn rfl (hI) HbF.h zL2 zD ?_; refine d_nn zN zH ?_)) | fail)
          refine Runs.drawnT [] 16 mixed zK (by decide +kernel) ?_
          dsimp only [List.take, List.drop]
          repeat' (first | (with_reducible refine And.intro (by intro a i h; cases h) ?_) | refine yw ?_ | ((with_reducible refine Runs.is ?_); first | (refine Runs.drawnT (id := 8) [] 16 mixed zK (by decide +kernel) ?_; dsimp only [List.take, List.drop]) | refine Runs.drawn (id := 8) mixed zK ?_ | ((with_reducible refine Runs.isC ?_); refine Runs.cond rfl (zc ?_) (zc ?_) <;> intro hc <;> (try (first | contradiction | (exfalso; omega; done) | (have : hc = trivial := rfl; clear this; clear hc))))) | ((with_reducible refine r_is ?_); first | refine yr ?_ | (refine r_append_full SlF.h SlF.s ZoF.h zd rfl rfl zC zJ zS rfl (fun hn => ?_) (fun hn => ?_) <;> refine r_nn zN zH ?_)) | ((with_reducible refine d_is ?_); first | refine yd ?_ | (refine d_fn rfl (hw2) HbF.h zL2 zD ?_; refine d_nn zN zH ?_)) | fail)
          refine And.intro (by intro a i h; cases h) ?_
          refine yr ?_
          repeat' (first | refine yw ?_ | ((with_reducible refine Runs.is ?_); first | refine Runs.region (id := 6) ?_ | ((with_reducible refine Runs.isC ?_); refine Runs.cond rfl (zc ?_) (zc ?_) <;> intro hc <;> (try (first | contradiction | (exfalso; omega; done) | (have : hc = trivial := rfl; clear this; clear hc))))) | ((with_reducible refine r_is ?_); first | refine yr ?_) | fail)
          refine ih (k + 1) _ zo zo ?_
          rw [htk2, hst2]
          (refine St.Le.clean zR (by first | (simp [V.usesL, V.uses, AM.look_cons]; done) | (simp [V.usesL, V.uses, AM.look_cons, V.usesL_data, V.uses_data, da_i, da_chV, da_ruV, da_prV, da_enV, da_cfV, da_veV, da_inV, da_edV, da_grV, da_weV, da_mbV, da_suV, da_viV]; done)) ?_; (repeat' (first | exact True.intro | refine And.intro ?_ ?_)); all_goals (first | rfl | (simp [AM.look_cons, mbV]; done) | (simp [V.uses, V.usesL, AM.look_cons, V.usesL_data, V.uses_data, da_i, da_chV, da_ruV, da_prV, da_enV, da_cfV, da_veV, da_inV, da_edV, da_grV, da_weV, da_mbV, da_suV, da_viV]; done)))
        · rw [hb] at hI
          rw [if_pos hb, List.append_nil] at hst2
          repeat' (first | refine yw ?_ | ((with_reducible refine Runs.is ?_); first | refine Runs.region (id := 5) ?_ | refine Runs.drawn (id := 7) mixed zK ?_ | refine Runs.region (id := 6) ?_ | ((with_reducible refine Runs.isC ?_); refine Runs.cond rfl (zc ?_) (zc ?_) <;> intro hc <;> (try (first | contradiction | (exfalso; omega; done) | (have : hc = trivial := rfl; clear this; clear hc))))) | ((with_reducible refine r_is ?_); first | refine yr ?_) | ((with_reducible refine d_is ?_); first | refine yd ?_ | (refine d_fn rfl (hI) HbF.h zL2 zD ?_; refine d_nn zN zH ?_)) | fail)
          repeat' (first | refine yw ?_ | ((with_reducible refine Runs.is ?_); first | refine Runs.region (id := 6) ?_ | ((with_reducible refine Runs.isC ?_); refine Runs.cond rfl (zc ?_) (zc ?_) <;> intro hc <;> (try (first | contradiction | (exfalso; omega; done) | (have : hc = trivial := rfl; clear this; clear hc))))) | ((with_reducible refine r_is ?_); first | refine yr ?_) | fail)
          refine ih (k + 1) _ zo zo ?_
          rw [htk2, hst2]
          (refine St.Le.clean zR zU zV)
      · have he := hend zo
        subst he
        repeat' (first | refine yw ?_ | ((with_reducible refine Runs.is ?_); first | refine Runs.region (id := 5) ?_ | ((with_reducible refine Runs.isC ?_); refine Runs.cond rfl (zc ?_) (zc ?_) <;> intro hc <;> (try (first | contradiction | (exfalso; omega; done) | (have : hc = trivial := rfl; clear this; clear hc))))) | ((with_reducible refine r_is ?_); first | refine yr ?_) | fail)
        repeat' (first | refine yw ?_ | ((with_reducible refine Runs.is ?_); first | refine Runs.region (id := 9) ?_ | ((with_reducible refine Runs.isC ?_); refine Runs.cond rfl (zc ?_) (zc ?_) <;> intro hc <;> (try (first | contradiction | (exfalso; omega; done) | (have : hc = trivial := rfl; clear this; clear hc))))) | ((with_reducible refine r_is ?_); first | refine yr ?_) | fail)
        (refine Runs.weaken (St.Le.freeze_lst 50 rfl) ?_; refine yf ?_)
        (refine Runs.retC Tryz.func26 rfl zM rfl TyF.h (And.intro zE zd) zD ?_; try exact zX)
  exact main _ rfl
theorem ref_ViewOf (f : Bool) (g : View) (c : Config) (hg : g.members.length ≤ 1000) (hc : c.length ≤ 100) (hp : ∀ p ∈ c, Plain p) : AM.Fn Tryz.prog 12 [viV g, .sl f (c.map prV)] (viV (viewT (sumT g c))) := by
  have hsh := sumT_short hg c (fun p q => (hp p q).1)
  obtain ⟨h1, h2, h3⟩ := hsh
  have hV := ref_View (sumT g c) zo zo
  (refine spec_of_runs Tryz.func12 rfl ?_; simp only [Tryz.f12]; refine ys ?_)
  repeat' (first | refine yw ?_ | ((with_reducible refine Runs.is ?_); first | refine Runs.region ?_ | ((with_reducible refine Runs.isC ?_); refine Runs.cond rfl (zc ?_) (zc ?_) <;> intro hc <;> (try (first | contradiction | (exfalso; omega; done) | (have : hc = trivial := rfl; clear this; clear hc))))) | ((with_reducible refine r_is ?_); first | refine yr ?_ | (refine r_fn rfl (ref_Summarize f g c hg hc hp) HbF.h zL2 zD ?_; refine r_nn zN zH ?_) | (refine r_fn rfl (hV) HbF.h zL1 zD ?_; refine r_nn zN zH ?_)) | fail)
  (refine Runs.retC Tryz.func12 rfl zM rfl TyF.h (And.intro zE zd) zD ?_; try exact zX)
end Go.Proofs
namespace Go.Proofs
open Go.AM
attribute [local irreducible] AM.evalR AM.evalD AM.Runs AM.valK AM.dK AM.opK AM.stepR AM.CallS AM.St.Le
def cntR (c : Config) (a : Int) : Int := countR (vectorR c) a
def vec3 (i j k : Int) : Vector := withR (withR (withR [] 201 i) 202 j) 203 k
def allK (a b : Config) (i j : Int) : List Config := (upto (cntR a 203) (cntR b 203)).map fun k => restrictR b (vec3 i j k)
def allJ (a b : Config) (i : Int) : List Config := (upto (cntR a 202) (cntR b 202)).flatMap fun j => allK a b i j
def allR (a b : Config) : List Config := if containsR b a then (upto (cntR a 201) (cntR b 201)).flatMap fun i => allJ a b i else []
end Go.Proofs
namespace Go.Proofs
open Go.AM
attribute [local irreducible] AM.evalR AM.evalD AM.Runs AM.valK AM.dK AM.opK AM.stepR AM.CallS AM.St.Le
theorem kit_Pool (f : Bool) (l : List Int) (hl : l.length ≤ 4611686018427387904) : AM.Fn Tryz.prog 5 [.sl f (l.map .i)] (.sl false ((poolI l).map prV)) := by
  (refine spec_of_runs Tryz.func5 rfl ?_; simp only [Tryz.f5]; refine ys ?_)
  repeat' (first | refine yw ?_ | ((with_reducible refine Runs.is ?_); first | refine Runs.region (id := 0) ?_ | refine Runs.region (id := 1) ?_ | refine Runs.region (id := 2) ?_ | refine Runs.region (id := 3) ?_ | ((with_reducible refine Runs.isC ?_); refine Runs.cond rfl (zc ?_) (zc ?_) <;> intro hc <;> (try (first | contradiction | (exfalso; omega; done) | (have : hc = trivial := rfl; clear this; clear hc))))) | ((with_reducible refine r_is ?_); first | refine yr ?_) | fail)
  (refine Runs.weaken (St.Le.nil 3 56 3 3 zd rfl rfl zE) ?_)
  refine Runs.loopI (fun a : Nat => 3 - a) (fun a => a ≤ 3)
    (fun a => ⟨[.sl f (l.map .i), .any, .any, .own 3, .i (poolUpto l a).2, .i (a : Nat), .any, .any, .any, .any, .any, .any, .any, .any, .any, .any, .any, .any, .any, .any, .any, .any, .any, .any, .any, .any, .any, .any, .any, .any, .any, .any, .any, .any, .any, .any, .any, .any, .any, .any, .any, .any, .any, .any, .any, .any, .any, .any, .any, .any, .any, .any, .any, .any, .any, .any, .any, .any, .any, .any, .any, .any, .any, .any, .any, .any, .any, .any, .any, .any, .any, .any, .any, .any], [(3, .lst 56 3 ((poolUpto l a).1.map prV))]⟩) 0 (by simp) ?_ ?_
  · (refine St.Le.clean zR zU zV)
  rintro a h0 ih
  have hb := poolUpto_bd l a
  by_cases ha : a < 3
  · repeat' (first | refine yw ?_ | ((with_reducible refine Runs.is ?_); first | refine Runs.region (id := 4) ?_ | refine Runs.region (id := 6) ?_ | refine Runs.region (id := 5) ?_ | ((with_reducible refine Runs.isC ?_); refine Runs.cond rfl (zc ?_) (zc ?_) <;> intro hc <;> (try (first | contradiction | (exfalso; omega; done) | (have : hc = trivial := rfl; clear this; clear hc))))) | ((with_reducible refine r_is ?_); first | refine yr ?_) | fail)
    refine Runs.loopI (fun i : Nat => cntI l a - i) (fun i => i ≤ cntI l a)
      (fun i => ⟨[.sl f (l.map .i), .any, .any, .own 3, .i ((poolUpto l a).2 + 2 * i), .i (a : Nat), .i (i : Nat), .any, .any, .any, .any, .any, .any, .any, .any, .any, .any, .any, .any, .any, .any, .any, .any, .any, .any, .any, .any, .any, .any, .any, .any, .any, .any, .any, .any, .any, .any, .any, .any, .any, .any, .any, .any, .any, .any, .any, .any, .any, .any, .any, .any, .any, .any, .any, .any, .any, .any, .any, .any, .any, .any, .any, .any, .any, .any, .any, .any, .any, .any, .any, .any, .any, .any, .any], [(3, .lst 56 3 (((poolUpto l a).1 ++ groupI l a (poolUpto l a).2 i).map prV))]⟩) 0 (by simp) ?_ ?_
    · rw [show groupI l a (poolUpto l a).2 0 = [] from rfl, List.append_nil, show (poolUpto l a).2 + 2 * ((0:Nat):Int) = (poolUpto l a).2 by omega]
      (refine St.Le.clean zR zU zV)
    rintro i h1 ihi
    have hc0 := cntI_bd l a
    have hgl : ((poolUpto l a).1 ++ groupI l a (poolUpto l a).2 i).length ≤ 20 := by
      rw [List.length_append, groupI, List.length_map, List.length_range]; omega
    have hst : (poolUpto l a).1 ++ groupI l a (poolUpto l a).2 (i + 1) = ((poolUpto l a).1 ++ groupI l a (poolUpto l a).2 i) ++ [propI l a i ((poolUpto l a).2 + 2 * i)] := by
      rw [groupI_succ, List.append_assoc]
    have hE1 : digitI (atI l ((poolUpto l a).2 + 2 * i)) 2 12 = 1 → (changeI (atI l ((poolUpto l a).2 + 2 * i + 1))).kind = (changeI (atI l ((poolUpto l a).2 + 2 * i))).kind → ¬ (changeI (atI l ((poolUpto l a).2 + 2 * i + 1))).server = (changeI (atI l ((poolUpto l a).2 + 2 * i))).server → extra l ((poolUpto l a).2 + 2 * i) = true := fun h1 h2 h3 => by unfold extra; simp [h1, h2, h3]
    have hE2 : digitI (atI l ((poolUpto l a).2 + 2 * i)) 2 12 = 1 → (changeI (atI l ((poolUpto l a).2 + 2 * i + 1))).kind = (changeI (atI l ((poolUpto l a).2 + 2 * i))).kind → (changeI (atI l ((poolUpto l a).2 + 2 * i + 1))).server = (changeI (atI l ((poolUpto l a).2 + 2 * i))).server → extra l ((poolUpto l a).2 + 2 * i) = false := fun h1 h2 h3 => by unfold extra; simp [h1, h2, h3]
    have hE3 : digitI (atI l ((poolUpto l a).2 + 2 * i)) 2 12 = 1 → ¬ (changeI (atI l ((poolUpto l a).2 + 2 * i + 1))).kind = (changeI (atI l ((poolUpto l a).2 + 2 * i))).kind → extra l ((poolUpto l a).2 + 2 * i) = true := fun h1 h2 => by unfold extra; simp [h1, h2]
    have hE4 : ¬ digitI (atI l ((poolUpto l a).2 + 2 * i)) 2 12 = 1 → extra l ((poolUpto l a).2 + 2 * i) = false := fun h1 => by unfold extra; simp [h1]
    have hat : (poolUpto l a).2 + 2 * ((i + 1 : Nat) : Int) = (poolUpto l a).2 + 2 * i + 2 := by omega
    generalize hacc : (poolUpto l a).1 ++ groupI l a (poolUpto l a).2 i = acc at hgl hst ⊢
    repeat' (first | refine yw ?_ | ((with_reducible refine Runs.is ?_); first | refine Runs.region (id := 7) ?_ | refine Runs.region (id := 9) ?_ | refine Runs.region (id := 10) ?_ | refine Runs.region (id := 8) ?_ | ((with_reducible refine Runs.isC ?_); refine Runs.cond rfl (zc ?_) (zc ?_) <;> intro hc <;> (try (first | contradiction | (exfalso; omega; done) | (have : hc = trivial := rfl; clear this; clear hc))))) | ((with_reducible refine r_is ?_); first | refine yrb ?_ | (refine r_buildOwn (D := 29) SlF.h ZoF.h zd zB zd rfl ?_; refine r_nn zN zH ?_) | (refine r_build SlF.h ZoF.h zd zB ?_; refine r_n zN ?_) | (refine r_fn rfl (kit_At f l _ hl) HbF.h zL2 zD ?_; refine r_nn zN zH ?_) | (refine r_fn rfl (kit_Digit _ 4 0 zd zd) HbF.h zL3 zD ?_; refine r_nn zN zH ?_) | (refine r_fn rfl (kit_Change _) HbF.h zL1 zD ?_; refine r_nn zN zH ?_)) | fail)
    · repeat' (first | refine yw ?_ | ((with_reducible refine Runs.is ?_); first | refine Runs.drawn (id := 11) mixed zK ?_ | refine Runs.region (id := 12) ?_ | ((with_reducible refine Runs.isC ?_); refine Runs.cond rfl (zc ?_) (zc ?_) <;> intro hc <;> (try (first | contradiction | (exfalso; omega; done) | (have : hc = trivial := rfl; clear this; clear hc))))) | ((with_reducible refine r_is ?_); first | refine yr ?_ | (refine r_append_full SlF.h SlF.s ZoF.h zd rfl rfl zC zJ zS rfl (fun hn => ?_) (fun hn => ?_) <;> refine r_nn zN zH ?_)) | ((with_reducible refine d_is ?_); first | refine yd ?_ | (refine d_fn rfl (kit_At f l _ hl) HbF.h zL2 zD ?_; refine d_nn zN zH ?_) | (refine d_fn rfl (kit_Digit _ 2 12 zd zd) HbF.h zL3 zD ?_; refine d_nn zN zH ?_) | ((with_reducible refine d_gd ?_); (first | refine d_guardPf rfl rfl ?_ ?_ | refine d_guardNf rfl rfl ?_ ?_ | refine d_guardPt rfl rfl ?_ ?_ | refine d_guardNt rfl rfl ?_ ?_ | refine d_guard rfl rfl ?_ ?_) <;> intro hG <;> (try (exfalso; omega; done)) <;> refine d_nn zN zH ?_)) | fail)
      all_goals ((refine Runs.weaken (St.Le.freeze_lst 29 rfl) ?_; refine yf ?_))
      all_goals
        repeat' (first | refine yw ?_ | ((with_reducible refine Runs.is ?_); first | refine Runs.region (id := 9) ?_ | refine Runs.region (id := 10) ?_ | refine Runs.drawn (id := 11) mixed zK ?_ | refine Runs.region (id := 12) ?_ | refine Runs.region (id := 13) ?_ | refine Runs.region (id := 14) ?_ | refine Runs.region (id := 8) ?_ | ((with_reducible refine Runs.isC ?_); refine Runs.cond rfl (zc ?_) (zc ?_) <;> intro hc <;> (try (first | contradiction | (exfalso; omega; done) | (have : hc = trivial := rfl; clear this; clear hc))))) | ((with_reducible refine r_is ?_); first | refine yr ?_ | (refine r_append_full SlF.h SlF.s ZoF.h zd rfl rfl zC zJ zS rfl (fun hn => ?_) (fun hn => ?_) <;> refine r_nn zN zH ?_)) | ((with_reducible refine d_is ?_); first | refine yd ?_ | ((with_reducible refine d_gd ?_); (first | refine d_guardPf rfl rfl ?_ ?_ | refine d_guardNf rfl rfl ?_ ?_ | refine d_guardPt rfl rfl ?_ ?_ | refine d_guardNt rfl rfl ?_ ?_ | refine d_guard rfl rfl ?_ ?_) <;> intro hG <;> (try (exfalso; omega; done)) <;> refine d_nn zN zH ?_)) | fail)
      all_goals (refine ihi (i + 1) _ zo zo ?_)
      all_goals (rw [hst])
      all_goals (rw [hat, propI])
      all_goals (first | rw [hE1 (by assumption) (by assumption) (by assumption), if_pos rfl] | rw [hE2 (by assumption) (by assumption) (by assumption), if_neg Bool.false_ne_true] | rw [hE3 (by assumption) (by assumption), if_pos rfl] | rw [hE4 (by assumption), if_neg Bool.false_ne_true])
      all_goals (clear hE1 hE2 hE3 hE4)
      all_goals ((refine St.Le.clean zR (by first | (simp [V.usesL, V.uses, AM.look_cons]; done) | (simp [V.usesL, V.uses, AM.look_cons, V.usesL_data, V.uses_data, da_i, da_chV, da_ruV, da_prV, da_enV, da_cfV, da_veV, da_inV, da_edV, da_grV, da_weV, da_mbV, da_suV, da_viV]; done)) ?_; (repeat' (first | exact True.intro | refine And.intro ?_ ?_)); all_goals (first | rfl | (simp [AM.look_cons, prV, chV]; done) | (simp [V.uses, V.usesL, AM.look_cons, V.usesL_data, V.uses_data, da_i, da_chV, da_ruV, da_prV, da_enV, da_cfV, da_veV, da_inV, da_edV, da_grV, da_weV, da_mbV, da_suV, da_viV]; done))))
    · have hi : i = cntI l a := by omega
      subst hi
      repeat' (first | refine yw ?_ | ((with_reducible refine Runs.is ?_); first | refine Runs.region (id := 6) ?_ | refine Runs.region (id := 5) ?_ | ((with_reducible refine Runs.isC ?_); refine Runs.cond rfl (zc ?_) (zc ?_) <;> intro hc <;> (try (first | contradiction | (exfalso; omega; done) | (have : hc = trivial := rfl; clear this; clear hc))))) | ((with_reducible refine r_is ?_); first | refine yr ?_) | fail)
      refine ih (a + 1) _ zo zo ?_
      rw [show poolUpto l (a + 1) = ((poolUpto l a).1 ++ groupI l a (poolUpto l a).2 (cntI l a), (poolUpto l a).2 + 2 * cntI l a) from rfl]
      dsimp only
      rw [hacc]
      (refine St.Le.clean zR zU zV)
  · have : a = 3 := by omega
    subst this
    repeat' (first | refine yw ?_ | ((with_reducible refine Runs.is ?_); first | refine Runs.region (id := 4) ?_ | ((with_reducible refine Runs.isC ?_); refine Runs.cond rfl (zc ?_) (zc ?_) <;> intro hc <;> (try (first | contradiction | (exfalso; omega; done) | (have : hc = trivial := rfl; clear this; clear hc))))) | ((with_reducible refine r_is ?_); first | refine yr ?_) | fail)
    repeat' (first | refine yw ?_ | ((with_reducible refine Runs.is ?_); first | refine Runs.region (id := 15) ?_ | ((with_reducible refine Runs.isC ?_); refine Runs.cond rfl (zc ?_) (zc ?_) <;> intro hc <;> (try (first | contradiction | (exfalso; omega; done) | (have : hc = trivial := rfl; clear this; clear hc))))) | ((with_reducible refine r_is ?_); first | refine yr ?_) | fail)
    refine Runs.ret_frz Tryz.func5 rfl rfl rfl ?_
    rfl
end Go.Proofs
