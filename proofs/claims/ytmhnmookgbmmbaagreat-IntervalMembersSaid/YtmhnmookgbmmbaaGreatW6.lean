/- The reference: Restrict, With, VectorOf, count. -/
import Derived.Test.YtmhnmookgbmmbaaGreatW5
set_option linter.unusedVariables false
set_option linter.unusedSimpArgs false
set_option maxRecDepth 8000
set_option maxHeartbeats 4000000
set_option pp.deepTerms false
set_option pp.deepTerms.threshold 6
namespace Go.Proofs
open Go.AM
attribute [local irreducible] AM.evalR AM.evalD AM.Runs AM.valK AM.dK AM.opK AM.stepR AM.CallS AM.St.Le

/-- 'Restrict' of the reference. -/
def restrictR (c : Config) (v : Vector) : Config := c.filter fun p => decide (p.number ≤ countR v p.admin)
theorem ref_Restrict (f g : Bool) (c : Config) (v : Vector) (hs1 : c.length ≤ 1000000000) :
    AM.Spec Tryz.prog 34 [.sl f (c.map prV), .sl g (v.map enV)] [] (OwnPost 63 3 fun l => l = (restrictR c v).map prV) := by
  (refine spec_of_runs Tryz.func34 rfl ?_; simp only [Tryz.f34]; refine ys ?_)
  repeat' (first | refine yw ?_ | ((with_reducible refine Runs.is ?_); first | refine Runs.region (id := 0) ?_ | refine Runs.region (id := 1) ?_ | refine Runs.region (id := 2) ?_ | ((with_reducible refine Runs.isC ?_); refine Runs.cond rfl (zc ?_) (zc ?_) <;> intro hc <;> (try (first | contradiction | (exfalso; omega; done) | (have : hc = trivial := rfl; clear this; clear hc))))) | ((with_reducible refine r_is ?_); first | refine yr ?_) | fail)
  refine Runs.weaken (St.Le.nil 5 63 3 5 zd rfl rfl zE) ?_
  refine Runs.loopI (fun i : Nat => c.length - i) (fun i => i ≤ c.length)
    (fun i => ⟨[.sl f (c.map prV), .sl g (v.map enV), .any, .any, .any, .own 5, .i (i : Nat), .any, .any, .any, .any, .any, .any, .any, .any, .any, .any, .any, .any, .any, .any, .any, .any, .any, .any, .any, .any, .any, .any, .any, .any, .any, .any, .any], [(5, .lst 63 3 ((restrictR (c.take i) v).map prV))]⟩) 0 (by simp) ?_ ?_
  · refine St.Le.clean zR ?_ ?_
    · simp [V.usesL, V.uses, AM.look_cons]
    · exact ⟨⟨rfl, trivial⟩, trivial⟩
  rintro i h0 ih
  have hfl : (restrictR (c.take i) v).length ≤ i := Nat.le_trans (List.length_filter_le _ _) (by rw [List.length_take]; omega)
  repeat' (first | refine yw ?_ | ((with_reducible refine Runs.is ?_); first | refine Runs.region (id := 3) ?_ | refine Runs.drawn (id := 5) mixed zK ?_ | refine Runs.region (id := 6) ?_ | refine Runs.region (id := 4) ?_ | refine Runs.region (id := 7) ?_ | ((with_reducible refine Runs.isC ?_); refine Runs.cond rfl (zc ?_) (zc ?_) <;> intro hc <;> (try (first | contradiction | (exfalso; omega; done) | (have : hc = trivial := rfl; clear this; clear hc))))) | ((with_reducible refine r_is ?_); first | refine yr ?_ | (refine r_append_full SlF.h SlF.s ZoF.h zd rfl rfl zC zJ zS rfl (fun hn => ?_) (fun hn => ?_) <;> refine r_nn zN zH ?_)) | ((with_reducible refine d_is ?_); first | refine yd ?_ | (refine d_fn rfl (ref_Count g v _) HbF.h zL2 zD ?_; refine d_nn zN zH ?_)) | fail)
  · refine ih (i + 1) _ zo zo ?_
    refine St.Le.clean zR ?_ ?_
    · simp [V.usesL, V.uses, AM.look_cons]
    · unfold restrictR; rw [filter_take zo, if_pos (decide_eq_true hc)]
      exact ⟨⟨by simp [AM.look_cons], trivial⟩, trivial⟩
  · refine ih (i + 1) _ zo zo ?_
    refine St.Le.clean zR ?_ ?_
    · simp [V.usesL, V.uses, AM.look_cons]
    · unfold restrictR; rw [filter_take zo, decide_eq_false (Int.not_le.2 hc), if_neg Bool.false_ne_true]
      exact ⟨⟨by simp [AM.look_cons], trivial⟩, trivial⟩
  · refine Runs.ret_own Tryz.func34 rfl rfl rfl ?_
    rw [List.take_of_length_le zo]
/-- 'With' of the reference: the loop, from a state on. -/
def withStep (a n : Int) (s : Vector × Bool) (e : Entry) : Vector × Bool :=
  let s1 : Vector × Bool := if s.2 = false ∧ a ≤ e.author then (s.1 ++ [⟨a, n⟩], true) else s
  if e.author = a then s1 else (s1.1 ++ [e], s1.2)
def withR (v : Vector) (a n : Int) : Vector :=
  if a < 1 ∨ n < 0 ∨ 1000000 < n then v else
    let s := v.foldl (withStep a n) ([], decide (n = 0))
    if s.2 then s.1 else s.1 ++ [⟨a, n⟩]
theorem Le_sl (f : Bool) (es : List V) : V.Le (.sl f es) (.sl false es) := by cases f; exact V.Le.refl _; exact V.Le.full _
theorem foldl_take {α β : Type} [Inhabited α] {g : β → α → β} {s : β} {xs : List α} {i : Nat} (h : i < xs.length) : (xs.take (i + 1)).foldl g s = g ((xs.take i).foldl g s) (xs.getD i default) := by
  rw [take_getD h, List.foldl_append]; rfl
theorem withStep_len (a n : Int) (v : Vector) (s : Vector × Bool) : (v.foldl (withStep a n) s).1.length ≤ s.1.length + 2 * v.length := by
  induction v generalizing s with
  | nil => simp
  | cons e v ih =>
    refine Nat.le_trans (ih _) ?_
    have : (withStep a n s e).1.length ≤ s.1.length + 2 := by
      unfold withStep; dsimp only; split <;> split <;> simp
    simp only [List.length_cons]; omega
section
variable {a n : Int} {l : Vector} {put : Bool} {e : Entry}
theorem ws1 (h1 : put = false) (h2 : a ≤ e.author) (h3 : ¬ e.author = a) : withStep a n (l, put) e = (l ++ [⟨a, n⟩] ++ [e], true) := by simp [withStep, h1, h2, h3]
theorem ws2 (h1 : put = false) (h2 : a ≤ e.author) (h3 : e.author = a) : withStep a n (l, put) e = (l ++ [⟨a, n⟩], true) := by simp [withStep, h1, h2, h3]
theorem ws3 (h2 : e.author < a) (h3 : ¬ e.author = a) : withStep a n (l, put) e = (l ++ [e], put) := by simp [withStep, h3, Int.not_le.2 h2]
theorem ws5 (h1 : put = true) (h3 : ¬ e.author = a) : withStep a n (l, put) e = (l ++ [e], put) := by simp [withStep, h1, h3]
theorem ws6 (h1 : put = true) (h3 : e.author = a) : withStep a n (l, put) e = (l, put) := by simp [withStep, h1, h3]
end
theorem ref_With (f : Bool) (v : Vector) (a n : Int) (hs1 : v.length ≤ 1000000000) : AM.Fn Tryz.prog 33 [.sl f (v.map enV), .i a, .i n] (.sl false ((withR v a n).map enV)) := by
  (refine spec_of_runs Tryz.func33 rfl ?_; simp only [Tryz.f33]; refine ys ?_)
  repeat' (first | refine yw ?_ | ((with_reducible refine Runs.is ?_); first | refine Runs.region (id := 0) ?_ | refine Runs.region (id := 1) ?_ | refine Runs.region (id := 2) ?_ | refine Runs.region (id := 3) ?_ | refine Runs.region (id := 4) ?_ | refine Runs.region (id := 5) ?_ | ((with_reducible refine Runs.isC ?_); refine Runs.cond rfl (zc ?_) (zc ?_) <;> intro hc <;> (try (first | contradiction | (exfalso; omega; done) | (have : hc = trivial := rfl; clear this; clear hc))))) | ((with_reducible refine r_is ?_); first | refine yr ?_ | ((with_reducible refine r_gd ?_); (first | refine r_guardPf rfl rfl ?_ ?_ | refine r_guardNf rfl rfl ?_ ?_ | refine r_guard rfl rfl ?_ ?_) <;> intro hG <;> (try (exfalso; omega; done)) <;> refine r_nn zN zH ?_)) | fail)
  case refine_1.refine_1.refine_2 =>
    have hbad : ¬ (a < 1 ∨ n < 0 ∨ 1000000 < n) := by omega
    refine Runs.weaken (St.Le.nil 7 73 2 7 zd rfl rfl zE) ?_
    refine Runs.loopI (fun i : Nat => v.length - i) (fun i => i ≤ v.length)
      (fun i => ⟨[.sl f (v.map enV), .i a, .i n, .any, .any, .any, .any, .own 7, .b ((v.take i).foldl (withStep a n) ([], decide (n = 0))).2, .i (i : Nat), .any, .any, .any, .any, .any, .any, .any, .any, .any, .any, .any, .any, .any, .any, .any, .any, .any, .any, .any, .any, .any, .any, .any, .any, .any, .any, .any, .any, .any, .any, .any, .any, .any, .any, .any, .any, .any, .any, .any, .any, .any, .any, .any, .any, .any, .any, .any, .any, .any, .any, .any, .any, .any, .any, .any, .any, .any, .any, .any], [(7, .lst 73 2 (((v.take i).foldl (withStep a n) ([], decide (n = 0))).1.map enV))]⟩) 0 (by simp) ?_ ?_
    · refine St.Le.clean zR ?_ ?_
      · simp [V.usesL, V.uses, AM.look_cons]
      · exact ⟨⟨rfl, trivial⟩, trivial⟩
    rintro i h0 ih
    have hfl := withStep_len a n (v.take i) ([], decide (n = 0))
    rw [List.length_take, Nat.min_eq_left h0] at hfl
    have hst := fun (h : i < v.length) => foldl_take (g := withStep a n) (s := ([], decide (n = 0))) h
    generalize hs : (v.take i).foldl (withStep a n) ([], decide (n = 0)) = s at hfl hst ⊢
    obtain ⟨l, put⟩ := s
    dsimp only at hfl
    simp only [List.length_nil, Nat.zero_add] at hfl
    repeat' (first | refine yw ?_ | ((with_reducible refine Runs.is ?_); first | refine Runs.region (id := 6) ?_ | refine Runs.region (id := 8) ?_ | refine Runs.region (id := 9) ?_ | refine Runs.region (id := 10) ?_ | refine Runs.region (id := 11) ?_ | refine Runs.region (id := 12) ?_ | refine Runs.region (id := 7) ?_ | refine Runs.region (id := 13) ?_ | refine Runs.region (id := 14) ?_ | refine Runs.region (id := 15) ?_ | ((with_reducible refine Runs.isC ?_); refine Runs.cond rfl (zc ?_) (zc ?_) <;> intro hc <;> (try (first | contradiction | (exfalso; omega; done) | (have : hc = trivial := rfl; clear this; clear hc))))) | ((with_reducible refine r_is ?_); first | refine yr ?_ | (refine r_append_full SlF.h SlF.s ZoF.h zd rfl rfl zC zJ zS rfl (fun hn => ?_) (fun hn => ?_) <;> refine r_nn zN zH ?_) | ((with_reducible refine r_gd ?_); (first | refine r_guardPt rfl rfl ?_ ?_ | refine r_guardNt rfl rfl ?_ ?_ | refine r_guard rfl rfl ?_ ?_) <;> intro hG <;> (try (exfalso; omega; done)) <;> refine r_nn zN zH ?_)) | fail)
    · refine ih (i + 1) _ zo zo ?_
      rw [hst zo, ws1 (by simpa using hG) (by assumption) hc]
      refine St.Le.clean zR ?_ ?_
      · simp [V.usesL, V.uses, AM.look_cons]
      · exact ⟨⟨by simp [AM.look_cons, enV], trivial⟩, trivial⟩
    · refine ih (i + 1) _ zo zo ?_
      rw [hst zo, ws2 (by simpa using hG) (by assumption) hc]
      refine St.Le.clean zR ?_ ?_
      · simp [V.usesL, V.uses, AM.look_cons]
      · exact ⟨⟨by simp [AM.look_cons, enV], trivial⟩, trivial⟩
    · refine ih (i + 1) _ zo zo ?_
      rw [hst zo, ws3 (by assumption) hc]
      refine St.Le.clean zR ?_ ?_
      · simp [V.usesL, V.uses, AM.look_cons]
      · exact ⟨⟨by simp [AM.look_cons, enV], trivial⟩, trivial⟩
    · refine ih (i + 1) _ zo zo ?_
      rw [hst zo, ws5 (by simpa using hG) hc]
      refine St.Le.clean zR ?_ ?_
      · simp [V.usesL, V.uses, AM.look_cons]
      · exact ⟨⟨by simp [AM.look_cons, enV], trivial⟩, trivial⟩
    · refine ih (i + 1) _ zo zo ?_
      rw [hst zo, ws6 (by simpa using hG) hc]
      refine St.Le.clean zR ?_ ?_
      · simp [V.usesL, V.uses, AM.look_cons]
      · exact ⟨⟨by simp [AM.look_cons, enV], trivial⟩, trivial⟩
    all_goals
      rw [List.take_of_length_le zo] at hs
      refine Runs.ret_frz Tryz.func33 rfl rfl rfl ?_
      rw [withR, if_neg hbad]
      simp only [hs]
      simp [hc, enV]
  all_goals ((refine Runs.ret1 Tryz.func33 rfl zM zD ?_; try exact zX); rw [withR, if_pos zo]; exact Le_sl _ _)
end Go.Proofs
