/- The reference: VectorOf, count. -/
import Derived.Test.YtmhnmookgbmmbaaGreatW6
set_option linter.unusedVariables false
set_option linter.unusedSimpArgs false
set_option maxRecDepth 8000
set_option maxHeartbeats 4000000
set_option pp.deepTerms false
set_option pp.deepTerms.threshold 6
namespace Go.Proofs
open Go.AM
attribute [local irreducible] AM.evalR AM.evalD AM.Runs AM.valK AM.dK AM.opK AM.stepR AM.CallS AM.St.Le

theorem withStep_fold (a n : Int) (v : Vector) (s : Vector × Bool) :
    (v.foldl (withStep a n) s).1.length + (if (v.foldl (withStep a n) s).2 then 0 else 1) ≤ s.1.length + (if s.2 then 0 else 1) + v.length := by
  induction v generalizing s with
  | nil => exact Nat.le_refl _
  | cons e v ih =>
    refine Nat.le_trans (ih _) ?_
    obtain ⟨l, put⟩ := s
    have : (withStep a n (l, put) e).1.length + (if (withStep a n (l, put) e).2 then 0 else 1) ≤ l.length + (if put then 0 else 1) + 1 := by
      unfold withStep; dsimp only
      cases put <;> split <;> (try split) <;> simp_all <;> omega
    simp only [List.length_cons]; omega
theorem withR_len (v : Vector) (a n : Int) : (withR v a n).length ≤ v.length + 1 := by
  unfold withR
  split
  · omega
  · have := withStep_fold a n v ([], decide (n = 0))
    dsimp only
    split
    · rename_i h; rw [if_pos h] at this; simp at this; split at this <;> omega
    · rename_i h; rw [if_neg h] at this; simp at this ⊢; split at this <;> omega
theorem withStep_mem (a n : Int) (v : Vector) (s : Vector × Bool) : ∀ e ∈ (v.foldl (withStep a n) s).1, e ∈ s.1 ∨ e ∈ v ∨ e = ⟨a, n⟩ := by
  induction v generalizing s with
  | nil => intro e he; exact .inl he
  | cons x v ih =>
    intro e he
    rcases ih _ e he with h | h | h
    · obtain ⟨l, put⟩ := s
      unfold withStep at h
      dsimp only at h
      split at h <;> split at h <;> simp at h <;> simp <;> grind
    · exact .inr (.inl (List.mem_cons_of_mem _ h))
    · exact .inr (.inr h)
theorem withR_mem {v : Vector} {a n : Int} {e : Entry} (h : e ∈ withR v a n) : e ∈ v ∨ (e = ⟨a, n⟩ ∧ 0 ≤ n ∧ n ≤ 1000000) := by
  unfold withR at h
  split at h
  · exact .inl h
  · dsimp only at h
    split at h
    · rcases withStep_mem a n v _ e h with h | h | h
      · cases h
      · exact .inl h
      · exact .inr ⟨h, by omega, by omega⟩
    · rcases List.mem_append.1 h with h | h
      · rcases withStep_mem a n v _ e h with h | h | h
        · cases h
        · exact .inl h
        · exact .inr ⟨h, by omega, by omega⟩
      · exact .inr ⟨by simpa using h, by omega, by omega⟩
/-- The counts of a vector are small. -/
def Mild (v : Vector) : Prop := ∀ e ∈ v, 0 ≤ e.count ∧ e.count ≤ 1000000
theorem Mild.count {v : Vector} (h : Mild v) (a : Int) : 0 ≤ countR v a ∧ countR v a ≤ 1000000 := by
  induction v with
  | nil => simp [countR]
  | cons e v ih =>
    unfold countR
    split
    · exact h e (List.mem_cons_self ..)
    · exact ih fun x hx => h x (List.mem_cons_of_mem _ hx)
theorem Mild.withR {v : Vector} (h : Mild v) (a n : Int) : Mild (withR v a n) := by
  intro e he
  rcases withR_mem he with h' | ⟨rfl, h1, h2⟩
  · exact h e h'
  · exact ⟨h1, h2⟩
/-- 'VectorOf' of the reference. -/
def vecStep (v : Vector) (p : Proposal) : Vector := withR v p.admin (countR v p.admin + 1)
def vectorR (c : Config) : Vector := c.foldl vecStep []
theorem vecFold (c : Config) (v : Vector) (h : Mild v) : Mild (c.foldl vecStep v) ∧ (c.foldl vecStep v).length ≤ v.length + c.length := by
  induction c generalizing v with
  | nil => exact ⟨h, by simp⟩
  | cons p c ih =>
    have := ih (vecStep v p) (h.withR _ _)
    refine ⟨this.1, Nat.le_trans this.2 ?_⟩
    have := withR_len v p.admin (countR v p.admin + 1)
    simp only [vecStep, List.length_cons]; omega
theorem ref_VectorOf (f : Bool) (c : Config) (hs1 : c.length ≤ 100000000) : AM.Fn Tryz.prog 56 [.sl f (c.map prV)] (.sl false ((vectorR c).map enV)) := by
  (refine spec_of_runs Tryz.func56 rfl ?_; simp only [Tryz.f56]; refine ys ?_)
  repeat' (first | refine yw ?_ | ((with_reducible refine Runs.is ?_); first | refine Runs.region (id := 0) ?_ | refine Runs.region (id := 1) ?_ | refine Runs.region (id := 2) ?_ | ((with_reducible refine Runs.isC ?_); refine Runs.cond rfl (zc ?_) (zc ?_) <;> intro hc <;> (try (first | contradiction | (exfalso; omega; done) | (have : hc = trivial := rfl; clear this; clear hc))))) | ((with_reducible refine r_is ?_); first | refine yr ?_) | fail)
  refine Runs.loopI (fun i : Nat => c.length - i) (fun i => i ≤ c.length)
    (fun i => ⟨[.sl f (c.map prV), .any, .any, .sl false ((vectorR (c.take i)).map enV), .i (i : Nat), .any, .any, .any, .any, .any, .any, .any, .any, .any, .any, .any, .any, .any, .any, .any, .any, .any, .any, .any, .any, .any, .any], []⟩) 0 (by simp) ?_ ?_
  · (refine St.Le.clean zR (by simp [V.usesL, V.uses, AM.look_cons, AM.look_nil, V.uses_data, da_i, da_chV, da_ruV, da_prV, da_enV, da_cfV, da_veV, da_inV, da_edV, da_grV, da_weV, da_mbV, da_suV, da_viV]) (by simp [AM.sub, AM.look_cons, AM.look_nil, V.uses, V.usesL, V.uses_data, da_i, da_chV, da_ruV, da_prV, da_enV, da_cfV, da_veV, da_inV, da_edV, da_grV, da_weV, da_mbV, da_suV, da_viV]))
  rintro i h0 ih
  have hv := vecFold (c.take i) [] (by intro e he; cases he)
  rw [List.length_take, Nat.min_eq_left h0] at hv
  simp only [List.length_nil, Nat.zero_add] at hv
  have hst := fun (h : i < c.length) => foldl_take (g := vecStep) (s := []) h
  unfold vectorR
  generalize hs : (c.take i).foldl vecStep [] = v at hv hst ⊢
  have hcn := hv.1.count (c.getD i default).admin
  repeat' (first | refine yw ?_ | ((with_reducible refine Runs.is ?_); first | refine Runs.region (id := 3) ?_ | refine Runs.drawn (id := 5) mixed zK ?_ | refine Runs.region (id := 4) ?_ | refine Runs.region (id := 6) ?_ | ((with_reducible refine Runs.isC ?_); refine Runs.cond rfl (zc ?_) (zc ?_) <;> intro hc <;> (try (first | contradiction | (exfalso; omega; done) | (have : hc = trivial := rfl; clear this; clear hc))))) | ((with_reducible refine r_is ?_); first | refine yr ?_) | ((with_reducible refine d_is ?_); first | refine yd ?_ | (refine d_fn rfl (ref_Count false v _) HbF.h zL2 zD ?_; refine d_nn zN zH ?_) | (refine d_fn rfl (ref_With false v _ _ zo) HbF.h zL3 zD ?_; refine d_nn zN zH ?_)) | fail)
  · refine ih (i + 1) _ zo zo ?_
    unfold vectorR
    rw [hst zo]
    (refine St.Le.clean zR (by simp [V.usesL, V.uses, AM.look_cons, AM.look_nil, V.uses_data, da_i, da_chV, da_ruV, da_prV, da_enV, da_cfV, da_veV, da_inV, da_edV, da_grV, da_weV, da_mbV, da_suV, da_viV]) (by simp [AM.sub, AM.look_cons, AM.look_nil, V.uses, V.usesL, V.uses_data, da_i, da_chV, da_ruV, da_prV, da_enV, da_cfV, da_veV, da_inV, da_edV, da_grV, da_weV, da_mbV, da_suV, da_viV]))
  · (refine Runs.ret1 Tryz.func56 rfl zM zD ?_; try exact zX)
    rw [List.take_of_length_le zo] at hs
    rw [hs]; exact V.Le.refl _
theorem ref_count (f : Bool) (c : Config) (a : Int) (hs1 : c.length ≤ 100000000) : AM.Fn Tryz.prog 32 [.sl f (c.map prV), .i a] (.i (countR (vectorR c) a)) := by
  (refine spec_of_runs Tryz.func32 rfl ?_; simp only [Tryz.f32]; refine ys ?_)
  repeat' (first | refine yw ?_ | ((with_reducible refine Runs.is ?_); first | refine Runs.region ?_ | ((with_reducible refine Runs.isC ?_); refine Runs.cond rfl (zc ?_) (zc ?_) <;> intro hc <;> (try (first | contradiction | (exfalso; omega; done) | (have : hc = trivial := rfl; clear this; clear hc))))) | ((with_reducible refine r_is ?_); first | refine yr ?_ | (refine r_fn rfl (ref_VectorOf f c hs1) HbF.h zL1 zD ?_; refine r_nn zN zH ?_) | (refine r_fn rfl (ref_Count false _ _) HbF.h zL2 zD ?_; refine r_nn zN zH ?_)) | fail)
  (refine Runs.ret1 Tryz.func32 rfl zM zD ?_; try exact zX)
end Go.Proofs
