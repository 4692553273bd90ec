/- Proved: whatever the input, elasticstorelaw09.IntervalSpan returns true, and its input reads as it did. No condition. -/
import Derived.Test.YtkklpkjbocnofaaGreatRows
import Derived.Test.YtkklpkjbocnofaaGreatG3
set_option linter.unusedVariables false
set_option linter.unusedSimpArgs false
set_option maxRecDepth 8000
set_option maxHeartbeats 4000000
set_option pp.deepTerms false
set_option pp.deepTerms.threshold 6
namespace Go.Proofs
open Go.AM
attribute [local irreducible] AM.evalR AM.evalD AM.Runs AM.valK AM.dK AM.opK AM.stepR AM.CallS AM.St.Le
def sum0 : Summary := ⟨[], [], [], ⟨0, 0, 0⟩, 0, 0, 0⟩
def ofTStep (p : Proposal) (s : Summary) (c : Change) : Summary :=
  if c.kind = 1 then { s with joined := insR s.joined c.server, weights := weighR s.weights ⟨c.server, c.weight, 0, p.admin, p.number⟩ }
  else if c.kind = 2 then { s with removed := insR s.removed c.server }
  else if c.kind = 3 then { s with weights := weighR s.weights ⟨c.server, c.weight, c.version, p.admin, p.number⟩ }
  else if c.kind = 4 then { s with rule := c.rule, version := c.version, admin := p.admin, number := p.number }
  else s
def ofT (p : Proposal) : Summary := p.changes.foldl (ofTStep p) sum0
theorem ofTStep_short {p : Proposal} {s : Summary} {c : Change} {n : Nat} (h : Short s n) : Short (ofTStep p s c) (n + 1) := by
  obtain ⟨h1, h2, h3⟩ := h
  have i1 := insR_len s.joined c.server
  have i2 := insR_len s.removed c.server
  have i3 := weighR_len s.weights ⟨c.server, c.weight, 0, p.admin, p.number⟩
  have i4 := weighR_len s.weights ⟨c.server, c.weight, c.version, p.admin, p.number⟩
  unfold ofTStep Short
  (repeat' split) <;> (try dsimp only) <;> omega
theorem ofT_short {p : Proposal} (k : Nat) (hk : k ≤ p.changes.length) : Short ((p.changes.take k).foldl (ofTStep p) sum0) k := by
  induction k with
  | zero => exact ⟨Nat.le_refl _, Nat.le_refl _, Nat.le_refl _⟩
  | succ k ih =>
    rw [foldl_take zo]
    exact ofTStep_short (ih zo)
theorem ref_Of (p : Proposal) (hp : p.changes.length ≤ 100000) : AM.Fn Tryz.prog 70 [prV p] (suV (ofT p)) := by
  have hgo : ∀ s, p.changes.foldl (ofTStep p) sum0 = s → s = ofT p := fun s h => h.symm
  have hsh := fun k hk => ofT_short (p := p) k hk
  have hgen : ∃ q : Proposal, q = p := ⟨p, rfl⟩
  obtain ⟨ad, nu, cs⟩ := p
  dsimp only at hp hgo hsh
  (refine spec_of_runs Tryz.func70 rfl ?_; simp only [Tryz.f70]; refine ys ?_)
  repeat' (first | refine yw ?_ | ((with_reducible refine Runs.is ?_); first | refine Runs.region (id := 0) ?_ | refine Runs.region (id := 1) ?_ | refine Runs.region (id := 2) ?_ | ((with_reducible refine Runs.isC ?_); refine Runs.cond rfl (zc ?_) (zc ?_) <;> intro hc <;> (try (first | contradiction | (exfalso; omega; done) | (have : hc = trivial := rfl; clear this; clear hc))))) | ((with_reducible refine r_is ?_); first | refine yr ?_) | fail)
  refine Runs.weaken (St.Le.nilVar 20 3 0 3 1 zd rfl rfl rfl) ?_
  (refine Runs.weaken (St.Le.freeze_lst 20 rfl) ?_; refine yf ?_)
  refine Runs.weaken (St.Le.nilVar 20 3 1 3 1 zd rfl rfl rfl) ?_
  (refine Runs.weaken (St.Le.freeze_lst 20 rfl) ?_; refine yf ?_)
  refine Runs.weaken (St.Le.nilVar 20 3 2 98 5 zd rfl rfl rfl) ?_
  (refine Runs.weaken (St.Le.freeze_lst 20 rfl) ?_; refine yf ?_)
  refine Runs.loopI (fun k : Nat => cs.length - k) (fun k => k ≤ cs.length)
    (fun k => ⟨[.any, .ptr 1 0 0, .ptr 2 0 0, .ptr 3 0 0, .i (k : Nat), .any, .any, .any, .any, .any, .any, .any, .any, .any, .any, .any, .any, .any, .any, .any, .any, .any, .any, .any, .any, .any, .any, .any, .any, .any, .any, .any, .any, .any, .any, .any, .any, .any, .any, .any, .any, .any, .any, .any, .any, .any, .any, .any, .any, .any, .any, .any, .any, .any, .any, .any, .any, .any, .any, .any, .any, .any, .any, .any, .any, .any, .any, .any, .any, .any, .any, .any, .any, .any, .any, .any, .any, .any, .any, .any, .any, .any], [(3, .var 78 (suV ((cs.take k).foldl (ofTStep ⟨ad, nu, cs⟩) sum0))), (2, .var 78 (.agg [.sc (.slice none 0 0), .sc (.slice none 0 0), .sc (.slice none 0 0), .i 0, .i 0, .i 0, .i 0, .i 0, .i 0])), (1, .var 62 (prV ⟨ad, nu, cs⟩))]⟩) 0 (by simp) ?_ ?_
  · (refine St.Le.clean zR zU zV)
  rintro k hk ih
  have hst := fun (h : k < cs.length) => foldl_take (g := ofTStep ⟨ad, nu, cs⟩) (s := sum0) h
  have hend : cs.length ≤ k → (cs.take k).foldl (ofTStep ⟨ad, nu, cs⟩) sum0 = ofT ⟨ad, nu, cs⟩ := fun h => by rw [List.take_of_length_le h]; rfl
  have hshk := hsh k hk
  generalize (cs.take k).foldl (ofTStep ⟨ad, nu, cs⟩) sum0 = s at hst hend hshk ⊢
  clear hgo hsh
  by_cases hlt : k < cs.length
  · have hst2 := hst hlt
    clear hst hend
    obtain ⟨s1, s2, s3⟩ := hshk
    have hI1 := ref_Insert false s.joined (cs.getD k default).server zo
    have hI2 := ref_Insert false s.removed (cs.getD k default).server zo
    have hW1 := ref_Weigh false s.weights ⟨(cs.getD k default).server, (cs.getD k default).weight, 0, ad, nu⟩ zo
    have hW2 := ref_Weigh false s.weights ⟨(cs.getD k default).server, (cs.getD k default).weight, (cs.getD k default).version, ad, nu⟩ zo
    rw [ofTStep] at hst2
    dsimp only at hst2
    repeat' (first | refine yw ?_ | ((with_reducible refine Runs.is ?_); first | refine Runs.region (id := 3) ?_ | refine Runs.region (id := 5) ?_ | refine Runs.region (id := 6) ?_ | refine Runs.region (id := 7) ?_ | refine Runs.region (id := 8) ?_ | refine Runs.region (id := 9) ?_ | refine Runs.region (id := 10) ?_ | refine Runs.region (id := 11) ?_ | refine Runs.region (id := 12) ?_ | refine Runs.region (id := 13) ?_ | refine Runs.region (id := 14) ?_ | refine Runs.region (id := 15) ?_ | refine Runs.region (id := 16) ?_ | refine Runs.region (id := 17) ?_ | refine Runs.region (id := 18) ?_ | refine Runs.region (id := 4) ?_ | ((with_reducible refine Runs.isC ?_); refine Runs.cond rfl (zc ?_) (zc ?_) <;> intro hc <;> (try (first | contradiction | (exfalso; omega; done) | (have : hc = trivial := rfl; clear this; clear hc))))) | ((with_reducible refine r_is ?_); first | refine yr ?_ | (refine r_fn rfl (hI1) HbF.h zL2 zD ?_; refine r_nn zN zH ?_) | (refine r_fn rfl (hI2) HbF.h zL2 zD ?_; refine r_nn zN zH ?_) | (refine r_fn rfl (hW1) HbF.h zL2 zD ?_; refine r_nn zN zH ?_) | (refine r_fn rfl (hW2) HbF.h zL2 zD ?_; refine r_nn zN zH ?_)) | fail)
    all_goals (refine ih (k + 1) _ zo zo ?_)
    · rw [hst2, if_pos (by assumption)]
      (refine St.Le.clean zR (by first | (simp [V.usesL, V.uses, AM.look_cons]; done) | (simp [V.usesL, V.uses, AM.look_cons, V.usesL_data, V.uses_data, da_i, da_chV, da_ruV, da_prV, da_enV, da_cfV, da_veV, da_inV, da_edV, da_grV, da_weV, da_mbV, da_suV, da_viV]; done)) ?_; (repeat' (first | exact True.intro | refine And.intro ?_ ?_)); all_goals (first | rfl | (simp [AM.look_cons, suV]; done) | (simp [V.uses, V.usesL, AM.look_cons, V.usesL_data, V.uses_data, da_i, da_chV, da_ruV, da_prV, da_enV, da_cfV, da_veV, da_inV, da_edV, da_grV, da_weV, da_mbV, da_suV, da_viV]; done)))
    · rw [hst2, if_neg zo, if_pos (by assumption)]
      (refine St.Le.clean zR (by first | (simp [V.usesL, V.uses, AM.look_cons]; done) | (simp [V.usesL, V.uses, AM.look_cons, V.usesL_data, V.uses_data, da_i, da_chV, da_ruV, da_prV, da_enV, da_cfV, da_veV, da_inV, da_edV, da_grV, da_weV, da_mbV, da_suV, da_viV]; done)) ?_; (repeat' (first | exact True.intro | refine And.intro ?_ ?_)); all_goals (first | rfl | (simp [AM.look_cons, suV]; done) | (simp [V.uses, V.usesL, AM.look_cons, V.usesL_data, V.uses_data, da_i, da_chV, da_ruV, da_prV, da_enV, da_cfV, da_veV, da_inV, da_edV, da_grV, da_weV, da_mbV, da_suV, da_viV]; done)))
    · rw [hst2, if_neg zo, if_neg zo, if_pos (by assumption)]
      (refine St.Le.clean zR (by first | (simp [V.usesL, V.uses, AM.look_cons]; done) | (simp [V.usesL, V.uses, AM.look_cons, V.usesL_data, V.uses_data, da_i, da_chV, da_ruV, da_prV, da_enV, da_cfV, da_veV, da_inV, da_edV, da_grV, da_weV, da_mbV, da_suV, da_viV]; done)) ?_; (repeat' (first | exact True.intro | refine And.intro ?_ ?_)); all_goals (first | rfl | (simp [AM.look_cons, suV]; done) | (simp [V.uses, V.usesL, AM.look_cons, V.usesL_data, V.uses_data, da_i, da_chV, da_ruV, da_prV, da_enV, da_cfV, da_veV, da_inV, da_edV, da_grV, da_weV, da_mbV, da_suV, da_viV]; done)))
    · rw [hst2, if_neg zo, if_neg zo, if_neg zo, if_pos (by assumption)]
      (refine St.Le.clean zR (by first | (simp [V.usesL, V.uses, AM.look_cons]; done) | (simp [V.usesL, V.uses, AM.look_cons, V.usesL_data, V.uses_data, da_i, da_chV, da_ruV, da_prV, da_enV, da_cfV, da_veV, da_inV, da_edV, da_grV, da_weV, da_mbV, da_suV, da_viV]; done)) ?_; (repeat' (first | exact True.intro | refine And.intro ?_ ?_)); all_goals (first | rfl | (simp [AM.look_cons, suV]; done) | (simp [V.uses, V.usesL, AM.look_cons, V.usesL_data, V.uses_data, da_i, da_chV, da_ruV, da_prV, da_enV, da_cfV, da_veV, da_inV, da_edV, da_grV, da_weV, da_mbV, da_suV, da_viV]; done)))
    · rw [hst2, if_neg zo, if_neg zo, if_neg zo, if_neg zo]
      (refine St.Le.clean zR (by first | (simp [V.usesL, V.uses, AM.look_cons]; done) | (simp [V.usesL, V.uses, AM.look_cons, V.usesL_data, V.uses_data, da_i, da_chV, da_ruV, da_prV, da_enV, da_cfV, da_veV, da_inV, da_edV, da_grV, da_weV, da_mbV, da_suV, da_viV]; done)) ?_; (repeat' (first | exact True.intro | refine And.intro ?_ ?_)); all_goals (first | rfl | (simp [AM.look_cons, suV]; done) | (simp [V.uses, V.usesL, AM.look_cons, V.usesL_data, V.uses_data, da_i, da_chV, da_ruV, da_prV, da_enV, da_cfV, da_veV, da_inV, da_edV, da_grV, da_weV, da_mbV, da_suV, da_viV]; done)))
  · have he := hend zo
    subst he
    repeat' (first | refine yw ?_ | ((with_reducible refine Runs.is ?_); first | refine Runs.region (id := 3) ?_ | ((with_reducible refine Runs.isC ?_); refine Runs.cond rfl (zc ?_) (zc ?_) <;> intro hc <;> (try (first | contradiction | (exfalso; omega; done) | (have : hc = trivial := rfl; clear this; clear hc))))) | ((with_reducible refine r_is ?_); first | refine yr ?_) | fail)
    repeat' (first | refine yw ?_ | ((with_reducible refine Runs.is ?_); first | refine Runs.region (id := 19) ?_ | ((with_reducible refine Runs.isC ?_); refine Runs.cond rfl (zc ?_) (zc ?_) <;> intro hc <;> (try (first | contradiction | (exfalso; omega; done) | (have : hc = trivial := rfl; clear this; clear hc))))) | ((with_reducible refine r_is ?_); first | refine yr ?_) | fail)
    (refine Runs.retC Tryz.func70 rfl zM rfl TyF.h (And.intro zE zd) zD ?_; try exact zX)
end Go.Proofs
namespace Go.Proofs
open Go.AM
attribute [local irreducible] AM.evalR AM.evalD AM.Runs AM.valK AM.dK AM.opK AM.stepR AM.CallS AM.St.Le
def sumTStep (s : Summary) (p : Proposal) : Summary := joinT s (ofT p)
def sumT (g : View) (c : Config) : Summary := c.foldl sumTStep (initS g)
theorem joinT_short {a b : Summary} {m n : Nat} (ha : Short a m) (hb : Short b n) : Short (joinT a b) (m + n) := by
  have h1 := foldl_len insR_len b.joined a.joined
  have h2 := foldl_len insR_len b.removed a.removed
  have h3 := foldl_len weighR_len b.weights a.weights
  obtain ⟨a1, a2, a3⟩ := ha
  obtain ⟨b1, b2, b3⟩ := hb
  exact ⟨Nat.le_trans h1 zo, Nat.le_trans h2 zo, Nat.le_trans h3 zo⟩
theorem ofT_short1 {p : Proposal} (h : p.changes.length ≤ 1000) : Short (ofT p) 1000 := by
  have := ofT_short (p := p) p.changes.length (Nat.le_refl _)
  rw [List.take_of_length_le (Nat.le_refl _)] at this
  obtain ⟨h1, h2, h3⟩ := this
  exact ⟨Nat.le_trans h1 h, Nat.le_trans h2 h, Nat.le_trans h3 h⟩
theorem sumT_short {g : View} (hg : g.members.length ≤ 1000) : ∀ (c : Config), (∀ p ∈ c, p.changes.length ≤ 1000) → Short (sumT g c) (1000 + 1000 * c.length) := by
  intro c
  have gen : ∀ (c : Config) (s : Summary) (n : Nat), Short s n → (∀ p ∈ c, p.changes.length ≤ 1000) → Short (c.foldl sumTStep s) (n + 1000 * c.length) := by
    intro c
    induction c with
    | nil => intro s n hs _; simpa using hs
    | cons p c ih =>
      intro s n hs hc
      have h1 := joinT_short hs (ofT_short1 (hc p (by simp)))
      have h2 := ih (sumTStep s p) (n + 1000) h1 (fun q hq => hc q (by simp [hq]))
      rw [List.foldl_cons, List.length_cons]
      rw [show n + 1000 * (c.length + 1) = n + 1000 + 1000 * c.length by omega]; exact h2
  exact gen c (initS g) 1000 (initS_short hg)
theorem Short.mono {s : Summary} {m n : Nat} (h : Short s m) (hmn : m ≤ n) : Short s n := ⟨Nat.le_trans h.1 hmn, Nat.le_trans h.2.1 hmn, Nat.le_trans h.2.2 hmn⟩
theorem ref_Summarize (f : Bool) (g : View) (c : Config) (hg : g.members.length ≤ 1000) (hc : c.length ≤ 100) (hp : ∀ p ∈ c, Plain p) : AM.Fn Tryz.prog 43 [viV g, .sl f (c.map prV)] (suV (sumT g c)) := by
  (refine spec_of_runs Tryz.func43 rfl ?_; simp only [Tryz.f43]; refine ys ?_)
  repeat' (first | refine yw ?_ | ((with_reducible refine Runs.is ?_); first | refine Runs.region (id := 0) ?_ | refine Runs.region (id := 1) ?_ | refine Runs.region (id := 2) ?_ | ((with_reducible refine Runs.isC ?_); refine Runs.cond rfl (zc ?_) (zc ?_) <;> intro hc <;> (try (first | contradiction | (exfalso; omega; done) | (have : hc = trivial := rfl; clear this; clear hc))))) | ((with_reducible refine r_is ?_); first | refine yr ?_ | (refine r_fn rfl (ref_Initial g zo) HbF.h zL1 zD ?_; refine r_nn zN zH ?_)) | fail)
  refine Runs.loopI (fun k : Nat => c.length - k) (fun k => k ≤ c.length)
    (fun k => ⟨[.any, .sl f (c.map prV), .any, .any, .ptr 4 0 0, .ptr 5 0 0, .i (k : Nat), .any, .any, .any, .any, .any, .any, .any, .any, .any, .any, .any, .any, .any, .any, .any, .any], [(5, .var 78 (suV (sumT g (c.take k)))), (4, .var 78 (.agg [.sc (.slice none 0 0), .sc (.slice none 0 0), .sc (.slice none 0 0), .i 0, .i 0, .i 0, .i 0, .i 0, .i 0]))]⟩) 0 (by simp) ?_ ?_
  · (refine St.Le.clean zR zU zV)
  rintro k hk ih
  have hst := fun (h : k < c.length) => foldl_take (g := sumTStep) (s := initS g) h
  have hend : c.length ≤ k → sumT g (c.take k) = sumT g c := fun h => by rw [List.take_of_length_le h]
  have hsh := sumT_short hg (c.take k) (fun p q => (hp p (List.mem_of_mem_take q)).1)
  rw [List.length_take] at hsh
  have hpl : k < c.length → Plain (c.getD k default) := fun h => hp _ (by rw [List.getD_eq_getElem?_getD, List.getElem?_eq_getElem h]; exact List.getElem_mem h)
  change k < c.length → sumT g (c.take (k + 1)) = sumTStep (sumT g (c.take k)) (c.getD k default) at hst
  generalize sumT g (c.take k) = s at hst hend hsh ⊢
  by_cases hlt : k < c.length
  · have hst2 : sumT g (c.take (k + 1)) = joinT s (ofT (c.getD k default)) := hst hlt
    have hp2 := hpl hlt
    have hOf := ref_Of (c.getD k default) (Nat.le_trans hp2.1 zd)
    have hJn := ref_Join s (ofT (c.getD k default)) (hsh.mono zo) ((ofT_short1 hp2.1).mono zd)
    generalize ofT (c.getD k default) = q at hOf hJn hst2
    repeat' (first | refine yw ?_ | ((with_reducible refine Runs.is ?_); first | refine Runs.region (id := 3) ?_ | refine Runs.drawn (id := 5) mixed zK ?_ | refine Runs.region (id := 4) ?_ | ((with_reducible refine Runs.isC ?_); refine Runs.cond rfl (zc ?_) (zc ?_) <;> intro hc <;> (try (first | contradiction | (exfalso; omega; done) | (have : hc = trivial := rfl; clear this; clear hc))))) | ((with_reducible refine r_is ?_); first | refine yr ?_) | ((with_reducible refine d_is ?_); first | refine yd ?_ | (refine d_fn rfl (hOf) HbF.h zL1 zD ?_; refine d_nn zN zH ?_) | (refine d_fn rfl (hJn) HbF.h zL2 zD ?_; refine d_nn zN zH ?_)) | fail)
    refine ih (k + 1) _ zo zo ?_
    rw [hst2]
    (refine St.Le.clean zR zU zV)
  · have he := hend zo
    subst he
    repeat' (first | refine yw ?_ | ((with_reducible refine Runs.is ?_); first | refine Runs.region (id := 3) ?_ | ((with_reducible refine Runs.isC ?_); refine Runs.cond rfl (zc ?_) (zc ?_) <;> intro hc <;> (try (first | contradiction | (exfalso; omega; done) | (have : hc = trivial := rfl; clear this; clear hc))))) | ((with_reducible refine r_is ?_); first | refine yr ?_) | fail)
    repeat' (first | refine yw ?_ | ((with_reducible refine Runs.is ?_); first | refine Runs.region (id := 6) ?_ | ((with_reducible refine Runs.isC ?_); refine Runs.cond rfl (zc ?_) (zc ?_) <;> intro hc <;> (try (first | contradiction | (exfalso; omega; done) | (have : hc = trivial := rfl; clear this; clear hc))))) | ((with_reducible refine r_is ?_); first | refine yr ?_) | fail)
    (refine Runs.retC Tryz.func43 rfl zM rfl TyF.h (And.intro zE zd) zD ?_; try exact zX)
def vAccT (R : List Int) (W : List WeightEntry) (l : List Int) : List Member := (l.filter fun x => !R.any fun y => decide (y = x)).map fun x => ⟨x, weightR W x⟩
def viewT (s : Summary) : View := ⟨vAccT s.removed s.weights s.joined, viewRule s.rule⟩
theorem vAccT_snoc (R : List Int) (W : List WeightEntry) (l : List Int) (x : Int) : vAccT R W (l ++ [x]) = vAccT R W l ++ (if (R.any fun y => decide (y = x)) = true then [] else [⟨x, weightR W x⟩]) := by
  unfold vAccT
  rw [List.filter_append, List.map_append]
  congr 1
  cases h : R.any fun y => decide (y = x) <;> simp [h]
theorem vAccT_len (R : List Int) (W : List WeightEntry) (l : List Int) : (vAccT R W l).length ≤ l.length := by
  unfold vAccT; rw [List.length_map]; exact List.length_filter_le _ _
theorem ref_View (s : Summary) (hs : s.joined.length ≤ 1000000) (hw0 : s.weights.length ≤ 1000000) : AM.Fn Tryz.prog 42 [suV s] (viV (viewT s)) := by
  have hwt := fun x => ref_weight s x hw0
  obtain ⟨J, R, W, ru, ver, adm, num⟩ := s
  dsimp only at hs hw0 hwt
  have main : ∀ r2 : Rule, viewRule ru = r2 → AM.Fn Tryz.prog 42 [suV ⟨J, R, W, ru, ver, adm, num⟩] (viV ⟨vAccT R W J, r2⟩) := by
    intro r2 hr2
    unfold viewRule at hr2
    (refine spec_of_runs Tryz.func42 rfl ?_; simp only [Tryz.f42]; refine ys ?_)
    repeat' (first | refine yw ?_ | ((with_reducible refine Runs.is ?_); first | refine Runs.region (id := 0) ?_ | refine Runs.region (id := 1) ?_ | refine Runs.region (id := 2) ?_ | refine Runs.region (id := 3) ?_ | refine Runs.region (id := 4) ?_ | ((with_reducible refine Runs.isC ?_); refine Runs.cond rfl (zc ?_) (zc ?_) <;> intro hc <;> (try (first | contradiction | (exfalso; omega; done) | (have : hc = trivial := rfl; clear this; clear hc))))) | ((with_reducible refine r_is ?_); first | refine yr ?_) | fail)
    · rw [if_pos hc] at hr2
      subst hr2
      clear hc
      refine Runs.weaken (St.Le.nilVar 50 3 0 53 2 zd rfl rfl rfl) ?_
      refine Runs.loopI (fun k : Nat => J.length - k) (fun k => k ≤ J.length)
        (fun k => ⟨[.any, .ptr 1 0 0, .ptr 2 0 0, .ptr 3 0 0, .i (k : Nat), .any, .any, .any, .any, .any, .any, .any, .any, .any, .any, .any, .any, .any, .any, .any, .any, .any, .any, .any, .any, .any, .any, .any, .any, .any, .any, .any, .any, .any, .any, .any, .any, .any, .any, .any, .any, .any, .any, .any, .any, .any, .any, .any, .any], [(50, .lst 53 2 ((vAccT R W (J.take k)).map mbV)), (3, .var 41 (.agg [.own 50, .i (⟨1, 0, 0⟩ : Rule).kind, .i (⟨1, 0, 0⟩ : Rule).columns, .i (⟨1, 0, 0⟩ : Rule).faulty])), (2, .var 41 (.agg [.sc (.slice none 0 0), .i 0, .i 0, .i 0])), (1, .var 78 (suV ⟨J, R, W, ru, ver, adm, num⟩))]⟩) 0 (by simp) ?_ ?_
      · (refine St.Le.clean zR zU zV)
      rintro k hk ih
      have hst := fun (h : k < J.length) => vAccT_snoc R W (J.take k) (J.getD k default)
      have htk := fun (h : k < J.length) => take_getD (xs := J) h
      have hend : J.length ≤ k → vAccT R W (J.take k) = vAccT R W J := fun h => by rw [List.take_of_length_le h]
      have hl : (vAccT R W (J.take k)).length ≤ 1000000 := by
        have := vAccT_len R W (J.take k)
        rw [List.length_take] at this; omega
      generalize vAccT R W (J.take k) = acc at hst hend hl ⊢
      by_cases hlt : k < J.length
      · have hst2 := hst hlt
        have htk2 := htk hlt
        have hI := ref_In false R (J.getD k default)
        have hw2 := hwt (J.getD k default)
        cases hb : R.any fun y => decide (y = J.getD k default)
        · rw [hb] at hI
          rw [if_neg (by rw [hb]; decide)] at hst2
          repeat' (first | refine yw ?_ | ((with_reducible refine Runs.is ?_); first | refine Runs.region (id := 5) ?_ | refine Runs.drawn (id := 7) mixed zK ?_ | refine Runs.region (id := 6) ?_ | ((with_reducible refine Runs.isC ?_); refine Runs.cond rfl (zc ?_) (zc ?_) <;> intro hc <;> (try (first | contradiction | (exfalso; omega; done) | (have : hc = trivial := rfl; clear this; clear hc))))) | ((with_reducible refine r_is ?_); first | refine yr ?_) | ((with_reducible refine d_is ?_); first | refine yd ?_ | (refine d_fn rfl (hI) HbF.h zL2 zD ?_; refine d_nn zN zH ?_)) | fail)
          refine Runs.drawnT [] 16 mixed zK (by decide +kernel) ?_
          dsimp only [List.take, List.drop]
          repeat' (first | refine yw ?_ | ((with_reducible refine Runs.is ?_); first | refine Runs.drawn (id := 8) mixed zK ?_ | ((with_reducible refine Runs.isC ?_); refine Runs.cond rfl (zc ?_) (zc ?_) <;> intro hc <;> (try (first | contradiction | (exfalso; omega; done) | (have : hc = trivial := rfl; clear this; clear hc))))) | ((with_reducible refine d_is ?_); first | refine yd ?_ | (refine d_fn rfl (hw2) HbF.h zL2 zD ?_; refine d_nn zN zH ?_)) | fail)
          refine And.intro (by intro a i h; cases h) ?_
          refine yr ?_
          repeat' (first | refine yw ?_ | ((with_reducible refine Runs.is ?_); first | refine Runs.region (id := 6) ?_ | ((with_reducible refine Runs.isC ?_); refine Runs.cond rfl (zc ?_) (zc ?_) <;> intro hc <;> (try (first | contradiction | (exfalso; omega; done) | (have : hc = trivial := rfl; clear this; clear hc))))) | ((with_reducible refine r_is ?_); first | refine yr ?_) | fail)
          refine ih (k + 1) _ zo zo ?_
          rw [htk2, hst2]
          (refine St.Le.clean zR (by first | (simp [V.usesL, V.uses, AM.look_cons]; done) | (simp [V.usesL, V.uses, AM.look_cons, V.usesL_data, V.uses_data, da_i, da_chV, da_ruV, da_prV, da_enV, da_cfV, da_veV, da_inV, da_edV, da_grV, da_weV, da_mbV, da_suV, da_viV]; done)) ?_; (repeat' (first | exact True.intro | refine And.intro ?_ ?_)); all_goals (first | rfl | (simp [AM.look_cons, mbV]; done) | (simp [V.uses, V.usesL, AM.look_cons, V.usesL_data, V.uses_data, da_i, da_chV, da_ruV, da_prV, da_enV, da_cfV, da_veV, da_inV, da_edV, da_grV, da_weV, da_mbV, da_suV, da_viV]; done)))
        · rw [hb] at hI
          rw [if_pos hb, List.append_nil] at hst2
          repeat' (first | refine yw ?_ | ((with_reducible refine Runs.is ?_); first | refine Runs.region (id := 5) ?_ | refine Runs.drawn (id := 7) mixed zK ?_ | refine Runs.region (id := 6) ?_ | ((with_reducible refine Runs.isC ?_); refine Runs.cond rfl (zc ?_) (zc ?_) <;> intro hc <;> (try (first | contradiction | (exfalso; omega; done) | (have : hc = trivial := rfl; clear this; clear hc))))) | ((with_reducible refine r_is ?_); first | refine yr ?_) | ((with_reducible refine d_is ?_); first | refine yd ?_ | (refine d_fn rfl (hI) HbF.h zL2 zD ?_; refine d_nn zN zH ?_)) | fail)
          repeat' (first | refine yw ?_ | ((with_reducible refine Runs.is ?_); first | refine Runs.region (id := 6) ?_ | ((with_reducible refine Runs.isC ?_); refine Runs.cond rfl (zc ?_) (zc ?_) <;> intro hc <;> (try (first | contradiction | (exfalso; omega; done) | (have : hc = trivial := rfl; clear this; clear hc))))) | ((with_reducible refine r_is ?_); first | refine yr ?_) | fail)
          refine ih (k + 1) _ zo zo ?_
          rw [htk2, hst2]
          (refine St.Le.clean zR zU zV)
      · have he := hend zo
        subst he
        repeat' (first | refine yw ?_ | ((with_reducible refine Runs.is ?_); first | refine Runs.region (id := 5) ?_ | ((with_reducible refine Runs.isC ?_); refine Runs.cond rfl (zc ?_) (zc ?_) <;> intro hc <;> (try (first | contradiction | (exfalso; omega; done) | (have : hc = trivial := rfl; clear this; clear hc))))) | ((with_reducible refine r_is ?_); first | refine yr ?_) | fail)
        repeat' (first | refine yw ?_ | ((with_reducible refine Runs.is ?_); first | refine Runs.region (id := 9) ?_ | ((with_reducible refine Runs.isC ?_); refine Runs.cond rfl (zc ?_) (zc ?_) <;> intro hc <;> (try (first | contradiction | (exfalso; omega; done) | (have : hc = trivial := rfl; clear this; clear hc))))) | ((with_reducible refine r_is ?_); first | refine yr ?_) | fail)
        (refine Runs.weaken (St.Le.freeze_lst 50 rfl) ?_; refine yf ?_)
        (refine Runs.retC Tryz.func42 rfl zM rfl TyF.h (And.intro zE zd) zD ?_; try exact zX)
    · rw [if_neg hc] at hr2
      subst hr2
      clear hc
      refine Runs.weaken (St.Le.nilVar 50 3 0 53 2 zd rfl rfl rfl) ?_
      refine Runs.loopI (fun k : Nat => J.length - k) (fun k => k ≤ J.length)
        (fun k => ⟨[.any, .ptr 1 0 0, .ptr 2 0 0, .ptr 3 0 0, .i (k : Nat), .any, .any, .any, .any, .any, .any, .any, .any, .any, .any, .any, .any, .any, .any, .any, .any, .any, .any, .any, .any, .any, .any, .any, .any, .any, .any, .any, .any, .any, .any, .any, .any, .any, .any, .any, .any, .any, .any, .any, .any, .any, .any, .any, .any], [(50, .lst 53 2 ((vAccT R W (J.take k)).map mbV)), (3, .var 41 (.agg [.own 50, .i ru.kind, .i ru.columns, .i ru.faulty])), (2, .var 41 (.agg [.sc (.slice none 0 0), .i 0, .i 0, .i 0])), (1, .var 78 (suV ⟨J, R, W, ru, ver, adm, num⟩))]⟩) 0 (by simp) ?_ ?_
      · (refine St.Le.clean zR zU zV)
      rintro k hk ih
      have hst := fun (h : k < J.length) => vAccT_snoc R W (J.take k) (J.getD k default)
      have htk := fun (h : k < J.length) => take_getD (xs := J) h
      have hend : J.length ≤ k → vAccT R W (J.take k) = vAccT R W J := fun h => by rw [List.take_of_length_le h]
      have hl : (vAccT R W (J.take k)).length ≤ 1000000 := by
        have := vAccT_len R W (J.take k)
        rw [List.length_take] at this; omega
      generalize vAccT R W (J.take k) = acc at hst hend hl ⊢
      by_cases hlt : k < J.length
      · have hst2 := hst hlt
        have htk2 := htk hlt
        have hI := ref_In false R (J.getD k default)
        have hw2 := hwt (J.getD k default)
        cases hb : R.any fun y => decide (y = J.getD k default)
        · rw [hb] at hI
          rw [if_neg (by rw [hb]; decide)] at hst2
          repeat' (first | refine yw ?_ | ((with_reducible refine Runs.is ?_); first | refine Runs.region (id := 5) ?_ | refine Runs.drawn (id := 7) mixed zK ?_ | refine Runs.region (id := 6) ?_ | ((with_reducible refine Runs.isC ?_); refine Runs.cond rfl (zc ?_) (zc ?_) <;> intro hc <;> (try (first | contradiction | (exfalso; omega; done) | (have : hc = trivial := rfl; clear this; clear hc))))) | ((with_reducible refine r_is ?_); first | refine yr ?_) | ((with_reducible refine d_is ?_); first | refine yd ?_ | (refine d_fn rfl (hI) HbF.h zL2 zD ?_; refine d_nn zN zH ?_)) | fail)
          refine Runs.drawnT [] 16 mixed zK (by decide +kernel) ?_
          dsimp only [List.take, List.drop]
          repeat' (first | refine yw ?_ | ((with_reducible refine Runs.is ?_); first | refine Runs.drawn (id := 8) mixed zK ?_ | ((with_reducible refine Runs.isC ?_); refine Runs.cond rfl (zc ?_) (zc ?_) <;> intro hc <;> (try (first | contradiction | (exfalso; omega; done) | (have : hc = trivial := rfl; clear this; clear hc))))) | ((with_reducible refine d_is ?_); first | refine yd ?_ | (refine d_fn rfl (hw2) HbF.h zL2 zD ?_; refine d_nn zN zH ?_)) | fail)
          refine And.intro (by intro a i h; cases h) ?_
          refine yr ?_
          repeat' (first | refine yw ?_ | ((with_reducible refine Runs.is ?_); first | refine Runs.region (id := 6) ?_ | ((with_reducible refine Runs.isC ?_); refine Runs.cond rfl (zc ?_) (zc ?_) <;> intro hc <;> (try (first | contradiction | (exfalso; omega; done) | (have : hc = trivial := rfl; clear this; clear hc))))) | ((with_reducible refine r_is ?_); first | refine yr ?_) | fail)
          refine ih (k + 1) _ zo zo ?_
          rw [htk2, hst2]
          (refine St.Le.clean zR (by first | (simp [V.usesL, V.uses, AM.look_cons]; done) | (simp [V.usesL, V.uses, AM.look_cons, V.usesL_data, V.uses_data, da_i, da_chV, da_ruV, da_prV, da_enV, da_cfV, da_veV, da_inV, da_edV, da_grV, da_weV, da_mbV, da_suV, da_viV]; done)) ?_; (repeat' (first | exact True.intro | refine And.intro ?_ ?_)); all_goals (first | rfl | (simp [AM.look_cons, mbV]; done) | (simp [V.uses, V.usesL, AM.look_cons, V.usesL_data, V.uses_data, da_i, da_chV, da_ruV, da_prV, da_enV, da_cfV, da_veV, da_inV, da_edV, da_grV, da_weV, da_mbV, da_suV, da_viV]; done)))
        · rw [hb] at hI
          rw [if_pos hb, List.append_nil] at hst2
          repeat' (first | refine yw ?_ | ((with_reducible refine Runs.is ?_); first | refine Runs.region (id := 5) ?_ | refine Runs.drawn (id := 7) mixed zK ?_ | refine Runs.region (id := 6) ?_ | ((with_reducible refine Runs.isC ?_); refine Runs.cond rfl (zc ?_) (zc ?_) <;> intro hc <;> (try (first | contradiction | (exfalso; omega; done) | (have : hc = trivial := rfl; clear this; clear hc))))) | ((with_reducible refine r_is ?_); first | refine yr ?_) | ((with_reducible refine d_is ?_); first | refine yd ?_ | (refine d_fn rfl (hI) HbF.h zL2 zD ?_; refine d_nn zN zH ?_)) | fail)
          repeat' (first | refine yw ?_ | ((with_reducible refine Runs.is ?_); first | refine Runs.region (id := 6) ?_ | ((with_reducible refine Runs.isC ?_); refine Runs.cond rfl (zc ?_) (zc ?_) <;> intro hc <;> (try (first | contradiction | (exfalso; omega; done) | (have : hc = trivial := rfl; clear this; clear hc))))) | ((with_reducible refine r_is ?_); first | refine yr ?_) | fail)
          refine ih (k + 1) _ zo zo ?_
          rw [htk2, hst2]
          (refine St.Le.clean zR zU zV)
      · have he := hend zo
        subst he
        repeat' (first | refine yw ?_ | ((with_reducible refine Runs.is ?_); first | refine Runs.region (id := 5) ?_ | ((with_reducible refine Runs.isC ?_); refine Runs.cond rfl (zc ?_) (zc ?_) <;> intro hc <;> (try (first | contradiction | (exfalso; omega; done) | (have : hc = trivial := rfl; clear this; clear hc))))) | ((with_reducible refine r_is ?_); first | refine yr ?_) | fail)
        repeat' (first | refine yw ?_ | ((with_reducible refine Runs.is ?_); first | refine Runs.region (id := 9) ?_ | ((with_reducible refine Runs.isC ?_); refine Runs.cond rfl (zc ?_) (zc ?_) <;> intro hc <;> (try (first | contradiction | (exfalso; omega; done) | (have : hc = trivial := rfl; clear this; clear hc))))) | ((with_reducible refine r_is ?_); first | refine yr ?_) | fail)
        (refine Runs.weaken (St.Le.freeze_lst 50 rfl) ?_; refine yf ?_)
        (refine Runs.retC Tryz.func42 rfl zM rfl TyF.h (And.intro zE zd) zD ?_; try exact zX)
  exact main _ rfl
theorem ref_ViewOf (f : Bool) (g : View) (c : Config) (hg : g.members.length ≤ 1000) (hc : c.length ≤ 100) (hp : ∀ p ∈ c, Plain p) : AM.Fn Tryz.prog 17 [viV g, .sl f (c.map prV)] (viV (viewT (sumT g c))) := by
  have hsh := sumT_short hg c (fun p q => (hp p q).1)
  obtain ⟨h1, h2, h3⟩ := hsh
  have hV := ref_View (sumT g c) zo zo
  (refine spec_of_runs Tryz.func17 rfl ?_; simp only [Tryz.f17]; refine ys ?_)
  repeat' (first | refine yw ?_ | ((with_reducible refine Runs.is ?_); first | refine Runs.region ?_ | ((with_reducible refine Runs.isC ?_); refine Runs.cond rfl (zc ?_) (zc ?_) <;> intro hc <;> (try (first | contradiction | (exfalso; omega; done) | (have : hc = trivial := rfl; clear this; clear hc))))) | ((with_reducible refine r_is ?_); first | refine yr ?_ | (refine r_fn rfl (ref_Summarize f g c hg hc hp) HbF.h zL2 zD ?_; refine r_nn zN zH ?_) | (refine r_fn rfl (hV) HbF.h zL1 zD ?_; refine r_nn zN zH ?_)) | fail)
  (refine Runs.retC Tryz.func17 rfl zM rfl TyF.h (And.intro zE zd) zD ?_; try exact zX)
end Go.Proofs
namespace Go.Proofs
open Go.AM
attribute [local irreducible] AM.evalR AM.evalD AM.Runs AM.valK AM.dK AM.opK AM.stepR AM.CallS AM.St.Le
def cntR (c : Config) (a : Int) : Int := countR (vectorR c) a
def vec3 (i j k : Int) : Vector := withR (withR (withR [] 201 i) 202 j) 203 k
def allK (a b : Config) (i j : Int) : List Config := (upto (cntR a 203) (cntR b 203)).map fun k => restrictR b (vec3 i j k)
def allJ (a b : Config) (i : Int) : List Config := (upto (cntR a 202) (cntR b 202)).flatMap fun j => allK a b i j
def allR (a b : Config) : List Config := if containsR b a then (upto (cntR a 201) (cntR b 201)).flatMap fun i => allJ a b i else []
end Go.Proofs
namespace Go.Proofs
open Go.AM
attribute [local irreducible] AM.evalR AM.evalD AM.Runs AM.valK AM.dK AM.opK AM.stepR AM.CallS AM.St.Le
theorem kit_Pool (f : Bool) (l : List Int) (hl : l.length ≤ 4611686018427387904) : AM.Fn Tryz.prog 22 [.sl f (l.map .i)] (.sl false ((poolI l).map prV)) := by
  (refine spec_of_runs Tryz.func22 rfl ?_; simp only [Tryz.f22]; refine ys ?_)
  repeat' (first | refine yw ?_ | ((with_reducible refine Runs.is ?_); first | refine Runs.region (id := 0) ?_ | refine Runs.region (id := 1) ?_ | refine Runs.region (id := 2) ?_ | refine Runs.region (id := 3) ?_ | ((with_reducible refine Runs.isC ?_); refine Runs.cond rfl (zc ?_) (zc ?_) <;> intro hc <;> (try (first | contradiction | (exfalso; omega; done) | (have : hc = trivial := rfl; clear this; clear hc))))) | ((with_reducible refine r_is ?_); first | refine yr ?_) | fail)
  (refine Runs.weaken (St.Le.nil 3 62 3 3 zd rfl rfl zE) ?_)
  refine Runs.loopI (fun a : Nat => 3 - a) (fun a => a ≤ 3)
    (fun a => ⟨[.sl f (l.map .i), .any, .any, .own 3, .i (poolUpto l a).2, .i (a : Nat), .any, .any, .any, .any, .any, .any, .any, .any, .any, .any, .any, .any, .any, .any, .any, .any, .any, .any, .any, .any, .any, .any, .any, .any, .any, .any, .any, .any, .any, .any, .any, .any, .any, .any, .any, .any, .any, .any, .any, .any, .any, .any, .any, .any, .any, .any, .any, .any, .any, .any, .any, .any, .any, .any, .any, .any, .any, .any, .any, .any, .any, .any, .any, .any, .any, .any, .any, .any], [(3, .lst 62 3 ((poolUpto l a).1.map prV))]⟩) 0 (by simp) ?_ ?_
  · (refine St.Le.clean zR zU zV)
  rintro a h0 ih
  have hb := poolUpto_bd l a
  by_cases ha : a < 3
  · repeat' (first | refine yw ?_ | ((with_reducible refine Runs.is ?_); first | refine Runs.region (id := 4) ?_ | refine Runs.region (id := 6) ?_ | refine Runs.region (id := 5) ?_ | ((with_reducible refine Runs.isC ?_); refine Runs.cond rfl (zc ?_) (zc ?_) <;> intro hc <;> (try (first | contradiction | (exfalso; omega; done) | (have : hc = trivial := rfl; clear this; clear hc))))) | ((with_reducible refine r_is ?_); first | refine yr ?_) | fail)
    refine Runs.loopI (fun i : Nat => cntI l a - i) (fun i => i ≤ cntI l a)
      (fun i => ⟨[.sl f (l.map .i), .any, .any, .own 3, .i ((poolUpto l a).2 + 2 * i), .i (a : Nat), .i (i : Nat), .any, .any, .any, .any, .any, .any, .any, .any, .any, .any, .any, .any, .any, .any, .any, .any, .any, .any, .any, .any, .any, .any, .any, .any, .any, .any, .any, .any, .any, .any, .any, .any, .any, .any, .any, .any, .any, .any, .any, .any, .any, .any, .any, .any, .any, .any, .any, .any, .any, .any, .any, .any, .any, .any, .any, .any, .any, .any, .any, .any, .any, .any, .any, .any, .any, .any, .any], [(3, .lst 62 3 (((poolUpto l a).1 ++ groupI l a (poolUpto l a).2 i).map prV))]⟩) 0 (by simp) ?_ ?_
    · rw [show groupI l a (poolUpto l a).2 0 = [] from rfl, List.append_nil, show (poolUpto l a).2 + 2 * ((0:Nat):Int) = (poolUpto l a).2 by omega]
      (refine St.Le.clean zR zU zV)
    rintro i h1 ihi
    have hc0 := cntI_bd l a
    have hgl : ((poolUpto l a).1 ++ groupI l a (poolUpto l a).2 i).length ≤ 20 := by
      rw [List.length_append, groupI, List.length_map, List.length_range]; omega
    have hst : (poolUpto l a).1 ++ groupI l a (poolUpto l a).2 (i + 1) = ((poolUpto l a).1 ++ groupI l a (poolUpto l a).2 i) ++ [propI l a i ((poolUpto l a).2 + 2 * i)] := by
      rw [groupI_succ, List.append_assoc]
    have hE1 : digitI (atI l ((poolUpto l a).2 + 2 * i)) 2 12 = 1 → (changeI (atI l ((poolUpto l a).2 + 2 * i + 1))).kind = (changeI (atI l ((poolUpto l a).2 + 2 * i))).kind → ¬ (changeI (atI l ((poolUpto l a).2 + 2 * i + 1))).server = (changeI (atI l ((poolUpto l a).2 + 2 * i))).server → extra l ((poolUpto l a).2 + 2 * i) = true := fun h1 h2 h3 => by unfold extra; simp [h1, h2, h3]
    have hE2 : digitI (atI l ((poolUpto l a).2 + 2 * i)) 2 12 = 1 → (changeI (atI l ((poolUpto l a).2 + 2 * i + 1))).kind = (changeI (atI l ((poolUpto l a).2 + 2 * i))).kind → (changeI (atI l ((poolUpto l a).2 + 2 * i + 1))).server = (changeI (atI l ((poolUpto l a).2 + 2 * i))).server → extra l ((poolUpto l a).2 + 2 * i) = false := fun h1 h2 h3 => by unfold extra; simp [h1, h2, h3]
    have hE3 : digitI (atI l ((poolUpto l a).2 + 2 * i)) 2 12 = 1 → ¬ (changeI (atI l ((poolUpto l a).2 + 2 * i + 1))).kind = (changeI (atI l ((poolUpto l a).2 + 2 * i))).kind → extra l ((poolUpto l a).2 + 2 * i) = true := fun h1 h2 => by unfold extra; simp [h1, h2]
    have hE4 : ¬ digitI (atI l ((poolUpto l a).2 + 2 * i)) 2 12 = 1 → extra l ((poolUpto l a).2 + 2 * i) = false := fun h1 => by unfold extra; simp [h1]
    have hat : (poolUpto l a).2 + 2 * ((i + 1 : Nat) : Int) = (poolUpto l a).2 + 2 * i + 2 := by omega
    generalize hacc : (poolUpto l a).1 ++ groupI l a (poolUpto l a).2 i = acc at hgl hst ⊢
    repeat' (first | refine yw ?_ | ((with_reducible refine Runs.is ?_); first | refine Runs.region (id := 7) ?_ | refine Runs.region (id := 9) ?_ | refine Runs.region (id := 10) ?_ | refine Runs.region (id := 8) ?_ | ((with_reducible refine Runs.isC ?_); refine Runs.cond rfl (zc ?_) (zc ?_) <;> intro hc <;> (try (first | contradiction | (exfalso; omega; done) | (have : hc = trivial := rfl; clear this; clear hc))))) | ((with_reducible refine r_is ?_); first | refine yrb ?_ | (refine r_buildOwn (D := 29) SlF.h ZoF.h zd zB zd rfl ?_; refine r_nn zN zH ?_) | (refine r_build SlF.h ZoF.h zd zB ?_; refine r_n zN ?_) | (refine r_fn rfl (kit_At f l _ hl) HbF.h zL2 zD ?_; refine r_nn zN zH ?_) | (refine r_fn rfl (kit_Digit _ 4 0 zd zd) HbF.h zL3 zD ?_; refine r_nn zN zH ?_) | (refine r_fn rfl (kit_Change _) HbF.h zL1 zD ?_; refine r_nn zN zH ?_)) | fail)
    · repeat' (first | refine yw ?_ | ((with_reducible refine Runs.is ?_); first | refine Runs.drawn (id := 11) mixed zK ?_ | refine Runs.region (id := 12) ?_ | ((with_reducible refine Runs.isC ?_); refine Runs.cond rfl (zc ?_) (zc ?_) <;> intro hc <;> (try (first | contradiction | (exfalso; omega; done) | (have : hc = trivial := rfl; clear this; clear hc))))) | ((with_reducible refine r_is ?_); first | refine yr ?_ | (refine r_append_full SlF.h SlF.s ZoF.h zd rfl rfl zC zJ zS rfl (fun hn => ?_) (fun hn => ?_) <;> refine r_nn zN zH ?_)) | ((with_reducible refine d_is ?_); first | refine yd ?_ | (refine d_fn rfl (kit_At f l _ hl) HbF.h zL2 zD ?_; refine d_nn zN zH ?_) | (refine d_fn rfl (kit_Digit _ 2 12 zd zd) HbF.h zL3 zD ?_; refine d_nn zN zH ?_) | ((with_reducible refine d_gd ?_); (first | refine d_guardPf rfl rfl ?_ ?_ | refine d_guardNf rfl rfl ?_ ?_ | refine d_guardPt rfl rfl ?_ ?_ | refine d_guardNt rfl rfl ?_ ?_ | refine d_guard rfl rfl ?_ ?_) <;> intro hG <;> (try (exfalso; omega; done)) <;> refine d_nn zN zH ?_)) | fail)
      all_goals ((refine Runs.weaken (St.Le.freeze_lst 29 rfl) ?_; refine yf ?_))
      all_goals
        repeat' (first | refine yw ?_ | ((with_reducible refine Runs.is ?_); first | refine Runs.region (id := 9) ?_ | refine Runs.region (id := 10) ?_ | refine Runs.drawn (id := 11) mixed zK ?_ | refine Runs.region (id := 12) ?_ | refine Runs.region (id := 13) ?_ | refine Runs.region (id := 14) ?_ | refine Runs.region (id := 8) ?_ | ((with_reducible refine Runs.isC ?_); refine Runs.cond rfl (zc ?_) (zc ?_) <;> intro hc <;> (try (first | contradiction | (exfalso; omega; done) | (have : hc = trivial := rfl; clear this; clear hc))))) | ((with_reducible refine r_is ?_); first | refine yr ?_ | (refine r_append_full SlF.h SlF.s ZoF.h zd rfl rfl zC zJ zS rfl (fun hn => ?_) (fun hn => ?_) <;> refine r_nn zN zH ?_)) | ((with_reducible refine d_is ?_); first | refine yd ?_ | ((with_reducible refine d_gd ?_); (first | refine d_guardPf rfl rfl ?_ ?_ | refine d_guardNf rfl rfl ?_ ?_ | refine d_guardPt rfl rfl ?_ ?_ | refine d_guardNt rfl rfl ?_ ?_ | refine d_guard rfl rfl ?_ ?_) <;> intro hG <;> (try (exfalso; omega; done)) <;> refine d_nn zN zH ?_)) | fail)
      all_goals (refine ihi (i + 1) _ zo zo ?_)
      all_goals (rw [hst])
      all_goals (rw [hat, propI])
      all_goals (first | rw [hE1 (by assumption) (by assumption) (by assumption), if_pos rfl] | rw [hE2 (by assumption) (by assumption) (by assumption), if_neg Bool.false_ne_true] | rw [hE3 (by assumption) (by assumption), if_pos rfl] | rw [hE4 (by assumption), if_neg Bool.false_ne_true])
      all_goals (clear hE1 hE2 hE3 hE4)
      all_goals ((refine St.Le.clean zR (by first | (simp [V.usesL, V.uses, AM.look_cons]; done) | (simp [V.usesL, V.uses, AM.look_cons, V.usesL_data, V.uses_data, da_i, da_chV, da_ruV, da_prV, da_enV, da_cfV, da_veV, da_inV, da_edV, da_grV, da_weV, da_mbV, da_suV, da_viV]; done)) ?_; (repeat' (first | exact True.intro | refine And.intro ?_ ?_)); all_goals (first | rfl | (simp [AM.look_cons, prV, chV]; done) | (simp [V.uses, V.usesL, AM.look_cons, V.usesL_data, V.uses_data, da_i, da_chV, da_ruV, da_prV, da_enV, da_cfV, da_veV, da_inV, da_edV, da_grV, da_weV, da_mbV, da_suV, da_viV]; done))))
    · have hi : i = cntI l a := by omega
      subst hi
      repeat' (first | refine yw ?_ | ((with_reducible refine Runs.is ?_); first | refine Runs.region (id := 6) ?_ | refine Runs.region (id := 5) ?_ | ((with_reducible refine Runs.isC ?_); refine Runs.cond rfl (zc ?_) (zc ?_) <;> intro hc <;> (try (first | contradiction | (exfalso; omega; done) | (have : hc = trivial := rfl; clear this; clear hc))))) | ((with_reducible refine r_is ?_); first | refine yr ?_) | fail)
      refine ih (a + 1) _ zo zo ?_
      rw [show poolUpto l (a + 1) = ((poolUpto l a).1 ++ groupI l a (poolUpto l a).2 (cntI l a), (poolUpto l a).2 + 2 * cntI l a) from rfl]
      dsimp only
      rw [hacc]
      (refine St.Le.clean zR zU zV)
  · have : a = 3 := by omega
    subst this
    repeat' (first | refine yw ?_ | ((with_reducible refine Runs.is ?_); first | refine Runs.region (id := 4) ?_ | ((with_reducible refine Runs.isC ?_); refine Runs.cond rfl (zc ?_) (zc ?_) <;> intro hc <;> (try (first | contradiction | (exfalso; omega; done) | (have : hc = trivial := rfl; clear this; clear hc))))) | ((with_reducible refine r_is ?_); first | refine yr ?_) | fail)
    repeat' (first | refine yw ?_ | ((with_reducible refine Runs.is ?_); first | refine Runs.region (id := 15) ?_ | ((with_reducible refine Runs.isC ?_); refine Runs.cond rfl (zc ?_) (zc ?_) <;> intro hc <;> (try (first | contradiction | (exfalso; omega; done) | (have : hc = trivial := rfl; clear this; clear hc))))) | ((with_reducible refine r_is ?_); first | refine yr ?_) | fail)
    refine Runs.ret_frz Tryz.func22 rfl rfl rfl ?_
    rfl
end Go.Proofs
namespace Go.Proofs
open Go.AM
attribute [local irreducible] AM.evalR AM.evalD AM.Runs AM.valK AM.dK AM.opK AM.stepR AM.CallS AM.St.Le
def blk (f : Nat → Nat → Proposal) (a n : Nat) : Config := (List.range n).map (f a)
def cut (f : Nat → Nat → Proposal) (i j k : Nat) : Config := blk f 0 i ++ blk f 1 j ++ blk f 2 k
def Nice (f : Nat → Nat → Proposal) : Prop := ∀ a i, (f a i).admin = 201 + a ∧ (f a i).number = i + 1
def IsCut (f : Nat → Nat → Proposal) (c : Config) : Prop := ∃ i j k, (i < 4 ∧ j < 4 ∧ k < 4) ∧ c = cut f i j k
def key (p : Proposal) : Proposal := ⟨p.admin, p.number, []⟩
def f0 (a i : Nat) : Proposal := ⟨201 + a, i + 1, []⟩
theorem key_nice {f : Nat → Nat → Proposal} (hf : Nice f) (a i : Nat) : key (f a i) = f0 a i := by
  unfold key f0; rw [(hf a i).1, (hf a i).2]
theorem cut_key {f : Nat → Nat → Proposal} (hf : Nice f) (i j k : Nat) : (cut f i j k).map key = cut f0 i j k := by
  simp only [cut, blk, List.map_append, List.map_map]
  congr 1
  · congr 1 <;> exact List.map_congr_left fun n _ => key_nice hf _ n
  · exact List.map_congr_left fun n _ => key_nice hf _ n
theorem cmpP_key (p q : Proposal) : cmpP (key p) (key q) = cmpP p q := rfl
theorem getD_key (c : Config) (i : Nat) (h : i < c.length) : (c.map key).getD i default = key (c.getD i default) := by
  simp [List.getD_eq_getElem?_getD, h]
theorem bs_congr {k k' : Nat → Int} {i j : Nat} (h : ∀ n, i ≤ n → n < j → k n = k' n) : bs k i j = bs k' i j := by
  induction hn : j - i using Nat.strongRecOn generalizing i j with
  | _ n ih =>
    unfold bs
    by_cases hij : i < j
    · rw [dif_pos hij, dif_pos hij, h ((i + j) / 2) zo zo]
      split
      · exact ih (j - ((i + j) / 2 + 1)) zo (fun n h1 h2 => h n zo h2) rfl
      · exact ih ((i + j) / 2 - i) zo (fun n h1 h2 => h n h1 zo) rfl
    · rw [dif_neg hij, dif_neg hij]
theorem hasB_key (c : Config) (p : Proposal) : hasB (c.map key) (key p) = hasB c p := by
  have e : bs (fun i => cmpP ((c.map key).getD i default) (key p)) 0 (c.map key).length = bs (fun i => cmpP (c.getD i default) p) 0 c.length := by
    rw [List.length_map]
    refine bs_congr fun n _ hn => ?_
    rw [getD_key c n hn, cmpP_key]
  unfold hasB
  dsimp only
  rw [e, List.length_map]
  by_cases h : bs (fun i => cmpP (c.getD i default) p) 0 c.length < c.length
  · rw [getD_key c _ h, cmpP_key]
  · rw [decide_eq_false (fun x => h x.1), decide_eq_false (fun x => h x.1)]
theorem hasR_key (c : Config) (p : Proposal) : hasR (c.map key) (key p) = hasR c p := by
  unfold hasR; rw [List.any_map]; rfl
theorem vectorV_key (c : Config) : vectorV (c.map key) = vectorV c := by
  unfold vectorV; rw [List.foldl_map]; rfl
theorem vectorR_key (c : Config) : vectorR (c.map key) = vectorR c := by
  unfold vectorR; rw [List.foldl_map]; rfl
def sel (i j k a : Nat) : Nat := if a = 0 then i else if a = 1 then j else k
theorem has_fin : ∀ i j k : Fin 4, ∀ a n : Fin 3, hasB (cut f0 i j k) (f0 a n) = decide (n.val < sel i j k a) ∧ hasR (cut f0 i j k) (f0 a n) = decide (n.val < sel i j k a) := by decide +kernel
theorem has_cut {f : Nat → Nat → Proposal} (hf : Nice f) {i j k : Nat} (h : i < 4 ∧ j < 4 ∧ k < 4) {a n : Nat} (ha : a < 3) (hn : n < 3) : hasB (cut f i j k) (f a n) = decide (n < sel i j k a) ∧ hasR (cut f i j k) (f a n) = decide (n < sel i j k a) := by
  rw [← hasB_key, ← hasR_key, cut_key hf, key_nice hf]
  exact has_fin ⟨i, h.1⟩ ⟨j, h.2.1⟩ ⟨k, h.2.2⟩ ⟨a, ha⟩ ⟨n, hn⟩
theorem all_blk {f : Nat → Nat → Proposal} {g : Proposal → Bool} {a m n : Nat} (hm : m ≤ 3) (h : ∀ i, i < 3 → g (f a i) = decide (i < n)) : (blk f a m).all g = decide (m ≤ n) := by
  rw [Bool.eq_iff_iff, List.all_eq_true, decide_eq_true_eq]
  simp only [blk, List.mem_map, List.mem_range]
  constructor
  · intro hx
    rcases Nat.lt_or_ge n m with h1 | h1
    · have := hx _ ⟨n, h1, rfl⟩
      rw [h n zo, decide_eq_true_eq] at this
      omega
    · exact h1
  · rintro hmn x ⟨i, hi, rfl⟩
    rw [h i zo, decide_eq_true_eq]; omega
theorem contains_cut {f : Nat → Nat → Proposal} (hf : Nice f) {i j k i' j' k' : Nat} (h : i < 4 ∧ j < 4 ∧ k < 4) (h' : i' < 4 ∧ j' < 4 ∧ k' < 4) :
    containsB (cut f i j k) (cut f i' j' k') = decide (i' ≤ i ∧ j' ≤ j ∧ k' ≤ k) ∧ containsR (cut f i j k) (cut f i' j' k') = decide (i' ≤ i ∧ j' ≤ j ∧ k' ≤ k) := by
  constructor
  · rw [containsB, show cut f i' j' k' = blk f 0 i' ++ blk f 1 j' ++ blk f 2 k' from rfl, List.all_append, List.all_append,
      all_blk zo (fun n hn => (has_cut hf h zd hn).1), all_blk zo (fun n hn => (has_cut hf h zd hn).1), all_blk zo (fun n hn => (has_cut hf h zd hn).1)]
    simp [sel, Bool.and_assoc]
  · rw [containsR, show cut f i' j' k' = blk f 0 i' ++ blk f 1 j' ++ blk f 2 k' from rfl, List.all_append, List.all_append,
      all_blk zo (fun n hn => (has_cut hf h zd hn).2), all_blk zo (fun n hn => (has_cut hf h zd hn).2), all_blk zo (fun n hn => (has_cut hf h zd hn).2)]
    simp [sel, Bool.and_assoc]
def vecC (i j k : Nat) : Vector := (if 0 < i then [⟨201, i⟩] else []) ++ (if 0 < j then [⟨202, j⟩] else []) ++ (if 0 < k then [⟨203, k⟩] else [])
theorem vec_fin : ∀ i j k : Fin 4, vectorV (cut f0 i j k) = vecC i j k ∧ vectorR (cut f0 i j k) = vecC i j k ∧ vec3 (i : Nat) (j : Nat) (k : Nat) = vecC i j k ∧ (getV (vecC i j k) 201 = (i : Nat) ∧ getV (vecC i j k) 202 = (j : Nat) ∧ getV (vecC i j k) 203 = (k : Nat)) ∧ countR (vecC i j k) 201 = (i : Nat) ∧ countR (vecC i j k) 202 = (j : Nat) ∧ countR (vecC i j k) 203 = (k : Nat) := by decide +kernel
theorem vec_cut {f : Nat → Nat → Proposal} (hf : Nice f) {i j k : Nat} (h : i < 4 ∧ j < 4 ∧ k < 4) : vectorV (cut f i j k) = vecC i j k ∧ vectorR (cut f i j k) = vecC i j k := by
  rw [← vectorV_key, ← vectorR_key, cut_key hf]
  have := vec_fin ⟨i, h.1⟩ ⟨j, h.2.1⟩ ⟨k, h.2.2⟩
  exact ⟨this.1, this.2.1⟩
def vlist (i j k i' j' k' : Nat) : List Vector := (upto i i').flatMap fun a => (upto j j').flatMap fun b => (upto k k').map fun c => vec3 a b c
theorem vectors_fin : ∀ i j k i' j' k' : Fin 4, i ≤ i' → j ≤ j' → k ≤ k' → vectorsV (vecC i j k) (vecC i' j' k') = vlist i j k i' j' k' := by decide +kernel
theorem filter_range (m n : Nat) : ((List.range m).filter fun i => decide (i < n)) = List.range (min m n) := by
  induction m with
  | zero => simp
  | succ m ih =>
    rw [List.range_succ, List.filter_append, ih]
    by_cases h : m < n
    · rw [show min (m + 1) n = m + 1 by omega, show min m n = m by omega, List.range_succ]; simp [h]
    · rw [show min (m + 1) n = n by omega, show min m n = n by omega]; simp [h]
theorem filter_blk {f : Nat → Nat → Proposal} {g : Proposal → Bool} {a n m : Nat} (h : ∀ i, i < m → g (f a i) = decide (i < n)) : (blk f a m).filter g = blk f a (min m n) := by
  unfold blk
  rw [List.filter_map, ← filter_range]
  congr 1
  refine List.filter_congr fun i hi => ?_
  exact h i (List.mem_range.1 hi)
theorem filter_cut {f : Nat → Nat → Proposal} {g : Proposal → Bool} {i j k i' j' k' : Nat} (h1 : ∀ n, n < i → g (f 0 n) = decide (n < i')) (h2 : ∀ n, n < j → g (f 1 n) = decide (n < j')) (h3 : ∀ n, n < k → g (f 2 n) = decide (n < k')) :
    (cut f i j k).filter g = cut f (min i i') (min j j') (min k k') := by
  unfold cut
  rw [List.filter_append, List.filter_append, filter_blk h1, filter_blk h2, filter_blk h3]
theorem restrictR_cut {f : Nat → Nat → Proposal} (hf : Nice f) (v : Vector) (i j k : Nat) : restrictR (cut f i j k) v = cut f (min i (countR v 201).toNat) (min j (countR v 202).toNat) (min k (countR v 203).toNat) := by
  unfold restrictR
  refine filter_cut ?_ ?_ ?_ <;> (intro n hn; rw [(hf _ n).1, (hf _ n).2]; apply decide_eq_decide.2; simp only [show (201 : Int) + ((0 : Nat) : Int) = 201 from rfl, show (201 : Int) + ((1 : Nat) : Int) = 202 from rfl, show (201 : Int) + ((2 : Nat) : Int) = 203 from rfl]; omega)
theorem restrictV_cut {f : Nat → Nat → Proposal} (hf : Nice f) (v : Vector) (i j k : Nat) : restrictV (cut f i j k) v = cut f (min i (getV v 201).toNat) (min j (getV v 202).toNat) (min k (getV v 203).toNat) := by
  unfold restrictV
  refine filter_cut ?_ ?_ ?_ <;> (intro n hn; rw [(hf _ n).1, (hf _ n).2]; apply decide_eq_decide.2; simp only [show (201 : Int) + ((0 : Nat) : Int) = 201 from rfl, show (201 : Int) + ((1 : Nat) : Int) = 202 from rfl, show (201 : Int) + ((2 : Nat) : Int) = 203 from rfl]; omega)
theorem flatMap_ext {α β : Type} {l : List α} {g h : α → List β} (e : ∀ x ∈ l, g x = h x) : l.flatMap g = l.flatMap h := by
  induction l with
  | nil => rfl
  | cons x l ih => rw [List.flatMap_cons, List.flatMap_cons, e x (by simp), ih fun y hy => e y (by simp [hy])]
theorem mem_upto {a b x : Int} : x ∈ upto a b ↔ a ≤ x ∧ x ≤ b := by
  unfold upto
  rw [List.mem_map]
  constructor
  · rintro ⟨n, hn, rfl⟩; rw [List.mem_range] at hn; omega
  · intro h; exact ⟨(x - a).toNat, by rw [List.mem_range]; omega, by omega⟩
def allN (f : Nat → Nat → Proposal) (i j k i' j' k' : Nat) : List Config := (upto i i').flatMap fun a => (upto j j').flatMap fun b => (upto k k').map fun c => cut f a.toNat b.toNat c.toNat
theorem allR_cut {f : Nat → Nat → Proposal} (hf : Nice f) {i j k i' j' k' : Nat} (h : i < 4 ∧ j < 4 ∧ k < 4) (h' : i' < 4 ∧ j' < 4 ∧ k' < 4) :
    allR (cut f i j k) (cut f i' j' k') = if i ≤ i' ∧ j ≤ j' ∧ k ≤ k' then allN f i j k i' j' k' else [] := by
  unfold allR
  rw [(contains_cut hf h' h).2]
  by_cases hle : i ≤ i' ∧ j ≤ j' ∧ k ≤ k'
  · rw [if_pos (by simpa using hle), if_pos hle]
    have v1 := vec_fin ⟨i, h.1⟩ ⟨j, h.2.1⟩ ⟨k, h.2.2⟩
    have v2 := vec_fin ⟨i', h'.1⟩ ⟨j', h'.2.1⟩ ⟨k', h'.2.2⟩
    dsimp only at v1 v2
    unfold allJ allK cntR
    rw [(vec_cut hf h).2, (vec_cut hf h').2, v1.2.2.2.2.1, v1.2.2.2.2.2.1, v1.2.2.2.2.2.2, v2.2.2.2.2.1, v2.2.2.2.2.2.1, v2.2.2.2.2.2.2]
    unfold allN
    refine flatMap_ext fun a ha => flatMap_ext fun b hb => List.map_congr_left fun c hc => ?_
    rw [mem_upto] at ha hb hc
    have v3 := vec_fin ⟨a.toNat, by omega⟩ ⟨b.toNat, by omega⟩ ⟨c.toNat, by omega⟩
    dsimp only at v3
    rw [Int.toNat_of_nonneg zo, Int.toNat_of_nonneg zo, Int.toNat_of_nonneg zo] at v3
    rw [restrictR_cut hf, v3.2.2.1, v3.2.2.2.2.1, v3.2.2.2.2.2.1, v3.2.2.2.2.2.2]
    congr 1 <;> omega
  · rw [if_neg (by simpa using hle), if_neg hle]
theorem allB_cut {f : Nat → Nat → Proposal} (hf : Nice f) {i j k i' j' k' : Nat} (h : i < 4 ∧ j < 4 ∧ k < 4) (h' : i' < 4 ∧ j' < 4 ∧ k' < 4) :
    allB (cut f i j k) (cut f i' j' k') = if i ≤ i' ∧ j ≤ j' ∧ k ≤ k' then allN f i j k i' j' k' else [] := by
  unfold allB
  rw [(contains_cut hf h' h).1]
  by_cases hle : i ≤ i' ∧ j ≤ j' ∧ k ≤ k'
  · rw [if_pos (by simpa using hle), if_pos hle, (vec_cut hf h).1, (vec_cut hf h').1]
    rw [vectors_fin ⟨i, h.1⟩ ⟨j, h.2.1⟩ ⟨k, h.2.2⟩ ⟨i', h'.1⟩ ⟨j', h'.2.1⟩ ⟨k', h'.2.2⟩ hle.1 hle.2.1 hle.2.2]
    unfold allN vlist
    rw [List.map_flatMap]
    refine flatMap_ext fun a ha => ?_
    rw [List.map_flatMap]
    refine flatMap_ext fun b hb => ?_
    rw [List.map_map]
    refine List.map_congr_left fun c hc => ?_
    rw [mem_upto] at ha hb hc
    dsimp only at ha hb hc
    have v3 := vec_fin ⟨a.toNat, by omega⟩ ⟨b.toNat, by omega⟩ ⟨c.toNat, by omega⟩
    dsimp only at v3
    rw [Int.toNat_of_nonneg zo, Int.toNat_of_nonneg zo, Int.toNat_of_nonneg zo] at v3
    rw [Function.comp, restrictV_cut hf, v3.2.2.1, v3.2.2.2.1.1, v3.2.2.2.1.2.1, v3.2.2.2.1.2.2]
    congr 1 <;> omega
  · rw [if_neg (by simpa using hle), if_neg hle]
theorem allN_cut (f : Nat → Nat → Proposal) {i j k i' j' k' : Nat} (h' : i' < 4 ∧ j' < 4 ∧ k' < 4) : ∀ c ∈ allN f i j k i' j' k', IsCut f c := by
  intro c hc
  simp only [allN, List.mem_flatMap, List.mem_map, mem_upto] at hc
  obtain ⟨a, ha, b, hb, x, hx, rfl⟩ := hc
  exact ⟨_, _, _, ⟨by omega, by omega, by omega⟩, rfl⟩
def poolF (l : List Int) (a i : Nat) : Proposal := propI l a i ((poolUpto l a).2 + 2 * i)
theorem pool_nice (l : List Int) : Nice (poolF l) := fun a i => ⟨rfl, rfl⟩
theorem pool_lite (l : List Int) (a i : Nat) : (poolF l a i).changes.length ≤ 2 := by
  simp only [poolF, propI, List.length_cons]
  split <;> simp
theorem pool_cut (l : List Int) : IsCut (poolF l) (poolI l) := ⟨cntI l 0, cntI l 1, cntI l 2, ⟨(cntI_bd l 0).2, (cntI_bd l 1).2, (cntI_bd l 2).2⟩, by
  show (([] ++ groupI l 0 3 (cntI l 0)) ++ groupI l 1 (3 + 2 * cntI l 0) (cntI l 1)) ++ groupI l 2 (3 + 2 * cntI l 0 + 2 * cntI l 1) (cntI l 2) = _
  rw [List.nil_append]; rfl⟩
theorem part_cut {f : Nat → Nat → Proposal} (hf : Nice f) {c : Config} (hc : IsCut f c) (n : Int) : IsCut f (partI c n) := by
  obtain ⟨i, j, k, h, rfl⟩ := hc
  exact ⟨_, _, _, ⟨by omega, by omega, by omega⟩, restrictR_cut hf _ i j k⟩
theorem cut_len (f : Nat → Nat → Proposal) (i j k : Nat) : (cut f i j k).length = i + j + k := by simp [cut, blk, Nat.add_assoc]
def Lite (f : Nat → Nat → Proposal) : Prop := ∀ a i, (f a i).changes.length ≤ 2
theorem IsCut.small {f : Nat → Nat → Proposal} (hf : Lite f) {c : Config} (hc : IsCut f c) : c.length ≤ 9 ∧ Small c := by
  obtain ⟨i, j, k, h, rfl⟩ := hc
  refine ⟨by rw [cut_len]; omega, by rw [cut_len]; omega, fun p hp => ?_⟩
  simp only [cut, blk, List.mem_append, List.mem_map] at hp
  rcases hp with (⟨n, _, rfl⟩ | ⟨n, _, rfl⟩) | ⟨n, _, rfl⟩ <;> exact Nat.le_trans (hf _ _) zd
theorem fine_fin : ∀ i j k : Fin 4, Fine (vecC i j k) := by unfold Fine; decide +kernel
theorem IsCut.fine {f : Nat → Nat → Proposal} (hf : Nice f) {c : Config} (hc : IsCut f c) : Fine (vectorV c) := by
  obtain ⟨i, j, k, h, rfl⟩ := hc
  rw [(vec_cut hf h).1]
  exact fine_fin ⟨i, h.1⟩ ⟨j, h.2.1⟩ ⟨k, h.2.2⟩
theorem flatMap_len_le {α β : Type} {l : List α} {g : α → List β} {n : Nat} (h : ∀ x ∈ l, (g x).length ≤ n) : (l.flatMap g).length ≤ l.length * n := by
  induction l with
  | nil => simp
  | cons x l ih =>
    rw [List.flatMap_cons, List.length_append, List.length_cons, Nat.add_mul]
    have := h x (by simp)
    have := ih fun y hy => h y (by simp [hy])
    omega
theorem allN_len (f : Nat → Nat → Proposal) {i j k i' j' k' : Nat} (h' : i' < 4 ∧ j' < 4 ∧ k' < 4) : (allN f i j k i' j' k').length ≤ 64 := by
  refine Nat.le_trans (flatMap_len_le (n := 16) fun a ha => ?_) ?_
  · refine Nat.le_trans (flatMap_len_le (n := 4) fun b hb => ?_) ?_
    · rw [List.length_map, upto_len]; omega
    · rw [upto_len]; omega
  · rw [upto_len]; omega
theorem all_is {f : Nat → Nat → Proposal} (hf : Nice f) (hl : Lite f) {a b : Config} (ha : IsCut f a) (hb : IsCut f b) : allB a b = allR a b ∧ (∀ c ∈ allR a b, IsCut f c) ∧ Few (allR a b) := by
  obtain ⟨i, j, k, h, rfl⟩ := ha
  obtain ⟨i', j', k', h', rfl⟩ := hb
  rw [allB_cut hf h h', allR_cut hf h h']
  split
  · have hc := allN_cut f (i := i) (j := j) (k := k) h'
    exact ⟨rfl, hc, Nat.le_trans (allN_len f h') zd, fun c hm => ((hc c hm).small hl).2.1⟩
  · exact ⟨rfl, by simp, by simp [Few]⟩
end Go.Proofs
namespace Go.Proofs
open Go.AM
attribute [local irreducible] AM.evalR AM.evalD AM.Runs AM.valK AM.dK AM.opK AM.stepR AM.CallS AM.St.Le
theorem part_sub {f : Nat → Nat → Proposal} (hf : Nice f) {c : Config} (hc : IsCut f c) (n : Int) : ∃ i j k i' j' k', (i ≤ i' ∧ j ≤ j' ∧ k ≤ k') ∧ (i' < 4 ∧ j' < 4 ∧ k' < 4) ∧ c = cut f i' j' k' ∧ partI c n = cut f i j k := by
  obtain ⟨i, j, k, h, rfl⟩ := hc
  exact ⟨_, _, _, i, j, k, ⟨Nat.min_le_left _ _, Nat.min_le_left _ _, Nat.min_le_left _ _⟩, h, rfl, restrictR_cut hf _ i j k⟩
end Go.Proofs
namespace Go.Proofs
open Go.AM
attribute [local irreducible] AM.evalR AM.evalD AM.Runs AM.valK AM.dK AM.opK AM.stepR AM.CallS AM.St.Le
def unionR : Config → Config → Config
  | [], bs => bs
  | a :: xs, [] => a :: xs
  | a :: xs, b :: bs => if cmpP a b < 0 then a :: unionR xs (b :: bs) else if 0 < cmpP a b then b :: unionR (a :: xs) bs else a :: unionR xs bs
theorem unionR_nil (a : Config) : unionR a [] = a := by cases a <;> simp [unionR]
theorem union_l {a b : Config} {i k : Nat} (hi : i < a.length) (h : k < b.length → cmpP (a.getD i default) (b.getD k default) < 0) : unionR (a.drop i) (b.drop k) = a.getD i default :: unionR (a.drop (i + 1)) (b.drop k) := by
  rw [drop_getD hi]
  by_cases hk : k < b.length
  · rw [drop_getD hk, unionR, if_pos (h hk)]
  · rw [List.drop_eq_nil_of_le (by omega : b.length ≤ k), unionR_nil, unionR_nil]
theorem union_r {a b : Config} {i k : Nat} (hk : k < b.length) (h : i < a.length → 0 < cmpP (a.getD i default) (b.getD k default)) : unionR (a.drop i) (b.drop k) = b.getD k default :: unionR (a.drop i) (b.drop (k + 1)) := by
  rw [drop_getD hk]
  by_cases hi : i < a.length
  · have := h hi
    rw [drop_getD hi, unionR, if_neg zo, if_pos this]
  · rw [List.drop_eq_nil_of_le (by omega : a.length ≤ i), unionR, unionR]
theorem union_b {a b : Config} {i k : Nat} (hi : i < a.length) (hk : k < b.length) (h : cmpP (a.getD i default) (b.getD k default) = 0) : unionR (a.drop i) (b.drop k) = a.getD i default :: unionR (a.drop (i + 1)) (b.drop (k + 1)) := by
  rw [drop_getD hi, drop_getD hk, unionR, if_neg zo, if_neg zo]
theorem ref_Union (f g : Bool) (a b : Config) (hs1 : a.length ≤ 1000000000) (hs2 : b.length ≤ 1000000000) : AM.Fn Tryz.prog 24 [.sl f (a.map prV), .sl g (b.map prV)] (.sl false ((unionR a b).map prV)) := by
  (refine spec_of_runs Tryz.func24 rfl ?_; simp only [Tryz.f24]; refine ys ?_)
  repeat' (first | refine yw ?_ | ((with_reducible refine Runs.is ?_); first | refine Runs.region (id := 0) ?_ | refine Runs.region (id := 1) ?_ | refine Runs.region (id := 2) ?_ | ((with_reducible refine Runs.isC ?_); refine Runs.cond rfl (zc ?_) (zc ?_) <;> intro hc <;> (try (first | contradiction | (exfalso; omega; done) | (have : hc = trivial := rfl; clear this; clear hc))))) | ((with_reducible refine r_is ?_); first | refine yr ?_) | fail)
  (refine Runs.weaken (St.Le.nil 5 62 3 5 zd rfl rfl zE) ?_)
  refine Runs.loopI (α := Nat × Nat × Config) (fun s => (a.length - s.1) + (b.length - s.2.1)) (fun s => s.1 ≤ a.length ∧ s.2.1 ≤ b.length ∧ s.2.2.length ≤ s.1 + s.2.1 ∧ s.2.2 ++ unionR (a.drop s.1) (b.drop s.2.1) = unionR a b)
    (fun s => ⟨[.sl f (a.map prV), .sl g (b.map prV), .any, .any, .any, .own 5, .i (s.1 : Nat), .i (s.2.1 : Nat), .any, .any, .any, .any, .any, .any, .any, .any, .any, .any, .any, .any, .any, .any, .any, .any, .any, .any, .any, .any, .any, .any, .any, .any, .any, .any, .any, .any, .any, .any, .any, .any, .any, .any, .any, .any, .any, .any, .any, .any, .any, .any, .any, .any, .any, .any, .any, .any, .any, .any, .any, .any, .any, .any, .any, .any, .any, .any, .any, .any, .any, .any, .any, .any, .any, .any, .any, .any, .any, .any, .any, .any, .any, .any, .any, .any, .any, .any, .any, .any], [(5, .lst 62 3 (s.2.2.map prV))]⟩) (0, 0, []) (by simp) ?_ ?_
  · (refine St.Le.clean zR zU zV)
  rintro ⟨i, k, l⟩ ⟨h0, h1, h2, h3⟩ ih
  dsimp only at h0 h1 h2 h3 ih ⊢
  by_cases hi : i < a.length
  · by_cases hk : k < b.length
    · rcases Int.lt_trichotomy (cmpP (a.getD i default) (b.getD k default)) 0 with hx | hx | hx
      · repeat' (first | refine yw ?_ | ((with_reducible refine Runs.is ?_); first | refine Runs.region (id := 3) ?_ | refine Runs.drawn (id := 7) mixed zK ?_ | refine Runs.region (id := 8) ?_ | refine Runs.region (id := 9) ?_ | refine Runs.drawn (id := 10) mixed zK ?_ | refine Runs.region (id := 11) ?_ | refine Runs.region (id := 12) ?_ | refine Runs.region (id := 4) ?_ | refine Runs.region (id := 5) ?_ | refine Runs.region (id := 6) ?_ | refine Runs.region (id := 13) ?_ | ((with_reducible refine Runs.isC ?_); refine Runs.cond rfl (zc ?_) (zc ?_) <;> intro hc <;> (try (first | contradiction | (exfalso; omega; done) | (have : hc = trivial := rfl; clear this; clear hc))))) | ((with_reducible refine r_is ?_); first | refine yr ?_ | (refine r_append_full SlF.h SlF.s ZoF.h zd rfl rfl zC zJ zS rfl (fun hn => ?_) (fun hn => ?_) <;> refine r_nn zN zH ?_) | ((with_reducible refine r_gd ?_); (first | refine r_guardPf rfl rfl ?_ ?_ | refine r_guardNf rfl rfl ?_ ?_ | refine r_guard rfl rfl ?_ ?_) <;> intro hG <;> (try (exfalso; omega; done)) <;> refine r_nn zN zH ?_)) | ((with_reducible refine d_is ?_); first | refine yd ?_ | (refine d_fn rfl (ref_Compare _ _) HbF.h zL2 zD ?_; refine d_nn zN zH ?_) | ((with_reducible refine d_gd ?_); (first | refine d_guardPf rfl rfl ?_ ?_ | refine d_guardNf rfl rfl ?_ ?_ | refine d_guardPt rfl rfl ?_ ?_ | refine d_guardNt rfl rfl ?_ ?_ | refine d_guard rfl rfl ?_ ?_) <;> intro hG <;> (try (exfalso; omega; done)) <;> refine d_nn zN zH ?_)) | fail)
        refine ih (i + 1, k, l ++ [a.getD i default]) _ ⟨by dsimp only; omega, h1, by dsimp only; simp; omega, ?_⟩ (by dsimp only; omega) (by (refine St.Le.clean zR zU zV))
        rw [← h3, union_l hi (fun _ => hx)]; simp
      · repeat' (first | refine yw ?_ | ((with_reducible refine Runs.is ?_); first | refine Runs.region (id := 3) ?_ | refine Runs.drawn (id := 7) mixed zK ?_ | refine Runs.region (id := 8) ?_ | refine Runs.region (id := 9) ?_ | refine Runs.drawn (id := 10) mixed zK ?_ | refine Runs.region (id := 11) ?_ | refine Runs.region (id := 12) ?_ | refine Runs.region (id := 4) ?_ | refine Runs.region (id := 5) ?_ | refine Runs.region (id := 6) ?_ | refine Runs.region (id := 13) ?_ | ((with_reducible refine Runs.isC ?_); refine Runs.cond rfl (zc ?_) (zc ?_) <;> intro hc <;> (try (first | contradiction | (exfalso; omega; done) | (have : hc = trivial := rfl; clear this; clear hc))))) | ((with_reducible refine r_is ?_); first | refine yr ?_ | (refine r_append_full SlF.h SlF.s ZoF.h zd rfl rfl zC zJ zS rfl (fun hn => ?_) (fun hn => ?_) <;> refine r_nn zN zH ?_) | ((with_reducible refine r_gd ?_); (first | refine r_guardPf rfl rfl ?_ ?_ | refine r_guardNf rfl rfl ?_ ?_ | refine r_guard rfl rfl ?_ ?_) <;> intro hG <;> (try (exfalso; omega; done)) <;> refine r_nn zN zH ?_)) | ((with_reducible refine d_is ?_); first | refine yd ?_ | (refine d_fn rfl (ref_Compare _ _) HbF.h zL2 zD ?_; refine d_nn zN zH ?_) | ((with_reducible refine d_gd ?_); (first | refine d_guardPf rfl rfl ?_ ?_ | refine d_guardNf rfl rfl ?_ ?_ | refine d_guardPt rfl rfl ?_ ?_ | refine d_guardNt rfl rfl ?_ ?_ | refine d_guard rfl rfl ?_ ?_) <;> intro hG <;> (try (exfalso; omega; done)) <;> refine d_nn zN zH ?_)) | fail)
        refine ih (i + 1, k + 1, l ++ [a.getD i default]) _ ⟨by dsimp only; omega, by dsimp only; omega, by dsimp only; simp; omega, ?_⟩ (by dsimp only; omega) (by (refine St.Le.clean zR zU zV))
        rw [← h3, union_b hi hk hx]; simp
      · repeat' (first | refine yw ?_ | ((with_reducible refine Runs.is ?_); first | refine Runs.region (id := 3) ?_ | refine Runs.drawn (id := 7) mixed zK ?_ | refine Runs.region (id := 8) ?_ | refine Runs.region (id := 9) ?_ | refine Runs.drawn (id := 10) mixed zK ?_ | refine Runs.region (id := 11) ?_ | refine Runs.region (id := 12) ?_ | refine Runs.region (id := 4) ?_ | refine Runs.region (id := 5) ?_ | refine Runs.region (id := 6) ?_ | refine Runs.region (id := 13) ?_ | ((with_reducible refine Runs.isC ?_); refine Runs.cond rfl (zc ?_) (zc ?_) <;> intro hc <;> (try (first | contradiction | (exfalso; omega; done) | (have : hc = trivial := rfl; clear this; clear hc))))) | ((with_reducible refine r_is ?_); first | refine yr ?_ | (refine r_append_full SlF.h SlF.s ZoF.h zd rfl rfl zC zJ zS rfl (fun hn => ?_) (fun hn => ?_) <;> refine r_nn zN zH ?_) | ((with_reducible refine r_gd ?_); (first | refine r_guardPf rfl rfl ?_ ?_ | refine r_guardNf rfl rfl ?_ ?_ | refine r_guard rfl rfl ?_ ?_) <;> intro hG <;> (try (exfalso; omega; done)) <;> refine r_nn zN zH ?_)) | ((with_reducible refine d_is ?_); first | refine yd ?_ | (refine d_fn rfl (ref_Compare _ _) HbF.h zL2 zD ?_; refine d_nn zN zH ?_) | ((with_reducible refine d_gd ?_); (first | refine d_guardPf rfl rfl ?_ ?_ | refine d_guardNf rfl rfl ?_ ?_ | refine d_guardPt rfl rfl ?_ ?_ | refine d_guardNt rfl rfl ?_ ?_ | refine d_guard rfl rfl ?_ ?_) <;> intro hG <;> (try (exfalso; omega; done)) <;> refine d_nn zN zH ?_)) | fail)
        refine ih (i, k + 1, l ++ [b.getD k default]) _ ⟨h0, by dsimp only; omega, by dsimp only; simp; omega, ?_⟩ (by dsimp only; omega) (by (refine St.Le.clean zR zU zV))
        rw [← h3, union_r hk (fun _ => hx)]; simp
    · repeat' (first | refine yw ?_ | ((with_reducible refine Runs.is ?_); first | refine Runs.region (id := 3) ?_ | refine Runs.drawn (id := 7) mixed zK ?_ | refine Runs.region (id := 8) ?_ | refine Runs.region (id := 9) ?_ | refine Runs.drawn (id := 10) mixed zK ?_ | refine Runs.region (id := 11) ?_ | refine Runs.region (id := 12) ?_ | refine Runs.region (id := 4) ?_ | refine Runs.region (id := 5) ?_ | refine Runs.region (id := 6) ?_ | refine Runs.region (id := 13) ?_ | ((with_reducible refine Runs.isC ?_); refine Runs.cond rfl (zc ?_) (zc ?_) <;> intro hc <;> (try (first | contradiction | (exfalso; omega; done) | (have : hc = trivial := rfl; clear this; clear hc))))) | ((with_reducible refine r_is ?_); first | refine yr ?_ | (refine r_append_full SlF.h SlF.s ZoF.h zd rfl rfl zC zJ zS rfl (fun hn => ?_) (fun hn => ?_) <;> refine r_nn zN zH ?_) | ((with_reducible refine r_gd ?_); (first | refine r_guardPf rfl rfl ?_ ?_ | refine r_guardNf rfl rfl ?_ ?_ | refine r_guard rfl rfl ?_ ?_) <;> intro hG <;> (try (exfalso; omega; done)) <;> refine r_nn zN zH ?_)) | ((with_reducible refine d_is ?_); first | refine yd ?_ | (refine d_fn rfl (ref_Compare _ _) HbF.h zL2 zD ?_; refine d_nn zN zH ?_) | ((with_reducible refine d_gd ?_); (first | refine d_guardPf rfl rfl ?_ ?_ | refine d_guardNf rfl rfl ?_ ?_ | refine d_guardPt rfl rfl ?_ ?_ | refine d_guardNt rfl rfl ?_ ?_ | refine d_guard rfl rfl ?_ ?_) <;> intro hG <;> (try (exfalso; omega; done)) <;> refine d_nn zN zH ?_)) | fail)
      refine ih (i + 1, k, l ++ [a.getD i default]) _ ⟨by dsimp only; omega, h1, by dsimp only; simp; omega, ?_⟩ (by dsimp only; omega) (by (refine St.Le.clean zR zU zV))
      rw [← h3, union_l hi (fun h => absurd h hk)]; simp
  · by_cases hk : k < b.length
    · repeat' (first | refine yw ?_ | ((with_reducible refine Runs.is ?_); first | refine Runs.region (id := 3) ?_ | refine Runs.drawn (id := 7) mixed zK ?_ | refine Runs.region (id := 8) ?_ | refine Runs.region (id := 9) ?_ | refine Runs.drawn (id := 10) mixed zK ?_ | refine Runs.region (id := 11) ?_ | refine Runs.region (id := 12) ?_ | refine Runs.region (id := 4) ?_ | refine Runs.region (id := 5) ?_ | refine Runs.region (id := 6) ?_ | refine Runs.region (id := 13) ?_ | ((with_reducible refine Runs.isC ?_); refine Runs.cond rfl (zc ?_) (zc ?_) <;> intro hc <;> (try (first | contradiction | (exfalso; omega; done) | (have : hc = trivial := rfl; clear this; clear hc))))) | ((with_reducible refine r_is ?_); first | refine yr ?_ | (refine r_append_full SlF.h SlF.s ZoF.h zd rfl rfl zC zJ zS rfl (fun hn => ?_) (fun hn => ?_) <;> refine r_nn zN zH ?_) | ((with_reducible refine r_gd ?_); (first | refine r_guardPf rfl rfl ?_ ?_ | refine r_guardNf rfl rfl ?_ ?_ | refine r_guard rfl rfl ?_ ?_) <;> intro hG <;> (try (exfalso; omega; done)) <;> refine r_nn zN zH ?_)) | ((with_reducible refine d_is ?_); first | refine yd ?_ | (refine d_fn rfl (ref_Compare _ _) HbF.h zL2 zD ?_; refine d_nn zN zH ?_) | ((with_reducible refine d_gd ?_); (first | refine d_guardPf rfl rfl ?_ ?_ | refine d_guardNf rfl rfl ?_ ?_ | refine d_guardPt rfl rfl ?_ ?_ | refine d_guardNt rfl rfl ?_ ?_ | refine d_guard rfl rfl ?_ ?_) <;> intro hG <;> (try (exfalso; omega; done)) <;> refine d_nn zN zH ?_)) | fail)
      refine ih (i, k + 1, l ++ [b.getD k default]) _ ⟨h0, by dsimp only; omega, by dsimp only; simp; omega, ?_⟩ (by dsimp only; omega) (by (refine St.Le.clean zR zU zV))
      rw [← h3, union_r hk (fun h => absurd h hi)]; simp
    · repeat' (first | refine yw ?_ | ((with_reducible refine Runs.is ?_); first | refine Runs.region (id := 3) ?_ | refine Runs.drawn (id := 7) mixed zK ?_ | refine Runs.region (id := 8) ?_ | refine Runs.region (id := 9) ?_ | refine Runs.drawn (id := 10) mixed zK ?_ | refine Runs.region (id := 11) ?_ | refine Runs.region (id := 12) ?_ | refine Runs.region (id := 4) ?_ | refine Runs.region (id := 5) ?_ | refine Runs.region (id := 6) ?_ | refine Runs.region (id := 13) ?_ | ((with_reducible refine Runs.isC ?_); refine Runs.cond rfl (zc ?_) (zc ?_) <;> intro hc <;> (try (first | contradiction | (exfalso; omega; done) | (have : hc = trivial := rfl; clear this; clear hc))))) | ((with_reducible refine r_is ?_); first | refine yr ?_ | (refine r_append_full SlF.h SlF.s ZoF.h zd rfl rfl zC zJ zS rfl (fun hn => ?_) (fun hn => ?_) <;> refine r_nn zN zH ?_) | ((with_reducible refine r_gd ?_); (first | refine r_guardPf rfl rfl ?_ ?_ | refine r_guardNf rfl rfl ?_ ?_ | refine r_guard rfl rfl ?_ ?_) <;> intro hG <;> (try (exfalso; omega; done)) <;> refine r_nn zN zH ?_)) | ((with_reducible refine d_is ?_); first | refine yd ?_ | (refine d_fn rfl (ref_Compare _ _) HbF.h zL2 zD ?_; refine d_nn zN zH ?_) | ((with_reducible refine d_gd ?_); (first | refine d_guardPf rfl rfl ?_ ?_ | refine d_guardNf rfl rfl ?_ ?_ | refine d_guardPt rfl rfl ?_ ?_ | refine d_guardNt rfl rfl ?_ ?_ | refine d_guard rfl rfl ?_ ?_) <;> intro hG <;> (try (exfalso; omega; done)) <;> refine d_nn zN zH ?_)) | fail)
      refine Runs.ret_frz Tryz.func24 rfl rfl rfl ?_
      rw [← h3, List.drop_eq_nil_of_le zo, List.drop_eq_nil_of_le zo]; simp [unionR]
end Go.Proofs
namespace Go.Proofs
open Go.AM
attribute [local irreducible] AM.evalR AM.evalD AM.Runs AM.valK AM.dK AM.opK AM.stepR AM.CallS AM.St.Le
theorem unionR_map {g : Proposal → Proposal} : ∀ (a b : Config), (∀ x ∈ a, ∀ y ∈ b, cmpP (g x) (g y) = cmpP x y) → unionR (a.map g) (b.map g) = (unionR a b).map g
  | [], b, _ => by simp [unionR]
  | a :: xs, [], _ => by simp [unionR]
  | a :: xs, b :: bs, h => by
    have h0 := h a (by simp) b (by simp)
    have e1 := unionR_map xs (b :: bs) fun x hx y hy => h x (by simp [hx]) y hy
    have e2 := unionR_map (a :: xs) bs fun x hx y hy => h x hx y (by simp [hy])
    have e3 := unionR_map xs bs fun x hx y hy => h x (by simp [hx]) y (by simp [hy])
    rw [List.map_cons] at e1 e2
    rw [List.map_cons, List.map_cons, unionR, unionR, h0, e1, e2, e3]
    split
    · rfl
    · split <;> rfl
termination_by a b => a.length + b.length
def back (f : Nat → Nat → Proposal) (p : Proposal) : Proposal := f (p.admin - 201).toNat (p.number - 1).toNat
theorem back_f0 (f : Nat → Nat → Proposal) (a i : Nat) : back f (f0 a i) = f a i := by
  unfold back f0
  dsimp only
  rw [show ((201 : Int) + a - 201).toNat = a by omega, show ((i : Int) + 1 - 1).toNat = i by omega]
theorem back_cut (f : Nat → Nat → Proposal) (i j k : Nat) : (cut f0 i j k).map (back f) = cut f i j k := by
  simp only [cut, blk, List.map_append, List.map_map]
  congr 1
  · congr 1 <;> exact List.map_congr_left fun n _ => back_f0 f _ n
  · exact List.map_congr_left fun n _ => back_f0 f _ n
theorem mem_cut {f : Nat → Nat → Proposal} {i j k : Nat} {p : Proposal} (h : p ∈ cut f i j k) : ∃ a n, p = f a n := by
  simp only [cut, blk, List.mem_append, List.mem_map] at h
  rcases h with (⟨n, _, rfl⟩ | ⟨n, _, rfl⟩) | ⟨n, _, rfl⟩ <;> exact ⟨_, _, rfl⟩
def unionF : Nat → Config → Config → Config
  | 0, _, _ => []
  | _ + 1, [], bs => bs
  | _ + 1, a :: xs, [] => a :: xs
  | n + 1, a :: xs, b :: bs => if cmpP a b < 0 then a :: unionF n xs (b :: bs) else if 0 < cmpP a b then b :: unionF n (a :: xs) bs else a :: unionF n xs bs
theorem unionF_eq : ∀ (n : Nat) (a b : Config), a.length + b.length < n → unionF n a b = unionR a b
  | 0, _, _, h => absurd h (Nat.not_lt_zero _)
  | n + 1, [], bs, _ => by simp [unionF, unionR]
  | n + 1, a :: xs, [], _ => by simp [unionF, unionR]
  | n + 1, a :: xs, b :: bs, h => by
    simp only [List.length_cons] at h
    rw [unionF, unionR, unionF_eq n xs (b :: bs) (by simp only [List.length_cons]; omega), unionF_eq n (a :: xs) bs (by simp only [List.length_cons]; omega), unionF_eq n xs bs zo]
theorem unionF_fin : ∀ i j k i' j' k' : Fin 4, unionF 19 (cut f0 i j k) (cut f0 i' j' k') = cut f0 (max i.val i'.val) (max j.val j'.val) (max k.val k'.val) := by decide +kernel
theorem union_fin (i j k i' j' k' : Fin 4) : unionR (cut f0 i j k) (cut f0 i' j' k') = cut f0 (max i.val i'.val) (max j.val j'.val) (max k.val k'.val) := by
  rw [← unionF_eq 19 _ _ (by rw [cut_len, cut_len]; omega)]
  exact unionF_fin i j k i' j' k'
theorem unionR_cut {f : Nat → Nat → Proposal} (hf : Nice f) {i j k i' j' k' : Nat} (h : i < 4 ∧ j < 4 ∧ k < 4) (h' : i' < 4 ∧ j' < 4 ∧ k' < 4) : unionR (cut f i j k) (cut f i' j' k') = cut f (max i i') (max j j') (max k k') := by
  rw [← back_cut f i j k, ← back_cut f i' j' k', unionR_map, union_fin ⟨i, h.1⟩ ⟨j, h.2.1⟩ ⟨k, h.2.2⟩ ⟨i', h'.1⟩ ⟨j', h'.2.1⟩ ⟨k', h'.2.2⟩, back_cut]
  intro x hx y hy
  obtain ⟨a, n, rfl⟩ := mem_cut hx
  obtain ⟨b, m, rfl⟩ := mem_cut hy
  rw [back_f0, back_f0, ← cmpP_key, key_nice hf, key_nice hf]
theorem mem_allN {f : Nat → Nat → Proposal} {i j k i' j' k' : Nat} {A : Config} (h : A ∈ allN f i j k i' j' k') : ∃ a b c : Nat, (i ≤ a ∧ a ≤ i') ∧ (j ≤ b ∧ b ≤ j') ∧ (k ≤ c ∧ c ≤ k') ∧ A = cut f a b c := by
  simp only [allN, List.mem_flatMap, List.mem_map, mem_upto] at h
  obtain ⟨a, ha, b, hb, x, hx, rfl⟩ := h
  exact ⟨a.toNat, b.toNat, x.toNat, by omega, by omega, by omega, rfl⟩
theorem getD_mem0 {α : Type} [Inhabited α] {l : List α} {i : Nat} (h : i < l.length) : l.getD i default ∈ l := by
  rw [List.getD_eq_getElem?_getD, List.getElem?_eq_getElem h]; exact List.getElem_mem h
end Go.Proofs
namespace Go.Proofs
open Go.AM
attribute [local irreducible] AM.evalR AM.evalD AM.Runs AM.valK AM.dK AM.opK AM.stepR AM.CallS AM.St.Le
end Go.Proofs
namespace Go.Proofs
open Go.AM
attribute [local irreducible] AM.evalR AM.evalD AM.Runs AM.valK AM.dK AM.opK AM.stepR AM.CallS AM.St.Le
end Go.Proofs
namespace Go.Proofs
open Go.AM
attribute [local irreducible] AM.evalR AM.evalD AM.Runs AM.valK AM.dK AM.opK AM.stepR AM.CallS AM.St.Le
theorem getD_in {α : Type} [Inhabited α] {l : List α} {i : Nat} (h : i < l.length) : l.getD i default ∈ l := by
  rw [List.getD_eq_getElem?_getD, List.getElem?_eq_getElem h]; exact List.getElem_mem h
end Go.Proofs
namespace Go.Proofs
open Go.AM
attribute [local irreducible] AM.evalR AM.evalD AM.Runs AM.valK AM.dK AM.opK AM.stepR AM.CallS AM.St.Le
end Go.Proofs
namespace Go.Proofs
open Go.AM
attribute [local irreducible] AM.evalR AM.evalD AM.Runs AM.valK AM.dK AM.opK AM.stepR AM.CallS AM.St.Le
theorem inj_fin : ∀ i j k i' j' k' : Fin 4, cut f0 i j k = cut f0 i' j' k' → i = i' ∧ j = j' ∧ k = k' := by decide +kernel
theorem cut_inj {f : Nat → Nat → Proposal} (hf : Nice f) {i j k i' j' k' : Nat} (h : i < 4 ∧ j < 4 ∧ k < 4) (h' : i' < 4 ∧ j' < 4 ∧ k' < 4) (e : cut f i j k = cut f i' j' k') : i = i' ∧ j = j' ∧ k = k' := by
  have e2 : cut f0 i j k = cut f0 i' j' k' := by rw [← cut_key hf, ← cut_key hf, e]
  have := inj_fin ⟨i, h.1⟩ ⟨j, h.2.1⟩ ⟨k, h.2.2⟩ ⟨i', h'.1⟩ ⟨j', h'.2.1⟩ ⟨k', h'.2.2⟩ e2
  simpa [Fin.ext_iff] using this
end Go.Proofs
namespace Go.Proofs
open Go.AM
attribute [local irreducible] AM.evalR AM.evalD AM.Runs AM.valK AM.dK AM.opK AM.stepR AM.CallS AM.St.Le
theorem at_arr (zs : List Int) (j : Nat) (h : j < zs.length) : zs.toArray[j]! = zs[j] := by simp [h]
theorem compactI_strict {zs : List Int} (h : zs.Pairwise (· ≤ ·)) : (compactI zs).Pairwise (· < ·) := by
  unfold compactI Lib.compact Lib.compactUpTo
  rw [List.pairwise_map]
  refine List.Pairwise.imp_of_mem ?_ (List.Pairwise.filter _ List.pairwise_lt_range)
  intro i j hi hj hij
  rw [List.mem_filter, List.mem_range] at hi hj
  have hk := hj.2
  unfold Lib.keeps at hk
  rw [decide_eq_true_eq] at hk
  rw [List.pairwise_iff_getElem] at h
  rw [at_arr zs i hi.1, at_arr zs j hj.1]
  rw [at_arr zs j hj.1, at_arr zs (j - 1) zo] at hk
  have h1 := h (j - 1) j zo hj.1 zo
  have h2 : zs[i] ≤ zs[j - 1] := by
    by_cases e : i = j - 1
    · subst e; exact Int.le_refl _
    · exact h i (j - 1) hi.1 zo zo
  rcases hk with e | e
  · omega
  · omega
theorem mem_compactI {zs : List Int} {x : Int} : x ∈ compactI zs ↔ x ∈ zs := by
  unfold compactI Lib.compact Lib.compactUpTo
  simp only [List.mem_map, List.mem_filter, List.mem_range]
  constructor
  · rintro ⟨j, ⟨hj, _⟩, rfl⟩
    rw [at_arr zs j hj]; exact List.getElem_mem hj
  · intro hx
    obtain ⟨j, hj, e⟩ := List.mem_iff_getElem.1 hx
    induction j with
    | zero => exact ⟨0, ⟨hj, by simp [Lib.keeps]⟩, by rw [at_arr zs 0 hj, e]⟩
    | succ j ih =>
      by_cases h : zs[j]'zo = x
      · exact ih zo h
      · refine ⟨j + 1, ⟨hj, ?_⟩, by rw [at_arr zs _ hj, e]⟩
        unfold Lib.keeps
        rw [decide_eq_true_eq, at_arr zs _ hj, e, Nat.add_sub_cancel, at_arr zs j zo]
        exact .inr (fun q => h q.symm)
theorem sortI_le (zs : List Int) : (sortI zs).Pairwise (· ≤ ·) := by
  have := List.pairwise_mergeSort (le := fun a b : Int => decide (a ≤ b)) (fun a b c h1 h2 => by simp at *; omega) (fun a b => by simp; omega) zs
  exact List.Pairwise.imp (fun h => by simpa using h) this
theorem mem_sortI {zs : List Int} {x : Int} : x ∈ sortI zs ↔ x ∈ zs := List.mem_mergeSort
theorem mem_insFold (n x : Int) : ∀ (l : List Int) (s : List Int × Bool), ((x ∈ (l.foldl (insStep n) s).1 ↔ x ∈ s.1 ∨ (x ∈ l ∧ x ≠ n) ∨ (x = n ∧ s.2 = false ∧ (l.foldl (insStep n) s).2 = true)) ∧ (s.2 = true → (l.foldl (insStep n) s).2 = true))
  | [], s => by
    constructor
    · simp only [List.foldl_nil, List.not_mem_nil, false_and, false_or]
      constructor
      · intro h; exact .inl h
      · rintro (h | ⟨_, h1, h2⟩)
        · exact h
        · rw [h1] at h2; cases h2
    · intro h; exact h
  | y :: l, s => by
    obtain ⟨h1, h2⟩ := mem_insFold n x l (insStep n s y)
    rw [List.foldl_cons]
    obtain ⟨acc, put⟩ := s
    by_cases e : y = n <;> by_cases g : n ≤ y <;> cases put <;> simp [insStep, e, g] at h1 h2 ⊢ <;> (try omega) <;> (generalize (List.foldl _ _ l) = t at *; obtain ⟨t1, t2⟩ := t; cases t2 <;> simp at * <;> (try subst e) <;> (try (constructor <;> intros <;> simp_all <;> omega)) <;> (try grind))
theorem mem_insR (l : List Int) (n x : Int) : x ∈ insR l n ↔ x ∈ l ∨ x = n := by
  have h := (mem_insFold n x l ([], false)).1
  unfold insR
  dsimp only
  generalize l.foldl (insStep n) ([], false) = t at *
  obtain ⟨t1, t2⟩ := t
  cases t2 <;> simp at h ⊢ <;> rw [h] <;> by_cases e : x = n <;> simp [e]
theorem mem_foldl {f : List Int → Int → List Int} (hf : ∀ l n x, x ∈ f l n ↔ x ∈ l ∨ x = n) : ∀ (b a : List Int) (x : Int), x ∈ b.foldl f a ↔ x ∈ a ∨ x ∈ b
  | [], a, x => by simp
  | n :: b, a, x => by rw [List.foldl_cons, mem_foldl hf b (f a n) x, hf, List.mem_cons, or_assoc]
theorem mem_insI (l : List Int) (n x : Int) : x ∈ insI l n ↔ x ∈ l ∨ x = n := by
  unfold insI
  split
  · rename_i h
    unfold foundI at h
    have h := of_decide_eq_true h
    have hm : n ∈ l := by rw [← h.2]; exact getD_mem0 h.1
    constructor
    · exact .inl
    · rintro (q | rfl)
      · exact q
      · exact hm
  · unfold putI
    have e := List.take_append_drop (bsI l n) l
    rw [List.mem_append, List.mem_cons]
    conv => rhs; rw [← e, List.mem_append]
    constructor
    · rintro (q | q | q) <;> simp [q]
    · rintro ((q | q) | q) <;> simp [q]
def Sim (s t : Summary) : Prop := (∀ x, x ∈ s.joined ↔ x ∈ t.joined) ∧ (∀ x, x ∈ s.removed ↔ x ∈ t.removed)
theorem ofAcc_mem (p : Proposal) (x : Int) : ∀ (cs : List Change) (s : Acc), (x ∈ (cs.foldl (ofStep p) s).j ↔ x ∈ s.j ∨ ∃ c ∈ cs, c.kind = 1 ∧ c.server = x) ∧ (x ∈ (cs.foldl (ofStep p) s).r ↔ x ∈ s.r ∨ ∃ c ∈ cs, c.kind = 2 ∧ c.server = x)
  | [], s => by simp
  | c :: cs, s => by
    obtain ⟨h1, h2⟩ := ofAcc_mem p x cs (ofStep p s c)
    rw [List.foldl_cons, h1, h2]
    constructor
    · have : x ∈ (ofStep p s c).j ↔ x ∈ s.j ∨ (c.kind = 1 ∧ c.server = x) := by
        unfold ofStep
        (repeat' split) <;> simp_all [@eq_comm _ x]
      rw [this, or_assoc]
      simp
    · have : x ∈ (ofStep p s c).r ↔ x ∈ s.r ∨ (c.kind = 2 ∧ c.server = x) := by
        unfold ofStep
        (repeat' split) <;> simp_all [@eq_comm _ x]
      rw [this, or_assoc]
      simp
theorem ofT_mem (p : Proposal) (x : Int) : ∀ (cs : List Change) (s : Summary), (x ∈ (cs.foldl (ofTStep p) s).joined ↔ x ∈ s.joined ∨ ∃ c ∈ cs, c.kind = 1 ∧ c.server = x) ∧ (x ∈ (cs.foldl (ofTStep p) s).removed ↔ x ∈ s.removed ∨ ∃ c ∈ cs, c.kind = 2 ∧ c.server = x)
  | [], s => by simp
  | c :: cs, s => by
    obtain ⟨h1, h2⟩ := ofT_mem p x cs (ofTStep p s c)
    rw [List.foldl_cons, h1, h2]
    constructor
    · have : x ∈ (ofTStep p s c).joined ↔ x ∈ s.joined ∨ (c.kind = 1 ∧ c.server = x) := by
        unfold ofTStep
        (repeat' split) <;> simp_all [mem_insR, @eq_comm _ x]
      rw [this, or_assoc]
      simp
    · have : x ∈ (ofTStep p s c).removed ↔ x ∈ s.removed ∨ (c.kind = 2 ∧ c.server = x) := by
        unfold ofTStep
        (repeat' split) <;> simp_all [mem_insR, @eq_comm _ x]
      rw [this, or_assoc]
      simp
theorem of_sim (p : Proposal) : Sim (ofS p) (ofT p) := by
  constructor <;> intro x
  · show x ∈ sortI (ofAcc p).j ↔ _
    rw [mem_sortI]
    unfold ofAcc ofT
    rw [(ofAcc_mem p x p.changes acc0).1, (ofT_mem p x p.changes sum0).1]
    exact Iff.rfl
  · show x ∈ sortI (ofAcc p).r ↔ _
    rw [mem_sortI]
    unfold ofAcc ofT
    rw [(ofAcc_mem p x p.changes acc0).2, (ofT_mem p x p.changes sum0).2]
    exact Iff.rfl
theorem join_sim {s t s' t' : Summary} (h : Sim s t) (h' : Sim s' t') : Sim (joinS s s') (joinT t t') := by
  constructor <;> intro x
  · show x ∈ unionI _ _ ↔ x ∈ List.foldl insR _ _
    unfold unionI
    rw [mem_foldl mem_insI, mem_foldl mem_insR, h.1, h'.1]
  · show x ∈ unionI _ _ ↔ x ∈ List.foldl insR _ _
    unfold unionI
    rw [mem_foldl mem_insI, mem_foldl mem_insR, h.2, h'.2]
theorem sum_sim (g : View) (c : Config) : Sim (sumS g c) (sumT g c) := by
  have gen : ∀ (c : Config) (s t : Summary), Sim s t → Sim (c.foldl sumStep s) (c.foldl sumTStep t) := by
    intro c
    induction c with
    | nil => intro s t h; exact h
    | cons p c ih => intro s t h; exact ih _ _ (join_sim h (of_sim p))
  exact gen c _ _ ⟨fun _ => Iff.rfl, fun _ => Iff.rfl⟩
theorem mem_srvS (s : Summary) (x : Int) : x ∈ srv (viewS s) ↔ x ∈ s.joined ∧ x ∉ s.removed := by
  simp [srv, viewS, viewMs]
theorem mem_srvT (s : Summary) (x : Int) : x ∈ srv (viewT s) ↔ x ∈ s.joined ∧ x ∉ s.removed := by
  simp [srv, viewT, vAccT]
  intro _
  exact ⟨fun h q => h x q rfl, fun h y hy e => h (e ▸ hy)⟩
theorem srv_same (g : View) (c : Config) (x : Int) : x ∈ srv (viewT (sumT g c)) ↔ x ∈ srv (viewOf g c) := by
  unfold viewOf
  rw [mem_srvS, mem_srvT, (sum_sim g c).1, (sum_sim g c).2]
theorem mem_spanI (vs : List View) (x : Int) : x ∈ spanI vs ↔ ∃ v ∈ vs, x ∈ srv v := by
  unfold spanI distinctI
  rw [mem_compactI, mem_sortI, List.mem_flatten]
  constructor
  · rintro ⟨l, hl, hx⟩
    obtain ⟨v, hv, rfl⟩ := List.mem_map.1 hl
    exact ⟨v, hv, hx⟩
  · rintro ⟨v, hv, hx⟩
    exact ⟨srv v, List.mem_map.2 ⟨v, hv, rfl⟩, hx⟩
theorem span_strict (vs : List View) : (spanI vs).Pairwise (· < ·) := compactI_strict (sortI_le _)
theorem ascR_of : ∀ {l : List Int}, l.Pairwise (· < ·) → ascR l = true
  | [], _ => rfl
  | [_], _ => rfl
  | x :: y :: l, h => by
    rw [List.pairwise_cons] at h
    rw [ascR, decide_eq_true (h.1 y (by simp)), Bool.true_and]
    exact ascR_of h.2
theorem span_facts {f : Nat → Nat → Proposal} (hf : Nice f) {c : Config} (hc : IsCut f c) (x z : Int) :
    IsCut f (unionR (partI c x) (partI c z)) ∧ unionR (partI c x) (partI c z) ∈ allB (partI c x) c ∧ unionR (partI c x) (partI c z) ∈ allB (unionR (partI c x) (partI c z)) c ∧
      ∀ A ∈ allB (unionR (partI c x) (partI c z)) c, A ∈ allB (partI c x) c := by
  obtain ⟨i, j, k, i', j', k', hle, h', rfl, hp⟩ := part_sub hf hc x
  obtain ⟨a, b, d, a', b', d', hle2, h2', e, hp2⟩ := part_sub hf hc z
  obtain ⟨rfl, rfl, rfl⟩ := cut_inj hf h' h2' e
  have h : i < 4 ∧ j < 4 ∧ k < 4 := by omega
  have hu : unionR (partI (cut f i' j' k') x) (partI (cut f i' j' k') z) = cut f (max i a) (max j b) (max k d) := by rw [hp, hp2, unionR_cut hf h zo]
  rw [hu, hp, allB_cut hf h h', if_pos hle, allB_cut hf zo h', if_pos zo]
  have hm : ∀ {i j k a b c : Nat}, i ≤ a ∧ a ≤ i' → j ≤ b ∧ b ≤ j' → k ≤ c ∧ c ≤ k' → cut f a b c ∈ allN f i j k i' j' k' := by
    intro i j k a b c h1 h2 h3
    simp only [allN, List.mem_flatMap, List.mem_map, mem_upto]
    exact ⟨a, by omega, b, by omega, c, by omega, by simp⟩
  refine ⟨⟨_, _, _, by omega, rfl⟩, hm zo zo zo, hm zo zo zo, fun A hA => ?_⟩
  obtain ⟨p, q, r, h1, h2, h3, rfl⟩ := mem_allN hA
  exact hm zo zo zo
theorem sum_le_mul {l : List Nat} {m : Nat} (h : ∀ x ∈ l, x ≤ m) : l.sum ≤ l.length * m := by
  induction l with
  | nil => simp
  | cons x l ih =>
    have := ih (fun y hy => h y (by simp [hy]))
    have := h x (by simp)
    rw [List.sum_cons, List.length_cons, Nat.add_mul]; omega
theorem view_len {g : View} (hg : g.members.length ≤ 1000) {c : Config} (hc : c.length ≤ 100) (hp : ∀ p ∈ c, Plain p) : (viewOf g c).members.length ≤ 200000 := by
  have h := (sumS_short hg c (fun p q => (hp p q).1)).1
  show ((List.filter _ (sumS g c).joined).map _).length ≤ _
  rw [List.length_map]
  exact Nat.le_trans (List.length_filter_le _ _) zo
theorem cut_plain {f : Nat → Nat → Proposal} (hl : Lite f) {c : Config} (hc : IsCut f c) : c.length ≤ 100 ∧ ∀ p ∈ c, Plain p := by
  have h9 := (hc.small hl).1
  obtain ⟨i, j, k, h, rfl⟩ := hc
  refine ⟨by omega, fun p hp => ?_⟩
  obtain ⟨a, n, rfl⟩ := mem_cut hp
  exact ⟨by have := hl a n; omega, True.intro⟩
end Go.Proofs
namespace Go.Proofs
open Go.AM
attribute [local irreducible] AM.evalR AM.evalD AM.Runs AM.valK AM.dK AM.opK AM.stepR AM.CallS AM.St.Le
theorem any_mem {l : List Int} {x : Int} (h : x ∈ l) : (l.any fun y => decide (y = x)) = true := List.any_eq_true.2 ⟨x, h, decide_eq_true rfl⟩
theorem genesis_len (n : Int) : (genesisI n).members.length ≤ 5 := by
  have := digitB n 5 4 zd
  unfold genesisI
  dsimp only
  rw [List.length_map, List.length_range]; omega
theorem span_fn {g : View} (hg : g.members.length ≤ 1000) {a b : Config} (hA : AM.Fn Tryz.prog 10 [.sl false (a.map prV), .sl false (b.map prV)] (.sl false ((allB a b).map cfV))) (hn : (allB a b).length ≤ 1000)
    (hp : ∀ c ∈ allB a b, c.length ≤ 100 ∧ ∀ p ∈ c, Plain p) : AM.Fn Tryz.prog 19 [viV g, .sl false (a.map prV), .sl false (b.map prV)] (.sl false ((spanI ((allB a b).map (viewOf g))).map .i)) := by
  have hV := interval_Views false false g a b hA zo hg hp
  have hm : ∀ v ∈ (allB a b).map (viewOf g), v.members.length ≤ 200000 := by
    intro v hv
    obtain ⟨c, hc, rfl⟩ := List.mem_map.1 hv
    exact view_len hg (hp c hc).1 (hp c hc).2
  refine interval_Span false false g a b _ hV (by rw [List.length_map]; omega) (fun v hv => Nat.le_trans (hm v hv) zd) ?_
  refine Nat.le_trans (sum_le_mul (m := 200000) ?_) ?_
  · intro x hx
    obtain ⟨l, hl, rfl⟩ := List.mem_map.1 hx
    obtain ⟨v, hv, rfl⟩ := List.mem_map.1 hl
    unfold srv
    rw [List.length_map]; exact hm v hv
  · rw [List.length_map, List.length_map, List.length_map]
    omega
theorem all_len64 {f : Nat → Nat → Proposal} (hf : Nice f) {a b : Config} (ha : IsCut f a) (hb : IsCut f b) : (allB a b).length ≤ 64 := by
  obtain ⟨i, j, k, h, rfl⟩ := ha
  obtain ⟨i', j', k', h', rfl⟩ := hb
  rw [allB_cut hf h h']
  split
  · exact allN_len f h'
  · simp
theorem law_IntervalSpan (f : Bool) (n : Int) (l : List Int) (x y z : Int) (hl : l.length ≤ 4611686018427387904) : AM.Fn Tryz.prog 5 [.i n, .sl f (l.map .i), .i x, .i y, .i z] (.b true) := by
  have hf := pool_nice l
  have hli : Lite (poolF l) := pool_lite l
  have hpc := pool_cut l
  have hct := part_cut hf hpc y
  have hcf := part_cut hf hct x
  have hcz := part_cut hf hct z
  have hG := kit_Genesis n
  have hg : (genesisI n).members.length ≤ 1000 := Nat.le_trans (genesis_len n) zd
  have hP := kit_Pool f l hl
  have s0 := hpc.small hli
  have s1 := hct.small hli
  have s2 := hcf.small hli
  have s3 := hcz.small hli
  have fn1 := hct.fine hf
  have hP1 := kit_Part false (poolI l) y zo
  have hP2 := kit_Part false (partI (poolI l) y) x zo
  have hP3 := kit_Part false (partI (poolI l) y) z zo
  generalize partI (poolI l) y = to at *
  obtain ⟨hcm, hm1, hm2, hsub⟩ := span_facts hf hct x z
  have hU := ref_Union false false (partI to x) (partI to z) zo zo
  have s4 := hcm.small hli
  have p4 := cut_plain hli hcm
  have hall := all_is hf hli hcf hct
  have hall2 := all_is hf hli hcm hct
  have l1 := all_len64 hf hcf hct
  have l2 := all_len64 hf hcm hct
  generalize unionR (partI to x) (partI to z) = mid at *
  generalize partI to x = fr at *
  generalize partI to z = tz at *
  rw [← hall.1] at hall
  rw [← hall2.1] at hall2
  have hA := interval_All false false fr to zo s1.2 zo fn1
  have hA2 := interval_All false false mid to zo s1.2 zo fn1
  have hS1 := span_fn hg hA zo (fun c hc => cut_plain hli (hall.2.1 c hc))
  have hS2 := span_fn hg hA2 zo (fun c hc => cut_plain hli (hall2.2.1 c hc))
  have hV := ref_ViewOf false (genesisI n) mid hg p4.1 p4.2
  have hml : (viewT (sumT (genesisI n) mid)).members.length ≤ 200000 := Nat.le_trans (vAccT_len _ _ _) (Nat.le_trans (sumT_short hg mid (fun p q => (p4.2 p q).1)).1 zo)
  generalize genesisI n = g at *
  have f1 : ∀ x, x ∈ spanI ((allB mid to).map (viewOf g)) → x ∈ spanI ((allB fr to).map (viewOf g)) := by
    intro x hx
    obtain ⟨v, hv, hx⟩ := (mem_spanI _ _).1 hx
    obtain ⟨c, hc, rfl⟩ := List.mem_map.1 hv
    exact (mem_spanI _ _).2 ⟨_, List.mem_map.2 ⟨c, hsub c hc, rfl⟩, hx⟩
  have f2 : ∀ x, x ∈ srv (viewT (sumT g mid)) → x ∈ spanI ((allB mid to).map (viewOf g)) := by
    intro x hx
    exact (mem_spanI _ _).2 ⟨_, List.mem_map.2 ⟨mid, hm2, rfl⟩, (srv_same g mid x).1 hx⟩
  have f3 := ascR_of (span_strict ((allB fr to).map (viewOf g)))
  generalize spanI ((allB fr to).map (viewOf g)) = s at *
  generalize spanI ((allB mid to).map (viewOf g)) = t at *
  generalize viewT (sumT g mid) = v at *
  obtain ⟨ms, ru⟩ := v
  dsimp only at hml
  change ∀ x, x ∈ ms.map (·.server) → x ∈ t at f2
  clear hpc hct hcf hcz hcm hall hall2 hm1 hm2 hsub hA hA2 fn1 hf hli
  have hI := fun (x : Int) => ref_In false s x
  have hI2 := fun (x : Int) => ref_In false t x
  have hAs := ref_Ascending false s
  rw [f3] at hAs
  (refine spec_of_runs Tryz.func5 rfl ?_; simp only [Tryz.f5]; refine ys ?_)
  repeat' (first | refine yw ?_ | ((with_reducible refine Runs.is ?_); first | refine Runs.region (id := 0) ?_ | refine Runs.region (id := 1) ?_ | refine Runs.region (id := 2) ?_ | refine Runs.region (id := 3) ?_ | refine Runs.region (id := 4) ?_ | refine Runs.drawn (id := 5) mixed zK ?_ | refine Runs.region (id := 6) ?_ | ((with_reducible refine Runs.isC ?_); refine Runs.cond rfl (zc ?_) (zc ?_) <;> intro hc <;> (try (first | contradiction | (exfalso; omega; done) | (have : hc = trivial := rfl; clear this; clear hc))))) | ((with_reducible refine r_is ?_); first | refine yr ?_ | (refine r_fn rfl (hG) HbF.h zL1 zD ?_; refine r_nn zN zH ?_) | (refine r_fn rfl (hP) HbF.h zL1 zD ?_; refine r_nn zN zH ?_) | (refine r_fn rfl (hP1) HbF.h zL2 zD ?_; refine r_nn zN zH ?_) | (refine r_fn rfl (hP2) HbF.h zL2 zD ?_; refine r_nn zN zH ?_) | (refine r_fn rfl (hP3) HbF.h zL2 zD ?_; refine r_nn zN zH ?_) | (refine r_fn rfl (hU) HbF.h zL2 zD ?_; refine r_nn zN zH ?_)) | ((with_reducible refine d_is ?_); first | refine yd ?_ | (refine d_fn rfl (hS1) HbF.h zL3 zD ?_; refine d_nn zN zH ?_) | (refine d_fn rfl (hS2) HbF.h zL3 zD ?_; refine d_nn zN zH ?_)) | fail)
  (refine Runs.lens 17 ?_; refine yl ?_)
  intro htl
  refine Runs.loopI (fun k : Nat => t.length - k) (fun k => k ≤ t.length)
    (fun k => ⟨[.any, .any, .any, .any, .any, .any, .any, .any, .any, .any, .any, .ptr 11 0 0, .any, .any, .any, .sl false (mid.map prV), .sl false (s.map .i), .sl false (t.map .i), .i (k : Nat), .any, .any, .any, .any, .any, .any, .any, .any, .any, .any, .any, .any, .any, .any, .any, .any, .any, .any, .any, .any, .any, .any, .any, .any, .any, .any, .any, .any, .any, .any, .any, .any, .any, .any, .any, .any, .any, .any, .any, .any, .any, .any, .any, .any, .any, .any, .any, .any, .any, .any, .any, .any, .any, .any, .any, .any, .any, .any, .any, .any, .any, .any, .any, .any, .any, .any, .any, .any, .any, .any, .any, .any, .any], [(11, .var 35 (viV g))]⟩) 0 zo ?_ ?_
  · (refine St.Le.clean zR zU zV)
  rintro k hk ih
  by_cases hlt : k < t.length
  · have hIk := hI (t.getD k default)
    rw [any_mem (f1 _ (getD_in hlt))] at hIk
    repeat' (first | refine yw ?_ | ((with_reducible refine Runs.is ?_); first | refine Runs.region (id := 7) ?_ | refine Runs.region (id := 9) ?_ | refine Runs.region (id := 8) ?_ | ((with_reducible refine Runs.isC ?_); refine Runs.cond rfl (zc ?_) (zc ?_) <;> intro hc <;> (try (first | contradiction | (exfalso; omega; done) | (have : hc = trivial := rfl; clear this; clear hc))))) | ((with_reducible refine r_is ?_); first | refine yr ?_ | (refine r_fn rfl (hIk) HbF.h zL2 zD ?_; refine r_nn zN zH ?_)) | fail)
    refine ih (k + 1) _ zo zo ?_
    (refine St.Le.clean zR zU zV)
  clear ih
  repeat' (first | refine yw ?_ | ((with_reducible refine Runs.is ?_); first | refine Runs.region (id := 7) ?_ | ((with_reducible refine Runs.isC ?_); refine Runs.cond rfl (zc ?_) (zc ?_) <;> intro hc <;> (try (first | contradiction | (exfalso; omega; done) | (have : hc = trivial := rfl; clear this; clear hc))))) | ((with_reducible refine r_is ?_); first | refine yr ?_) | fail)
  repeat' (first | refine yw ?_ | ((with_reducible refine Runs.is ?_); first | refine Runs.region (id := 11) ?_ | refine Runs.region (id := 12) ?_ | ((with_reducible refine Runs.isC ?_); refine Runs.cond rfl (zc ?_) (zc ?_) <;> intro hc <;> (try (first | contradiction | (exfalso; omega; done) | (have : hc = trivial := rfl; clear this; clear hc))))) | ((with_reducible refine r_is ?_); first | refine yr ?_ | (refine r_fn rfl (hV) HbF.h zL2 zD ?_; refine r_nn zN zH ?_)) | fail)
  clear hc hlt hk
  refine Runs.loopI (fun k : Nat => ms.length - k) (fun k => k ≤ ms.length)
    (fun k => ⟨[.any, .any, .any, .any, .any, .any, .any, .any, .any, .any, .any, .any, .any, .any, .any, .any, .sl false (s.map .i), .sl false (t.map .i), .any, .ptr 19 0 0, .i (k : Nat), .any, .any, .any, .any, .any, .any, .any, .any, .any, .any, .any, .any, .any, .any, .any, .any, .any, .any, .any, .any, .any, .any, .any, .any, .any, .any, .any, .any, .any, .any, .any, .any, .any, .any, .any, .any, .any, .any, .any, .any, .any, .any, .any, .any, .any, .any, .any, .any, .any, .any, .any, .any, .any, .any, .any, .any, .any, .any, .any, .any, .any, .any, .any, .any, .any, .any, .any, .any, .any, .any, .any], [(19, .var 41 (viV ⟨ms, ru⟩))]⟩) 0 zo ?_ ?_
  · (refine St.Le.clean zR zU zV)
  rintro k hk ih
  by_cases hlt : k < ms.length
  · have hm : (ms.getD k default).server ∈ ms.map (·.server) := List.mem_map.2 ⟨_, getD_in hlt, rfl⟩
    have hIk := hI (ms.getD k default).server
    have hIk2 := hI2 (ms.getD k default).server
    rw [any_mem (f1 _ (f2 _ hm))] at hIk
    rw [any_mem (f2 _ hm)] at hIk2
    repeat' (first | refine yw ?_ | ((with_reducible refine Runs.is ?_); first | refine Runs.region (id := 13) ?_ | refine Runs.region (id := 15) ?_ | refine Runs.region (id := 14) ?_ | ((with_reducible refine Runs.isC ?_); refine Runs.cond rfl (zc ?_) (zc ?_) <;> intro hc <;> (try (first | contradiction | (exfalso; omega; done) | (have : hc = trivial := rfl; clear this; clear hc))))) | ((with_reducible refine r_is ?_); first | refine yr ?_ | (refine r_fn rfl (hIk) HbF.h zL2 zD ?_; refine r_nn zN zH ?_) | (refine r_fn rfl (hIk2) HbF.h zL2 zD ?_; refine r_nn zN zH ?_) | ((with_reducible refine r_gd ?_); (first | refine r_guardPf rfl rfl ?_ ?_ | refine r_guardNf rfl rfl ?_ ?_ | refine r_guard rfl rfl ?_ ?_) <;> intro hG <;> (try (exfalso; omega; done)) <;> refine r_nn zN zH ?_)) | fail)
    refine ih (k + 1) _ zo zo ?_
    (refine St.Le.clean zR zU zV)
  repeat' (first | refine yw ?_ | ((with_reducible refine Runs.is ?_); first | refine Runs.region (id := 13) ?_ | ((with_reducible refine Runs.isC ?_); refine Runs.cond rfl (zc ?_) (zc ?_) <;> intro hc <;> (try (first | contradiction | (exfalso; omega; done) | (have : hc = trivial := rfl; clear this; clear hc))))) | ((with_reducible refine r_is ?_); first | refine yr ?_) | fail)
  repeat' (first | refine yw ?_ | ((with_reducible refine Runs.is ?_); first | refine Runs.region (id := 17) ?_ | ((with_reducible refine Runs.isC ?_); refine Runs.cond rfl (zc ?_) (zc ?_) <;> intro hc <;> (try (first | contradiction | (exfalso; omega; done) | (have : hc = trivial := rfl; clear this; clear hc))))) | ((with_reducible refine r_is ?_); first | refine yr ?_ | (refine r_fn rfl (hAs) HbF.h zL1 zD ?_; refine r_nn zN zH ?_) | (refine r_fn rfl (law_awake) HbF.h zL0 zD ?_; refine r_nn zN zH ?_) | ((with_reducible refine r_gd ?_); (first | refine r_guardPt rfl rfl ?_ ?_ | refine r_guardNt rfl rfl ?_ ?_ | refine r_guard rfl rfl ?_ ?_) <;> intro hG <;> (try (exfalso; omega; done)) <;> refine r_nn zN zH ?_)) | fail)
  (refine Runs.ret1 Tryz.func5 rfl zM zD ?_; try exact zX)
end Go.Proofs
namespace Go.Proofs
open Go.AM
attribute [local irreducible] AM.evalR AM.evalD AM.Runs AM.valK AM.dK AM.opK AM.stepR AM.CallS AM.St.Le
theorem row_own : ownKnob Tryz.prog.godebug = none := by kernel_rfl
theorem row_laid : laidOutB Tryz.prog = true := by kernel_rfl
theorem row_bool : Tryz.prog.underlying 4 = some .bool := by kernel_rfl
theorem row_int : Tryz.prog.underlying 3 = some (.int .i64) := by kernel_rfl
def I64 (z : Int) : Prop := -9223372036854775808 ≤ z ∧ z ≤ 9223372036854775807
theorem wf_i64 {z : Int} (h : (Lit.int .i64 z).wf = true) : I64 z := by
  simp only [Lit.wf, Bool.and_eq_true, decide_eq_true_eq] at h
  exact h
theorem opI : Opens Tryz.prog 3 1 (fun vs => ∃ z, I64 z ∧ vs = [V.i z]) := (opens_int row_int (by kernel_rfl)).imp fun vs ⟨z, h, e⟩ => ⟨z, wf_i64 h, e⟩
theorem opIs : Opens Tryz.prog 44 1 (fun vs => ∃ l : List Int, l.length ≤ 4611686018427387904 ∧ vs = [inV l]) := (opens_slice false (e := 3) (by kernel_rfl) (by kernel_rfl) opI zd (by kernel_rfl) (by rintro _ c ⟨z, _, rfl⟩; rfl)).imp fun vs ⟨ess, h1, h2, e⟩ => by
  obtain ⟨xs, e1, _, e2⟩ := lists_of (f := V.i) (ok := fun _ => True) (ag := false) (ess := ess) fun c hc => by obtain ⟨z, _, rfl⟩ := h1 c hc; exact ⟨z, trivial, rfl⟩
  have : reachBytes = 140737488351232 := rfl
  exact ⟨xs, by omega, by rw [e, e1]⟩
theorem oaI : OpensV Tryz.prog 3 (fun u => ∃ z, I64 z ∧ u = .i z) := fun H enc W base v d ps a b c d' => (opensV_int row_int (by kernel_rfl) H enc W base v d ps a b c d').imp fun u q => ⟨q.1, q.2.imp fun z r => ⟨wf_i64 r.1, r.2⟩⟩
theorem oaIs : OpensV Tryz.prog 44 (fun u => ∃ l : List Int, l.length ≤ 4611686018427387904 ∧ u = inV l) := opIs.sl (e := 3) (by kernel_rfl) fun u ⟨l, h, e⟩ => ⟨l, h, by simpa using e⟩
end Go.Proofs
namespace Go.Proofs.YtkklpkjbocnofaaGreat
open Go.AM
attribute [local irreducible] AM.evalR AM.evalD AM.Runs AM.valK AM.dK AM.opK AM.stepR AM.CallS AM.St.Le
theorem args_of {α : Type} {l : List α} (h : l.length = 5) : ∃ d0 d1 d2 d3 d4, l = [d0, d1, d2, d3, d4] := by
  match l, h with
  | [d0, d1, d2, d3, d4], _ => exact ⟨d0, d1, d2, d3, d4, rfl⟩
set_option maxRecDepth 100000 in
theorem intervalSpan_lifted (os : Os) (started : os.Started) (H : Type) (enc : TypeId × Value → H) :
    ReturnsInHanded {} Tryz.checked os 5 .any (Rows.intervalSpanSpec.pre6 enc Tryz.prog Tryz.f5 Rows.intervalSpanRow.domain false) (Rows.intervalSpanSpec.post enc Tryz.prog Tryz.f5 false true false false) := by
  refine returnsInHanded_of_change_sized (C := Tryz.checked) row_own started (by kernel_rfl) Tryz.func5
    (ChangeSpec.witness6 (enc := enc) (C := Tryz.checked) false ⟨#[], #[.int .i64 0, .slice none 0 0, .int .i64 0, .int .i64 0, .int .i64 0], []⟩ 8 (by kernel_rfl) (by kernel_rfl) (by kernel_rfl) (by kernel_rfl)) ?_
  intro W base args ds gs before hval hW _ hsz _
  refine row_any row_laid row_bool (ts := [3, 44, 3, 3, 3]) (by kernel_rfl) (args_cons oaI (by kernel_rfl) (by kernel_rfl) (args_cons oaIs (by kernel_rfl) (by kernel_rfl) (args_cons oaI (by kernel_rfl) (by kernel_rfl) (args_cons oaI (by kernel_rfl) (by kernel_rfl) (args_cons oaI (by kernel_rfl) (by kernel_rfl) args_nil))))) (by kernel_rfl) rfl (fun ds h => ?_) (fun us h => ?_) W base args ds gs before hval hW hsz
  · obtain ⟨d0, d1, d2, d3, d4, rfl⟩ := args_of h
    exact ⟨rfl, rfl, rfl⟩
  · skip
    obtain ⟨_, us0, rfl, ⟨a0, h0, rfl⟩, k0⟩ := all_cons h
    obtain ⟨_, us1, rfl, ⟨a1, h1, rfl⟩, k1⟩ := all_cons k0
    obtain ⟨_, us2, rfl, ⟨a2, h2, rfl⟩, k2⟩ := all_cons k1
    obtain ⟨_, us3, rfl, ⟨a3, h3, rfl⟩, k3⟩ := all_cons k2
    obtain ⟨_, us4, rfl, ⟨a4, h4, rfl⟩, k4⟩ := all_cons k3
    obtain rfl := all_nil k4
    exact law_IntervalSpan false a0 a1 a2 a3 a4 h1
theorem intervalSpan_holds : Rows.IntervalSpanSaid :=
  OpenClaim.holds_of_wide 5 Tryz.f5 rfl rfl rfl rfl rfl rfl rfl ⟨rfl, rfl, rfl, rfl, rfl⟩ rfl rfl rfl rfl rfl (by kernel_rfl) Tryz.func5 (by kernel_rfl)
    (of_decide_eq_true (by kernel_rfl)) (by unfold Func.isWrapper; first | (rw [if_pos (by decide +kernel)]; kernel_rfl) | (rw [if_neg (by decide +kernel)]; exact ⟨rfl, rfl⟩))
    (fun os started H enc _ => intervalSpan_lifted os started H enc)
end Go.Proofs.YtkklpkjbocnofaaGreat
