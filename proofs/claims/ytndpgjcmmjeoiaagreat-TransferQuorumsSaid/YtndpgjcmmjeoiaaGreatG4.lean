/- Contracts of functions and plain laws: W69, W70, W13, W20, W51, W52, W10, W54, W56, W59, W57, W58, W60, W71. -/
import Derived.Test.YtndpgjcmmjeoiaaGreatG3
set_option linter.unusedVariables false
set_option linter.unusedSimpArgs false
set_option maxRecDepth 8000
set_option maxHeartbeats 4000000
set_option pp.deepTerms false
set_option pp.deepTerms.threshold 6
namespace Go.Proofs
open Go.AM
attribute [local irreducible] AM.evalR AM.evalD AM.Runs AM.valK AM.dK AM.opK AM.stepR AM.CallS AM.St.Le
def sum0 : Summary := ⟨[], [], [], ⟨0, 0, 0⟩, 0, 0, 0⟩
def ofTStep (p : Proposal) (s : Summary) (c : Change) : Summary :=
  if c.kind = 1 then { s with joined := insR s.joined c.server, weights := weighR s.weights ⟨c.server, c.weight, 0, p.admin, p.number⟩ }
  else if c.kind = 2 then { s with removed := insR s.removed c.server }
  else if c.kind = 3 then { s with weights := weighR s.weights ⟨c.server, c.weight, c.version, p.admin, p.number⟩ }
  else if c.kind = 4 then { s with rule := c.rule, version := c.version, admin := p.admin, number := p.number }
  else s
def ofT (p : Proposal) : Summary := p.changes.foldl (ofTStep p) sum0
theorem ofTStep_short {p : Proposal} {s : Summary} {c : Change} {n : Nat} (h : Short s n) : Short (ofTStep p s c) (n + 1) := by
  obtain ⟨h1, h2, h3⟩ := h
  have i1 := insR_len s.joined c.server
  have i2 := insR_len s.removed c.server
  have i3 := weighR_len s.weights ⟨c.server, c.weight, 0, p.admin, p.number⟩
  have i4 := weighR_len s.weights ⟨c.server, c.weight, c.version, p.admin, p.number⟩
  unfold ofTStep Short
  (repeat' split) <;> (try dsimp only) <;> omega
theorem ofT_short {p : Proposal} (k : Nat) (hk : k ≤ p.changes.length) : Short ((p.changes.take k).foldl (ofTStep p) sum0) k := by
  induction k with
  | zero => exact ⟨Nat.le_refl _, Nat.le_refl _, Nat.le_refl _⟩
  | succ k ih =>
    rw [foldl_take zo]
    exact ofTStep_short (ih zo)
theorem ref_Of (p : Proposal) (hp : p.changes.length ≤ 100000) : AM.Fn Tryz.prog 176 [prV p] (suV (ofT p)) := by
  have hgo : ∀ s, p.changes.foldl (ofTStep p) sum0 = s → s = ofT p := fun s h => h.symm
  have hsh := fun k hk => ofT_short (p := p) k hk
  have hgen : ∃ q : Proposal, q = p := ⟨p, rfl⟩
  obtain ⟨ad, nu, cs⟩ := p
  dsimp only at hp hgo hsh
  (refine spec_of_runs Tryz.func176 rfl ?_; simp only [Tryz.f176]; refine ys ?_)
  repeat' (first | refine yw ?_ | ((with_reducible refine Runs.is ?_); first | refine Runs.region (id := 0) ?_ | refine Runs.region (id := 1) ?_ | refine Runs.region (id := 2) ?_ | ((with_reducible refine Runs.isC ?_); refine Runs.cond rfl (zc ?_) (zc ?_) <;> intro hc <;> (try (first | contradiction | (exfalso; omega; done) | (have : hc = trivial := rfl; clear this; clear hc))))) | ((with_reducible refine r_is ?_); first | refine yr ?_) | fail)
  refine Runs.weaken (St.Le.nilVar 20 3 0 3 1 zd rfl rfl rfl) ?_
  (refine Runs.weaken (St.Le.freeze_lst 20 rfl) ?_; refine yf ?_)
  refine Runs.weaken (St.Le.nilVar 20 3 1 3 1 zd rfl rfl rfl) ?_
  (refine Runs.weaken (St.Le.freeze_lst 20 rfl) ?_; refine yf ?_)
  refine Runs.weaken (St.Le.nilVar 20 3 2 241 5 zd rfl rfl rfl) ?_
  (refine Runs.weaken (St.Le.freeze_lst 20 rfl) ?_; refine yf ?_)
  refine Runs.loopI (fun k : Nat => cs.length - k) (fun k => k ≤ cs.length)
    (fun k => ⟨[.any, .ptr 1 0 0, .ptr 2 0 0, .ptr 3 0 0, .i (k : Nat), .any, .any, .any, .any, .any, .any, .any, .any, .any, .any, .any, .any, .any, .any, .any, .any, .any, .any, .any, .any, .any, .any, .any, .any, .any, .any, .any, .any, .any, .any, .any, .any, .any, .any, .any, .any, .any, .any, .any, .any, .any, .any, .any, .any, .any, .any, .any, .any, .any, .any, .any, .any, .any, .any, .any, .any, .any, .any, .any, .any, .any, .any, .any, .any, .any, .any, .any, .any, .any, .any, .any, .any, .any, .any, .any, .any, .any], [(3, .var 154 (suV ((cs.take k).foldl (ofTStep ⟨ad, nu, cs⟩) sum0))), (2, .var 154 (.agg [.sc (.slice none 0 0), .sc (.slice none 0 0), .sc (.slice none 0 0), .i 0, .i 0, .i 0, .i 0, .i 0, .i 0])), (1, .var 129 (prV ⟨ad, nu, cs⟩))]⟩) 0 (by simp) ?_ ?_
  · (refine St.Le.clean zR zU zV)
  rintro k hk ih
  have hst := fun (h : k < cs.length) => foldl_take (g := ofTStep ⟨ad, nu, cs⟩) (s := sum0) h
  have hend : cs.length ≤ k → (cs.take k).foldl (ofTStep ⟨ad, nu, cs⟩) sum0 = ofT ⟨ad, nu, cs⟩ := fun h => by rw [List.take_of_length_le h]; rfl
  have hshk := hsh k hk
  generalize (cs.take k).foldl (ofTStep ⟨ad, nu, cs⟩) sum0 = s at hst hend hshk ⊢
  clear hgo hsh
  by_cases hlt : k < cs.length
  · have hst2 := hst hlt
    clear hst hend
    obtain ⟨s1, s2, s3⟩ := hshk
    have hI1 := ref_Insert false s.joined (cs.getD k default).server zo
    have hI2 := ref_Insert false s.removed (cs.getD k default).server zo
    have hW1 := ref_Weigh false s.weights ⟨(cs.getD k default).server, (cs.getD k default).weight, 0, ad, nu⟩ zo
    have hW2 := ref_Weigh false s.weights ⟨(cs.getD k default).server, (cs.getD k default).weight, (cs.getD k default).version, ad, nu⟩ zo
    rw [ofTStep] at hst2
    dsimp only at hst2
    repeat' (first | refine yw ?_ | ((with_reducible refine Runs.is ?_); first | refine Runs.region (id := 3) ?_ | refine Runs.region (id := 5) ?_ | refine Runs.region (id := 6) ?_ | refine Runs.region (id := 7) ?_ | refine Runs.region (id := 8) ?_ | refine Runs.region (id := 9) ?_ | refine Runs.region (id := 10) ?_ | refine Runs.region (id := 11) ?_ | refine Runs.region (id := 12) ?_ | refine Runs.region (id := 13) ?_ | refine Runs.region (id := 14) ?_ | refine Runs.region (id := 15) ?_ | refine Runs.region (id := 16) ?_ | refine Runs.region (id := 17) ?_ | refine Runs.region (id := 18) ?_ | refine Runs.region (id := 4) ?_ | ((with_reducible refine Runs.isC ?_); refine Runs.cond rfl (zc ?_) (zc ?_) <;> intro hc <;> (try (first | contradiction | (exfalso; omega; done) | (have : hc = trivial := rfl; clear this; clear hc))))) | ((with_reducible refine r_is ?_); first | refine yr ?_ | (refine r_fn rfl (hI1) HbF.h zL2 zD ?_; refine r_nn zN zH ?_) | (refine r_fn rfl (hI2) HbF.h zL2 zD ?_; refine r_nn zN zH ?_) | (refine r_fn rfl (hW1) HbF.h zL2 zD ?_; refine r_nn zN zH ?_) | (refine r_fn rfl (hW2) HbF.h zL2 zD ?_; refine r_nn zN zH ?_)) | fail)
    all_goals (refine ih (k + 1) _ zo zo ?_)
    · rw [hst2, if_pos (by assumption)]
      (refine St.Le.clean zR (by first | (simp [V.usesL, V.uses, AM.look_cons]; done) | (simp [V.usesL, V.uses, AM.look_cons, V.usesL_data, V.uses_data, da_i, da_chV, da_ruV, da_prV, da_enV, da_cfV, da_veV, da_inV, da_edV, da_grV, da_weV, da_mbV, da_suV, da_viV]; done)) ?_; (repeat' (first | exact True.intro | refine And.intro ?_ ?_)); all_goals (first | rfl | (simp [AM.look_cons, suV]; done) | (simp [V.uses, V.usesL, AM.look_cons, V.usesL_data, V.uses_data, da_i, da_chV, da_ruV, da_prV, da_enV, da_cfV, da_veV, da_inV, da_edV, da_grV, da_weV, da_mbV, da_suV, da_viV]; done)))
    · rw [hst2, if_neg zo, if_pos (by assumption)]
      (refine St.Le.clean zR (by first | (simp [V.usesL, V.uses, AM.look_cons]; done) | (simp [V.usesL, V.uses, AM.look_cons, V.usesL_data, V.uses_data, da_i, da_chV, da_ruV, da_prV, da_enV, da_cfV, da_veV, da_inV, da_edV, da_grV, da_weV, da_mbV, da_suV, da_viV]; done)) ?_; (repeat' (first | exact True.intro | refine And.intro ?_ ?_)); all_goals (first | rfl | (simp [AM.look_cons, suV]; done) | (simp [V.uses, V.usesL, AM.look_cons, V.usesL_data, V.uses_data, da_i, da_chV, da_ruV, da_prV, da_enV, da_cfV, da_veV, da_inV, da_edV, da_grV, da_weV, da_mbV, da_suV, da_viV]; done)))
    · rw [hst2, if_neg zo, if_neg zo, if_pos (by assumption)]
      (refine St.Le.clean zR (by first | (simp [V.usesL, V.uses, AM.look_cons]; done) | (simp [V.usesL, V.uses, AM.look_cons, V.usesL_data, V.uses_data, da_i, da_chV, da_ruV, da_prV, da_enV, da_cfV, da_veV, da_inV, da_edV, da_grV, da_weV, da_mbV, da_suV, da_viV]; done)) ?_; (repeat' (first | exact True.intro | refine And.intro ?_ ?_)); all_goals (first | rfl | (simp [AM.look_cons, suV]; done) | (simp [V.uses, V.usesL, AM.look_cons, V.usesL_data, V.uses_data, da_i, da_chV, da_ruV, da_prV, da_enV, da_cfV, da_veV, da_inV, da_edV, da_grV, da_weV, da_mbV, da_suV, da_viV]; done)))
    · rw [hst2, if_neg zo, if_neg zo, if_neg zo, if_pos (by assumption)]
      (refine St.Le.clean zR (by first | (simp [V.usesL, V.uses, AM.look_cons]; done) | (simp [V.usesL, V.uses, AM.look_cons, V.usesL_data, V.uses_data, da_i, da_chV, da_ruV, da_prV, da_enV, da_cfV, da_veV, da_inV, da_edV, da_grV, da_weV, da_mbV, da_suV, da_viV]; done)) ?_; (repeat' (first | exact True.intro | refine And.intro ?_ ?_)); all_goals (first | rfl | (simp [AM.look_cons, suV]; done) | (simp [V.uses, V.usesL, AM.look_cons, V.usesL_data, V.uses_data, da_i, da_chV, da_ruV, da_prV, da_enV, da_cfV, da_veV, da_inV, da_edV, da_grV, da_weV, da_mbV, da_suV, da_viV]; done)))
    · rw [hst2, if_neg zo, if_neg zo, if_neg zo, if_neg zo]
      (refine St.Le.clean zR (by first | (simp [V.usesL, V.uses, AM.look_cons]; done) | (simp [V.usesL, V.uses, AM.look_cons, V.usesL_data, V.uses_data, da_i, da_chV, da_ruV, da_prV, da_enV, da_cfV, da_veV, da_inV, da_edV, da_grV, da_weV, da_mbV, da_suV, da_viV]; done)) ?_; (repeat' (first | exact True.intro | refine And.intro ?_ ?_)); all_goals (first | rfl | (simp [AM.look_cons, suV]; done) | (simp [V.uses, V.usesL, AM.look_cons, V.usesL_data, V.uses_data, da_i, da_chV, da_ruV, da_prV, da_enV, da_cfV, da_veV, da_inV, da_edV, da_grV, da_weV, da_mbV, da_suV, da_viV]; done)))
  · have he := hend zo
    subst he
    repeat' (first | refine yw ?_ | ((with_reducible refine Runs.is ?_); first | refine Runs.region (id := 3) ?_ | ((with_reducible refine Runs.isC ?_); refine Runs.cond rfl (zc ?_) (zc ?_) <;> intro hc <;> (try (first | contradiction | (exfalso; omega; done) | (have : hc = trivial := rfl; clear this; clear hc))))) | ((with_reducible refine r_is ?_); first | refine yr ?_) | fail)
    repeat' (first | refine yw ?_ | ((with_reducible refine Runs.is ?_); first | refine Runs.region (id := 19) ?_ | ((with_reducible refine Runs.isC ?_); refine Runs.cond rfl (zc ?_) (zc ?_) <;> intro hc <;> (try (first | contradiction | (exfalso; omega; done) | (have : hc = trivial := rfl; clear this; clear hc))))) | ((with_reducible refine r_is ?_); first | refine yr ?_) | fail)
    (refine Runs.retC Tryz.func176 rfl zM rfl TyF.h (And.intro zE zd) zD ?_; try exact zX)
end Go.Proofs
namespace Go.Proofs
open Go.AM
attribute [local irreducible] AM.evalR AM.evalD AM.Runs AM.valK AM.dK AM.opK AM.stepR AM.CallS AM.St.Le
def sumTStep (s : Summary) (p : Proposal) : Summary := joinT s (ofT p)
def sumT (g : View) (c : Config) : Summary := c.foldl sumTStep (initS g)
theorem joinT_short {a b : Summary} {m n : Nat} (ha : Short a m) (hb : Short b n) : Short (joinT a b) (m + n) := by
  have h1 := foldl_len insR_len b.joined a.joined
  have h2 := foldl_len insR_len b.removed a.removed
  have h3 := foldl_len weighR_len b.weights a.weights
  obtain ⟨a1, a2, a3⟩ := ha
  obtain ⟨b1, b2, b3⟩ := hb
  exact ⟨Nat.le_trans h1 zo, Nat.le_trans h2 zo, Nat.le_trans h3 zo⟩
theorem ofT_short1 {p : Proposal} (h : p.changes.length ≤ 1000) : Short (ofT p) 1000 := by
  have := ofT_short (p := p) p.changes.length (Nat.le_refl _)
  rw [List.take_of_length_le (Nat.le_refl _)] at this
  obtain ⟨h1, h2, h3⟩ := this
  exact ⟨Nat.le_trans h1 h, Nat.le_trans h2 h, Nat.le_trans h3 h⟩
theorem sumT_short {g : View} (hg : g.members.length ≤ 1000) : ∀ (c : Config), (∀ p ∈ c, p.changes.length ≤ 1000) → Short (sumT g c) (1000 + 1000 * c.length) := by
  intro c
  have gen : ∀ (c : Config) (s : Summary) (n : Nat), Short s n → (∀ p ∈ c, p.changes.length ≤ 1000) → Short (c.foldl sumTStep s) (n + 1000 * c.length) := by
    intro c
    induction c with
    | nil => intro s n hs _; simpa using hs
    | cons p c ih =>
      intro s n hs hc
      have h1 := joinT_short hs (ofT_short1 (hc p (by simp)))
      have h2 := ih (sumTStep s p) (n + 1000) h1 (fun q hq => hc q (by simp [hq]))
      rw [List.foldl_cons, List.length_cons]
      rw [show n + 1000 * (c.length + 1) = n + 1000 + 1000 * c.length by omega]; exact h2
  exact gen c (initS g) 1000 (initS_short hg)
theorem Short.mono {s : Summary} {m n : Nat} (h : Short s m) (hmn : m ≤ n) : Short s n := ⟨Nat.le_trans h.1 hmn, Nat.le_trans h.2.1 hmn, Nat.le_trans h.2.2 hmn⟩
theorem ref_Summarize (f : Bool) (g : View) (c : Config) (hg : g.members.length ≤ 1000) (hc : c.length ≤ 100) (hp : ∀ p ∈ c, Plain p) : AM.Fn Tryz.prog 107 [viV g, .sl f (c.map prV)] (suV (sumT g c)) := by
  (refine spec_of_runs Tryz.func107 rfl ?_; simp only [Tryz.f107]; refine ys ?_)
  repeat' (first | refine yw ?_ | ((with_reducible refine Runs.is ?_); first | refine Runs.region (id := 0) ?_ | refine Runs.region (id := 1) ?_ | refine Runs.region (id := 2) ?_ | ((with_reducible refine Runs.isC ?_); refine Runs.cond rfl (zc ?_) (zc ?_) <;> intro hc <;> (try (first | contradiction | (exfalso; omega; done) | (have : hc = trivial := rfl; clear this; clear hc))))) | ((with_reducible refine r_is ?_); first | refine yr ?_ | (refine r_fn rfl (ref_Initial g zo) HbF.h zL1 zD ?_; refine r_nn zN zH ?_)) | fail)
  refine Runs.loopI (fun k : Nat => c.length - k) (fun k => k ≤ c.length)
    (fun k => ⟨[.any, .sl f (c.map prV), .any, .any, .ptr 4 0 0, .ptr 5 0 0, .i (k : Nat), .any, .any, .any, .any, .any, .any, .any, .any, .any, .any, .any, .any, .any, .any, .any, .any], [(5, .var 154 (suV (sumT g (c.take k)))), (4, .var 154 (.agg [.sc (.slice none 0 0), .sc (.slice none 0 0), .sc (.slice none 0 0), .i 0, .i 0, .i 0, .i 0, .i 0, .i 0]))]⟩) 0 (by simp) ?_ ?_
  · (refine St.Le.clean zR zU zV)
  rintro k hk ih
  have hst := fun (h : k < c.length) => foldl_take (g := sumTStep) (s := initS g) h
  have hend : c.length ≤ k → sumT g (c.take k) = sumT g c := fun h => by rw [List.take_of_length_le h]
  have hsh := sumT_short hg (c.take k) (fun p q => (hp p (List.mem_of_mem_take q)).1)
  rw [List.length_take] at hsh
  have hpl : k < c.length → Plain (c.getD k default) := fun h => hp _ (by rw [List.getD_eq_getElem?_getD, List.getElem?_eq_getElem h]; exact List.getElem_mem h)
  change k < c.length → sumT g (c.take (k + 1)) = sumTStep (sumT g (c.take k)) (c.getD k default) at hst
  generalize sumT g (c.take k) = s at hst hend hsh ⊢
  by_cases hlt : k < c.length
  · have hst2 : sumT g (c.take (k + 1)) = joinT s (ofT (c.getD k default)) := hst hlt
    have hp2 := hpl hlt
    have hOf := ref_Of (c.getD k default) (Nat.le_trans hp2.1 zd)
    have hJn := ref_Join s (ofT (c.getD k default)) (hsh.mono zo) ((ofT_short1 hp2.1).mono zd)
    generalize ofT (c.getD k default) = q at hOf hJn hst2
    repeat' (first | refine yw ?_ | ((with_reducible refine Runs.is ?_); first | refine Runs.region (id := 3) ?_ | refine Runs.drawn (id := 5) mixed zK ?_ | refine Runs.region (id := 4) ?_ | ((with_reducible refine Runs.isC ?_); refine Runs.cond rfl (zc ?_) (zc ?_) <;> intro hc <;> (try (first | contradiction | (exfalso; omega; done) | (have : hc = trivial := rfl; clear this; clear hc))))) | ((with_reducible refine r_is ?_); first | refine yr ?_) | ((with_reducible refine d_is ?_); first | refine yd ?_ | (refine d_fn rfl (hOf) HbF.h zL1 zD ?_; refine d_nn zN zH ?_) | (refine d_fn rfl (hJn) HbF.h zL2 zD ?_; refine d_nn zN zH ?_)) | fail)
    refine ih (k + 1) _ zo zo ?_
    rw [hst2]
    (refine St.Le.clean zR zU zV)
  · have he := hend zo
    subst he
    repeat' (first | refine yw ?_ | ((with_reducible refine Runs.is ?_); first | refine Runs.region (id := 3) ?_ | ((with_reducible refine Runs.isC ?_); refine Runs.cond rfl (zc ?_) (zc ?_) <;> intro hc <;> (try (first | contradiction | (exfalso; omega; done) | (have : hc = trivial := rfl; clear this; clear hc))))) | ((with_reducible refine r_is ?_); first | refine yr ?_) | fail)
    repeat' (first | refine yw ?_ | ((with_reducible refine Runs.is ?_); first | refine Runs.region (id := 6) ?_ | ((with_reducible refine Runs.isC ?_); refine Runs.cond rfl (zc ?_) (zc ?_) <;> intro hc <;> (try (first | contradiction | (exfalso; omega; done) | (have : hc = trivial := rfl; clear this; clear hc))))) | ((with_reducible refine r_is ?_); first | refine yr ?_) | fail)
    (refine Runs.retC Tryz.func107 rfl zM rfl TyF.h (And.intro zE zd) zD ?_; try exact zX)
def vAccT (R : List Int) (W : List WeightEntry) (l : List Int) : List Member := (l.filter fun x => !R.any fun y => decide (y = x)).map fun x => ⟨x, weightR W x⟩
def viewT (s : Summary) : View := ⟨vAccT s.removed s.weights s.joined, viewRule s.rule⟩
theorem vAccT_snoc (R : List Int) (W : List WeightEntry) (l : List Int) (x : Int) : vAccT R W (l ++ [x]) = vAccT R W l ++ (if (R.any fun y => decide (y = x)) = true then [] else [⟨x, weightR W x⟩]) := by
  unfold vAccT
  rw [List.filter_append, List.map_append]
  congr 1
  cases h : R.any fun y => decide (y = x) <;> simp [h]
theorem vAccT_len (R : List Int) (W : List WeightEntry) (l : List Int) : (vAccT R W l).length ≤ l.length := by
  unfold vAccT; rw [List.length_map]; exact List.length_filter_le _ _
theorem ref_View (s : Summary) (hs : s.joined.length ≤ 1000000) (hw0 : s.weights.length ≤ 1000000) : AM.Fn Tryz.prog 106 [suV s] (viV (viewT s)) := by
  have hwt := fun x => ref_weight s x hw0
  obtain ⟨J, R, W, ru, ver, adm, num⟩ := s
  dsimp only at hs hw0 hwt
  have main : ∀ r2 : Rule, viewRule ru = r2 → AM.Fn Tryz.prog 106 [suV ⟨J, R, W, ru, ver, adm, num⟩] (viV ⟨vAccT R W J, r2⟩) := by
    intro r2 hr2
    unfold viewRule at hr2
    (refine spec_of_runs Tryz.func106 rfl ?_; simp only [Tryz.f106]; refine ys ?_)
    repeat' (first | refine yw ?_ | ((with_reducible refine Runs.is ?_); first | refine Runs.region (id := 0) ?_ | refine Runs.region (id := 1) ?_ | refine Runs.region (id := 2) ?_ | refine Runs.region (id := 3) ?_ | refine Runs.region (id := 4) ?_ | ((with_reducible refine Runs.isC ?_); refine Runs.cond rfl (zc ?_) (zc ?_) <;> intro hc <;> (try (first | contradiction | (exfalso; omega; done) | (have : hc = trivial := rfl; clear this; clear hc))))) | ((with_reducible refine r_is ?_); first | refine yr ?_) | fail)
    · rw [if_pos hc] at hr2
      subst hr2
      clear hc
      refine Runs.weaken (St.Le.nilVar 50 3 0 87 2 zd rfl rfl rfl) ?_
      refine Runs.loopI (fun k : Nat => J.length - k) (fun k => k ≤ J.length)
        (fun k => ⟨[.any, .ptr 1 0 0, .ptr 2 0 0, .ptr 3 0 0, .i (k : Nat), .any, .any, .any, .any, .any, .any, .any, .any, .any, .any, .any, .any, .any, .any, .any, .any, .any, .any, .any, .any, .any, .any, .any, .any, .any, .any, .any, .any, .any, .any, .any, .any, .any, .any, .any, .any, .any, .any, .any, .any, .any, .any, .any, .any], [(50, .lst 87 2 ((vAccT R W (J.take k)).map mbV)), (3, .var 79 (.agg [.own 50, .i (⟨1, 0, 0⟩ : Rule).kind, .i (⟨1, 0, 0⟩ : Rule).columns, .i (⟨1, 0, 0⟩ : Rule).faulty])), (2, .var 79 (.agg [.sc (.slice none 0 0), .i 0, .i 0, .i 0])), (1, .var 154 (suV ⟨J, R, W, ru, ver, adm, num⟩))]⟩) 0 (by simp) ?_ ?_
      · (refine St.Le.clean zR zU zV)
      rintro k hk ih
      have hst := fun (h : k < J.length) => vAccT_snoc R W (J.take k) (J.getD k default)
      have htk := fun (h : k < J.length) => take_getD (xs := J) h
      have hend : J.length ≤ k → vAccT R W (J.take k) = vAccT R W J := fun h => by rw [List.take_of_length_le h]
      have hl : (vAccT R W (J.take k)).length ≤ 1000000 := by
        have := vAccT_len R W (J.take k)
        rw [List.length_take] at this; omega
      generalize vAccT R W (J.take k) = acc at hst hend hl ⊢
      by_cases hlt : k < J.length
      · have hst2 := hst hlt
        have htk2 := htk hlt
        have hI := ref_In false R (J.getD k default)
        have hw2 := hwt (J.getD k default)
        cases hb : R.any fun y => decide (y = J.getD k default)
        · rw [hb] at hI
          rw [if_neg (by rw [hb]; decide)] at hst2
          repeat' (first | refine yw ?_ | ((with_reducible refine Runs.is ?_); first | refine Runs.region (id := 5) ?_ | refine Runs.drawn (id := 7) mixed zK ?_ | refine Runs.region (id := 6) ?_ | ((with_reducible refine Runs.isC ?_); refine Runs.cond rfl (zc ?_) (zc ?_) <;> intro hc <;> (try (first | contradiction | (exfalso; omega; done) | (have : hc = trivial := rfl; clear this; clear hc))))) | ((with_reducible refine r_is ?_); first | refine yr ?_) | ((with_reducible refine d_is ?_); first | refine yd ?_ | (refine d_fn rfl (hI) HbF.h zL2 zD ?_; refine d_nn zN zH ?_)) | fail)
          refine Runs.drawnT [] 16 mixed zK (by decide +kernel) ?_
          dsimp only [List.take, List.drop]
          repeat' (first | (with_reducible refine And.intro (by intro a i h; cases h) ?_) | refine yw ?_ | ((with_reducible refine Runs.is ?_); first | (refine Runs.drawnT (id := 8) [] 16 mixed zK (by decide +kernel) ?_; dsimp only [List.take, List.drop]) | refine Runs.drawn (id := 8) mixed zK ?_ | ((with_reducible refine Runs.isC ?_); refine Runs.cond rfl (zc ?_) (zc ?_) <;> intro hc <;> (try (first | contradiction | (exfalso; omega; done) | (have : hc = trivial := rfl; clear this; clear hc))))) | ((with_reducible refine r_is ?_); first | refine yr ?_ | (refine r_append_full SlF.h SlF.s ZoF.h zd rfl rfl zC zJ zS rfl (fun hn => ?_) (fun hn => ?_) <;> refine r_nn zN zH ?_)) | ((with_reducible refine d_is ?_); first | refine yd ?_ | (refine d_fn rfl (hw2) HbF.h zL2 zD ?_; refine d_nn zN zH ?_)) | fail)
          refine And.intro (by intro a i h; cases h) ?_
          refine yr ?_
          repeat' (first | refine yw ?_ | ((with_reducible refine Runs.is ?_); first | refine Runs.region (id := 6) ?_ | ((with_reducible refine Runs.isC ?_); refine Runs.cond rfl (zc ?_) (zc ?_) <;> intro hc <;> (try (first | contradiction | (exfalso; omega; done) | (have : hc = trivial := rfl; clear this; clear hc))))) | ((with_reducible refine r_is ?_); first | refine yr ?_) | fail)
          refine ih (k + 1) _ zo zo ?_
          rw [htk2, hst2]
          (refine St.Le.clean zR (by first | (simp [V.usesL, V.uses, AM.look_cons]; done) | (simp [V.usesL, V.uses, AM.look_cons, V.usesL_data, V.uses_data, da_i, da_chV, da_ruV, da_prV, da_enV, da_cfV, da_veV, da_inV, da_edV, da_grV, da_weV, da_mbV, da_suV, da_viV]; done)) ?_; (repeat' (first | exact True.intro | refine And.intro ?_ ?_)); all_goals (first | rfl | (simp [AM.look_cons, mbV]; done) | (simp [V.uses, V.usesL, AM.look_cons, V.usesL_data, V.uses_data, da_i, da_chV, da_ruV, da_prV, da_enV, da_cfV, da_veV, da_inV, da_edV, da_grV, da_weV, da_mbV, da_suV, da_viV]; done)))
        · rw [hb] at hI
          rw [if_pos hb, List.append_nil] at hst2
          repeat' (first | refine yw ?_ | ((with_reducible refine Runs.is ?_); first | refine Runs.region (id := 5) ?_ | refine Runs.drawn (id := 7) mixed zK ?_ | refine Runs.region (id := 6) ?_ | ((with_reducible refine Runs.isC ?_); refine Runs.cond rfl (zc ?_) (zc ?_) <;> intro hc <;> (try (first | contradiction | (exfalso; omega; done) | (have : hc = trivial := rfl; clear this; clear hc))))) | ((with_reducible refine r_is ?_); first | refine yr ?_) | ((with_reducible refine d_is ?_); first | refine yd ?_ | (refine d_fn rfl (hI) HbF.h zL2 zD ?_; refine d_nn zN zH ?_)) | fail)
          repeat' (first | refine yw ?_ | ((with_reducible refine Runs.is ?_); first | refine Runs.region (id := 6) ?_ | ((with_reducible refine Runs.isC ?_); refine Runs.cond rfl (zc ?_) (zc ?_) <;> intro hc <;> (try (first | contradiction | (exfalso; omega; done) | (have : hc = trivial := rfl; clear this; clear hc))))) | ((with_reducible refine r_is ?_); first | refine yr ?_) | fail)
          refine ih (k + 1) _ zo zo ?_
          rw [htk2, hst2]
          (refine St.Le.clean zR zU zV)
      · have he := hend zo
        subst he
        repeat' (first | refine yw ?_ | ((with_reducible refine Runs.is ?_); first | refine Runs.region (id := 5) ?_ | ((with_reducible refine Runs.isC ?_); refine Runs.cond rfl (zc ?_) (zc ?_) <;> intro hc <;> (try (first | contradiction | (exfalso; omega; done) | (have : hc = trivial := rfl; clear this; clear hc))))) | ((with_reducible refine r_is ?_); first | refine yr ?_) | fail)
        repeat' (first | refine yw ?_ | ((with_reducible refine Runs.is ?_); first | refine Runs.region (id := 9) ?_ | ((with_reducible refine Runs.isC ?_); refine Runs.cond rfl (zc ?_) (zc ?_) <;> intro hc <;> (try (first | contradiction | (exfalso; omega; done) | (have : hc = trivial := rfl; clear this; clear hc))))) | ((with_reducible refine r_is ?_); first | refine yr ?_) | fail)
        (refine Runs.weaken (St.Le.freeze_lst 50 rfl) ?_; refine yf ?_)
        (refine Runs.retC Tryz.func106 rfl zM rfl TyF.h (And.intro zE zd) zD ?_; try exact zX)
    · rw [if_neg hc] at hr2
      subst hr2
      clear hc
      refine Runs.weaken (St.Le.nilVar 50 3 0 87 2 zd rfl rfl rfl) ?_
      refine Runs.loopI (fun k : Nat => J.length - k) (fun k => k ≤ J.length)
        (fun k => ⟨[.any, .ptr 1 0 0, .ptr 2 0 0, .ptr 3 0 0, .i (k : Nat), .any, .any, .any, .any, .any, .any, .any, .any, .any, .any, .any, .any, .any, .any, .any, .any, .any, .any, .any, .any, .any, .any, .any, .any, .any, .any, .any, .any, .any, .any, .any, .any, .any, .any, .any, .any, .any, .any, .any, .any, .any, .any, .any, .any], [(50, .lst 87 2 ((vAccT R W (J.take k)).map mbV)), (3, .var 79 (.agg [.own 50, .i ru.kind, .i ru.columns, .i ru.faulty])), (2, .var 79 (.agg [.sc (.slice none 0 0), .i 0, .i 0, .i 0])), (1, .var 154 (suV ⟨J, R, W, ru, ver, adm, num⟩))]⟩) 0 (by simp) ?_ ?_
      · (refine St.Le.clean zR zU zV)
      rintro k hk ih
      have hst := fun (h : k < J.length) => vAccT_snoc R W (J.take k) (J.getD k default)
      have htk := fun (h : k < J.length) => take_getD (xs := J) h
      have hend : J.length ≤ k → vAccT R W (J.take k) = vAccT R W J := fun h => by rw [List.take_of_length_le h]
      have hl : (vAccT R W (J.take k)).length ≤ 1000000 := by
        have := vAccT_len R W (J.take k)
        rw [List.length_take] at this; omega
      generalize vAccT R W (J.take k) = acc at hst hend hl ⊢
      by_cases hlt : k < J.length
      · have hst2 := hst hlt
        have htk2 := htk hlt
        have hI := ref_In false R (J.getD k default)
        have hw2 := hwt (J.getD k default)
        cases hb : R.any fun y => decide (y = J.getD k default)
        · rw [hb] at hI
          rw [if_neg (by rw [hb]; decide)] at hst2
          repeat' (first | refine yw ?_ | ((with_reducible refine Runs.is ?_); first | refine Runs.region (id := 5) ?_ | refine Runs.drawn (id := 7) mixed zK ?_ | refine Runs.region (id := 6) ?_ | ((with_reducible refine Runs.isC ?_); refine Runs.cond rfl (zc ?_) (zc ?_) <;> intro hc <;> (try (first | contradiction | (exfalso; omega; done) | (have : hc = trivial := rfl; clear this; clear hc))))) | ((with_reducible refine r_is ?_); first | refine yr ?_) | ((with_reducible refine d_is ?_); first | refine yd ?_ | (refine d_fn rfl (hI) HbF.h zL2 zD ?_; refine d_nn zN zH ?_)) | fail)
          refine Runs.drawnT [] 16 mixed zK (by decide +kernel) ?_
          dsimp only [List.take, List.drop]
          repeat' (first | (with_reducible refine And.intro (by intro a i h; cases h) ?_) | refine yw ?_ | ((with_reducible refine Runs.is ?_); first | (refine Runs.drawnT (id := 8) [] 16 mixed zK (by decide +kernel) ?_; dsimp only [List.take, List.drop]) | refine Runs.drawn (id := 8) mixed zK ?_ | ((with_reducible refine Runs.isC ?_); refine Runs.cond rfl (zc ?_) (zc ?_) <;> intro hc <;> (try (first | contradiction | (exfalso; omega; done) | (have : hc = trivial := rfl; clear this; clear hc))))) | ((with_reducible refine r_is ?_); first | refine yr ?_ | (refine r_append_full SlF.h SlF.s ZoF.h zd rfl rfl zC zJ zS rfl (fun hn => ?_) (fun hn => ?_) <;> refine r_nn zN zH ?_)) | ((with_reducible refine d_is ?_); first | refine yd ?_ | (refine d_fn rfl (hw2) HbF.h zL2 zD ?_; refine d_nn zN zH ?_)) | fail)
          refine And.intro (by intro a i h; cases h) ?_
          refine yr ?_
          repeat' (first | refine yw ?_ | ((with_reducible refine Runs.is ?_); first | refine Runs.region (id := 6) ?_ | ((with_reducible refine Runs.isC ?_); refine Runs.cond rfl (zc ?_) (zc ?_) <;> intro hc <;> (try (first | contradiction | (exfalso; omega; done) | (have : hc = trivial := rfl; clear this; clear hc))))) | ((with_reducible refine r_is ?_); first | refine yr ?_) | fail)
          refine ih (k + 1) _ zo zo ?_
          rw [htk2, hst2]
          (refine St.Le.clean zR (by first | (simp [V.usesL, V.uses, AM.look_cons]; done) | (simp [V.usesL, V.uses, AM.look_cons, V.usesL_data, V.uses_data, da_i, da_chV, da_ruV, da_prV, da_enV, da_cfV, da_veV, da_inV, da_edV, da_grV, da_weV, da_mbV, da_suV, da_viV]; done)) ?_; (repeat' (first | exact True.intro | refine And.intro ?_ ?_)); all_goals (first | rfl | (simp [AM.look_cons, mbV]; done) | (simp [V.uses, V.usesL, AM.look_cons, V.usesL_data, V.uses_data, da_i, da_chV, da_ruV, da_prV, da_enV, da_cfV, da_veV, da_inV, da_edV, da_grV, da_weV, da_mbV, da_suV, da_viV]; done)))
        · rw [hb] at hI
          rw [if_pos hb, List.append_nil] at hst2
          repeat' (first | refine yw ?_ | ((with_reducible refine Runs.is ?_); first | refine Runs.region (id := 5) ?_ | refine Runs.drawn (id := 7) mixed zK ?_ | refine Runs.region (id := 6) ?_ | ((with_reducible refine Runs.isC ?_); refine Runs.cond rfl (zc ?_) (zc ?_) <;> intro hc <;> (try (first | contradiction | (exfalso; omega; done) | (have : hc = trivial := rfl; clear this; clear hc))))) | ((with_reducible refine r_is ?_); first | refine yr ?_) | ((with_reducible refine d_is ?_); first | refine yd ?_ | (refine d_fn rfl (hI) HbF.h zL2 zD ?_; refine d_nn zN zH ?_)) | fail)
          repeat' (first | refine yw ?_ | ((with_reducible refine Runs.is ?_); first | refine Runs.region (id := 6) ?_ | ((with_reducible refine Runs.isC ?_); refine Runs.cond rfl (zc ?_) (zc ?_) <;> intro hc <;> (try (first | contradiction | (exfalso; omega; done) | (have : hc = trivial := rfl; clear this; clear hc))))) | ((with_reducible refine r_is ?_); first | refine yr ?_) | fail)
          refine ih (k + 1) _ zo zo ?_
          rw [htk2, hst2]
          (refine St.Le.clean zR zU zV)
      · have he := hend zo
        subst he
        repeat' (first | refine yw ?_ | ((with_reducible refine Runs.is ?_); first | refine Runs.region (id := 5) ?_ | ((with_reducible refine Runs.isC ?_); refine Runs.cond rfl (zc ?_) (zc ?_) <;> intro hc <;> (try (first | contradiction | (exfalso; omega; done) | (have : hc = trivial := rfl; clear this; clear hc))))) | ((with_reducible refine r_is ?_); first | refine yr ?_) | fail)
        repeat' (first | refine yw ?_ | ((with_reducible refine Runs.is ?_); first | refine Runs.region (id := 9) ?_ | ((with_reducible refine Runs.isC ?_); refine Runs.cond rfl (zc ?_) (zc ?_) <;> intro hc <;> (try (first | contradiction | (exfalso; omega; done) | (have : hc = trivial := rfl; clear this; clear hc))))) | ((with_reducible refine r_is ?_); first | refine yr ?_) | fail)
        (refine Runs.weaken (St.Le.freeze_lst 50 rfl) ?_; refine yf ?_)
        (refine Runs.retC Tryz.func106 rfl zM rfl TyF.h (And.intro zE zd) zD ?_; try exact zX)
  exact main _ rfl
theorem ref_ViewOf (f : Bool) (g : View) (c : Config) (hg : g.members.length ≤ 1000) (hc : c.length ≤ 100) (hp : ∀ p ∈ c, Plain p) : AM.Fn Tryz.prog 43 [viV g, .sl f (c.map prV)] (viV (viewT (sumT g c))) := by
  have hsh := sumT_short hg c (fun p q => (hp p q).1)
  obtain ⟨h1, h2, h3⟩ := hsh
  have hV := ref_View (sumT g c) zo zo
  (refine spec_of_runs Tryz.func43 rfl ?_; simp only [Tryz.f43]; refine ys ?_)
  repeat' (first | refine yw ?_ | ((with_reducible refine Runs.is ?_); first | refine Runs.region ?_ | ((with_reducible refine Runs.isC ?_); refine Runs.cond rfl (zc ?_) (zc ?_) <;> intro hc <;> (try (first | contradiction | (exfalso; omega; done) | (have : hc = trivial := rfl; clear this; clear hc))))) | ((with_reducible refine r_is ?_); first | refine yr ?_ | (refine r_fn rfl (ref_Summarize f g c hg hc hp) HbF.h zL2 zD ?_; refine r_nn zN zH ?_) | (refine r_fn rfl (hV) HbF.h zL1 zD ?_; refine r_nn zN zH ?_)) | fail)
  (refine Runs.retC Tryz.func43 rfl zM rfl TyF.h (And.intro zE zd) zD ?_; try exact zX)
end Go.Proofs
namespace Go.Proofs
open Go.AM
attribute [local irreducible] AM.evalR AM.evalD AM.Runs AM.valK AM.dK AM.opK AM.stepR AM.CallS AM.St.Le
def cntR (c : Config) (a : Int) : Int := countR (vectorR c) a
def vec3 (i j k : Int) : Vector := withR (withR (withR [] 201 i) 202 j) 203 k
def allK (a b : Config) (i j : Int) : List Config := (upto (cntR a 203) (cntR b 203)).map fun k => restrictR b (vec3 i j k)
def allJ (a b : Config) (i : Int) : List Config := (upto (cntR a 202) (cntR b 202)).flatMap fun j => allK a b i j
def allR (a b : Config) : List Config := if containsR b a then (upto (cntR a 201) (cntR b 201)).flatMap fun i => allJ a b i else []
end Go.Proofs
namespace Go.Proofs
open Go.AM
attribute [local irreducible] AM.evalR AM.evalD AM.Runs AM.valK AM.dK AM.opK AM.stepR AM.CallS AM.St.Le
theorem kit_Pool (f : Bool) (l : List Int) (hl : l.length ≤ 4611686018427387904) : AM.Fn Tryz.prog 24 [.sl f (l.map .i)] (.sl false ((poolI l).map prV)) := by
  (refine spec_of_runs Tryz.func24 rfl ?_; simp only [Tryz.f24]; refine ys ?_)
  repeat' (first | refine yw ?_ | ((with_reducible refine Runs.is ?_); first | refine Runs.region (id := 0) ?_ | refine Runs.region (id := 1) ?_ | refine Runs.region (id := 2) ?_ | refine Runs.region (id := 3) ?_ | ((with_reducible refine Runs.isC ?_); refine Runs.cond rfl (zc ?_) (zc ?_) <;> intro hc <;> (try (first | contradiction | (exfalso; omega; done) | (have : hc = trivial := rfl; clear this; clear hc))))) | ((with_reducible refine r_is ?_); first | refine yr ?_) | fail)
  (refine Runs.weaken (St.Le.nil 3 129 3 3 zd rfl rfl zE) ?_)
  refine Runs.loopI (fun a : Nat => 3 - a) (fun a => a ≤ 3)
    (fun a => ⟨[.sl f (l.map .i), .any, .any, .own 3, .i (poolUpto l a).2, .i (a : Nat), .any, .any, .any, .any, .any, .any, .any, .any, .any, .any, .any, .any, .any, .any, .any, .any, .any, .any, .any, .any, .any, .any, .any, .any, .any, .any, .any, .any, .any, .any, .any, .any, .any, .any, .any, .any, .any, .any, .any, .any, .any, .any, .any, .any, .any, .any, .any, .any, .any, .any, .any, .any, .any, .any, .any, .any, .any, .any, .any, .any, .any, .any, .any, .any, .any, .any, .any, .any], [(3, .lst 129 3 ((poolUpto l a).1.map prV))]⟩) 0 (by simp) ?_ ?_
  · (refine St.Le.clean zR zU zV)
  rintro a h0 ih
  have hb := poolUpto_bd l a
  by_cases ha : a < 3
  · repeat' (first | refine yw ?_ | ((with_reducible refine Runs.is ?_); first | refine Runs.region (id := 4) ?_ | refine Runs.region (id := 6) ?_ | refine Runs.region (id := 5) ?_ | ((with_reducible refine Runs.isC ?_); refine Runs.cond rfl (zc ?_) (zc ?_) <;> intro hc <;> (try (first | contradiction | (exfalso; omega; done) | (have : hc = trivial := rfl; clear this; clear hc))))) | ((with_reducible refine r_is ?_); first | refine yr ?_) | fail)
    refine Runs.loopI (fun i : Nat => cntI l a - i) (fun i => i ≤ cntI l a)
      (fun i => ⟨[.sl f (l.map .i), .any, .any, .own 3, .i ((poolUpto l a).2 + 2 * i), .i (a : Nat), .i (i : Nat), .any, .any, .any, .any, .any, .any, .any, .any, .any, .any, .any, .any, .any, .any, .any, .any, .any, .any, .any, .any, .any, .any, .any, .any, .any, .any, .any, .any, .any, .any, .any, .any, .any, .any, .any, .any, .any, .any, .any, .any, .any, .any, .any, .any, .any, .any, .any, .any, .any, .any, .any, .any, .any, .any, .any, .any, .any, .any, .any, .any, .any, .any, .any, .any, .any, .any, .any], [(3, .lst 129 3 (((poolUpto l a).1 ++ groupI l a (poolUpto l a).2 i).map prV))]⟩) 0 (by simp) ?_ ?_
    · rw [show groupI l a (poolUpto l a).2 0 = [] from rfl, List.append_nil, show (poolUpto l a).2 + 2 * ((0:Nat):Int) = (poolUpto l a).2 by omega]
      (refine St.Le.clean zR zU zV)
    rintro i h1 ihi
    have hc0 := cntI_bd l a
    have hgl : ((poolUpto l a).1 ++ groupI l a (poolUpto l a).2 i).length ≤ 20 := by
      rw [List.length_append, groupI, List.length_map, List.length_range]; omega
    have hst : (poolUpto l a).1 ++ groupI l a (poolUpto l a).2 (i + 1) = ((poolUpto l a).1 ++ groupI l a (poolUpto l a).2 i) ++ [propI l a i ((poolUpto l a).2 + 2 * i)] := by
      rw [groupI_succ, List.append_assoc]
    have hE1 : digitI (atI l ((poolUpto l a).2 + 2 * i)) 2 12 = 1 → (changeI (atI l ((poolUpto l a).2 + 2 * i + 1))).kind = (changeI (atI l ((poolUpto l a).2 + 2 * i))).kind → ¬ (changeI (atI l ((poolUpto l a).2 + 2 * i + 1))).server = (changeI (atI l ((poolUpto l a).2 + 2 * i))).server → extra l ((poolUpto l a).2 + 2 * i) = true := fun h1 h2 h3 => by unfold extra; simp [h1, h2, h3]
    have hE2 : digitI (atI l ((poolUpto l a).2 + 2 * i)) 2 12 = 1 → (changeI (atI l ((poolUpto l a).2 + 2 * i + 1))).kind = (changeI (atI l ((poolUpto l a).2 + 2 * i))).kind → (changeI (atI l ((poolUpto l a).2 + 2 * i + 1))).server = (changeI (atI l ((poolUpto l a).2 + 2 * i))).server → extra l ((poolUpto l a).2 + 2 * i) = false := fun h1 h2 h3 => by unfold extra; simp [h1, h2, h3]
    have hE3 : digitI (atI l ((poolUpto l a).2 + 2 * i)) 2 12 = 1 → ¬ (changeI (atI l ((poolUpto l a).2 + 2 * i + 1))).kind = (changeI (atI l ((poolUpto l a).2 + 2 * i))).kind → extra l ((poolUpto l a).2 + 2 * i) = true := fun h1 h2 => by unfold extra; simp [h1, h2]
    have hE4 : ¬ digitI (atI l ((poolUpto l a).2 + 2 * i)) 2 12 = 1 → extra l ((poolUpto l a).2 + 2 * i) = false := fun h1 => by unfold extra; simp [h1]
    have hat : (poolUpto l a).2 + 2 * ((i + 1 : Nat) : Int) = (poolUpto l a).2 + 2 * i + 2 := by omega
    generalize hacc : (poolUpto l a).1 ++ groupI l a (poolUpto l a).2 i = acc at hgl hst ⊢
    repeat' (first | refine yw ?_ | ((with_reducible refine Runs.is ?_); first | refine Runs.region (id := 7) ?_ | refine Runs.region (id := 9) ?_ | refine Runs.region (id := 10) ?_ | refine Runs.region (id := 8) ?_ | ((with_reducible refine Runs.isC ?_); refine Runs.cond rfl (zc ?_) (zc ?_) <;> intro hc <;> (try (first | contradiction | (exfalso; omega; done) | (have : hc = trivial := rfl; clear this; clear hc))))) | ((with_reducible refine r_is ?_); first | refine yrb ?_ | (refine r_buildOwn (D := 29) SlF.h ZoF.h zd zB zd rfl ?_; refine r_nn zN zH ?_) | (refine r_build SlF.h ZoF.h zd zB ?_; refine r_n zN ?_) | (refine r_fn rfl (kit_At f l _ hl) HbF.h zL2 zD ?_; refine r_nn zN zH ?_) | (refine r_fn rfl (kit_Digit _ 4 0 zd zd) HbF.h zL3 zD ?_; refine r_nn zN zH ?_) | (refine r_fn rfl (kit_Change _) HbF.h zL1 zD ?_; refine r_nn zN zH ?_)) | fail)
    · repeat' (first | refine yw ?_ | ((with_reducible refine Runs.is ?_); first | refine Runs.drawn (id := 11) mixed zK ?_ | refine Runs.region (id := 12) ?_ | ((with_reducible refine Runs.isC ?_); refine Runs.cond rfl (zc ?_) (zc ?_) <;> intro hc <;> (try (first | contradiction | (exfalso; omega; done) | (have : hc = trivial := rfl; clear this; clear hc))))) | ((with_reducible refine r_is ?_); first | refine yr ?_ | (refine r_append_full SlF.h SlF.s ZoF.h zd rfl rfl zC zJ zS rfl (fun hn => ?_) (fun hn => ?_) <;> refine r_nn zN zH ?_)) | ((with_reducible refine d_is ?_); first | refine yd ?_ | (refine d_fn rfl (kit_At f l _ hl) HbF.h zL2 zD ?_; refine d_nn zN zH ?_) | (refine d_fn rfl (kit_Digit _ 2 12 zd zd) HbF.h zL3 zD ?_; refine d_nn zN zH ?_) | ((with_reducible refine d_gd ?_); (first | refine d_guardPf rfl rfl ?_ ?_ | refine d_guardNf rfl rfl ?_ ?_ | refine d_guardPt rfl rfl ?_ ?_ | refine d_guardNt rfl rfl ?_ ?_ | refine d_guard rfl rfl ?_ ?_) <;> intro hG <;> (try (exfalso; omega; done)) <;> refine d_nn zN zH ?_)) | fail)
      all_goals ((refine Runs.weaken (St.Le.freeze_lst 29 rfl) ?_; refine yf ?_))
      all_goals
        repeat' (first | refine yw ?_ | ((with_reducible refine Runs.is ?_); first | refine Runs.region (id := 9) ?_ | refine Runs.region (id := 10) ?_ | refine Runs.drawn (id := 11) mixed zK ?_ | refine Runs.region (id := 12) ?_ | refine Runs.region (id := 13) ?_ | refine Runs.region (id := 14) ?_ | refine Runs.region (id := 8) ?_ | ((with_reducible refine Runs.isC ?_); refine Runs.cond rfl (zc ?_) (zc ?_) <;> intro hc <;> (try (first | contradiction | (exfalso; omega; done) | (have : hc = trivial := rfl; clear this; clear hc))))) | ((with_reducible refine r_is ?_); first | refine yr ?_ | (refine r_append_full SlF.h SlF.s ZoF.h zd rfl rfl zC zJ zS rfl (fun hn => ?_) (fun hn => ?_) <;> refine r_nn zN zH ?_)) | ((with_reducible refine d_is ?_); first | refine yd ?_ | ((with_reducible refine d_gd ?_); (first | refine d_guardPf rfl rfl ?_ ?_ | refine d_guardNf rfl rfl ?_ ?_ | refine d_guardPt rfl rfl ?_ ?_ | refine d_guardNt rfl rfl ?_ ?_ | refine d_guard rfl rfl ?_ ?_) <;> intro hG <;> (try (exfalso; omega; done)) <;> refine d_nn zN zH ?_)) | fail)
      all_goals (refine ihi (i + 1) _ zo zo ?_)
      all_goals (rw [hst])
      all_goals (rw [hat, propI])
      all_goals (first | rw [hE1 (by assumption) (by assumption) (by assumption), if_pos rfl] | rw [hE2 (by assumption) (by assumption) (by assumption), if_neg Bool.false_ne_true] | rw [hE3 (by assumption) (by assumption), if_pos rfl] | rw [hE4 (by assumption), if_neg Bool.false_ne_true])
      all_goals (clear hE1 hE2 hE3 hE4)
      all_goals ((refine St.Le.clean zR (by first | (simp [V.usesL, V.uses, AM.look_cons]; done) | (simp [V.usesL, V.uses, AM.look_cons, V.usesL_data, V.uses_data, da_i, da_chV, da_ruV, da_prV, da_enV, da_cfV, da_veV, da_inV, da_edV, da_grV, da_weV, da_mbV, da_suV, da_viV]; done)) ?_; (repeat' (first | exact True.intro | refine And.intro ?_ ?_)); all_goals (first | rfl | (simp [AM.look_cons, prV, chV]; done) | (simp [V.uses, V.usesL, AM.look_cons, V.usesL_data, V.uses_data, da_i, da_chV, da_ruV, da_prV, da_enV, da_cfV, da_veV, da_inV, da_edV, da_grV, da_weV, da_mbV, da_suV, da_viV]; done))))
    · have hi : i = cntI l a := by omega
      subst hi
      repeat' (first | refine yw ?_ | ((with_reducible refine Runs.is ?_); first | refine Runs.region (id := 6) ?_ | refine Runs.region (id := 5) ?_ | ((with_reducible refine Runs.isC ?_); refine Runs.cond rfl (zc ?_) (zc ?_) <;> intro hc <;> (try (first | contradiction | (exfalso; omega; done) | (have : hc = trivial := rfl; clear this; clear hc))))) | ((with_reducible refine r_is ?_); first | refine yr ?_) | fail)
      refine ih (a + 1) _ zo zo ?_
      rw [show poolUpto l (a + 1) = ((poolUpto l a).1 ++ groupI l a (poolUpto l a).2 (cntI l a), (poolUpto l a).2 + 2 * cntI l a) from rfl]
      dsimp only
      rw [hacc]
      (refine St.Le.clean zR zU zV)
  · have : a = 3 := by omega
    subst this
    repeat' (first | refine yw ?_ | ((with_reducible refine Runs.is ?_); first | refine Runs.region (id := 4) ?_ | ((with_reducible refine Runs.isC ?_); refine Runs.cond rfl (zc ?_) (zc ?_) <;> intro hc <;> (try (first | contradiction | (exfalso; omega; done) | (have : hc = trivial := rfl; clear this; clear hc))))) | ((with_reducible refine r_is ?_); first | refine yr ?_) | fail)
    repeat' (first | refine yw ?_ | ((with_reducible refine Runs.is ?_); first | refine Runs.region (id := 15) ?_ | ((with_reducible refine Runs.isC ?_); refine Runs.cond rfl (zc ?_) (zc ?_) <;> intro hc <;> (try (first | contradiction | (exfalso; omega; done) | (have : hc = trivial := rfl; clear this; clear hc))))) | ((with_reducible refine r_is ?_); first | refine yr ?_) | fail)
    refine Runs.ret_frz Tryz.func24 rfl rfl rfl ?_
    rfl
end Go.Proofs
namespace Go.Proofs
open Go.AM
attribute [local irreducible] AM.evalR AM.evalD AM.Runs AM.valK AM.dK AM.opK AM.stepR AM.CallS AM.St.Le
def blk (f : Nat → Nat → Proposal) (a n : Nat) : Config := (List.range n).map (f a)
def cut (f : Nat → Nat → Proposal) (i j k : Nat) : Config := blk f 0 i ++ blk f 1 j ++ blk f 2 k
def Nice (f : Nat → Nat → Proposal) : Prop := ∀ a i, (f a i).admin = 201 + a ∧ (f a i).number = i + 1
def IsCut (f : Nat → Nat → Proposal) (c : Config) : Prop := ∃ i j k, (i < 4 ∧ j < 4 ∧ k < 4) ∧ c = cut f i j k
def key (p : Proposal) : Proposal := ⟨p.admin, p.number, []⟩
def f0 (a i : Nat) : Proposal := ⟨201 + a, i + 1, []⟩
theorem key_nice {f : Nat → Nat → Proposal} (hf : Nice f) (a i : Nat) : key (f a i) = f0 a i := by
  unfold key f0; rw [(hf a i).1, (hf a i).2]
theorem cut_key {f : Nat → Nat → Proposal} (hf : Nice f) (i j k : Nat) : (cut f i j k).map key = cut f0 i j k := by
  simp only [cut, blk, List.map_append, List.map_map]
  congr 1
  · congr 1 <;> exact List.map_congr_left fun n _ => key_nice hf _ n
  · exact List.map_congr_left fun n _ => key_nice hf _ n
theorem cmpP_key (p q : Proposal) : cmpP (key p) (key q) = cmpP p q := rfl
theorem getD_key (c : Config) (i : Nat) (h : i < c.length) : (c.map key).getD i default = key (c.getD i default) := by
  simp [List.getD_eq_getElem?_getD, h]
theorem bs_congr {k k' : Nat → Int} {i j : Nat} (h : ∀ n, i ≤ n → n < j → k n = k' n) : bs k i j = bs k' i j := by
  induction hn : j - i using Nat.strongRecOn generalizing i j with
  | _ n ih =>
    unfold bs
    by_cases hij : i < j
    · rw [dif_pos hij, dif_pos hij, h ((i + j) / 2) zo zo]
      split
      · exact ih (j - ((i + j) / 2 + 1)) zo (fun n h1 h2 => h n zo h2) rfl
      · exact ih ((i + j) / 2 - i) zo (fun n h1 h2 => h n h1 zo) rfl
    · rw [dif_neg hij, dif_neg hij]
theorem hasB_key (c : Config) (p : Proposal) : hasB (c.map key) (key p) = hasB c p := by
  have e : bs (fun i => cmpP ((c.map key).getD i default) (key p)) 0 (c.map key).length = bs (fun i => cmpP (c.getD i default) p) 0 c.length := by
    rw [List.length_map]
    refine bs_congr fun n _ hn => ?_
    rw [getD_key c n hn, cmpP_key]
  unfold hasB
  dsimp only
  rw [e, List.length_map]
  by_cases h : bs (fun i => cmpP (c.getD i default) p) 0 c.length < c.length
  · rw [getD_key c _ h, cmpP_key]
  · rw [decide_eq_false (fun x => h x.1), decide_eq_false (fun x => h x.1)]
theorem hasR_key (c : Config) (p : Proposal) : hasR (c.map key) (key p) = hasR c p := by
  unfold hasR; rw [List.any_map]; rfl
theorem vectorV_key (c : Config) : vectorV (c.map key) = vectorV c := by
  unfold vectorV; rw [List.foldl_map]; rfl
theorem vectorR_key (c : Config) : vectorR (c.map key) = vectorR c := by
  unfold vectorR; rw [List.foldl_map]; rfl
def sel (i j k a : Nat) : Nat := if a = 0 then i else if a = 1 then j else k
theorem has_fin : ∀ i j k : Fin 4, ∀ a n : Fin 3, hasB (cut f0 i j k) (f0 a n) = decide (n.val < sel i j k a) ∧ hasR (cut f0 i j k) (f0 a n) = decide (n.val < sel i j k a) := by decide +kernel
theorem has_cut {f : Nat → Nat → Proposal} (hf : Nice f) {i j k : Nat} (h : i < 4 ∧ j < 4 ∧ k < 4) {a n : Nat} (ha : a < 3) (hn : n < 3) : hasB (cut f i j k) (f a n) = decide (n < sel i j k a) ∧ hasR (cut f i j k) (f a n) = decide (n < sel i j k a) := by
  rw [← hasB_key, ← hasR_key, cut_key hf, key_nice hf]
  exact has_fin ⟨i, h.1⟩ ⟨j, h.2.1⟩ ⟨k, h.2.2⟩ ⟨a, ha⟩ ⟨n, hn⟩
theorem all_blk {f : Nat → Nat → Proposal} {g : Proposal → Bool} {a m n : Nat} (hm : m ≤ 3) (h : ∀ i, i < 3 → g (f a i) = decide (i < n)) : (blk f a m).all g = decide (m ≤ n) := by
  rw [Bool.eq_iff_iff, List.all_eq_true, decide_eq_true_eq]
  simp only [blk, List.mem_map, List.mem_range]
  constructor
  · intro hx
    rcases Nat.lt_or_ge n m with h1 | h1
    · have := hx _ ⟨n, h1, rfl⟩
      rw [h n zo, decide_eq_true_eq] at this
      omega
    · exact h1
  · rintro hmn x ⟨i, hi, rfl⟩
    rw [h i zo, decide_eq_true_eq]; omega
theorem contains_cut {f : Nat → Nat → Proposal} (hf : Nice f) {i j k i' j' k' : Nat} (h : i < 4 ∧ j < 4 ∧ k < 4) (h' : i' < 4 ∧ j' < 4 ∧ k' < 4) :
    containsB (cut f i j k) (cut f i' j' k') = decide (i' ≤ i ∧ j' ≤ j ∧ k' ≤ k) ∧ containsR (cut f i j k) (cut f i' j' k') = decide (i' ≤ i ∧ j' ≤ j ∧ k' ≤ k) := by
  constructor
  · rw [containsB, show cut f i' j' k' = blk f 0 i' ++ blk f 1 j' ++ blk f 2 k' from rfl, List.all_append, List.all_append,
      all_blk zo (fun n hn => (has_cut hf h zd hn).1), all_blk zo (fun n hn => (has_cut hf h zd hn).1), all_blk zo (fun n hn => (has_cut hf h zd hn).1)]
    simp [sel, Bool.and_assoc]
  · rw [containsR, show cut f i' j' k' = blk f 0 i' ++ blk f 1 j' ++ blk f 2 k' from rfl, List.all_append, List.all_append,
      all_blk zo (fun n hn => (has_cut hf h zd hn).2), all_blk zo (fun n hn => (has_cut hf h zd hn).2), all_blk zo (fun n hn => (has_cut hf h zd hn).2)]
    simp [sel, Bool.and_assoc]
def vecC (i j k : Nat) : Vector := (if 0 < i then [⟨201, i⟩] else []) ++ (if 0 < j then [⟨202, j⟩] else []) ++ (if 0 < k then [⟨203, k⟩] else [])
theorem vec_fin : ∀ i j k : Fin 4, vectorV (cut f0 i j k) = vecC i j k ∧ vectorR (cut f0 i j k) = vecC i j k ∧ vec3 (i : Nat) (j : Nat) (k : Nat) = vecC i j k ∧ (getV (vecC i j k) 201 = (i : Nat) ∧ getV (vecC i j k) 202 = (j : Nat) ∧ getV (vecC i j k) 203 = (k : Nat)) ∧ countR (vecC i j k) 201 = (i : Nat) ∧ countR (vecC i j k) 202 = (j : Nat) ∧ countR (vecC i j k) 203 = (k : Nat) := by decide +kernel
theorem vec_cut {f : Nat → Nat → Proposal} (hf : Nice f) {i j k : Nat} (h : i < 4 ∧ j < 4 ∧ k < 4) : vectorV (cut f i j k) = vecC i j k ∧ vectorR (cut f i j k) = vecC i j k := by
  rw [← vectorV_key, ← vectorR_key, cut_key hf]
  have := vec_fin ⟨i, h.1⟩ ⟨j, h.2.1⟩ ⟨k, h.2.2⟩
  exact ⟨this.1, this.2.1⟩
def vlist (i j k i' j' k' : Nat) : List Vector := (upto i i').flatMap fun a => (upto j j').flatMap fun b => (upto k k').map fun c => vec3 a b c
theorem vectors_fin : ∀ i j k i' j' k' : Fin 4, i ≤ i' → j ≤ j' → k ≤ k' → vectorsV (vecC i j k) (vecC i' j' k') = vlist i j k i' j' k' := by decide +kernel
theorem filter_range (m n : Nat) : ((List.range m).filter fun i => decide (i < n)) = List.range (min m n) := by
  induction m with
  | zero => simp
  | succ m ih =>
    rw [List.range_succ, List.filter_append, ih]
    by_cases h : m < n
    · rw [show min (m + 1) n = m + 1 by omega, show min m n = m by omega, List.range_succ]; simp [h]
    · rw [show min (m + 1) n = n by omega, show min m n = n by omega]; simp [h]
theorem filter_blk {f : Nat → Nat → Proposal} {g : Proposal → Bool} {a n m : Nat} (h : ∀ i, i < m → g (f a i) = decide (i < n)) : (blk f a m).filter g = blk f a (min m n) := by
  unfold blk
  rw [List.filter_map, ← filter_range]
  congr 1
  refine List.filter_congr fun i hi => ?_
  exact h i (List.mem_range.1 hi)
theorem filter_cut {f : Nat → Nat → Proposal} {g : Proposal → Bool} {i j k i' j' k' : Nat} (h1 : ∀ n, n < i → g (f 0 n) = decide (n < i')) (h2 : ∀ n, n < j → g (f 1 n) = decide (n < j')) (h3 : ∀ n, n < k → g (f 2 n) = decide (n < k')) :
    (cut f i j k).filter g = cut f (min i i') (min j j') (min k k') := by
  unfold cut
  rw [List.filter_append, List.filter_append, filter_blk h1, filter_blk h2, filter_blk h3]
theorem restrictR_cut {f : Nat → Nat → Proposal} (hf : Nice f) (v : Vector) (i j k : Nat) : restrictR (cut f i j k) v = cut f (min i (countR v 201).toNat) (min j (countR v 202).toNat) (min k (countR v 203).toNat) := by
  unfold restrictR
  refine filter_cut ?_ ?_ ?_ <;> (intro n hn; rw [(hf _ n).1, (hf _ n).2]; apply decide_eq_decide.2; simp only [show (201 : Int) + ((0 : Nat) : Int) = 201 from rfl, show (201 : Int) + ((1 : Nat) : Int) = 202 from rfl, show (201 : Int) + ((2 : Nat) : Int) = 203 from rfl]; omega)
theorem restrictV_cut {f : Nat → Nat → Proposal} (hf : Nice f) (v : Vector) (i j k : Nat) : restrictV (cut f i j k) v = cut f (min i (getV v 201).toNat) (min j (getV v 202).toNat) (min k (getV v 203).toNat) := by
  unfold restrictV
  refine filter_cut ?_ ?_ ?_ <;> (intro n hn; rw [(hf _ n).1, (hf _ n).2]; apply decide_eq_decide.2; simp only [show (201 : Int) + ((0 : Nat) : Int) = 201 from rfl, show (201 : Int) + ((1 : Nat) : Int) = 202 from rfl, show (201 : Int) + ((2 : Nat) : Int) = 203 from rfl]; omega)
theorem flatMap_ext {α β : Type} {l : List α} {g h : α → List β} (e : ∀ x ∈ l, g x = h x) : l.flatMap g = l.flatMap h := by
  induction l with
  | nil => rfl
  | cons x l ih => rw [List.flatMap_cons, List.flatMap_cons, e x (by simp), ih fun y hy => e y (by simp [hy])]
theorem mem_upto {a b x : Int} : x ∈ upto a b ↔ a ≤ x ∧ x ≤ b := by
  unfold upto
  rw [List.mem_map]
  constructor
  · rintro ⟨n, hn, rfl⟩; rw [List.mem_range] at hn; omega
  · intro h; exact ⟨(x - a).toNat, by rw [List.mem_range]; omega, by omega⟩
def allN (f : Nat → Nat → Proposal) (i j k i' j' k' : Nat) : List Config := (upto i i').flatMap fun a => (upto j j').flatMap fun b => (upto k k').map fun c => cut f a.toNat b.toNat c.toNat
theorem allR_cut {f : Nat → Nat → Proposal} (hf : Nice f) {i j k i' j' k' : Nat} (h : i < 4 ∧ j < 4 ∧ k < 4) (h' : i' < 4 ∧ j' < 4 ∧ k' < 4) :
    allR (cut f i j k) (cut f i' j' k') = if i ≤ i' ∧ j ≤ j' ∧ k ≤ k' then allN f i j k i' j' k' else [] := by
  unfold allR
  rw [(contains_cut hf h' h).2]
  by_cases hle : i ≤ i' ∧ j ≤ j' ∧ k ≤ k'
  · rw [if_pos (by simpa using hle), if_pos hle]
    have v1 := vec_fin ⟨i, h.1⟩ ⟨j, h.2.1⟩ ⟨k, h.2.2⟩
    have v2 := vec_fin ⟨i', h'.1⟩ ⟨j', h'.2.1⟩ ⟨k', h'.2.2⟩
    dsimp only at v1 v2
    unfold allJ allK cntR
    rw [(vec_cut hf h).2, (vec_cut hf h').2, v1.2.2.2.2.1, v1.2.2.2.2.2.1, v1.2.2.2.2.2.2, v2.2.2.2.2.1, v2.2.2.2.2.2.1, v2.2.2.2.2.2.2]
    unfold allN
    refine flatMap_ext fun a ha => flatMap_ext fun b hb => List.map_congr_left fun c hc => ?_
    rw [mem_upto] at ha hb hc
    have v3 := vec_fin ⟨a.toNat, by omega⟩ ⟨b.toNat, by omega⟩ ⟨c.toNat, by omega⟩
    dsimp only at v3
    rw [Int.toNat_of_nonneg zo, Int.toNat_of_nonneg zo, Int.toNat_of_nonneg zo] at v3
    rw [restrictR_cut hf, v3.2.2.1, v3.2.2.2.2.1, v3.2.2.2.2.2.1, v3.2.2.2.2.2.2]
    congr 1 <;> omega
  · rw [if_neg (by simpa using hle), if_neg hle]
theorem allB_cut {f : Nat → Nat → Proposal} (hf : Nice f) {i j k i' j' k' : Nat} (h : i < 4 ∧ j < 4 ∧ k < 4) (h' : i' < 4 ∧ j' < 4 ∧ k' < 4) :
    allB (cut f i j k) (cut f i' j' k') = if i ≤ i' ∧ j ≤ j' ∧ k ≤ k' then allN f i j k i' j' k' else [] := by
  unfold allB
  rw [(contains_cut hf h' h).1]
  by_cases hle : i ≤ i' ∧ j ≤ j' ∧ k ≤ k'
  · rw [if_pos (by simpa using hle), if_pos hle, (vec_cut hf h).1, (vec_cut hf h').1]
    rw [vectors_fin ⟨i, h.1⟩ ⟨j, h.2.1⟩ ⟨k, h.2.2⟩ ⟨i', h'.1⟩ ⟨j', h'.2.1⟩ ⟨k', h'.2.2⟩ hle.1 hle.2.1 hle.2.2]
    unfold allN vlist
    rw [List.map_flatMap]
    refine flatMap_ext fun a ha => ?_
    rw [List.map_flatMap]
    refine flatMap_ext fun b hb => ?_
    rw [List.map_map]
    refine List.map_congr_left fun c hc => ?_
    rw [mem_upto] at ha hb hc
    dsimp only at ha hb hc
    have v3 := vec_fin ⟨a.toNat, by omega⟩ ⟨b.toNat, by omega⟩ ⟨c.toNat, by omega⟩
    dsimp only at v3
    rw [Int.toNat_of_nonneg zo, Int.toNat_of_nonneg zo, Int.toNat_of_nonneg zo] at v3
    rw [Function.comp, restrictV_cut hf, v3.2.2.1, v3.2.2.2.1.1, v3.2.2.2.1.2.1, v3.2.2.2.1.2.2]
    congr 1 <;> omega
  · rw [if_neg (by simpa using hle), if_neg hle]
theorem allN_cut (f : Nat → Nat → Proposal) {i j k i' j' k' : Nat} (h' : i' < 4 ∧ j' < 4 ∧ k' < 4) : ∀ c ∈ allN f i j k i' j' k', IsCut f c := by
  intro c hc
  simp only [allN, List.mem_flatMap, List.mem_map, mem_upto] at hc
  obtain ⟨a, ha, b, hb, x, hx, rfl⟩ := hc
  exact ⟨_, _, _, ⟨by omega, by omega, by omega⟩, rfl⟩
def poolF (l : List Int) (a i : Nat) : Proposal := propI l a i ((poolUpto l a).2 + 2 * i)
theorem pool_nice (l : List Int) : Nice (poolF l) := fun a i => ⟨rfl, rfl⟩
theorem pool_lite (l : List Int) (a i : Nat) : (poolF l a i).changes.length ≤ 2 := by
  simp only [poolF, propI, List.length_cons]
  split <;> simp
theorem pool_cut (l : List Int) : IsCut (poolF l) (poolI l) := ⟨cntI l 0, cntI l 1, cntI l 2, ⟨(cntI_bd l 0).2, (cntI_bd l 1).2, (cntI_bd l 2).2⟩, by
  show (([] ++ groupI l 0 3 (cntI l 0)) ++ groupI l 1 (3 + 2 * cntI l 0) (cntI l 1)) ++ groupI l 2 (3 + 2 * cntI l 0 + 2 * cntI l 1) (cntI l 2) = _
  rw [List.nil_append]; rfl⟩
theorem part_cut {f : Nat → Nat → Proposal} (hf : Nice f) {c : Config} (hc : IsCut f c) (n : Int) : IsCut f (partI c n) := by
  obtain ⟨i, j, k, h, rfl⟩ := hc
  exact ⟨_, _, _, ⟨by omega, by omega, by omega⟩, restrictR_cut hf _ i j k⟩
theorem cut_len (f : Nat → Nat → Proposal) (i j k : Nat) : (cut f i j k).length = i + j + k := by simp [cut, blk, Nat.add_assoc]
def Lite (f : Nat → Nat → Proposal) : Prop := ∀ a i, (f a i).changes.length ≤ 2
theorem IsCut.small {f : Nat → Nat → Proposal} (hf : Lite f) {c : Config} (hc : IsCut f c) : c.length ≤ 9 ∧ Small c := by
  obtain ⟨i, j, k, h, rfl⟩ := hc
  refine ⟨by rw [cut_len]; omega, by rw [cut_len]; omega, fun p hp => ?_⟩
  simp only [cut, blk, List.mem_append, List.mem_map] at hp
  rcases hp with (⟨n, _, rfl⟩ | ⟨n, _, rfl⟩) | ⟨n, _, rfl⟩ <;> exact Nat.le_trans (hf _ _) zd
theorem fine_fin : ∀ i j k : Fin 4, Fine (vecC i j k) := by unfold Fine; decide +kernel
theorem IsCut.fine {f : Nat → Nat → Proposal} (hf : Nice f) {c : Config} (hc : IsCut f c) : Fine (vectorV c) := by
  obtain ⟨i, j, k, h, rfl⟩ := hc
  rw [(vec_cut hf h).1]
  exact fine_fin ⟨i, h.1⟩ ⟨j, h.2.1⟩ ⟨k, h.2.2⟩
theorem flatMap_len_le {α β : Type} {l : List α} {g : α → List β} {n : Nat} (h : ∀ x ∈ l, (g x).length ≤ n) : (l.flatMap g).length ≤ l.length * n := by
  induction l with
  | nil => simp
  | cons x l ih =>
    rw [List.flatMap_cons, List.length_append, List.length_cons, Nat.add_mul]
    have := h x (by simp)
    have := ih fun y hy => h y (by simp [hy])
    omega
theorem allN_len (f : Nat → Nat → Proposal) {i j k i' j' k' : Nat} (h' : i' < 4 ∧ j' < 4 ∧ k' < 4) : (allN f i j k i' j' k').length ≤ 64 := by
  refine Nat.le_trans (flatMap_len_le (n := 16) fun a ha => ?_) ?_
  · refine Nat.le_trans (flatMap_len_le (n := 4) fun b hb => ?_) ?_
    · rw [List.length_map, upto_len]; omega
    · rw [upto_len]; omega
  · rw [upto_len]; omega
theorem all_is {f : Nat → Nat → Proposal} (hf : Nice f) (hl : Lite f) {a b : Config} (ha : IsCut f a) (hb : IsCut f b) : allB a b = allR a b ∧ (∀ c ∈ allR a b, IsCut f c) ∧ Few (allR a b) := by
  obtain ⟨i, j, k, h, rfl⟩ := ha
  obtain ⟨i', j', k', h', rfl⟩ := hb
  rw [allB_cut hf h h', allR_cut hf h h']
  split
  · have hc := allN_cut f (i := i) (j := j) (k := k) h'
    exact ⟨rfl, hc, Nat.le_trans (allN_len f h') zd, fun c hm => ((hc c hm).small hl).2.1⟩
  · exact ⟨rfl, by simp, by simp [Few]⟩
end Go.Proofs
namespace Go.Proofs
open Go.AM
attribute [local irreducible] AM.evalR AM.evalD AM.Runs AM.valK AM.dK AM.opK AM.stepR AM.CallS AM.St.Le
theorem part_sub {f : Nat → Nat → Proposal} (hf : Nice f) {c : Config} (hc : IsCut f c) (n : Int) : ∃ i j k i' j' k', (i ≤ i' ∧ j ≤ j' ∧ k ≤ k') ∧ (i' < 4 ∧ j' < 4 ∧ k' < 4) ∧ c = cut f i' j' k' ∧ partI c n = cut f i j k := by
  obtain ⟨i, j, k, h, rfl⟩ := hc
  exact ⟨_, _, _, i, j, k, ⟨Nat.min_le_left _ _, Nat.min_le_left _ _, Nat.min_le_left _ _⟩, h, rfl, restrictR_cut hf _ i j k⟩
end Go.Proofs
namespace Go.Proofs
open Go.AM
attribute [local irreducible] AM.evalR AM.evalD AM.Runs AM.valK AM.dK AM.opK AM.stepR AM.CallS AM.St.Le
def unionR : Config → Config → Config
  | [], bs => bs
  | a :: xs, [] => a :: xs
  | a :: xs, b :: bs => if cmpP a b < 0 then a :: unionR xs (b :: bs) else if 0 < cmpP a b then b :: unionR (a :: xs) bs else a :: unionR xs bs
theorem unionR_nil (a : Config) : unionR a [] = a := by cases a <;> simp [unionR]
theorem union_l {a b : Config} {i k : Nat} (hi : i < a.length) (h : k < b.length → cmpP (a.getD i default) (b.getD k default) < 0) : unionR (a.drop i) (b.drop k) = a.getD i default :: unionR (a.drop (i + 1)) (b.drop k) := by
  rw [drop_getD hi]
  by_cases hk : k < b.length
  · rw [drop_getD hk, unionR, if_pos (h hk)]
  · rw [List.drop_eq_nil_of_le (by omega : b.length ≤ k), unionR_nil, unionR_nil]
theorem union_r {a b : Config} {i k : Nat} (hk : k < b.length) (h : i < a.length → 0 < cmpP (a.getD i default) (b.getD k default)) : unionR (a.drop i) (b.drop k) = b.getD k default :: unionR (a.drop i) (b.drop (k + 1)) := by
  rw [drop_getD hk]
  by_cases hi : i < a.length
  · have := h hi
    rw [drop_getD hi, unionR, if_neg zo, if_pos this]
  · rw [List.drop_eq_nil_of_le (by omega : a.length ≤ i), unionR, unionR]
theorem union_b {a b : Config} {i k : Nat} (hi : i < a.length) (hk : k < b.length) (h : cmpP (a.getD i default) (b.getD k default) = 0) : unionR (a.drop i) (b.drop k) = a.getD i default :: unionR (a.drop (i + 1)) (b.drop (k + 1)) := by
  rw [drop_getD hi, drop_getD hk, unionR, if_neg zo, if_neg zo]
theorem ref_Union (f g : Bool) (a b : Config) (hs1 : a.length ≤ 1000000000) (hs2 : b.length ≤ 1000000000) : AM.Fn Tryz.prog 39 [.sl f (a.map prV), .sl g (b.map prV)] (.sl false ((unionR a b).map prV)) := by
  (refine spec_of_runs Tryz.func39 rfl ?_; simp only [Tryz.f39]; refine ys ?_)
  repeat' (first | refine yw ?_ | ((with_reducible refine Runs.is ?_); first | refine Runs.region (id := 0) ?_ | refine Runs.region (id := 1) ?_ | refine Runs.region (id := 2) ?_ | ((with_reducible refine Runs.isC ?_); refine Runs.cond rfl (zc ?_) (zc ?_) <;> intro hc <;> (try (first | contradiction | (exfalso; omega; done) | (have : hc = trivial := rfl; clear this; clear hc))))) | ((with_reducible refine r_is ?_); first | refine yr ?_) | fail)
  (refine Runs.weaken (St.Le.nil 5 129 3 5 zd rfl rfl zE) ?_)
  refine Runs.loopI (α := Nat × Nat × Config) (fun s => (a.length - s.1) + (b.length - s.2.1)) (fun s => s.1 ≤ a.length ∧ s.2.1 ≤ b.length ∧ s.2.2.length ≤ s.1 + s.2.1 ∧ s.2.2 ++ unionR (a.drop s.1) (b.drop s.2.1) = unionR a b)
    (fun s => ⟨[.sl f (a.map prV), .sl g (b.map prV), .any, .any, .any, .own 5, .i (s.1 : Nat), .i (s.2.1 : Nat), .any, .any, .any, .any, .any, .any, .any, .any, .any, .any, .any, .any, .any, .any, .any, .any, .any, .any, .any, .any, .any, .any, .any, .any, .any, .any, .any, .any, .any, .any, .any, .any, .any, .any, .any, .any, .any, .any, .any, .any, .any, .any, .any, .any, .any, .any, .any, .any, .any, .any, .any, .any, .any, .any, .any, .any, .any, .any, .any, .any, .any, .any, .any, .any, .any, .any, .any, .any, .any, .any, .any, .any, .any, .any, .any, .any, .any, .any, .any, .any], [(5, .lst 129 3 (s.2.2.map prV))]⟩) (0, 0, []) (by simp) ?_ ?_
  · (refine St.Le.clean zR zU zV)
  rintro ⟨i, k, l⟩ ⟨h0, h1, h2, h3⟩ ih
  dsimp only at h0 h1 h2 h3 ih ⊢
  by_cases hi : i < a.length
  · by_cases hk : k < b.length
    · rcases Int.lt_trichotomy (cmpP (a.getD i default) (b.getD k default)) 0 with hx | hx | hx
      · repeat' (first | refine yw ?_ | ((with_reducible refine Runs.is ?_); first | refine Runs.region (id := 3) ?_ | refine Runs.drawn (id := 7) mixed zK ?_ | refine Runs.region (id := 8) ?_ | refine Runs.region (id := 9) ?_ | refine Runs.drawn (id := 10) mixed zK ?_ | refine Runs.region (id := 11) ?_ | refine Runs.region (id := 12) ?_ | refine Runs.region (id := 4) ?_ | refine Runs.region (id := 5) ?_ | refine Runs.region (id := 6) ?_ | refine Runs.region (id := 13) ?_ | ((with_reducible refine Runs.isC ?_); refine Runs.cond rfl (zc ?_) (zc ?_) <;> intro hc <;> (try (first | contradiction | (exfalso; omega; done) | (have : hc = trivial := rfl; clear this; clear hc))))) | ((with_reducible refine r_is ?_); first | refine yr ?_ | (refine r_append_full SlF.h SlF.s ZoF.h zd rfl rfl zC zJ zS rfl (fun hn => ?_) (fun hn => ?_) <;> refine r_nn zN zH ?_) | ((with_reducible refine r_gd ?_); (first | refine r_guardPf rfl rfl ?_ ?_ | refine r_guardNf rfl rfl ?_ ?_ | refine r_guard rfl rfl ?_ ?_) <;> intro hG <;> (try (exfalso; omega; done)) <;> refine r_nn zN zH ?_)) | ((with_reducible refine d_is ?_); first | refine yd ?_ | (refine d_fn rfl (ref_Compare _ _) HbF.h zL2 zD ?_; refine d_nn zN zH ?_) | ((with_reducible refine d_gd ?_); (first | refine d_guardPf rfl rfl ?_ ?_ | refine d_guardNf rfl rfl ?_ ?_ | refine d_guardPt rfl rfl ?_ ?_ | refine d_guardNt rfl rfl ?_ ?_ | refine d_guard rfl rfl ?_ ?_) <;> intro hG <;> (try (exfalso; omega; done)) <;> refine d_nn zN zH ?_)) | fail)
        refine ih (i + 1, k, l ++ [a.getD i default]) _ ⟨by dsimp only; omega, h1, by dsimp only; simp; omega, ?_⟩ (by dsimp only; omega) (by (refine St.Le.clean zR zU zV))
        rw [← h3, union_l hi (fun _ => hx)]; simp
      · repeat' (first | refine yw ?_ | ((with_reducible refine Runs.is ?_); first | refine Runs.region (id := 3) ?_ | refine Runs.drawn (id := 7) mixed zK ?_ | refine Runs.region (id := 8) ?_ | refine Runs.region (id := 9) ?_ | refine Runs.drawn (id := 10) mixed zK ?_ | refine Runs.region (id := 11) ?_ | refine Runs.region (id := 12) ?_ | refine Runs.region (id := 4) ?_ | refine Runs.region (id := 5) ?_ | refine Runs.region (id := 6) ?_ | refine Runs.region (id := 13) ?_ | ((with_reducible refine Runs.isC ?_); refine Runs.cond rfl (zc ?_) (zc ?_) <;> intro hc <;> (try (first | contradiction | (exfalso; omega; done) | (have : hc = trivial := rfl; clear this; clear hc))))) | ((with_reducible refine r_is ?_); first | refine yr ?_ | (refine r_append_full SlF.h SlF.s ZoF.h zd rfl rfl zC zJ zS rfl (fun hn => ?_) (fun hn => ?_) <;> refine r_nn zN zH ?_) | ((with_reducible refine r_gd ?_); (first | refine r_guardPf rfl rfl ?_ ?_ | refine r_guardNf rfl rfl ?_ ?_ | refine r_guard rfl rfl ?_ ?_) <;> intro hG <;> (try (exfalso; omega; done)) <;> refine r_nn zN zH ?_)) | ((with_reducible refine d_is ?_); first | refine yd ?_ | (refine d_fn rfl (ref_Compare _ _) HbF.h zL2 zD ?_; refine d_nn zN zH ?_) | ((with_reducible refine d_gd ?_); (first | refine d_guardPf rfl rfl ?_ ?_ | refine d_guardNf rfl rfl ?_ ?_ | refine d_guardPt rfl rfl ?_ ?_ | refine d_guardNt rfl rfl ?_ ?_ | refine d_guard rfl rfl ?_ ?_) <;> intro hG <;> (try (exfalso; omega; done)) <;> refine d_nn zN zH ?_)) | fail)
        refine ih (i + 1, k + 1, l ++ [a.getD i default]) _ ⟨by dsimp only; omega, by dsimp only; omega, by dsimp only; simp; omega, ?_⟩ (by dsimp only; omega) (by (refine St.Le.clean zR zU zV))
        rw [← h3, union_b hi hk hx]; simp
      · repeat' (first | refine yw ?_ | ((with_reducible refine Runs.is ?_); first | refine Runs.region (id := 3) ?_ | refine Runs.drawn (id := 7) mixed zK ?_ | refine Runs.region (id := 8) ?_ | refine Runs.region (id := 9) ?_ | refine Runs.drawn (id := 10) mixed zK ?_ | refine Runs.region (id := 11) ?_ | refine Runs.region (id := 12) ?_ | refine Runs.region (id := 4) ?_ | refine Runs.region (id := 5) ?_ | refine Runs.region (id := 6) ?_ | refine Runs.region (id := 13) ?_ | ((with_reducible refine Runs.isC ?_); refine Runs.cond rfl (zc ?_) (zc ?_) <;> intro hc <;> (try (first | contradiction | (exfalso; omega; done) | (have : hc = trivial := rfl; clear this; clear hc))))) | ((with_reducible refine r_is ?_); first | refine yr ?_ | (refine r_append_full SlF.h SlF.s ZoF.h zd rfl rfl zC zJ zS rfl (fun hn => ?_) (fun hn => ?_) <;> refine r_nn zN zH ?_) | ((with_reducible refine r_gd ?_); (first | refine r_guardPf rfl rfl ?_ ?_ | refine r_guardNf rfl rfl ?_ ?_ | refine r_guard rfl rfl ?_ ?_) <;> intro hG <;> (try (exfalso; omega; done)) <;> refine r_nn zN zH ?_)) | ((with_reducible refine d_is ?_); first | refine yd ?_ | (refine d_fn rfl (ref_Compare _ _) HbF.h zL2 zD ?_; refine d_nn zN zH ?_) | ((with_reducible refine d_gd ?_); (first | refine d_guardPf rfl rfl ?_ ?_ | refine d_guardNf rfl rfl ?_ ?_ | refine d_guardPt rfl rfl ?_ ?_ | refine d_guardNt rfl rfl ?_ ?_ | refine d_guard rfl rfl ?_ ?_) <;> intro hG <;> (try (exfalso; omega; done)) <;> refine d_nn zN zH ?_)) | fail)
        refine ih (i, k + 1, l ++ [b.getD k default]) _ ⟨h0, by dsimp only; omega, by dsimp only; simp; omega, ?_⟩ (by dsimp only; omega) (by (refine St.Le.clean zR zU zV))
        rw [← h3, union_r hk (fun _ => hx)]; simp
    · repeat' (first | refine yw ?_ | ((with_reducible refine Runs.is ?_); first | refine Runs.region (id := 3) ?_ | refine Runs.drawn (id := 7) mixed zK ?_ | refine Runs.region (id := 8) ?_ | refine Runs.region (id := 9) ?_ | refine Runs.drawn (id := 10) mixed zK ?_ | refine Runs.region (id := 11) ?_ | refine Runs.region (id := 12) ?_ | refine Runs.region (id := 4) ?_ | refine Runs.region (id := 5) ?_ | refine Runs.region (id := 6) ?_ | refine Runs.region (id := 13) ?_ | ((with_reducible refine Runs.isC ?_); refine Runs.cond rfl (zc ?_) (zc ?_) <;> intro hc <;> (try (first | contradiction | (exfalso; omega; done) | (have : hc = trivial := rfl; clear this; clear hc))))) | ((with_reducible refine r_is ?_); first | refine yr ?_ | (refine r_append_full SlF.h SlF.s ZoF.h zd rfl rfl zC zJ zS rfl (fun hn => ?_) (fun hn => ?_) <;> refine r_nn zN zH ?_) | ((with_reducible refine r_gd ?_); (first | refine r_guardPf rfl rfl ?_ ?_ | refine r_guardNf rfl rfl ?_ ?_ | refine r_guard rfl rfl ?_ ?_) <;> intro hG <;> (try (exfalso; omega; done)) <;> refine r_nn zN zH ?_)) | ((with_reducible refine d_is ?_); first | refine yd ?_ | (refine d_fn rfl (ref_Compare _ _) HbF.h zL2 zD ?_; refine d_nn zN zH ?_) | ((with_reducible refine d_gd ?_); (first | refine d_guardPf rfl rfl ?_ ?_ | refine d_guardNf rfl rfl ?_ ?_ | refine d_guardPt rfl rfl ?_ ?_ | refine d_guardNt rfl rfl ?_ ?_ | refine d_guard rfl rfl ?_ ?_) <;> intro hG <;> (try (exfalso; omega; done)) <;> refine d_nn zN zH ?_)) | fail)
      refine ih (i + 1, k, l ++ [a.getD i default]) _ ⟨by dsimp only; omega, h1, by dsimp only; simp; omega, ?_⟩ (by dsimp only; omega) (by (refine St.Le.clean zR zU zV))
      rw [← h3, union_l hi (fun h => absurd h hk)]; simp
  · by_cases hk : k < b.length
    · repeat' (first | refine yw ?_ | ((with_reducible refine Runs.is ?_); first | refine Runs.region (id := 3) ?_ | refine Runs.drawn (id := 7) mixed zK ?_ | refine Runs.region (id := 8) ?_ | refine Runs.region (id := 9) ?_ | refine Runs.drawn (id := 10) mixed zK ?_ | refine Runs.region (id := 11) ?_ | refine Runs.region (id := 12) ?_ | refine Runs.region (id := 4) ?_ | refine Runs.region (id := 5) ?_ | refine Runs.region (id := 6) ?_ | refine Runs.region (id := 13) ?_ | ((with_reducible refine Runs.isC ?_); refine Runs.cond rfl (zc ?_) (zc ?_) <;> intro hc <;> (try (first | contradiction | (exfalso; omega; done) | (have : hc = trivial := rfl; clear this; clear hc))))) | ((with_reducible refine r_is ?_); first | refine yr ?_ | (refine r_append_full SlF.h SlF.s ZoF.h zd rfl rfl zC zJ zS rfl (fun hn => ?_) (fun hn => ?_) <;> refine r_nn zN zH ?_) | ((with_reducible refine r_gd ?_); (first | refine r_guardPf rfl rfl ?_ ?_ | refine r_guardNf rfl rfl ?_ ?_ | refine r_guard rfl rfl ?_ ?_) <;> intro hG <;> (try (exfalso; omega; done)) <;> refine r_nn zN zH ?_)) | ((with_reducible refine d_is ?_); first | refine yd ?_ | (refine d_fn rfl (ref_Compare _ _) HbF.h zL2 zD ?_; refine d_nn zN zH ?_) | ((with_reducible refine d_gd ?_); (first | refine d_guardPf rfl rfl ?_ ?_ | refine d_guardNf rfl rfl ?_ ?_ | refine d_guardPt rfl rfl ?_ ?_ | refine d_guardNt rfl rfl ?_ ?_ | refine d_guard rfl rfl ?_ ?_) <;> intro hG <;> (try (exfalso; omega; done)) <;> refine d_nn zN zH ?_)) | fail)
      refine ih (i, k + 1, l ++ [b.getD k default]) _ ⟨h0, by dsimp only; omega, by dsimp only; simp; omega, ?_⟩ (by dsimp only; omega) (by (refine St.Le.clean zR zU zV))
      rw [← h3, union_r hk (fun h => absurd h hi)]; simp
    · repeat' (first | refine yw ?_ | ((with_reducible refine Runs.is ?_); first | refine Runs.region (id := 3) ?_ | refine Runs.drawn (id := 7) mixed zK ?_ | refine Runs.region (id := 8) ?_ | refine Runs.region (id := 9) ?_ | refine Runs.drawn (id := 10) mixed zK ?_ | refine Runs.region (id := 11) ?_ | refine Runs.region (id := 12) ?_ | refine Runs.region (id := 4) ?_ | refine Runs.region (id := 5) ?_ | refine Runs.region (id := 6) ?_ | refine Runs.region (id := 13) ?_ | ((with_reducible refine Runs.isC ?_); refine Runs.cond rfl (zc ?_) (zc ?_) <;> intro hc <;> (try (first | contradiction | (exfalso; omega; done) | (have : hc = trivial := rfl; clear this; clear hc))))) | ((with_reducible refine r_is ?_); first | refine yr ?_ | (refine r_append_full SlF.h SlF.s ZoF.h zd rfl rfl zC zJ zS rfl (fun hn => ?_) (fun hn => ?_) <;> refine r_nn zN zH ?_) | ((with_reducible refine r_gd ?_); (first | refine r_guardPf rfl rfl ?_ ?_ | refine r_guardNf rfl rfl ?_ ?_ | refine r_guard rfl rfl ?_ ?_) <;> intro hG <;> (try (exfalso; omega; done)) <;> refine r_nn zN zH ?_)) | ((with_reducible refine d_is ?_); first | refine yd ?_ | (refine d_fn rfl (ref_Compare _ _) HbF.h zL2 zD ?_; refine d_nn zN zH ?_) | ((with_reducible refine d_gd ?_); (first | refine d_guardPf rfl rfl ?_ ?_ | refine d_guardNf rfl rfl ?_ ?_ | refine d_guardPt rfl rfl ?_ ?_ | refine d_guardNt rfl rfl ?_ ?_ | refine d_guard rfl rfl ?_ ?_) <;> intro hG <;> (try (exfalso; omega; done)) <;> refine d_nn zN zH ?_)) | fail)
      refine Runs.ret_frz Tryz.func39 rfl rfl rfl ?_
      rw [← h3, List.drop_eq_nil_of_le zo, List.drop_eq_nil_of_le zo]; simp [unionR]
end Go.Proofs
namespace Go.Proofs
open Go.AM
attribute [local irreducible] AM.evalR AM.evalD AM.Runs AM.valK AM.dK AM.opK AM.stepR AM.CallS AM.St.Le
theorem unionR_map {g : Proposal → Proposal} : ∀ (a b : Config), (∀ x ∈ a, ∀ y ∈ b, cmpP (g x) (g y) = cmpP x y) → unionR (a.map g) (b.map g) = (unionR a b).map g
  | [], b, _ => by simp [unionR]
  | a :: xs, [], _ => by simp [unionR]
  | a :: xs, b :: bs, h => by
    have h0 := h a (by simp) b (by simp)
    have e1 := unionR_map xs (b :: bs) fun x hx y hy => h x (by simp [hx]) y hy
    have e2 := unionR_map (a :: xs) bs fun x hx y hy => h x hx y (by simp [hy])
    have e3 := unionR_map xs bs fun x hx y hy => h x (by simp [hx]) y (by simp [hy])
    rw [List.map_cons] at e1 e2
    rw [List.map_cons, List.map_cons, unionR, unionR, h0, e1, e2, e3]
    split
    · rfl
    · split <;> rfl
termination_by a b => a.length + b.length
def back (f : Nat → Nat → Proposal) (p : Proposal) : Proposal := f (p.admin - 201).toNat (p.number - 1).toNat
theorem back_f0 (f : Nat → Nat → Proposal) (a i : Nat) : back f (f0 a i) = f a i := by
  unfold back f0
  dsimp only
  rw [show ((201 : Int) + a - 201).toNat = a by omega, show ((i : Int) + 1 - 1).toNat = i by omega]
theorem back_cut (f : Nat → Nat → Proposal) (i j k : Nat) : (cut f0 i j k).map (back f) = cut f i j k := by
  simp only [cut, blk, List.map_append, List.map_map]
  congr 1
  · congr 1 <;> exact List.map_congr_left fun n _ => back_f0 f _ n
  · exact List.map_congr_left fun n _ => back_f0 f _ n
theorem mem_cut {f : Nat → Nat → Proposal} {i j k : Nat} {p : Proposal} (h : p ∈ cut f i j k) : ∃ a n, p = f a n := by
  simp only [cut, blk, List.mem_append, List.mem_map] at h
  rcases h with (⟨n, _, rfl⟩ | ⟨n, _, rfl⟩) | ⟨n, _, rfl⟩ <;> exact ⟨_, _, rfl⟩
def unionF : Nat → Config → Config → Config
  | 0, _, _ => []
  | _ + 1, [], bs => bs
  | _ + 1, a :: xs, [] => a :: xs
  | n + 1, a :: xs, b :: bs => if cmpP a b < 0 then a :: unionF n xs (b :: bs) else if 0 < cmpP a b then b :: unionF n (a :: xs) bs else a :: unionF n xs bs
theorem unionF_eq : ∀ (n : Nat) (a b : Config), a.length + b.length < n → unionF n a b = unionR a b
  | 0, _, _, h => absurd h (Nat.not_lt_zero _)
  | n + 1, [], bs, _ => by simp [unionF, unionR]
  | n + 1, a :: xs, [], _ => by simp [unionF, unionR]
  | n + 1, a :: xs, b :: bs, h => by
    simp only [List.length_cons] at h
    rw [unionF, unionR, unionF_eq n xs (b :: bs) (by simp only [List.length_cons]; omega), unionF_eq n (a :: xs) bs (by simp only [List.length_cons]; omega), unionF_eq n xs bs zo]
theorem unionF_fin : ∀ i j k i' j' k' : Fin 4, unionF 19 (cut f0 i j k) (cut f0 i' j' k') = cut f0 (max i.val i'.val) (max j.val j'.val) (max k.val k'.val) := by decide +kernel
theorem union_fin (i j k i' j' k' : Fin 4) : unionR (cut f0 i j k) (cut f0 i' j' k') = cut f0 (max i.val i'.val) (max j.val j'.val) (max k.val k'.val) := by
  rw [← unionF_eq 19 _ _ (by rw [cut_len, cut_len]; omega)]
  exact unionF_fin i j k i' j' k'
theorem unionR_cut {f : Nat → Nat → Proposal} (hf : Nice f) {i j k i' j' k' : Nat} (h : i < 4 ∧ j < 4 ∧ k < 4) (h' : i' < 4 ∧ j' < 4 ∧ k' < 4) : unionR (cut f i j k) (cut f i' j' k') = cut f (max i i') (max j j') (max k k') := by
  rw [← back_cut f i j k, ← back_cut f i' j' k', unionR_map, union_fin ⟨i, h.1⟩ ⟨j, h.2.1⟩ ⟨k, h.2.2⟩ ⟨i', h'.1⟩ ⟨j', h'.2.1⟩ ⟨k', h'.2.2⟩, back_cut]
  intro x hx y hy
  obtain ⟨a, n, rfl⟩ := mem_cut hx
  obtain ⟨b, m, rfl⟩ := mem_cut hy
  rw [back_f0, back_f0, ← cmpP_key, key_nice hf, key_nice hf]
theorem mem_allN {f : Nat → Nat → Proposal} {i j k i' j' k' : Nat} {A : Config} (h : A ∈ allN f i j k i' j' k') : ∃ a b c : Nat, (i ≤ a ∧ a ≤ i') ∧ (j ≤ b ∧ b ≤ j') ∧ (k ≤ c ∧ c ≤ k') ∧ A = cut f a b c := by
  simp only [allN, List.mem_flatMap, List.mem_map, mem_upto] at h
  obtain ⟨a, ha, b, hb, x, hx, rfl⟩ := h
  exact ⟨a.toNat, b.toNat, x.toNat, by omega, by omega, by omega, rfl⟩
end Go.Proofs
namespace Go.Proofs
open Go.AM
attribute [local irreducible] AM.evalR AM.evalD AM.Runs AM.valK AM.dK AM.opK AM.stepR AM.CallS AM.St.Le
def RuleOK (r : Rule) : Prop := (1 ≤ r.kind ∧ r.kind ≤ 4) ∧ (r.kind = 3 → 1 ≤ r.columns ∧ r.columns ≤ 12) ∧ (r.kind ≠ 3 → r.columns = 0) ∧ (r.kind = 4 → 0 ≤ r.faulty ∧ r.faulty ≤ 12) ∧ (r.kind ≠ 4 → r.faulty = 0)
def ChangeOK (c : Change) : Prop := (c.kind = 1 ∧ (1 ≤ c.server ∧ c.server ≤ 12) ∧ (1 ≤ c.weight ∧ c.weight ≤ 9) ∧ c.version = 0 ∧ c.rule = ⟨0, 0, 0⟩) ∨ (c.kind = 2 ∧ (1 ≤ c.server ∧ c.server ≤ 12) ∧ c.weight = 0 ∧ c.version = 0 ∧ c.rule = ⟨0, 0, 0⟩) ∨
  (c.kind = 3 ∧ (1 ≤ c.server ∧ c.server ≤ 12) ∧ (1 ≤ c.weight ∧ c.weight ≤ 9) ∧ (1 ≤ c.version ∧ c.version ≤ 1000) ∧ c.rule = ⟨0, 0, 0⟩) ∨ (c.kind = 4 ∧ c.server = 0 ∧ c.weight = 0 ∧ (1 ≤ c.version ∧ c.version ≤ 1000) ∧ RuleOK c.rule)
def PropOK (p : Proposal) : Prop := (201 ≤ p.admin ∧ p.admin < 204) ∧ (1 ≤ p.number ∧ p.number ≤ 3) ∧ (1 ≤ p.changes.length ∧ p.changes.length ≤ 6) ∧ (∀ c ∈ p.changes, ChangeOK c) ∧
  ∀ i k : Nat, k < i → i < p.changes.length → ¬ ((p.changes.getD k default).kind = (p.changes.getD i default).kind ∧ (p.changes.getD k default).server = (p.changes.getD i default).server)
end Go.Proofs
namespace Go.Proofs
open Go.AM
attribute [local irreducible] AM.evalR AM.evalD AM.Runs AM.valK AM.dK AM.opK AM.stepR AM.CallS AM.St.Le
end Go.Proofs
namespace Go.Proofs
open Go.AM
attribute [local irreducible] AM.evalR AM.evalD AM.Runs AM.valK AM.dK AM.opK AM.stepR AM.CallS AM.St.Le
theorem getD_in {α : Type} [Inhabited α] {l : List α} {i : Nat} (h : i < l.length) : l.getD i default ∈ l := by
  rw [List.getD_eq_getElem?_getD, List.getElem?_eq_getElem h]; exact List.getElem_mem h
end Go.Proofs
namespace Go.Proofs
open Go.AM
attribute [local irreducible] AM.evalR AM.evalD AM.Runs AM.valK AM.dK AM.opK AM.stepR AM.CallS AM.St.Le
end Go.Proofs
namespace Go.Proofs
open Go.AM
attribute [local irreducible] AM.evalR AM.evalD AM.Runs AM.valK AM.dK AM.opK AM.stepR AM.CallS AM.St.Le
theorem ruleI_ok (n : Int) : RuleOK (ruleI n) := by
  have d := digitB n 4 2 zd
  have d2 := digitB n 2 3 zd
  unfold ruleI
  split
  · simp [RuleOK]
  · split
    · simp [RuleOK]; omega
    · split
      · simp [RuleOK]; omega
      · simp [RuleOK]
theorem changeI_ok (n : Int) : ChangeOK (changeI n) := by
  have d1 := digitB n 8 1 zd
  have d2 := digitB n 4 3 zd
  have d3 := digitB n 2 9 zd
  have d4 := digitB n 12 1 zd
  unfold changeI
  split
  · exact .inl ⟨rfl, by dsimp only; omega, by dsimp only; omega, rfl, rfl⟩
  · split
    · exact .inr (.inl ⟨rfl, by dsimp only; omega, rfl, rfl, rfl⟩)
    · split
      · exact .inr (.inr (.inl ⟨rfl, by dsimp only; omega, by dsimp only; omega, by dsimp only; omega, rfl⟩))
      · split
        · exact .inr (.inr (.inr ⟨rfl, rfl, rfl, by dsimp only; omega, ruleI_ok _⟩))
        · exact .inl ⟨rfl, by dsimp only; omega, by dsimp only; omega, rfl, rfl⟩
theorem pool_ok (l : List Int) (a n : Nat) (ha : a < 3) (hn : n < 3) : PropOK (poolF l a n) := by
  unfold poolF propI
  generalize (poolUpto l a).2 + 2 * (n : Int) = at'
  refine ⟨⟨by dsimp only; omega, by dsimp only; omega⟩, ⟨by dsimp only; omega, by dsimp only; omega⟩, ?_, ?_, ?_⟩
  · dsimp only
    split <;> simp
  · dsimp only
    intro c hc
    split at hc
    · rcases List.mem_cons.1 hc with rfl | hc
      · exact changeI_ok _
      · rw [List.mem_singleton.1 hc]; exact changeI_ok _
    · rw [List.mem_singleton.1 hc]; exact changeI_ok _
  · dsimp only
    intro i k hk hi
    split at hi
    · rename_i he
      have h1 : i = 1 := by simp at hi; omega
      have h0 : k = 0 := by omega
      subst h1 h0
      rw [if_pos he]
      simp only [List.getD_cons_zero, List.getD_cons_succ]
      rintro ⟨e1, e2⟩
      simp [extra, e1, e2] at he
    · simp at hi; omega
theorem mem_cut3 {f : Nat → Nat → Proposal} {i j k : Nat} (h : i < 4 ∧ j < 4 ∧ k < 4) {p : Proposal} (hp : p ∈ cut f i j k) : ∃ a n, a < 3 ∧ n < 3 ∧ p = f a n := by
  simp only [cut, blk, List.mem_append, List.mem_map, List.mem_range] at hp
  rcases hp with (⟨n, hn, rfl⟩ | ⟨n, hn, rfl⟩) | ⟨n, hn, rfl⟩ <;> exact ⟨_, n, by decide, by omega, rfl⟩
theorem inj_fin : ∀ i j k i' j' k' : Fin 4, cut f0 i j k = cut f0 i' j' k' → i = i' ∧ j = j' ∧ k = k' := by decide +kernel
theorem cut_inj {f : Nat → Nat → Proposal} (hf : Nice f) {i j k i' j' k' : Nat} (h : i < 4 ∧ j < 4 ∧ k < 4) (h' : i' < 4 ∧ j' < 4 ∧ k' < 4) (e : cut f i j k = cut f i' j' k') : i = i' ∧ j = j' ∧ k = k' := by
  have e2 : cut f0 i j k = cut f0 i' j' k' := by rw [← cut_key hf, ← cut_key hf, e]
  have := inj_fin ⟨i, h.1⟩ ⟨j, h.2.1⟩ ⟨k, h.2.2⟩ ⟨i', h'.1⟩ ⟨j', h'.2.1⟩ ⟨k', h'.2.2⟩ e2
  simpa [Fin.ext_iff] using this
end Go.Proofs
namespace Go.Proofs
open Go.AM
attribute [local irreducible] AM.evalR AM.evalD AM.Runs AM.valK AM.dK AM.opK AM.stepR AM.CallS AM.St.Le
theorem strict_ext : ∀ {a b : List Int}, a.Pairwise (· < ·) → b.Pairwise (· < ·) → (∀ x, x ∈ a ↔ x ∈ b) → a = b
  | [], [], _, _, _ => rfl
  | [], y :: b, _, _, h => absurd ((h y).2 (by simp)) (by simp)
  | x :: a, [], _, _, h => absurd ((h x).1 (by simp)) (by simp)
  | x :: a, y :: b, ha, hb, h => by
    rw [List.pairwise_cons] at ha hb
    have hxy : x = y := by
      rcases List.mem_cons.1 ((h x).1 (by simp)) with e | e
      · exact e
      · rcases List.mem_cons.1 ((h y).2 (by simp)) with e' | e'
        · exact e'.symm
        · have := hb.1 _ e; have := ha.1 _ e'; omega
    subst hxy
    congr 1
    refine strict_ext ha.2 hb.2 fun z => ⟨fun hz => ?_, fun hz => ?_⟩
    · rcases List.mem_cons.1 ((h z).1 (by simp [hz])) with e | e
      · have := ha.1 _ hz; omega
      · exact e
    · rcases List.mem_cons.1 ((h z).2 (by simp [hz])) with e | e
      · have := hb.1 _ hz; omega
      · exact e
theorem at_arr (zs : List Int) (j : Nat) (h : j < zs.length) : zs.toArray[j]! = zs[j] := by simp [h]
theorem compactI_strict {zs : List Int} (h : zs.Pairwise (· ≤ ·)) : (compactI zs).Pairwise (· < ·) := by
  unfold compactI Lib.compact Lib.compactUpTo
  rw [List.pairwise_map]
  refine List.Pairwise.imp_of_mem ?_ (List.Pairwise.filter _ List.pairwise_lt_range)
  intro i j hi hj hij
  rw [List.mem_filter, List.mem_range] at hi hj
  have hk := hj.2
  unfold Lib.keeps at hk
  rw [decide_eq_true_eq] at hk
  rw [List.pairwise_iff_getElem] at h
  rw [at_arr zs i hi.1, at_arr zs j hj.1]
  rw [at_arr zs j hj.1, at_arr zs (j - 1) zo] at hk
  have h1 := h (j - 1) j zo hj.1 zo
  have h2 : zs[i] ≤ zs[j - 1] := by
    by_cases e : i = j - 1
    · subst e; exact Int.le_refl _
    · exact h i (j - 1) hi.1 zo zo
  rcases hk with e | e
  · omega
  · omega
theorem mem_compactI {zs : List Int} {x : Int} : x ∈ compactI zs ↔ x ∈ zs := by
  unfold compactI Lib.compact Lib.compactUpTo
  simp only [List.mem_map, List.mem_filter, List.mem_range]
  constructor
  · rintro ⟨j, ⟨hj, _⟩, rfl⟩
    rw [at_arr zs j hj]; exact List.getElem_mem hj
  · intro hx
    obtain ⟨j, hj, e⟩ := List.mem_iff_getElem.1 hx
    induction j with
    | zero => exact ⟨0, ⟨hj, by simp [Lib.keeps]⟩, by rw [at_arr zs 0 hj, e]⟩
    | succ j ih =>
      by_cases h : zs[j]'zo = x
      · exact ih zo h
      · refine ⟨j + 1, ⟨hj, ?_⟩, by rw [at_arr zs _ hj, e]⟩
        unfold Lib.keeps
        rw [decide_eq_true_eq, at_arr zs _ hj, e, Nat.add_sub_cancel, at_arr zs j zo]
        exact .inr (fun q => h q.symm)
theorem sortI_le (zs : List Int) : (sortI zs).Pairwise (· ≤ ·) := by
  have := List.pairwise_mergeSort (le := fun a b : Int => decide (a ≤ b)) (fun a b c h1 h2 => by simp at *; omega) (fun a b => by simp; omega) zs
  exact List.Pairwise.imp (fun h => by simpa using h) this
theorem mem_sortI {zs : List Int} {x : Int} : x ∈ sortI zs ↔ x ∈ zs := List.mem_mergeSort
theorem mem_insFold (n x : Int) : ∀ (l : List Int) (s : List Int × Bool), ((x ∈ (l.foldl (insStep n) s).1 ↔ x ∈ s.1 ∨ (x ∈ l ∧ x ≠ n) ∨ (x = n ∧ s.2 = false ∧ (l.foldl (insStep n) s).2 = true)) ∧ (s.2 = true → (l.foldl (insStep n) s).2 = true))
  | [], s => by
    constructor
    · simp only [List.foldl_nil, List.not_mem_nil, false_and, false_or]
      constructor
      · intro h; exact .inl h
      · rintro (h | ⟨_, h1, h2⟩)
        · exact h
        · rw [h1] at h2; cases h2
    · intro h; exact h
  | y :: l, s => by
    obtain ⟨h1, h2⟩ := mem_insFold n x l (insStep n s y)
    rw [List.foldl_cons]
    obtain ⟨acc, put⟩ := s
    by_cases e : y = n <;> by_cases g : n ≤ y <;> cases put <;> simp [insStep, e, g] at h1 h2 ⊢ <;> (try omega) <;> (generalize (List.foldl _ _ l) = t at *; obtain ⟨t1, t2⟩ := t; cases t2 <;> simp at * <;> (try subst e) <;> (try (constructor <;> intros <;> simp_all <;> omega)) <;> (try grind))
theorem mem_insR (l : List Int) (n x : Int) : x ∈ insR l n ↔ x ∈ l ∨ x = n := by
  have h := (mem_insFold n x l ([], false)).1
  unfold insR
  dsimp only
  generalize l.foldl (insStep n) ([], false) = t at *
  obtain ⟨t1, t2⟩ := t
  cases t2 <;> simp at h ⊢ <;> rw [h] <;> by_cases e : x = n <;> simp [e]
theorem mem_foldl {f : List Int → Int → List Int} (hf : ∀ l n x, x ∈ f l n ↔ x ∈ l ∨ x = n) : ∀ (b a : List Int) (x : Int), x ∈ b.foldl f a ↔ x ∈ a ∨ x ∈ b
  | [], a, x => by simp
  | n :: b, a, x => by rw [List.foldl_cons, mem_foldl hf b (f a n) x, hf, List.mem_cons, or_assoc]
theorem mem_spanI (vs : List View) (x : Int) : x ∈ spanI vs ↔ ∃ v ∈ vs, x ∈ srv v := by
  unfold spanI distinctI
  rw [mem_compactI, mem_sortI, List.mem_flatten]
  constructor
  · rintro ⟨l, hl, hx⟩
    obtain ⟨v, hv, rfl⟩ := List.mem_map.1 hl
    exact ⟨v, hv, hx⟩
  · rintro ⟨v, hv, hx⟩
    exact ⟨srv v, List.mem_map.2 ⟨v, hv, rfl⟩, hx⟩
theorem span_strict (vs : List View) : (spanI vs).Pairwise (· < ·) := compactI_strict (sortI_le _)
theorem span_facts {f : Nat → Nat → Proposal} (hf : Nice f) {c : Config} (hc : IsCut f c) (x z : Int) :
    IsCut f (unionR (partI c x) (partI c z)) ∧ unionR (partI c x) (partI c z) ∈ allB (partI c x) c ∧ unionR (partI c x) (partI c z) ∈ allB (unionR (partI c x) (partI c z)) c ∧
      ∀ A ∈ allB (unionR (partI c x) (partI c z)) c, A ∈ allB (partI c x) c := by
  obtain ⟨i, j, k, i', j', k', hle, h', rfl, hp⟩ := part_sub hf hc x
  obtain ⟨a, b, d, a', b', d', hle2, h2', e, hp2⟩ := part_sub hf hc z
  obtain ⟨rfl, rfl, rfl⟩ := cut_inj hf h' h2' e
  have h : i < 4 ∧ j < 4 ∧ k < 4 := by omega
  have hu : unionR (partI (cut f i' j' k') x) (partI (cut f i' j' k') z) = cut f (max i a) (max j b) (max k d) := by rw [hp, hp2, unionR_cut hf h zo]
  rw [hu, hp, allB_cut hf h h', if_pos hle, allB_cut hf zo h', if_pos zo]
  have hm : ∀ {i j k a b c : Nat}, i ≤ a ∧ a ≤ i' → j ≤ b ∧ b ≤ j' → k ≤ c ∧ c ≤ k' → cut f a b c ∈ allN f i j k i' j' k' := by
    intro i j k a b c h1 h2 h3
    simp only [allN, List.mem_flatMap, List.mem_map, mem_upto]
    exact ⟨a, by omega, b, by omega, c, by omega, by simp⟩
  refine ⟨⟨_, _, _, by omega, rfl⟩, hm zo zo zo, hm zo zo zo, fun A hA => ?_⟩
  obtain ⟨p, q, r, h1, h2, h3, rfl⟩ := mem_allN hA
  exact hm zo zo zo
theorem sum_le_mul {l : List Nat} {m : Nat} (h : ∀ x ∈ l, x ≤ m) : l.sum ≤ l.length * m := by
  induction l with
  | nil => simp
  | cons x l ih =>
    have := ih (fun y hy => h y (by simp [hy]))
    have := h x (by simp)
    rw [List.sum_cons, List.length_cons, Nat.add_mul]; omega
theorem view_len {g : View} (hg : g.members.length ≤ 1000) {c : Config} (hc : c.length ≤ 100) (hp : ∀ p ∈ c, Plain p) : (viewOf g c).members.length ≤ 200000 := by
  have h := (sumS_short hg c (fun p q => (hp p q).1)).1
  show ((List.filter _ (sumS g c).joined).map _).length ≤ _
  rw [List.length_map]
  exact Nat.le_trans (List.length_filter_le _ _) zo
theorem cut_plain {f : Nat → Nat → Proposal} (hl : Lite f) {c : Config} (hc : IsCut f c) : c.length ≤ 100 ∧ ∀ p ∈ c, Plain p := by
  have h9 := (hc.small hl).1
  obtain ⟨i, j, k, h, rfl⟩ := hc
  refine ⟨by omega, fun p hp => ?_⟩
  obtain ⟨a, n, rfl⟩ := mem_cut hp
  exact ⟨by have := hl a n; omega, True.intro⟩
end Go.Proofs
