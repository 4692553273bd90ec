/- Contracts of functions and plain laws: W68, W69, W70, W13, W20, W51, W52, W10, W54, W56, W59, W57, W58, W60, W71, W81. -/
import Derived.Test.YtkklpkjbocnofaaGreatG3
set_option linter.unusedVariables false
set_option linter.unusedSimpArgs false
set_option maxRecDepth 8000
set_option maxHeartbeats 4000000
set_option pp.deepTerms false
set_option pp.deepTerms.threshold 6
namespace Go.Proofs
open Go.AM
attribute [local irreducible] AM.evalR AM.evalD AM.Runs AM.valK AM.dK AM.opK AM.stepR AM.CallS AM.St.Le
def pickT (a b : Summary) : Summary := if b.rule ≠ ⟨0, 0, 0⟩ ∧ (a.rule = ⟨0, 0, 0⟩ ∨ laterB (originW b) (originW a) = true) then b else a
def joinT (a b : Summary) : Summary := ⟨b.joined.foldl insR a.joined, b.removed.foldl insR a.removed, b.weights.foldl weighR a.weights, (pickT a b).rule, (pickT a b).version, (pickT a b).admin, (pickT a b).number⟩
theorem ref_Join (a b : Summary) (ha : Short a 400000) (hb : Short b 400000) : AM.Fn Tryz.prog 69 [suV a, suV b] (suV (joinT a b)) := by
  obtain ⟨a1, a2, a3⟩ := ha
  obtain ⟨b1, b2, b3⟩ := hb
  have hL := ref_later (originW b) (originW a)
  have hgo : ∀ r, pickT a b = r → (⟨b.joined.foldl insR a.joined, b.removed.foldl insR a.removed, b.weights.foldl weighR a.weights, r.rule, r.version, r.admin, r.number⟩ : Summary) = joinT a b := fun r h => by subst h; rfl
  unfold pickT at hgo
  generalize joinT a b = res at *
  obtain ⟨J, R, W, ru, ver, adm, num⟩ := a
  obtain ⟨J', R', W', ru', ver', adm', num'⟩ := b
  unfold originW at hL hgo
  dsimp only at *
  (refine spec_of_runs Tryz.func69 rfl ?_; simp only [Tryz.f69]; refine ys ?_)
  repeat' (first | refine yw ?_ | ((with_reducible refine Runs.is ?_); first | refine Runs.region (id := 0) ?_ | refine Runs.region (id := 1) ?_ | refine Runs.region (id := 2) ?_ | ((with_reducible refine Runs.isC ?_); refine Runs.cond rfl (zc ?_) (zc ?_) <;> intro hc <;> (try (first | contradiction | (exfalso; omega; done) | (have : hc = trivial := rfl; clear this; clear hc))))) | ((with_reducible refine r_is ?_); first | refine yr ?_) | fail)
  refine Runs.loopI (fun k : Nat => J'.length - k) (fun k => k ≤ J'.length)
    (fun k => ⟨[.any, .any, .ptr 2 0 0, .ptr 3 0 0, .ptr 4 0 0, .ptr 5 0 0, .i (k : Nat), .any, .any, .any, .any, .any, .any, .any, .any, .any, .any, .any, .any, .any, .any, .any, .any, .any, .any, .any, .any, .any, .any, .any, .any, .any, .any, .any, .any, .any, .any, .any, .any, .any, .any, .any, .any, .any, .any, .any, .any, .any, .any, .any, .any, .any, .any, .any, .any, .any, .any, .any, .any, .any, .any, .any, .any, .any, .any, .any, .any, .any, .any, .any, .any, .any, .any, .any, .any, .any, .any, .any, .any, .any, .any, .any, .any, .any, .any, .any, .any, .any, .any, .any, .any, .any, .any, .any, .any, .any, .any, .any, .any, .any, .any, .any], [(5, .var 78 (suV ⟨(J'.take k).foldl insR J, R, W, ru, ver, adm, num⟩)), (4, .var 78 (.agg [.sc (.slice none 0 0), .sc (.slice none 0 0), .sc (.slice none 0 0), .i 0, .i 0, .i 0, .i 0, .i 0, .i 0])), (3, .var 78 (suV ⟨J', R', W', ru', ver', adm', num'⟩)), (2, .var 78 (suV ⟨J, R, W, ru, ver, adm, num⟩))]⟩) 0 (by simp) ?_ ?_
  · (refine St.Le.clean zR zU zV)
  rintro k hk ih
  have hst := fun (h : k < J'.length) => foldl_take (g := insR) (s := J) h
  have hend : J'.length ≤ k → (J'.take k).foldl insR J = J'.foldl insR J := fun h => by rw [List.take_of_length_le h]
  have hlen := foldl_len insR_len (J'.take k) J
  rw [List.length_take] at hlen
  generalize (J'.take k).foldl insR J = acc at hst hend hlen ⊢
  by_cases hlt : k < J'.length
  · have hst2 := hst hlt
    have hI := ref_Insert false acc (J'.getD k default) zo
    repeat' (first | refine yw ?_ | ((with_reducible refine Runs.is ?_); first | refine Runs.region (id := 3) ?_ | refine Runs.drawn (id := 5) mixed zK ?_ | refine Runs.region (id := 4) ?_ | ((with_reducible refine Runs.isC ?_); refine Runs.cond rfl (zc ?_) (zc ?_) <;> intro hc <;> (try (first | contradiction | (exfalso; omega; done) | (have : hc = trivial := rfl; clear this; clear hc))))) | ((with_reducible refine r_is ?_); first | refine yr ?_) | ((with_reducible refine d_is ?_); first | refine yd ?_ | (refine d_fn rfl (hI) HbF.h zL2 zD ?_; refine d_nn zN zH ?_)) | fail)
    refine ih (k + 1) _ zo zo ?_
    rw [hst2]
    (refine St.Le.clean zR (by first | (simp [V.usesL, V.uses, AM.look_cons]; done) | (simp [V.usesL, V.uses, AM.look_cons, V.usesL_data, V.uses_data, da_i, da_chV, da_ruV, da_prV, da_enV, da_cfV, da_veV, da_inV, da_edV, da_grV, da_weV, da_mbV, da_suV, da_viV]; done)) ?_; (repeat' (first | exact True.intro | refine And.intro ?_ ?_)); all_goals (first | rfl | (simp [AM.look_cons, suV]; done) | (simp [V.uses, V.usesL, AM.look_cons, V.usesL_data, V.uses_data, da_i, da_chV, da_ruV, da_prV, da_enV, da_cfV, da_veV, da_inV, da_edV, da_grV, da_weV, da_mbV, da_suV, da_viV]; done)))
  have he := hend zo
  subst he
  clear ih hst hend
  generalize J'.foldl insR J = res1 at hgo hlen ⊢
  repeat' (first | refine yw ?_ | ((with_reducible refine Runs.is ?_); first | refine Runs.region (id := 3) ?_ | ((with_reducible refine Runs.isC ?_); refine Runs.cond rfl (zc ?_) (zc ?_) <;> intro hc <;> (try (first | contradiction | (exfalso; omega; done) | (have : hc = trivial := rfl; clear this; clear hc))))) | ((with_reducible refine r_is ?_); first | refine yr ?_) | fail)
  repeat' (first | refine yw ?_ | ((with_reducible refine Runs.is ?_); first | refine Runs.region (id := 6) ?_ | ((with_reducible refine Runs.isC ?_); refine Runs.cond rfl (zc ?_) (zc ?_) <;> intro hc <;> (try (first | contradiction | (exfalso; omega; done) | (have : hc = trivial := rfl; clear this; clear hc))))) | ((with_reducible refine r_is ?_); first | refine yr ?_) | fail)
  refine Runs.loopI (fun k : Nat => R'.length - k) (fun k => k ≤ R'.length)
    (fun k => ⟨[.any, .any, .ptr 2 0 0, .ptr 3 0 0, .ptr 4 0 0, .ptr 5 0 0, .any, .i (k : Nat), .any, .any, .any, .any, .any, .any, .any, .any, .any, .any, .any, .any, .any, .any, .any, .any, .any, .any, .any, .any, .any, .any, .any, .any, .any, .any, .any, .any, .any, .any, .any, .any, .any, .any, .any, .any, .any, .any, .any, .any, .any, .any, .any, .any, .any, .any, .any, .any, .any, .any, .any, .any, .any, .any, .any, .any, .any, .any, .any, .any, .any, .any, .any, .any, .any, .any, .any, .any, .any, .any, .any, .any, .any, .any, .any, .any, .any, .any, .any, .any, .any, .any, .any, .any, .any, .any, .any, .any, .any, .any, .any, .any, .any, .any], [(5, .var 78 (suV ⟨res1, (R'.take k).foldl insR R, W, ru, ver, adm, num⟩)), (4, .var 78 (.agg [.sc (.slice none 0 0), .sc (.slice none 0 0), .sc (.slice none 0 0), .i 0, .i 0, .i 0, .i 0, .i 0, .i 0])), (3, .var 78 (suV ⟨J', R', W', ru', ver', adm', num'⟩)), (2, .var 78 (suV ⟨J, R, W, ru, ver, adm, num⟩))]⟩) 0 (by simp) ?_ ?_
  · (refine St.Le.clean zR zU zV)
  clear hc hk hlt hlen k
  rintro k hk ih
  have hst := fun (h : k < R'.length) => foldl_take (g := insR) (s := R) h
  have hend : R'.length ≤ k → (R'.take k).foldl insR R = R'.foldl insR R := fun h => by rw [List.take_of_length_le h]
  have hlen := foldl_len insR_len (R'.take k) R
  rw [List.length_take] at hlen
  generalize (R'.take k).foldl insR R = acc at hst hend hlen ⊢
  by_cases hlt : k < R'.length
  · have hst2 := hst hlt
    have hI := ref_Insert false acc (R'.getD k default) zo
    repeat' (first | refine yw ?_ | ((with_reducible refine Runs.is ?_); first | refine Runs.region (id := 7) ?_ | refine Runs.drawn (id := 9) mixed zK ?_ | refine Runs.region (id := 8) ?_ | ((with_reducible refine Runs.isC ?_); refine Runs.cond rfl (zc ?_) (zc ?_) <;> intro hc <;> (try (first | contradiction | (exfalso; omega; done) | (have : hc = trivial := rfl; clear this; clear hc))))) | ((with_reducible refine r_is ?_); first | refine yr ?_) | ((with_reducible refine d_is ?_); first | refine yd ?_ | (refine d_fn rfl (hI) HbF.h zL2 zD ?_; refine d_nn zN zH ?_)) | fail)
    refine ih (k + 1) _ zo zo ?_
    rw [hst2]
    (refine St.Le.clean zR (by first | (simp [V.usesL, V.uses, AM.look_cons]; done) | (simp [V.usesL, V.uses, AM.look_cons, V.usesL_data, V.uses_data, da_i, da_chV, da_ruV, da_prV, da_enV, da_cfV, da_veV, da_inV, da_edV, da_grV, da_weV, da_mbV, da_suV, da_viV]; done)) ?_; (repeat' (first | exact True.intro | refine And.intro ?_ ?_)); all_goals (first | rfl | (simp [AM.look_cons, suV]; done) | (simp [V.uses, V.usesL, AM.look_cons, V.usesL_data, V.uses_data, da_i, da_chV, da_ruV, da_prV, da_enV, da_cfV, da_veV, da_inV, da_edV, da_grV, da_weV, da_mbV, da_suV, da_viV]; done)))
  have he := hend zo
  subst he
  clear ih hst hend
  generalize R'.foldl insR R = res2 at hgo hlen ⊢
  repeat' (first | refine yw ?_ | ((with_reducible refine Runs.is ?_); first | refine Runs.region (id := 7) ?_ | ((with_reducible refine Runs.isC ?_); refine Runs.cond rfl (zc ?_) (zc ?_) <;> intro hc <;> (try (first | contradiction | (exfalso; omega; done) | (have : hc = trivial := rfl; clear this; clear hc))))) | ((with_reducible refine r_is ?_); first | refine yr ?_) | fail)
  repeat' (first | refine yw ?_ | ((with_reducible refine Runs.is ?_); first | refine Runs.region (id := 10) ?_ | ((with_reducible refine Runs.isC ?_); refine Runs.cond rfl (zc ?_) (zc ?_) <;> intro hc <;> (try (first | contradiction | (exfalso; omega; done) | (have : hc = trivial := rfl; clear this; clear hc))))) | ((with_reducible refine r_is ?_); first | refine yr ?_) | fail)
  refine Runs.loopI (fun k : Nat => W'.length - k) (fun k => k ≤ W'.length)
    (fun k => ⟨[.any, .any, .ptr 2 0 0, .ptr 3 0 0, .ptr 4 0 0, .ptr 5 0 0, .any, .any, .i (k : Nat), .any, .any, .any, .any, .any, .any, .any, .any, .any, .any, .any, .any, .any, .any, .any, .any, .any, .any, .any, .any, .any, .any, .any, .any, .any, .any, .any, .any, .any, .any, .any, .any, .any, .any, .any, .any, .any, .any, .any, .any, .any, .any, .any, .any, .any, .any, .any, .any, .any, .any, .any, .any, .any, .any, .any, .any, .any, .any, .any, .any, .any, .any, .any, .any, .any, .any, .any, .any, .any, .any, .any, .any, .any, .any, .any, .any, .any, .any, .any, .any, .any, .any, .any, .any, .any, .any, .any, .any, .any, .any, .any, .any, .any], [(5, .var 78 (suV ⟨res1, res2, (W'.take k).foldl weighR W, ru, ver, adm, num⟩)), (4, .var 78 (.agg [.sc (.slice none 0 0), .sc (.slice none 0 0), .sc (.slice none 0 0), .i 0, .i 0, .i 0, .i 0, .i 0, .i 0])), (3, .var 78 (suV ⟨J', R', W', ru', ver', adm', num'⟩)), (2, .var 78 (suV ⟨J, R, W, ru, ver, adm, num⟩))]⟩) 0 (by simp) ?_ ?_
  · (refine St.Le.clean zR zU zV)
  clear hc hk hlt hlen k
  rintro k hk ih
  have hst := fun (h : k < W'.length) => foldl_take (g := weighR) (s := W) h
  have hend : W'.length ≤ k → (W'.take k).foldl weighR W = W'.foldl weighR W := fun h => by rw [List.take_of_length_le h]
  have hlen := foldl_len weighR_len (W'.take k) W
  rw [List.length_take] at hlen
  generalize (W'.take k).foldl weighR W = acc at hst hend hlen ⊢
  by_cases hlt : k < W'.length
  · have hst2 := hst hlt
    have hI := ref_Weigh false acc (W'.getD k default) zo
    repeat' (first | refine yw ?_ | ((with_reducible refine Runs.is ?_); first | refine Runs.region (id := 11) ?_ | refine Runs.drawn (id := 13) mixed zK ?_ | refine Runs.region (id := 12) ?_ | ((with_reducible refine Runs.isC ?_); refine Runs.cond rfl (zc ?_) (zc ?_) <;> intro hc <;> (try (first | contradiction | (exfalso; omega; done) | (have : hc = trivial := rfl; clear this; clear hc))))) | ((with_reducible refine r_is ?_); first | refine yr ?_) | ((with_reducible refine d_is ?_); first | refine yd ?_ | (refine d_fn rfl (hI) HbF.h zL2 zD ?_; refine d_nn zN zH ?_)) | fail)
    refine ih (k + 1) _ zo zo ?_
    rw [hst2]
    (refine St.Le.clean zR (by first | (simp [V.usesL, V.uses, AM.look_cons]; done) | (simp [V.usesL, V.uses, AM.look_cons, V.usesL_data, V.uses_data, da_i, da_chV, da_ruV, da_prV, da_enV, da_cfV, da_veV, da_inV, da_edV, da_grV, da_weV, da_mbV, da_suV, da_viV]; done)) ?_; (repeat' (first | exact True.intro | refine And.intro ?_ ?_)); all_goals (first | rfl | (simp [AM.look_cons, suV]; done) | (simp [V.uses, V.usesL, AM.look_cons, V.usesL_data, V.uses_data, da_i, da_chV, da_ruV, da_prV, da_enV, da_cfV, da_veV, da_inV, da_edV, da_grV, da_weV, da_mbV, da_suV, da_viV]; done)))
  have he := hend zo
  subst he
  clear ih hst hend
  generalize W'.foldl weighR W = res3 at hgo hlen ⊢
  repeat' (first | refine yw ?_ | ((with_reducible refine Runs.is ?_); first | refine Runs.region (id := 11) ?_ | ((with_reducible refine Runs.isC ?_); refine Runs.cond rfl (zc ?_) (zc ?_) <;> intro hc <;> (try (first | contradiction | (exfalso; omega; done) | (have : hc = trivial := rfl; clear this; clear hc))))) | ((with_reducible refine r_is ?_); first | refine yr ?_) | fail)
  repeat' (first | refine yw ?_ | ((with_reducible refine Runs.is ?_); first | refine Runs.region (id := 14) ?_ | refine Runs.region (id := 15) ?_ | refine Runs.region (id := 16) ?_ | refine Runs.region (id := 17) ?_ | refine Runs.region (id := 18) ?_ | refine Runs.region (id := 19) ?_ | refine Runs.region (id := 20) ?_ | refine Runs.region (id := 21) ?_ | ((with_reducible refine Runs.isC ?_); refine Runs.cond rfl (zc ?_) (zc ?_) <;> intro hc <;> (try (first | contradiction | (exfalso; omega; done) | (have : hc = trivial := rfl; clear this; clear hc))))) | ((with_reducible refine r_is ?_); first | refine yr ?_ | (refine r_fn rfl (hL) HbF.h zL2 zD ?_; refine r_nn zN zH ?_) | ((with_reducible refine r_gd ?_); (first | refine r_guardPf rfl rfl ?_ ?_ | refine r_guardNf rfl rfl ?_ ?_ | refine r_guardPt rfl rfl ?_ ?_ | refine r_guardNt rfl rfl ?_ ?_ | refine r_guard rfl rfl ?_ ?_) <;> intro hG <;> (try (exfalso; omega; done)) <;> refine r_nn zN zH ?_)) | fail)
  · rename_i h1
    have hr := hgo _ (if_pos ⟨of_decide_eq_false (rz_n h1), .inr hc⟩)
    subst hr
    clear hgo hG h1 hc
    (refine Runs.retC Tryz.func69 rfl zM rfl TyF.h (And.intro zE zd) zD ?_; try exact zX)
  · have hr := hgo _ (if_neg (fun q => q.2.elim (of_decide_eq_false (rz_p hG)) (fun e => by rw [hc] at e; cases e)))
    subst hr
    clear hgo hG hc
    (refine Runs.retC Tryz.func69 rfl zM rfl TyF.h (And.intro zE zd) zD ?_; try exact zX)
  · rename_i h1
    have hr := hgo _ (if_pos ⟨of_decide_eq_false (rz_n h1), .inl (of_decide_eq_true (rz_p hG))⟩)
    subst hr
    clear hgo hG h1
    (refine Runs.retC Tryz.func69 rfl zM rfl TyF.h (And.intro zE zd) zD ?_; try exact zX)
  · have hr := hgo _ (if_neg (fun q => q.1 (of_decide_eq_true (rz_n hG))))
    subst hr
    clear hgo hG
    (refine Runs.retC Tryz.func69 rfl zM rfl TyF.h (And.intro zE zd) zD ?_; try exact zX)
end Go.Proofs
namespace Go.Proofs
open Go.AM
attribute [local irreducible] AM.evalR AM.evalD AM.Runs AM.valK AM.dK AM.opK AM.stepR AM.CallS AM.St.Le
def sum0 : Summary := ⟨[], [], [], ⟨0, 0, 0⟩, 0, 0, 0⟩
def ofTStep (p : Proposal) (s : Summary) (c : Change) : Summary :=
  if c.kind = 1 then { s with joined := insR s.joined c.server, weights := weighR s.weights ⟨c.server, c.weight, 0, p.admin, p.number⟩ }
  else if c.kind = 2 then { s with removed := insR s.removed c.server }
  else if c.kind = 3 then { s with weights := weighR s.weights ⟨c.server, c.weight, c.version, p.admin, p.number⟩ }
  else if c.kind = 4 then { s with rule := c.rule, version := c.version, admin := p.admin, number := p.number }
  else s
def ofT (p : Proposal) : Summary := p.changes.foldl (ofTStep p) sum0
theorem ofTStep_short {p : Proposal} {s : Summary} {c : Change} {n : Nat} (h : Short s n) : Short (ofTStep p s c) (n + 1) := by
  obtain ⟨h1, h2, h3⟩ := h
  have i1 := insR_len s.joined c.server
  have i2 := insR_len s.removed c.server
  have i3 := weighR_len s.weights ⟨c.server, c.weight, 0, p.admin, p.number⟩
  have i4 := weighR_len s.weights ⟨c.server, c.weight, c.version, p.admin, p.number⟩
  unfold ofTStep Short
  (repeat' split) <;> (try dsimp only) <;> omega
theorem ofT_short {p : Proposal} (k : Nat) (hk : k ≤ p.changes.length) : Short ((p.changes.take k).foldl (ofTStep p) sum0) k := by
  induction k with
  | zero => exact ⟨Nat.le_refl _, Nat.le_refl _, Nat.le_refl _⟩
  | succ k ih =>
    rw [foldl_take zo]
    exact ofTStep_short (ih zo)
theorem ref_Of (p : Proposal) (hp : p.changes.length ≤ 100000) : AM.Fn Tryz.prog 70 [prV p] (suV (ofT p)) := by
  have hgo : ∀ s, p.changes.foldl (ofTStep p) sum0 = s → s = ofT p := fun s h => h.symm
  have hsh := fun k hk => ofT_short (p := p) k hk
  have hgen : ∃ q : Proposal, q = p := ⟨p, rfl⟩
  obtain ⟨ad, nu, cs⟩ := p
  dsimp only at hp hgo hsh
  (refine spec_of_runs Tryz.func70 rfl ?_; simp only [Tryz.f70]; refine ys ?_)
  repeat' (first | refine yw ?_ | ((with_reducible refine Runs.is ?_); first | refine Runs.region (id := 0) ?_ | refine Runs.region (id := 1) ?_ | refine Runs.region (id := 2) ?_ | ((with_reducible refine Runs.isC ?_); refine Runs.cond rfl (zc ?_) (zc ?_) <;> intro hc <;> (try (first | contradiction | (exfalso; omega; done) | (have : hc = trivial := rfl; clear this; clear hc))))) | ((with_reducible refine r_is ?_); first | refine yr ?_) | fail)
  refine Runs.weaken (St.Le.nilVar 20 3 0 3 1 zd rfl rfl rfl) ?_
  (refine Runs.weaken (St.Le.freeze_lst 20 rfl) ?_; refine yf ?_)
  refine Runs.weaken (St.Le.nilVar 20 3 1 3 1 zd rfl rfl rfl) ?_
  (refine Runs.weaken (St.Le.freeze_lst 20 rfl) ?_; refine yf ?_)
  refine Runs.weaken (St.Le.nilVar 20 3 2 98 5 zd rfl rfl rfl) ?_
  (refine Runs.weaken (St.Le.freeze_lst 20 rfl) ?_; refine yf ?_)
  refine Runs.loopI (fun k : Nat => cs.length - k) (fun k => k ≤ cs.length)
    (fun k => ⟨[.any, .ptr 1 0 0, .ptr 2 0 0, .ptr 3 0 0, .i (k : Nat), .any, .any, .any, .any, .any, .any, .any, .any, .any, .any, .any, .any, .any, .any, .any, .any, .any, .any, .any, .any, .any, .any, .any, .any, .any, .any, .any, .any, .any, .any, .any, .any, .any, .any, .any, .any, .any, .any, .any, .any, .any, .any, .any, .any, .any, .any, .any, .any, .any, .any, .any, .any, .any, .any, .any, .any, .any, .any, .any, .any, .any, .any, .any, .any, .any, .any, .any, .any, .any, .any, .any, .any, .any, .any, .any, .any, .any], [(3, .var 78 (suV ((cs.take k).foldl (ofTStep ⟨ad, nu, cs⟩) sum0))), (2, .var 78 (.agg [.sc (.slice none 0 0), .sc (.slice none 0 0), .sc (.slice none 0 0), .i 0, .i 0, .i 0, .i 0, .i 0, .i 0])), (1, .var 62 (prV ⟨ad, nu, cs⟩))]⟩) 0 (by simp) ?_ ?_
  · (refine St.Le.clean zR zU zV)
  rintro k hk ih
  have hst := fun (h : k < cs.length) => foldl_take (g := ofTStep ⟨ad, nu, cs⟩) (s := sum0) h
  have hend : cs.length ≤ k → (cs.take k).foldl (ofTStep ⟨ad, nu, cs⟩) sum0 = ofT ⟨ad, nu, cs⟩ := fun h => by rw [List.take_of_length_le h]; rfl
  have hshk := hsh k hk
  generalize (cs.take k).foldl (ofTStep ⟨ad, nu, cs⟩) sum0 = s at hst hend hshk ⊢
  clear hgo hsh
  by_cases hlt : k < cs.length
  · have hst2 := hst hlt
    clear hst hend
    obtain ⟨s1, s2, s3⟩ := hshk
    have hI1 := ref_Insert false s.joined (cs.getD k default).server zo
    have hI2 := ref_Insert false s.removed (cs.getD k default).server zo
    have hW1 := ref_Weigh false s.weights ⟨(cs.getD k default).server, (cs.getD k default).weight, 0, ad, nu⟩ zo
    have hW2 := ref_Weigh false s.weights ⟨(cs.getD k default).server, (cs.getD k default).weight, (cs.getD k default).version, ad, nu⟩ zo
    rw [ofTStep] at hst2
    dsimp only at hst2
    repeat' (first | refine yw ?_ | ((with_reducible refine Runs.is ?_); first | refine Runs.region (id := 3) ?_ | refine Runs.region (id := 5) ?_ | refine Runs.region (id := 6) ?_ | refine Runs.region (id := 7) ?_ | refine Runs.region (id := 8) ?_ | refine Runs.region (id := 9) ?_ | refine Runs.region (id := 10) ?_ | refine Runs.region (id := 11) ?_ | refine Runs.region (id := 12) ?_ | refine Runs.region (id := 13) ?_ | refine Runs.region (id := 14) ?_ | refine Runs.region (id := 15) ?_ | refine Runs.region (id := 16) ?_ | refine Runs.region (id := 17) ?_ | refine Runs.region (id := 18) ?_ | refine Runs.region (id := 4) ?_ | ((with_reducible refine Runs.isC ?_); refine Runs.cond rfl (zc ?_) (zc ?_) <;> intro hc <;> (try (first | contradiction | (exfalso; omega; done) | (have : hc = trivial := rfl; clear this; clear hc))))) | ((with_reducible refine r_is ?_); first | refine yr ?_ | (refine r_fn rfl (hI1) HbF.h zL2 zD ?_; refine r_nn zN zH ?_) | (refine r_fn rfl (hI2) HbF.h zL2 zD ?_; refine r_nn zN zH ?_) | (refine r_fn rfl (hW1) HbF.h zL2 zD ?_; refine r_nn zN zH ?_) | (refine r_fn rfl (hW2) HbF.h zL2 zD ?_; refine r_nn zN zH ?_)) | fail)
    all_goals (refine ih (k + 1) _ zo zo ?_)
    · rw [hst2, if_pos (by assumption)]
      (refine St.Le.clean zR (by first | (simp [V.usesL, V.uses, AM.look_cons]; done) | (simp [V.usesL, V.uses, AM.look_cons, V.usesL_data, V.uses_data, da_i, da_chV, da_ruV, da_prV, da_enV, da_cfV, da_veV, da_inV, da_edV, da_grV, da_weV, da_mbV, da_suV, da_viV]; done)) ?_; (repeat' (first | exact True.intro | refine And.intro ?_ ?_)); all_goals (first | rfl | (simp [AM.look_cons, suV]; done) | (simp [V.uses, V.usesL, AM.look_cons, V.usesL_data, V.uses_data, da_i, da_chV, da_ruV, da_prV, da_enV, da_cfV, da_veV, da_inV, da_edV, da_grV, da_weV, da_mbV, da_suV, da_viV]; done)))
    · rw [hst2, if_neg zo, if_pos (by assumption)]
      (refine St.Le.clean zR (by first | (simp [V.usesL, V.uses, AM.look_cons]; done) | (simp [V.usesL, V.uses, AM.look_cons, V.usesL_data, V.uses_data, da_i, da_chV, da_ruV, da_prV, da_enV, da_cfV, da_veV, da_inV, da_edV, da_grV, da_weV, da_mbV, da_suV, da_viV]; done)) ?_; (repeat' (first | exact True.intro | refine And.intro ?_ ?_)); all_goals (first | rfl | (simp [AM.look_cons, suV]; done) | (simp [V.uses, V.usesL, AM.look_cons, V.usesL_data, V.uses_data, da_i, da_chV, da_ruV, da_prV, da_enV, da_cfV, da_veV, da_inV, da_edV, da_grV, da_weV, da_mbV, da_suV, da_viV]; done)))
    · rw [hst2, if_neg zo, if_neg zo, if_pos (by assumption)]
      (refine St.Le.clean zR (by first | (simp [V.usesL, V.uses, AM.look_cons]; done) | (simp [V.usesL, V.uses, AM.look_cons, V.usesL_data, V.uses_data, da_i, da_chV, da_ruV, da_prV, da_enV, da_cfV, da_veV, da_inV, da_edV, da_grV, da_weV, da_mbV, da_suV, da_viV]; done)) ?_; (repeat' (first | exact True.intro | refine And.intro ?_ ?_)); all_goals (first | rfl | (simp [AM.look_cons, suV]; done) | (simp [V.uses, V.usesL, AM.look_cons, V.usesL_data, V.uses_data, da_i, da_chV, da_ruV, da_prV, da_enV, da_cfV, da_veV, da_inV, da_edV, da_grV, da_weV, da_mbV, da_suV, da_viV]; done)))
    · rw [hst2, if_neg zo, if_neg zo, if_neg zo, if_pos (by assumption)]
      (refine St.Le.clean zR (by first | (simp [V.usesL, V.uses, AM.look_cons]; done) | (simp [V.usesL, V.uses, AM.look_cons, V.usesL_data, V.uses_data, da_i, da_chV, da_ruV, da_prV, da_enV, da_cfV, da_veV, da_inV, da_edV, da_grV, da_weV, da_mbV, da_suV, da_viV]; done)) ?_; (repeat' (first | exact True.intro | refine And.intro ?_ ?_)); all_goals (first | rfl | (simp [AM.look_cons, suV]; done) | (simp [V.uses, V.usesL, AM.look_cons, V.usesL_data, V.uses_data, da_i, da_chV, da_ruV, da_prV, da_enV, da_cfV, da_veV, da_inV, da_edV, da_grV, da_weV, da_mbV, da_suV, da_viV]; done)))
    · rw [hst2, if_neg zo, if_neg zo, if_neg zo, if_neg zo]
      (refine St.Le.clean zR (by first | (simp [V.usesL, V.uses, AM.look_cons]; done) | (simp [V.usesL, V.uses, AM.look_cons, V.usesL_data, V.uses_data, da_i, da_chV, da_ruV, da_prV, da_enV, da_cfV, da_veV, da_inV, da_edV, da_grV, da_weV, da_mbV, da_suV, da_viV]; done)) ?_; (repeat' (first | exact True.intro | refine And.intro ?_ ?_)); all_goals (first | rfl | (simp [AM.look_cons, suV]; done) | (simp [V.uses, V.usesL, AM.look_cons, V.usesL_data, V.uses_data, da_i, da_chV, da_ruV, da_prV, da_enV, da_cfV, da_veV, da_inV, da_edV, da_grV, da_weV, da_mbV, da_suV, da_viV]; done)))
  · have he := hend zo
    subst he
    repeat' (first | refine yw ?_ | ((with_reducible refine Runs.is ?_); first | refine Runs.region (id := 3) ?_ | ((with_reducible refine Runs.isC ?_); refine Runs.cond rfl (zc ?_) (zc ?_) <;> intro hc <;> (try (first | contradiction | (exfalso; omega; done) | (have : hc = trivial := rfl; clear this; clear hc))))) | ((with_reducible refine r_is ?_); first | refine yr ?_) | fail)
    repeat' (first | refine yw ?_ | ((with_reducible refine Runs.is ?_); first | refine Runs.region (id := 19) ?_ | ((with_reducible refine Runs.isC ?_); refine Runs.cond rfl (zc ?_) (zc ?_) <;> intro hc <;> (try (first | contradiction | (exfalso; omega; done) | (have : hc = trivial := rfl; clear this; clear hc))))) | ((with_reducible refine r_is ?_); first | refine yr ?_) | fail)
    (refine Runs.retC Tryz.func70 rfl zM rfl TyF.h (And.intro zE zd) zD ?_; try exact zX)
end Go.Proofs
namespace Go.Proofs
open Go.AM
attribute [local irreducible] AM.evalR AM.evalD AM.Runs AM.valK AM.dK AM.opK AM.stepR AM.CallS AM.St.Le
def sumTStep (s : Summary) (p : Proposal) : Summary := joinT s (ofT p)
def sumT (g : View) (c : Config) : Summary := c.foldl sumTStep (initS g)
theorem joinT_short {a b : Summary} {m n : Nat} (ha : Short a m) (hb : Short b n) : Short (joinT a b) (m + n) := by
  have h1 := foldl_len insR_len b.joined a.joined
  have h2 := foldl_len insR_len b.removed a.removed
  have h3 := foldl_len weighR_len b.weights a.weights
  obtain ⟨a1, a2, a3⟩ := ha
  obtain ⟨b1, b2, b3⟩ := hb
  exact ⟨Nat.le_trans h1 zo, Nat.le_trans h2 zo, Nat.le_trans h3 zo⟩
theorem ofT_short1 {p : Proposal} (h : p.changes.length ≤ 1000) : Short (ofT p) 1000 := by
  have := ofT_short (p := p) p.changes.length (Nat.le_refl _)
  rw [List.take_of_length_le (Nat.le_refl _)] at this
  obtain ⟨h1, h2, h3⟩ := this
  exact ⟨Nat.le_trans h1 h, Nat.le_trans h2 h, Nat.le_trans h3 h⟩
theorem sumT_short {g : View} (hg : g.members.length ≤ 1000) : ∀ (c : Config), (∀ p ∈ c, p.changes.length ≤ 1000) → Short (sumT g c) (1000 + 1000 * c.length) := by
  intro c
  have gen : ∀ (c : Config) (s : Summary) (n : Nat), Short s n → (∀ p ∈ c, p.changes.length ≤ 1000) → Short (c.foldl sumTStep s) (n + 1000 * c.length) := by
    intro c
    induction c with
    | nil => intro s n hs _; simpa using hs
    | cons p c ih =>
      intro s n hs hc
      have h1 := joinT_short hs (ofT_short1 (hc p (by simp)))
      have h2 := ih (sumTStep s p) (n + 1000) h1 (fun q hq => hc q (by simp [hq]))
      rw [List.foldl_cons, List.length_cons]
      rw [show n + 1000 * (c.length + 1) = n + 1000 + 1000 * c.length by omega]; exact h2
  exact gen c (initS g) 1000 (initS_short hg)
theorem Short.mono {s : Summary} {m n : Nat} (h : Short s m) (hmn : m ≤ n) : Short s n := ⟨Nat.le_trans h.1 hmn, Nat.le_trans h.2.1 hmn, Nat.le_trans h.2.2 hmn⟩
theorem ref_Summarize (f : Bool) (g : View) (c : Config) (hg : g.members.length ≤ 1000) (hc : c.length ≤ 100) (hp : ∀ p ∈ c, Plain p) : AM.Fn Tryz.prog 43 [viV g, .sl f (c.map prV)] (suV (sumT g c)) := by
  (refine spec_of_runs Tryz.func43 rfl ?_; simp only [Tryz.f43]; refine ys ?_)
  repeat' (first | refine yw ?_ | ((with_reducible refine Runs.is ?_); first | refine Runs.region (id := 0) ?_ | refine Runs.region (id := 1) ?_ | refine Runs.region (id := 2) ?_ | ((with_reducible refine Runs.isC ?_); refine Runs.cond rfl (zc ?_) (zc ?_) <;> intro hc <;> (try (first | contradiction | (exfalso; omega; done) | (have : hc = trivial := rfl; clear this; clear hc))))) | ((with_reducible refine r_is ?_); first | refine yr ?_ | (refine r_fn rfl (ref_Initial g zo) HbF.h zL1 zD ?_; refine r_nn zN zH ?_)) | fail)
  refine Runs.loopI (fun k : Nat => c.length - k) (fun k => k ≤ c.length)
    (fun k => ⟨[.any, .sl f (c.map prV), .any, .any, .ptr 4 0 0, .ptr 5 0 0, .i (k : Nat), .any, .any, .any, .any, .any, .any, .any, .any, .any, .any, .any, .any, .any, .any, .any, .any], [(5, .var 78 (suV (sumT g (c.take k)))), (4, .var 78 (.agg [.sc (.slice none 0 0), .sc (.slice none 0 0), .sc (.slice none 0 0), .i 0, .i 0, .i 0, .i 0, .i 0, .i 0]))]⟩) 0 (by simp) ?_ ?_
  · (refine St.Le.clean zR zU zV)
  rintro k hk ih
  have hst := fun (h : k < c.length) => foldl_take (g := sumTStep) (s := initS g) h
  have hend : c.length ≤ k → sumT g (c.take k) = sumT g c := fun h => by rw [List.take_of_length_le h]
  have hsh := sumT_short hg (c.take k) (fun p q => (hp p (List.mem_of_mem_take q)).1)
  rw [List.length_take] at hsh
  have hpl : k < c.length → Plain (c.getD k default) := fun h => hp _ (by rw [List.getD_eq_getElem?_getD, List.getElem?_eq_getElem h]; exact List.getElem_mem h)
  change k < c.length → sumT g (c.take (k + 1)) = sumTStep (sumT g (c.take k)) (c.getD k default) at hst
  generalize sumT g (c.take k) = s at hst hend hsh ⊢
  by_cases hlt : k < c.length
  · have hst2 : sumT g (c.take (k + 1)) = joinT s (ofT (c.getD k default)) := hst hlt
    have hp2 := hpl hlt
    have hOf := ref_Of (c.getD k default) (Nat.le_trans hp2.1 zd)
    have hJn := ref_Join s (ofT (c.getD k default)) (hsh.mono zo) ((ofT_short1 hp2.1).mono zd)
    generalize ofT (c.getD k default) = q at hOf hJn hst2
    repeat' (first | refine yw ?_ | ((with_reducible refine Runs.is ?_); first | refine Runs.region (id := 3) ?_ | refine Runs.drawn (id := 5) mixed zK ?_ | refine Runs.region (id := 4) ?_ | ((with_reducible refine Runs.isC ?_); refine Runs.cond rfl (zc ?_) (zc ?_) <;> intro hc <;> (try (first | contradiction | (exfalso; omega; done) | (have : hc = trivial := rfl; clear this; clear hc))))) | ((with_reducible refine r_is ?_); first | refine yr ?_) | ((with_reducible refine d_is ?_); first | refine yd ?_ | (refine d_fn rfl (hOf) HbF.h zL1 zD ?_; refine d_nn zN zH ?_) | (refine d_fn rfl (hJn) HbF.h zL2 zD ?_; refine d_nn zN zH ?_)) | fail)
    refine ih (k + 1) _ zo zo ?_
    rw [hst2]
    (refine St.Le.clean zR zU zV)
  · have he := hend zo
    subst he
    repeat' (first | refine yw ?_ | ((with_reducible refine Runs.is ?_); first | refine Runs.region (id := 3) ?_ | ((with_reducible refine Runs.isC ?_); refine Runs.cond rfl (zc ?_) (zc ?_) <;> intro hc <;> (try (first | contradiction | (exfalso; omega; done) | (have : hc = trivial := rfl; clear this; clear hc))))) | ((with_reducible refine r_is ?_); first | refine yr ?_) | fail)
    repeat' (first | refine yw ?_ | ((with_reducible refine Runs.is ?_); first | refine Runs.region (id := 6) ?_ | ((with_reducible refine Runs.isC ?_); refine Runs.cond rfl (zc ?_) (zc ?_) <;> intro hc <;> (try (first | contradiction | (exfalso; omega; done) | (have : hc = trivial := rfl; clear this; clear hc))))) | ((with_reducible refine r_is ?_); first | refine yr ?_) | fail)
    (refine Runs.retC Tryz.func43 rfl zM rfl TyF.h (And.intro zE zd) zD ?_; try exact zX)
def vAccT (R : List Int) (W : List WeightEntry) (l : List Int) : List Member := (l.filter fun x => !R.any fun y => decide (y = x)).map fun x => ⟨x, weightR W x⟩
def viewT (s : Summary) : View := ⟨vAccT s.removed s.weights s.joined, viewRule s.rule⟩
theorem vAccT_snoc (R : List Int) (W : List WeightEntry) (l : List Int) (x : Int) : vAccT R W (l ++ [x]) = vAccT R W l ++ (if (R.any fun y => decide (y = x)) = true then [] else [⟨x, weightR W x⟩]) := by
  unfold vAccT
  rw [List.filter_append, List.map_append]
  congr 1
  cases h : R.any fun y => decide (y = x) <;> simp [h]
theorem vAccT_len (R : List Int) (W : List WeightEntry) (l : List Int) : (vAccT R W l).length ≤ l.length := by
  unfold vAccT; rw [List.length_map]; exact List.length_filter_le _ _
theorem ref_View (s : Summary) (hs : s.joined.length ≤ 1000000) (hw0 : s.weights.length ≤ 1000000) : AM.Fn Tryz.prog 42 [suV s] (viV (viewT s)) := by
  have hwt := fun x => ref_weight s x hw0
  obtain ⟨J, R, W, ru, ver, adm, num⟩ := s
  dsimp only at hs hw0 hwt
  have main : ∀ r2 : Rule, viewRule ru = r2 → AM.Fn Tryz.prog 42 [suV ⟨J, R, W, ru, ver, adm, num⟩] (viV ⟨vAccT R W J, r2⟩) := by
    intro r2 hr2
    unfold viewRule at hr2
    (refine spec_of_runs Tryz.func42 rfl ?_; simp only [Tryz.f42]; refine ys ?_)
    repeat' (first | refine yw ?_ | ((with_reducible refine Runs.is ?_); first | refine Runs.region (id := 0) ?_ | refine Runs.region (id := 1) ?_ | refine Runs.region (id := 2) ?_ | refine Runs.region (id := 3) ?_ | refine Runs.region (id := 4) ?_ | ((with_reducible refine Runs.isC ?_); refine Runs.cond rfl (zc ?_) (zc ?_) <;> intro hc <;> (try (first | contradiction | (exfalso; omega; done) | (have : hc = trivial := rfl; clear this; clear hc))))) | ((with_reducible refine r_is ?_); first | refine yr ?_) | fail)
    · rw [if_pos hc] at hr2
      subst hr2
      clear hc
      refine Runs.weaken (St.Le.nilVar 50 3 0 53 2 zd rfl rfl rfl) ?_
      refine Runs.loopI (fun k : Nat => J.length - k) (fun k => k ≤ J.length)
        (fun k => ⟨[.any, .ptr 1 0 0, .ptr 2 0 0, .ptr 3 0 0, .i (k : Nat), .any, .any, .any, .any, .any, .any, .any, .any, .any, .any, .any, .any, .any, .any, .any, .any, .any, .any, .any, .any, .any, .any, .any, .any, .any, .any, .any, .any, .any, .any, .any, .any, .any, .any, .any, .any, .any, .any, .any, .any, .any, .any, .any, .any], [(50, .lst 53 2 ((vAccT R W (J.take k)).map mbV)), (3, .var 41 (.agg [.own 50, .i (⟨1, 0, 0⟩ : Rule).kind, .i (⟨1, 0, 0⟩ : Rule).columns, .i (⟨1, 0, 0⟩ : Rule).faulty])), (2, .var 41 (.agg [.sc (.slice none 0 0), .i 0, .i 0, .i 0])), (1, .var 78 (suV ⟨J, R, W, ru, ver, adm, num⟩))]⟩) 0 (by simp) ?_ ?_
      · (refine St.Le.clean zR zU zV)
      rintro k hk ih
      have hst := fun (h : k < J.length) => vAccT_snoc R W (J.take k) (J.getD k default)
      have htk := fun (h : k < J.length) => take_getD (xs := J) h
      have hend : J.length ≤ k → vAccT R W (J.take k) = vAccT R W J := fun h => by rw [List.take_of_length_le h]
      have hl : (vAccT R W (J.take k)).length ≤ 1000000 := by
        have := vAccT_len R W (J.take k)
        rw [List.length_take] at this; omega
      generalize vAccT R W (J.take k) = acc at hst hend hl ⊢
      by_cases hlt : k < J.length
      · have hst2 := hst hlt
        have htk2 := htk hlt
        have hI := ref_In false R (J.getD k default)
        have hw2 := hwt (J.getD k default)
        cases hb : R.any fun y => decide (y = J.getD k default)
        · rw [hb] at hI
          rw [if_neg (by rw [hb]; decide)] at hst2
          repeat' (first | refine yw ?_ | ((with_reducible refine Runs.is ?_); first | refine Runs.region (id := 5) ?_ | refine Runs.drawn (id := 7) mixed zK ?_ | refine Runs.region (id := 6) ?_ | ((with_reducible refine Runs.isC ?_); refine Runs.cond rfl (zc ?_) (zc ?_) <;> intro hc <;> (try (first | contradiction | (exfalso; omega; done) | (have : hc = trivial := rfl; clear this; clear hc))))) | ((with_reducible refine r_is ?_); first | refine yr ?_) | ((with_reducible refine d_is ?_); first | refine yd ?_ | (refine d_fn rfl (hI) HbF.h zL2 zD ?_; refine d_nn zN zH ?_)) | fail)
          refine Runs.drawnT [] 16 mixed zK (by decide +kernel) ?_
          dsimp only [List.take, List.drop]
          repeat' (first | (with_reducible refine And.intro (by intro a i h; cases h) ?_) | refine yw ?_ | ((with_reducible refine Runs.is ?_); first | (refine Runs.drawnT (id := 8) [] 16 mixed zK (by decide +kernel) ?_; dsimp only [List.take, List.drop]) | refine Runs.drawn (id := 8) mixed zK ?_ | ((with_reducible refine Runs.isC ?_); refine Runs.cond rfl (zc ?_) (zc ?_) <;> intro hc <;> (try (first | contradiction | (exfalso; omega; done) | (have : hc = trivial := rfl; clear this; clear hc))))) | ((with_reducible refine r_is ?_); first | refine yr ?_ | (refine r_append_full SlF.h SlF.s ZoF.h zd rfl rfl zC zJ zS rfl (fun hn => ?_) (fun hn => ?_) <;> refine r_nn zN zH ?_)) | ((with_reducible refine d_is ?_); first | refine yd ?_ | (refine d_fn rfl (hw2) HbF.h zL2 zD ?_; refine d_nn zN zH ?_)) | fail)
          refine And.intro (by intro a i h; cases h) ?_
          refine yr ?_
          repeat' (first | refine yw ?_ | ((with_reducible refine Runs.is ?_); first | refine Runs.region (id := 6) ?_ | ((with_reducible refine Runs.isC ?_); refine Runs.cond rfl (zc ?_) (zc ?_) <;> intro hc <;> (try (first | contradiction | (exfalso; omega; done) | (have : hc = trivial := rfl; clear this; clear hc))))) | ((with_reducible refine r_is ?_); first | refine yr ?_) | fail)
          refine ih (k + 1) _ zo zo ?_
          rw [htk2, hst2]
          (refine St.Le.clean zR (by first | (simp [V.usesL, V.uses, AM.look_cons]; done) | (simp [V.usesL, V.uses, AM.look_cons, V.usesL_data, V.uses_data, da_i, da_chV, da_ruV, da_prV, da_enV, da_cfV, da_veV, da_inV, da_edV, da_grV, da_weV, da_mbV, da_suV, da_viV]; done)) ?_; (repeat' (first | exact True.intro | refine And.intro ?_ ?_)); all_goals (first | rfl | (simp [AM.look_cons, mbV]; done) | (simp [V.uses, V.usesL, AM.look_cons, V.usesL_data, V.uses_data, da_i, da_chV, da_ruV, da_prV, da_enV, da_cfV, da_veV, da_inV, da_edV, da_grV, da_weV, da_mbV, da_suV, da_viV]; done)))
        · rw [hb] at hI
          rw [if_pos hb, List.append_nil] at hst2
          repeat' (first | refine yw ?_ | ((with_reducible refine Runs.is ?_); first | refine Runs.region (id := 5) ?_ | refine Runs.drawn (id := 7) mixed zK ?_ | refine Runs.region (id := 6) ?_ | ((with_reducible refine Runs.isC ?_); refine Runs.cond rfl (zc ?_) (zc ?_) <;> intro hc <;> (try (first | contradiction | (exfalso; omega; done) | (have : hc = trivial := rfl; clear this; clear hc))))) | ((with_reducible refine r_is ?_); first | refine yr ?_) | ((with_reducible refine d_is ?_); first | refine yd ?_ | (refine d_fn rfl (hI) HbF.h zL2 zD ?_; refine d_nn zN zH ?_)) | fail)
          repeat' (first | refine yw ?_ | ((with_reducible refine Runs.is ?_); first | refine Runs.region (id := 6) ?_ | ((with_reducible refine Runs.isC ?_); refine Runs.cond rfl (zc ?_) (zc ?_) <;> intro hc <;> (try (first | contradiction | (exfalso; omega; done) | (have : hc = trivial := rfl; clear this; clear hc))))) | ((with_reducible refine r_is ?_); first | refine yr ?_) | fail)
          refine ih (k + 1) _ zo zo ?_
          rw [htk2, hst2]
          (refine St.Le.clean zR zU zV)
      · have he := hend zo
        subst he
        repeat' (first | refine yw ?_ | ((with_reducible refine Runs.is ?_); first | refine Runs.region (id := 5) ?_ | ((with_reducible refine Runs.isC ?_); refine Runs.cond rfl (zc ?_) (zc ?_) <;> intro hc <;> (try (first | contradiction | (exfalso; omega; done) | (have : hc = trivial := rfl; clear this; clear hc))))) | ((with_reducible refine r_is ?_); first | refine yr ?_) | fail)
        repeat' (first | refine yw ?_ | ((with_reducible refine Runs.is ?_); first | refine Runs.region (id := 9) ?_ | ((with_reducible refine Runs.isC ?_); refine Runs.cond rfl (zc ?_) (zc ?_) <;> intro hc <;> (try (first | contradiction | (exfalso; omega; done) | (have : hc = trivial := rfl; clear this; clear hc))))) | ((with_reducible refine r_is ?_); first | refine yr ?_) | fail)
        (refine Runs.weaken (St.Le.freeze_lst 50 rfl) ?_; refine yf ?_)
        (refine Runs.retC Tryz.func42 rfl zM rfl TyF.h (And.intro zE zd) zD ?_; try exact zX)
    · rw [if_neg hc] at hr2
      subst hr2
      clear hc
      refine Runs.weaken (St.Le.nilVar 50 3 0 53 2 zd rfl rfl rfl) ?_
      refine Runs.loopI (fun k : Nat => J.length - k) (fun k => k ≤ J.length)
        (fun k => ⟨[.any, .ptr 1 0 0, .ptr 2 0 0, .ptr 3 0 0, .i (k : Nat), .any, .any, .any, .any, .any, .any, .any, .any, .any, .any, .any, .any, .any, .any, .any, .any, .any, .any, .any, .any, .any, .any, .any, .any, .any, .any, .any, .any, .any, .any, .any, .any, .any, .any, .any, .any, .any, .any, .any, .any, .any, .any, .any, .any], [(50, .lst 53 2 ((vAccT R W (J.take k)).map mbV)), (3, .var 41 (.agg [.own 50, .i ru.kind, .i ru.columns, .i ru.faulty])), (2, .var 41 (.agg [.sc (.slice none 0 0), .i 0, .i 0, .i 0])), (1, .var 78 (suV ⟨J, R, W, ru, ver, adm, num⟩))]⟩) 0 (by simp) ?_ ?_
      · (refine St.Le.clean zR zU zV)
      rintro k hk ih
      have hst := fun (h : k < J.length) => vAccT_snoc R W (J.take k) (J.getD k default)
      have htk := fun (h : k < J.length) => take_getD (xs := J) h
      have hend : J.length ≤ k → vAccT R W (J.take k) = vAccT R W J := fun h => by rw [List.take_of_length_le h]
      have hl : (vAccT R W (J.take k)).length ≤ 1000000 := by
        have := vAccT_len R W (J.take k)
        rw [List.length_take] at this; omega
      generalize vAccT R W (J.take k) = acc at hst hend hl ⊢
      by_cases hlt : k < J.length
      · have hst2 := hst hlt
        have htk2 := htk hlt
        have hI := ref_In false R (J.getD k default)
        have hw2 := hwt (J.getD k default)
        cases hb : R.any fun y => decide (y = J.getD k default)
        · rw [hb] at hI
          rw [if_neg (by rw [hb]; decide)] at hst2
          repeat' (first | refine yw ?_ | ((with_reducible refine Runs.is ?_); first | refine Runs.region (id := 5) ?_ | refine Runs.drawn (id := 7) mixed zK ?_ | refine Runs.region (id := 6) ?_ | ((with_reducible refine Runs.isC ?_); refine Runs.cond rfl (zc ?_) (zc ?_) <;> intro hc <;> (try (first | contradiction | (exfalso; omega; done) | (have : hc = trivial := rfl; clear this; clear hc))))) | ((with_reducible refine r_is ?_); first | refine yr ?_) | ((with_reducible refine d_is ?_); first | refine yd ?_ | (refine d_fn rfl (hI) HbF.h zL2 zD ?_; refine d_nn zN zH ?_)) | fail)
          refine Runs.drawnT [] 16 mixed zK (by decide +kernel) ?_
          dsimp only [List.take, List.drop]
          repeat' (first | (with_reducible refine And.intro (by intro a i h; cases h) ?_) | refine yw ?_ | ((with_reducible refine Runs.is ?_); first | (refine Runs.drawnT (id := 8) [] 16 mixed zK (by decide +kernel) ?_; dsimp only [List.take, List.drop]) | refine Runs.drawn (id := 8) mixed zK ?_ | ((with_reducible refine Runs.isC ?_); refine Runs.cond rfl (zc ?_) (zc ?_) <;> intro hc <;> (try (first | contradiction | (exfalso; omega; done) | (have : hc = trivial := rfl; clear this; clear hc))))) | ((with_reducible refine r_is ?_); first | refine yr ?_ | (refine r_append_full SlF.h SlF.s ZoF.h zd rfl rfl zC zJ zS rfl (fun hn => ?_) (fun hn => ?_) <;> refine r_nn zN zH ?_)) | ((with_reducible refine d_is ?_); first | refine yd ?_ | (refine d_fn rfl (hw2) HbF.h zL2 zD ?_; refine d_nn zN zH ?_)) | fail)
          refine And.intro (by intro a i h; cases h) ?_
          refine yr ?_
          repeat' (first | refine yw ?_ | ((with_reducible refine Runs.is ?_); first | refine Runs.region (id := 6) ?_ | ((with_reducible refine Runs.isC ?_); refine Runs.cond rfl (zc ?_) (zc ?_) <;> intro hc <;> (try (first | contradiction | (exfalso; omega; done) | (have : hc = trivial := rfl; clear this; clear hc))))) | ((with_reducible refine r_is ?_); first | refine yr ?_) | fail)
          refine ih (k + 1) _ zo zo ?_
          rw [htk2, hst2]
          (refine St.Le.clean zR (by first | (simp [V.usesL, V.uses, AM.look_cons]; done) | (simp [V.usesL, V.uses, AM.look_cons, V.usesL_data, V.uses_data, da_i, da_chV, da_ruV, da_prV, da_enV, da_cfV, da_veV, da_inV, da_edV, da_grV, da_weV, da_mbV, da_suV, da_viV]; done)) ?_; (repeat' (first | exact True.intro | refine And.intro ?_ ?_)); all_goals (first | rfl | (simp [AM.look_cons, mbV]; done) | (simp [V.uses, V.usesL, AM.look_cons, V.usesL_data, V.uses_data, da_i, da_chV, da_ruV, da_prV, da_enV, da_cfV, da_veV, da_inV, da_edV, da_grV, da_weV, da_mbV, da_suV, da_viV]; done)))
        · rw [hb] at hI
          rw [if_pos hb, List.append_nil] at hst2
          repeat' (first | refine yw ?_ | ((with_reducible refine Runs.is ?_); first | refine Runs.region (id := 5) ?_ | refine Runs.drawn (id := 7) mixed zK ?_ | refine Runs.region (id := 6) ?_ | ((with_reducible refine Runs.isC ?_); refine Runs.cond rfl (zc ?_) (zc ?_) <;> intro hc <;> (try (first | contradiction | (exfalso; omega; done) | (have : hc = trivial := rfl; clear this; clear hc))))) | ((with_reducible refine r_is ?_); first | refine yr ?_) | ((with_reducible refine d_is ?_); first | refine yd ?_ | (refine d_fn rfl (hI) HbF.h zL2 zD ?_; refine d_nn zN zH ?_)) | fail)
          repeat' (first | refine yw ?_ | ((with_reducible refine Runs.is ?_); first | refine Runs.region (id := 6) ?_ | ((with_reducible refine Runs.isC ?_); refine Runs.cond rfl (zc ?_) (zc ?_) <;> intro hc <;> (try (first | contradiction | (exfalso; omega; done) | (have : hc = trivial := rfl; clear this; clear hc))))) | ((with_reducible refine r_is ?_); first | refine yr ?_) | fail)
          refine ih (k + 1) _ zo zo ?_
          rw [htk2, hst2]
          (refine St.Le.clean zR zU zV)
      · have he := hend zo
        subst he
        repeat' (first | refine yw ?_ | ((with_reducible refine Runs.is ?_); first | refine Runs.region (id := 5) ?_ | ((with_reducible refine Runs.isC ?_); refine Runs.cond rfl (zc ?_) (zc ?_) <;> intro hc <;> (try (first | contradiction | (exfalso; omega; done) | (have : hc = trivial := rfl; clear this; clear hc))))) | ((with_reducible refine r_is ?_); first | refine yr ?_) | fail)
        repeat' (first | refine yw ?_ | ((with_reducible refine Runs.is ?_); first | refine Runs.region (id := 9) ?_ | ((with_reducible refine Runs.isC ?_); refine Runs.cond rfl (zc ?_) (zc ?_) <;> intro hc <;> (try (first | contradiction | (exfalso; omega; done) | (have : hc = trivial := rfl; clear this; clear hc))))) | ((with_reducible refine r_is ?_); first | refine yr ?_) | fail)
        (refine Runs.weaken (St.Le.freeze_lst 50 rfl) ?_; refine yf ?_)
        (refine Runs.retC Tryz.func42 rfl zM rfl TyF.h (And.intro zE zd) zD ?_; try exact zX)
  exact main _ rfl
theorem ref_ViewOf (f : Bool) (g : View) (c : Config) (hg : g.members.length ≤ 1000) (hc : c.length ≤ 100) (hp : ∀ p ∈ c, Plain p) : AM.Fn Tryz.prog 17 [viV g, .sl f (c.map prV)] (viV (viewT (sumT g c))) := by
  have hsh := sumT_short hg c (fun p q => (hp p q).1)
  obtain ⟨h1, h2, h3⟩ := hsh
  have hV := ref_View (sumT g c) zo zo
  (refine spec_of_runs Tryz.func17 rfl ?_; simp only [Tryz.f17]; refine ys ?_)
  repeat' (first | refine yw ?_ | ((with_reducible refine Runs.is ?_); first | refine Runs.region ?_ | ((with_reducible refine Runs.isC ?_); refine Runs.cond rfl (zc ?_) (zc ?_) <;> intro hc <;> (try (first | contradiction | (exfalso; omega; done) | (have : hc = trivial := rfl; clear this; clear hc))))) | ((with_reducible refine r_is ?_); first | refine yr ?_ | (refine r_fn rfl (ref_Summarize f g c hg hc hp) HbF.h zL2 zD ?_; refine r_nn zN zH ?_) | (refine r_fn rfl (hV) HbF.h zL1 zD ?_; refine r_nn zN zH ?_)) | fail)
  (refine Runs.retC Tryz.func17 rfl zM rfl TyF.h (And.intro zE zd) zD ?_; try exact zX)
end Go.Proofs
namespace Go.Proofs
open Go.AM
attribute [local irreducible] AM.evalR AM.evalD AM.Runs AM.valK AM.dK AM.opK AM.stepR AM.CallS AM.St.Le
def cntR (c : Config) (a : Int) : Int := countR (vectorR c) a
theorem cntR_bd (c : Config) (a : Int) : 0 ≤ cntR c a ∧ cntR c a ≤ 1000000 := (vecFold c [] (by intro e he; cases he)).1.count a
def vec3 (i j k : Int) : Vector := withR (withR (withR [] 201 i) 202 j) 203 k
def allK (a b : Config) (i j : Int) : List Config := (upto (cntR a 203) (cntR b 203)).map fun k => restrictR b (vec3 i j k)
def allJ (a b : Config) (i : Int) : List Config := (upto (cntR a 202) (cntR b 202)).flatMap fun j => allK a b i j
def allR (a b : Config) : List Config := if containsR b a then (upto (cntR a 201) (cntR b 201)).flatMap fun i => allJ a b i else []
theorem ref_All (f g : Bool) (a b : Config) (ha : a.length ≤ 10000000) (hb2 : b.length ≤ 10000000) (hc3 : ∀ t, cntR b t ≤ 3) : AM.Fn Tryz.prog 8 [.sl f (a.map prV), .sl g (b.map prV)] (.sl false ((allR a b).map cfV)) := by
  have a1 := cntR_bd a 201
  have a2 := cntR_bd a 202
  have a3 := cntR_bd a 203
  have b1 := cntR_bd b 201
  have b2 := cntR_bd b 202
  have b3 := cntR_bd b 203
  have c1 := hc3 201
  have c2 := hc3 202
  have c3 := hc3 203
  have na : ∀ t, AM.Fn Tryz.prog 30 [.sl f (a.map prV), .i t] (.i (cntR a t)) := fun t => ref_count f a t zo
  have nb : ∀ t, AM.Fn Tryz.prog 30 [.sl g (b.map prV), .i t] (.i (cntR b t)) := fun t => ref_count g b t zo
  have hK : ∀ i j, (allK a b i j).length ≤ 4 := fun i j => by rw [allK, List.length_map, upto_len]; omega
  have hJl : (upto (cntR a 202) (cntR b 202)).length ≤ 4 := by rw [upto_len]; omega
  have hJ : ∀ i, (allJ a b i).length ≤ 16 := fun i => by
    have := flatMap_len (fun j => allK a b i j) 4 (upto (cntR a 202) (cntR b 202)) (fun j _ => hK i j)
    rw [allJ]; omega
  (refine spec_of_runs Tryz.func8 rfl ?_; simp only [Tryz.f8]; refine ys ?_)
  repeat' (first | refine yw ?_ | ((with_reducible refine Runs.is ?_); first | refine Runs.region (id := 0) ?_ | refine Runs.region (id := 1) ?_ | refine Runs.region (id := 2) ?_ | refine Runs.region (id := 3) ?_ | refine Runs.region (id := 4) ?_ | refine Runs.region (id := 5) ?_ | ((with_reducible refine Runs.isC ?_); refine Runs.cond rfl (zc ?_) (zc ?_) <;> intro hc <;> (try (first | contradiction | (exfalso; omega; done) | (have : hc = trivial := rfl; clear this; clear hc))))) | ((with_reducible refine r_is ?_); first | refine yr ?_ | (refine r_fn rfl (ref_Contains g f _ _) HbF.h zL2 zD ?_; refine r_nn zN zH ?_) | (refine r_fn rfl (na _) HbF.h zL2 zD ?_; refine r_nn zN zH ?_)) | fail)
  · (refine Runs.ret1 Tryz.func8 rfl zM zD ?_; try exact zX)
    rw [allR, hc]; exact V.Le.nil _
  rw [allR, if_pos (by assumption)]
  (refine Runs.weaken (St.Le.nil 5 23 1 5 zd rfl rfl zE) ?_)
  refine Runs.loopI (α := Int) (fun i => (cntR b 201 + 1 - i).toNat) (fun i => cntR a 201 ≤ i ∧ (i ≤ cntR b 201 + 1 ∨ i = cntR a 201))
    (fun i => ⟨[.sl f (a.map prV), .sl g (b.map prV), .any, .any, .any, .own 5, .i 201, .i i, .any, .any, .any, .any, .any, .any, .any, .any, .any, .any, .any, .any, .any, .any, .any, .any, .any, .any, .any, .any, .any, .any, .any, .any, .any, .any, .any, .any, .any, .any, .any, .any, .any, .any, .any, .any, .any, .any, .any, .any, .any, .any, .any, .any, .any, .any, .any, .any, .any, .any, .any, .any, .any, .any, .any, .any, .any, .any, .any, .any], [(5, .lst 23 1 (((upto (cntR a 201) (i - 1)).flatMap fun i => allJ a b i).map cfV))]⟩) (cntR a 201) ⟨Int.le_refl _, .inr rfl⟩ ?_ ?_
  · rw [upto_nil]; (refine St.Le.clean zR zU zV)
  rintro i ⟨hi1, hi2⟩ ih
  repeat' (first | refine yw ?_ | ((with_reducible refine Runs.is ?_); first | refine Runs.region (id := 6) ?_ | refine Runs.region (id := 8) ?_ | refine Runs.region (id := 7) ?_ | ((with_reducible refine Runs.isC ?_); refine Runs.cond rfl (zc ?_) (zc ?_) <;> intro hc <;> (try (first | contradiction | (exfalso; omega; done) | (have : hc = trivial := rfl; clear this; clear hc))))) | ((with_reducible refine r_is ?_); first | refine yr ?_ | (refine r_fn rfl (nb _) HbF.h zL2 zD ?_; refine r_nn zN zH ?_) | (refine r_fn rfl (na _) HbF.h zL2 zD ?_; refine r_nn zN zH ?_)) | fail)
  · have hIl : ((upto (cntR a 201) (i - 1)).flatMap fun i => allJ a b i).length ≤ 64 := by
      have := flatMap_len (fun i => allJ a b i) 16 (upto (cntR a 201) (i - 1)) (fun j _ => hJ j)
      have hu := upto_len (cntR a 201) (i - 1)
      omega
    have hbase : ((upto (cntR a 201) (i + 1 - 1)).flatMap fun i => allJ a b i) = ((upto (cntR a 201) (i - 1)).flatMap fun i => allJ a b i) ++ allJ a b i := by
      rw [show i + 1 - 1 = i by omega, upto_snoc hi1]; simp
    generalize ((upto (cntR a 201) (i - 1)).flatMap fun i => allJ a b i) = accI at hIl hbase ⊢
    refine Runs.loopI (α := Int) (fun j => (cntR b 202 + 1 - j).toNat) (fun j => cntR a 202 ≤ j ∧ (j ≤ cntR b 202 + 1 ∨ j = cntR a 202))
      (fun j => ⟨[.sl f (a.map prV), .sl g (b.map prV), .any, .any, .any, .own 5, .i 201, .i i, .i j, .any, .any, .any, .any, .any, .any, .any, .any, .any, .any, .any, .any, .any, .any, .any, .any, .any, .any, .any, .any, .any, .any, .any, .any, .any, .any, .any, .any, .any, .any, .any, .any, .any, .any, .any, .any, .any, .any, .any, .any, .any, .any, .any, .any, .any, .any, .any, .any, .any, .any, .any, .any, .any, .any, .any, .any, .any, .any, .any], [(5, .lst 23 1 ((accI ++ (upto (cntR a 202) (j - 1)).flatMap fun j => allK a b i j).map cfV))]⟩) (cntR a 202) ⟨Int.le_refl _, .inr rfl⟩ ?_ ?_
    · rw [upto_nil]; (refine St.Le.clean zR zU zV)
    rintro j ⟨hj1, hj2⟩ ihj
    repeat' (first | refine yw ?_ | ((with_reducible refine Runs.is ?_); first | refine Runs.region (id := 9) ?_ | refine Runs.region (id := 11) ?_ | refine Runs.region (id := 10) ?_ | ((with_reducible refine Runs.isC ?_); refine Runs.cond rfl (zc ?_) (zc ?_) <;> intro hc <;> (try (first | contradiction | (exfalso; omega; done) | (have : hc = trivial := rfl; clear this; clear hc))))) | ((with_reducible refine r_is ?_); first | refine yr ?_ | (refine r_fn rfl (nb _) HbF.h zL2 zD ?_; refine r_nn zN zH ?_) | (refine r_fn rfl (na _) HbF.h zL2 zD ?_; refine r_nn zN zH ?_)) | fail)
    · have hIj : ((upto (cntR a 202) (j - 1)).flatMap fun j => allK a b i j).length ≤ 16 := by
        have := flatMap_len (fun j => allK a b i j) 4 (upto (cntR a 202) (j - 1)) (fun k _ => hK i k)
        have hu := upto_len (cntR a 202) (j - 1)
        omega
      have hbasej : ((upto (cntR a 202) (j + 1 - 1)).flatMap fun j => allK a b i j) = ((upto (cntR a 202) (j - 1)).flatMap fun j => allK a b i j) ++ allK a b i j := by
        rw [show j + 1 - 1 = j by omega, upto_snoc hj1]; simp
      generalize ((upto (cntR a 202) (j - 1)).flatMap fun j => allK a b i j) = accJ at hIj hbasej ⊢
      refine Runs.loopI (α := Int) (fun k => (cntR b 203 + 1 - k).toNat) (fun k => cntR a 203 ≤ k ∧ (k ≤ cntR b 203 + 1 ∨ k = cntR a 203))
        (fun k => ⟨[.sl f (a.map prV), .sl g (b.map prV), .any, .any, .any, .own 5, .i 201, .i i, .i j, .i k, .any, .any, .any, .any, .any, .any, .any, .any, .any, .any, .any, .any, .any, .any, .any, .any, .any, .any, .any, .any, .any, .any, .any, .any, .any, .any, .any, .any, .any, .any, .any, .any, .any, .any, .any, .any, .any, .any, .any, .any, .any, .any, .any, .any, .any, .any, .any, .any, .any, .any, .any, .any, .any, .any, .any, .any, .any, .any], [(5, .lst 23 1 ((accI ++ accJ ++ (upto (cntR a 203) (k - 1)).map fun k => restrictR b (vec3 i j k)).map cfV))]⟩) (cntR a 203) ⟨Int.le_refl _, .inr rfl⟩ ?_ ?_
      · rw [upto_nil]; (refine St.Le.clean zR zU zV)
      rintro k ⟨hk1, hk2⟩ ihk
      have hku := upto_len (cntR a 203) (k - 1)
      repeat' (first | refine yw ?_ | ((with_reducible refine Runs.is ?_); first | refine Runs.region (id := 12) ?_ | refine Runs.region (id := 14) ?_ | refine Runs.region (id := 15) ?_ | refine Runs.region (id := 13) ?_ | ((with_reducible refine Runs.isC ?_); refine Runs.cond rfl (zc ?_) (zc ?_) <;> intro hc <;> (try (first | contradiction | (exfalso; omega; done) | (have : hc = trivial := rfl; clear this; clear hc))))) | ((with_reducible refine r_is ?_); first | refine yr ?_ | (refine r_fn rfl (nb _) HbF.h zL2 zD ?_; refine r_nn zN zH ?_) | (refine r_fn rfl (ref_With false [] 201 i zd) HbF.h zL3 zD ?_; refine r_nn zN zH ?_) | (refine r_fn rfl (ref_With false (withR [] 201 i) 202 j (by have := withR_len [] 201 i; simp at this; omega)) HbF.h zL3 zD ?_; refine r_nn zN zH ?_) | (refine r_fn rfl (ref_With false (withR (withR [] 201 i) 202 j) 203 k (by have := withR_len [] 201 i; have := withR_len (withR [] 201 i) 202 j; simp at *; omega)) HbF.h zL3 zD ?_; refine r_nn zN zH ?_) | (refine r_fn rfl (Fn.of_own (ref_Restrict g false b (vec3 i j k) zo)) HbF.h zL2 zD ?_; refine r_nn zN zH ?_) | (refine r_append_full SlF.h SlF.s ZoF.h zd rfl rfl zC zJ zS rfl (fun hn => ?_) (fun hn => ?_) <;> refine r_nn zN zH ?_)) | fail)
      · simp only [Int.reduceAdd] at hc
        refine ihk (k + 1) _ ⟨by omega, by omega⟩ zo ?_
        rw [show k + 1 - 1 = k by omega, upto_snoc hk1]
        (refine St.Le.clean zR (by first | (simp [V.usesL, V.uses, AM.look_cons]; done) | (simp [V.usesL, V.uses, AM.look_cons, V.usesL_data, V.uses_data, da_i, da_chV, da_ruV, da_prV, da_enV, da_cfV, da_veV, da_inV, da_edV, da_grV, da_weV, da_mbV, da_suV, da_viV]; done)) ?_; (repeat' (first | exact True.intro | refine And.intro ?_ ?_)); all_goals (first | rfl | (simp [AM.look_cons, vec3]; done) | (simp [V.uses, V.usesL, AM.look_cons, V.usesL_data, V.uses_data, da_i, da_chV, da_ruV, da_prV, da_enV, da_cfV, da_veV, da_inV, da_edV, da_grV, da_weV, da_mbV, da_suV, da_viV]; done)))
      · simp only [Int.reduceAdd] at *
        repeat' (first | refine yw ?_ | ((with_reducible refine Runs.is ?_); first | refine Runs.region (id := 10) ?_ | ((with_reducible refine Runs.isC ?_); refine Runs.cond rfl (zc ?_) (zc ?_) <;> intro hc <;> (try (first | contradiction | (exfalso; omega; done) | (have : hc = trivial := rfl; clear this; clear hc))))) | ((with_reducible refine r_is ?_); first | refine yr ?_) | fail)
        refine ihj (j + 1) _ ⟨by omega, by omega⟩ zo ?_
        rw [hbasej, allK, upto_end hc hk2 hk1]
        (refine St.Le.clean zR zU zV)
    · simp only [Int.reduceAdd] at *
      repeat' (first | refine yw ?_ | ((with_reducible refine Runs.is ?_); first | refine Runs.region (id := 7) ?_ | ((with_reducible refine Runs.isC ?_); refine Runs.cond rfl (zc ?_) (zc ?_) <;> intro hc <;> (try (first | contradiction | (exfalso; omega; done) | (have : hc = trivial := rfl; clear this; clear hc))))) | ((with_reducible refine r_is ?_); first | refine yr ?_) | fail)
      refine ih (i + 1) _ ⟨by omega, by omega⟩ zo ?_
      rw [hbase, allJ, upto_end hc hj2 hj1]
      (refine St.Le.clean zR zU zV)
  · repeat' (first | refine yw ?_ | ((with_reducible refine Runs.is ?_); first | refine Runs.region (id := 16) ?_ | ((with_reducible refine Runs.isC ?_); refine Runs.cond rfl (zc ?_) (zc ?_) <;> intro hc <;> (try (first | contradiction | (exfalso; omega; done) | (have : hc = trivial := rfl; clear this; clear hc))))) | ((with_reducible refine r_is ?_); first | refine yr ?_) | fail)
    refine Runs.ret_frz Tryz.func8 rfl rfl rfl ?_
    rw [upto_end hc hi2 hi1]
end Go.Proofs
namespace Go.Proofs
open Go.AM
attribute [local irreducible] AM.evalR AM.evalD AM.Runs AM.valK AM.dK AM.opK AM.stepR AM.CallS AM.St.Le
end Go.Proofs
namespace Go.Proofs
open Go.AM
attribute [local irreducible] AM.evalR AM.evalD AM.Runs AM.valK AM.dK AM.opK AM.stepR AM.CallS AM.St.Le
def blk (f : Nat → Nat → Proposal) (a n : Nat) : Config := (List.range n).map (f a)
def cut (f : Nat → Nat → Proposal) (i j k : Nat) : Config := blk f 0 i ++ blk f 1 j ++ blk f 2 k
def Nice (f : Nat → Nat → Proposal) : Prop := ∀ a i, (f a i).admin = 201 + a ∧ (f a i).number = i + 1
def IsCut (f : Nat → Nat → Proposal) (c : Config) : Prop := ∃ i j k, (i < 4 ∧ j < 4 ∧ k < 4) ∧ c = cut f i j k
def key (p : Proposal) : Proposal := ⟨p.admin, p.number, []⟩
def f0 (a i : Nat) : Proposal := ⟨201 + a, i + 1, []⟩
theorem key_nice {f : Nat → Nat → Proposal} (hf : Nice f) (a i : Nat) : key (f a i) = f0 a i := by
  unfold key f0; rw [(hf a i).1, (hf a i).2]
theorem cut_key {f : Nat → Nat → Proposal} (hf : Nice f) (i j k : Nat) : (cut f i j k).map key = cut f0 i j k := by
  simp only [cut, blk, List.map_append, List.map_map]
  congr 1
  · congr 1 <;> exact List.map_congr_left fun n _ => key_nice hf _ n
  · exact List.map_congr_left fun n _ => key_nice hf _ n
theorem cmpP_key (p q : Proposal) : cmpP (key p) (key q) = cmpP p q := rfl
theorem getD_key (c : Config) (i : Nat) (h : i < c.length) : (c.map key).getD i default = key (c.getD i default) := by
  simp [List.getD_eq_getElem?_getD, h]
theorem bs_congr {k k' : Nat → Int} {i j : Nat} (h : ∀ n, i ≤ n → n < j → k n = k' n) : bs k i j = bs k' i j := by
  induction hn : j - i using Nat.strongRecOn generalizing i j with
  | _ n ih =>
    unfold bs
    by_cases hij : i < j
    · rw [dif_pos hij, dif_pos hij, h ((i + j) / 2) zo zo]
      split
      · exact ih (j - ((i + j) / 2 + 1)) zo (fun n h1 h2 => h n zo h2) rfl
      · exact ih ((i + j) / 2 - i) zo (fun n h1 h2 => h n h1 zo) rfl
    · rw [dif_neg hij, dif_neg hij]
theorem hasB_key (c : Config) (p : Proposal) : hasB (c.map key) (key p) = hasB c p := by
  have e : bs (fun i => cmpP ((c.map key).getD i default) (key p)) 0 (c.map key).length = bs (fun i => cmpP (c.getD i default) p) 0 c.length := by
    rw [List.length_map]
    refine bs_congr fun n _ hn => ?_
    rw [getD_key c n hn, cmpP_key]
  unfold hasB
  dsimp only
  rw [e, List.length_map]
  by_cases h : bs (fun i => cmpP (c.getD i default) p) 0 c.length < c.length
  · rw [getD_key c _ h, cmpP_key]
  · rw [decide_eq_false (fun x => h x.1), decide_eq_false (fun x => h x.1)]
theorem hasR_key (c : Config) (p : Proposal) : hasR (c.map key) (key p) = hasR c p := by
  unfold hasR; rw [List.any_map]; rfl
theorem vectorV_key (c : Config) : vectorV (c.map key) = vectorV c := by
  unfold vectorV; rw [List.foldl_map]; rfl
theorem vectorR_key (c : Config) : vectorR (c.map key) = vectorR c := by
  unfold vectorR; rw [List.foldl_map]; rfl
def sel (i j k a : Nat) : Nat := if a = 0 then i else if a = 1 then j else k
theorem has_fin : ∀ i j k : Fin 4, ∀ a n : Fin 3, hasB (cut f0 i j k) (f0 a n) = decide (n.val < sel i j k a) ∧ hasR (cut f0 i j k) (f0 a n) = decide (n.val < sel i j k a) := by decide +kernel
theorem has_cut {f : Nat → Nat → Proposal} (hf : Nice f) {i j k : Nat} (h : i < 4 ∧ j < 4 ∧ k < 4) {a n : Nat} (ha : a < 3) (hn : n < 3) : hasB (cut f i j k) (f a n) = decide (n < sel i j k a) ∧ hasR (cut f i j k) (f a n) = decide (n < sel i j k a) := by
  rw [← hasB_key, ← hasR_key, cut_key hf, key_nice hf]
  exact has_fin ⟨i, h.1⟩ ⟨j, h.2.1⟩ ⟨k, h.2.2⟩ ⟨a, ha⟩ ⟨n, hn⟩
theorem all_blk {f : Nat → Nat → Proposal} {g : Proposal → Bool} {a m n : Nat} (hm : m ≤ 3) (h : ∀ i, i < 3 → g (f a i) = decide (i < n)) : (blk f a m).all g = decide (m ≤ n) := by
  rw [Bool.eq_iff_iff, List.all_eq_true, decide_eq_true_eq]
  simp only [blk, List.mem_map, List.mem_range]
  constructor
  · intro hx
    rcases Nat.lt_or_ge n m with h1 | h1
    · have := hx _ ⟨n, h1, rfl⟩
      rw [h n zo, decide_eq_true_eq] at this
      omega
    · exact h1
  · rintro hmn x ⟨i, hi, rfl⟩
    rw [h i zo, decide_eq_true_eq]; omega
theorem contains_cut {f : Nat → Nat → Proposal} (hf : Nice f) {i j k i' j' k' : Nat} (h : i < 4 ∧ j < 4 ∧ k < 4) (h' : i' < 4 ∧ j' < 4 ∧ k' < 4) :
    containsB (cut f i j k) (cut f i' j' k') = decide (i' ≤ i ∧ j' ≤ j ∧ k' ≤ k) ∧ containsR (cut f i j k) (cut f i' j' k') = decide (i' ≤ i ∧ j' ≤ j ∧ k' ≤ k) := by
  constructor
  · rw [containsB, show cut f i' j' k' = blk f 0 i' ++ blk f 1 j' ++ blk f 2 k' from rfl, List.all_append, List.all_append,
      all_blk zo (fun n hn => (has_cut hf h zd hn).1), all_blk zo (fun n hn => (has_cut hf h zd hn).1), all_blk zo (fun n hn => (has_cut hf h zd hn).1)]
    simp [sel, Bool.and_assoc]
  · rw [containsR, show cut f i' j' k' = blk f 0 i' ++ blk f 1 j' ++ blk f 2 k' from rfl, List.all_append, List.all_append,
      all_blk zo (fun n hn => (has_cut hf h zd hn).2), all_blk zo (fun n hn => (has_cut hf h zd hn).2), all_blk zo (fun n hn => (has_cut hf h zd hn).2)]
    simp [sel, Bool.and_assoc]
def vecC (i j k : Nat) : Vector := (if 0 < i then [⟨201, i⟩] else []) ++ (if 0 < j then [⟨202, j⟩] else []) ++ (if 0 < k then [⟨203, k⟩] else [])
theorem vec_fin : ∀ i j k : Fin 4, vectorV (cut f0 i j k) = vecC i j k ∧ vectorR (cut f0 i j k) = vecC i j k ∧ vec3 (i : Nat) (j : Nat) (k : Nat) = vecC i j k ∧ (getV (vecC i j k) 201 = (i : Nat) ∧ getV (vecC i j k) 202 = (j : Nat) ∧ getV (vecC i j k) 203 = (k : Nat)) ∧ countR (vecC i j k) 201 = (i : Nat) ∧ countR (vecC i j k) 202 = (j : Nat) ∧ countR (vecC i j k) 203 = (k : Nat) := by decide +kernel
theorem vec_cut {f : Nat → Nat → Proposal} (hf : Nice f) {i j k : Nat} (h : i < 4 ∧ j < 4 ∧ k < 4) : vectorV (cut f i j k) = vecC i j k ∧ vectorR (cut f i j k) = vecC i j k := by
  rw [← vectorV_key, ← vectorR_key, cut_key hf]
  have := vec_fin ⟨i, h.1⟩ ⟨j, h.2.1⟩ ⟨k, h.2.2⟩
  exact ⟨this.1, this.2.1⟩
def vlist (i j k i' j' k' : Nat) : List Vector := (upto i i').flatMap fun a => (upto j j').flatMap fun b => (upto k k').map fun c => vec3 a b c
theorem vectors_fin : ∀ i j k i' j' k' : Fin 4, i ≤ i' → j ≤ j' → k ≤ k' → vectorsV (vecC i j k) (vecC i' j' k') = vlist i j k i' j' k' := by decide +kernel
theorem filter_range (m n : Nat) : ((List.range m).filter fun i => decide (i < n)) = List.range (min m n) := by
  induction m with
  | zero => simp
  | succ m ih =>
    rw [List.range_succ, List.filter_append, ih]
    by_cases h : m < n
    · rw [show min (m + 1) n = m + 1 by omega, show min m n = m by omega, List.range_succ]; simp [h]
    · rw [show min (m + 1) n = n by omega, show min m n = n by omega]; simp [h]
theorem filter_blk {f : Nat → Nat → Proposal} {g : Proposal → Bool} {a n m : Nat} (h : ∀ i, i < m → g (f a i) = decide (i < n)) : (blk f a m).filter g = blk f a (min m n) := by
  unfold blk
  rw [List.filter_map, ← filter_range]
  congr 1
  refine List.filter_congr fun i hi => ?_
  exact h i (List.mem_range.1 hi)
theorem filter_cut {f : Nat → Nat → Proposal} {g : Proposal → Bool} {i j k i' j' k' : Nat} (h1 : ∀ n, n < i → g (f 0 n) = decide (n < i')) (h2 : ∀ n, n < j → g (f 1 n) = decide (n < j')) (h3 : ∀ n, n < k → g (f 2 n) = decide (n < k')) :
    (cut f i j k).filter g = cut f (min i i') (min j j') (min k k') := by
  unfold cut
  rw [List.filter_append, List.filter_append, filter_blk h1, filter_blk h2, filter_blk h3]
theorem restrictR_cut {f : Nat → Nat → Proposal} (hf : Nice f) (v : Vector) (i j k : Nat) : restrictR (cut f i j k) v = cut f (min i (countR v 201).toNat) (min j (countR v 202).toNat) (min k (countR v 203).toNat) := by
  unfold restrictR
  refine filter_cut ?_ ?_ ?_ <;> (intro n hn; rw [(hf _ n).1, (hf _ n).2]; apply decide_eq_decide.2; simp only [show (201 : Int) + ((0 : Nat) : Int) = 201 from rfl, show (201 : Int) + ((1 : Nat) : Int) = 202 from rfl, show (201 : Int) + ((2 : Nat) : Int) = 203 from rfl]; omega)
theorem restrictV_cut {f : Nat → Nat → Proposal} (hf : Nice f) (v : Vector) (i j k : Nat) : restrictV (cut f i j k) v = cut f (min i (getV v 201).toNat) (min j (getV v 202).toNat) (min k (getV v 203).toNat) := by
  unfold restrictV
  refine filter_cut ?_ ?_ ?_ <;> (intro n hn; rw [(hf _ n).1, (hf _ n).2]; apply decide_eq_decide.2; simp only [show (201 : Int) + ((0 : Nat) : Int) = 201 from rfl, show (201 : Int) + ((1 : Nat) : Int) = 202 from rfl, show (201 : Int) + ((2 : Nat) : Int) = 203 from rfl]; omega)
theorem flatMap_ext {α β : Type} {l : List α} {g h : α → List β} (e : ∀ x ∈ l, g x = h x) : l.flatMap g = l.flatMap h := by
  induction l with
  | nil => rfl
  | cons x l ih => rw [List.flatMap_cons, List.flatMap_cons, e x (by simp), ih fun y hy => e y (by simp [hy])]
theorem mem_upto {a b x : Int} : x ∈ upto a b ↔ a ≤ x ∧ x ≤ b := by
  unfold upto
  rw [List.mem_map]
  constructor
  · rintro ⟨n, hn, rfl⟩; rw [List.mem_range] at hn; omega
  · intro h; exact ⟨(x - a).toNat, by rw [List.mem_range]; omega, by omega⟩
def allN (f : Nat → Nat → Proposal) (i j k i' j' k' : Nat) : List Config := (upto i i').flatMap fun a => (upto j j').flatMap fun b => (upto k k').map fun c => cut f a.toNat b.toNat c.toNat
theorem allR_cut {f : Nat → Nat → Proposal} (hf : Nice f) {i j k i' j' k' : Nat} (h : i < 4 ∧ j < 4 ∧ k < 4) (h' : i' < 4 ∧ j' < 4 ∧ k' < 4) :
    allR (cut f i j k) (cut f i' j' k') = if i ≤ i' ∧ j ≤ j' ∧ k ≤ k' then allN f i j k i' j' k' else [] := by
  unfold allR
  rw [(contains_cut hf h' h).2]
  by_cases hle : i ≤ i' ∧ j ≤ j' ∧ k ≤ k'
  · rw [if_pos (by simpa using hle), if_pos hle]
    have v1 := vec_fin ⟨i, h.1⟩ ⟨j, h.2.1⟩ ⟨k, h.2.2⟩
    have v2 := vec_fin ⟨i', h'.1⟩ ⟨j', h'.2.1⟩ ⟨k', h'.2.2⟩
    dsimp only at v1 v2
    unfold allJ allK cntR
    rw [(vec_cut hf h).2, (vec_cut hf h').2, v1.2.2.2.2.1, v1.2.2.2.2.2.1, v1.2.2.2.2.2.2, v2.2.2.2.2.1, v2.2.2.2.2.2.1, v2.2.2.2.2.2.2]
    unfold allN
    refine flatMap_ext fun a ha => flatMap_ext fun b hb => List.map_congr_left fun c hc => ?_
    rw [mem_upto] at ha hb hc
    have v3 := vec_fin ⟨a.toNat, by omega⟩ ⟨b.toNat, by omega⟩ ⟨c.toNat, by omega⟩
    dsimp only at v3
    rw [Int.toNat_of_nonneg zo, Int.toNat_of_nonneg zo, Int.toNat_of_nonneg zo] at v3
    rw [restrictR_cut hf, v3.2.2.1, v3.2.2.2.2.1, v3.2.2.2.2.2.1, v3.2.2.2.2.2.2]
    congr 1 <;> omega
  · rw [if_neg (by simpa using hle), if_neg hle]
theorem allB_cut {f : Nat → Nat → Proposal} (hf : Nice f) {i j k i' j' k' : Nat} (h : i < 4 ∧ j < 4 ∧ k < 4) (h' : i' < 4 ∧ j' < 4 ∧ k' < 4) :
    allB (cut f i j k) (cut f i' j' k') = if i ≤ i' ∧ j ≤ j' ∧ k ≤ k' then allN f i j k i' j' k' else [] := by
  unfold allB
  rw [(contains_cut hf h' h).1]
  by_cases hle : i ≤ i' ∧ j ≤ j' ∧ k ≤ k'
  · rw [if_pos (by simpa using hle), if_pos hle, (vec_cut hf h).1, (vec_cut hf h').1]
    rw [vectors_fin ⟨i, h.1⟩ ⟨j, h.2.1⟩ ⟨k, h.2.2⟩ ⟨i', h'.1⟩ ⟨j', h'.2.1⟩ ⟨k', h'.2.2⟩ hle.1 hle.2.1 hle.2.2]
    unfold allN vlist
    rw [List.map_flatMap]
    refine flatMap_ext fun a ha => ?_
    rw [List.map_flatMap]
    refine flatMap_ext fun b hb => ?_
    rw [List.map_map]
    refine List.map_congr_left fun c hc => ?_
    rw [mem_upto] at ha hb hc
    dsimp only at ha hb hc
    have v3 := vec_fin ⟨a.toNat, by omega⟩ ⟨b.toNat, by omega⟩ ⟨c.toNat, by omega⟩
    dsimp only at v3
    rw [Int.toNat_of_nonneg zo, Int.toNat_of_nonneg zo, Int.toNat_of_nonneg zo] at v3
    rw [Function.comp, restrictV_cut hf, v3.2.2.1, v3.2.2.2.1.1, v3.2.2.2.1.2.1, v3.2.2.2.1.2.2]
    congr 1 <;> omega
  · rw [if_neg (by simpa using hle), if_neg hle]
theorem allN_cut (f : Nat → Nat → Proposal) {i j k i' j' k' : Nat} (h' : i' < 4 ∧ j' < 4 ∧ k' < 4) : ∀ c ∈ allN f i j k i' j' k', IsCut f c := by
  intro c hc
  simp only [allN, List.mem_flatMap, List.mem_map, mem_upto] at hc
  obtain ⟨a, ha, b, hb, x, hx, rfl⟩ := hc
  exact ⟨_, _, _, ⟨by omega, by omega, by omega⟩, rfl⟩
theorem cut_len (f : Nat → Nat → Proposal) (i j k : Nat) : (cut f i j k).length = i + j + k := by simp [cut, blk, Nat.add_assoc]
def Lite (f : Nat → Nat → Proposal) : Prop := ∀ a i, (f a i).changes.length ≤ 2
theorem IsCut.small {f : Nat → Nat → Proposal} (hf : Lite f) {c : Config} (hc : IsCut f c) : c.length ≤ 9 ∧ Small c := by
  obtain ⟨i, j, k, h, rfl⟩ := hc
  refine ⟨by rw [cut_len]; omega, by rw [cut_len]; omega, fun p hp => ?_⟩
  simp only [cut, blk, List.mem_append, List.mem_map] at hp
  rcases hp with (⟨n, _, rfl⟩ | ⟨n, _, rfl⟩) | ⟨n, _, rfl⟩ <;> exact Nat.le_trans (hf _ _) zd
theorem fine_fin : ∀ i j k : Fin 4, Fine (vecC i j k) := by unfold Fine; decide +kernel
theorem IsCut.fine {f : Nat → Nat → Proposal} (hf : Nice f) {c : Config} (hc : IsCut f c) : Fine (vectorV c) := by
  obtain ⟨i, j, k, h, rfl⟩ := hc
  rw [(vec_cut hf h).1]
  exact fine_fin ⟨i, h.1⟩ ⟨j, h.2.1⟩ ⟨k, h.2.2⟩
theorem count_vecC (i j k : Nat) (h : i < 4 ∧ j < 4 ∧ k < 4) (t : Int) : countR (vecC i j k) t ≤ 3 := by
  unfold vecC
  split <;> split <;> split <;> simp only [List.nil_append, List.cons_append, countR] <;> (repeat' split) <;> omega
theorem IsCut.cnt {f : Nat → Nat → Proposal} (hf : Nice f) {c : Config} (hc : IsCut f c) (t : Int) : cntR c t ≤ 3 := by
  obtain ⟨i, j, k, h, rfl⟩ := hc
  unfold cntR
  rw [(vec_cut hf h).2]
  exact count_vecC i j k h t
theorem flatMap_len_le {α β : Type} {l : List α} {g : α → List β} {n : Nat} (h : ∀ x ∈ l, (g x).length ≤ n) : (l.flatMap g).length ≤ l.length * n := by
  induction l with
  | nil => simp
  | cons x l ih =>
    rw [List.flatMap_cons, List.length_append, List.length_cons, Nat.add_mul]
    have := h x (by simp)
    have := ih fun y hy => h y (by simp [hy])
    omega
theorem allN_len (f : Nat → Nat → Proposal) {i j k i' j' k' : Nat} (h' : i' < 4 ∧ j' < 4 ∧ k' < 4) : (allN f i j k i' j' k').length ≤ 64 := by
  refine Nat.le_trans (flatMap_len_le (n := 16) fun a ha => ?_) ?_
  · refine Nat.le_trans (flatMap_len_le (n := 4) fun b hb => ?_) ?_
    · rw [List.length_map, upto_len]; omega
    · rw [upto_len]; omega
  · rw [upto_len]; omega
end Go.Proofs
namespace Go.Proofs
open Go.AM
attribute [local irreducible] AM.evalR AM.evalD AM.Runs AM.valK AM.dK AM.opK AM.stepR AM.CallS AM.St.Le
def idx (i j k i' j' k' : Nat) : List (Nat × Nat × Nat) := (upto i i').flatMap fun a => (upto j j').flatMap fun b => (upto k k').map fun c => (a.toNat, b.toNat, c.toNat)
theorem allN_idx (f : Nat → Nat → Proposal) (i j k i' j' k' : Nat) : allN f i j k i' j' k' = (idx i j k i' j' k').map fun t => cut f t.1 t.2.1 t.2.2 := by
  simp [allN, idx, List.map_flatMap, Function.comp_def]
def facR (vf vt : Vector) (a : Nat) : Int := 1 + countR vt (201 + a) - countR vf (201 + a)
def prodR (vf vt : Vector) : Nat → Int
  | 0 => 1
  | k + 1 => prodR vf vt k * facR vf vt k
theorem cnt_fin : ∀ i j k i' j' k' : Fin 4, i ≤ i' → j ≤ j' → k ≤ k' →
    (∀ a : Fin 3, (1 ≤ facR (vecC i j k) (vecC i' j' k') a ∧ facR (vecC i j k) (vecC i' j' k') a ≤ 4) ∧ (0 ≤ countR (vecC i j k) (201 + (a : Nat)) ∧ countR (vecC i j k) (201 + (a : Nat)) ≤ 3) ∧ (0 ≤ countR (vecC i' j' k') (201 + (a : Nat)) ∧ countR (vecC i' j' k') (201 + (a : Nat)) ≤ 3)) ∧
      countI (vecC i j k) (vecC i' j' k') = prodR (vecC i j k) (vecC i' j' k') 3 ∧ (∀ e ∈ vecC i' j' k', (1 ≤ fac (vecC i j k) e ∧ fac (vecC i j k) e ≤ 4) ∧ 0 ≤ e.count ∧ e.count ≤ 1000000) := by decide +kernel
theorem idx_fin : ∀ i j k i' j' k' : Fin 4, i ≤ i' → j ≤ j' → k ≤ k' →
    ((idx i j k i' j' k').length : Int) = prodR (vecC i j k) (vecC i' j' k') 3 ∧ (idx i j k i' j' k').getD 0 (0, 0, 0) = (i.val, j.val, k.val) ∧ (idx i j k i' j' k').getD ((idx i j k i' j' k').length - 1) (0, 0, 0) = (i'.val, j'.val, k'.val) := by decide +kernel
theorem getV_fin : ∀ i j k : Fin 4, (vecC i j k).length ≤ 3 := by decide +kernel
theorem getV_le {v : Vector} (h : ∀ e ∈ v, 0 ≤ e.count ∧ e.count ≤ 1000000000) (x : Int) : 0 ≤ getV v x ∧ getV v x ≤ 1000000000 := by
  unfold getV
  split
  · rename_i hh
    refine h _ ?_
    rw [List.getD_eq_getElem?_getD, List.getElem?_eq_getElem hh.1]; exact List.getElem_mem hh.1
  · omega
end Go.Proofs
namespace Go.Proofs
open Go.AM
attribute [local irreducible] AM.evalR AM.evalD AM.Runs AM.valK AM.dK AM.opK AM.stepR AM.CallS AM.St.Le
end Go.Proofs
namespace Go.Proofs
open Go.AM
attribute [local irreducible] AM.evalR AM.evalD AM.Runs AM.valK AM.dK AM.opK AM.stepR AM.CallS AM.St.Le
end Go.Proofs
namespace Go.Proofs
open Go.AM
attribute [local irreducible] AM.evalR AM.evalD AM.Runs AM.valK AM.dK AM.opK AM.stepR AM.CallS AM.St.Le
def RuleOK (r : Rule) : Prop := (1 ≤ r.kind ∧ r.kind ≤ 4) ∧ (r.kind = 3 → 1 ≤ r.columns ∧ r.columns ≤ 12) ∧ (r.kind ≠ 3 → r.columns = 0) ∧ (r.kind = 4 → 0 ≤ r.faulty ∧ r.faulty ≤ 12) ∧ (r.kind ≠ 4 → r.faulty = 0)
def ChangeOK (c : Change) : Prop := (c.kind = 1 ∧ (1 ≤ c.server ∧ c.server ≤ 12) ∧ (1 ≤ c.weight ∧ c.weight ≤ 9) ∧ c.version = 0 ∧ c.rule = ⟨0, 0, 0⟩) ∨ (c.kind = 2 ∧ (1 ≤ c.server ∧ c.server ≤ 12) ∧ c.weight = 0 ∧ c.version = 0 ∧ c.rule = ⟨0, 0, 0⟩) ∨
  (c.kind = 3 ∧ (1 ≤ c.server ∧ c.server ≤ 12) ∧ (1 ≤ c.weight ∧ c.weight ≤ 9) ∧ (1 ≤ c.version ∧ c.version ≤ 1000) ∧ c.rule = ⟨0, 0, 0⟩) ∨ (c.kind = 4 ∧ c.server = 0 ∧ c.weight = 0 ∧ (1 ≤ c.version ∧ c.version ≤ 1000) ∧ RuleOK c.rule)
def PropOK (p : Proposal) : Prop := (201 ≤ p.admin ∧ p.admin < 204) ∧ (1 ≤ p.number ∧ p.number ≤ 3) ∧ (1 ≤ p.changes.length ∧ p.changes.length ≤ 6) ∧ (∀ c ∈ p.changes, ChangeOK c) ∧
  ∀ i k : Nat, k < i → i < p.changes.length → ¬ ((p.changes.getD k default).kind = (p.changes.getD i default).kind ∧ (p.changes.getD k default).server = (p.changes.getD i default).server)
def ConfOK (c : Config) : Prop := (∀ p ∈ c, PropOK p) ∧ (∀ i : Nat, 0 < i → i < c.length → cmpP (c.getD (i - 1) default) (c.getD i default) < 0) ∧
  ∀ i : Nat, i < c.length → 1 < (c.getD i default).number → 0 < i ∧ (c.getD (i - 1) default).admin = (c.getD i default).admin ∧ (c.getD (i - 1) default).number = (c.getD i default).number - 1
theorem val_Server (n : Int) : AM.Fn Tryz.prog 62 [.i n] (.b (decide (1 ≤ n ∧ n ≤ 12))) := by
  (refine spec_of_runs Tryz.func62 rfl ?_; simp only [Tryz.f62]; refine ys ?_)
  repeat' (first | refine yw ?_ | ((with_reducible refine Runs.is ?_); first | refine Runs.region ?_ | ((with_reducible refine Runs.isC ?_); refine Runs.cond rfl (zc ?_) (zc ?_) <;> intro hc <;> (try (first | contradiction | (exfalso; omega; done) | (have : hc = trivial := rfl; clear this; clear hc))))) | ((with_reducible refine r_is ?_); first | refine yr ?_ | ((with_reducible refine r_gd ?_); (first | refine r_guardPt rfl rfl ?_ ?_ | refine r_guardNt rfl rfl ?_ ?_ | refine r_guard rfl rfl ?_ ?_) <;> intro hG <;> (try (exfalso; omega; done)) <;> refine r_nn zN zH ?_)) | fail)
  all_goals ((refine Runs.ret1 Tryz.func62 rfl zM zD ?_; try exact zX))
  all_goals (first | (refine V.Le.of_eq (congrArg V.b (decide_eq_decide.2 ?_)); omega) | (refine V.Le.of_eq (congrArg V.b (decide_eq_false ?_).symm); omega))
theorem val_Admin (n : Int) : AM.Fn Tryz.prog 75 [.i n] (.b (decide (201 ≤ n ∧ n < 204))) := by
  (refine spec_of_runs Tryz.func75 rfl ?_; simp only [Tryz.f75]; refine ys ?_)
  repeat' (first | refine yw ?_ | ((with_reducible refine Runs.is ?_); first | refine Runs.region ?_ | ((with_reducible refine Runs.isC ?_); refine Runs.cond rfl (zc ?_) (zc ?_) <;> intro hc <;> (try (first | contradiction | (exfalso; omega; done) | (have : hc = trivial := rfl; clear this; clear hc))))) | ((with_reducible refine r_is ?_); first | refine yr ?_ | ((with_reducible refine r_gd ?_); (first | refine r_guardPt rfl rfl ?_ ?_ | refine r_guardNt rfl rfl ?_ ?_ | refine r_guard rfl rfl ?_ ?_) <;> intro hG <;> (try (exfalso; omega; done)) <;> refine r_nn zN zH ?_)) | fail)
  all_goals ((refine Runs.ret1 Tryz.func75 rfl zM zD ?_; try exact zX))
  all_goals (first | (refine V.Le.of_eq (congrArg V.b (decide_eq_decide.2 ?_)); omega) | (refine V.Le.of_eq (congrArg V.b (decide_eq_false ?_).symm); omega))
end Go.Proofs
namespace Go.Proofs
open Go.AM
attribute [local irreducible] AM.evalR AM.evalD AM.Runs AM.valK AM.dK AM.opK AM.stepR AM.CallS AM.St.Le
end Go.Proofs
namespace Go.Proofs
open Go.AM
attribute [local irreducible] AM.evalR AM.evalD AM.Runs AM.valK AM.dK AM.opK AM.stepR AM.CallS AM.St.Le
theorem getD_in {α : Type} [Inhabited α] {l : List α} {i : Nat} (h : i < l.length) : l.getD i default ∈ l := by
  rw [List.getD_eq_getElem?_getD, List.getElem?_eq_getElem h]; exact List.getElem_mem h
end Go.Proofs
namespace Go.Proofs
open Go.AM
attribute [local irreducible] AM.evalR AM.evalD AM.Runs AM.valK AM.dK AM.opK AM.stepR AM.CallS AM.St.Le
end Go.Proofs
namespace Go.Proofs
open Go.AM
attribute [local irreducible] AM.evalR AM.evalD AM.Runs AM.valK AM.dK AM.opK AM.stepR AM.CallS AM.St.Le
theorem mem_cut3 {f : Nat → Nat → Proposal} {i j k : Nat} (h : i < 4 ∧ j < 4 ∧ k < 4) {p : Proposal} (hp : p ∈ cut f i j k) : ∃ a n, a < 3 ∧ n < 3 ∧ p = f a n := by
  simp only [cut, blk, List.mem_append, List.mem_map, List.mem_range] at hp
  rcases hp with (⟨n, hn, rfl⟩ | ⟨n, hn, rfl⟩) | ⟨n, hn, rfl⟩ <;> exact ⟨_, n, by decide, by omega, rfl⟩
end Go.Proofs
namespace Go.Proofs
open Go.AM
attribute [local irreducible] AM.evalR AM.evalD AM.Runs AM.valK AM.dK AM.opK AM.stepR AM.CallS AM.St.Le
theorem strict_ext : ∀ {a b : List Int}, a.Pairwise (· < ·) → b.Pairwise (· < ·) → (∀ x, x ∈ a ↔ x ∈ b) → a = b
  | [], [], _, _, _ => rfl
  | [], y :: b, _, _, h => absurd ((h y).2 (by simp)) (by simp)
  | x :: a, [], _, _, h => absurd ((h x).1 (by simp)) (by simp)
  | x :: a, y :: b, ha, hb, h => by
    rw [List.pairwise_cons] at ha hb
    have hxy : x = y := by
      rcases List.mem_cons.1 ((h x).1 (by simp)) with e | e
      · exact e
      · rcases List.mem_cons.1 ((h y).2 (by simp)) with e' | e'
        · exact e'.symm
        · have := hb.1 _ e; have := ha.1 _ e'; omega
    subst hxy
    congr 1
    refine strict_ext ha.2 hb.2 fun z => ⟨fun hz => ?_, fun hz => ?_⟩
    · rcases List.mem_cons.1 ((h z).1 (by simp [hz])) with e | e
      · have := ha.1 _ hz; omega
      · exact e
    · rcases List.mem_cons.1 ((h z).2 (by simp [hz])) with e | e
      · have := hb.1 _ hz; omega
      · exact e
theorem at_arr (zs : List Int) (j : Nat) (h : j < zs.length) : zs.toArray[j]! = zs[j] := by simp [h]
theorem compactI_strict {zs : List Int} (h : zs.Pairwise (· ≤ ·)) : (compactI zs).Pairwise (· < ·) := by
  unfold compactI Lib.compact Lib.compactUpTo
  rw [List.pairwise_map]
  refine List.Pairwise.imp_of_mem ?_ (List.Pairwise.filter _ List.pairwise_lt_range)
  intro i j hi hj hij
  rw [List.mem_filter, List.mem_range] at hi hj
  have hk := hj.2
  unfold Lib.keeps at hk
  rw [decide_eq_true_eq] at hk
  rw [List.pairwise_iff_getElem] at h
  rw [at_arr zs i hi.1, at_arr zs j hj.1]
  rw [at_arr zs j hj.1, at_arr zs (j - 1) zo] at hk
  have h1 := h (j - 1) j zo hj.1 zo
  have h2 : zs[i] ≤ zs[j - 1] := by
    by_cases e : i = j - 1
    · subst e; exact Int.le_refl _
    · exact h i (j - 1) hi.1 zo zo
  rcases hk with e | e
  · omega
  · omega
theorem mem_compactI {zs : List Int} {x : Int} : x ∈ compactI zs ↔ x ∈ zs := by
  unfold compactI Lib.compact Lib.compactUpTo
  simp only [List.mem_map, List.mem_filter, List.mem_range]
  constructor
  · rintro ⟨j, ⟨hj, _⟩, rfl⟩
    rw [at_arr zs j hj]; exact List.getElem_mem hj
  · intro hx
    obtain ⟨j, hj, e⟩ := List.mem_iff_getElem.1 hx
    induction j with
    | zero => exact ⟨0, ⟨hj, by simp [Lib.keeps]⟩, by rw [at_arr zs 0 hj, e]⟩
    | succ j ih =>
      by_cases h : zs[j]'zo = x
      · exact ih zo h
      · refine ⟨j + 1, ⟨hj, ?_⟩, by rw [at_arr zs _ hj, e]⟩
        unfold Lib.keeps
        rw [decide_eq_true_eq, at_arr zs _ hj, e, Nat.add_sub_cancel, at_arr zs j zo]
        exact .inr (fun q => h q.symm)
theorem sortI_le (zs : List Int) : (sortI zs).Pairwise (· ≤ ·) := by
  have := List.pairwise_mergeSort (le := fun a b : Int => decide (a ≤ b)) (fun a b c h1 h2 => by simp at *; omega) (fun a b => by simp; omega) zs
  exact List.Pairwise.imp (fun h => by simpa using h) this
theorem mem_sortI {zs : List Int} {x : Int} : x ∈ sortI zs ↔ x ∈ zs := List.mem_mergeSort
theorem mem_insFold (n x : Int) : ∀ (l : List Int) (s : List Int × Bool), ((x ∈ (l.foldl (insStep n) s).1 ↔ x ∈ s.1 ∨ (x ∈ l ∧ x ≠ n) ∨ (x = n ∧ s.2 = false ∧ (l.foldl (insStep n) s).2 = true)) ∧ (s.2 = true → (l.foldl (insStep n) s).2 = true))
  | [], s => by
    constructor
    · simp only [List.foldl_nil, List.not_mem_nil, false_and, false_or]
      constructor
      · intro h; exact .inl h
      · rintro (h | ⟨_, h1, h2⟩)
        · exact h
        · rw [h1] at h2; cases h2
    · intro h; exact h
  | y :: l, s => by
    obtain ⟨h1, h2⟩ := mem_insFold n x l (insStep n s y)
    rw [List.foldl_cons]
    obtain ⟨acc, put⟩ := s
    by_cases e : y = n <;> by_cases g : n ≤ y <;> cases put <;> simp [insStep, e, g] at h1 h2 ⊢ <;> (try omega) <;> (generalize (List.foldl _ _ l) = t at *; obtain ⟨t1, t2⟩ := t; cases t2 <;> simp at * <;> (try subst e) <;> (try (constructor <;> intros <;> simp_all <;> omega)) <;> (try grind))
theorem mem_insR (l : List Int) (n x : Int) : x ∈ insR l n ↔ x ∈ l ∨ x = n := by
  have h := (mem_insFold n x l ([], false)).1
  unfold insR
  dsimp only
  generalize l.foldl (insStep n) ([], false) = t at *
  obtain ⟨t1, t2⟩ := t
  cases t2 <;> simp at h ⊢ <;> rw [h] <;> by_cases e : x = n <;> simp [e]
theorem mem_foldl {f : List Int → Int → List Int} (hf : ∀ l n x, x ∈ f l n ↔ x ∈ l ∨ x = n) : ∀ (b a : List Int) (x : Int), x ∈ b.foldl f a ↔ x ∈ a ∨ x ∈ b
  | [], a, x => by simp
  | n :: b, a, x => by rw [List.foldl_cons, mem_foldl hf b (f a n) x, hf, List.mem_cons, or_assoc]
theorem mem_spanI (vs : List View) (x : Int) : x ∈ spanI vs ↔ ∃ v ∈ vs, x ∈ srv v := by
  unfold spanI distinctI
  rw [mem_compactI, mem_sortI, List.mem_flatten]
  constructor
  · rintro ⟨l, hl, hx⟩
    obtain ⟨v, hv, rfl⟩ := List.mem_map.1 hl
    exact ⟨v, hv, hx⟩
  · rintro ⟨v, hv, hx⟩
    exact ⟨srv v, List.mem_map.2 ⟨v, hv, rfl⟩, hx⟩
theorem span_strict (vs : List View) : (spanI vs).Pairwise (· < ·) := compactI_strict (sortI_le _)
theorem sum_le_mul {l : List Nat} {m : Nat} (h : ∀ x ∈ l, x ≤ m) : l.sum ≤ l.length * m := by
  induction l with
  | nil => simp
  | cons x l ih =>
    have := ih (fun y hy => h y (by simp [hy]))
    have := h x (by simp)
    rw [List.sum_cons, List.length_cons, Nat.add_mul]; omega
theorem view_len {g : View} (hg : g.members.length ≤ 1000) {c : Config} (hc : c.length ≤ 100) (hp : ∀ p ∈ c, Plain p) : (viewOf g c).members.length ≤ 200000 := by
  have h := (sumS_short hg c (fun p q => (hp p q).1)).1
  show ((List.filter _ (sumS g c).joined).map _).length ≤ _
  rw [List.length_map]
  exact Nat.le_trans (List.length_filter_le _ _) zo
end Go.Proofs
namespace Go.Proofs
open Go.AM
attribute [local irreducible] AM.evalR AM.evalD AM.Runs AM.valK AM.dK AM.opK AM.stepR AM.CallS AM.St.Le
theorem bs_spec (k : Nat → Int) (i j : Nat) (hij : i ≤ j) (hm : ∀ s t, i ≤ s → s ≤ t → t < j → k t < 0 → k s < 0) :
    (i ≤ bs k i j ∧ bs k i j ≤ j) ∧ (∀ t, i ≤ t → t < bs k i j → k t < 0) ∧ ∀ t, bs k i j ≤ t → t < j → ¬ k t < 0 := by
  by_cases h : i < j
  · rw [bs.eq_1, dif_pos h]
    by_cases h2 : k ((i + j) / 2) < 0
    · rw [if_pos h2]
      obtain ⟨⟨a1, a2⟩, a3, a4⟩ := bs_spec k ((i + j) / 2 + 1) j zo (fun s t h1 h3 h4 => hm s t zo h3 h4)
      refine ⟨⟨by omega, a2⟩, fun t h5 h6 => ?_, a4⟩
      by_cases h7 : t ≤ (i + j) / 2
      · exact hm t _ h5 h7 zo h2
      · exact a3 t zo h6
    · rw [if_neg h2]
      obtain ⟨⟨a1, a2⟩, a3, a4⟩ := bs_spec k i ((i + j) / 2) zo (fun s t h1 h3 h4 => hm s t h1 h3 zo)
      refine ⟨⟨a1, by omega⟩, a3, fun t h5 h6 => ?_⟩
      by_cases h7 : t < (i + j) / 2
      · exact a4 t h5 h7
      · intro h8
        exact h2 (hm _ t zo zo h6 h8)
  · rw [bs.eq_1, dif_neg h]
    exact ⟨⟨Nat.le_refl _, hij⟩, fun t h1 h2 => by omega, fun t h1 h2 => by omega⟩
termination_by j - i
abbrev StrictI (l : List Int) : Prop := l.Pairwise (· < ·)
def insRec (n : Int) : List Int → List Int
  | [] => [n]
  | y :: ys => if y = n then y :: ys else if n < y then n :: y :: ys else y :: insRec n ys
theorem mem_insRec (n x : Int) : ∀ l, x ∈ insRec n l ↔ x ∈ l ∨ x = n
  | [] => by simp [insRec]
  | y :: ys => by
    rw [insRec]
    split
    · rename_i h; subst h; simp; intro h; exact .inl h
    · split
      · simp [or_comm]
      · rw [List.mem_cons, mem_insRec n x ys, List.mem_cons, or_assoc]
theorem insRec_strict (n : Int) : ∀ {l : List Int}, StrictI l → StrictI (insRec n l)
  | [], _ => by simp [insRec]
  | y :: ys, h => by
    replace h := List.pairwise_cons.1 h
    rw [insRec]
    split
    · exact List.pairwise_cons.2 h
    · split
      · refine List.pairwise_cons.2 ⟨fun z hz => ?_, List.pairwise_cons.2 h⟩
        rcases List.mem_cons.1 hz with rfl | hz
        · assumption
        · have := h.1 z hz; omega
      · refine List.pairwise_cons.2 ⟨fun z hz => ?_, insRec_strict n h.2⟩
        rcases (mem_insRec n z ys).1 hz with hz | rfl
        · exact h.1 z hz
        · omega
theorem insFold_put (n : Int) : ∀ (l acc : List Int), (∀ x ∈ l, x ≠ n) → l.foldl (insStep n) (acc, true) = (acc ++ l, true)
  | [], acc, _ => by simp
  | y :: ys, acc, h => by
    rw [List.foldl_cons, insStep_d (h y (by simp)), insFold_put n ys _ (fun x hx => h x (by simp [hx]))]
    simp
theorem insFold_rec (n : Int) : ∀ (l acc : List Int), StrictI l → (let s := l.foldl (insStep n) (acc, false); if s.2 = false then s.1 ++ [n] else s.1) = acc ++ insRec n l
  | [], acc, _ => by simp [insRec]
  | y :: ys, acc, h => by
    replace h := List.pairwise_cons.1 h
    rw [List.foldl_cons, insRec]
    by_cases e : y = n
    · rw [insStep_b zo e, if_pos e, insFold_put n ys _ (fun x hx => by have := h.1 x hx; omega)]
      simp [e]
    · by_cases g : n < y
      · rw [insStep_a zo e, if_neg e, if_pos g, insFold_put n ys _ (fun x hx => by have := h.1 x hx; omega)]
        simp
      · rw [insStep_c zo e, if_neg e, if_neg g, insFold_rec n ys _ h.2]
        simp
theorem insR_rec {l : List Int} (h : StrictI l) (n : Int) : insR l n = insRec n l := by
  have := insFold_rec n l [] h
  simpa [insR] using this
theorem insRec_append (n : Int) : ∀ (a b : List Int), (∀ x ∈ a, x < n) → insRec n (a ++ b) = a ++ insRec n b
  | [], b, _ => rfl
  | y :: a, b, h => by
    have := h y (by simp)
    rw [List.cons_append, insRec, if_neg zo, if_neg zo, insRec_append n a b (fun x hx => h x (by simp [hx]))]
    rfl
theorem strict_getD {l : List Int} (h : StrictI l) {i j : Nat} (hij : i < j) (hj : j < l.length) : l.getD i default < l.getD j default := by
  have := (List.pairwise_iff_getElem.1 h) i j zo hj hij
  rw [List.getD_eq_getElem?_getD, List.getD_eq_getElem?_getD, List.getElem?_eq_getElem hj, List.getElem?_eq_getElem (show i < l.length by omega)]
  exact this
theorem mem_take_getD {α : Type} [Inhabited α] {l : List α} {r : Nat} {x : α} (h : x ∈ l.take r) : ∃ t, t < r ∧ t < l.length ∧ l.getD t default = x := by
  obtain ⟨t, ht, e⟩ := List.mem_iff_getElem.1 h
  rw [List.length_take] at ht
  refine ⟨t, by omega, by omega, ?_⟩
  rw [List.getElem_take] at e
  rw [List.getD_eq_getElem?_getD, List.getElem?_eq_getElem zo]; exact e
theorem insI_rec {l : List Int} (h : StrictI l) (n : Int) : insI l n = insRec n l := by
  have hs := bs_spec (ltK l n) 0 l.length (Nat.zero_le _) (fun s t _ hst ht hk => by
    rw [ltK_neg] at hk ⊢
    by_cases e : s = t
    · subst e; exact hk
    · have := strict_getD h (show s < t by omega) ht; omega)
  change (0 ≤ bsI l n ∧ bsI l n ≤ l.length) ∧ (∀ t, 0 ≤ t → t < bsI l n → ltK l n t < 0) ∧ (∀ t, bsI l n ≤ t → t < l.length → ¬ ltK l n t < 0) at hs
  obtain ⟨⟨_, h1⟩, h2, h3⟩ := hs
  unfold insI foundI putI
  generalize bsI l n = r at *
  have ha : ∀ x ∈ l.take r, x < n := by
    intro x hx
    obtain ⟨t, ht, _, rfl⟩ := mem_take_getD hx
    exact ltK_neg.1 (h2 t (Nat.zero_le _) ht)
  have key : insRec n l = l.take r ++ insRec n (l.drop r) := by rw [← insRec_append n _ _ ha, List.take_append_drop]
  rw [key]
  by_cases hr : r < l.length
  · have h4 := h3 r (Nat.le_refl _) hr
    rw [ltK_neg] at h4
    rw [drop_getD hr, insRec]
    by_cases e : l.getD r default = n
    · rw [decide_eq_true ⟨hr, e⟩, if_pos rfl, if_pos e, ← drop_getD hr, List.take_append_drop]
    · rw [decide_eq_false (fun q => e q.2), if_neg zd, if_neg e, if_pos zo]
  · rw [decide_eq_false (fun q => hr q.1), if_neg zd, List.drop_of_length_le zo, insRec]
theorem insFoldl {f g : List Int → Int → List Int} (hf : ∀ l n, StrictI l → f l n = insRec n l) (hg : ∀ l n, StrictI l → g l n = insRec n l) : ∀ (b : List Int) {a : List Int}, StrictI a → b.foldl f a = b.foldl g a ∧ StrictI (b.foldl g a)
  | [], a, h => ⟨rfl, h⟩
  | n :: b, a, h => by
    have h2 := insRec_strict n h
    rw [List.foldl_cons, List.foldl_cons, hf a n h, hg a n h]
    exact insFoldl hf hg b h2
theorem unionI_R {a : List Int} (h : StrictI a) (b : List Int) : unionI a b = b.foldl insR a ∧ StrictI (b.foldl insR a) := insFoldl (fun l n h => insI_rec h n) (fun l n h => insR_rec h n) b h
abbrev StrictW (l : List WeightEntry) : Prop := l.Pairwise (fun a b => a.server < b.server)
def weighRec (w : WeightEntry) : List WeightEntry → List WeightEntry
  | [] => [w]
  | y :: ys => if y.server = w.server then (if laterB w y = true then w else y) :: ys else if w.server < y.server then w :: y :: ys else y :: weighRec w ys
theorem mem_weighRec (w x : WeightEntry) : ∀ l, x ∈ weighRec w l → x ∈ l ∨ x = w
  | [] => by simp [weighRec]
  | y :: ys => by
    rw [weighRec]
    intro h
    split at h
    · split at h
      · rcases List.mem_cons.1 h with h | h
        · exact .inr h
        · exact .inl (by simp [h])
      · exact .inl h
    · split at h
      · rcases List.mem_cons.1 h with h | h
        · exact .inr h
        · exact .inl h
      · rcases List.mem_cons.1 h with h | h
        · exact .inl (by simp [h])
        · rcases mem_weighRec w x ys h with h | h
          · exact .inl (by simp [h])
          · exact .inr h
theorem weighRec_strict (w : WeightEntry) : ∀ {l : List WeightEntry}, StrictW l → StrictW (weighRec w l)
  | [], _ => by simp [weighRec]
  | y :: ys, h => by
    replace h := List.pairwise_cons.1 h
    rw [weighRec]
    split
    · rename_i e
      split
      · exact List.pairwise_cons.2 ⟨fun z hz => by have := h.1 z hz; omega, h.2⟩
      · exact List.pairwise_cons.2 h
    · split
      · refine List.pairwise_cons.2 ⟨fun z hz => ?_, List.pairwise_cons.2 h⟩
        rcases List.mem_cons.1 hz with rfl | hz
        · assumption
        · have := h.1 z hz; omega
      · refine List.pairwise_cons.2 ⟨fun z hz => ?_, weighRec_strict w h.2⟩
        rcases mem_weighRec w z ys hz with hz | rfl
        · exact h.1 z hz
        · omega
theorem weighFold_put (w : WeightEntry) : ∀ (l acc : List WeightEntry), (∀ x ∈ l, x.server ≠ w.server) → l.foldl (weighStep w) (acc, true) = (acc ++ l, true)
  | [], acc, _ => by simp
  | y :: ys, acc, h => by
    rw [List.foldl_cons, weighStep_e (h y (by simp)), weighFold_put w ys _ (fun x hx => h x (by simp [hx]))]
    simp
theorem weighFold_rec (w : WeightEntry) : ∀ (l acc : List WeightEntry), StrictW l → (let s := l.foldl (weighStep w) (acc, false); if s.2 = false then s.1 ++ [w] else s.1) = acc ++ weighRec w l
  | [], acc, _ => by simp [weighRec]
  | y :: ys, acc, h => by
    replace h := List.pairwise_cons.1 h
    rw [List.foldl_cons, weighRec]
    by_cases e : y.server = w.server
    · cases hl : laterB w y
      · rw [weighStep_b e hl, if_pos e, weighFold_put w ys _ (fun x hx => by have := h.1 x hx; omega)]
        simp
      · rw [weighStep_a e hl, if_pos e, weighFold_put w ys _ (fun x hx => by have := h.1 x hx; omega)]
        simp
    · by_cases g : w.server < y.server
      · rw [weighStep_c e g, if_neg e, if_pos g, weighFold_put w ys _ (fun x hx => by have := h.1 x hx; omega)]
        simp
      · rw [weighStep_d e g, if_neg e, if_neg g, weighFold_rec w ys _ h.2]
        simp
theorem weighR_rec {l : List WeightEntry} (h : StrictW l) (w : WeightEntry) : weighR l w = weighRec w l := by
  have := weighFold_rec w l [] h
  simpa [weighR] using this
theorem weighRec_append (w : WeightEntry) : ∀ (a b : List WeightEntry), (∀ x ∈ a, x.server < w.server) → weighRec w (a ++ b) = a ++ weighRec w b
  | [], b, _ => rfl
  | y :: a, b, h => by
    have := h y (by simp)
    rw [List.cons_append, weighRec, if_neg zo, if_neg zo, weighRec_append w a b (fun x hx => h x (by simp [hx]))]
    rfl
theorem newer_later (a b : WeightEntry) : newerW a b = laterB b a := by
  unfold newerW laterB
  rw [Bool.eq_iff_iff]
  simp only [orI, cmpI]
  (repeat' split) <;> simp <;> omega
theorem strictW_getD {l : List WeightEntry} (h : StrictW l) {i j : Nat} (hij : i < j) (hj : j < l.length) : (l.getD i default).server < (l.getD j default).server := by
  have := (List.pairwise_iff_getElem.1 h) i j zo hj hij
  rw [List.getD_eq_getElem?_getD, List.getD_eq_getElem?_getD, List.getElem?_eq_getElem hj, List.getElem?_eq_getElem (show i < l.length by omega)]
  exact this
theorem weK_neg {l : List WeightEntry} {w : WeightEntry} {t : Nat} : weK l w t < 0 ↔ (l.getD t default).server < w.server := by unfold weK cmpI; (repeat' split) <;> omega
theorem cmpI_zero {x y : Int} : cmpI x y = 0 ↔ x = y := by unfold cmpI; (repeat' split) <;> omega
theorem insW_rec {l : List WeightEntry} (h : StrictW l) (w : WeightEntry) : insW l w = weighRec w l := by
  have hs := bs_spec (weK l w) 0 l.length (Nat.zero_le _) (fun s t _ hst ht hk => by
    rw [weK_neg] at hk ⊢
    by_cases e : s = t
    · subst e; exact hk
    · have := strictW_getD h (show s < t by omega) ht; omega)
  change (0 ≤ bsW l w ∧ bsW l w ≤ l.length) ∧ (∀ t, 0 ≤ t → t < bsW l w → weK l w t < 0) ∧ (∀ t, bsW l w ≤ t → t < l.length → ¬ weK l w t < 0) at hs
  obtain ⟨⟨_, h1⟩, h2, h3⟩ := hs
  unfold insW foundW putW
  generalize bsW l w = r at *
  have ha : ∀ x ∈ l.take r, x.server < w.server := by
    intro x hx
    obtain ⟨t, ht, _, rfl⟩ := mem_take_getD hx
    exact weK_neg.1 (h2 t (Nat.zero_le _) ht)
  have key : weighRec w l = l.take r ++ weighRec w (l.drop r) := by rw [← weighRec_append w _ _ ha, List.take_append_drop]
  rw [key]
  by_cases hr : r < l.length
  · have h4 := h3 r (Nat.le_refl _) hr
    rw [weK_neg] at h4
    by_cases e : (l.getD r default).server = w.server
    · rw [decide_eq_true ⟨hr, cmpI_zero.2 e⟩, if_pos rfl, newer_later]
      cases hl : laterB w (l.getD r default)
      · rw [if_neg zd, drop_getD hr, weighRec, if_pos e, hl, if_neg zd, ← drop_getD hr, List.take_append_drop]
      · rw [if_pos rfl, drop_getD hr, weighRec, if_pos e, hl, if_pos rfl]
        rw [List.set_eq_take_append_cons_drop, if_pos hr]
    · rw [decide_eq_false (fun q => e (cmpI_zero.1 q.2)), if_neg zd, drop_getD hr, weighRec, if_neg e, if_pos zo]
  · rw [decide_eq_false (fun q => hr q.1), if_neg zd, List.drop_of_length_le zo, weighRec]
theorem weighFoldl {f g : List WeightEntry → WeightEntry → List WeightEntry} (hf : ∀ l n, StrictW l → f l n = weighRec n l) (hg : ∀ l n, StrictW l → g l n = weighRec n l) : ∀ (b : List WeightEntry) {a : List WeightEntry}, StrictW a → b.foldl f a = b.foldl g a ∧ StrictW (b.foldl g a)
  | [], a, h => ⟨rfl, h⟩
  | n :: b, a, h => by
    have h2 := weighRec_strict n h
    rw [List.foldl_cons, List.foldl_cons, hf a n h, hg a n h]
    exact weighFoldl hf hg b h2
theorem weightsI_R {a : List WeightEntry} (h : StrictW a) (b : List WeightEntry) : weightsI a b = b.foldl weighR a ∧ StrictW (b.foldl weighR a) := weighFoldl (fun l n h => insW_rec h n) (fun l n h => weighR_rec h n) b h
def SortedS (s : Summary) : Prop := StrictI s.joined ∧ StrictI s.removed ∧ StrictW s.weights
theorem joinS_T {a : Summary} (h : SortedS a) (b : Summary) : joinS a b = joinT a b ∧ SortedS (joinT a b) := by
  obtain ⟨h1, h2, h3⟩ := h
  have e1 := unionI_R h1 b.joined
  have e2 := unionI_R h2 b.removed
  have e3 := weightsI_R h3 b.weights
  refine ⟨?_, e1.2, e2.2, e3.2⟩
  have e4 : joinR a b = pickT a b := by unfold joinR pickT; rw [newer_later]
  unfold joinS joinT
  rw [e1.1, e2.1, e3.1, e4]
def lk (l : List WeightEntry) (x : Int) : Option WeightEntry := l.find? fun w => decide (w.server = x)
theorem lk_cons (w : WeightEntry) (l : List WeightEntry) (x : Int) : lk (w :: l) x = if w.server = x then some w else lk l x := by
  unfold lk
  by_cases h : w.server = x <;> simp [h]
theorem lk_none {l : List WeightEntry} {x : Int} (h : ∀ w ∈ l, w.server ≠ x) : lk l x = none := by
  unfold lk
  rw [List.find?_eq_none]
  intro w hw; simp; exact h w hw
theorem lk_weigh (w : WeightEntry) (x : Int) : ∀ {l : List WeightEntry}, StrictW l → lk (weighRec w l) x = if w.server = x then (match lk l x with | none => some w | some o => some (if laterB w o = true then w else o)) else lk l x
  | [], _ => by simp [weighRec, lk_cons, lk]
  | y :: ys, h => by
    replace h := List.pairwise_cons.1 h
    rw [weighRec]
    by_cases e : y.server = w.server
    · rw [if_pos e]
      by_cases ex : w.server = x
      · have e2 : y.server = x := e.trans ex
        rw [lk_cons y, if_pos e2, if_pos ex]
        cases hl : laterB w y <;> simp [lk_cons, ex, e2, hl]
      · have e2 : ¬ y.server = x := fun q => ex (e ▸ q)
        rw [if_neg ex, lk_cons y, if_neg e2]
        cases hl : laterB w y <;> simp [lk_cons, ex, e2, hl]
    · rw [if_neg e]
      by_cases g : w.server < y.server
      · rw [if_pos g, lk_cons w]
        by_cases ex : w.server = x
        · have hn : lk (y :: ys) x = none := lk_none (by
            intro z hz
            rcases List.mem_cons.1 hz with rfl | hz
            · omega
            · have := h.1 z hz; omega)
          rw [if_pos ex, if_pos ex, hn]
        · rw [if_neg ex, if_neg ex]
      · rw [if_neg g, lk_cons y, lk_cons y, lk_weigh w x h.2]
        by_cases ey : y.server = x
        · rw [if_pos ey, if_pos ey, if_neg (fun q => e zo)]
        · rw [if_neg ey, if_neg ey]
theorem strictW_ext : ∀ {a b : List WeightEntry}, StrictW a → StrictW b → (∀ x, lk a x = lk b x) → a = b
  | [], [], _, _, _ => rfl
  | [], y :: b, _, _, h => by have := h y.server; rw [lk_cons, if_pos rfl] at this; cases this
  | x :: a, [], _, _, h => by have := h x.server; rw [lk_cons, if_pos rfl] at this; cases this
  | x :: a, y :: b, ha, hb, h => by
    replace ha := List.pairwise_cons.1 ha
    replace hb := List.pairwise_cons.1 hb
    have hs : x.server = y.server := by
      rcases Int.lt_trichotomy x.server y.server with e | e | e
      · have h1 := h x.server
        rw [lk_cons, if_pos rfl, lk_none (l := y :: b)] at h1
        · cases h1
        · intro z hz
          rcases List.mem_cons.1 hz with rfl | hz
          · omega
          · have := hb.1 z hz; omega
      · exact e
      · have h1 := h y.server
        rw [lk_cons y, if_pos rfl, lk_none (l := x :: a)] at h1
        · cases h1
        · intro z hz
          rcases List.mem_cons.1 hz with rfl | hz
          · omega
          · have := ha.1 z hz; omega
    have hxy : x = y := by
      have h1 := h x.server
      rw [lk_cons, if_pos rfl, lk_cons, if_pos hs.symm] at h1
      exact Option.some.inj h1
    subst hxy
    congr 1
    refine strictW_ext ha.2 hb.2 fun z => ?_
    by_cases e : x.server = z
    · rw [lk_none (l := a) (fun w hw => by have := ha.1 w hw; omega), lk_none (l := b) (fun w hw => by have := hb.1 w hw; omega)]
    · have h1 := h z
      rw [lk_cons, if_neg e, lk_cons, if_neg e] at h1
      exact h1
theorem weightIn_none {l : List WeightEntry} {x : Int} (h : ∀ w ∈ l, w.server ≠ x) : ∀ n, weightIn l x n = n := by
  unfold weightIn
  induction l with
  | nil => intro n; rfl
  | cons w l ih => intro n; rw [List.foldl_cons, if_neg (h w (by simp)), ih (fun v hv => h v (by simp [hv]))]
theorem weightIn_R (x : Int) : ∀ {l : List WeightEntry}, StrictW l → weightIn l x 1 = weightR l x
  | [], _ => rfl
  | w :: l, h => by
    replace h := List.pairwise_cons.1 h
    rw [weightR]
    by_cases e : w.server = x
    · rw [if_pos e]
      have : weightIn (w :: l) x 1 = weightIn l x w.weight := by unfold weightIn; rw [List.foldl_cons, if_pos e]
      rw [this]
      exact weightIn_none (fun v hv => by have := h.1 v hv; omega) _
    · rw [if_neg e, ← weightIn_R x h.2]
      unfold weightIn; rw [List.foldl_cons, if_neg e]
theorem viewS_T {s : Summary} (h : StrictW s.weights) : viewS s = viewT s := by
  unfold viewS viewT viewMs vAccT
  congr 1
  have h1 : (fun x => !s.removed.contains x) = (fun x => !s.removed.any fun y => decide (y = x)) := by
    funext x
    congr 1
    rw [Bool.eq_iff_iff]
    simp
  rw [h1]
  refine List.map_congr_left fun x _ => ?_
  rw [weightIn_R x h]
end Go.Proofs
