/- Contracts of functions and plain laws: W67, W68, W69, W70, W13, W20, W51, W52, W10, W54, W56, W59, W57, W58, W60, W71. -/
import Derived.Test.YtmgnkabnlcapbaaG2
set_option linter.unusedVariables false
set_option linter.unusedSimpArgs false
set_option maxRecDepth 8000
set_option maxHeartbeats 4000000
set_option pp.deepTerms false
set_option pp.deepTerms.threshold 6
namespace Go.Proofs
open Go.AM
attribute [local irreducible] AM.evalR AM.evalD AM.Runs AM.valK AM.dK AM.opK AM.stepR AM.CallS AM.St.Le
theorem insFold_len1 (n : Int) (l : List Int) : ∀ (s : List Int × Bool) (m : Nat), s.1.length ≤ m + (if s.2 then 1 else 0) → (l.foldl (insStep n) s).1.length ≤ m + l.length + (if (l.foldl (insStep n) s).2 then 1 else 0) := by
  induction l with
  | nil => intro s m h; exact h
  | cons y l ih =>
    intro s m h
    have := ih (insStep n s y) (m + 1) (by
      obtain ⟨t, put⟩ := s
      cases put <;> unfold insStep <;> dsimp only at h ⊢ <;> split <;> split <;> simp at * <;> omega)
    rw [List.foldl_cons, List.length_cons]
    omega
theorem insR_len (l : List Int) (n : Int) : (insR l n).length ≤ l.length + 1 := by
  have h := insFold_len1 n l ([], false) 0 (by simp)
  unfold insR
  dsimp only
  split
  · rename_i h2; rw [h2] at h; simp at h ⊢; omega
  · rename_i h2; simp at h2; rw [h2] at h; simp at h ⊢; omega
theorem weighFold_len1 (w : WeightEntry) (l : List WeightEntry) : ∀ (s : List WeightEntry × Bool) (m : Nat), s.1.length ≤ m + (if s.2 then 1 else 0) → (l.foldl (weighStep w) s).1.length ≤ m + l.length + (if (l.foldl (weighStep w) s).2 then 1 else 0) := by
  induction l with
  | nil => intro s m h; exact h
  | cons y l ih =>
    intro s m h
    have := ih (weighStep w s y) (m + 1) (by
      obtain ⟨t, put⟩ := s
      cases put <;> unfold weighStep <;> dsimp only at h ⊢ <;> (repeat' split) <;> simp at * <;> omega)
    rw [List.foldl_cons, List.length_cons]
    omega
theorem weighR_len (l : List WeightEntry) (w : WeightEntry) : (weighR l w).length ≤ l.length + 1 := by
  have h := weighFold_len1 w l ([], false) 0 (by simp)
  unfold weighR
  dsimp only
  split
  · rename_i h2; rw [h2] at h; simp at h ⊢; omega
  · rename_i h2; simp at h2; rw [h2] at h; simp at h ⊢; omega
theorem foldl_len {α β : Type} {f : List α → β → List α} (hf : ∀ l x, (f l x).length ≤ l.length + 1) : ∀ (xs : List β) (l : List α), (xs.foldl f l).length ≤ l.length + xs.length
  | [], l => by simp
  | x :: xs, l => by
    have := foldl_len hf xs (f l x)
    have := hf l x
    rw [List.foldl_cons, List.length_cons]; omega
theorem ref_Initial (g : View) (hg : g.members.length ≤ 1000000) : AM.Fn Try.prog 17 [viV g] (suV (initS g)) := by
  obtain ⟨ms, r⟩ := g
  dsimp only at hg
  (refine spec_of_runs Try.func17 rfl ?_; simp only [Try.f17]; refine ys ?_)
  repeat' (first | refine yw ?_ | ((with_reducible refine Runs.is ?_); first | refine Runs.region (id := 0) ?_ | refine Runs.region (id := 1) ?_ | refine Runs.region (id := 2) ?_ | ((with_reducible refine Runs.isC ?_); refine Runs.cond rfl (zc ?_) (zc ?_) <;> intro hc <;> (try (first | contradiction | (exfalso; omega; done) | (have : hc = trivial := rfl; clear this; clear hc))))) | ((with_reducible refine r_is ?_); first | refine yr ?_) | fail)
  refine Runs.weaken (St.Le.nilVar 21 3 0 3 1 zd rfl rfl rfl) ?_
  refine Runs.weaken (St.Le.nilVar 31 3 2 73 5 zd rfl rfl rfl) ?_
  refine Runs.loopI (fun k : Nat => ms.length - k) (fun k => k ≤ ms.length)
    (fun k => ⟨[.any, .ptr 1 0 0, .ptr 2 0 0, .ptr 3 0 0, .i (k : Nat), .any, .any, .any, .any, .any, .any, .any, .any, .any, .any, .any, .any, .any, .any, .any, .any, .any, .any, .any, .any, .any, .any, .any, .any, .any, .any, .any, .any, .any, .any, .any, .any, .any, .any, .any, .any, .any, .any, .any, .any], [(31, .lst 73 5 (((ms.take k).map wOf).map weV)), (21, .lst 3 1 (((ms.take k).map (·.server)).map .i)), (3, .var 34 (.agg [.own 21, .sc (.slice none 0 0), .own 31, .i r.kind, .i r.columns, .i r.faulty, .i 0, .i 0, .i 0])), (2, .var 34 (.agg [.sc (.slice none 0 0), .sc (.slice none 0 0), .sc (.slice none 0 0), .i 0, .i 0, .i 0, .i 0, .i 0, .i 0])), (1, .var 26 (viV ⟨ms, r⟩))]⟩) 0 (by simp) ?_ ?_
  · (refine St.Le.clean zR zU zV)
  rintro k hk ih
  have hst := fun (h : k < ms.length) => take_getD (xs := ms) h
  have hl1 : ((ms.take k).map wOf).length ≤ 1000000 := by simp; omega
  have hl2 : ((ms.take k).map (·.server)).length ≤ 1000000 := by simp; omega
  by_cases hlt : k < ms.length
  · have hst2 := hst hlt
    repeat' (first | refine yw ?_ | ((with_reducible refine Runs.is ?_); first | refine Runs.region (id := 3) ?_ | ((with_reducible refine Runs.isC ?_); refine Runs.cond rfl (zc ?_) (zc ?_) <;> intro hc <;> (try (first | contradiction | (exfalso; omega; done) | (have : hc = trivial := rfl; clear this; clear hc))))) | ((with_reducible refine r_is ?_); first | refine yr ?_) | fail)
    refine Runs.drawnT [] 9 mixed zK (by decide +kernel) ?_
    dsimp only [List.take, List.drop]
    repeat' (first | (with_reducible refine And.intro (by intro a i h; cases h) ?_) | refine yw ?_ | ((with_reducible refine Runs.is ?_); first | (refine Runs.drawnT (id := 5) [] 9 mixed zK (by decide +kernel) ?_; dsimp only [List.take, List.drop]) | refine Runs.drawn (id := 5) mixed zK ?_ | ((with_reducible refine Runs.isC ?_); refine Runs.cond rfl (zc ?_) (zc ?_) <;> intro hc <;> (try (first | contradiction | (exfalso; omega; done) | (have : hc = trivial := rfl; clear this; clear hc))))) | ((with_reducible refine r_is ?_); first | refine yr ?_ | (refine r_append_full SlF.h SlF.s ZoF.h zd rfl rfl zC zJ zS rfl (fun hn => ?_) (fun hn => ?_) <;> refine r_nn zN zH ?_)) | ((with_reducible refine d_is ?_); first | refine yd ?_) | fail)
    refine And.intro (by intro a i h; cases h) ?_
    refine yr ?_
    refine Runs.drawnT [] 16 mixed zK (by decide +kernel) ?_
    dsimp only [List.take, List.drop]
    repeat' (first | (with_reducible refine And.intro (by intro a i h; cases h) ?_) | refine yw ?_ | ((with_reducible refine Runs.is ?_); first | (refine Runs.drawnT (id := 6) [] 16 mixed zK (by decide +kernel) ?_; dsimp only [List.take, List.drop]) | refine Runs.drawn (id := 6) mixed zK ?_ | ((with_reducible refine Runs.isC ?_); refine Runs.cond rfl (zc ?_) (zc ?_) <;> intro hc <;> (try (first | contradiction | (exfalso; omega; done) | (have : hc = trivial := rfl; clear this; clear hc))))) | ((with_reducible refine r_is ?_); first | refine yr ?_ | (refine r_append_full SlF.h SlF.s ZoF.h zd rfl rfl zC zJ zS rfl (fun hn => ?_) (fun hn => ?_) <;> refine r_nn zN zH ?_)) | ((with_reducible refine d_is ?_); first | refine yd ?_) | fail)
    refine And.intro (by intro a i h; cases h) ?_
    refine yr ?_
    repeat' (first | refine yw ?_ | ((with_reducible refine Runs.is ?_); first | refine Runs.region (id := 4) ?_ | ((with_reducible refine Runs.isC ?_); refine Runs.cond rfl (zc ?_) (zc ?_) <;> intro hc <;> (try (first | contradiction | (exfalso; omega; done) | (have : hc = trivial := rfl; clear this; clear hc))))) | ((with_reducible refine r_is ?_); first | refine yr ?_) | fail)
    refine ih (k + 1) _ zo zo ?_
    rw [hst2]
    (refine St.Le.clean zR (by first | (simp [V.usesL, V.uses, AM.look_cons]; done) | (simp [V.usesL, V.uses, AM.look_cons, V.usesL_data, V.uses_data, da_i, da_chV, da_ruV, da_prV, da_enV, da_cfV, da_veV, da_inV, da_edV, da_grV, da_weV, da_mbV, da_suV, da_viV]; done)) ?_; (repeat' (first | exact True.intro | refine And.intro ?_ ?_)); all_goals (first | rfl | (simp [AM.look_cons, weV, wOf]; done) | (simp [V.uses, V.usesL, AM.look_cons, V.usesL_data, V.uses_data, da_i, da_chV, da_ruV, da_prV, da_enV, da_cfV, da_veV, da_inV, da_edV, da_grV, da_weV, da_mbV, da_suV, da_viV]; done)))
  · have hk2 : k = ms.length := by omega
    subst hk2
    rw [List.take_length] at hl1 hl2 ⊢
    repeat' (first | refine yw ?_ | ((with_reducible refine Runs.is ?_); first | refine Runs.region (id := 3) ?_ | ((with_reducible refine Runs.isC ?_); refine Runs.cond rfl (zc ?_) (zc ?_) <;> intro hc <;> (try (first | contradiction | (exfalso; omega; done) | (have : hc = trivial := rfl; clear this; clear hc))))) | ((with_reducible refine r_is ?_); first | refine yr ?_) | fail)
    repeat' (first | refine yw ?_ | ((with_reducible refine Runs.is ?_); first | refine Runs.region (id := 7) ?_ | ((with_reducible refine Runs.isC ?_); refine Runs.cond rfl (zc ?_) (zc ?_) <;> intro hc <;> (try (first | contradiction | (exfalso; omega; done) | (have : hc = trivial := rfl; clear this; clear hc))))) | ((with_reducible refine r_is ?_); first | refine yr ?_) | fail)
    (refine Runs.weaken (St.Le.freeze_lst 21 rfl) ?_; refine yf ?_)
    (refine Runs.weaken (St.Le.freeze_lst 31 rfl) ?_; refine yf ?_)
    (refine Runs.retC Try.func17 rfl zM rfl TyF.h (And.intro zE zd) zD ?_; try exact zX)
end Go.Proofs
namespace Go.Proofs
open Go.AM
attribute [local irreducible] AM.evalR AM.evalD AM.Runs AM.valK AM.dK AM.opK AM.stepR AM.CallS AM.St.Le
def pickT (a b : Summary) : Summary := if b.rule ≠ ⟨0, 0, 0⟩ ∧ (a.rule = ⟨0, 0, 0⟩ ∨ laterB (originW b) (originW a) = true) then b else a
def joinT (a b : Summary) : Summary := ⟨b.joined.foldl insR a.joined, b.removed.foldl insR a.removed, b.weights.foldl weighR a.weights, (pickT a b).rule, (pickT a b).version, (pickT a b).admin, (pickT a b).number⟩
theorem ref_Join (a b : Summary) (ha : Short a 400000) (hb : Short b 400000) : AM.Fn Try.prog 26 [suV a, suV b] (suV (joinT a b)) := by
  obtain ⟨a1, a2, a3⟩ := ha
  obtain ⟨b1, b2, b3⟩ := hb
  have hL := ref_later (originW b) (originW a)
  have hgo : ∀ r, pickT a b = r → (⟨b.joined.foldl insR a.joined, b.removed.foldl insR a.removed, b.weights.foldl weighR a.weights, r.rule, r.version, r.admin, r.number⟩ : Summary) = joinT a b := fun r h => by subst h; rfl
  unfold pickT at hgo
  generalize joinT a b = res at *
  obtain ⟨J, R, W, ru, ver, adm, num⟩ := a
  obtain ⟨J', R', W', ru', ver', adm', num'⟩ := b
  unfold originW at hL hgo
  dsimp only at *
  (refine spec_of_runs Try.func26 rfl ?_; simp only [Try.f26]; refine ys ?_)
  repeat' (first | refine yw ?_ | ((with_reducible refine Runs.is ?_); first | refine Runs.region (id := 0) ?_ | refine Runs.region (id := 1) ?_ | refine Runs.region (id := 2) ?_ | ((with_reducible refine Runs.isC ?_); refine Runs.cond rfl (zc ?_) (zc ?_) <;> intro hc <;> (try (first | contradiction | (exfalso; omega; done) | (have : hc = trivial := rfl; clear this; clear hc))))) | ((with_reducible refine r_is ?_); first | refine yr ?_) | fail)
  refine Runs.loopI (fun k : Nat => J'.length - k) (fun k => k ≤ J'.length)
    (fun k => ⟨[.any, .any, .ptr 2 0 0, .ptr 3 0 0, .ptr 4 0 0, .ptr 5 0 0, .i (k : Nat), .any, .any, .any, .any, .any, .any, .any, .any, .any, .any, .any, .any, .any, .any, .any, .any, .any, .any, .any, .any, .any, .any, .any, .any, .any, .any, .any, .any, .any, .any, .any, .any, .any, .any, .any, .any, .any, .any, .any, .any, .any, .any, .any, .any, .any, .any, .any, .any, .any, .any, .any, .any, .any, .any, .any, .any, .any, .any, .any, .any, .any, .any, .any, .any, .any, .any, .any, .any, .any, .any, .any, .any, .any, .any, .any, .any, .any, .any, .any, .any, .any, .any, .any, .any, .any, .any, .any, .any, .any, .any, .any, .any, .any, .any, .any], [(5, .var 34 (suV ⟨(J'.take k).foldl insR J, R, W, ru, ver, adm, num⟩)), (4, .var 34 (.agg [.sc (.slice none 0 0), .sc (.slice none 0 0), .sc (.slice none 0 0), .i 0, .i 0, .i 0, .i 0, .i 0, .i 0])), (3, .var 34 (suV ⟨J', R', W', ru', ver', adm', num'⟩)), (2, .var 34 (suV ⟨J, R, W, ru, ver, adm, num⟩))]⟩) 0 (by simp) ?_ ?_
  · (refine St.Le.clean zR zU zV)
  rintro k hk ih
  have hst := fun (h : k < J'.length) => foldl_take (g := insR) (s := J) h
  have hend : J'.length ≤ k → (J'.take k).foldl insR J = J'.foldl insR J := fun h => by rw [List.take_of_length_le h]
  have hlen := foldl_len insR_len (J'.take k) J
  rw [List.length_take] at hlen
  generalize (J'.take k).foldl insR J = acc at hst hend hlen ⊢
  by_cases hlt : k < J'.length
  · have hst2 := hst hlt
    have hI := ref_Insert false acc (J'.getD k default) zo
    repeat' (first | refine yw ?_ | ((with_reducible refine Runs.is ?_); first | refine Runs.region (id := 3) ?_ | refine Runs.drawn (id := 5) mixed zK ?_ | refine Runs.region (id := 4) ?_ | ((with_reducible refine Runs.isC ?_); refine Runs.cond rfl (zc ?_) (zc ?_) <;> intro hc <;> (try (first | contradiction | (exfalso; omega; done) | (have : hc = trivial := rfl; clear this; clear hc))))) | ((with_reducible refine r_is ?_); first | refine yr ?_) | ((with_reducible refine d_is ?_); first | refine yd ?_ | (refine d_fn rfl (hI) HbF.h zL2 zD ?_; refine d_nn zN zH ?_)) | fail)
    refine ih (k + 1) _ zo zo ?_
    rw [hst2]
    (refine St.Le.clean zR (by first | (simp [V.usesL, V.uses, AM.look_cons]; done) | (simp [V.usesL, V.uses, AM.look_cons, V.usesL_data, V.uses_data, da_i, da_chV, da_ruV, da_prV, da_enV, da_cfV, da_veV, da_inV, da_edV, da_grV, da_weV, da_mbV, da_suV, da_viV]; done)) ?_; (repeat' (first | exact True.intro | refine And.intro ?_ ?_)); all_goals (first | rfl | (simp [AM.look_cons, suV]; done) | (simp [V.uses, V.usesL, AM.look_cons, V.usesL_data, V.uses_data, da_i, da_chV, da_ruV, da_prV, da_enV, da_cfV, da_veV, da_inV, da_edV, da_grV, da_weV, da_mbV, da_suV, da_viV]; done)))
  have he := hend zo
  subst he
  clear ih hst hend
  generalize J'.foldl insR J = res1 at hgo hlen ⊢
  repeat' (first | refine yw ?_ | ((with_reducible refine Runs.is ?_); first | refine Runs.region (id := 3) ?_ | ((with_reducible refine Runs.isC ?_); refine Runs.cond rfl (zc ?_) (zc ?_) <;> intro hc <;> (try (first | contradiction | (exfalso; omega; done) | (have : hc = trivial := rfl; clear this; clear hc))))) | ((with_reducible refine r_is ?_); first | refine yr ?_) | fail)
  repeat' (first | refine yw ?_ | ((with_reducible refine Runs.is ?_); first | refine Runs.region (id := 6) ?_ | ((with_reducible refine Runs.isC ?_); refine Runs.cond rfl (zc ?_) (zc ?_) <;> intro hc <;> (try (first | contradiction | (exfalso; omega; done) | (have : hc = trivial := rfl; clear this; clear hc))))) | ((with_reducible refine r_is ?_); first | refine yr ?_) | fail)
  refine Runs.loopI (fun k : Nat => R'.length - k) (fun k => k ≤ R'.length)
    (fun k => ⟨[.any, .any, .ptr 2 0 0, .ptr 3 0 0, .ptr 4 0 0, .ptr 5 0 0, .any, .i (k : Nat), .any, .any, .any, .any, .any, .any, .any, .any, .any, .any, .any, .any, .any, .any, .any, .any, .any, .any, .any, .any, .any, .any, .any, .any, .any, .any, .any, .any, .any, .any, .any, .any, .any, .any, .any, .any, .any, .any, .any, .any, .any, .any, .any, .any, .any, .any, .any, .any, .any, .any, .any, .any, .any, .any, .any, .any, .any, .any, .any, .any, .any, .any, .any, .any, .any, .any, .any, .any, .any, .any, .any, .any, .any, .any, .any, .any, .any, .any, .any, .any, .any, .any, .any, .any, .any, .any, .any, .any, .any, .any, .any, .any, .any, .any], [(5, .var 34 (suV ⟨res1, (R'.take k).foldl insR R, W, ru, ver, adm, num⟩)), (4, .var 34 (.agg [.sc (.slice none 0 0), .sc (.slice none 0 0), .sc (.slice none 0 0), .i 0, .i 0, .i 0, .i 0, .i 0, .i 0])), (3, .var 34 (suV ⟨J', R', W', ru', ver', adm', num'⟩)), (2, .var 34 (suV ⟨J, R, W, ru, ver, adm, num⟩))]⟩) 0 (by simp) ?_ ?_
  · (refine St.Le.clean zR zU zV)
  clear hc hk hlt hlen k
  rintro k hk ih
  have hst := fun (h : k < R'.length) => foldl_take (g := insR) (s := R) h
  have hend : R'.length ≤ k → (R'.take k).foldl insR R = R'.foldl insR R := fun h => by rw [List.take_of_length_le h]
  have hlen := foldl_len insR_len (R'.take k) R
  rw [List.length_take] at hlen
  generalize (R'.take k).foldl insR R = acc at hst hend hlen ⊢
  by_cases hlt : k < R'.length
  · have hst2 := hst hlt
    have hI := ref_Insert false acc (R'.getD k default) zo
    repeat' (first | refine yw ?_ | ((with_reducible refine Runs.is ?_); first | refine Runs.region (id := 7) ?_ | refine Runs.drawn (id := 9) mixed zK ?_ | refine Runs.region (id := 8) ?_ | ((with_reducible refine Runs.isC ?_); refine Runs.cond rfl (zc ?_) (zc ?_) <;> intro hc <;> (try (first | contradiction | (exfalso; omega; done) | (have : hc = trivial := rfl; clear this; clear hc))))) | ((with_reducible refine r_is ?_); first | refine yr ?_) | ((with_reducible refine d_is ?_); first | refine yd ?_ | (refine d_fn rfl (hI) HbF.h zL2 zD ?_; refine d_nn zN zH ?_)) | fail)
    refine ih (k + 1) _ zo zo ?_
    rw [hst2]
    (refine St.Le.clean zR (by first | (simp [V.usesL, V.uses, AM.look_cons]; done) | (simp [V.usesL, V.uses, AM.look_cons, V.usesL_data, V.uses_data, da_i, da_chV, da_ruV, da_prV, da_enV, da_cfV, da_veV, da_inV, da_edV, da_grV, da_weV, da_mbV, da_suV, da_viV]; done)) ?_; (repeat' (first | exact True.intro | refine And.intro ?_ ?_)); all_goals (first | rfl | (simp [AM.look_cons, suV]; done) | (simp [V.uses, V.usesL, AM.look_cons, V.usesL_data, V.uses_data, da_i, da_chV, da_ruV, da_prV, da_enV, da_cfV, da_veV, da_inV, da_edV, da_grV, da_weV, da_mbV, da_suV, da_viV]; done)))
  have he := hend zo
  subst he
  clear ih hst hend
  generalize R'.foldl insR R = res2 at hgo hlen ⊢
  repeat' (first | refine yw ?_ | ((with_reducible refine Runs.is ?_); first | refine Runs.region (id := 7) ?_ | ((with_reducible refine Runs.isC ?_); refine Runs.cond rfl (zc ?_) (zc ?_) <;> intro hc <;> (try (first | contradiction | (exfalso; omega; done) | (have : hc = trivial := rfl; clear this; clear hc))))) | ((with_reducible refine r_is ?_); first | refine yr ?_) | fail)
  repeat' (first | refine yw ?_ | ((with_reducible refine Runs.is ?_); first | refine Runs.region (id := 10) ?_ | ((with_reducible refine Runs.isC ?_); refine Runs.cond rfl (zc ?_) (zc ?_) <;> intro hc <;> (try (first | contradiction | (exfalso; omega; done) | (have : hc = trivial := rfl; clear this; clear hc))))) | ((with_reducible refine r_is ?_); first | refine yr ?_) | fail)
  refine Runs.loopI (fun k : Nat => W'.length - k) (fun k => k ≤ W'.length)
    (fun k => ⟨[.any, .any, .ptr 2 0 0, .ptr 3 0 0, .ptr 4 0 0, .ptr 5 0 0, .any, .any, .i (k : Nat), .any, .any, .any, .any, .any, .any, .any, .any, .any, .any, .any, .any, .any, .any, .any, .any, .any, .any, .any, .any, .any, .any, .any, .any, .any, .any, .any, .any, .any, .any, .any, .any, .any, .any, .any, .any, .any, .any, .any, .any, .any, .any, .any, .any, .any, .any, .any, .any, .any, .any, .any, .any, .any, .any, .any, .any, .any, .any, .any, .any, .any, .any, .any, .any, .any, .any, .any, .any, .any, .any, .any, .any, .any, .any, .any, .any, .any, .any, .any, .any, .any, .any, .any, .any, .any, .any, .any, .any, .any, .any, .any, .any, .any], [(5, .var 34 (suV ⟨res1, res2, (W'.take k).foldl weighR W, ru, ver, adm, num⟩)), (4, .var 34 (.agg [.sc (.slice none 0 0), .sc (.slice none 0 0), .sc (.slice none 0 0), .i 0, .i 0, .i 0, .i 0, .i 0, .i 0])), (3, .var 34 (suV ⟨J', R', W', ru', ver', adm', num'⟩)), (2, .var 34 (suV ⟨J, R, W, ru, ver, adm, num⟩))]⟩) 0 (by simp) ?_ ?_
  · (refine St.Le.clean zR zU zV)
  clear hc hk hlt hlen k
  rintro k hk ih
  have hst := fun (h : k < W'.length) => foldl_take (g := weighR) (s := W) h
  have hend : W'.length ≤ k → (W'.take k).foldl weighR W = W'.foldl weighR W := fun h => by rw [List.take_of_length_le h]
  have hlen := foldl_len weighR_len (W'.take k) W
  rw [List.length_take] at hlen
  generalize (W'.take k).foldl weighR W = acc at hst hend hlen ⊢
  by_cases hlt : k < W'.length
  · have hst2 := hst hlt
    have hI := ref_Weigh false acc (W'.getD k default) zo
    repeat' (first | refine yw ?_ | ((with_reducible refine Runs.is ?_); first | refine Runs.region (id := 11) ?_ | refine Runs.drawn (id := 13) mixed zK ?_ | refine Runs.region (id := 12) ?_ | ((with_reducible refine Runs.isC ?_); refine Runs.cond rfl (zc ?_) (zc ?_) <;> intro hc <;> (try (first | contradiction | (exfalso; omega; done) | (have : hc = trivial := rfl; clear this; clear hc))))) | ((with_reducible refine r_is ?_); first | refine yr ?_) | ((with_reducible refine d_is ?_); first | refine yd ?_ | (refine d_fn rfl (hI) HbF.h zL2 zD ?_; refine d_nn zN zH ?_)) | fail)
    refine ih (k + 1) _ zo zo ?_
    rw [hst2]
    (refine St.Le.clean zR (by first | (simp [V.usesL, V.uses, AM.look_cons]; done) | (simp [V.usesL, V.uses, AM.look_cons, V.usesL_data, V.uses_data, da_i, da_chV, da_ruV, da_prV, da_enV, da_cfV, da_veV, da_inV, da_edV, da_grV, da_weV, da_mbV, da_suV, da_viV]; done)) ?_; (repeat' (first | exact True.intro | refine And.intro ?_ ?_)); all_goals (first | rfl | (simp [AM.look_cons, suV]; done) | (simp [V.uses, V.usesL, AM.look_cons, V.usesL_data, V.uses_data, da_i, da_chV, da_ruV, da_prV, da_enV, da_cfV, da_veV, da_inV, da_edV, da_grV, da_weV, da_mbV, da_suV, da_viV]; done)))
  have he := hend zo
  subst he
  clear ih hst hend
  generalize W'.foldl weighR W = res3 at hgo hlen ⊢
  repeat' (first | refine yw ?_ | ((with_reducible refine Runs.is ?_); first | refine Runs.region (id := 11) ?_ | ((with_reducible refine Runs.isC ?_); refine Runs.cond rfl (zc ?_) (zc ?_) <;> intro hc <;> (try (first | contradiction | (exfalso; omega; done) | (have : hc = trivial := rfl; clear this; clear hc))))) | ((with_reducible refine r_is ?_); first | refine yr ?_) | fail)
  repeat' (first | refine yw ?_ | ((with_reducible refine Runs.is ?_); first | refine Runs.region (id := 14) ?_ | refine Runs.region (id := 15) ?_ | refine Runs.region (id := 16) ?_ | refine Runs.region (id := 17) ?_ | refine Runs.region (id := 18) ?_ | refine Runs.region (id := 19) ?_ | refine Runs.region (id := 20) ?_ | refine Runs.region (id := 21) ?_ | ((with_reducible refine Runs.isC ?_); refine Runs.cond rfl (zc ?_) (zc ?_) <;> intro hc <;> (try (first | contradiction | (exfalso; omega; done) | (have : hc = trivial := rfl; clear this; clear hc))))) | ((with_reducible refine r_is ?_); first | refine yr ?_ | (refine r_fn rfl (hL) HbF.h zL2 zD ?_; refine r_nn zN zH ?_) | ((with_reducible refine r_gd ?_); (first | refine r_guardPf rfl rfl ?_ ?_ | refine r_guardNf rfl rfl ?_ ?_ | refine r_guardPt rfl rfl ?_ ?_ | refine r_guardNt rfl rfl ?_ ?_ | refine r_guard rfl rfl ?_ ?_) <;> intro hG <;> (try (exfalso; omega; done)) <;> refine r_nn zN zH ?_)) | fail)
  · rename_i h1
    have hr := hgo _ (if_pos ⟨of_decide_eq_false (rz_n h1), .inr hc⟩)
    subst hr
    clear hgo hG h1 hc
    (refine Runs.retC Try.func26 rfl zM rfl TyF.h (And.intro zE zd) zD ?_; try exact zX)
  · have hr := hgo _ (if_neg (fun q => q.2.elim (of_decide_eq_false (rz_p hG)) (fun e => by rw [hc] at e; cases e)))
    subst hr
    clear hgo hG hc
    (refine Runs.retC Try.func26 rfl zM rfl TyF.h (And.intro zE zd) zD ?_; try exact zX)
  · rename_i h1
    have hr := hgo _ (if_pos ⟨of_decide_eq_false (rz_n h1), .inl (of_decide_eq_true (rz_p hG))⟩)
    subst hr
    clear hgo hG h1
    (refine Runs.retC Try.func26 rfl zM rfl TyF.h (And.intro zE zd) zD ?_; try exact zX)
  · have hr := hgo _ (if_neg (fun q => q.1 (of_decide_eq_true (rz_n hG))))
    subst hr
    clear hgo hG
    (refine Runs.retC Try.func26 rfl zM rfl TyF.h (And.intro zE zd) zD ?_; try exact zX)
end Go.Proofs
namespace Go.Proofs
open Go.AM
attribute [local irreducible] AM.evalR AM.evalD AM.Runs AM.valK AM.dK AM.opK AM.stepR AM.CallS AM.St.Le
def sum0 : Summary := ⟨[], [], [], ⟨0, 0, 0⟩, 0, 0, 0⟩
def ofTStep (p : Proposal) (s : Summary) (c : Change) : Summary :=
  if c.kind = 1 then { s with joined := insR s.joined c.server, weights := weighR s.weights ⟨c.server, c.weight, 0, p.admin, p.number⟩ }
  else if c.kind = 2 then { s with removed := insR s.removed c.server }
  else if c.kind = 3 then { s with weights := weighR s.weights ⟨c.server, c.weight, c.version, p.admin, p.number⟩ }
  else if c.kind = 4 then { s with rule := c.rule, version := c.version, admin := p.admin, number := p.number }
  else s
def ofT (p : Proposal) : Summary := p.changes.foldl (ofTStep p) sum0
theorem ofTStep_short {p : Proposal} {s : Summary} {c : Change} {n : Nat} (h : Short s n) : Short (ofTStep p s c) (n + 1) := by
  obtain ⟨h1, h2, h3⟩ := h
  have i1 := insR_len s.joined c.server
  have i2 := insR_len s.removed c.server
  have i3 := weighR_len s.weights ⟨c.server, c.weight, 0, p.admin, p.number⟩
  have i4 := weighR_len s.weights ⟨c.server, c.weight, c.version, p.admin, p.number⟩
  unfold ofTStep Short
  (repeat' split) <;> (try dsimp only) <;> omega
theorem ofT_short {p : Proposal} (k : Nat) (hk : k ≤ p.changes.length) : Short ((p.changes.take k).foldl (ofTStep p) sum0) k := by
  induction k with
  | zero => exact ⟨Nat.le_refl _, Nat.le_refl _, Nat.le_refl _⟩
  | succ k ih =>
    rw [foldl_take zo]
    exact ofTStep_short (ih zo)
theorem ref_Of (p : Proposal) (hp : p.changes.length ≤ 100000) : AM.Fn Try.prog 24 [prV p] (suV (ofT p)) := by
  have hgo : ∀ s, p.changes.foldl (ofTStep p) sum0 = s → s = ofT p := fun s h => h.symm
  have hsh := fun k hk => ofT_short (p := p) k hk
  have hgen : ∃ q : Proposal, q = p := ⟨p, rfl⟩
  obtain ⟨ad, nu, cs⟩ := p
  dsimp only at hp hgo hsh
  (refine spec_of_runs Try.func24 rfl ?_; simp only [Try.f24]; refine ys ?_)
  repeat' (first | refine yw ?_ | ((with_reducible refine Runs.is ?_); first | refine Runs.region (id := 0) ?_ | refine Runs.region (id := 1) ?_ | refine Runs.region (id := 2) ?_ | ((with_reducible refine Runs.isC ?_); refine Runs.cond rfl (zc ?_) (zc ?_) <;> intro hc <;> (try (first | contradiction | (exfalso; omega; done) | (have : hc = trivial := rfl; clear this; clear hc))))) | ((with_reducible refine r_is ?_); first | refine yr ?_) | fail)
  refine Runs.weaken (St.Le.nilVar 20 3 0 3 1 zd rfl rfl rfl) ?_
  (refine Runs.weaken (St.Le.freeze_lst 20 rfl) ?_; refine yf ?_)
  refine Runs.weaken (St.Le.nilVar 20 3 1 3 1 zd rfl rfl rfl) ?_
  (refine Runs.weaken (St.Le.freeze_lst 20 rfl) ?_; refine yf ?_)
  refine Runs.weaken (St.Le.nilVar 20 3 2 73 5 zd rfl rfl rfl) ?_
  (refine Runs.weaken (St.Le.freeze_lst 20 rfl) ?_; refine yf ?_)
  refine Runs.loopI (fun k : Nat => cs.length - k) (fun k => k ≤ cs.length)
    (fun k => ⟨[.any, .ptr 1 0 0, .ptr 2 0 0, .ptr 3 0 0, .i (k : Nat), .any, .any, .any, .any, .any, .any, .any, .any, .any, .any, .any, .any, .any, .any, .any, .any, .any, .any, .any, .any, .any, .any, .any, .any, .any, .any, .any, .any, .any, .any, .any, .any, .any, .any, .any, .any, .any, .any, .any, .any, .any, .any, .any, .any, .any, .any, .any, .any, .any, .any, .any, .any, .any, .any, .any, .any, .any, .any, .any, .any, .any, .any, .any, .any, .any, .any, .any, .any, .any, .any, .any, .any, .any, .any, .any, .any, .any], [(3, .var 34 (suV ((cs.take k).foldl (ofTStep ⟨ad, nu, cs⟩) sum0))), (2, .var 34 (.agg [.sc (.slice none 0 0), .sc (.slice none 0 0), .sc (.slice none 0 0), .i 0, .i 0, .i 0, .i 0, .i 0, .i 0])), (1, .var 41 (prV ⟨ad, nu, cs⟩))]⟩) 0 (by simp) ?_ ?_
  · (refine St.Le.clean zR zU zV)
  rintro k hk ih
  have hst := fun (h : k < cs.length) => foldl_take (g := ofTStep ⟨ad, nu, cs⟩) (s := sum0) h
  have hend : cs.length ≤ k → (cs.take k).foldl (ofTStep ⟨ad, nu, cs⟩) sum0 = ofT ⟨ad, nu, cs⟩ := fun h => by rw [List.take_of_length_le h]; rfl
  have hshk := hsh k hk
  generalize (cs.take k).foldl (ofTStep ⟨ad, nu, cs⟩) sum0 = s at hst hend hshk ⊢
  clear hgo hsh
  by_cases hlt : k < cs.length
  · have hst2 := hst hlt
    clear hst hend
    obtain ⟨s1, s2, s3⟩ := hshk
    have hI1 := ref_Insert false s.joined (cs.getD k default).server zo
    have hI2 := ref_Insert false s.removed (cs.getD k default).server zo
    have hW1 := ref_Weigh false s.weights ⟨(cs.getD k default).server, (cs.getD k default).weight, 0, ad, nu⟩ zo
    have hW2 := ref_Weigh false s.weights ⟨(cs.getD k default).server, (cs.getD k default).weight, (cs.getD k default).version, ad, nu⟩ zo
    rw [ofTStep] at hst2
    dsimp only at hst2
    repeat' (first | refine yw ?_ | ((with_reducible refine Runs.is ?_); first | refine Runs.region (id := 3) ?_ | refine Runs.region (id := 5) ?_ | refine Runs.region (id := 6) ?_ | refine Runs.region (id := 7) ?_ | refine Runs.region (id := 8) ?_ | refine Runs.region (id := 9) ?_ | refine Runs.region (id := 10) ?_ | refine Runs.region (id := 11) ?_ | refine Runs.region (id := 12) ?_ | refine Runs.region (id := 13) ?_ | refine Runs.region (id := 14) ?_ | refine Runs.region (id := 15) ?_ | refine Runs.region (id := 16) ?_ | refine Runs.region (id := 17) ?_ | refine Runs.region (id := 18) ?_ | refine Runs.region (id := 4) ?_ | ((with_reducible refine Runs.isC ?_); refine Runs.cond rfl (zc ?_) (zc ?_) <;> intro hc <;> (try (first | contradiction | (exfalso; omega; done) | (have : hc = trivial := rfl; clear this; clear hc))))) | ((with_reducible refine r_is ?_); first | refine yr ?_ | (refine r_fn rfl (hI1) HbF.h zL2 zD ?_; refine r_nn zN zH ?_) | (refine r_fn rfl (hI2) HbF.h zL2 zD ?_; refine r_nn zN zH ?_) | (refine r_fn rfl (hW1) HbF.h zL2 zD ?_; refine r_nn zN zH ?_) | (refine r_fn rfl (hW2) HbF.h zL2 zD ?_; refine r_nn zN zH ?_)) | fail)
    all_goals (refine ih (k + 1) _ zo zo ?_)
    · rw [hst2, if_pos (by assumption)]
      (refine St.Le.clean zR (by first | (simp [V.usesL, V.uses, AM.look_cons]; done) | (simp [V.usesL, V.uses, AM.look_cons, V.usesL_data, V.uses_data, da_i, da_chV, da_ruV, da_prV, da_enV, da_cfV, da_veV, da_inV, da_edV, da_grV, da_weV, da_mbV, da_suV, da_viV]; done)) ?_; (repeat' (first | exact True.intro | refine And.intro ?_ ?_)); all_goals (first | rfl | (simp [AM.look_cons, suV]; done) | (simp [V.uses, V.usesL, AM.look_cons, V.usesL_data, V.uses_data, da_i, da_chV, da_ruV, da_prV, da_enV, da_cfV, da_veV, da_inV, da_edV, da_grV, da_weV, da_mbV, da_suV, da_viV]; done)))
    · rw [hst2, if_neg zo, if_pos (by assumption)]
      (refine St.Le.clean zR (by first | (simp [V.usesL, V.uses, AM.look_cons]; done) | (simp [V.usesL, V.uses, AM.look_cons, V.usesL_data, V.uses_data, da_i, da_chV, da_ruV, da_prV, da_enV, da_cfV, da_veV, da_inV, da_edV, da_grV, da_weV, da_mbV, da_suV, da_viV]; done)) ?_; (repeat' (first | exact True.intro | refine And.intro ?_ ?_)); all_goals (first | rfl | (simp [AM.look_cons, suV]; done) | (simp [V.uses, V.usesL, AM.look_cons, V.usesL_data, V.uses_data, da_i, da_chV, da_ruV, da_prV, da_enV, da_cfV, da_veV, da_inV, da_edV, da_grV, da_weV, da_mbV, da_suV, da_viV]; done)))
    · rw [hst2, if_neg zo, if_neg zo, if_pos (by assumption)]
      (refine St.Le.clean zR (by first | (simp [V.usesL, V.uses, AM.look_cons]; done) | (simp [V.usesL, V.uses, AM.look_cons, V.usesL_data, V.uses_data, da_i, da_chV, da_ruV, da_prV, da_enV, da_cfV, da_veV, da_inV, da_edV, da_grV, da_weV, da_mbV, da_suV, da_viV]; done)) ?_; (repeat' (first | exact True.intro | refine And.intro ?_ ?_)); all_goals (first | rfl | (simp [AM.look_cons, suV]; done) | (simp [V.uses, V.usesL, AM.look_cons, V.usesL_data, V.uses_data, da_i, da_chV, da_ruV, da_prV, da_enV, da_cfV, da_veV, da_inV, da_edV, da_grV, da_weV, da_mbV, da_suV, da_viV]; done)))
    · rw [hst2, if_neg zo, if_neg zo, if_neg zo, if_pos (by assumption)]
      (refine St.Le.clean zR (by first | (simp [V.usesL, V.uses, AM.look_cons]; done) | (simp [V.usesL, V.uses, AM.look_cons, V.usesL_data, V.uses_data, da_i, da_chV, da_ruV, da_prV, da_enV, da_cfV, da_veV, da_inV, da_edV, da_grV, da_weV, da_mbV, da_suV, da_viV]; done)) ?_; (repeat' (first | exact True.intro | refine And.intro ?_ ?_)); all_goals (first | rfl | (simp [AM.look_cons, suV]; done) | (simp [V.uses, V.usesL, AM.look_cons, V.usesL_data, V.uses_data, da_i, da_chV, da_ruV, da_prV, da_enV, da_cfV, da_veV, da_inV, da_edV, da_grV, da_weV, da_mbV, da_suV, da_viV]; done)))
    · rw [hst2, if_neg zo, if_neg zo, if_neg zo, if_neg zo]
      (refine St.Le.clean zR (by first | (simp [V.usesL, V.uses, AM.look_cons]; done) | (simp [V.usesL, V.uses, AM.look_cons, V.usesL_data, V.uses_data, da_i, da_chV, da_ruV, da_prV, da_enV, da_cfV, da_veV, da_inV, da_edV, da_grV, da_weV, da_mbV, da_suV, da_viV]; done)) ?_; (repeat' (first | exact True.intro | refine And.intro ?_ ?_)); all_goals (first | rfl | (simp [AM.look_cons, suV]; done) | (simp [V.uses, V.usesL, AM.look_cons, V.usesL_data, V.uses_data, da_i, da_chV, da_ruV, da_prV, da_enV, da_cfV, da_veV, da_inV, da_edV, da_grV, da_weV, da_mbV, da_suV, da_viV]; done)))
  · have he := hend zo
    subst he
    repeat' (first | refine yw ?_ | ((with_reducible refine Runs.is ?_); first | refine Runs.region (id := 3) ?_ | ((with_reducible refine Runs.isC ?_); refine Runs.cond rfl (zc ?_) (zc ?_) <;> intro hc <;> (try (first | contradiction | (exfalso; omega; done) | (have : hc = trivial := rfl; clear this; clear hc))))) | ((with_reducible refine r_is ?_); first | refine yr ?_) | fail)
    repeat' (first | refine yw ?_ | ((with_reducible refine Runs.is ?_); first | refine Runs.region (id := 19) ?_ | ((with_reducible refine Runs.isC ?_); refine Runs.cond rfl (zc ?_) (zc ?_) <;> intro hc <;> (try (first | contradiction | (exfalso; omega; done) | (have : hc = trivial := rfl; clear this; clear hc))))) | ((with_reducible refine r_is ?_); first | refine yr ?_) | fail)
    (refine Runs.retC Try.func24 rfl zM rfl TyF.h (And.intro zE zd) zD ?_; try exact zX)
end Go.Proofs
namespace Go.Proofs
open Go.AM
attribute [local irreducible] AM.evalR AM.evalD AM.Runs AM.valK AM.dK AM.opK AM.stepR AM.CallS AM.St.Le
def sumTStep (s : Summary) (p : Proposal) : Summary := joinT s (ofT p)
def sumT (g : View) (c : Config) : Summary := c.foldl sumTStep (initS g)
theorem joinT_short {a b : Summary} {m n : Nat} (ha : Short a m) (hb : Short b n) : Short (joinT a b) (m + n) := by
  have h1 := foldl_len insR_len b.joined a.joined
  have h2 := foldl_len insR_len b.removed a.removed
  have h3 := foldl_len weighR_len b.weights a.weights
  obtain ⟨a1, a2, a3⟩ := ha
  obtain ⟨b1, b2, b3⟩ := hb
  exact ⟨Nat.le_trans h1 zo, Nat.le_trans h2 zo, Nat.le_trans h3 zo⟩
theorem ofT_short1 {p : Proposal} (h : p.changes.length ≤ 1000) : Short (ofT p) 1000 := by
  have := ofT_short (p := p) p.changes.length (Nat.le_refl _)
  rw [List.take_of_length_le (Nat.le_refl _)] at this
  obtain ⟨h1, h2, h3⟩ := this
  exact ⟨Nat.le_trans h1 h, Nat.le_trans h2 h, Nat.le_trans h3 h⟩
theorem sumT_short {g : View} (hg : g.members.length ≤ 1000) : ∀ (c : Config), (∀ p ∈ c, p.changes.length ≤ 1000) → Short (sumT g c) (1000 + 1000 * c.length) := by
  intro c
  have gen : ∀ (c : Config) (s : Summary) (n : Nat), Short s n → (∀ p ∈ c, p.changes.length ≤ 1000) → Short (c.foldl sumTStep s) (n + 1000 * c.length) := by
    intro c
    induction c with
    | nil => intro s n hs _; simpa using hs
    | cons p c ih =>
      intro s n hs hc
      have h1 := joinT_short hs (ofT_short1 (hc p (by simp)))
      have h2 := ih (sumTStep s p) (n + 1000) h1 (fun q hq => hc q (by simp [hq]))
      rw [List.foldl_cons, List.length_cons]
      rw [show n + 1000 * (c.length + 1) = n + 1000 + 1000 * c.length by omega]; exact h2
  exact gen c (initS g) 1000 (initS_short hg)
theorem Short.mono {s : Summary} {m n : Nat} (h : Short s m) (hmn : m ≤ n) : Short s n := ⟨Nat.le_trans h.1 hmn, Nat.le_trans h.2.1 hmn, Nat.le_trans h.2.2 hmn⟩
theorem ref_Summarize (f : Bool) (g : View) (c : Config) (hg : g.members.length ≤ 1000) (hc : c.length ≤ 100) (hp : ∀ p ∈ c, Plain p) : AM.Fn Try.prog 33 [viV g, .sl f (c.map prV)] (suV (sumT g c)) := by
  (refine spec_of_runs Try.func33 rfl ?_; simp only [Try.f33]; refine ys ?_)
  repeat' (first | refine yw ?_ | ((with_reducible refine Runs.is ?_); first | refine Runs.region (id := 0) ?_ | refine Runs.region (id := 1) ?_ | refine Runs.region (id := 2) ?_ | ((with_reducible refine Runs.isC ?_); refine Runs.cond rfl (zc ?_) (zc ?_) <;> intro hc <;> (try (first | contradiction | (exfalso; omega; done) | (have : hc = trivial := rfl; clear this; clear hc))))) | ((with_reducible refine r_is ?_); first | refine yr ?_ | (refine r_fn rfl (ref_Initial g zo) HbF.h zL1 zD ?_; refine r_nn zN zH ?_)) | fail)
  refine Runs.loopI (fun k : Nat => c.length - k) (fun k => k ≤ c.length)
    (fun k => ⟨[.any, .sl f (c.map prV), .any, .any, .ptr 4 0 0, .ptr 5 0 0, .i (k : Nat), .any, .any, .any, .any, .any, .any, .any, .any, .any, .any, .any, .any, .any, .any, .any, .any], [(5, .var 34 (suV (sumT g (c.take k)))), (4, .var 34 (.agg [.sc (.slice none 0 0), .sc (.slice none 0 0), .sc (.slice none 0 0), .i 0, .i 0, .i 0, .i 0, .i 0, .i 0]))]⟩) 0 (by simp) ?_ ?_
  · (refine St.Le.clean zR zU zV)
  rintro k hk ih
  have hst := fun (h : k < c.length) => foldl_take (g := sumTStep) (s := initS g) h
  have hend : c.length ≤ k → sumT g (c.take k) = sumT g c := fun h => by rw [List.take_of_length_le h]
  have hsh := sumT_short hg (c.take k) (fun p q => (hp p (List.mem_of_mem_take q)).1)
  rw [List.length_take] at hsh
  have hpl : k < c.length → Plain (c.getD k default) := fun h => hp _ (by rw [List.getD_eq_getElem?_getD, List.getElem?_eq_getElem h]; exact List.getElem_mem h)
  change k < c.length → sumT g (c.take (k + 1)) = sumTStep (sumT g (c.take k)) (c.getD k default) at hst
  generalize sumT g (c.take k) = s at hst hend hsh ⊢
  by_cases hlt : k < c.length
  · have hst2 : sumT g (c.take (k + 1)) = joinT s (ofT (c.getD k default)) := hst hlt
    have hp2 := hpl hlt
    have hOf := ref_Of (c.getD k default) (Nat.le_trans hp2.1 zd)
    have hJn := ref_Join s (ofT (c.getD k default)) (hsh.mono zo) ((ofT_short1 hp2.1).mono zd)
    generalize ofT (c.getD k default) = q at hOf hJn hst2
    repeat' (first | refine yw ?_ | ((with_reducible refine Runs.is ?_); first | refine Runs.region (id := 3) ?_ | refine Runs.drawn (id := 5) mixed zK ?_ | refine Runs.region (id := 4) ?_ | ((with_reducible refine Runs.isC ?_); refine Runs.cond rfl (zc ?_) (zc ?_) <;> intro hc <;> (try (first | contradiction | (exfalso; omega; done) | (have : hc = trivial := rfl; clear this; clear hc))))) | ((with_reducible refine r_is ?_); first | refine yr ?_) | ((with_reducible refine d_is ?_); first | refine yd ?_ | (refine d_fn rfl (hOf) HbF.h zL1 zD ?_; refine d_nn zN zH ?_) | (refine d_fn rfl (hJn) HbF.h zL2 zD ?_; refine d_nn zN zH ?_)) | fail)
    refine ih (k + 1) _ zo zo ?_
    rw [hst2]
    (refine St.Le.clean zR zU zV)
  · have he := hend zo
    subst he
    repeat' (first | refine yw ?_ | ((with_reducible refine Runs.is ?_); first | refine Runs.region (id := 3) ?_ | ((with_reducible refine Runs.isC ?_); refine Runs.cond rfl (zc ?_) (zc ?_) <;> intro hc <;> (try (first | contradiction | (exfalso; omega; done) | (have : hc = trivial := rfl; clear this; clear hc))))) | ((with_reducible refine r_is ?_); first | refine yr ?_) | fail)
    repeat' (first | refine yw ?_ | ((with_reducible refine Runs.is ?_); first | refine Runs.region (id := 6) ?_ | ((with_reducible refine Runs.isC ?_); refine Runs.cond rfl (zc ?_) (zc ?_) <;> intro hc <;> (try (first | contradiction | (exfalso; omega; done) | (have : hc = trivial := rfl; clear this; clear hc))))) | ((with_reducible refine r_is ?_); first | refine yr ?_) | fail)
    (refine Runs.retC Try.func33 rfl zM rfl TyF.h (And.intro zE zd) zD ?_; try exact zX)
def vAccT (R : List Int) (W : List WeightEntry) (l : List Int) : List Member := (l.filter fun x => !R.any fun y => decide (y = x)).map fun x => ⟨x, weightR W x⟩
def viewT (s : Summary) : View := ⟨vAccT s.removed s.weights s.joined, viewRule s.rule⟩
theorem vAccT_snoc (R : List Int) (W : List WeightEntry) (l : List Int) (x : Int) : vAccT R W (l ++ [x]) = vAccT R W l ++ (if (R.any fun y => decide (y = x)) = true then [] else [⟨x, weightR W x⟩]) := by
  unfold vAccT
  rw [List.filter_append, List.map_append]
  congr 1
  cases h : R.any fun y => decide (y = x) <;> simp [h]
theorem vAccT_len (R : List Int) (W : List WeightEntry) (l : List Int) : (vAccT R W l).length ≤ l.length := by
  unfold vAccT; rw [List.length_map]; exact List.length_filter_le _ _
theorem ref_View (s : Summary) (hs : s.joined.length ≤ 1000000) (hw0 : s.weights.length ≤ 1000000) : AM.Fn Try.prog 29 [suV s] (viV (viewT s)) := by
  have hwt := fun x => ref_weight s x hw0
  obtain ⟨J, R, W, ru, ver, adm, num⟩ := s
  dsimp only at hs hw0 hwt
  have main : ∀ r2 : Rule, viewRule ru = r2 → AM.Fn Try.prog 29 [suV ⟨J, R, W, ru, ver, adm, num⟩] (viV ⟨vAccT R W J, r2⟩) := by
    intro r2 hr2
    unfold viewRule at hr2
    (refine spec_of_runs Try.func29 rfl ?_; simp only [Try.f29]; refine ys ?_)
    repeat' (first | refine yw ?_ | ((with_reducible refine Runs.is ?_); first | refine Runs.region (id := 0) ?_ | refine Runs.region (id := 1) ?_ | refine Runs.region (id := 2) ?_ | refine Runs.region (id := 3) ?_ | refine Runs.region (id := 4) ?_ | ((with_reducible refine Runs.isC ?_); refine Runs.cond rfl (zc ?_) (zc ?_) <;> intro hc <;> (try (first | contradiction | (exfalso; omega; done) | (have : hc = trivial := rfl; clear this; clear hc))))) | ((with_reducible refine r_is ?_); first | refine yr ?_) | fail)
    · rw [if_pos hc] at hr2
      subst hr2
      clear hc
      refine Runs.weaken (St.Le.nilVar 50 3 0 62 2 zd rfl rfl rfl) ?_
      refine Runs.loopI (fun k : Nat => J.length - k) (fun k => k ≤ J.length)
        (fun k => ⟨[.any, .ptr 1 0 0, .ptr 2 0 0, .ptr 3 0 0, .i (k : Nat), .any, .any, .any, .any, .any, .any, .any, .any, .any, .any, .any, .any, .any, .any, .any, .any, .any, .any, .any, .any, .any, .any, .any, .any, .any, .any, .any, .any, .any, .any, .any, .any, .any, .any, .any, .any, .any, .any, .any, .any, .any, .any, .any, .any], [(50, .lst 62 2 ((vAccT R W (J.take k)).map mbV)), (3, .var 46 (.agg [.own 50, .i (⟨1, 0, 0⟩ : Rule).kind, .i (⟨1, 0, 0⟩ : Rule).columns, .i (⟨1, 0, 0⟩ : Rule).faulty])), (2, .var 46 (.agg [.sc (.slice none 0 0), .i 0, .i 0, .i 0])), (1, .var 34 (suV ⟨J, R, W, ru, ver, adm, num⟩))]⟩) 0 (by simp) ?_ ?_
      · (refine St.Le.clean zR zU zV)
      rintro k hk ih
      have hst := fun (h : k < J.length) => vAccT_snoc R W (J.take k) (J.getD k default)
      have htk := fun (h : k < J.length) => take_getD (xs := J) h
      have hend : J.length ≤ k → vAccT R W (J.take k) = vAccT R W J := fun h => by rw [List.take_of_length_le h]
      have hl : (vAccT R W (J.take k)).length ≤ 1000000 := by
        have := vAccT_len R W (J.take k)
        rw [List.length_take] at this; omega
      generalize vAccT R W (J.take k) = acc at hst hend hl ⊢
      by_cases hlt : k < J.length
      · have hst2 := hst hlt
        have htk2 := htk hlt
        have hI := ref_In false R (J.getD k default)
        have hw2 := hwt (J.getD k default)
        cases hb : R.any fun y => decide (y = J.getD k default)
        · rw [hb] at hI
          rw [if_neg (by rw [hb]; decide)] at hst2
          repeat' (first | refine yw ?_ | ((with_reducible refine Runs.is ?_); first | refine Runs.region (id := 5) ?_ | refine Runs.drawn (id := 7) mixed zK ?_ | refine Runs.region (id := 6) ?_ | ((with_reducible refine Runs.isC ?_); refine Runs.cond rfl (zc ?_) (zc ?_) <;> intro hc <;> (try (first | contradiction | (exfalso; omega; done) | (have : hc = trivial := rfl; clear this; clear hc))))) | ((with_reducible refine r_is ?_); first | refine yr ?_) | ((with_reducible refine d_is ?_); first | refine yd ?_ | (refine d_fn rfl (hI) HbF.h zL2 zD ?_; refine d_nn zN zH ?_)) | fail)
          refine Runs.drawnT [] 16 mixed zK (by decide +kernel) ?_
          dsimp only [List.take, List.drop]
          repeat' (first | (with_reducible refine And.intro (by intro a i h; cases h) ?_) | refine yw ?_ | ((with_reducible refine Runs.is ?_); first | (refine Runs.drawnT (id := 8) [] 16 mixed zK (by decide +kernel) ?_; dsimp only [List.take, List.drop]) | refine Runs.drawn (id := 8) mixed zK ?_ | ((with_reducible refine Runs.isC ?_); refine Runs.cond rfl (zc ?_) (zc ?_) <;> intro hc <;> (try (first | contradiction | (exfalso; omega; done) | (have : hc = trivial := rfl; clear this; clear hc))))) | ((with_reducible refine r_is ?_); first | refine yr ?_ | (refine r_append_full SlF.h SlF.s ZoF.h zd rfl rfl zC zJ zS rfl (fun hn => ?_) (fun hn => ?_) <;> refine r_nn zN zH ?_)) | ((with_reducible refine d_is ?_); first | refine yd ?_ | (refine d_fn rfl (hw2) HbF.h zL2 zD ?_; refine d_nn zN zH ?_)) | fail)
          refine And.intro (by intro a i h; cases h) ?_
          refine yr ?_
          repeat' (first | refine yw ?_ | ((with_reducible refine Runs.is ?_); first | refine Runs.region (id := 6) ?_ | ((with_reducible refine Runs.isC ?_); refine Runs.cond rfl (zc ?_) (zc ?_) <;> intro hc <;> (try (first | contradiction | (exfalso; omega; done) | (have : hc = trivial := rfl; clear this; clear hc))))) | ((with_reducible refine r_is ?_); first | refine yr ?_) | fail)
          refine ih (k + 1) _ zo zo ?_
          rw [htk2, hst2]
          (refine St.Le.clean zR (by first | (simp [V.usesL, V.uses, AM.look_cons]; done) | (simp [V.usesL, V.uses, AM.look_cons, V.usesL_data, V.uses_data, da_i, da_chV, da_ruV, da_prV, da_enV, da_cfV, da_veV, da_inV, da_edV, da_grV, da_weV, da_mbV, da_suV, da_viV]; done)) ?_; (repeat' (first | exact True.intro | refine And.intro ?_ ?_)); all_goals (first | rfl | (simp [AM.look_cons, mbV]; done) | (simp [V.uses, V.usesL, AM.look_cons, V.usesL_data, V.uses_data, da_i, da_chV, da_ruV, da_prV, da_enV, da_cfV, da_veV, da_inV, da_edV, da_grV, da_weV, da_mbV, da_suV, da_viV]; done)))
        · rw [hb] at hI
          rw [if_pos hb, List.append_nil] at hst2
          repeat' (first | refine yw ?_ | ((with_reducible refine Runs.is ?_); first | refine Runs.region (id := 5) ?_ | refine Runs.drawn (id := 7) mixed zK ?_ | refine Runs.region (id := 6) ?_ | ((with_reducible refine Runs.isC ?_); refine Runs.cond rfl (zc ?_) (zc ?_) <;> intro hc <;> (try (first | contradiction | (exfalso; omega; done) | (have : hc = trivial := rfl; clear this; clear hc))))) | ((with_reducible refine r_is ?_); first | refine yr ?_) | ((with_reducible refine d_is ?_); first | refine yd ?_ | (refine d_fn rfl (hI) HbF.h zL2 zD ?_; refine d_nn zN zH ?_)) | fail)
          repeat' (first | refine yw ?_ | ((with_reducible refine Runs.is ?_); first | refine Runs.region (id := 6) ?_ | ((with_reducible refine Runs.isC ?_); refine Runs.cond rfl (zc ?_) (zc ?_) <;> intro hc <;> (try (first | contradiction | (exfalso; omega; done) | (have : hc = trivial := rfl; clear this; clear hc))))) | ((with_reducible refine r_is ?_); first | refine yr ?_) | fail)
          refine ih (k + 1) _ zo zo ?_
          rw [htk2, hst2]
          (refine St.Le.clean zR zU zV)
      · have he := hend zo
        subst he
        repeat' (first | refine yw ?_ | ((with_reducible refine Runs.is ?_); first | refine Runs.region (id := 5) ?_ | ((with_reducible refine Runs.isC ?_); refine Runs.cond rfl (zc ?_) (zc ?_) <;> intro hc <;> (try (first | contradiction | (exfalso; omega; done) | (have : hc = trivial := rfl; clear this; clear hc))))) | ((with_reducible refine r_is ?_); first | refine yr ?_) | fail)
        repeat' (first | refine yw ?_ | ((with_reducible refine Runs.is ?_); first | refine Runs.region (id := 9) ?_ | ((with_reducible refine Runs.isC ?_); refine Runs.cond rfl (zc ?_) (zc ?_) <;> intro hc <;> (try (first | contradiction | (exfalso; omega; done) | (have : hc = trivial := rfl; clear this; clear hc))))) | ((with_reducible refine r_is ?_); first | refine yr ?_) | fail)
        (refine Runs.weaken (St.Le.freeze_lst 50 rfl) ?_; refine yf ?_)
        (refine Runs.retC Try.func29 rfl zM rfl TyF.h (And.intro zE zd) zD ?_; try exact zX)
    · rw [if_neg hc] at hr2
      subst hr2
      clear hc
      refine Runs.weaken (St.Le.nilVar 50 3 0 62 2 zd rfl rfl rfl) ?_
      refine Runs.loopI (fun k : Nat => J.length - k) (fun k => k ≤ J.length)
        (fun k => ⟨[.any, .ptr 1 0 0, .ptr 2 0 0, .ptr 3 0 0, .i (k : Nat), .any, .any, .any, .any, .any, .any, .any, .any, .any, .any, .any, .any, .any, .any, .any, .any, .any, .any, .any, .any, .any, .any, .any, .any, .any, .any, .any, .any, .any, .any, .any, .any, .any, .any, .any, .any, .any, .any, .any, .any, .any, .any, .any, .any], [(50, .lst 62 2 ((vAccT R W (J.take k)).map mbV)), (3, .var 46 (.agg [.own 50, .i ru.kind, .i ru.columns, .i ru.faulty])), (2, .var 46 (.agg [.sc (.slice none 0 0), .i 0, .i 0, .i 0])), (1, .var 34 (suV ⟨J, R, W, ru, ver, adm, num⟩))]⟩) 0 (by simp) ?_ ?_
      · (refine St.Le.clean zR zU zV)
      rintro k hk ih
      have hst := fun (h : k < J.length) => vAccT_snoc R W (J.take k) (J.getD k default)
      have htk := fun (h : k < J.length) => take_getD (xs := J) h
      have hend : J.length ≤ k → vAccT R W (J.take k) = vAccT R W J := fun h => by rw [List.take_of_length_le h]
      have hl : (vAccT R W (J.take k)).length ≤ 1000000 := by
        have := vAccT_len R W (J.take k)
        rw [List.length_take] at this; omega
      generalize vAccT R W (J.take k) = acc at hst hend hl ⊢
      by_cases hlt : k < J.length
      · have hst2 := hst hlt
        have htk2 := htk hlt
        have hI := ref_In false R (J.getD k default)
        have hw2 := hwt (J.getD k default)
        cases hb : R.any fun y => decide (y = J.getD k default)
        · rw [hb] at hI
          rw [if_neg (by rw [hb]; decide)] at hst2
          repeat' (first | refine yw ?_ | ((with_reducible refine Runs.is ?_); first | refine Runs.region (id := 5) ?_ | refine Runs.drawn (id := 7) mixed zK ?_ | refine Runs.region (id := 6) ?_ | ((with_reducible refine Runs.isC ?_); refine Runs.cond rfl (zc ?_) (zc ?_) <;> intro hc <;> (try (first | contradiction | (exfalso; omega; done) | (have : hc = trivial := rfl; clear this; clear hc))))) | ((with_reducible refine r_is ?_); first | refine yr ?_) | ((with_reducible refine d_is ?_); first | refine yd ?_ | (refine d_fn rfl (hI) HbF.h zL2 zD ?_; refine d_nn zN zH ?_)) | fail)
          refine Runs.drawnT [] 16 mixed zK (by decide +kernel) ?_
          dsimp only [List.take, List.drop]
          repeat' (first | (with_reducible refine And.intro (by intro a i h; cases h) ?_) | refine yw ?_ | ((with_reducible refine Runs.is ?_); first | (refine Runs.drawnT (id := 8) [] 16 mixed zK (by decide +kernel) ?_; dsimp only [List.take, List.drop]) | refine Runs.drawn (id := 8) mixed zK ?_ | ((with_reducible refine Runs.isC ?_); refine Runs.cond rfl (zc ?_) (zc ?_) <;> intro hc <;> (try (first | contradiction | (exfalso; omega; done) | (have : hc = trivial := rfl; clear this; clear hc))))) | ((with_reducible refine r_is ?_); first | refine yr ?_ | (refine r_append_full SlF.h SlF.s ZoF.h zd rfl rfl zC zJ zS rfl (fun hn => ?_) (fun hn => ?_) <;> refine r_nn zN zH ?_)) | ((with_reducible refine d_is ?_); first | refine yd ?_ | (refine d_fn rfl (hw2) HbF.h zL2 zD ?_; refine d_nn zN zH ?_)) | fail)
          refine And.intro (by intro a i h; cases h) ?_
          refine yr ?_
          repeat' (first | refine yw ?_ | ((with_reducible refine Runs.is ?_); first | refine Runs.region (id := 6) ?_ | ((with_reducible refine Runs.isC ?_); refine Runs.cond rfl (zc ?_) (zc ?_) <;> intro hc <;> (try (first | contradiction | (exfalso; omega; done) | (have : hc = trivial := rfl; clear this; clear hc))))) | ((with_reducible refine r_is ?_); first | refine yr ?_) | fail)
          refine ih (k + 1) _ zo zo ?_
          rw [htk2, hst2]
          (refine St.Le.clean zR (by first | (simp [V.usesL, V.uses, AM.look_cons]; done) | (simp [V.usesL, V.uses, AM.look_cons, V.usesL_data, V.uses_data, da_i, da_chV, da_ruV, da_prV, da_enV, da_cfV, da_veV, da_inV, da_edV, da_grV, da_weV, da_mbV, da_suV, da_viV]; done)) ?_; (repeat' (first | exact True.intro | refine And.intro ?_ ?_)); all_goals (first | rfl | (simp [AM.look_cons, mbV]; done) | (simp [V.uses, V.usesL, AM.look_cons, V.usesL_data, V.uses_data, da_i, da_chV, da_ruV, da_prV, da_enV, da_cfV, da_veV, da_inV, da_edV, da_grV, da_weV, da_mbV, da_suV, da_viV]; done)))
        · rw [hb] at hI
          rw [if_pos hb, List.append_nil] at hst2
          repeat' (first | refine yw ?_ | ((with_reducible refine Runs.is ?_); first | refine Runs.region (id := 5) ?_ | refine Runs.drawn (id := 7) mixed zK ?_ | refine Runs.region (id := 6) ?_ | ((with_reducible refine Runs.isC ?_); refine Runs.cond rfl (zc ?_) (zc ?_) <;> intro hc <;> (try (first | contradiction | (exfalso; omega; done) | (have : hc = trivial := rfl; clear this; clear hc))))) | ((with_reducible refine r_is ?_); first | refine yr ?_) | ((with_reducible refine d_is ?_); first | refine yd ?_ | (refine d_fn rfl (hI) HbF.h zL2 zD ?_; refine d_nn zN zH ?_)) | fail)
          repeat' (first | refine yw ?_ | ((with_reducible refine Runs.is ?_); first | refine Runs.region (id := 6) ?_ | ((with_reducible refine Runs.isC ?_); refine Runs.cond rfl (zc ?_) (zc ?_) <;> intro hc <;> (try (first | contradiction | (exfalso; omega; done) | (have : hc = trivial := rfl; clear this; clear hc))))) | ((with_reducible refine r_is ?_); first | refine yr ?_) | fail)
          refine ih (k + 1) _ zo zo ?_
          rw [htk2, hst2]
          (refine St.Le.clean zR zU zV)
      · have he := hend zo
        subst he
        repeat' (first | refine yw ?_ | ((with_reducible refine Runs.is ?_); first | refine Runs.region (id := 5) ?_ | ((with_reducible refine Runs.isC ?_); refine Runs.cond rfl (zc ?_) (zc ?_) <;> intro hc <;> (try (first | contradiction | (exfalso; omega; done) | (have : hc = trivial := rfl; clear this; clear hc))))) | ((with_reducible refine r_is ?_); first | refine yr ?_) | fail)
        repeat' (first | refine yw ?_ | ((with_reducible refine Runs.is ?_); first | refine Runs.region (id := 9) ?_ | ((with_reducible refine Runs.isC ?_); refine Runs.cond rfl (zc ?_) (zc ?_) <;> intro hc <;> (try (first | contradiction | (exfalso; omega; done) | (have : hc = trivial := rfl; clear this; clear hc))))) | ((with_reducible refine r_is ?_); first | refine yr ?_) | fail)
        (refine Runs.weaken (St.Le.freeze_lst 50 rfl) ?_; refine yf ?_)
        (refine Runs.retC Try.func29 rfl zM rfl TyF.h (And.intro zE zd) zD ?_; try exact zX)
  exact main _ rfl
end Go.Proofs
namespace Go.Proofs
open Go.AM
attribute [local irreducible] AM.evalR AM.evalD AM.Runs AM.valK AM.dK AM.opK AM.stepR AM.CallS AM.St.Le
def cntR (c : Config) (a : Int) : Int := countR (vectorR c) a
def vec3 (i j k : Int) : Vector := withR (withR (withR [] 201 i) 202 j) 203 k
def allK (a b : Config) (i j : Int) : List Config := (upto (cntR a 203) (cntR b 203)).map fun k => restrictR b (vec3 i j k)
def allJ (a b : Config) (i : Int) : List Config := (upto (cntR a 202) (cntR b 202)).flatMap fun j => allK a b i j
def allR (a b : Config) : List Config := if containsR b a then (upto (cntR a 201) (cntR b 201)).flatMap fun i => allJ a b i else []
end Go.Proofs
namespace Go.Proofs
open Go.AM
attribute [local irreducible] AM.evalR AM.evalD AM.Runs AM.valK AM.dK AM.opK AM.stepR AM.CallS AM.St.Le
theorem kit_Pool (f : Bool) (l : List Int) (hl : l.length ≤ 4611686018427387904) : AM.Fn Try.prog 35 [.sl f (l.map .i)] (.sl false ((poolI l).map prV)) := by
  (refine spec_of_runs Try.func35 rfl ?_; simp only [Try.f35]; refine ys ?_)
  repeat' (first | refine yw ?_ | ((with_reducible refine Runs.is ?_); first | refine Runs.region (id := 0) ?_ | refine Runs.region (id := 1) ?_ | refine Runs.region (id := 2) ?_ | refine Runs.region (id := 3) ?_ | ((with_reducible refine Runs.isC ?_); refine Runs.cond rfl (zc ?_) (zc ?_) <;> intro hc <;> (try (first | contradiction | (exfalso; omega; done) | (have : hc = trivial := rfl; clear this; clear hc))))) | ((with_reducible refine r_is ?_); first | refine yr ?_) | fail)
  (refine Runs.weaken (St.Le.nil 3 41 3 3 zd rfl rfl zE) ?_)
  refine Runs.loopI (fun a : Nat => 3 - a) (fun a => a ≤ 3)
    (fun a => ⟨[.sl f (l.map .i), .any, .any, .own 3, .i (poolUpto l a).2, .i (a : Nat), .any, .any, .any, .any, .any, .any, .any, .any, .any, .any, .any, .any, .any, .any, .any, .any, .any, .any, .any, .any, .any, .any, .any, .any, .any, .any, .any, .any, .any, .any, .any, .any, .any, .any, .any, .any, .any, .any, .any, .any, .any, .any, .any, .any, .any, .any, .any, .any, .any, .any, .any, .any, .any, .any, .any, .any, .any, .any, .any, .any, .any, .any, .any, .any, .any, .any, .any, .any], [(3, .lst 41 3 ((poolUpto l a).1.map prV))]⟩) 0 (by simp) ?_ ?_
  · (refine St.Le.clean zR zU zV)
  rintro a h0 ih
  have hb := poolUpto_bd l a
  by_cases ha : a < 3
  · repeat' (first | refine yw ?_ | ((with_reducible refine Runs.is ?_); first | refine Runs.region (id := 4) ?_ | refine Runs.region (id := 6) ?_ | refine Runs.region (id := 5) ?_ | ((with_reducible refine Runs.isC ?_); refine Runs.cond rfl (zc ?_) (zc ?_) <;> intro hc <;> (try (first | contradiction | (exfalso; omega; done) | (have : hc = trivial := rfl; clear this; clear hc))))) | ((with_reducible refine r_is ?_); first | refine yr ?_) | fail)
    refine Runs.loopI (fun i : Nat => cntI l a - i) (fun i => i ≤ cntI l a)
      (fun i => ⟨[.sl f (l.map .i), .any, .any, .own 3, .i ((poolUpto l a).2 + 2 * i), .i (a : Nat), .i (i : Nat), .any, .any, .any, .any, .any, .any, .any, .any, .any, .any, .any, .any, .any, .any, .any, .any, .any, .any, .any, .any, .any, .any, .any, .any, .any, .any, .any, .any, .any, .any, .any, .any, .any, .any, .any, .any, .any, .any, .any, .any, .any, .any, .any, .any, .any, .any, .any, .any, .any, .any, .any, .any, .any, .any, .any, .any, .any, .any, .any, .any, .any, .any, .any, .any, .any, .any, .any], [(3, .lst 41 3 (((poolUpto l a).1 ++ groupI l a (poolUpto l a).2 i).map prV))]⟩) 0 (by simp) ?_ ?_
    · rw [show groupI l a (poolUpto l a).2 0 = [] from rfl, List.append_nil, show (poolUpto l a).2 + 2 * ((0:Nat):Int) = (poolUpto l a).2 by omega]
      (refine St.Le.clean zR zU zV)
    rintro i h1 ihi
    have hc0 := cntI_bd l a
    have hgl : ((poolUpto l a).1 ++ groupI l a (poolUpto l a).2 i).length ≤ 20 := by
      rw [List.length_append, groupI, List.length_map, List.length_range]; omega
    have hst : (poolUpto l a).1 ++ groupI l a (poolUpto l a).2 (i + 1) = ((poolUpto l a).1 ++ groupI l a (poolUpto l a).2 i) ++ [propI l a i ((poolUpto l a).2 + 2 * i)] := by
      rw [groupI_succ, List.append_assoc]
    have hE1 : digitI (atI l ((poolUpto l a).2 + 2 * i)) 2 12 = 1 → (changeI (atI l ((poolUpto l a).2 + 2 * i + 1))).kind = (changeI (atI l ((poolUpto l a).2 + 2 * i))).kind → ¬ (changeI (atI l ((poolUpto l a).2 + 2 * i + 1))).server = (changeI (atI l ((poolUpto l a).2 + 2 * i))).server → extra l ((poolUpto l a).2 + 2 * i) = true := fun h1 h2 h3 => by unfold extra; simp [h1, h2, h3]
    have hE2 : digitI (atI l ((poolUpto l a).2 + 2 * i)) 2 12 = 1 → (changeI (atI l ((poolUpto l a).2 + 2 * i + 1))).kind = (changeI (atI l ((poolUpto l a).2 + 2 * i))).kind → (changeI (atI l ((poolUpto l a).2 + 2 * i + 1))).server = (changeI (atI l ((poolUpto l a).2 + 2 * i))).server → extra l ((poolUpto l a).2 + 2 * i) = false := fun h1 h2 h3 => by unfold extra; simp [h1, h2, h3]
    have hE3 : digitI (atI l ((poolUpto l a).2 + 2 * i)) 2 12 = 1 → ¬ (changeI (atI l ((poolUpto l a).2 + 2 * i + 1))).kind = (changeI (atI l ((poolUpto l a).2 + 2 * i))).kind → extra l ((poolUpto l a).2 + 2 * i) = true := fun h1 h2 => by unfold extra; simp [h1, h2]
    have hE4 : ¬ digitI (atI l ((poolUpto l a).2 + 2 * i)) 2 12 = 1 → extra l ((poolUpto l a).2 + 2 * i) = false := fun h1 => by unfold extra; simp [h1]
    have hat : (poolUpto l a).2 + 2 * ((i + 1 : Nat) : Int) = (poolUpto l a).2 + 2 * i + 2 := by omega
    generalize hacc : (poolUpto l a).1 ++ groupI l a (poolUpto l a).2 i = acc at hgl hst ⊢
    repeat' (first | refine yw ?_ | ((with_reducible refine Runs.is ?_); first | refine Runs.region (id := 7) ?_ | refine Runs.region (id := 9) ?_ | refine Runs.region (id := 10) ?_ | refine Runs.region (id := 8) ?_ | ((with_reducible refine Runs.isC ?_); refine Runs.cond rfl (zc ?_) (zc ?_) <;> intro hc <;> (try (first | contradiction | (exfalso; omega; done) | (have : hc = trivial := rfl; clear this; clear hc))))) | ((with_reducible refine r_is ?_); first | refine yrb ?_ | (refine r_buildOwn (D := 29) SlF.h ZoF.h zd zB zd rfl ?_; refine r_nn zN zH ?_) | (refine r_build SlF.h ZoF.h zd zB ?_; refine r_n zN ?_) | (refine r_fn rfl (kit_At f l _ hl) HbF.h zL2 zD ?_; refine r_nn zN zH ?_) | (refine r_fn rfl (kit_Digit _ 4 0 zd zd) HbF.h zL3 zD ?_; refine r_nn zN zH ?_) | (refine r_fn rfl (kit_Change _) HbF.h zL1 zD ?_; refine r_nn zN zH ?_)) | fail)
    · repeat' (first | refine yw ?_ | ((with_reducible refine Runs.is ?_); first | refine Runs.drawn (id := 11) mixed zK ?_ | refine Runs.region (id := 12) ?_ | ((with_reducible refine Runs.isC ?_); refine Runs.cond rfl (zc ?_) (zc ?_) <;> intro hc <;> (try (first | contradiction | (exfalso; omega; done) | (have : hc = trivial := rfl; clear this; clear hc))))) | ((with_reducible refine r_is ?_); first | refine yr ?_ | (refine r_append_full SlF.h SlF.s ZoF.h zd rfl rfl zC zJ zS rfl (fun hn => ?_) (fun hn => ?_) <;> refine r_nn zN zH ?_)) | ((with_reducible refine d_is ?_); first | refine yd ?_ | (refine d_fn rfl (kit_At f l _ hl) HbF.h zL2 zD ?_; refine d_nn zN zH ?_) | (refine d_fn rfl (kit_Digit _ 2 12 zd zd) HbF.h zL3 zD ?_; refine d_nn zN zH ?_) | ((with_reducible refine d_gd ?_); (first | refine d_guardPf rfl rfl ?_ ?_ | refine d_guardNf rfl rfl ?_ ?_ | refine d_guardPt rfl rfl ?_ ?_ | refine d_guardNt rfl rfl ?_ ?_ | refine d_guard rfl rfl ?_ ?_) <;> intro hG <;> (try (exfalso; omega; done)) <;> refine d_nn zN zH ?_)) | fail)
      all_goals ((refine Runs.weaken (St.Le.freeze_lst 29 rfl) ?_; refine yf ?_))
      all_goals
        repeat' (first | refine yw ?_ | ((with_reducible refine Runs.is ?_); first | refine Runs.region (id := 9) ?_ | refine Runs.region (id := 10) ?_ | refine Runs.drawn (id := 11) mixed zK ?_ | refine Runs.region (id := 12) ?_ | refine Runs.region (id := 13) ?_ | refine Runs.region (id := 14) ?_ | refine Runs.region (id := 8) ?_ | ((with_reducible refine Runs.isC ?_); refine Runs.cond rfl (zc ?_) (zc ?_) <;> intro hc <;> (try (first | contradiction | (exfalso; omega; done) | (have : hc = trivial := rfl; clear this; clear hc))))) | ((with_reducible refine r_is ?_); first | refine yr ?_ | (refine r_append_full SlF.h SlF.s ZoF.h zd rfl rfl zC zJ zS rfl (fun hn => ?_) (fun hn => ?_) <;> refine r_nn zN zH ?_)) | ((with_reducible refine d_is ?_); first | refine yd ?_ | ((with_reducible refine d_gd ?_); (first | refine d_guardPf rfl rfl ?_ ?_ | refine d_guardNf rfl rfl ?_ ?_ | refine d_guardPt rfl rfl ?_ ?_ | refine d_guardNt rfl rfl ?_ ?_ | refine d_guard rfl rfl ?_ ?_) <;> intro hG <;> (try (exfalso; omega; done)) <;> refine d_nn zN zH ?_)) | fail)
      all_goals (refine ihi (i + 1) _ zo zo ?_)
      all_goals (rw [hst])
      all_goals (rw [hat, propI])
      all_goals (first | rw [hE1 (by assumption) (by assumption) (by assumption), if_pos rfl] | rw [hE2 (by assumption) (by assumption) (by assumption), if_neg Bool.false_ne_true] | rw [hE3 (by assumption) (by assumption), if_pos rfl] | rw [hE4 (by assumption), if_neg Bool.false_ne_true])
      all_goals (clear hE1 hE2 hE3 hE4)
      all_goals ((refine St.Le.clean zR (by first | (simp [V.usesL, V.uses, AM.look_cons]; done) | (simp [V.usesL, V.uses, AM.look_cons, V.usesL_data, V.uses_data, da_i, da_chV, da_ruV, da_prV, da_enV, da_cfV, da_veV, da_inV, da_edV, da_grV, da_weV, da_mbV, da_suV, da_viV]; done)) ?_; (repeat' (first | exact True.intro | refine And.intro ?_ ?_)); all_goals (first | rfl | (simp [AM.look_cons, prV, chV]; done) | (simp [V.uses, V.usesL, AM.look_cons, V.usesL_data, V.uses_data, da_i, da_chV, da_ruV, da_prV, da_enV, da_cfV, da_veV, da_inV, da_edV, da_grV, da_weV, da_mbV, da_suV, da_viV]; done))))
    · have hi : i = cntI l a := by omega
      subst hi
      repeat' (first | refine yw ?_ | ((with_reducible refine Runs.is ?_); first | refine Runs.region (id := 6) ?_ | refine Runs.region (id := 5) ?_ | ((with_reducible refine Runs.isC ?_); refine Runs.cond rfl (zc ?_) (zc ?_) <;> intro hc <;> (try (first | contradiction | (exfalso; omega; done) | (have : hc = trivial := rfl; clear this; clear hc))))) | ((with_reducible refine r_is ?_); first | refine yr ?_) | fail)
      refine ih (a + 1) _ zo zo ?_
      rw [show poolUpto l (a + 1) = ((poolUpto l a).1 ++ groupI l a (poolUpto l a).2 (cntI l a), (poolUpto l a).2 + 2 * cntI l a) from rfl]
      dsimp only
      rw [hacc]
      (refine St.Le.clean zR zU zV)
  · have : a = 3 := by omega
    subst this
    repeat' (first | refine yw ?_ | ((with_reducible refine Runs.is ?_); first | refine Runs.region (id := 4) ?_ | ((with_reducible refine Runs.isC ?_); refine Runs.cond rfl (zc ?_) (zc ?_) <;> intro hc <;> (try (first | contradiction | (exfalso; omega; done) | (have : hc = trivial := rfl; clear this; clear hc))))) | ((with_reducible refine r_is ?_); first | refine yr ?_) | fail)
    repeat' (first | refine yw ?_ | ((with_reducible refine Runs.is ?_); first | refine Runs.region (id := 15) ?_ | ((with_reducible refine Runs.isC ?_); refine Runs.cond rfl (zc ?_) (zc ?_) <;> intro hc <;> (try (first | contradiction | (exfalso; omega; done) | (have : hc = trivial := rfl; clear this; clear hc))))) | ((with_reducible refine r_is ?_); first | refine yr ?_) | fail)
    refine Runs.ret_frz Try.func35 rfl rfl rfl ?_
    rfl
end Go.Proofs
namespace Go.Proofs
open Go.AM
attribute [local irreducible] AM.evalR AM.evalD AM.Runs AM.valK AM.dK AM.opK AM.stepR AM.CallS AM.St.Le
def blk (f : Nat → Nat → Proposal) (a n : Nat) : Config := (List.range n).map (f a)
def cut (f : Nat → Nat → Proposal) (i j k : Nat) : Config := blk f 0 i ++ blk f 1 j ++ blk f 2 k
def Nice (f : Nat → Nat → Proposal) : Prop := ∀ a i, (f a i).admin = 201 + a ∧ (f a i).number = i + 1
def IsCut (f : Nat → Nat → Proposal) (c : Config) : Prop := ∃ i j k, (i < 4 ∧ j < 4 ∧ k < 4) ∧ c = cut f i j k
def key (p : Proposal) : Proposal := ⟨p.admin, p.number, []⟩
def f0 (a i : Nat) : Proposal := ⟨201 + a, i + 1, []⟩
theorem key_nice {f : Nat → Nat → Proposal} (hf : Nice f) (a i : Nat) : key (f a i) = f0 a i := by
  unfold key f0; rw [(hf a i).1, (hf a i).2]
theorem cut_key {f : Nat → Nat → Proposal} (hf : Nice f) (i j k : Nat) : (cut f i j k).map key = cut f0 i j k := by
  simp only [cut, blk, List.map_append, List.map_map]
  congr 1
  · congr 1 <;> exact List.map_congr_left fun n _ => key_nice hf _ n
  · exact List.map_congr_left fun n _ => key_nice hf _ n
theorem cmpP_key (p q : Proposal) : cmpP (key p) (key q) = cmpP p q := rfl
theorem vectorV_key (c : Config) : vectorV (c.map key) = vectorV c := by
  unfold vectorV; rw [List.foldl_map]; rfl
theorem vectorR_key (c : Config) : vectorR (c.map key) = vectorR c := by
  unfold vectorR; rw [List.foldl_map]; rfl
def vecC (i j k : Nat) : Vector := (if 0 < i then [⟨201, i⟩] else []) ++ (if 0 < j then [⟨202, j⟩] else []) ++ (if 0 < k then [⟨203, k⟩] else [])
theorem vec_fin : ∀ i j k : Fin 4, vectorV (cut f0 i j k) = vecC i j k ∧ vectorR (cut f0 i j k) = vecC i j k ∧ vec3 (i : Nat) (j : Nat) (k : Nat) = vecC i j k ∧ (getV (vecC i j k) 201 = (i : Nat) ∧ getV (vecC i j k) 202 = (j : Nat) ∧ getV (vecC i j k) 203 = (k : Nat)) ∧ countR (vecC i j k) 201 = (i : Nat) ∧ countR (vecC i j k) 202 = (j : Nat) ∧ countR (vecC i j k) 203 = (k : Nat) := by decide +kernel
theorem vec_cut {f : Nat → Nat → Proposal} (hf : Nice f) {i j k : Nat} (h : i < 4 ∧ j < 4 ∧ k < 4) : vectorV (cut f i j k) = vecC i j k ∧ vectorR (cut f i j k) = vecC i j k := by
  rw [← vectorV_key, ← vectorR_key, cut_key hf]
  have := vec_fin ⟨i, h.1⟩ ⟨j, h.2.1⟩ ⟨k, h.2.2⟩
  exact ⟨this.1, this.2.1⟩
theorem filter_range (m n : Nat) : ((List.range m).filter fun i => decide (i < n)) = List.range (min m n) := by
  induction m with
  | zero => simp
  | succ m ih =>
    rw [List.range_succ, List.filter_append, ih]
    by_cases h : m < n
    · rw [show min (m + 1) n = m + 1 by omega, show min m n = m by omega, List.range_succ]; simp [h]
    · rw [show min (m + 1) n = n by omega, show min m n = n by omega]; simp [h]
theorem filter_blk {f : Nat → Nat → Proposal} {g : Proposal → Bool} {a n m : Nat} (h : ∀ i, i < m → g (f a i) = decide (i < n)) : (blk f a m).filter g = blk f a (min m n) := by
  unfold blk
  rw [List.filter_map, ← filter_range]
  congr 1
  refine List.filter_congr fun i hi => ?_
  exact h i (List.mem_range.1 hi)
theorem filter_cut {f : Nat → Nat → Proposal} {g : Proposal → Bool} {i j k i' j' k' : Nat} (h1 : ∀ n, n < i → g (f 0 n) = decide (n < i')) (h2 : ∀ n, n < j → g (f 1 n) = decide (n < j')) (h3 : ∀ n, n < k → g (f 2 n) = decide (n < k')) :
    (cut f i j k).filter g = cut f (min i i') (min j j') (min k k') := by
  unfold cut
  rw [List.filter_append, List.filter_append, filter_blk h1, filter_blk h2, filter_blk h3]
theorem restrictR_cut {f : Nat → Nat → Proposal} (hf : Nice f) (v : Vector) (i j k : Nat) : restrictR (cut f i j k) v = cut f (min i (countR v 201).toNat) (min j (countR v 202).toNat) (min k (countR v 203).toNat) := by
  unfold restrictR
  refine filter_cut ?_ ?_ ?_ <;> (intro n hn; rw [(hf _ n).1, (hf _ n).2]; apply decide_eq_decide.2; simp only [show (201 : Int) + ((0 : Nat) : Int) = 201 from rfl, show (201 : Int) + ((1 : Nat) : Int) = 202 from rfl, show (201 : Int) + ((2 : Nat) : Int) = 203 from rfl]; omega)
theorem mem_upto {a b x : Int} : x ∈ upto a b ↔ a ≤ x ∧ x ≤ b := by
  unfold upto
  rw [List.mem_map]
  constructor
  · rintro ⟨n, hn, rfl⟩; rw [List.mem_range] at hn; omega
  · intro h; exact ⟨(x - a).toNat, by rw [List.mem_range]; omega, by omega⟩
def poolF (l : List Int) (a i : Nat) : Proposal := propI l a i ((poolUpto l a).2 + 2 * i)
theorem pool_nice (l : List Int) : Nice (poolF l) := fun a i => ⟨rfl, rfl⟩
theorem pool_lite (l : List Int) (a i : Nat) : (poolF l a i).changes.length ≤ 2 := by
  simp only [poolF, propI, List.length_cons]
  split <;> simp
theorem pool_cut (l : List Int) : IsCut (poolF l) (poolI l) := ⟨cntI l 0, cntI l 1, cntI l 2, ⟨(cntI_bd l 0).2, (cntI_bd l 1).2, (cntI_bd l 2).2⟩, by
  show (([] ++ groupI l 0 3 (cntI l 0)) ++ groupI l 1 (3 + 2 * cntI l 0) (cntI l 1)) ++ groupI l 2 (3 + 2 * cntI l 0 + 2 * cntI l 1) (cntI l 2) = _
  rw [List.nil_append]; rfl⟩
theorem part_cut {f : Nat → Nat → Proposal} (hf : Nice f) {c : Config} (hc : IsCut f c) (n : Int) : IsCut f (partI c n) := by
  obtain ⟨i, j, k, h, rfl⟩ := hc
  exact ⟨_, _, _, ⟨by omega, by omega, by omega⟩, restrictR_cut hf _ i j k⟩
theorem cut_len (f : Nat → Nat → Proposal) (i j k : Nat) : (cut f i j k).length = i + j + k := by simp [cut, blk, Nat.add_assoc]
def Lite (f : Nat → Nat → Proposal) : Prop := ∀ a i, (f a i).changes.length ≤ 2
theorem IsCut.small {f : Nat → Nat → Proposal} (hf : Lite f) {c : Config} (hc : IsCut f c) : c.length ≤ 9 ∧ Small c := by
  obtain ⟨i, j, k, h, rfl⟩ := hc
  refine ⟨by rw [cut_len]; omega, by rw [cut_len]; omega, fun p hp => ?_⟩
  simp only [cut, blk, List.mem_append, List.mem_map] at hp
  rcases hp with (⟨n, _, rfl⟩ | ⟨n, _, rfl⟩) | ⟨n, _, rfl⟩ <;> exact Nat.le_trans (hf _ _) zd
theorem fine_fin : ∀ i j k : Fin 4, Fine (vecC i j k) := by unfold Fine; decide +kernel
theorem IsCut.fine {f : Nat → Nat → Proposal} (hf : Nice f) {c : Config} (hc : IsCut f c) : Fine (vectorV c) := by
  obtain ⟨i, j, k, h, rfl⟩ := hc
  rw [(vec_cut hf h).1]
  exact fine_fin ⟨i, h.1⟩ ⟨j, h.2.1⟩ ⟨k, h.2.2⟩
theorem count_vecC (i j k : Nat) (h : i < 4 ∧ j < 4 ∧ k < 4) (t : Int) : countR (vecC i j k) t ≤ 3 := by
  unfold vecC
  split <;> split <;> split <;> simp only [List.nil_append, List.cons_append, countR] <;> (repeat' split) <;> omega
theorem IsCut.cnt {f : Nat → Nat → Proposal} (hf : Nice f) {c : Config} (hc : IsCut f c) (t : Int) : cntR c t ≤ 3 := by
  obtain ⟨i, j, k, h, rfl⟩ := hc
  unfold cntR
  rw [(vec_cut hf h).2]
  exact count_vecC i j k h t
end Go.Proofs
namespace Go.Proofs
open Go.AM
attribute [local irreducible] AM.evalR AM.evalD AM.Runs AM.valK AM.dK AM.opK AM.stepR AM.CallS AM.St.Le
theorem part_sub {f : Nat → Nat → Proposal} (hf : Nice f) {c : Config} (hc : IsCut f c) (n : Int) : ∃ i j k i' j' k', (i ≤ i' ∧ j ≤ j' ∧ k ≤ k') ∧ (i' < 4 ∧ j' < 4 ∧ k' < 4) ∧ c = cut f i' j' k' ∧ partI c n = cut f i j k := by
  obtain ⟨i, j, k, h, rfl⟩ := hc
  exact ⟨_, _, _, i, j, k, ⟨Nat.min_le_left _ _, Nat.min_le_left _ _, Nat.min_le_left _ _⟩, h, rfl, restrictR_cut hf _ i j k⟩
end Go.Proofs
namespace Go.Proofs
open Go.AM
attribute [local irreducible] AM.evalR AM.evalD AM.Runs AM.valK AM.dK AM.opK AM.stepR AM.CallS AM.St.Le
def unionR : Config → Config → Config
  | [], bs => bs
  | a :: xs, [] => a :: xs
  | a :: xs, b :: bs => if cmpP a b < 0 then a :: unionR xs (b :: bs) else if 0 < cmpP a b then b :: unionR (a :: xs) bs else a :: unionR xs bs
theorem unionR_nil (a : Config) : unionR a [] = a := by cases a <;> simp [unionR]
theorem union_l {a b : Config} {i k : Nat} (hi : i < a.length) (h : k < b.length → cmpP (a.getD i default) (b.getD k default) < 0) : unionR (a.drop i) (b.drop k) = a.getD i default :: unionR (a.drop (i + 1)) (b.drop k) := by
  rw [drop_getD hi]
  by_cases hk : k < b.length
  · rw [drop_getD hk, unionR, if_pos (h hk)]
  · rw [List.drop_eq_nil_of_le (by omega : b.length ≤ k), unionR_nil, unionR_nil]
theorem union_r {a b : Config} {i k : Nat} (hk : k < b.length) (h : i < a.length → 0 < cmpP (a.getD i default) (b.getD k default)) : unionR (a.drop i) (b.drop k) = b.getD k default :: unionR (a.drop i) (b.drop (k + 1)) := by
  rw [drop_getD hk]
  by_cases hi : i < a.length
  · have := h hi
    rw [drop_getD hi, unionR, if_neg zo, if_pos this]
  · rw [List.drop_eq_nil_of_le (by omega : a.length ≤ i), unionR, unionR]
theorem union_b {a b : Config} {i k : Nat} (hi : i < a.length) (hk : k < b.length) (h : cmpP (a.getD i default) (b.getD k default) = 0) : unionR (a.drop i) (b.drop k) = a.getD i default :: unionR (a.drop (i + 1)) (b.drop (k + 1)) := by
  rw [drop_getD hi, drop_getD hk, unionR, if_neg zo, if_neg zo]
theorem ref_Union (f g : Bool) (a b : Config) (hs1 : a.length ≤ 1000000000) (hs2 : b.length ≤ 1000000000) : AM.Fn Try.prog 37 [.sl f (a.map prV), .sl g (b.map prV)] (.sl false ((unionR a b).map prV)) := by
  (refine spec_of_runs Try.func37 rfl ?_; simp only [Try.f37]; refine ys ?_)
  repeat' (first | refine yw ?_ | ((with_reducible refine Runs.is ?_); first | refine Runs.region (id := 0) ?_ | refine Runs.region (id := 1) ?_ | refine Runs.region (id := 2) ?_ | ((with_reducible refine Runs.isC ?_); refine Runs.cond rfl (zc ?_) (zc ?_) <;> intro hc <;> (try (first | contradiction | (exfalso; omega; done) | (have : hc = trivial := rfl; clear this; clear hc))))) | ((with_reducible refine r_is ?_); first | refine yr ?_) | fail)
  (refine Runs.weaken (St.Le.nil 5 41 3 5 zd rfl rfl zE) ?_)
  refine Runs.loopI (α := Nat × Nat × Config) (fun s => (a.length - s.1) + (b.length - s.2.1)) (fun s => s.1 ≤ a.length ∧ s.2.1 ≤ b.length ∧ s.2.2.length ≤ s.1 + s.2.1 ∧ s.2.2 ++ unionR (a.drop s.1) (b.drop s.2.1) = unionR a b)
    (fun s => ⟨[.sl f (a.map prV), .sl g (b.map prV), .any, .any, .any, .own 5, .i (s.1 : Nat), .i (s.2.1 : Nat), .any, .any, .any, .any, .any, .any, .any, .any, .any, .any, .any, .any, .any, .any, .any, .any, .any, .any, .any, .any, .any, .any, .any, .any, .any, .any, .any, .any, .any, .any, .any, .any, .any, .any, .any, .any, .any, .any, .any, .any, .any, .any, .any, .any, .any, .any, .any, .any, .any, .any, .any, .any, .any, .any, .any, .any, .any, .any, .any, .any, .any, .any, .any, .any, .any, .any, .any, .any, .any, .any, .any, .any, .any, .any, .any, .any, .any, .any, .any, .any], [(5, .lst 41 3 (s.2.2.map prV))]⟩) (0, 0, []) (by simp) ?_ ?_
  · (refine St.Le.clean zR zU zV)
  rintro ⟨i, k, l⟩ ⟨h0, h1, h2, h3⟩ ih
  dsimp only at h0 h1 h2 h3 ih ⊢
  by_cases hi : i < a.length
  · by_cases hk : k < b.length
    · rcases Int.lt_trichotomy (cmpP (a.getD i default) (b.getD k default)) 0 with hx | hx | hx
      · repeat' (first | refine yw ?_ | ((with_reducible refine Runs.is ?_); first | refine Runs.region (id := 3) ?_ | refine Runs.drawn (id := 7) mixed zK ?_ | refine Runs.region (id := 8) ?_ | refine Runs.region (id := 9) ?_ | refine Runs.drawn (id := 10) mixed zK ?_ | refine Runs.region (id := 11) ?_ | refine Runs.region (id := 12) ?_ | refine Runs.region (id := 4) ?_ | refine Runs.region (id := 5) ?_ | refine Runs.region (id := 6) ?_ | refine Runs.region (id := 13) ?_ | ((with_reducible refine Runs.isC ?_); refine Runs.cond rfl (zc ?_) (zc ?_) <;> intro hc <;> (try (first | contradiction | (exfalso; omega; done) | (have : hc = trivial := rfl; clear this; clear hc))))) | ((with_reducible refine r_is ?_); first | refine yr ?_ | (refine r_append_full SlF.h SlF.s ZoF.h zd rfl rfl zC zJ zS rfl (fun hn => ?_) (fun hn => ?_) <;> refine r_nn zN zH ?_) | ((with_reducible refine r_gd ?_); (first | refine r_guardPf rfl rfl ?_ ?_ | refine r_guardNf rfl rfl ?_ ?_ | refine r_guard rfl rfl ?_ ?_) <;> intro hG <;> (try (exfalso; omega; done)) <;> refine r_nn zN zH ?_)) | ((with_reducible refine d_is ?_); first | refine yd ?_ | (refine d_fn rfl (ref_Compare _ _) HbF.h zL2 zD ?_; refine d_nn zN zH ?_) | ((with_reducible refine d_gd ?_); (first | refine d_guardPf rfl rfl ?_ ?_ | refine d_guardNf rfl rfl ?_ ?_ | refine d_guardPt rfl rfl ?_ ?_ | refine d_guardNt rfl rfl ?_ ?_ | refine d_guard rfl rfl ?_ ?_) <;> intro hG <;> (try (exfalso; omega; done)) <;> refine d_nn zN zH ?_)) | fail)
        refine ih (i + 1, k, l ++ [a.getD i default]) _ ⟨by dsimp only; omega, h1, by dsimp only; simp; omega, ?_⟩ (by dsimp only; omega) (by (refine St.Le.clean zR zU zV))
        rw [← h3, union_l hi (fun _ => hx)]; simp
      · repeat' (first | refine yw ?_ | ((with_reducible refine Runs.is ?_); first | refine Runs.region (id := 3) ?_ | refine Runs.drawn (id := 7) mixed zK ?_ | refine Runs.region (id := 8) ?_ | refine Runs.region (id := 9) ?_ | refine Runs.drawn (id := 10) mixed zK ?_ | refine Runs.region (id := 11) ?_ | refine Runs.region (id := 12) ?_ | refine Runs.region (id := 4) ?_ | refine Runs.region (id := 5) ?_ | refine Runs.region (id := 6) ?_ | refine Runs.region (id := 13) ?_ | ((with_reducible refine Runs.isC ?_); refine Runs.cond rfl (zc ?_) (zc ?_) <;> intro hc <;> (try (first | contradiction | (exfalso; omega; done) | (have : hc = trivial := rfl; clear this; clear hc))))) | ((with_reducible refine r_is ?_); first | refine yr ?_ | (refine r_append_full SlF.h SlF.s ZoF.h zd rfl rfl zC zJ zS rfl (fun hn => ?_) (fun hn => ?_) <;> refine r_nn zN zH ?_) | ((with_reducible refine r_gd ?_); (first | refine r_guardPf rfl rfl ?_ ?_ | refine r_guardNf rfl rfl ?_ ?_ | refine r_guard rfl rfl ?_ ?_) <;> intro hG <;> (try (exfalso; omega; done)) <;> refine r_nn zN zH ?_)) | ((with_reducible refine d_is ?_); first | refine yd ?_ | (refine d_fn rfl (ref_Compare _ _) HbF.h zL2 zD ?_; refine d_nn zN zH ?_) | ((with_reducible refine d_gd ?_); (first | refine d_guardPf rfl rfl ?_ ?_ | refine d_guardNf rfl rfl ?_ ?_ | refine d_guardPt rfl rfl ?_ ?_ | refine d_guardNt rfl rfl ?_ ?_ | refine d_guard rfl rfl ?_ ?_) <;> intro hG <;> (try (exfalso; omega; done)) <;> refine d_nn zN zH ?_)) | fail)
        refine ih (i + 1, k + 1, l ++ [a.getD i default]) _ ⟨by dsimp only; omega, by dsimp only; omega, by dsimp only; simp; omega, ?_⟩ (by dsimp only; omega) (by (refine St.Le.clean zR zU zV))
        rw [← h3, union_b hi hk hx]; simp
      · repeat' (first | refine yw ?_ | ((with_reducible refine Runs.is ?_); first | refine Runs.region (id := 3) ?_ | refine Runs.drawn (id := 7) mixed zK ?_ | refine Runs.region (id := 8) ?_ | refine Runs.region (id := 9) ?_ | refine Runs.drawn (id := 10) mixed zK ?_ | refine Runs.region (id := 11) ?_ | refine Runs.region (id := 12) ?_ | refine Runs.region (id := 4) ?_ | refine Runs.region (id := 5) ?_ | refine Runs.region (id := 6) ?_ | refine Runs.region (id := 13) ?_ | ((with_reducible refine Runs.isC ?_); refine Runs.cond rfl (zc ?_) (zc ?_) <;> intro hc <;> (try (first | contradiction | (exfalso; omega; done) | (have : hc = trivial := rfl; clear this; clear hc))))) | ((with_reducible refine r_is ?_); first | refine yr ?_ | (refine r_append_full SlF.h SlF.s ZoF.h zd rfl rfl zC zJ zS rfl (fun hn => ?_) (fun hn => ?_) <;> refine r_nn zN zH ?_) | ((with_reducible refine r_gd ?_); (first | refine r_guardPf rfl rfl ?_ ?_ | refine r_guardNf rfl rfl ?_ ?_ | refine r_guard rfl rfl ?_ ?_) <;> intro hG <;> (try (exfalso; omega; done)) <;> refine r_nn zN zH ?_)) | ((with_reducible refine d_is ?_); first | refine yd ?_ | (refine d_fn rfl (ref_Compare _ _) HbF.h zL2 zD ?_; refine d_nn zN zH ?_) | ((with_reducible refine d_gd ?_); (first | refine d_guardPf rfl rfl ?_ ?_ | refine d_guardNf rfl rfl ?_ ?_ | refine d_guardPt rfl rfl ?_ ?_ | refine d_guardNt rfl rfl ?_ ?_ | refine d_guard rfl rfl ?_ ?_) <;> intro hG <;> (try (exfalso; omega; done)) <;> refine d_nn zN zH ?_)) | fail)
        refine ih (i, k + 1, l ++ [b.getD k default]) _ ⟨h0, by dsimp only; omega, by dsimp only; simp; omega, ?_⟩ (by dsimp only; omega) (by (refine St.Le.clean zR zU zV))
        rw [← h3, union_r hk (fun _ => hx)]; simp
    · repeat' (first | refine yw ?_ | ((with_reducible refine Runs.is ?_); first | refine Runs.region (id := 3) ?_ | refine Runs.drawn (id := 7) mixed zK ?_ | refine Runs.region (id := 8) ?_ | refine Runs.region (id := 9) ?_ | refine Runs.drawn (id := 10) mixed zK ?_ | refine Runs.region (id := 11) ?_ | refine Runs.region (id := 12) ?_ | refine Runs.region (id := 4) ?_ | refine Runs.region (id := 5) ?_ | refine Runs.region (id := 6) ?_ | refine Runs.region (id := 13) ?_ | ((with_reducible refine Runs.isC ?_); refine Runs.cond rfl (zc ?_) (zc ?_) <;> intro hc <;> (try (first | contradiction | (exfalso; omega; done) | (have : hc = trivial := rfl; clear this; clear hc))))) | ((with_reducible refine r_is ?_); first | refine yr ?_ | (refine r_append_full SlF.h SlF.s ZoF.h zd rfl rfl zC zJ zS rfl (fun hn => ?_) (fun hn => ?_) <;> refine r_nn zN zH ?_) | ((with_reducible refine r_gd ?_); (first | refine r_guardPf rfl rfl ?_ ?_ | refine r_guardNf rfl rfl ?_ ?_ | refine r_guard rfl rfl ?_ ?_) <;> intro hG <;> (try (exfalso; omega; done)) <;> refine r_nn zN zH ?_)) | ((with_reducible refine d_is ?_); first | refine yd ?_ | (refine d_fn rfl (ref_Compare _ _) HbF.h zL2 zD ?_; refine d_nn zN zH ?_) | ((with_reducible refine d_gd ?_); (first | refine d_guardPf rfl rfl ?_ ?_ | refine d_guardNf rfl rfl ?_ ?_ | refine d_guardPt rfl rfl ?_ ?_ | refine d_guardNt rfl rfl ?_ ?_ | refine d_guard rfl rfl ?_ ?_) <;> intro hG <;> (try (exfalso; omega; done)) <;> refine d_nn zN zH ?_)) | fail)
      refine ih (i + 1, k, l ++ [a.getD i default]) _ ⟨by dsimp only; omega, h1, by dsimp only; simp; omega, ?_⟩ (by dsimp only; omega) (by (refine St.Le.clean zR zU zV))
      rw [← h3, union_l hi (fun h => absurd h hk)]; simp
  · by_cases hk : k < b.length
    · repeat' (first | refine yw ?_ | ((with_reducible refine Runs.is ?_); first | refine Runs.region (id := 3) ?_ | refine Runs.drawn (id := 7) mixed zK ?_ | refine Runs.region (id := 8) ?_ | refine Runs.region (id := 9) ?_ | refine Runs.drawn (id := 10) mixed zK ?_ | refine Runs.region (id := 11) ?_ | refine Runs.region (id := 12) ?_ | refine Runs.region (id := 4) ?_ | refine Runs.region (id := 5) ?_ | refine Runs.region (id := 6) ?_ | refine Runs.region (id := 13) ?_ | ((with_reducible refine Runs.isC ?_); refine Runs.cond rfl (zc ?_) (zc ?_) <;> intro hc <;> (try (first | contradiction | (exfalso; omega; done) | (have : hc = trivial := rfl; clear this; clear hc))))) | ((with_reducible refine r_is ?_); first | refine yr ?_ | (refine r_append_full SlF.h SlF.s ZoF.h zd rfl rfl zC zJ zS rfl (fun hn => ?_) (fun hn => ?_) <;> refine r_nn zN zH ?_) | ((with_reducible refine r_gd ?_); (first | refine r_guardPf rfl rfl ?_ ?_ | refine r_guardNf rfl rfl ?_ ?_ | refine r_guard rfl rfl ?_ ?_) <;> intro hG <;> (try (exfalso; omega; done)) <;> refine r_nn zN zH ?_)) | ((with_reducible refine d_is ?_); first | refine yd ?_ | (refine d_fn rfl (ref_Compare _ _) HbF.h zL2 zD ?_; refine d_nn zN zH ?_) | ((with_reducible refine d_gd ?_); (first | refine d_guardPf rfl rfl ?_ ?_ | refine d_guardNf rfl rfl ?_ ?_ | refine d_guardPt rfl rfl ?_ ?_ | refine d_guardNt rfl rfl ?_ ?_ | refine d_guard rfl rfl ?_ ?_) <;> intro hG <;> (try (exfalso; omega; done)) <;> refine d_nn zN zH ?_)) | fail)
      refine ih (i, k + 1, l ++ [b.getD k default]) _ ⟨h0, by dsimp only; omega, by dsimp only; simp; omega, ?_⟩ (by dsimp only; omega) (by (refine St.Le.clean zR zU zV))
      rw [← h3, union_r hk (fun h => absurd h hi)]; simp
    · repeat' (first | refine yw ?_ | ((with_reducible refine Runs.is ?_); first | refine Runs.region (id := 3) ?_ | refine Runs.drawn (id := 7) mixed zK ?_ | refine Runs.region (id := 8) ?_ | refine Runs.region (id := 9) ?_ | refine Runs.drawn (id := 10) mixed zK ?_ | refine Runs.region (id := 11) ?_ | refine Runs.region (id := 12) ?_ | refine Runs.region (id := 4) ?_ | refine Runs.region (id := 5) ?_ | refine Runs.region (id := 6) ?_ | refine Runs.region (id := 13) ?_ | ((with_reducible refine Runs.isC ?_); refine Runs.cond rfl (zc ?_) (zc ?_) <;> intro hc <;> (try (first | contradiction | (exfalso; omega; done) | (have : hc = trivial := rfl; clear this; clear hc))))) | ((with_reducible refine r_is ?_); first | refine yr ?_ | (refine r_append_full SlF.h SlF.s ZoF.h zd rfl rfl zC zJ zS rfl (fun hn => ?_) (fun hn => ?_) <;> refine r_nn zN zH ?_) | ((with_reducible refine r_gd ?_); (first | refine r_guardPf rfl rfl ?_ ?_ | refine r_guardNf rfl rfl ?_ ?_ | refine r_guard rfl rfl ?_ ?_) <;> intro hG <;> (try (exfalso; omega; done)) <;> refine r_nn zN zH ?_)) | ((with_reducible refine d_is ?_); first | refine yd ?_ | (refine d_fn rfl (ref_Compare _ _) HbF.h zL2 zD ?_; refine d_nn zN zH ?_) | ((with_reducible refine d_gd ?_); (first | refine d_guardPf rfl rfl ?_ ?_ | refine d_guardNf rfl rfl ?_ ?_ | refine d_guardPt rfl rfl ?_ ?_ | refine d_guardNt rfl rfl ?_ ?_ | refine d_guard rfl rfl ?_ ?_) <;> intro hG <;> (try (exfalso; omega; done)) <;> refine d_nn zN zH ?_)) | fail)
      refine Runs.ret_frz Try.func37 rfl rfl rfl ?_
      rw [← h3, List.drop_eq_nil_of_le zo, List.drop_eq_nil_of_le zo]; simp [unionR]
end Go.Proofs
namespace Go.Proofs
open Go.AM
attribute [local irreducible] AM.evalR AM.evalD AM.Runs AM.valK AM.dK AM.opK AM.stepR AM.CallS AM.St.Le
theorem unionR_map {g : Proposal → Proposal} : ∀ (a b : Config), (∀ x ∈ a, ∀ y ∈ b, cmpP (g x) (g y) = cmpP x y) → unionR (a.map g) (b.map g) = (unionR a b).map g
  | [], b, _ => by simp [unionR]
  | a :: xs, [], _ => by simp [unionR]
  | a :: xs, b :: bs, h => by
    have h0 := h a (by simp) b (by simp)
    have e1 := unionR_map xs (b :: bs) fun x hx y hy => h x (by simp [hx]) y hy
    have e2 := unionR_map (a :: xs) bs fun x hx y hy => h x hx y (by simp [hy])
    have e3 := unionR_map xs bs fun x hx y hy => h x (by simp [hx]) y (by simp [hy])
    rw [List.map_cons] at e1 e2
    rw [List.map_cons, List.map_cons, unionR, unionR, h0, e1, e2, e3]
    split
    · rfl
    · split <;> rfl
termination_by a b => a.length + b.length
def back (f : Nat → Nat → Proposal) (p : Proposal) : Proposal := f (p.admin - 201).toNat (p.number - 1).toNat
theorem back_f0 (f : Nat → Nat → Proposal) (a i : Nat) : back f (f0 a i) = f a i := by
  unfold back f0
  dsimp only
  rw [show ((201 : Int) + a - 201).toNat = a by omega, show ((i : Int) + 1 - 1).toNat = i by omega]
theorem back_cut (f : Nat → Nat → Proposal) (i j k : Nat) : (cut f0 i j k).map (back f) = cut f i j k := by
  simp only [cut, blk, List.map_append, List.map_map]
  congr 1
  · congr 1 <;> exact List.map_congr_left fun n _ => back_f0 f _ n
  · exact List.map_congr_left fun n _ => back_f0 f _ n
theorem mem_cut {f : Nat → Nat → Proposal} {i j k : Nat} {p : Proposal} (h : p ∈ cut f i j k) : ∃ a n, p = f a n := by
  simp only [cut, blk, List.mem_append, List.mem_map] at h
  rcases h with (⟨n, _, rfl⟩ | ⟨n, _, rfl⟩) | ⟨n, _, rfl⟩ <;> exact ⟨_, _, rfl⟩
def unionF : Nat → Config → Config → Config
  | 0, _, _ => []
  | _ + 1, [], bs => bs
  | _ + 1, a :: xs, [] => a :: xs
  | n + 1, a :: xs, b :: bs => if cmpP a b < 0 then a :: unionF n xs (b :: bs) else if 0 < cmpP a b then b :: unionF n (a :: xs) bs else a :: unionF n xs bs
theorem unionF_eq : ∀ (n : Nat) (a b : Config), a.length + b.length < n → unionF n a b = unionR a b
  | 0, _, _, h => absurd h (Nat.not_lt_zero _)
  | n + 1, [], bs, _ => by simp [unionF, unionR]
  | n + 1, a :: xs, [], _ => by simp [unionF, unionR]
  | n + 1, a :: xs, b :: bs, h => by
    simp only [List.length_cons] at h
    rw [unionF, unionR, unionF_eq n xs (b :: bs) (by simp only [List.length_cons]; omega), unionF_eq n (a :: xs) bs (by simp only [List.length_cons]; omega), unionF_eq n xs bs zo]
theorem unionF_fin : ∀ i j k i' j' k' : Fin 4, unionF 19 (cut f0 i j k) (cut f0 i' j' k') = cut f0 (max i.val i'.val) (max j.val j'.val) (max k.val k'.val) := by decide +kernel
theorem union_fin (i j k i' j' k' : Fin 4) : unionR (cut f0 i j k) (cut f0 i' j' k') = cut f0 (max i.val i'.val) (max j.val j'.val) (max k.val k'.val) := by
  rw [← unionF_eq 19 _ _ (by rw [cut_len, cut_len]; omega)]
  exact unionF_fin i j k i' j' k'
theorem unionR_cut {f : Nat → Nat → Proposal} (hf : Nice f) {i j k i' j' k' : Nat} (h : i < 4 ∧ j < 4 ∧ k < 4) (h' : i' < 4 ∧ j' < 4 ∧ k' < 4) : unionR (cut f i j k) (cut f i' j' k') = cut f (max i i') (max j j') (max k k') := by
  rw [← back_cut f i j k, ← back_cut f i' j' k', unionR_map, union_fin ⟨i, h.1⟩ ⟨j, h.2.1⟩ ⟨k, h.2.2⟩ ⟨i', h'.1⟩ ⟨j', h'.2.1⟩ ⟨k', h'.2.2⟩, back_cut]
  intro x hx y hy
  obtain ⟨a, n, rfl⟩ := mem_cut hx
  obtain ⟨b, m, rfl⟩ := mem_cut hy
  rw [back_f0, back_f0, ← cmpP_key, key_nice hf, key_nice hf]
end Go.Proofs
namespace Go.Proofs
open Go.AM
attribute [local irreducible] AM.evalR AM.evalD AM.Runs AM.valK AM.dK AM.opK AM.stepR AM.CallS AM.St.Le
def RuleOK (r : Rule) : Prop := (1 ≤ r.kind ∧ r.kind ≤ 4) ∧ (r.kind = 3 → 1 ≤ r.columns ∧ r.columns ≤ 12) ∧ (r.kind ≠ 3 → r.columns = 0) ∧ (r.kind = 4 → 0 ≤ r.faulty ∧ r.faulty ≤ 12) ∧ (r.kind ≠ 4 → r.faulty = 0)
def ChangeOK (c : Change) : Prop := (c.kind = 1 ∧ (1 ≤ c.server ∧ c.server ≤ 12) ∧ (1 ≤ c.weight ∧ c.weight ≤ 9) ∧ c.version = 0 ∧ c.rule = ⟨0, 0, 0⟩) ∨ (c.kind = 2 ∧ (1 ≤ c.server ∧ c.server ≤ 12) ∧ c.weight = 0 ∧ c.version = 0 ∧ c.rule = ⟨0, 0, 0⟩) ∨
  (c.kind = 3 ∧ (1 ≤ c.server ∧ c.server ≤ 12) ∧ (1 ≤ c.weight ∧ c.weight ≤ 9) ∧ (1 ≤ c.version ∧ c.version ≤ 1000) ∧ c.rule = ⟨0, 0, 0⟩) ∨ (c.kind = 4 ∧ c.server = 0 ∧ c.weight = 0 ∧ (1 ≤ c.version ∧ c.version ≤ 1000) ∧ RuleOK c.rule)
def PropOK (p : Proposal) : Prop := (201 ≤ p.admin ∧ p.admin < 204) ∧ (1 ≤ p.number ∧ p.number ≤ 3) ∧ (1 ≤ p.changes.length ∧ p.changes.length ≤ 6) ∧ (∀ c ∈ p.changes, ChangeOK c) ∧
  ∀ i k : Nat, k < i → i < p.changes.length → ¬ ((p.changes.getD k default).kind = (p.changes.getD i default).kind ∧ (p.changes.getD k default).server = (p.changes.getD i default).server)
def ConfOK (c : Config) : Prop := (∀ p ∈ c, PropOK p) ∧ (∀ i : Nat, 0 < i → i < c.length → cmpP (c.getD (i - 1) default) (c.getD i default) < 0) ∧
  ∀ i : Nat, i < c.length → 1 < (c.getD i default).number → 0 < i ∧ (c.getD (i - 1) default).admin = (c.getD i default).admin ∧ (c.getD (i - 1) default).number = (c.getD i default).number - 1
theorem val_Server (n : Int) : AM.Fn Try.prog 52 [.i n] (.b (decide (1 ≤ n ∧ n ≤ 12))) := by
  (refine spec_of_runs Try.func52 rfl ?_; simp only [Try.f52]; refine ys ?_)
  repeat' (first | refine yw ?_ | ((with_reducible refine Runs.is ?_); first | refine Runs.region ?_ | ((with_reducible refine Runs.isC ?_); refine Runs.cond rfl (zc ?_) (zc ?_) <;> intro hc <;> (try (first | contradiction | (exfalso; omega; done) | (have : hc = trivial := rfl; clear this; clear hc))))) | ((with_reducible refine r_is ?_); first | refine yr ?_ | ((with_reducible refine r_gd ?_); (first | refine r_guardPt rfl rfl ?_ ?_ | refine r_guardNt rfl rfl ?_ ?_ | refine r_guard rfl rfl ?_ ?_) <;> intro hG <;> (try (exfalso; omega; done)) <;> refine r_nn zN zH ?_)) | fail)
  all_goals ((refine Runs.ret1 Try.func52 rfl zM zD ?_; try exact zX))
  all_goals (first | (refine V.Le.of_eq (congrArg V.b (decide_eq_decide.2 ?_)); omega) | (refine V.Le.of_eq (congrArg V.b (decide_eq_false ?_).symm); omega))
theorem val_Admin (n : Int) : AM.Fn Try.prog 56 [.i n] (.b (decide (201 ≤ n ∧ n < 204))) := by
  (refine spec_of_runs Try.func56 rfl ?_; simp only [Try.f56]; refine ys ?_)
  repeat' (first | refine yw ?_ | ((with_reducible refine Runs.is ?_); first | refine Runs.region ?_ | ((with_reducible refine Runs.isC ?_); refine Runs.cond rfl (zc ?_) (zc ?_) <;> intro hc <;> (try (first | contradiction | (exfalso; omega; done) | (have : hc = trivial := rfl; clear this; clear hc))))) | ((with_reducible refine r_is ?_); first | refine yr ?_ | ((with_reducible refine r_gd ?_); (first | refine r_guardPt rfl rfl ?_ ?_ | refine r_guardNt rfl rfl ?_ ?_ | refine r_guard rfl rfl ?_ ?_) <;> intro hG <;> (try (exfalso; omega; done)) <;> refine r_nn zN zH ?_)) | fail)
  all_goals ((refine Runs.ret1 Try.func56 rfl zM zD ?_; try exact zX))
  all_goals (first | (refine V.Le.of_eq (congrArg V.b (decide_eq_decide.2 ?_)); omega) | (refine V.Le.of_eq (congrArg V.b (decide_eq_false ?_).symm); omega))
end Go.Proofs
namespace Go.Proofs
open Go.AM
attribute [local irreducible] AM.evalR AM.evalD AM.Runs AM.valK AM.dK AM.opK AM.stepR AM.CallS AM.St.Le
end Go.Proofs
namespace Go.Proofs
open Go.AM
attribute [local irreducible] AM.evalR AM.evalD AM.Runs AM.valK AM.dK AM.opK AM.stepR AM.CallS AM.St.Le
theorem getD_in {α : Type} [Inhabited α] {l : List α} {i : Nat} (h : i < l.length) : l.getD i default ∈ l := by
  rw [List.getD_eq_getElem?_getD, List.getElem?_eq_getElem h]; exact List.getElem_mem h
end Go.Proofs
namespace Go.Proofs
open Go.AM
attribute [local irreducible] AM.evalR AM.evalD AM.Runs AM.valK AM.dK AM.opK AM.stepR AM.CallS AM.St.Le
end Go.Proofs
namespace Go.Proofs
open Go.AM
attribute [local irreducible] AM.evalR AM.evalD AM.Runs AM.valK AM.dK AM.opK AM.stepR AM.CallS AM.St.Le
theorem ruleI_ok (n : Int) : RuleOK (ruleI n) := by
  have d := digitB n 4 2 zd
  have d2 := digitB n 2 3 zd
  unfold ruleI
  split
  · simp [RuleOK]
  · split
    · simp [RuleOK]; omega
    · split
      · simp [RuleOK]; omega
      · simp [RuleOK]
theorem changeI_ok (n : Int) : ChangeOK (changeI n) := by
  have d1 := digitB n 8 1 zd
  have d2 := digitB n 4 3 zd
  have d3 := digitB n 2 9 zd
  have d4 := digitB n 12 1 zd
  unfold changeI
  split
  · exact .inl ⟨rfl, by dsimp only; omega, by dsimp only; omega, rfl, rfl⟩
  · split
    · exact .inr (.inl ⟨rfl, by dsimp only; omega, rfl, rfl, rfl⟩)
    · split
      · exact .inr (.inr (.inl ⟨rfl, by dsimp only; omega, by dsimp only; omega, by dsimp only; omega, rfl⟩))
      · split
        · exact .inr (.inr (.inr ⟨rfl, rfl, rfl, by dsimp only; omega, ruleI_ok _⟩))
        · exact .inl ⟨rfl, by dsimp only; omega, by dsimp only; omega, rfl, rfl⟩
theorem pool_ok (l : List Int) (a n : Nat) (ha : a < 3) (hn : n < 3) : PropOK (poolF l a n) := by
  unfold poolF propI
  generalize (poolUpto l a).2 + 2 * (n : Int) = at'
  refine ⟨⟨by dsimp only; omega, by dsimp only; omega⟩, ⟨by dsimp only; omega, by dsimp only; omega⟩, ?_, ?_, ?_⟩
  · dsimp only
    split <;> simp
  · dsimp only
    intro c hc
    split at hc
    · rcases List.mem_cons.1 hc with rfl | hc
      · exact changeI_ok _
      · rw [List.mem_singleton.1 hc]; exact changeI_ok _
    · rw [List.mem_singleton.1 hc]; exact changeI_ok _
  · dsimp only
    intro i k hk hi
    split at hi
    · rename_i he
      have h1 : i = 1 := by simp at hi; omega
      have h0 : k = 0 := by omega
      subst h1 h0
      rw [if_pos he]
      simp only [List.getD_cons_zero, List.getD_cons_succ]
      rintro ⟨e1, e2⟩
      simp [extra, e1, e2] at he
    · simp at hi; omega
theorem mem_cut3 {f : Nat → Nat → Proposal} {i j k : Nat} (h : i < 4 ∧ j < 4 ∧ k < 4) {p : Proposal} (hp : p ∈ cut f i j k) : ∃ a n, a < 3 ∧ n < 3 ∧ p = f a n := by
  simp only [cut, blk, List.mem_append, List.mem_map, List.mem_range] at hp
  rcases hp with (⟨n, hn, rfl⟩ | ⟨n, hn, rfl⟩) | ⟨n, hn, rfl⟩ <;> exact ⟨_, n, by decide, by omega, rfl⟩
end Go.Proofs
namespace Go.Proofs
open Go.AM
attribute [local irreducible] AM.evalR AM.evalD AM.Runs AM.valK AM.dK AM.opK AM.stepR AM.CallS AM.St.Le
theorem strict_ext : ∀ {a b : List Int}, a.Pairwise (· < ·) → b.Pairwise (· < ·) → (∀ x, x ∈ a ↔ x ∈ b) → a = b
  | [], [], _, _, _ => rfl
  | [], y :: b, _, _, h => absurd ((h y).2 (by simp)) (by simp)
  | x :: a, [], _, _, h => absurd ((h x).1 (by simp)) (by simp)
  | x :: a, y :: b, ha, hb, h => by
    rw [List.pairwise_cons] at ha hb
    have hxy : x = y := by
      rcases List.mem_cons.1 ((h x).1 (by simp)) with e | e
      · exact e
      · rcases List.mem_cons.1 ((h y).2 (by simp)) with e' | e'
        · exact e'.symm
        · have := hb.1 _ e; have := ha.1 _ e'; omega
    subst hxy
    congr 1
    refine strict_ext ha.2 hb.2 fun z => ⟨fun hz => ?_, fun hz => ?_⟩
    · rcases List.mem_cons.1 ((h z).1 (by simp [hz])) with e | e
      · have := ha.1 _ hz; omega
      · exact e
    · rcases List.mem_cons.1 ((h z).2 (by simp [hz])) with e | e
      · have := hb.1 _ hz; omega
      · exact e
theorem sortI_le (zs : List Int) : (sortI zs).Pairwise (· ≤ ·) := by
  have := List.pairwise_mergeSort (le := fun a b : Int => decide (a ≤ b)) (fun a b c h1 h2 => by simp at *; omega) (fun a b => by simp; omega) zs
  exact List.Pairwise.imp (fun h => by simpa using h) this
theorem mem_sortI {zs : List Int} {x : Int} : x ∈ sortI zs ↔ x ∈ zs := List.mem_mergeSort
theorem mem_insFold (n x : Int) : ∀ (l : List Int) (s : List Int × Bool), ((x ∈ (l.foldl (insStep n) s).1 ↔ x ∈ s.1 ∨ (x ∈ l ∧ x ≠ n) ∨ (x = n ∧ s.2 = false ∧ (l.foldl (insStep n) s).2 = true)) ∧ (s.2 = true → (l.foldl (insStep n) s).2 = true))
  | [], s => by
    constructor
    · simp only [List.foldl_nil, List.not_mem_nil, false_and, false_or]
      constructor
      · intro h; exact .inl h
      · rintro (h | ⟨_, h1, h2⟩)
        · exact h
        · rw [h1] at h2; cases h2
    · intro h; exact h
  | y :: l, s => by
    obtain ⟨h1, h2⟩ := mem_insFold n x l (insStep n s y)
    rw [List.foldl_cons]
    obtain ⟨acc, put⟩ := s
    by_cases e : y = n <;> by_cases g : n ≤ y <;> cases put <;> simp [insStep, e, g] at h1 h2 ⊢ <;> (try omega) <;> (generalize (List.foldl _ _ l) = t at *; obtain ⟨t1, t2⟩ := t; cases t2 <;> simp at * <;> (try subst e) <;> (try (constructor <;> intros <;> simp_all <;> omega)) <;> (try grind))
theorem mem_insR (l : List Int) (n x : Int) : x ∈ insR l n ↔ x ∈ l ∨ x = n := by
  have h := (mem_insFold n x l ([], false)).1
  unfold insR
  dsimp only
  generalize l.foldl (insStep n) ([], false) = t at *
  obtain ⟨t1, t2⟩ := t
  cases t2 <;> simp at h ⊢ <;> rw [h] <;> by_cases e : x = n <;> simp [e]
theorem mem_foldl {f : List Int → Int → List Int} (hf : ∀ l n x, x ∈ f l n ↔ x ∈ l ∨ x = n) : ∀ (b a : List Int) (x : Int), x ∈ b.foldl f a ↔ x ∈ a ∨ x ∈ b
  | [], a, x => by simp
  | n :: b, a, x => by rw [List.foldl_cons, mem_foldl hf b (f a n) x, hf, List.mem_cons, or_assoc]
theorem mem_srvT (s : Summary) (x : Int) : x ∈ srv (viewT s) ↔ x ∈ s.joined ∧ x ∉ s.removed := by
  simp [srv, viewT, vAccT]
  intro _
  exact ⟨fun h q => h x q rfl, fun h y hy e => h (e ▸ hy)⟩
theorem ascR_of : ∀ {l : List Int}, l.Pairwise (· < ·) → ascR l = true
  | [], _ => rfl
  | [_], _ => rfl
  | x :: y :: l, h => by
    rw [List.pairwise_cons] at h
    rw [ascR, decide_eq_true (h.1 y (by simp)), Bool.true_and]
    exact ascR_of h.2
end Go.Proofs
