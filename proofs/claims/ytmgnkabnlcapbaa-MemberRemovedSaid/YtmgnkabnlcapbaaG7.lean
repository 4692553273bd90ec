/- Contracts of functions and plain laws: W107. -/
import Derived.Test.YtmgnkabnlcapbaaMh
import Derived.Test.YtmgnkabnlcapbaaG6
set_option linter.unusedVariables false
set_option linter.unusedSimpArgs false
set_option maxRecDepth 8000
set_option maxHeartbeats 4000000
set_option pp.deepTerms false
set_option pp.deepTerms.threshold 6
namespace Go.Proofs
open Go.AM
attribute [local irreducible] AM.evalR AM.evalD AM.Runs AM.valK AM.dK AM.opK AM.stepR AM.CallS AM.St.Le
theorem genesis_len (n : Int) : (genesisI n).members.length ≤ 12 := (genesis_mem n).len
theorem join_fn {s t : Summary} {m n : Nat} (hs : SortedS s) (h1 : Short s m) (h2 : Short t n) (h : m + n ≤ 1000000) : AM.Fn Try.prog 25 [suV s, suV t] (suV (joinT s t)) := by
  obtain ⟨a1, a2, a3⟩ := h1
  obtain ⟨b1, b2, b3⟩ := h2
  have := member_Join s t (member_union_all false false _ _ zo) (member_union_all false false _ _ zo) (member_weights_all false false _ _ zo)
  rw [(joinS_T hs t).1] at this
  exact this
theorem eqs_fn {s : Summary} {m : Nat} (h1 : Short s m) (h : m ≤ 1000000) : AM.Fn Try.prog 15 [suV s, suV s] (.b true) := by
  have := ref_EqualSummary s s (by have := h1.2.2; omega)
  rw [decide_eq_true rfl] at this
  exact this
theorem sum_fn {f : Nat → Nat → Proposal} (F : Fam f) (n : Int) {a : Config} (ha : IsCut f a) (hl : Lite f) :
    AM.Fn Try.prog 32 [viV (genesisI n), cfV a] (suV (sumT (genesisI n) a)) ∧ Short (sumT (genesisI n) a) 10000 ∧ SortedS (sumT (genesisI n) a) := by
  have h9 := (ha.small hl).1
  have hg := genesis_mem n
  have hl := genesis_len n
  have hp : ∀ p ∈ a, Plain p := fun p hp => ⟨by have := (F.prop ha p hp).2.2.1; omega, trivial⟩
  have hS := member_Summarize false (genesisI n) a zo zo hp
  have e := sumS_T hg (F.prop ha)
  rw [e.1] at hS
  exact ⟨hS, (sumT_short (g := genesisI n) zo a (fun p h => (hp p h).1)).mono zo, e.2⟩
theorem law_MemberUnion (f : Bool) (n : Int) (l : List Int) (x y z : Int) (hl : l.length ≤ 4611686018427387904) : AM.Fn Try.prog 9 [.i n, .sl f (l.map .i), .i x, .i y, .i z] (.b true) := by
  have hf := pool_nice l
  have hF := pool_fam l
  have hli : Lite (poolF l) := pool_lite l
  have hpc := pool_cut l
  have hca := part_cut hf hpc x
  have hcb := part_cut hf hpc y
  have hcc := part_cut hf hpc z
  have s0 := hpc.small hli
  have s1 := hca.small hli
  have s2 := hcb.small hli
  have hG := kit_Genesis n
  have hP := kit_Pool f l hl
  have hP1 := kit_Part false (poolI l) x zo
  have hP2 := kit_Part false (poolI l) y zo
  have hP3 := kit_Part false (poolI l) z zo
  generalize partI (poolI l) x = a at *
  generalize partI (poolI l) y = b at *
  generalize partI (poolI l) z = c at *
  obtain ⟨hu, hcu⟩ := sum_union hF (genesis_mem n) hca hcb
  obtain ⟨j1, j2, j3⟩ := join_laws hF (genesis_mem n) hca hcb hcc
  have hU := ref_Union false false a b zo zo
  obtain ⟨hS1, q1, r1⟩ := sum_fn hF n hca hli
  obtain ⟨hS2, q2, r2⟩ := sum_fn hF n hcb hli
  obtain ⟨hS3, q3, r3⟩ := sum_fn hF n hcc hli
  obtain ⟨hSu, qu, ru⟩ := sum_fn hF n hcu hli
  rw [← hu] at hSu qu
  generalize sumT (genesisI n) a = s at *
  generalize sumT (genesisI n) b = t at *
  generalize sumT (genesisI n) c = u at *
  have hJ1 := join_fn r1 q1 q2 zd
  have hJ2 := join_fn r2 q2 q1 zd
  have hJ3 := join_fn r1 q1 q1 zd
  have q12 := joinT_short q1 q2
  have q23 := joinT_short q2 q3
  have q123 := joinT_short q12 q3
  have hJ4 := join_fn (joinS_T r1 t).2 q12 q3 zd
  have hJ5 := join_fn r2 q2 q3 zd
  have hJ6 := join_fn r1 q1 q23 zd
  have hE1 := eqs_fn q12 zd
  have hE2 := eqs_fn q1 zd
  have hE3 := eqs_fn q123 zd
  rw [← j1] at hJ2
  rw [j2] at hJ3
  rw [← j3] at hJ6
  clear hu j1 j2 j3 hf hF hli hpc hca hcb hcc hcu ru
  generalize joinT (joinT s t) u = r at *
  generalize joinT s t = st at *
  generalize joinT t u = tu at *
  generalize unionR a b = ab at *
  generalize genesisI n = g at *
  generalize poolI l = p at *
  (refine spec_of_runs Try.func9 rfl ?_; simp only [Try.f9]; refine ys ?_)
  repeat' (first | refine yw ?_ | ((with_reducible refine Runs.is ?_); first | refine Runs.region (id := 0) ?_ | refine Runs.region (id := 1) ?_ | refine Runs.region (id := 2) ?_ | ((with_reducible refine Runs.isC ?_); refine Runs.cond rfl (zc ?_) (zc ?_) <;> intro hc <;> (try (first | contradiction | (exfalso; omega; done) | (have : hc = trivial := rfl; clear this; clear hc))))) | ((with_reducible refine r_is ?_); first | refine yr ?_ | (refine r_fn rfl (hG) HbF.h zL1 zD ?_; refine r_nn zN zH ?_) | (refine r_fn rfl (hP) HbF.h zL1 zD ?_; refine r_nn zN zH ?_) | (refine r_fn rfl (hP1) HbF.h zL2 zD ?_; refine r_nn zN zH ?_) | (refine r_fn rfl (hP2) HbF.h zL2 zD ?_; refine r_nn zN zH ?_) | (refine r_fn rfl (hP3) HbF.h zL2 zD ?_; refine r_nn zN zH ?_)) | fail)
  refine Runs.drawnU (id := 3) 12 mixed zK (by decide +kernel) ?_
  dsimp only [List.take, List.drop]
  repeat' (first | (with_reducible refine And.intro (by intro a i h; cases h) ?_) | refine yw ?_ | ((with_reducible refine Runs.is ?_); first | (refine Runs.drawnT (id := 3) [] 9 mixed zK (by decide +kernel) ?_; dsimp only [List.take, List.drop]) | refine Runs.drawn (id := 3) mixed zK ?_ | ((with_reducible refine Runs.isC ?_); refine Runs.cond rfl (zc ?_) (zc ?_) <;> intro hc <;> (try (first | contradiction | (exfalso; omega; done) | (have : hc = trivial := rfl; clear this; clear hc))))) | ((with_reducible refine r_is ?_); first | refine yr ?_) | ((with_reducible refine d_is ?_); first | refine yd ?_ | (refine d_fn rfl (hS1) HbF.h zL2 zD ?_; refine d_nn zN zH ?_) | (refine d_fn rfl (hS2) HbF.h zL2 zD ?_; refine d_nn zN zH ?_) | (refine d_fn rfl (hS3) HbF.h zL2 zD ?_; refine d_nn zN zH ?_)) | fail)
  repeat' (first | refine yw ?_ | ((with_reducible refine Runs.is ?_); first | refine Runs.drawn (id := 4) mixed zK ?_ | refine Runs.region (id := 5) ?_ | refine Runs.drawn (id := 6) mixed zK ?_ | ((with_reducible refine Runs.isC ?_); refine Runs.cond rfl (zc ?_) (zc ?_) <;> intro hc <;> (try (first | contradiction | (exfalso; omega; done) | (have : hc = trivial := rfl; clear this; clear hc))))) | ((with_reducible refine r_is ?_); first | refine yr ?_) | ((with_reducible refine d_is ?_); first | refine yd ?_ | (refine d_fn rfl (hJ1) HbF.h zL2 zD ?_; refine d_nn zN zH ?_) | (refine d_fn rfl (hJ2) HbF.h zL2 zD ?_; refine d_nn zN zH ?_) | (refine d_fn rfl (hJ3) HbF.h zL2 zD ?_; refine d_nn zN zH ?_) | (refine d_fn rfl (hJ4) HbF.h zL2 zD ?_; refine d_nn zN zH ?_) | (refine d_fn rfl (hJ5) HbF.h zL2 zD ?_; refine d_nn zN zH ?_) | (refine d_fn rfl (hJ6) HbF.h zL2 zD ?_; refine d_nn zN zH ?_) | (refine d_fn rfl (hU) HbF.h zL2 zD ?_; refine d_nn zN zH ?_) | (refine d_fn rfl (hSu) HbF.h zL2 zD ?_; refine d_nn zN zH ?_) | (refine d_fn rfl (hE1) HbF.h zL2 zD ?_; refine d_nn zN zH ?_) | (refine d_fn rfl (hE2) HbF.h zL2 zD ?_; refine d_nn zN zH ?_) | (refine d_fn rfl (hE3) HbF.h zL2 zD ?_; refine d_nn zN zH ?_) | (refine d_fn rfl (law_awake) HbF.h zL0 zD ?_; refine d_nn zN zH ?_) | ((with_reducible refine d_gd ?_); (first | refine d_guardPf rfl rfl ?_ ?_ | refine d_guardNf rfl rfl ?_ ?_ | refine d_guardPt rfl rfl ?_ ?_ | refine d_guardNt rfl rfl ?_ ?_ | refine d_guard rfl rfl ?_ ?_) <;> intro hG <;> (try (exfalso; omega; done)) <;> refine d_nn zN zH ?_)) | fail)
  all_goals ((refine Runs.ret1 Try.func9 rfl zM zD ?_; try exact zX))
theorem any_mem {l : List Int} {x : Int} (h : x ∈ l) : (l.any fun y => decide (y = x)) = true := List.any_eq_true.2 ⟨x, h, decide_eq_true rfl⟩
theorem any_not {l : List Int} {x : Int} (h : x ∉ l) : (l.any fun y => decide (y = x)) = false := by
  cases q : l.any fun y => decide (y = x)
  · rfl
  · obtain ⟨y, hy, e⟩ := List.any_eq_true.1 q
    rw [of_decide_eq_true e] at hy; exact absurd hy h
theorem law_MemberRemoved (f : Bool) (n : Int) (l : List Int) (x : Int) (hl : l.length ≤ 4611686018427387904) : AM.Fn Try.prog 10 [.i n, .sl f (l.map .i), .i x] (.b true) := by
  have hf := pool_nice l
  have hF := pool_fam l
  have hli : Lite (poolF l) := pool_lite l
  have hpc := pool_cut l
  have hca := part_cut hf hpc x
  have s0 := hpc.small hli
  have hG := kit_Genesis n
  have hP := kit_Pool f l hl
  have hP1 := kit_Part false (poolI l) x zo
  have hsub : ∀ p ∈ partI (poolI l) x, p ∈ poolI l := by
    obtain ⟨i, j, k, i', j', k', hle, _, e1, e2⟩ := part_sub hf hpc x
    rw [e2, e1]
    exact fun p hp => cut_sub hle hp
  generalize partI (poolI l) x = a at *
  obtain ⟨hS1, q1, r1⟩ := sum_fn hF n hca hli
  obtain ⟨hS2, q2, r2⟩ := sum_fn hF n hpc hli
  have i1 := sum_is (genesis_mem n) (hF.prop hca)
  have i2 := sum_is (genesis_mem n) (hF.prop hpc)
  have hgone : ∀ x ∈ (sumT (genesisI n) a).removed, x ∈ (sumT (genesisI n) (poolI l)).removed := by
    intro x hx
    obtain ⟨t, ht, e⟩ := (i1.r x).1 hx
    refine (i2.r x).2 ⟨t, ?_, e⟩
    rcases List.mem_cons.1 ht with rfl | ht
    · simp
    · obtain ⟨p, hp, rfl⟩ := List.mem_map.1 ht
      exact List.mem_cons_of_mem _ (List.mem_map.2 ⟨p, hsub p hp, rfl⟩)
  clear i1 i2
  generalize sumT (genesisI n) a = s1 at *
  generalize sumT (genesisI n) (poolI l) = s at *
  have hV := member_View s (by have := q2.1; omega) (by have := q2.2.2; omega)
  rw [viewS_T r2.2.2] at hV
  have hmem : ∀ m ∈ (viewT s).members, m.server ∈ s.joined ∧ m.server ∉ s.removed := fun m hm => (mem_srvT s m.server).1 (List.mem_map.2 ⟨m, hm, rfl⟩)
  have lv : (viewT s).members.length ≤ 10000 := Nat.le_trans (vAccT_len _ _ _) q2.1
  have lr := q1.2.1
  clear hf hF hli hpc hca hsub r1 r2
  generalize viewT s = v at *
  generalize genesisI n = g at *
  generalize poolI l = p at *
  obtain ⟨J1, R1, W1, u1, v1, a1, n1⟩ := s1
  obtain ⟨J, R, W, u, ve, ad, nu⟩ := s
  obtain ⟨ms, vr⟩ := v
  dsimp only at hgone hmem lv lr
  (refine spec_of_runs Try.func10 rfl ?_; simp only [Try.f10]; refine ys ?_)
  repeat' (first | refine yw ?_ | ((with_reducible refine Runs.is ?_); first | refine Runs.region (id := 0) ?_ | refine Runs.region (id := 1) ?_ | refine Runs.region (id := 2) ?_ | refine Runs.region (id := 3) ?_ | refine Runs.region (id := 4) ?_ | refine Runs.region (id := 5) ?_ | refine Runs.region (id := 6) ?_ | ((with_reducible refine Runs.isC ?_); refine Runs.cond rfl (zc ?_) (zc ?_) <;> intro hc <;> (try (first | contradiction | (exfalso; omega; done) | (have : hc = trivial := rfl; clear this; clear hc))))) | ((with_reducible refine r_is ?_); first | refine yr ?_ | (refine r_fn rfl (hG) HbF.h zL1 zD ?_; refine r_nn zN zH ?_) | (refine r_fn rfl (hP) HbF.h zL1 zD ?_; refine r_nn zN zH ?_) | (refine r_fn rfl (hP1) HbF.h zL2 zD ?_; refine r_nn zN zH ?_) | (refine r_fn rfl (hS1) HbF.h zL2 zD ?_; refine r_nn zN zH ?_) | (refine r_fn rfl (hS2) HbF.h zL2 zD ?_; refine r_nn zN zH ?_) | (refine r_fn rfl (hV) HbF.h zL1 zD ?_; refine r_nn zN zH ?_)) | fail)
  refine Runs.loopI (fun i : Nat => ms.length - i) (fun i => i ≤ ms.length)
    (fun i => ⟨[.any, .any, .any, .any, .any, .any, .any, .any, .any, .any, .sl false (R1.map .i), .ptr 11 0 0, .ptr 12 0 0, .i (i : Nat), .any, .any, .any, .any, .any, .any, .any, .any, .any, .any, .any, .any, .any, .any, .any, .any, .any, .any, .any, .any, .any, .any, .any, .any, .any, .any, .any, .any, .any, .any, .any, .any, .any, .any, .any, .any, .any, .any, .any, .any, .any, .any, .any, .any, .any, .any, .any, .any, .any, .any, .any, .any, .any, .any, .any, .any, .any, .any, .any], [(12, .var 46 (viV ⟨ms, vr⟩)), (11, .var 34 (suV ⟨J, R, W, u, ve, ad, nu⟩))]⟩) 0 zo ?_ ?_
  · (refine St.Le.clean zR zU zV)
  rintro i hi ih
  by_cases hlt : i < ms.length
  · have hm := hmem _ (getD_in hlt)
    have hI1 := ref_In false R1 (ms.getD i default).server
    have hI2 := ref_In false J (ms.getD i default).server
    rw [any_not (fun h => hm.2 (hgone _ h))] at hI1
    rw [any_mem hm.1] at hI2
    clear hm
    repeat' (first | refine yw ?_ | ((with_reducible refine Runs.is ?_); first | refine Runs.region (id := 7) ?_ | refine Runs.drawn (id := 9) mixed zK ?_ | refine Runs.region (id := 10) ?_ | refine Runs.region (id := 8) ?_ | ((with_reducible refine Runs.isC ?_); refine Runs.cond rfl (zc ?_) (zc ?_) <;> intro hc <;> (try (first | contradiction | (exfalso; omega; done) | (have : hc = trivial := rfl; clear this; clear hc))))) | ((with_reducible refine r_is ?_); first | refine yr ?_) | ((with_reducible refine d_is ?_); first | refine yd ?_ | (refine d_fn rfl (hI1) HbF.h zL2 zD ?_; refine d_nn zN zH ?_) | (refine d_fn rfl (hI2) HbF.h zL2 zD ?_; refine d_nn zN zH ?_) | ((with_reducible refine d_gd ?_); (first | refine d_guardPf rfl rfl ?_ ?_ | refine d_guardNf rfl rfl ?_ ?_ | refine d_guard rfl rfl ?_ ?_) <;> intro hG <;> (try (exfalso; omega; done)) <;> refine d_nn zN zH ?_)) | fail)
    refine ih (i + 1) _ zo zo ?_
    (refine St.Le.clean zR zU zV)
  · repeat' (first | refine yw ?_ | ((with_reducible refine Runs.is ?_); first | refine Runs.region (id := 7) ?_ | ((with_reducible refine Runs.isC ?_); refine Runs.cond rfl (zc ?_) (zc ?_) <;> intro hc <;> (try (first | contradiction | (exfalso; omega; done) | (have : hc = trivial := rfl; clear this; clear hc))))) | ((with_reducible refine r_is ?_); first | refine yr ?_) | fail)
    repeat' (first | refine yw ?_ | ((with_reducible refine Runs.is ?_); first | refine Runs.region (id := 11) ?_ | ((with_reducible refine Runs.isC ?_); refine Runs.cond rfl (zc ?_) (zc ?_) <;> intro hc <;> (try (first | contradiction | (exfalso; omega; done) | (have : hc = trivial := rfl; clear this; clear hc))))) | ((with_reducible refine r_is ?_); first | refine yr ?_) | fail)
    refine Runs.loopI (fun i : Nat => R1.length - i) (fun i => i ≤ R1.length)
      (fun i => ⟨[.any, .any, .any, .any, .any, .any, .any, .any, .any, .any, .sl false (R1.map .i), .ptr 11 0 0, .any, .any, .i (i : Nat), .any, .any, .any, .any, .any, .any, .any, .any, .any, .any, .any, .any, .any, .any, .any, .any, .any, .any, .any, .any, .any, .any, .any, .any, .any, .any, .any, .any, .any, .any, .any, .any, .any, .any, .any, .any, .any, .any, .any, .any, .any, .any, .any, .any, .any, .any, .any, .any, .any, .any, .any, .any, .any, .any, .any, .any, .any, .any], [(11, .var 34 (suV ⟨J, R, W, u, ve, ad, nu⟩))]⟩) 0 zo ?_ ?_
    · (refine St.Le.clean zR zU zV)
    clear hi hlt ih
    rintro i hi ih
    by_cases hlt : i < R1.length
    · have hm := hgone _ (getD_in hlt)
      have hI1 := ref_In false R (R1.getD i default)
      rw [any_mem hm] at hI1
      clear hm
      repeat' (first | refine yw ?_ | ((with_reducible refine Runs.is ?_); first | refine Runs.region (id := 12) ?_ | refine Runs.drawn (id := 14) mixed zK ?_ | refine Runs.region (id := 15) ?_ | refine Runs.region (id := 13) ?_ | ((with_reducible refine Runs.isC ?_); refine Runs.cond rfl (zc ?_) (zc ?_) <;> intro hc <;> (try (first | contradiction | (exfalso; omega; done) | (have : hc = trivial := rfl; clear this; clear hc))))) | ((with_reducible refine r_is ?_); first | refine yr ?_) | ((with_reducible refine d_is ?_); first | refine yd ?_ | (refine d_fn rfl (hI1) HbF.h zL2 zD ?_; refine d_nn zN zH ?_)) | fail)
      refine ih (i + 1) _ zo zo ?_
      (refine St.Le.clean zR zU zV)
    · repeat' (first | refine yw ?_ | ((with_reducible refine Runs.is ?_); first | refine Runs.region (id := 12) ?_ | ((with_reducible refine Runs.isC ?_); refine Runs.cond rfl (zc ?_) (zc ?_) <;> intro hc <;> (try (first | contradiction | (exfalso; omega; done) | (have : hc = trivial := rfl; clear this; clear hc))))) | ((with_reducible refine r_is ?_); first | refine yr ?_) | fail)
      repeat' (first | refine yw ?_ | ((with_reducible refine Runs.is ?_); first | refine Runs.region (id := 16) ?_ | ((with_reducible refine Runs.isC ?_); refine Runs.cond rfl (zc ?_) (zc ?_) <;> intro hc <;> (try (first | contradiction | (exfalso; omega; done) | (have : hc = trivial := rfl; clear this; clear hc))))) | ((with_reducible refine r_is ?_); first | refine yr ?_ | (refine r_fn rfl (law_awake) HbF.h zL0 zD ?_; refine r_nn zN zH ?_)) | fail)
      all_goals ((refine Runs.ret1 Try.func10 rfl zM zD ?_; try exact zX))
end Go.Proofs
