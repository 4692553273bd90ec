/- Contracts of functions and plain laws: W1, W2, W3, W4, W5, W6, W7, W8, W11, W9, W12, Sk, W14, W16. -/
import Derived.Sort.OwnSortedInts
import Derived.Test.YtndpgjcmmjeoiaaGreatHd
import Derived.Test.YtndpgjcmmjeoiaaGreatSl
import Derived.Test.YtndpgjcmmjeoiaaGreatMf
set_option linter.unusedVariables false
set_option linter.unusedSimpArgs false
set_option maxRecDepth 8000
set_option pp.deepTerms false
set_option pp.deepTerms.threshold 6
set_option maxHeartbeats 4000000
namespace Go.Proofs
open Go.AM
attribute [local irreducible] AM.evalR AM.evalD AM.Runs AM.valK AM.dK AM.opK AM.stepR AM.CallS AM.St.Le
theorem cmp_isNaN (a : Int) : AM.Fn Tryz.prog 229 [.i a] (.b false) := by
  (refine spec_of_runs Tryz.func229 rfl ?_; simp only [Tryz.f229]; refine ys ?_)
  repeat' (first | refine yw ?_ | ((with_reducible refine Runs.is ?_); first | refine Runs.region ?_ | ((with_reducible refine Runs.isC ?_); refine Runs.cond rfl (zc ?_) (zc ?_) <;> intro hc <;> (try (first | contradiction | (exfalso; omega; done) | (have : hc = trivial := rfl; clear this; clear hc))))) | ((with_reducible refine r_is ?_); first | refine yr ?_) | fail)
  (refine Runs.ret1 Tryz.func229 rfl zM zD ?_; try exact zX)
def cmpI (a b : Int) : Int := if a < b then -1 else if b < a then 1 else 0
theorem cmp_Compare (a b : Int) : AM.Fn Tryz.prog 192 [.i a, .i b] (.i (cmpI a b)) := by
  (refine spec_of_runs Tryz.func192 rfl ?_; simp only [Tryz.f192]; refine ys ?_)
  repeat' (first | refine yw ?_ | ((with_reducible refine Runs.is ?_); first | refine Runs.region ?_ | ((with_reducible refine Runs.isC ?_); refine Runs.cond rfl (zc ?_) (zc ?_) <;> intro hc <;> (try (first | contradiction | (exfalso; omega; done) | (have : hc = trivial := rfl; clear this; clear hc))))) | ((with_reducible refine r_is ?_); first | refine yr ?_ | (refine r_fn rfl (cmp_isNaN _) HbF.h zL1 zD ?_; refine r_nn zN zH ?_)) | fail)
  all_goals ((refine Runs.ret1 Tryz.func192 rfl zM zD ?_; try exact zX))
  all_goals (refine V.Le.of_eq (congrArg V.i ?_); unfold cmpI; split <;> (try split) <;> omega)
def orI : List Int → Int
  | [] => 0
  | x :: xs => if x = 0 then orI xs else x
theorem orI_drop {xs : List Int} {i : Nat} (h : i < xs.length) : orI (xs.drop i) = if xs.getD i default = 0 then orI (xs.drop (i+1)) else xs.getD i default := by
  rw [drop_getD h]; rfl
theorem cmp_Or (f : Bool) (xs : List Int) : AM.Fn Tryz.prog 203 [.sl f (xs.map .i)] (.i (orI xs)) := by
  (refine spec_of_runs Tryz.func203 rfl ?_; simp only [Tryz.f203]; refine ys ?_)
  (refine Runs.lens 0 ?_; refine yl ?_)
  intro hl
  repeat' (first | refine yw ?_ | ((with_reducible refine Runs.is ?_); first | refine Runs.region ?_ | ((with_reducible refine Runs.isC ?_); refine Runs.cond rfl (zc ?_) (zc ?_) <;> intro hc <;> (try (first | contradiction | (exfalso; omega; done) | (have : hc = trivial := rfl; clear this; clear hc))))) | ((with_reducible refine r_is ?_); first | refine yr ?_) | fail)
  refine Runs.loopI (fun i : Nat => xs.length - i) (fun i => i ≤ xs.length ∧ orI (xs.drop i) = orI xs) (fun i => ⟨[.any, .any, .any, .i 0, .any, .any, .sl f (xs.map .i), .i (xs.length : Nat), .i (i : Nat), .any, .any, .any, .any, .any, .any, .any, .any, .any], []⟩) 0 (by simp) ?_ ?_
  · (refine St.Le.clean zR (by simp [V.usesL, V.uses, AM.look_cons, AM.look_nil, V.uses_data, da_i, da_chV, da_ruV, da_prV, da_enV, da_cfV, da_veV, da_inV, da_edV, da_grV, da_weV, da_mbV, da_suV, da_viV]) (by simp [AM.sub, AM.look_cons, AM.look_nil, V.uses, V.usesL, V.uses_data, da_i, da_chV, da_ruV, da_prV, da_enV, da_cfV, da_veV, da_inV, da_edV, da_grV, da_weV, da_mbV, da_suV, da_viV]))
  rintro i ⟨h1, h2⟩ ih
  repeat' (first | refine yw ?_ | ((with_reducible refine Runs.is ?_); first | refine Runs.region ?_ | ((with_reducible refine Runs.isC ?_); refine Runs.cond rfl (zc ?_) (zc ?_) <;> intro hc <;> (try (first | contradiction | (exfalso; omega; done) | (have : hc = trivial := rfl; clear this; clear hc))))) | ((with_reducible refine r_is ?_); first | refine yr ?_) | fail)
  · (refine Runs.ret1 Tryz.func203 rfl zM zD ?_; try exact zX)
    refine V.Le.of_eq (congrArg V.i ?_)
    rw [← h2, orI_drop zo, if_neg (by assumption)]
  · refine ih (i + 1) _ ⟨by omega, ?_⟩ zo (by (refine St.Le.clean zR (by simp [V.usesL, V.uses, AM.look_cons, AM.look_nil, V.uses_data, da_i, da_chV, da_ruV, da_prV, da_enV, da_cfV, da_veV, da_inV, da_edV, da_grV, da_weV, da_mbV, da_suV, da_viV]) (by simp [AM.sub, AM.look_cons, AM.look_nil, V.uses, V.usesL, V.uses_data, da_i, da_chV, da_ruV, da_prV, da_enV, da_cfV, da_veV, da_inV, da_edV, da_grV, da_weV, da_mbV, da_suV, da_viV])))
    rw [← h2, orI_drop (i := i) zo, if_pos (by assumption)]
  · (refine Runs.ret1 Tryz.func203 rfl zM zD ?_; try exact zX)
    rw [List.drop_eq_nil_of_le zo] at h2; rw [← h2]; exact V.Le.refl _
def cmpP (a b : Proposal) : Int := orI [cmpI a.admin b.admin, cmpI a.number b.number]
theorem proposal_Compare (p q : Proposal) : AM.Fn Tryz.prog 151 [prV p, prV q] (.i (cmpP p q)) := by
  (refine spec_of_runs Tryz.func151 rfl ?_; simp only [Tryz.f151]; refine ys ?_)
  repeat' (first | refine yw ?_ | ((with_reducible refine Runs.is ?_); first | refine Runs.region ?_ | refine Runs.drawn mixed zK ?_ | ((with_reducible refine Runs.isC ?_); refine Runs.cond rfl (zc ?_) (zc ?_) <;> intro hc <;> (try (first | contradiction | (exfalso; omega; done) | (have : hc = trivial := rfl; clear this; clear hc))))) | ((with_reducible refine r_is ?_); first | refine yr ?_) | ((with_reducible refine d_is ?_); first | refine yd ?_ | (refine d_fn rfl (cmp_Compare _ _) HbF.h zL2 zD ?_; refine d_nn zN zH ?_) | (refine d_fn rfl (cmp_Or true [_, _]) HbF.h zL1 zD ?_; refine d_nn zN zH ?_)) | fail)
  (refine Runs.ret1 Tryz.func151 rfl zM zD ?_; try exact zX)
end Go.Proofs
namespace Go.Proofs
open Go.AM
attribute [local irreducible] AM.evalR AM.evalD AM.Runs AM.valK AM.dK AM.opK AM.stepR AM.CallS AM.St.Le
def bs (k : Nat → Int) (i j : Nat) : Nat := if h : i < j then (if k ((i + j) / 2) < 0 then bs k ((i + j) / 2 + 1) j else bs k i ((i + j) / 2)) else i
termination_by j - i
decreasing_by all_goals omega
theorem bsf_config (f : Bool) (c : Config) (p : Proposal) (g : FuncId) (k : Proposal → Int) (hg : ∀ x, AM.Fn Tryz.prog g [prV x, prV p] (.i (k x))) (hb : hasBody Tryz.prog g) :
    AM.Fn Tryz.prog 209 [.sl f (c.map prV), prV p, .fn g []]
      (.tup [.i (bs (fun i => k (c.getD i default)) 0 c.length : Nat), .b (decide (bs (fun i => k (c.getD i default)) 0 c.length < c.length ∧ k (c.getD (bs (fun i => k (c.getD i default)) 0 c.length) default) = 0))]) := by
  (refine spec_of_runs Tryz.func209 rfl ?_; simp only [Tryz.f209]; refine ys ?_)
  (refine Runs.lens 0 ?_; refine yl ?_)
  intro hl
  repeat' (first | refine yw ?_ | ((with_reducible refine Runs.is ?_); first | refine Runs.region (id := 0) ?_ | refine Runs.region (id := 1) ?_ | refine Runs.region (id := 2) ?_ | ((with_reducible refine Runs.isC ?_); refine Runs.cond rfl (zc ?_) (zc ?_) <;> intro hc <;> (try (first | contradiction | (exfalso; omega; done) | (have : hc = trivial := rfl; clear this; clear hc))))) | ((with_reducible refine r_is ?_); first | refine yr ?_) | fail)
  refine Runs.loopI (α := Nat × Nat) (fun a => a.2 - a.1) (fun a => a.1 ≤ a.2 ∧ a.2 ≤ c.length ∧ bs (fun i => k (c.getD i default)) a.1 a.2 = bs (fun i => k (c.getD i default)) 0 c.length)
    (fun a => ⟨[.sl f (c.map prV), .any, .fn g [], .any, .ptr 4 0 0, .any, .any, .any, .i (c.length : Nat), .i (a.1 : Nat), .i (a.2 : Nat), .any, .any, .any, .any, .any, .any, .any, .any, .any, .any, .any, .any, .any, .any, .any, .any, .any, .any, .any, .any, .any, .any, .any, .any, .any, .any, .any, .any, .any, .any, .any, .any, .any, .any, .any, .any, .any, .any], [(4, .var 129 (prV p))]⟩) (0, c.length) (by simp) ?_ ?_
  · (refine St.Le.clean zR (by simp [V.usesL, V.uses, AM.look_cons, AM.look_nil, V.uses_data, da_i, da_chV, da_ruV, da_prV, da_enV, da_cfV, da_veV, da_inV, da_edV, da_grV, da_weV, da_mbV, da_suV, da_viV]) (by simp [AM.sub, AM.look_cons, AM.look_nil, V.uses, V.usesL, V.uses_data, da_i, da_chV, da_ruV, da_prV, da_enV, da_cfV, da_veV, da_inV, da_edV, da_grV, da_weV, da_mbV, da_suV, da_viV]))
  rintro ⟨i, j⟩ ⟨h0, h1, h2⟩ ih
  dsimp only at h0 h1 h2
  repeat' (first | refine yw ?_ | ((with_reducible refine Runs.is ?_); first | refine Runs.region (id := 3) ?_ | refine Runs.region (id := 4) ?_ | refine Runs.drawn (id := 5) mixed zK ?_ | refine Runs.region (id := 6) ?_ | refine Runs.region (id := 7) ?_ | refine Runs.drawn (id := 8) mixed zK ?_ | ((with_reducible refine Runs.isC ?_); refine Runs.cond rfl (zc ?_) (zc ?_) <;> intro hc <;> (try (first | contradiction | (exfalso; omega; done) | (have : hc = trivial := rfl; clear this; clear hc))))) | ((with_reducible refine r_is ?_); first | refine yr ?_) | ((with_reducible refine d_is ?_); first | refine yd ?_ | (refine d_fn rfl (hg _) (hb) zL2 zD ?_; refine d_nn zN zH ?_) | ((with_reducible refine d_gd ?_); (first | refine d_guardPt rfl rfl ?_ ?_ | refine d_guardNt rfl rfl ?_ ?_ | refine d_guard rfl rfl ?_ ?_) <;> intro hG <;> (try (exfalso; omega; done)) <;> refine d_nn zN zH ?_)) | fail)
  · have e : (((i : Int) + (j : Int)) / 2).toNat = (i + j) / 2 := by omega
    rw [e] at hc
    refine ih ((i + j) / 2 + 1, j) _ ⟨by dsimp only; omega, h1, ?_⟩ (by dsimp only; omega) (by (refine St.Le.clean zR (by simp [V.usesL, V.uses, AM.look_cons, AM.look_nil, V.uses_data, da_i, da_chV, da_ruV, da_prV, da_enV, da_cfV, da_veV, da_inV, da_edV, da_grV, da_weV, da_mbV, da_suV, da_viV]) (by simp [AM.sub, AM.look_cons, AM.look_nil, V.uses, V.usesL, V.uses_data, da_i, da_chV, da_ruV, da_prV, da_enV, da_cfV, da_veV, da_inV, da_edV, da_grV, da_weV, da_mbV, da_suV, da_viV])))
    rw [← h2, bs.eq_1 _ i j]; simp_all
  · have e : (((i : Int) + (j : Int)) / 2).toNat = (i + j) / 2 := by omega
    rw [e] at hc
    refine ih (i, (i + j) / 2) _ ⟨by dsimp only; omega, by dsimp only; omega, ?_⟩ (by dsimp only; omega) (by (refine St.Le.clean zR (by simp [V.usesL, V.uses, AM.look_cons, AM.look_nil, V.uses_data, da_i, da_chV, da_ruV, da_prV, da_enV, da_cfV, da_veV, da_inV, da_edV, da_grV, da_weV, da_mbV, da_suV, da_viV]) (by simp [AM.sub, AM.look_cons, AM.look_nil, V.uses, V.usesL, V.uses_data, da_i, da_chV, da_ruV, da_prV, da_enV, da_cfV, da_veV, da_inV, da_edV, da_grV, da_weV, da_mbV, da_suV, da_viV])))
    rw [← h2, bs.eq_1 _ i j, dif_pos (by assumption), if_neg zo]
  all_goals (have e : bs (fun i => k (c.getD i default)) i j = i := by rw [bs.eq_1, dif_neg zo])
  all_goals (rw [e] at h2; (refine Runs.ret2 Tryz.func209 rfl zM zM zD ?_; try exact zX); refine V.Le.of_eq ?_; rw [← h2])
  · have hG' : i < c.length := by omega
    simp [hG']
  · have hG' : ¬ i < c.length := by omega
    simp [hG']
def hasB (c : Config) (p : Proposal) : Bool :=
  let r := bs (fun i => cmpP (c.getD i default) p) 0 c.length
  decide (r < c.length ∧ cmpP (c.getD r default) p = 0)
theorem config_has (f : Bool) (c : Config) (p : Proposal) : AM.Fn Tryz.prog 165 [.sl f (c.map prV), prV p] (.b (hasB c p)) := by
  (refine spec_of_runs Tryz.func165 rfl ?_; simp only [Tryz.f165]; refine ys ?_)
  repeat' (first | refine yw ?_ | ((with_reducible refine Runs.is ?_); first | refine Runs.region ?_ | ((with_reducible refine Runs.isC ?_); refine Runs.cond rfl (zc ?_) (zc ?_) <;> intro hc <;> (try (first | contradiction | (exfalso; omega; done) | (have : hc = trivial := rfl; clear this; clear hc))))) | ((with_reducible refine r_is ?_); first | refine yr ?_ | (refine r_fn rfl (bsf_config f c p _ (fun x => cmpP x p) (fun x => proposal_Compare x p) hb151) HbF.h zL3 zD ?_; refine r_nn zN zH ?_)) | fail)
  (refine Runs.ret1 Tryz.func165 rfl zM zD ?_; try exact zX)
def containsB (a b : Config) : Bool := b.all (hasB a)
theorem config_Contains (f g : Bool) (a b : Config) : AM.Fn Tryz.prog 99 [.sl f (a.map prV), .sl g (b.map prV)] (.b (containsB a b)) := by
  (refine spec_of_runs Tryz.func99 rfl ?_; simp only [Tryz.f99]; refine ys ?_)
  (refine Runs.lens 1 ?_; refine yl ?_)
  intro hl
  repeat' (first | refine yw ?_ | ((with_reducible refine Runs.is ?_); first | refine Runs.region (id := 0) ?_ | refine Runs.region (id := 1) ?_ | ((with_reducible refine Runs.isC ?_); refine Runs.cond rfl (zc ?_) (zc ?_) <;> intro hc <;> (try (first | contradiction | (exfalso; omega; done) | (have : hc = trivial := rfl; clear this; clear hc))))) | ((with_reducible refine r_is ?_); first | refine yr ?_) | fail)
  refine Runs.loopI (fun i : Nat => b.length - i) (fun i => i ≤ b.length ∧ ∀ k, k < i → hasB a (b.getD k default) = true)
    (fun i => ⟨[.sl f (a.map prV), .any, .any, .any, .any, .any, .any, .sl g (b.map prV), .i (b.length : Nat), .i (i : Nat), .any, .any, .any, .any, .any, .any, .any, .any], []⟩) 0 (by simp) ?_ ?_
  · (refine St.Le.clean zR (by simp [V.usesL, V.uses, AM.look_cons, AM.look_nil, V.uses_data, da_i, da_chV, da_ruV, da_prV, da_enV, da_cfV, da_veV, da_inV, da_edV, da_grV, da_weV, da_mbV, da_suV, da_viV]) (by simp [AM.sub, AM.look_cons, AM.look_nil, V.uses, V.usesL, V.uses_data, da_i, da_chV, da_ruV, da_prV, da_enV, da_cfV, da_veV, da_inV, da_edV, da_grV, da_weV, da_mbV, da_suV, da_viV]))
  rintro i ⟨h0, h1⟩ ih
  repeat' (first | refine yw ?_ | ((with_reducible refine Runs.is ?_); first | refine Runs.region (id := 2) ?_ | refine Runs.region (id := 3) ?_ | refine Runs.region (id := 4) ?_ | refine Runs.region (id := 5) ?_ | refine Runs.region (id := 6) ?_ | refine Runs.region (id := 7) ?_ | ((with_reducible refine Runs.isC ?_); refine Runs.cond rfl (zc ?_) (zc ?_) <;> intro hc <;> (try (first | contradiction | (exfalso; omega; done) | (have : hc = trivial := rfl; clear this; clear hc))))) | ((with_reducible refine r_is ?_); first | refine yr ?_ | (refine r_fn rfl (config_has f a _) HbF.h zL2 zD ?_; refine r_nn zN zH ?_)) | fail)
  · (refine Runs.ret1 Tryz.func99 rfl zM zD ?_; try exact zX)
    refine V.Le.of_eq (congrArg V.b ?_)
    symm; unfold containsB; rw [List.all_eq_false]
    exact ⟨b.getD i default, by simp [List.getD_eq_getElem?_getD, *], by simpa using hc⟩
  · refine ih (i + 1) _ ⟨by omega, ?_⟩ zo (by (refine St.Le.clean zR (by simp [V.usesL, V.uses, AM.look_cons, AM.look_nil, V.uses_data, da_i, da_chV, da_ruV, da_prV, da_enV, da_cfV, da_veV, da_inV, da_edV, da_grV, da_weV, da_mbV, da_suV, da_viV]) (by simp [AM.sub, AM.look_cons, AM.look_nil, V.uses, V.usesL, V.uses_data, da_i, da_chV, da_ruV, da_prV, da_enV, da_cfV, da_veV, da_inV, da_edV, da_grV, da_weV, da_mbV, da_suV, da_viV])))
    intro k hk
    by_cases e : k < i
    · exact h1 k e
    · have : k = i := by omega
      subst this; simpa using hc
  · (refine Runs.ret1 Tryz.func99 rfl zM zD ?_; try exact zX)
    refine V.Le.of_eq (congrArg V.b ?_)
    symm; unfold containsB; rw [List.all_eq_true]
    intro x hx
    obtain ⟨k, hk, rfl⟩ := List.mem_iff_getElem.1 hx
    have := h1 k zo
    simpa [List.getD_eq_getElem?_getD, hk] using this
end Go.Proofs
namespace Go.Proofs
open Go.AM
attribute [local irreducible] AM.evalR AM.evalD AM.Runs AM.valK AM.dK AM.opK AM.stepR AM.CallS AM.St.Le
def indexI (n k : Int) : Int := if k < 1 then 0 else n % k
theorem tmod_add (n k : Int) (hk : 1 ≤ k) : (n.tmod k + k) % k = n % k := by
  rw [Int.add_emod_right, Int.tmod_eq_emod]
  split
  · simp
  · rw [show (k.natAbs : Int) = k by omega]; simp
theorem kit_Index (n k : Int) (hk : k ≤ 4611686018427387904) : AM.Fn Tryz.prog 45 [.i n, .i k] (.i (indexI n k)) := by
  (refine spec_of_runs Tryz.func45 rfl ?_; simp only [Tryz.f45]; refine ys ?_)
  repeat' (first | refine yw ?_ | ((with_reducible refine Runs.is ?_); first | refine Runs.region (id := 0) ?_ | refine Runs.region (id := 1) ?_ | refine Runs.region (id := 2) ?_ | ((with_reducible refine Runs.isC ?_); refine Runs.cond rfl (zc ?_) (zc ?_) <;> intro hc <;> (try (first | contradiction | (exfalso; omega; done) | (have : hc = trivial := rfl; clear this; clear hc))))) | ((with_reducible refine r_is ?_); first | refine yr ?_) | fail)
  · (refine Runs.ret1 Tryz.func45 rfl zM zD ?_; try exact zX)
    simp [indexI, *]
    exact V.Le.refl _
  · have h1 : -k < n.tmod k := by have := Int.lt_tmod_of_pos n (b := k) zo; omega
    have h2 : n.tmod k < k := Int.tmod_lt_of_pos n zo
    refine Runs.region ?_
    (refine r_v rfl (v_move ?_); all_goals (refine r_n zN ?_); refine r_v rfl (v_move ?_); all_goals (refine r_n zN ?_))
    refine r_v rfl (v_rem rfl rfl zo ?_)
    (refine r_v rfl (v_move ?_); all_goals (refine r_n zN ?_); (first | refine r_v rfl (v_add64 rfl rfl zo ?_) | refine r_v rfl (v_add rfl rfl ?_)); all_goals (refine r_n zN ?_); refine r_v rfl (v_move ?_); all_goals (refine r_n zN ?_); (first | refine r_v rfl (v_rem64 rfl rfl zo ?_) | refine r_v rfl (v_rem rfl rfl zo ?_)); all_goals (refine r_n zN ?_); refine r_v rfl (v_assign ?_); all_goals (refine r_n zN ?_); refine r_end ?_)
    (refine Runs.ret1 Tryz.func45 rfl zM zD ?_; try exact zX)
    refine V.Le.of_eq (congrArg V.i ?_)
    rw [indexI, if_neg zo, tmod_add n k zo]
def digitI (n b i : Int) : Int := indexI n 1099511627776 / b ^ i.toNat % b
theorem kit_Digit (n b i : Int) (hb : 2 ≤ b) (hi : i ≤ 9223372036854775806) : AM.Fn Tryz.prog 33 [.i n, .i b, .i i] (.i (digitI n b i)) := by
  have hx : 0 ≤ indexI n 1099511627776 ∧ indexI n 1099511627776 < 1099511627776 := by unfold indexI; rw [if_neg zd]; omega
  (refine spec_of_runs Tryz.func33 rfl ?_; simp only [Tryz.f33]; refine ys ?_)
  repeat' (first | refine yw ?_ | ((with_reducible refine Runs.is ?_); first | refine Runs.region (id := 0) ?_ | refine Runs.region (id := 1) ?_ | refine Runs.region (id := 2) ?_ | ((with_reducible refine Runs.isC ?_); refine Runs.cond rfl (zc ?_) (zc ?_) <;> intro hc <;> (try (first | contradiction | (exfalso; omega; done) | (have : hc = trivial := rfl; clear this; clear hc))))) | ((with_reducible refine r_is ?_); first | refine yr ?_ | (refine r_fn rfl (kit_Index n 1099511627776 zd) HbF.h zL2 zD ?_; refine r_nn zN zH ?_)) | fail)
  refine Runs.loopI (fun k : Nat => i.toNat - k) (fun k => k ≤ i.toNat ∧ 0 ≤ indexI n 1099511627776 / b ^ k ∧ indexI n 1099511627776 / b ^ k < 1099511627776)
    (fun k => ⟨[.any, .i b, .i i, .any, .any, .any, .any, .i (indexI n 1099511627776 / b ^ k), .i (k : Nat), .any, .any, .any, .any, .any, .any, .any, .any, .any, .any, .any, .any, .any], []⟩) 0 (by simpa using hx) ?_ ?_
  · simp only [Int.pow_zero, Int.ediv_one]; (refine St.Le.clean zR (by simp [V.usesL, V.uses, AM.look_cons, AM.look_nil, V.uses_data, da_i, da_chV, da_ruV, da_prV, da_enV, da_cfV, da_veV, da_inV, da_edV, da_grV, da_weV, da_mbV, da_suV, da_viV]) (by simp [AM.sub, AM.look_cons, AM.look_nil, V.uses, V.usesL, V.uses_data, da_i, da_chV, da_ruV, da_prV, da_enV, da_cfV, da_veV, da_inV, da_edV, da_grV, da_weV, da_mbV, da_suV, da_viV]))
  rintro k ⟨h0, h1, h2⟩ ih
  repeat' (first | refine yw ?_ | ((with_reducible refine Runs.is ?_); first | refine Runs.region (id := 3) ?_ | refine Runs.region (id := 5) ?_ | refine Runs.region (id := 4) ?_ | refine Runs.region (id := 6) ?_ | ((with_reducible refine Runs.isC ?_); refine Runs.cond rfl (zc ?_) (zc ?_) <;> intro hc <;> (try (first | contradiction | (exfalso; omega; done) | (have : hc = trivial := rfl; clear this; clear hc))))) | ((with_reducible refine r_is ?_); first | refine yr ?_) | fail)
  · have e : indexI n 1099511627776 / b ^ k / b = indexI n 1099511627776 / b ^ (k + 1) := by rw [Int.ediv_ediv_of_nonneg (Int.pow_nonneg zo), Int.pow_succ]
    rw [e]
    refine ih (k + 1) _ ⟨by omega, ?_, ?_⟩ zo (by (refine St.Le.clean zR (by simp [V.usesL, V.uses, AM.look_cons, AM.look_nil, V.uses_data, da_i, da_chV, da_ruV, da_prV, da_enV, da_cfV, da_veV, da_inV, da_edV, da_grV, da_weV, da_mbV, da_suV, da_viV]) (by simp [AM.sub, AM.look_cons, AM.look_nil, V.uses, V.usesL, V.uses_data, da_i, da_chV, da_ruV, da_prV, da_enV, da_cfV, da_veV, da_inV, da_edV, da_grV, da_weV, da_mbV, da_suV, da_viV])))
    · rw [← e]; exact Int.ediv_nonneg h1 zo
    · rw [← e]; exact Int.lt_of_le_of_lt (Int.ediv_le_self _ h1) h2
  · (refine Runs.ret1 Tryz.func33 rfl zM zD ?_; try exact zX)
    refine V.Le.of_eq (congrArg V.i ?_)
    have : k = i.toNat := by omega
    rw [digitI, this]
def atI (l : List Int) (i : Int) : Int := if l = [] then 0 else l.getD (indexI i l.length).toNat 0
theorem kit_At (f : Bool) (l : List Int) (i : Int) (hl : l.length ≤ 4611686018427387904) : AM.Fn Tryz.prog 72 [.sl f (l.map .i), .i i] (.i (atI l i)) := by
  (refine spec_of_runs Tryz.func72 rfl ?_; simp only [Tryz.f72]; refine ys ?_)
  repeat' (first | refine yw ?_ | ((with_reducible refine Runs.is ?_); first | refine Runs.region (id := 0) ?_ | refine Runs.region (id := 1) ?_ | refine Runs.region (id := 2) ?_ | ((with_reducible refine Runs.isC ?_); refine Runs.cond rfl (zc ?_) (zc ?_) <;> intro hc <;> (try (first | contradiction | (exfalso; omega; done) | (have : hc = trivial := rfl; clear this; clear hc))))) | ((with_reducible refine r_is ?_); first | refine yr ?_) | fail)
  · (refine Runs.ret1 Tryz.func72 rfl zM zD ?_; try exact zX)
    have : l = [] := List.eq_nil_of_length_eq_zero zo
    subst this; exact V.Le.refl _
  · have hne : l ≠ [] := by rintro rfl; simp at hc
    have hb : 0 ≤ indexI i l.length ∧ indexI i l.length < l.length := by
      unfold indexI; rw [if_neg zo]
      exact ⟨Int.emod_nonneg _ zo, Int.emod_lt_of_pos _ zo⟩
    repeat' (first | refine yw ?_ | ((with_reducible refine Runs.is ?_); first | refine Runs.region (id := 3) ?_ | ((with_reducible refine Runs.isC ?_); refine Runs.cond rfl (zc ?_) (zc ?_) <;> intro hc <;> (try (first | contradiction | (exfalso; omega; done) | (have : hc = trivial := rfl; clear this; clear hc))))) | ((with_reducible refine r_is ?_); first | refine yr ?_ | (refine r_fn rfl (kit_Index i l.length zo) HbF.h zL2 zD ?_; refine r_nn zN zH ?_)) | fail)
    (refine Runs.ret1 Tryz.func72 rfl zM zD ?_; try exact zX)
    rw [atI, if_neg hne]; exact V.Le.refl _
theorem cmpP_neg {p q : Proposal} : cmpP p q = -1 ↔ (p.admin < q.admin ∨ p.admin = q.admin ∧ p.number < q.number) := by
  unfold cmpP orI orI orI cmpI; split <;> (repeat' split) <;> (repeat' split at *) <;> omega
theorem cmpP_zero {p q : Proposal} : cmpP p q = 0 ↔ (p.admin = q.admin ∧ p.number = q.number) := by
  unfold cmpP orI orI orI cmpI; split <;> (repeat' split) <;> (repeat' split at *) <;> omega
theorem cmpP_pos {p q : Proposal} : cmpP p q = 1 ↔ (q.admin < p.admin ∨ p.admin = q.admin ∧ q.number < p.number) := by
  unfold cmpP orI orI orI cmpI; split <;> (repeat' split) <;> (repeat' split at *) <;> omega
theorem ref_Compare (p q : Proposal) : AM.Fn Tryz.prog 98 [prV p, prV q] (.i (cmpP p q)) := by
  (refine spec_of_runs Tryz.func98 rfl ?_; simp only [Tryz.f98]; refine ys ?_)
  repeat' (first | refine yw ?_ | ((with_reducible refine Runs.is ?_); first | refine Runs.region ?_ | ((with_reducible refine Runs.isC ?_); refine Runs.cond rfl (zc ?_) (zc ?_) <;> intro hc <;> (try (first | contradiction | (exfalso; omega; done) | (have : hc = trivial := rfl; clear this; clear hc))))) | ((with_reducible refine r_is ?_); first | refine yr ?_ | ((with_reducible refine r_gd ?_); (first | refine r_guardPf rfl rfl ?_ ?_ | refine r_guardNf rfl rfl ?_ ?_ | refine r_guardPt rfl rfl ?_ ?_ | refine r_guardNt rfl rfl ?_ ?_ | refine r_guard rfl rfl ?_ ?_) <;> intro hG <;> (try (exfalso; omega; done)) <;> refine r_nn zN zH ?_)) | fail)
  all_goals ((refine Runs.ret1 Tryz.func98 rfl zM zD ?_; try exact zX); refine V.Le.of_eq (congrArg V.i ?_); symm)
  all_goals first | exact cmpP_neg.2 zo | exact cmpP_zero.2 zo | exact cmpP_pos.2 zo
def hasR (c : Config) (p : Proposal) : Bool := c.any fun x => decide (cmpP x p = 0)
theorem any_drop {α : Type} [Inhabited α] {f : α → Bool} {xs : List α} {i : Nat} (h : i < xs.length) : (xs.drop i).any f = (f (xs.getD i default) || (xs.drop (i + 1)).any f) := by
  rw [drop_getD h, List.any_cons]
theorem all_drop {α : Type} [Inhabited α] {f : α → Bool} {xs : List α} {i : Nat} (h : i < xs.length) : (xs.drop i).all f = (f (xs.getD i default) && (xs.drop (i + 1)).all f) := by
  rw [drop_getD h, List.all_cons]
theorem ref_has (f : Bool) (c : Config) (p : Proposal) : AM.Fn Tryz.prog 136 [.sl f (c.map prV), prV p] (.b (hasR c p)) := by
  (refine spec_of_runs Tryz.func136 rfl ?_; simp only [Tryz.f136]; refine ys ?_)
  (refine Runs.lens 0 ?_; refine yl ?_)
  intro hl
  repeat' (first | refine yw ?_ | ((with_reducible refine Runs.is ?_); first | refine Runs.region (id := 0) ?_ | refine Runs.region (id := 1) ?_ | ((with_reducible refine Runs.isC ?_); refine Runs.cond rfl (zc ?_) (zc ?_) <;> intro hc <;> (try (first | contradiction | (exfalso; omega; done) | (have : hc = trivial := rfl; clear this; clear hc))))) | ((with_reducible refine r_is ?_); first | refine yr ?_) | fail)
  refine Runs.loopI (fun i : Nat => c.length - i) (fun i => i ≤ c.length ∧ hasR (c.drop i) p = hasR c p)
    (fun i => ⟨[.sl f (c.map prV), .any, .any, .ptr 3 0 0, .any, .i (i : Nat), .any, .any, .any, .any, .any, .any, .any, .any, .any, .any, .any, .any, .any], [(3, .var 129 (prV p))]⟩) 0 (by simp) ?_ ?_
  · (refine St.Le.clean zR (by simp [V.usesL, V.uses, AM.look_cons, AM.look_nil, V.uses_data, da_i, da_chV, da_ruV, da_prV, da_enV, da_cfV, da_veV, da_inV, da_edV, da_grV, da_weV, da_mbV, da_suV, da_viV]) (by simp [AM.sub, AM.look_cons, AM.look_nil, V.uses, V.usesL, V.uses_data, da_i, da_chV, da_ruV, da_prV, da_enV, da_cfV, da_veV, da_inV, da_edV, da_grV, da_weV, da_mbV, da_suV, da_viV]))
  rintro i ⟨h0, h1⟩ ih
  repeat' (first | refine yw ?_ | ((with_reducible refine Runs.is ?_); first | refine Runs.region (id := 2) ?_ | refine Runs.drawn (id := 4) mixed zK ?_ | refine Runs.region (id := 5) ?_ | refine Runs.region (id := 3) ?_ | refine Runs.region (id := 6) ?_ | ((with_reducible refine Runs.isC ?_); refine Runs.cond rfl (zc ?_) (zc ?_) <;> intro hc <;> (try (first | contradiction | (exfalso; omega; done) | (have : hc = trivial := rfl; clear this; clear hc))))) | ((with_reducible refine r_is ?_); first | refine yr ?_) | ((with_reducible refine d_is ?_); first | refine yd ?_ | (refine d_fn rfl (ref_Compare _ _) HbF.h zL2 zD ?_; refine d_nn zN zH ?_)) | fail)
  · (refine Runs.ret1 Tryz.func136 rfl zM zD ?_; try exact zX)
    rw [← h1, hasR, any_drop zo, decide_eq_true (by assumption)]; exact V.Le.refl _
  · refine ih (i + 1) _ ⟨by omega, ?_⟩ zo (by (refine St.Le.clean zR (by simp [V.usesL, V.uses, AM.look_cons, AM.look_nil, V.uses_data, da_i, da_chV, da_ruV, da_prV, da_enV, da_cfV, da_veV, da_inV, da_edV, da_grV, da_weV, da_mbV, da_suV, da_viV]) (by simp [AM.sub, AM.look_cons, AM.look_nil, V.uses, V.usesL, V.uses_data, da_i, da_chV, da_ruV, da_prV, da_enV, da_cfV, da_veV, da_inV, da_edV, da_grV, da_weV, da_mbV, da_suV, da_viV])))
    rw [← h1, hasR, hasR, any_drop (i := i) zo, decide_eq_false (by assumption), Bool.false_or]
  · (refine Runs.ret1 Tryz.func136 rfl zM zD ?_; try exact zX)
    rw [← h1, List.drop_eq_nil_of_le zo]; exact V.Le.refl _
def containsR (a b : Config) : Bool := b.all (hasR a)
theorem ref_Contains (f g : Bool) (a b : Config) : AM.Fn Tryz.prog 69 [.sl f (a.map prV), .sl g (b.map prV)] (.b (containsR a b)) := by
  (refine spec_of_runs Tryz.func69 rfl ?_; simp only [Tryz.f69]; refine ys ?_)
  (refine Runs.lens 1 ?_; refine yl ?_)
  intro hl
  repeat' (first | refine yw ?_ | ((with_reducible refine Runs.is ?_); first | refine Runs.region (id := 0) ?_ | refine Runs.region (id := 1) ?_ | ((with_reducible refine Runs.isC ?_); refine Runs.cond rfl (zc ?_) (zc ?_) <;> intro hc <;> (try (first | contradiction | (exfalso; omega; done) | (have : hc = trivial := rfl; clear this; clear hc))))) | ((with_reducible refine r_is ?_); first | refine yr ?_) | fail)
  refine Runs.loopI (fun i : Nat => b.length - i) (fun i => i ≤ b.length ∧ containsR a (b.drop i) = containsR a b)
    (fun i => ⟨[.sl f (a.map prV), .sl g (b.map prV), .any, .any, .any, .i (i : Nat), .any, .any, .any, .any, .any, .any, .any, .any, .any, .any, .any, .any, .any], []⟩) 0 (by simp) ?_ ?_
  · (refine St.Le.clean zR (by simp [V.usesL, V.uses, AM.look_cons, AM.look_nil, V.uses_data, da_i, da_chV, da_ruV, da_prV, da_enV, da_cfV, da_veV, da_inV, da_edV, da_grV, da_weV, da_mbV, da_suV, da_viV]) (by simp [AM.sub, AM.look_cons, AM.look_nil, V.uses, V.usesL, V.uses_data, da_i, da_chV, da_ruV, da_prV, da_enV, da_cfV, da_veV, da_inV, da_edV, da_grV, da_weV, da_mbV, da_suV, da_viV]))
  rintro i ⟨h0, h1⟩ ih
  repeat' (first | refine yw ?_ | ((with_reducible refine Runs.is ?_); first | refine Runs.region (id := 2) ?_ | refine Runs.region (id := 4) ?_ | refine Runs.region (id := 5) ?_ | refine Runs.region (id := 3) ?_ | refine Runs.region (id := 6) ?_ | ((with_reducible refine Runs.isC ?_); refine Runs.cond rfl (zc ?_) (zc ?_) <;> intro hc <;> (try (first | contradiction | (exfalso; omega; done) | (have : hc = trivial := rfl; clear this; clear hc))))) | ((with_reducible refine r_is ?_); first | refine yr ?_ | (refine r_fn rfl (ref_has f a _) HbF.h zL2 zD ?_; refine r_nn zN zH ?_)) | fail)
  · (refine Runs.ret1 Tryz.func69 rfl zM zD ?_; try exact zX)
    rw [← h1, containsR, all_drop zo, hc]; exact V.Le.refl _
  · refine ih (i + 1) _ ⟨by omega, ?_⟩ zo (by (refine St.Le.clean zR (by simp [V.usesL, V.uses, AM.look_cons, AM.look_nil, V.uses_data, da_i, da_chV, da_ruV, da_prV, da_enV, da_cfV, da_veV, da_inV, da_edV, da_grV, da_weV, da_mbV, da_suV, da_viV]) (by simp [AM.sub, AM.look_cons, AM.look_nil, V.uses, V.usesL, V.uses_data, da_i, da_chV, da_ruV, da_prV, da_enV, da_cfV, da_veV, da_inV, da_edV, da_grV, da_weV, da_mbV, da_suV, da_viV])))
    rw [← h1, containsR, containsR, all_drop (i := i) zo, hc, Bool.true_and]
  · (refine Runs.ret1 Tryz.func69 rfl zM zD ?_; try exact zX)
    rw [← h1, List.drop_eq_nil_of_le zo]; exact V.Le.refl _
def countR : Vector → Int → Int
  | [], _ => 0
  | e :: v, a => if e.author = a then e.count else countR v a
theorem ref_Count (f : Bool) (v : Vector) (a : Int) : AM.Fn Tryz.prog 111 [.sl f (v.map enV), .i a] (.i (countR v a)) := by
  (refine spec_of_runs Tryz.func111 rfl ?_; simp only [Tryz.f111]; refine ys ?_)
  (refine Runs.lens 0 ?_; refine yl ?_)
  intro hl
  repeat' (first | refine yw ?_ | ((with_reducible refine Runs.is ?_); first | refine Runs.region (id := 0) ?_ | refine Runs.region (id := 1) ?_ | ((with_reducible refine Runs.isC ?_); refine Runs.cond rfl (zc ?_) (zc ?_) <;> intro hc <;> (try (first | contradiction | (exfalso; omega; done) | (have : hc = trivial := rfl; clear this; clear hc))))) | ((with_reducible refine r_is ?_); first | refine yr ?_) | fail)
  refine Runs.loopI (fun i : Nat => v.length - i) (fun i => i ≤ v.length ∧ countR (v.drop i) a = countR v a)
    (fun i => ⟨[.sl f (v.map enV), .i a, .any, .any, .any, .i (i : Nat), .any, .any, .any, .any, .any, .any, .any, .any, .any, .any, .any, .any, .any, .any, .any, .any, .any, .any], []⟩) 0 (by simp) ?_ ?_
  · (refine St.Le.clean zR (by simp [V.usesL, V.uses, AM.look_cons, AM.look_nil, V.uses_data, da_i, da_chV, da_ruV, da_prV, da_enV, da_cfV, da_veV, da_inV, da_edV, da_grV, da_weV, da_mbV, da_suV, da_viV]) (by simp [AM.sub, AM.look_cons, AM.look_nil, V.uses, V.usesL, V.uses_data, da_i, da_chV, da_ruV, da_prV, da_enV, da_cfV, da_veV, da_inV, da_edV, da_grV, da_weV, da_mbV, da_suV, da_viV]))
  rintro i ⟨h0, h1⟩ ih
  repeat' (first | refine yw ?_ | ((with_reducible refine Runs.is ?_); first | refine Runs.region (id := 2) ?_ | refine Runs.region (id := 4) ?_ | refine Runs.region (id := 5) ?_ | refine Runs.region (id := 3) ?_ | refine Runs.region (id := 6) ?_ | ((with_reducible refine Runs.isC ?_); refine Runs.cond rfl (zc ?_) (zc ?_) <;> intro hc <;> (try (first | contradiction | (exfalso; omega; done) | (have : hc = trivial := rfl; clear this; clear hc))))) | ((with_reducible refine r_is ?_); first | refine yr ?_) | fail)
  · (refine Runs.ret1 Tryz.func111 rfl zM zD ?_; try exact zX)
    rw [← h1, drop_getD zo, countR, if_pos (by assumption)]; exact V.Le.refl _
  · refine ih (i + 1) _ ⟨by omega, ?_⟩ zo (by (refine St.Le.clean zR (by simp [V.usesL, V.uses, AM.look_cons, AM.look_nil, V.uses_data, da_i, da_chV, da_ruV, da_prV, da_enV, da_cfV, da_veV, da_inV, da_edV, da_grV, da_weV, da_mbV, da_suV, da_viV]) (by simp [AM.sub, AM.look_cons, AM.look_nil, V.uses, V.usesL, V.uses_data, da_i, da_chV, da_ruV, da_prV, da_enV, da_cfV, da_veV, da_inV, da_edV, da_grV, da_weV, da_mbV, da_suV, da_viV])))
    rw [← h1, drop_getD (i := i) zo, countR, if_neg (by assumption)]
  · (refine Runs.ret1 Tryz.func111 rfl zM zD ?_; try exact zX)
    rw [← h1, List.drop_eq_nil_of_le zo]; exact V.Le.refl _
end Go.Proofs
namespace Go.Proofs
open Go.AM
attribute [local irreducible] AM.evalR AM.evalD AM.Runs AM.valK AM.dK AM.opK AM.stepR AM.CallS AM.St.Le
theorem clone_change (f : Bool) (l : List Change) (hl : l.length ≤ 1000000000000) : AM.Fn Tryz.prog 206 [.sl f (l.map chV)] (.sl false (l.map chV)) := by
  (refine spec_of_runs Tryz.func206 rfl ?_; simp only [Tryz.f206]; refine ys ?_)
  repeat' (first | refine yw ?_ | ((with_reducible refine Runs.is ?_); first | refine Runs.region ?_ | ((with_reducible refine Runs.isC ?_); refine Runs.cond rfl (zc ?_) (zc ?_) <;> intro hc <;> (try (first | contradiction | (exfalso; omega; done) | (have : hc = trivial := rfl; clear this; clear hc))))) | ((with_reducible refine r_is ?_); first | refine yr ?_ | (refine r_isNil rfl rfl SlF.s (fun hn => ?_) (fun hn b => ?_) <;> refine r_n zN ?_) | (refine r_append_full SlF.h SlF.s ZoF.h zd rfl rfl zC zJ zS rfl (fun hn => ?_) (fun hn => ?_) <;> refine r_nn zN zH ?_)) | fail)
  · contradiction
  · exact Runs.ret_frz Tryz.func206 rfl rfl rfl rfl
  · (refine Runs.ret1 Tryz.func206 rfl zM zD ?_; try exact zX)
    rw [hn]; exact V.Le.nil _
  · (refine Runs.ret1 Tryz.func206 rfl zM zD ?_; try exact zX)
    rw [hn]; exact V.Le.full _
  · contradiction
theorem config_clone (p : Proposal) (hl : p.changes.length ≤ 1000000000000) : AM.Fn Tryz.prog 153 [prV p] (prV p) := by
  (refine spec_of_runs Tryz.func153 rfl ?_; simp only [Tryz.f153]; refine ys ?_)
  repeat' (first | refine yw ?_ | ((with_reducible refine Runs.is ?_); first | refine Runs.region ?_ | ((with_reducible refine Runs.isC ?_); refine Runs.cond rfl (zc ?_) (zc ?_) <;> intro hc <;> (try (first | contradiction | (exfalso; omega; done) | (have : hc = trivial := rfl; clear this; clear hc))))) | ((with_reducible refine r_is ?_); first | refine yr ?_ | (refine r_fn rfl (clone_change false _ hl) HbF.h zL1 zD ?_; refine r_nn zN zH ?_)) | fail)
  (refine Runs.retC Tryz.func153 rfl zM rfl TyF.h (And.intro zE zd) zD ?_; try exact zX)
theorem filter_take {α : Type} [Inhabited α] {k : α → Bool} {xs : List α} {i : Nat} (h : i < xs.length) : (xs.take (i + 1)).filter k = (xs.take i).filter k ++ if k (xs.getD i default) then [xs.getD i default] else [] := by
  rw [take_getD h, List.filter_append]
  congr 1
  generalize xs.getD i default = x
  cases hk : k x <;> simp [hk]
def Small (c : Config) : Prop := c.length ≤ 1000000000 ∧ ∀ p ∈ c, p.changes.length ≤ 1000000000000
theorem Small.getD {c : Config} (h : Small c) (i : Nat) : (c.getD i default).changes.length ≤ 1000000000000 := by
  by_cases hi : i < c.length
  · rw [List.getD_eq_getElem?_getD, List.getElem?_eq_getElem hi]; exact h.2 _ (List.getElem_mem hi)
  · rw [List.getD_eq_getElem?_getD, List.getElem?_eq_none zo]; exact Nat.zero_le _
theorem config_filter (f : Bool) (c : Config) (g : FuncId) (caps : List V) (k : Proposal → Bool) (hsm : Small c) (hg : ∀ p, AM.Fn Tryz.prog g (prV p :: caps) (.b (k p))) (hb : hasBody Tryz.prog g) (hd : V.dataL caps = true) :
    AM.Spec Tryz.prog 149 [.sl f (c.map prV), .fn g caps] [] (OwnPost 129 3 fun l => l = (c.filter k).map prV) := by
  (refine spec_of_runs Tryz.func149 rfl ?_; simp only [Tryz.f149]; refine ys ?_)
  (refine Runs.lens 0 ?_; refine yl ?_)
  intro hl
  repeat' (first | refine yw ?_ | ((with_reducible refine Runs.is ?_); first | refine Runs.region (id := 0) ?_ | refine Runs.region (id := 1) ?_ | refine Runs.region (id := 2) ?_ | ((with_reducible refine Runs.isC ?_); refine Runs.cond rfl (zc ?_) (zc ?_) <;> intro hc <;> (try (first | contradiction | (exfalso; omega; done) | (have : hc = trivial := rfl; clear this; clear hc))))) | ((with_reducible refine r_is ?_); first | refine yr ?_) | fail)
  refine Runs.weaken (St.Le.nil 5 129 3 5 zd rfl rfl zE) ?_
  refine Runs.loopI (fun i : Nat => c.length - i) (fun i => i ≤ c.length)
    (fun i => ⟨[.any, .fn g caps, .any, .any, .any, .own 5, .any, .any, .sl f (c.map prV), .i (c.length : Nat), .i (i : Nat), .any, .any, .any, .any, .any, .any, .any, .any, .any, .any, .any, .any, .any], [(5, .lst 129 3 (((c.take i).filter k).map prV))]⟩) 0 (by simp) ?_ ?_
  · refine St.Le.clean zR ?_ ?_
    · simp [V.usesL, V.uses, AM.look_cons, V.usesL_data _ _ hd]
    · exact ⟨⟨rfl, trivial⟩, trivial⟩
  rintro i h0 ih
  have hs1 := hsm.1
  have hfl : ((c.take i).filter k).length ≤ i := Nat.le_trans (List.length_filter_le _ _) (by rw [List.length_take]; omega)
  repeat' (first | refine yw ?_ | ((with_reducible refine Runs.is ?_); first | refine Runs.region (id := 3) ?_ | refine Runs.region (id := 4) ?_ | refine Runs.region (id := 5) ?_ | refine Runs.region (id := 6) ?_ | refine Runs.region (id := 7) ?_ | refine Runs.region (id := 8) ?_ | ((with_reducible refine Runs.isC ?_); refine Runs.cond rfl (zc ?_) (zc ?_) <;> intro hc <;> (try (first | contradiction | (exfalso; omega; done) | (have : hc = trivial := rfl; clear this; clear hc))))) | ((with_reducible refine r_is ?_); first | refine yr ?_ | (refine r_fn rfl (hg _) (hb) zL1 zD ?_; refine r_nn zN zH ?_) | (refine r_fn rfl (config_clone _ (hsm.getD _)) HbF.h zL1 zD ?_; refine r_nn zN zH ?_) | (refine r_append_full SlF.h SlF.s ZoF.h zd rfl rfl zC zJ zS rfl (fun hn => ?_) (fun hn => ?_) <;> refine r_nn zN zH ?_)) | fail)
  · refine ih (i + 1) _ zo zo ?_
    rw [V.killL_data _ _ hd]
    refine St.Le.clean zR ?_ ?_
    · simp [V.usesL, V.uses, AM.look_cons, V.usesL_data _ _ hd]
    · rw [filter_take zo, if_pos hc]
      exact ⟨⟨by simp [AM.look_cons], trivial⟩, trivial⟩
  · refine ih (i + 1) _ zo zo ?_
    refine St.Le.clean zR ?_ ?_
    · simp [V.usesL, V.uses, AM.look_cons, V.usesL_data _ _ hd]
    · rw [filter_take zo, hc]
      exact ⟨⟨by simp [AM.look_cons], trivial⟩, trivial⟩
  · refine Runs.ret_own Tryz.func149 rfl rfl rfl ?_
    rw [List.take_of_length_le zo]
end Go.Proofs
namespace Go.Proofs
open Go.AM
attribute [local irreducible] AM.evalR AM.evalD AM.Runs AM.valK AM.dK AM.opK AM.stepR AM.CallS AM.St.Le
theorem vector_search1 (e : Entry) (a : Int) : AM.Fn Tryz.prog 237 [enV e, .i a] (.i (cmpI e.author a)) := by
  (refine spec_of_runs Tryz.func237 rfl ?_; simp only [Tryz.f237]; refine ys ?_)
  repeat' (first | refine yw ?_ | ((with_reducible refine Runs.is ?_); first | refine Runs.region ?_ | ((with_reducible refine Runs.isC ?_); refine Runs.cond rfl (zc ?_) (zc ?_) <;> intro hc <;> (try (first | contradiction | (exfalso; omega; done) | (have : hc = trivial := rfl; clear this; clear hc))))) | ((with_reducible refine r_is ?_); first | refine yr ?_ | (refine r_fn rfl (cmp_Compare _ _) HbF.h zL2 zD ?_; refine r_nn zN zH ?_)) | fail)
  (refine Runs.ret1 Tryz.func237 rfl zM zD ?_; try exact zX)
theorem bsf_vector (f : Bool) (c : Vector) (p : Int) (g : FuncId) (k : Entry → Int) (hg : ∀ x, AM.Fn Tryz.prog g [enV x, V.i p] (.i (k x))) (hb : hasBody Tryz.prog g) :
    AM.Fn Tryz.prog 236 [.sl f (c.map enV), V.i p, .fn g []]
      (.tup [.i (bs (fun i => k (c.getD i default)) 0 c.length : Nat), .b (decide (bs (fun i => k (c.getD i default)) 0 c.length < c.length ∧ k (c.getD (bs (fun i => k (c.getD i default)) 0 c.length) default) = 0))]) := by
  (refine spec_of_runs Tryz.func236 rfl ?_; simp only [Tryz.f236]; refine ys ?_)
  (refine Runs.lens 0 ?_; refine yl ?_)
  intro hl
  repeat' (first | refine yw ?_ | ((with_reducible refine Runs.is ?_); first | refine Runs.region (id := 0) ?_ | refine Runs.region (id := 1) ?_ | refine Runs.region (id := 2) ?_ | ((with_reducible refine Runs.isC ?_); refine Runs.cond rfl (zc ?_) (zc ?_) <;> intro hc <;> (try (first | contradiction | (exfalso; omega; done) | (have : hc = trivial := rfl; clear this; clear hc))))) | ((with_reducible refine r_is ?_); first | refine yr ?_) | fail)
  refine Runs.loopI (α := Nat × Nat) (fun a => a.2 - a.1) (fun a => a.1 ≤ a.2 ∧ a.2 ≤ c.length ∧ bs (fun i => k (c.getD i default)) a.1 a.2 = bs (fun i => k (c.getD i default)) 0 c.length)
    (fun a => ⟨[.sl f (c.map enV), .i p, .fn g [], .any, .any, .any, .any, .any, .i (c.length : Nat), .i (a.1 : Nat), .i (a.2 : Nat), .any, .any, .any, .any, .any, .any, .any, .any, .any, .any, .any, .any, .any, .any, .any, .any, .any, .any, .any, .any, .any, .any, .any, .any, .any, .any, .any, .any, .any, .any, .any, .any, .any, .any, .any, .any, .any, .any], []⟩) (0, c.length) (by simp) ?_ ?_
  · (refine St.Le.clean zR (by simp [V.usesL, V.uses, AM.look_cons, AM.look_nil, V.uses_data, da_i, da_chV, da_ruV, da_prV, da_enV, da_cfV, da_veV, da_inV, da_edV, da_grV, da_weV, da_mbV, da_suV, da_viV]) (by simp [AM.sub, AM.look_cons, AM.look_nil, V.uses, V.usesL, V.uses_data, da_i, da_chV, da_ruV, da_prV, da_enV, da_cfV, da_veV, da_inV, da_edV, da_grV, da_weV, da_mbV, da_suV, da_viV]))
  rintro ⟨i, j⟩ ⟨h0, h1, h2⟩ ih
  dsimp only at h0 h1 h2
  repeat' (first | refine yw ?_ | ((with_reducible refine Runs.is ?_); first | refine Runs.region (id := 3) ?_ | refine Runs.region (id := 4) ?_ | refine Runs.region (id := 5) ?_ | refine Runs.region (id := 6) ?_ | refine Runs.region (id := 7) ?_ | refine Runs.region (id := 8) ?_ | ((with_reducible refine Runs.isC ?_); refine Runs.cond rfl (zc ?_) (zc ?_) <;> intro hc <;> (try (first | contradiction | (exfalso; omega; done) | (have : hc = trivial := rfl; clear this; clear hc))))) | ((with_reducible refine r_is ?_); first | refine yr ?_ | (refine r_fn rfl (hg _) (hb) zL2 zD ?_; refine r_nn zN zH ?_) | ((with_reducible refine r_gd ?_); (first | refine r_guardPt rfl rfl ?_ ?_ | refine r_guardNt rfl rfl ?_ ?_ | refine r_guard rfl rfl ?_ ?_) <;> intro hG <;> (try (exfalso; omega; done)) <;> refine r_nn zN zH ?_)) | fail)
  · have e : (((i : Int) + (j : Int)) / 2).toNat = (i + j) / 2 := by omega
    rw [e] at hc
    refine ih ((i + j) / 2 + 1, j) _ ⟨by dsimp only; omega, h1, ?_⟩ (by dsimp only; omega) (by (refine St.Le.clean zR (by simp [V.usesL, V.uses, AM.look_cons, AM.look_nil, V.uses_data, da_i, da_chV, da_ruV, da_prV, da_enV, da_cfV, da_veV, da_inV, da_edV, da_grV, da_weV, da_mbV, da_suV, da_viV]) (by simp [AM.sub, AM.look_cons, AM.look_nil, V.uses, V.usesL, V.uses_data, da_i, da_chV, da_ruV, da_prV, da_enV, da_cfV, da_veV, da_inV, da_edV, da_grV, da_weV, da_mbV, da_suV, da_viV])))
    rw [← h2, bs.eq_1 _ i j]; simp_all
  · have e : (((i : Int) + (j : Int)) / 2).toNat = (i + j) / 2 := by omega
    rw [e] at hc
    refine ih (i, (i + j) / 2) _ ⟨by dsimp only; omega, by dsimp only; omega, ?_⟩ (by dsimp only; omega) (by (refine St.Le.clean zR (by simp [V.usesL, V.uses, AM.look_cons, AM.look_nil, V.uses_data, da_i, da_chV, da_ruV, da_prV, da_enV, da_cfV, da_veV, da_inV, da_edV, da_grV, da_weV, da_mbV, da_suV, da_viV]) (by simp [AM.sub, AM.look_cons, AM.look_nil, V.uses, V.usesL, V.uses_data, da_i, da_chV, da_ruV, da_prV, da_enV, da_cfV, da_veV, da_inV, da_edV, da_grV, da_weV, da_mbV, da_suV, da_viV])))
    rw [← h2, bs.eq_1 _ i j, dif_pos (by assumption), if_neg zo]
  all_goals (have e : bs (fun i => k (c.getD i default)) i j = i := by rw [bs.eq_1, dif_neg zo])
  all_goals (rw [e] at h2; (refine Runs.ret2 Tryz.func236 rfl zM zM zD ?_; try exact zX); refine V.Le.of_eq ?_; rw [← h2])
  · have hG' : i < c.length := by omega
    simp [hG']
  · have hG' : ¬ i < c.length := by omega
    simp [hG']
def vbs (v : Vector) (a : Int) : Nat := bs (fun i => cmpI (v.getD i default).author a) 0 v.length
theorem vector_search (f : Bool) (v : Vector) (a : Int) : AM.Fn Tryz.prog 208 [.sl f (v.map enV), .i a]
    (.tup [.i (vbs v a : Nat), .b (decide (vbs v a < v.length ∧ cmpI (v.getD (vbs v a) default).author a = 0))]) := by
  (refine spec_of_runs Tryz.func208 rfl ?_; simp only [Tryz.f208]; refine ys ?_)
  repeat' (first | refine yw ?_ | ((with_reducible refine Runs.is ?_); first | refine Runs.region ?_ | ((with_reducible refine Runs.isC ?_); refine Runs.cond rfl (zc ?_) (zc ?_) <;> intro hc <;> (try (first | contradiction | (exfalso; omega; done) | (have : hc = trivial := rfl; clear this; clear hc))))) | ((with_reducible refine r_is ?_); first | refine yr ?_ | (refine r_fn rfl (bsf_vector f v a _ (fun x => cmpI x.author a) (fun x => vector_search1 x a) hb237) HbF.h zL3 zD ?_; refine r_nn zN zH ?_)) | fail)
  (refine Runs.ret2 Tryz.func208 rfl zM zM zD ?_; try exact zX)
def getV (v : Vector) (a : Int) : Int := if vbs v a < v.length ∧ cmpI (v.getD (vbs v a) default).author a = 0 then (v.getD (vbs v a) default).count else 0
theorem vector_Get (f : Bool) (v : Vector) (a : Int) : AM.Fn Tryz.prog 156 [.sl f (v.map enV), .i a] (.i (getV v a)) := by
  (refine spec_of_runs Tryz.func156 rfl ?_; simp only [Tryz.f156]; refine ys ?_)
  repeat' (first | refine yw ?_ | ((with_reducible refine Runs.is ?_); first | refine Runs.region (id := 0) ?_ | refine Runs.region (id := 1) ?_ | refine Runs.region (id := 2) ?_ | ((with_reducible refine Runs.isC ?_); refine Runs.cond rfl (zc ?_) (zc ?_) <;> intro hc <;> (try (first | contradiction | (exfalso; omega; done) | (have : hc = trivial := rfl; clear this; clear hc))))) | ((with_reducible refine r_is ?_); first | refine yr ?_ | (refine r_fn rfl (vector_search f v a) HbF.h zL2 zD ?_; refine r_nn zN zH ?_)) | fail)
  · repeat' (first | refine yw ?_ | ((with_reducible refine Runs.is ?_); first | refine Runs.region (id := 3) ?_ | ((with_reducible refine Runs.isC ?_); refine Runs.cond rfl (zc ?_) (zc ?_) <;> intro hc <;> (try (first | contradiction | (exfalso; omega; done) | (have : hc = trivial := rfl; clear this; clear hc))))) | ((with_reducible refine r_is ?_); first | refine yr ?_) | fail)
    (refine Runs.ret1 Tryz.func156 rfl zM zD ?_; try exact zX)
    refine V.Le.of_eq (congrArg V.i ?_)
    rw [getV, if_pos (by assumption)]
  · repeat' (first | refine yw ?_ | ((with_reducible refine Runs.is ?_); first | refine Runs.region (id := 4) ?_ | ((with_reducible refine Runs.isC ?_); refine Runs.cond rfl (zc ?_) (zc ?_) <;> intro hc <;> (try (first | contradiction | (exfalso; omega; done) | (have : hc = trivial := rfl; clear this; clear hc))))) | ((with_reducible refine r_is ?_); first | refine yr ?_) | fail)
    (refine Runs.ret1 Tryz.func156 rfl zM zD ?_; try exact zX)
    refine V.Le.of_eq (congrArg V.i ?_)
    rw [getV, if_neg (by assumption)]
theorem config_Restrict1 (f : Bool) (v : Vector) (p : Proposal) : AM.Fn Tryz.prog 211 [prV p, .pt (.sl f (v.map enV))] (.b (decide (p.number ≤ getV v p.admin))) := by
  (refine spec_of_runs Tryz.func211 rfl ?_; simp only [Tryz.f211]; refine ys ?_)
  repeat' (first | refine yw ?_ | ((with_reducible refine Runs.is ?_); first | refine Runs.region ?_ | refine Runs.drawn mixed zK ?_ | ((with_reducible refine Runs.isC ?_); refine Runs.cond rfl (zc ?_) (zc ?_) <;> intro hc <;> (try (first | contradiction | (exfalso; omega; done) | (have : hc = trivial := rfl; clear this; clear hc))))) | ((with_reducible refine r_is ?_); first | refine yr ?_) | ((with_reducible refine d_is ?_); first | refine yd ?_ | (refine d_fn rfl (vector_Get f v _) HbF.h zL2 zD ?_; refine d_nn zN zH ?_)) | fail)
  (refine Runs.ret1 Tryz.func211 rfl zM zD ?_; try exact zX)
def restrictV (c : Config) (v : Vector) : Config := c.filter fun p => decide (p.number ≤ getV v p.admin)
theorem config_Restrict (f g : Bool) (c : Config) (v : Vector) (hc : Small c) : AM.Fn Tryz.prog 168 [.sl f (c.map prV), .sl g (v.map enV)] (.sl false ((restrictV c v).map prV)) := by
  (refine spec_of_runs Tryz.func168 rfl ?_; simp only [Tryz.f168]; refine ys ?_)
  repeat' (first | refine yw ?_ | ((with_reducible refine Runs.is ?_); first | refine Runs.region (id := 0) ?_ | ((with_reducible refine Runs.isC ?_); refine Runs.cond rfl (zc ?_) (zc ?_) <;> intro hc <;> (try (first | contradiction | (exfalso; omega; done) | (have : hc = trivial := rfl; clear this; clear hc))))) | ((with_reducible refine r_is ?_); first | refine yr ?_) | fail)
  refine Runs.weaken (St.Le.freeze_var 3 rfl (by simp only [go_sem])) ?_
  simp only [V.frzL, V.frz, frzH, if_true, and_self]
  repeat' (first | refine yw ?_ | ((with_reducible refine Runs.is ?_); first | refine Runs.region (id := 1) ?_ | ((with_reducible refine Runs.isC ?_); refine Runs.cond rfl (zc ?_) (zc ?_) <;> intro hc <;> (try (first | contradiction | (exfalso; omega; done) | (have : hc = trivial := rfl; clear this; clear hc))))) | ((with_reducible refine r_is ?_); first | refine yr ?_ | (refine r_fn rfl (Fn.of_own (config_filter f c 211 [.pt (.sl g (v.map enV))] _ hc (fun p => config_Restrict1 g v p) hb211 (by simp only [go_sem, Bool.and_self]))) HbF.h zL2 zD ?_; refine r_nn zN zH ?_)) | fail)
  (refine Runs.ret1 Tryz.func168 rfl zM zD ?_; try exact zX)
end Go.Proofs
namespace Go.Proofs
open Go.AM
attribute [local irreducible] AM.evalR AM.evalD AM.Runs AM.valK AM.dK AM.opK AM.stepR AM.CallS AM.St.Le
def restrictR (c : Config) (v : Vector) : Config := c.filter fun p => decide (p.number ≤ countR v p.admin)
theorem ref_Restrict (f g : Bool) (c : Config) (v : Vector) (hs1 : c.length ≤ 1000000000) :
    AM.Spec Tryz.prog 97 [.sl f (c.map prV), .sl g (v.map enV)] [] (OwnPost 129 3 fun l => l = (restrictR c v).map prV) := by
  (refine spec_of_runs Tryz.func97 rfl ?_; simp only [Tryz.f97]; refine ys ?_)
  repeat' (first | refine yw ?_ | ((with_reducible refine Runs.is ?_); first | refine Runs.region (id := 0) ?_ | refine Runs.region (id := 1) ?_ | refine Runs.region (id := 2) ?_ | ((with_reducible refine Runs.isC ?_); refine Runs.cond rfl (zc ?_) (zc ?_) <;> intro hc <;> (try (first | contradiction | (exfalso; omega; done) | (have : hc = trivial := rfl; clear this; clear hc))))) | ((with_reducible refine r_is ?_); first | refine yr ?_) | fail)
  refine Runs.weaken (St.Le.nil 5 129 3 5 zd rfl rfl zE) ?_
  refine Runs.loopI (fun i : Nat => c.length - i) (fun i => i ≤ c.length)
    (fun i => ⟨[.sl f (c.map prV), .sl g (v.map enV), .any, .any, .any, .own 5, .i (i : Nat), .any, .any, .any, .any, .any, .any, .any, .any, .any, .any, .any, .any, .any, .any, .any, .any, .any, .any, .any, .any, .any, .any, .any, .any, .any, .any, .any], [(5, .lst 129 3 ((restrictR (c.take i) v).map prV))]⟩) 0 (by simp) ?_ ?_
  · refine St.Le.clean zR ?_ ?_
    · simp [V.usesL, V.uses, AM.look_cons]
    · exact ⟨⟨rfl, trivial⟩, trivial⟩
  rintro i h0 ih
  have hfl : (restrictR (c.take i) v).length ≤ i := Nat.le_trans (List.length_filter_le _ _) (by rw [List.length_take]; omega)
  repeat' (first | refine yw ?_ | ((with_reducible refine Runs.is ?_); first | refine Runs.region (id := 3) ?_ | refine Runs.drawn (id := 5) mixed zK ?_ | refine Runs.region (id := 6) ?_ | refine Runs.region (id := 4) ?_ | refine Runs.region (id := 7) ?_ | ((with_reducible refine Runs.isC ?_); refine Runs.cond rfl (zc ?_) (zc ?_) <;> intro hc <;> (try (first | contradiction | (exfalso; omega; done) | (have : hc = trivial := rfl; clear this; clear hc))))) | ((with_reducible refine r_is ?_); first | refine yr ?_ | (refine r_append_full SlF.h SlF.s ZoF.h zd rfl rfl zC zJ zS rfl (fun hn => ?_) (fun hn => ?_) <;> refine r_nn zN zH ?_)) | ((with_reducible refine d_is ?_); first | refine yd ?_ | (refine d_fn rfl (ref_Count g v _) HbF.h zL2 zD ?_; refine d_nn zN zH ?_)) | fail)
  · refine ih (i + 1) _ zo zo ?_
    refine St.Le.clean zR ?_ ?_
    · simp [V.usesL, V.uses, AM.look_cons]
    · unfold restrictR; rw [filter_take zo, if_pos (decide_eq_true hc)]
      exact ⟨⟨by simp [AM.look_cons], trivial⟩, trivial⟩
  · refine ih (i + 1) _ zo zo ?_
    refine St.Le.clean zR ?_ ?_
    · simp [V.usesL, V.uses, AM.look_cons]
    · unfold restrictR; rw [filter_take zo, decide_eq_false (Int.not_le.2 hc), if_neg Bool.false_ne_true]
      exact ⟨⟨by simp [AM.look_cons], trivial⟩, trivial⟩
  · refine Runs.ret_own Tryz.func97 rfl rfl rfl ?_
    rw [List.take_of_length_le zo]
def withStep (a n : Int) (s : Vector × Bool) (e : Entry) : Vector × Bool :=
  let s1 : Vector × Bool := if s.2 = false ∧ a ≤ e.author then (s.1 ++ [⟨a, n⟩], true) else s
  if e.author = a then s1 else (s1.1 ++ [e], s1.2)
def withR (v : Vector) (a n : Int) : Vector :=
  if a < 1 ∨ n < 0 ∨ 1000000 < n then v else
    let s := v.foldl (withStep a n) ([], decide (n = 0))
    if s.2 then s.1 else s.1 ++ [⟨a, n⟩]
theorem Le_sl (f : Bool) (es : List V) : V.Le (.sl f es) (.sl false es) := by cases f; exact V.Le.refl _; exact V.Le.full _
theorem foldl_take {α β : Type} [Inhabited α] {g : β → α → β} {s : β} {xs : List α} {i : Nat} (h : i < xs.length) : (xs.take (i + 1)).foldl g s = g ((xs.take i).foldl g s) (xs.getD i default) := by
  rw [take_getD h, List.foldl_append]; rfl
section
variable {a n : Int} {l : Vector} {put : Bool} {e : Entry}
end
end Go.Proofs
namespace Go.Proofs
open Go.AM
attribute [local irreducible] AM.evalR AM.evalD AM.Runs AM.valK AM.dK AM.opK AM.stepR AM.CallS AM.St.Le
theorem withStep_mem (a n : Int) (v : Vector) (s : Vector × Bool) : ∀ e ∈ (v.foldl (withStep a n) s).1, e ∈ s.1 ∨ e ∈ v ∨ e = ⟨a, n⟩ := by
  induction v generalizing s with
  | nil => intro e he; exact .inl he
  | cons x v ih =>
    intro e he
    rcases ih _ e he with h | h | h
    · obtain ⟨l, put⟩ := s
      unfold withStep at h
      dsimp only at h
      split at h <;> split at h <;> simp at h <;> simp <;> grind
    · exact .inr (.inl (List.mem_cons_of_mem _ h))
    · exact .inr (.inr h)
theorem withR_mem {v : Vector} {a n : Int} {e : Entry} (h : e ∈ withR v a n) : e ∈ v ∨ (e = ⟨a, n⟩ ∧ 0 ≤ n ∧ n ≤ 1000000) := by
  unfold withR at h
  split at h
  · exact .inl h
  · dsimp only at h
    split at h
    · rcases withStep_mem a n v _ e h with h | h | h
      · cases h
      · exact .inl h
      · exact .inr ⟨h, by omega, by omega⟩
    · rcases List.mem_append.1 h with h | h
      · rcases withStep_mem a n v _ e h with h | h | h
        · cases h
        · exact .inl h
        · exact .inr ⟨h, by omega, by omega⟩
      · exact .inr ⟨by simpa using h, by omega, by omega⟩
def Mild (v : Vector) : Prop := ∀ e ∈ v, 0 ≤ e.count ∧ e.count ≤ 1000000
theorem Mild.count {v : Vector} (h : Mild v) (a : Int) : 0 ≤ countR v a ∧ countR v a ≤ 1000000 := by
  induction v with
  | nil => simp [countR]
  | cons e v ih =>
    unfold countR
    split
    · exact h e (List.mem_cons_self ..)
    · exact ih fun x hx => h x (List.mem_cons_of_mem _ hx)
theorem Mild.withR {v : Vector} (h : Mild v) (a n : Int) : Mild (withR v a n) := by
  intro e he
  rcases withR_mem he with h' | ⟨rfl, h1, h2⟩
  · exact h e h'
  · exact ⟨h1, h2⟩
def vecStep (v : Vector) (p : Proposal) : Vector := withR v p.admin (countR v p.admin + 1)
def vectorR (c : Config) : Vector := c.foldl vecStep []
end Go.Proofs
namespace Go.Proofs
open Go.AM
attribute [local irreducible] AM.evalR AM.evalD AM.Runs AM.valK AM.dK AM.opK AM.stepR AM.CallS AM.St.Le
theorem digit4 (n i : Int) : 0 ≤ digitI n 4 i ∧ digitI n 4 i < 4 := by unfold digitI; omega
def partV (n : Int) (k : Nat) : Vector := (List.range k).filterMap fun i : Nat => if digitI n 4 i > 0 then some ⟨201 + i, digitI n 4 i⟩ else none
def partI (c : Config) (n : Int) : Config := restrictR c (partV n 3)
theorem partV_succ (n : Int) (k : Nat) : partV n (k + 1) = partV n k ++ if digitI n 4 k > 0 then [⟨201 + k, digitI n 4 k⟩] else [] := by
  unfold partV; rw [List.range_succ, List.filterMap_append]; congr 1; simp [List.filterMap_cons]; split <;> simp_all
theorem partV3 (n : Int) : partV n 3 = (if 0 < digitI n 4 0 then [⟨201 + 0, digitI n 4 0⟩] else []) ++ (if 0 < digitI n 4 1 then [⟨201 + (0 + 1), digitI n 4 1⟩] else []) ++ (if 0 < digitI n 4 2 then [⟨201 + (0 + 1 + 1), digitI n 4 2⟩] else []) := by
  rw [partV_succ, partV_succ, partV_succ]; rfl
theorem kit_Part (f : Bool) (c : Config) (n : Int) (hs1 : c.length ≤ 1000000000) : AM.Fn Tryz.prog 37 [.sl f (c.map prV), .i n] (.sl false ((partI c n).map prV)) := by
  have d0 := digit4 n 0
  have d1 := digit4 n 1
  have d2 := digit4 n 2
  (refine spec_of_runs Tryz.func37 rfl ?_; simp only [Tryz.f37]; refine ys ?_)
  repeat' (first | refine yw ?_ | ((with_reducible refine Runs.is ?_); first | refine Runs.region (id := 0) ?_ | refine Runs.region (id := 1) ?_ | refine Runs.region (id := 2) ?_ | ((with_reducible refine Runs.isC ?_); refine Runs.cond rfl (zc ?_) (zc ?_) <;> intro hc <;> (try (first | contradiction | (exfalso; omega; done) | (have : hc = trivial := rfl; clear this; clear hc))))) | ((with_reducible refine r_is ?_); first | refine yr ?_) | fail)
  refine Runs.loop ?_
  repeat' (first | refine yw ?_ | ((with_reducible refine Runs.is ?_); first | refine Runs.region (id := 3) ?_ | refine Runs.region (id := 5) ?_ | refine Runs.region (id := 6) ?_ | refine Runs.region (id := 4) ?_ | ((with_reducible refine Runs.isC ?_); refine Runs.cond rfl (zc ?_) (zc ?_) <;> intro hc <;> (try (first | contradiction | (exfalso; omega; done) | (have : hc = trivial := rfl; clear this; clear hc))))) | ((with_reducible refine r_is ?_); first | refine yr ?_ | (refine r_fn rfl (kit_Digit n 4 0 zd zd) HbF.h zL3 zD ?_; refine r_nn zN zH ?_) | (refine r_fn rfl (kit_Digit n 4 1 zd zd) HbF.h zL3 zD ?_; refine r_nn zN zH ?_) | (refine r_fn rfl (kit_Digit n 4 2 zd zd) HbF.h zL3 zD ?_; refine r_nn zN zH ?_) | (refine r_append_full SlF.h SlF.s ZoF.h zd rfl rfl zC zJ zS rfl (fun hn => ?_) (fun hn => ?_) <;> refine r_nn zN zH ?_)) | fail)
  all_goals (try omega)
  all_goals (refine Runs.inLoop ?_)
  all_goals
    repeat' (first | refine yw ?_ | ((with_reducible refine Runs.is ?_); first | refine Runs.region (id := 3) ?_ | refine Runs.region (id := 5) ?_ | refine Runs.region (id := 6) ?_ | refine Runs.region (id := 4) ?_ | ((with_reducible refine Runs.isC ?_); refine Runs.cond rfl (zc ?_) (zc ?_) <;> intro hc <;> (try (first | contradiction | (exfalso; omega; done) | (have : hc = trivial := rfl; clear this; clear hc))))) | ((with_reducible refine r_is ?_); first | refine yr ?_ | (refine r_fn rfl (kit_Digit n 4 0 zd zd) HbF.h zL3 zD ?_; refine r_nn zN zH ?_) | (refine r_fn rfl (kit_Digit n 4 1 zd zd) HbF.h zL3 zD ?_; refine r_nn zN zH ?_) | (refine r_fn rfl (kit_Digit n 4 2 zd zd) HbF.h zL3 zD ?_; refine r_nn zN zH ?_) | (refine r_append_full SlF.h SlF.s ZoF.h zd rfl rfl zC zJ zS rfl (fun hn => ?_) (fun hn => ?_) <;> refine r_nn zN zH ?_)) | fail)
  all_goals (try omega)
  all_goals (refine Runs.inLoop ?_)
  all_goals
    repeat' (first | refine yw ?_ | ((with_reducible refine Runs.is ?_); first | refine Runs.region (id := 3) ?_ | refine Runs.region (id := 5) ?_ | refine Runs.region (id := 6) ?_ | refine Runs.region (id := 4) ?_ | ((with_reducible refine Runs.isC ?_); refine Runs.cond rfl (zc ?_) (zc ?_) <;> intro hc <;> (try (first | contradiction | (exfalso; omega; done) | (have : hc = trivial := rfl; clear this; clear hc))))) | ((with_reducible refine r_is ?_); first | refine yr ?_ | (refine r_fn rfl (kit_Digit n 4 0 zd zd) HbF.h zL3 zD ?_; refine r_nn zN zH ?_) | (refine r_fn rfl (kit_Digit n 4 1 zd zd) HbF.h zL3 zD ?_; refine r_nn zN zH ?_) | (refine r_fn rfl (kit_Digit n 4 2 zd zd) HbF.h zL3 zD ?_; refine r_nn zN zH ?_) | (refine r_append_full SlF.h SlF.s ZoF.h zd rfl rfl zC zJ zS rfl (fun hn => ?_) (fun hn => ?_) <;> refine r_nn zN zH ?_)) | fail)
  all_goals (try omega)
  all_goals (refine Runs.inLoop ?_)
  all_goals
    repeat' (first | refine yw ?_ | ((with_reducible refine Runs.is ?_); first | refine Runs.region (id := 3) ?_ | refine Runs.region (id := 5) ?_ | refine Runs.region (id := 6) ?_ | refine Runs.region (id := 4) ?_ | ((with_reducible refine Runs.isC ?_); refine Runs.cond rfl (zc ?_) (zc ?_) <;> intro hc <;> (try (first | contradiction | (exfalso; omega; done) | (have : hc = trivial := rfl; clear this; clear hc))))) | ((with_reducible refine r_is ?_); first | refine yr ?_ | (refine r_fn rfl (kit_Digit n 4 0 zd zd) HbF.h zL3 zD ?_; refine r_nn zN zH ?_) | (refine r_fn rfl (kit_Digit n 4 1 zd zd) HbF.h zL3 zD ?_; refine r_nn zN zH ?_) | (refine r_fn rfl (kit_Digit n 4 2 zd zd) HbF.h zL3 zD ?_; refine r_nn zN zH ?_) | (refine r_append_full SlF.h SlF.s ZoF.h zd rfl rfl zC zJ zS rfl (fun hn => ?_) (fun hn => ?_) <;> refine r_nn zN zH ?_)) | fail)
  all_goals (try omega)
  all_goals (have e := partV3 n)
  all_goals (simp (disch := omega) only [if_pos, if_neg, List.nil_append, List.append_nil, List.cons_append] at e)
  all_goals (try (refine Runs.weaken (St.Le.freeze_lst 24 rfl) ?_; simp only [V.frzL, V.frz, frzH, if_true, ↓reduceIte, Nat.reduceEqDiff]))
  all_goals (refine Runs.weaken (St.Le.clean (s' := ⟨[.sl f (c.map prV), .any, .any, .any, .any, .sl false ((partV n 3).map enV), .any, .any, .any, .any, .any, .any, .any, .any, .any, .any, .any, .any, .any, .any, .any, .any, .any, .any, .any, .any, .any, .any], []⟩) (by rw [e]; repeat' (first | exact V.LeL.refl _ | exact V.LeL.nil | refine V.LeL.cons ?_ ?_ | exact V.Le.refl _ | exact V.Le.full _ | exact V.Le.nil _ | exact V.Le.any _ | refine V.Le.aggL ?_ | assumption)) (by simp [V.usesL, V.uses]) trivial) ?_)
  all_goals
    repeat' (first | refine yw ?_ | ((with_reducible refine Runs.is ?_); first | refine Runs.region (id := 7) ?_ | ((with_reducible refine Runs.isC ?_); refine Runs.cond rfl (zc ?_) (zc ?_) <;> intro hc <;> (try (first | contradiction | (exfalso; omega; done) | (have : hc = trivial := rfl; clear this; clear hc))))) | ((with_reducible refine r_is ?_); first | refine yr ?_ | (refine r_fn rfl (Fn.of_own (ref_Restrict f false c (partV n 3) hs1)) HbF.h zL2 zD ?_; refine r_nn zN zH ?_)) | fail)
  all_goals ((refine Runs.ret1 Tryz.func37 rfl zM zD ?_; try exact zX))
end Go.Proofs
namespace Go.Proofs
open Go.AM
attribute [local irreducible] AM.evalR AM.evalD AM.Runs AM.valK AM.dK AM.opK AM.stepR AM.CallS AM.St.Le
def vecStepV (v : Vector) (p : Proposal) : Vector :=
  if 0 < v.length ∧ (v.getD (v.length - 1) default).author = p.admin then v.set (v.length - 1) ⟨(v.getD (v.length - 1) default).author, (v.getD (v.length - 1) default).count + 1⟩ else v ++ [⟨p.admin, 1⟩]
def vectorV (c : Config) : Vector := c.foldl vecStepV []
theorem vecFoldV (c : Config) (v : Vector) (b : Nat) (hb : b + c.length ≤ 100000000) (h : ∀ e ∈ v, 0 ≤ e.count ∧ e.count ≤ b) : (∀ e ∈ c.foldl vecStepV v, 0 ≤ e.count ∧ e.count ≤ b + c.length) ∧ (c.foldl vecStepV v).length ≤ v.length + c.length := by
  induction c generalizing v b with
  | nil => exact ⟨by simpa using h, by simp⟩
  | cons p c ih =>
    simp only [List.length_cons] at hb
    have := ih (vecStepV v p) (b + 1) zo (by
      intro e he
      unfold vecStepV at he
      split at he
      · rename_i hl
        rcases List.mem_or_eq_of_mem_set he with h1 | rfl
        · have := h e h1; omega
        · have hm : v.getD (v.length - 1) default ∈ v := by
            rw [List.getD_eq_getElem?_getD, List.getElem?_eq_getElem zo]; exact List.getElem_mem _
          have := h _ hm
          simp only []; omega
      · rcases List.mem_append.1 he with h1 | h1
        · have := h e h1; omega
        · have : e = ⟨p.admin, 1⟩ := by simpa using h1
          subst this; simp only []; omega)
    refine ⟨fun e he => by have := this.1 e he; simp only [List.length_cons]; omega, Nat.le_trans this.2 ?_⟩
    have : (vecStepV v p).length ≤ v.length + 1 := by unfold vecStepV; split <;> simp
    simp only [List.length_cons]; omega
theorem config_Vector (f : Bool) (c : Config) (hs1 : c.length ≤ 10000000) : AM.Fn Tryz.prog 167 [.sl f (c.map prV)] (.sl false ((vectorV c).map enV)) := by
  (refine spec_of_runs Tryz.func167 rfl ?_; simp only [Tryz.f167]; refine ys ?_)
  repeat' (first | refine yw ?_ | ((with_reducible refine Runs.is ?_); first | refine Runs.region (id := 0) ?_ | refine Runs.region (id := 1) ?_ | refine Runs.region (id := 2) ?_ | ((with_reducible refine Runs.isC ?_); refine Runs.cond rfl (zc ?_) (zc ?_) <;> intro hc <;> (try (first | contradiction | (exfalso; omega; done) | (have : hc = trivial := rfl; clear this; clear hc))))) | ((with_reducible refine r_is ?_); first | refine yr ?_) | fail)
  (refine Runs.weaken (St.Le.nil 3 124 2 3 zd rfl rfl zE) ?_)
  refine Runs.loopI (fun i : Nat => c.length - i) (fun i => i ≤ c.length)
    (fun i => ⟨[.any, .any, .any, .own 3, .any, .any, .any, .sl f (c.map prV), .i (c.length : Nat), .i (i : Nat), .any, .any, .any, .any, .any, .any, .any, .any, .any, .any, .any, .any, .any, .any, .any, .any, .any, .any, .any, .any, .any, .any, .any, .any, .any, .any, .any, .any, .any, .any, .any, .any, .any, .any, .any], [(3, .lst 124 2 ((vectorV (c.take i)).map enV))]⟩) 0 (by simp) ?_ ?_
  · (refine St.Le.clean zR zU zV)
  rintro i h0 ih
  have hv := vecFoldV (c.take i) [] 0 (by simp; omega) (by intro e he; cases he)
  rw [List.length_take, Nat.min_eq_left h0] at hv
  simp only [List.length_nil, Nat.zero_add] at hv
  have hst := fun (h : i < c.length) => foldl_take (g := vecStepV) (s := []) h
  unfold vectorV
  generalize hs : (c.take i).foldl vecStepV [] = v at hv hst ⊢
  have hgd : 0 < v.length → 0 ≤ (v.getD (v.length - 1) default).count ∧ (v.getD (v.length - 1) default).count ≤ 10000000 := fun h => by
    have := hv.1 (v.getD (v.length - 1) default) (by rw [List.getD_eq_getElem?_getD, List.getElem?_eq_getElem zo]; exact List.getElem_mem _)
    omega
  by_cases hl : 0 < v.length
  · have hc2 := hgd hl
    have hidx : ((v.length : Int) - 1).toNat = v.length - 1 := by omega
    have hgm : (v.map enV).getD (v.length - 1) .any = enV (v.getD (v.length - 1) default) := getD_map enV v _ .any zo
    by_cases ha : (v.getD (v.length - 1) default).author = (c.getD i default).admin
    · rw [← hidx] at ha hc2
      repeat' (first | refine yw ?_ | ((with_reducible refine Runs.is ?_); first | refine Runs.region (id := 3) ?_ | refine Runs.region (id := 4) ?_ | refine Runs.region (id := 5) ?_ | refine Runs.drawn (id := 6) mixed zK ?_ | refine Runs.region (id := 7) ?_ | refine Runs.region (id := 8) ?_ | refine Runs.region (id := 9) ?_ | refine Runs.region (id := 10) ?_ | ((with_reducible refine Runs.isC ?_); refine Runs.cond rfl (zc ?_) (zc ?_) <;> intro hc <;> (try (first | contradiction | (exfalso; omega; done) | (have : hc = trivial := rfl; clear this; clear hc))))) | ((with_reducible refine r_is ?_); first | refine yr ?_ | (refine r_append_full SlF.h SlF.s ZoF.h zd rfl rfl zC zJ zS rfl (fun hn => ?_) (fun hn => ?_) <;> refine r_nn zN zH ?_)) | ((with_reducible refine d_is ?_); first | refine yd ?_ | ((with_reducible refine d_gd ?_); (first | refine d_guardPt rfl rfl ?_ ?_ | refine d_guardNt rfl rfl ?_ ?_ | refine d_guard rfl rfl ?_ ?_) <;> intro hG <;> (try (exfalso; omega; done)) <;> refine d_nn zN zH ?_)) | fail)
      · refine ih (i + 1) _ zo zo ?_
        rw [hidx] at ha
        unfold vectorV
        rw [hst zo, show vecStepV v (c.getD i default) = _ from if_pos ⟨hl, ha⟩]
        refine St.Le.clean zR (by simp [V.usesL, V.uses, AM.look_cons]) ⟨⟨?_, trivial⟩, trivial⟩
        rw [hidx, List.map_set]
        rfl
      · rw [List.take_of_length_le zo] at hs
        exact Runs.ret_frz Tryz.func167 rfl rfl rfl (by rw [hs])
    · rw [← hidx] at ha
      repeat' (first | refine yw ?_ | ((with_reducible refine Runs.is ?_); first | refine Runs.region (id := 3) ?_ | refine Runs.region (id := 4) ?_ | refine Runs.region (id := 5) ?_ | refine Runs.drawn (id := 6) mixed zK ?_ | refine Runs.region (id := 7) ?_ | refine Runs.region (id := 8) ?_ | refine Runs.region (id := 9) ?_ | refine Runs.region (id := 10) ?_ | ((with_reducible refine Runs.isC ?_); refine Runs.cond rfl (zc ?_) (zc ?_) <;> intro hc <;> (try (first | contradiction | (exfalso; omega; done) | (have : hc = trivial := rfl; clear this; clear hc))))) | ((with_reducible refine r_is ?_); first | refine yr ?_ | (refine r_append_full SlF.h SlF.s ZoF.h zd rfl rfl zC zJ zS rfl (fun hn => ?_) (fun hn => ?_) <;> refine r_nn zN zH ?_)) | ((with_reducible refine d_is ?_); first | refine yd ?_ | ((with_reducible refine d_gd ?_); (first | refine d_guardPt rfl rfl ?_ ?_ | refine d_guardNt rfl rfl ?_ ?_ | refine d_guard rfl rfl ?_ ?_) <;> intro hG <;> (try (exfalso; omega; done)) <;> refine d_nn zN zH ?_)) | fail)
      · refine ih (i + 1) _ zo zo ?_
        rw [hidx] at ha
        unfold vectorV
        rw [hst zo, show vecStepV v (c.getD i default) = v ++ [⟨(c.getD i default).admin, 1⟩] from if_neg zo]
        (refine St.Le.clean zR (by first | (simp [V.usesL, V.uses, AM.look_cons]; done) | (simp [V.usesL, V.uses, AM.look_cons, V.usesL_data, V.uses_data, da_i, da_chV, da_ruV, da_prV, da_enV, da_cfV, da_veV, da_inV, da_edV, da_grV, da_weV, da_mbV, da_suV, da_viV]; done)) ?_; (repeat' (first | exact True.intro | refine And.intro ?_ ?_)); all_goals (first | rfl | (simp [AM.look_cons, enV]; done) | (simp [V.uses, V.usesL, AM.look_cons, V.usesL_data, V.uses_data, da_i, da_chV, da_ruV, da_prV, da_enV, da_cfV, da_veV, da_inV, da_edV, da_grV, da_weV, da_mbV, da_suV, da_viV]; done)))
      · rw [List.take_of_length_le zo] at hs
        exact Runs.ret_frz Tryz.func167 rfl rfl rfl (by rw [hs])
  · repeat' (first | refine yw ?_ | ((with_reducible refine Runs.is ?_); first | refine Runs.region (id := 3) ?_ | refine Runs.region (id := 4) ?_ | refine Runs.region (id := 5) ?_ | refine Runs.drawn (id := 6) mixed zK ?_ | refine Runs.region (id := 7) ?_ | refine Runs.region (id := 8) ?_ | refine Runs.region (id := 9) ?_ | refine Runs.region (id := 10) ?_ | ((with_reducible refine Runs.isC ?_); refine Runs.cond rfl (zc ?_) (zc ?_) <;> intro hc <;> (try (first | contradiction | (exfalso; omega; done) | (have : hc = trivial := rfl; clear this; clear hc))))) | ((with_reducible refine r_is ?_); first | refine yr ?_ | (refine r_append_full SlF.h SlF.s ZoF.h zd rfl rfl zC zJ zS rfl (fun hn => ?_) (fun hn => ?_) <;> refine r_nn zN zH ?_)) | ((with_reducible refine d_is ?_); first | refine yd ?_ | ((with_reducible refine d_gd ?_); (first | refine d_guardPt rfl rfl ?_ ?_ | refine d_guardNt rfl rfl ?_ ?_ | refine d_guard rfl rfl ?_ ?_) <;> intro hG <;> (try (exfalso; omega; done)) <;> refine d_nn zN zH ?_)) | fail)
    · refine ih (i + 1) _ zo zo ?_
      unfold vectorV
      rw [hst zo, show vecStepV v (c.getD i default) = v ++ [⟨(c.getD i default).admin, 1⟩] from if_neg zo]
      (refine St.Le.clean zR (by first | (simp [V.usesL, V.uses, AM.look_cons]; done) | (simp [V.usesL, V.uses, AM.look_cons, V.usesL_data, V.uses_data, da_i, da_chV, da_ruV, da_prV, da_enV, da_cfV, da_veV, da_inV, da_edV, da_grV, da_weV, da_mbV, da_suV, da_viV]; done)) ?_; (repeat' (first | exact True.intro | refine And.intro ?_ ?_)); all_goals (first | rfl | (simp [AM.look_cons, enV]; done) | (simp [V.uses, V.usesL, AM.look_cons, V.usesL_data, V.uses_data, da_i, da_chV, da_ruV, da_prV, da_enV, da_cfV, da_veV, da_inV, da_edV, da_grV, da_weV, da_mbV, da_suV, da_viV]; done)))
    · rw [List.take_of_length_le zo] at hs
      exact Runs.ret_frz Tryz.func167 rfl rfl rfl (by rw [hs])
theorem clone_entry (f : Bool) (v : Vector) (hv : v ≠ []) (hl : v.length ≤ 1000000000) : AM.Spec Tryz.prog 238 [.sl f (v.map enV)] [] (OwnPost 124 2 fun l => l = v.map enV) := by
  have hne : v.map enV ≠ [] := by simpa using hv
  (refine spec_of_runs Tryz.func238 rfl ?_; simp only [Tryz.f238]; refine ys ?_)
  repeat' (first | refine yw ?_ | ((with_reducible refine Runs.is ?_); first | refine Runs.region ?_ | ((with_reducible refine Runs.isC ?_); refine Runs.cond rfl (zc ?_) (zc ?_) <;> intro hc <;> (try (first | contradiction | (exfalso; omega; done) | (have : hc = trivial := rfl; clear this; clear hc))))) | ((with_reducible refine r_is ?_); first | refine yr ?_ | (refine r_isNil rfl rfl SlF.s (fun hn => ?_) (fun hn b => ?_) <;> refine r_n zN ?_) | (refine r_append_full SlF.h SlF.s ZoF.h zd rfl rfl zC zJ zS rfl (fun hn => ?_) (fun hn => ?_) <;> refine r_nn zN zH ?_)) | fail)
  all_goals first
    | contradiction
    | exact Runs.ret_own Tryz.func238 rfl rfl rfl rfl
theorem clone_entry_nil (f : Bool) : AM.Fn Tryz.prog 238 [.sl f []] (.sl true []) := by
  (refine spec_of_runs Tryz.func238 rfl ?_; simp only [Tryz.f238]; refine ys ?_)
  repeat' (first | refine yw ?_ | ((with_reducible refine Runs.is ?_); first | refine Runs.region ?_ | ((with_reducible refine Runs.isC ?_); refine Runs.cond rfl (zc ?_) (zc ?_) <;> intro hc <;> (try (first | contradiction | (exfalso; omega; done) | (have : hc = trivial := rfl; clear this; clear hc))))) | ((with_reducible refine r_is ?_); first | refine yr ?_ | (refine r_isNil rfl rfl SlF.s (fun hn => ?_) (fun hn b => ?_) <;> refine r_n zN ?_) | (refine r_append_full SlF.h SlF.s ZoF.h zd rfl rfl zC zJ zS rfl (fun hn => ?_) (fun hn => ?_) <;> refine r_nn zN zH ?_)) | fail)
  all_goals first
    | contradiction
    | ((refine Runs.ret1 Tryz.func238 rfl zM zD ?_; try exact zX); done)
    | ((refine Runs.ret1 Tryz.func238 rfl zM zD ?_; try exact zX); exact V.Le.nil _)
    | ((refine Runs.ret1 Tryz.func238 rfl zM zD ?_; try exact zX); exact V.Le.refl _)
    | fail
theorem insert_entry (v : Vector) (e : Entry) (hl : v.length ≤ 1000000000) (hv : v ≠ []) : AM.Gives Tryz.prog 240 1000 [.i v.length, .sl true [enV e]] 124 2 (v.map enV) (fun l => l = (v ++ [e]).map enV) := by
  (refine spec_of_runs Tryz.func240 rfl ?_; simp only [Tryz.f240]; refine ys ?_)
  repeat' (first | refine yw ?_ | ((with_reducible refine Runs.is ?_); first | refine Runs.region (id := 0) ?_ | refine Runs.region (id := 1) ?_ | refine Runs.region (id := 2) ?_ | refine Runs.region (id := 3) ?_ | refine Runs.region (id := 4) ?_ | refine Runs.region (id := 5) ?_ | refine Runs.region (id := 6) ?_ | refine Runs.region (id := 7) ?_ | ((with_reducible refine Runs.isC ?_); refine Runs.cond rfl (zc ?_) (zc ?_) <;> intro hc <;> (try (first | contradiction | (exfalso; omega; done) | (have : hc = trivial := rfl; clear this; clear hc))))) | ((with_reducible refine r_is ?_); first | refine yr ?_ | (refine r_append_full SlF.h SlF.s ZoF.h zd rfl rfl zC zJ zS rfl (fun hn => ?_) (fun hn => ?_) <;> refine r_nn zN zH ?_)) | fail)
  all_goals first
    | (refine Runs.ret_give Tryz.func240 rfl rfl rfl ?_; simp; done)
    | (exfalso; simp at hc; done)
    | fail
theorem insert_entry_nil (e : Entry) : AM.Fn Tryz.prog 240 [.sl true [], .i 0, .sl true [enV e]] (.sl false ([e].map enV)) := by
  (refine spec_of_runs Tryz.func240 rfl ?_; simp only [Tryz.f240]; refine ys ?_)
  repeat' (first | refine yw ?_ | ((with_reducible refine Runs.is ?_); first | refine Runs.region (id := 0) ?_ | refine Runs.region (id := 1) ?_ | refine Runs.region (id := 2) ?_ | refine Runs.region (id := 3) ?_ | refine Runs.region (id := 4) ?_ | refine Runs.region (id := 5) ?_ | refine Runs.region (id := 6) ?_ | refine Runs.region (id := 7) ?_ | ((with_reducible refine Runs.isC ?_); refine Runs.cond rfl (zc ?_) (zc ?_) <;> intro hc <;> (try (first | contradiction | (exfalso; omega; done) | (have : hc = trivial := rfl; clear this; clear hc))))) | ((with_reducible refine r_is ?_); first | refine yr ?_ | (refine r_append_full SlF.h SlF.s ZoF.h zd rfl rfl zC zJ zS rfl (fun hn => ?_) (fun hn => ?_) <;> refine r_nn zN zH ?_)) | fail)
  all_goals first
    | contradiction
    | exact Runs.ret_frz Tryz.func240 rfl rfl rfl rfl
def withA (v : Vector) (a n : Int) : Vector := if n = 0 then v else v ++ [⟨a, n⟩]
theorem bs_end (k : Nat → Int) (i j : Nat) (hij : i ≤ j) (h : ∀ t, i ≤ t → t < j → k t < 0) : bs k i j = j := by
  induction hn : j - i using Nat.strongRecOn generalizing i j with
  | _ n ih =>
    rw [bs]
    split
    · rename_i hlt
      rw [if_pos (h _ zo zo)]
      exact ih (j - ((i + j) / 2 + 1)) zo _ _ zo (fun t h1 h2 => h t zo h2) rfl
    · omega
theorem vbs_end {v : Vector} {a : Int} (h : ∀ e ∈ v, e.author < a) : vbs v a = v.length := by
  refine bs_end _ _ _ (Nat.zero_le _) fun t _ ht => ?_
  have : (v.getD t default).author < a := by
    rw [List.getD_eq_getElem?_getD, List.getElem?_eq_getElem ht]; exact h _ (List.getElem_mem ht)
  show cmpI _ _ < 0
  unfold cmpI; rw [if_pos this]; decide
theorem vector_With (f : Bool) (v : Vector) (a n : Int) (hl : v.length ≤ 1000000000) (ha : 1 ≤ a) (hn : 0 ≤ n ∧ n ≤ 1000000) (hv : ∀ e ∈ v, e.author < a) : AM.Fn Tryz.prog 210 [.sl f (v.map enV), .i a, .i n] (.sl false ((withA v a n).map enV)) := by
  have hend := vbs_end hv
  by_cases hv0 : v = []
  · subst hv0
    have hs := vector_search true [] a
    rw [hend] at hs
    (refine spec_of_runs Tryz.func210 rfl ?_; simp only [Tryz.f210]; refine ys ?_)
    repeat' (first | refine yw ?_ | ((with_reducible refine Runs.is ?_); first | refine Runs.region ?_ | ((with_reducible refine Runs.isC ?_); refine Runs.cond rfl (zc ?_) (zc ?_) <;> intro hc <;> (try (first | contradiction | (exfalso; omega; done) | (have : hc = trivial := rfl; clear this; clear hc))))) | ((with_reducible refine r_is ?_); first | refine yr ?_ | (refine r_fn rfl (clone_entry_nil f) HbF.h zL1 zD ?_; refine r_nn zN zH ?_) | (refine r_fn rfl (hs) HbF.h zL2 zD ?_; refine r_nn zN zH ?_) | (refine r_fn rfl (insert_entry_nil ⟨a, n⟩) HbF.h zL3 zD ?_; refine r_nn zN zH ?_) | ((with_reducible refine r_gd ?_); (first | refine r_guardPf rfl rfl ?_ ?_ | refine r_guardNf rfl rfl ?_ ?_ | refine r_guardPt rfl rfl ?_ ?_ | refine r_guardNt rfl rfl ?_ ?_ | refine r_guard rfl rfl ?_ ?_) <;> intro hG <;> (try (exfalso; omega; done)) <;> refine r_nn zN zH ?_)) | fail)
    · (refine Runs.ret1 Tryz.func210 rfl zM zD ?_; try exact zX)
      rw [withA, if_neg zo]; exact V.Le.refl _
    · (refine Runs.ret1 Tryz.func210 rfl zM zD ?_; try exact zX)
      rw [withA, if_pos zo]; exact V.Le.full _
  · have hs := vector_search false v a
    rw [hend] at hs
    (refine spec_of_runs Tryz.func210 rfl ?_; simp only [Tryz.f210]; refine ys ?_)
    repeat' (first | refine yw ?_ | ((with_reducible refine Runs.is ?_); first | refine Runs.region ?_ | ((with_reducible refine Runs.isC ?_); refine Runs.cond rfl (zc ?_) (zc ?_) <;> intro hc <;> (try (first | contradiction | (exfalso; omega; done) | (have : hc = trivial := rfl; clear this; clear hc))))) | ((with_reducible refine r_is ?_); first | refine yr ?_ | (refine r_own rfl (clone_entry f v hv0 hl) HbF.h zL1 zD rfl (fun _ hq _ => ?_); (try subst hq); refine r_nn zN zH ?_) | (refine r_lend rfl (hs) HbF.h zY rfl ?_; refine r_nn zN zH ?_) | (refine r_give rfl (insert_entry v ⟨a, n⟩ hl hv0) HbF.h rfl rfl zL2 zD ?_; refine r_nn zN zH ?_) | ((with_reducible refine r_gd ?_); (first | refine r_guardPf rfl rfl ?_ ?_ | refine r_guardNf rfl rfl ?_ ?_ | refine r_guardPt rfl rfl ?_ ?_ | refine r_guardNt rfl rfl ?_ ?_ | refine r_guard rfl rfl ?_ ?_) <;> intro hG <;> (try (exfalso; omega; done)) <;> refine r_nn zN zH ?_)) | fail)
    · refine Runs.ret_frz Tryz.func210 rfl rfl rfl ?_
      rw [withA, if_neg zo]
    · refine Runs.ret_frz Tryz.func210 rfl rfl rfl ?_
      rw [withA, if_pos zo]
def upto (a b : Int) : List Int := (List.range (b + 1 - a).toNat).map fun k : Nat => a + k
theorem upto_succ {a b : Int} (h : a ≤ b + 1) : upto a (b + 1) = upto a b ++ [b + 1] := by
  unfold upto
  have e : (b + 1 + 1 - a).toNat = (b + 1 - a).toNat + 1 := by omega
  rw [e, List.range_succ, List.map_append, List.map_cons, List.map_nil]
  congr 2; omega
theorem upto_snoc {lo n : Int} (h : lo ≤ n) : upto lo n = upto lo (n - 1) ++ [n] := by
  have := upto_succ (a := lo) (b := n - 1) zo
  rwa [show n - 1 + 1 = n by omega] at this
theorem upto_len (a b : Int) : (upto a b).length = (b + 1 - a).toNat := by simp [upto]
def stepI (low : Vector) (e : Entry) (v : Vector) : List Vector := (upto (getV low e.author) e.count).map fun n => withA v e.author n
def vectorsStep (low : Vector) (out : List Vector) (e : Entry) : List Vector := out.flatMap (stepI low e)
def vectorsV (low high : Vector) : List Vector := high.foldl (vectorsStep low) [[]]
def Fine (v : Vector) : Prop := v.length ≤ 3 ∧ v.Pairwise (fun x y => x.author < y.author) ∧ ∀ e ∈ v, 1 ≤ e.author ∧ 0 ≤ e.count ∧ e.count ≤ 3
theorem getV_nonneg {v : Vector} (h : ∀ e ∈ v, 0 ≤ e.count) (a : Int) : 0 ≤ getV v a := by
  unfold getV
  split
  · rename_i hh
    refine h _ ?_
    rw [List.getD_eq_getElem?_getD, List.getElem?_eq_getElem hh.1]; exact List.getElem_mem hh.1
  · omega
theorem stepI_len (low : Vector) (h : ∀ e ∈ low, 0 ≤ e.count) (e : Entry) (he : e.count ≤ 3) (v : Vector) : (stepI low e v).length ≤ 4 := by
  have := getV_nonneg h e.author
  rw [stepI, List.length_map, upto_len]; omega
theorem flatMap_len {α β : Type} (f : α → List β) (k : Nat) (l : List α) (h : ∀ x ∈ l, (f x).length ≤ k) : (l.flatMap f).length ≤ l.length * k := by
  induction l with
  | nil => simp
  | cons x l ih =>
    rw [List.flatMap_cons, List.length_append, List.length_cons, Nat.add_mul, Nat.one_mul]
    have := h x (by simp)
    have := ih fun y hy => h y (List.mem_cons_of_mem _ hy)
    omega
def Below (a : Int) (k : Nat) (out : List Vector) : Prop := ∀ v ∈ out, v.length ≤ k ∧ ∀ e ∈ v, e.author < a
theorem withA_below {v : Vector} {a n b : Int} {k : Nat} (h : v.length ≤ k ∧ ∀ e ∈ v, e.author < a) (hb : a < b) : (withA v a n).length ≤ k + 1 ∧ ∀ e ∈ withA v a n, e.author < b := by
  unfold withA
  split
  · exact ⟨by omega, fun e he => by have := h.2 e he; omega⟩
  · refine ⟨by simp; omega, fun e he => ?_⟩
    rcases List.mem_append.1 he with h1 | h1
    · have := h.2 e h1; omega
    · have : e = ⟨a, n⟩ := by simpa using h1
      subst this; exact hb
theorem step_below {low : Vector} {out : List Vector} {e : Entry} {k : Nat} {b : Int} (h : Below e.author k out) (hb : e.author < b) : Below b (k + 1) (vectorsStep low out e) := by
  intro v hv
  obtain ⟨u, hu, h2⟩ := List.mem_flatMap.1 hv
  obtain ⟨n, _, rfl⟩ := List.mem_map.1 h2
  exact withA_below (h u hu) hb
theorem fold_below {low high : Vector} (hh : Fine high) (i : Nat) (hi : i ≤ high.length) (hl : ∀ e ∈ low, 0 ≤ e.count) :
    (∀ h : i < high.length, Below (high.getD i default).author i ((high.take i).foldl (vectorsStep low) [[]])) ∧ ((high.take i).foldl (vectorsStep low) [[]]).length ≤ 4 ^ i := by
  induction i with
  | zero => exact ⟨fun _ => by intro v hv; simp at hv; subst hv; simp, by simp⟩
  | succ i ih =>
    obtain ⟨h1, h2⟩ := ih zo
    have hlt : i < high.length := by omega
    have hmem : high.getD i default ∈ high := by rw [List.getD_eq_getElem?_getD, List.getElem?_eq_getElem hlt]; exact List.getElem_mem hlt
    rw [foldl_take hlt]
    refine ⟨fun h => step_below (h1 hlt) ?_, ?_⟩
    · have := List.pairwise_iff_getElem.1 hh.2.1 i (i + 1) hlt h zo
      simpa [List.getD_eq_getElem?_getD, hlt, h] using this
    · refine Nat.le_trans (flatMap_len _ 4 _ fun v _ => stepI_len low hl _ (hh.2.2 _ hmem).2.2 v) ?_
      rw [Nat.pow_succ]; exact Nat.mul_le_mul_right _ h2
theorem le_nilVec : V.Le (.sl true [.sc (.slice none 0 0)]) (.sl false (([[]] : List Vector).map veV)) :=
  .slE _ _ _ rfl rfl (by intro i hi; have : i = 0 := by simpa using hi
                         subst this; rfl) (by
    intro i j hi hj
    have : i = 0 := by simpa using hi
    subst this
    have : j = 0 := by simpa [V.cells] using hj
    subst this
    exact V.Le.nil _)
theorem interval_vectors (f g : Bool) (low high : Vector) (hl : ∀ e ∈ low, 0 ≤ e.count) (hh : Fine high) : AM.Fn Tryz.prog 166 [.sl f (low.map enV), .sl g (high.map enV)] (.sl false ((vectorsV low high).map veV)) := by
  have hlen := hh.1
  (refine spec_of_runs Tryz.func166 rfl ?_; simp only [Tryz.f166]; refine ys ?_)
  repeat' (first | refine yw ?_ | ((with_reducible refine Runs.is ?_); first | refine Runs.region (id := 0) ?_ | refine Runs.region (id := 1) ?_ | refine Runs.region (id := 2) ?_ | ((with_reducible refine Runs.isC ?_); refine Runs.cond rfl (zc ?_) (zc ?_) <;> intro hc <;> (try (first | contradiction | (exfalso; omega; done) | (have : hc = trivial := rfl; clear this; clear hc))))) | ((with_reducible refine r_is ?_); first | refine yr ?_) | fail)
  refine Runs.loopI (fun i : Nat => high.length - i) (fun i => i ≤ high.length)
    (fun i => ⟨[.sl f (low.map enV), .any, .any, .any, .any, .sl false (((high.take i).foldl (vectorsStep low) [[]]).map veV), .any, .any, .any, .any, .any, .any, .any, .sl g (high.map enV), .i (high.length : Nat), .i (i : Nat), .any, .any, .any, .any, .any, .any, .any, .any, .any, .any, .any, .any, .any, .any, .any, .any, .any, .any, .any, .any, .any, .any, .any, .any, .any, .any, .any, .any, .any, .any, .any], []⟩) 0 (by simp) ?_ ?_
  · have hn0 := le_nilVec
    refine St.Le.clean zR (by simp [V.usesL, V.uses]) trivial
  rintro i h0 ih
  have hfb := fold_below hh i h0 hl
  have hpow : 4 ^ i ≤ 64 := by
    have : i ≤ 3 := by omega
    have h1 : (4 : Nat) ^ i ≤ 4 ^ 3 := Nat.pow_le_pow_right zd this
    omega
  have hst := fun (h : i < high.length) => foldl_take (g := vectorsStep low) (s := [[]]) h
  have hend : high.length ≤ i → (high.take i).foldl (vectorsStep low) [[]] = vectorsV low high := fun h => by rw [List.take_of_length_le h]; rfl
  generalize hs : (high.take i).foldl (vectorsStep low) [[]] = out at hfb hst hend ⊢
  repeat' (first | refine yw ?_ | ((with_reducible refine Runs.is ?_); first | refine Runs.region (id := 3) ?_ | refine Runs.region (id := 4) ?_ | refine Runs.region (id := 5) ?_ | refine Runs.region (id := 6) ?_ | ((with_reducible refine Runs.isC ?_); refine Runs.cond rfl (zc ?_) (zc ?_) <;> intro hc <;> (try (first | contradiction | (exfalso; omega; done) | (have : hc = trivial := rfl; clear this; clear hc))))) | ((with_reducible refine r_is ?_); first | refine yr ?_) | fail)
  · have hmem : high.getD i default ∈ high := by rw [List.getD_eq_getElem?_getD, List.getElem?_eq_getElem (by assumption)]; exact List.getElem_mem _
    have he := hh.2.2 _ hmem
    have hb := hfb.1 (by assumption)
    generalize high.getD i default = e at he hb hst ⊢
    have hlow := getV_nonneg hl e.author
    refine Runs.weaken (St.Le.nil 8 30 1 8 zd rfl rfl zE) ?_
    refine Runs.loopI (fun j : Nat => out.length - j) (fun j => j ≤ out.length)
      (fun j => ⟨[.sl f (low.map enV), .any, .any, .any, .any, .any, .any, .ptr 7 0 0, .own 8, .any, .any, .any, .any, .sl g (high.map enV), .i (high.length : Nat), .i (i : Nat), .any, .any, .any, .sl false (out.map veV), .i (out.length : Nat), .i (j : Nat), .any, .any, .any, .any, .any, .any, .any, .any, .any, .any, .any, .any, .any, .any, .any, .any, .any, .any, .any, .any, .any, .any, .any, .any, .any], [(8, .lst 30 1 (((out.take j).flatMap (stepI low e)).map veV)), (7, .var 124 (enV e))]⟩) 0 (by simp) ?_ ?_
    · (refine St.Le.clean zR zU zV)
    rintro j hj ihj
    have hjl : ((out.take j).flatMap (stepI low e)).length ≤ 256 := by
      refine Nat.le_trans (flatMap_len _ 4 _ fun v _ => stepI_len low hl e he.2.2 v) ?_
      rw [List.length_take]; omega
    repeat' (first | refine yw ?_ | ((with_reducible refine Runs.is ?_); first | refine Runs.region (id := 7) ?_ | refine Runs.region (id := 8) ?_ | refine Runs.region (id := 9) ?_ | ((with_reducible refine Runs.isC ?_); refine Runs.cond rfl (zc ?_) (zc ?_) <;> intro hc <;> (try (first | contradiction | (exfalso; omega; done) | (have : hc = trivial := rfl; clear this; clear hc))))) | ((with_reducible refine r_is ?_); first | refine yr ?_ | (refine r_fn rfl (vector_Get f low _) HbF.h zL2 zD ?_; refine r_nn zN zH ?_)) | fail)
    · have hjo : j < out.length := by omega
      have hvm : out.getD j default ∈ out := by rw [List.getD_eq_getElem?_getD, List.getElem?_eq_getElem hjo]; exact List.getElem_mem hjo
      have hv := hb _ hvm
      have hbase : (out.take (j + 1)).flatMap (stepI low e) = (out.take j).flatMap (stepI low e) ++ stepI low e (out.getD j default) := by
        rw [take_getD hjo]; simp
      generalize (out.take j).flatMap (stepI low e) = acc at hjl hbase ⊢
      generalize hvv : out.getD j default = v at hv hbase ⊢
      by_cases hle : getV low e.author ≤ e.count + 1
      · refine Runs.loopI (α := Int) (fun n => (e.count + 1 - n).toNat) (fun n => getV low e.author ≤ n ∧ n ≤ e.count + 1)
          (fun n => ⟨[.sl f (low.map enV), .any, .any, .any, .any, .any, .any, .ptr 7 0 0, .own 8, .any, veV v, .i n, .any, .sl g (high.map enV), .i (high.length : Nat), .i (i : Nat), .any, .any, .any, .sl false (out.map veV), .i (out.length : Nat), .i (j : Nat), .any, .any, .any, .any, .any, .any, .any, .any, .any, .any, .any, .any, .any, .any, .any, .any, .any, .any, .any, .any, .any, .any, .any, .any, .any], [(8, .lst 30 1 ((acc ++ (upto (getV low e.author) (n - 1)).map fun n => withA v e.author n).map veV)), (7, .var 124 (enV e))]⟩) (getV low e.author) ⟨by omega, by omega⟩ ?_ ?_
        · have e0 : upto (getV low e.author) (getV low e.author - 1) = [] := by
            have : (getV low e.author - 1 + 1 - getV low e.author).toNat = 0 := by omega
            simp [upto, this]
          rw [e0]
          (refine St.Le.clean zR zU zV)
        rintro n ⟨hn1, hn2⟩ ihn
        have hul := upto_len (getV low e.author) (n - 1)
        repeat' (first | refine yw ?_ | ((with_reducible refine Runs.is ?_); first | refine Runs.region (id := 10) ?_ | refine Runs.region (id := 12) ?_ | refine Runs.region (id := 11) ?_ | ((with_reducible refine Runs.isC ?_); refine Runs.cond rfl (zc ?_) (zc ?_) <;> intro hc <;> (try (first | contradiction | (exfalso; omega; done) | (have : hc = trivial := rfl; clear this; clear hc))))) | ((with_reducible refine r_is ?_); first | refine yr ?_ | (refine r_fn rfl (vector_With false v e.author n zo zo zo hv.2) HbF.h zL3 zD ?_; refine r_nn zN zH ?_) | (refine r_append_full SlF.h SlF.s ZoF.h zd rfl rfl zC zJ zS rfl (fun hn => ?_) (fun hn => ?_) <;> refine r_nn zN zH ?_)) | fail)
        · refine ihn (n + 1) _ ⟨by omega, by omega⟩ zo ?_
          have e1 : upto (getV low e.author) (n + 1 - 1) = upto (getV low e.author) (n - 1) ++ [n] := by
            have := upto_succ (a := getV low e.author) (b := n - 1) zo
            rw [show n - 1 + 1 = n by omega] at this
            rw [show n + 1 - 1 = n by omega]; exact this
          rw [e1]
          (refine St.Le.clean zR zU zV)
        · repeat' (first | refine yw ?_ | ((with_reducible refine Runs.is ?_); first | refine Runs.region (id := 13) ?_ | ((with_reducible refine Runs.isC ?_); refine Runs.cond rfl (zc ?_) (zc ?_) <;> intro hc <;> (try (first | contradiction | (exfalso; omega; done) | (have : hc = trivial := rfl; clear this; clear hc))))) | ((with_reducible refine r_is ?_); first | refine yr ?_) | fail)
          refine ihj (j + 1) _ zo zo ?_
          rw [hbase, stepI]
          have : n - 1 = e.count := by omega
          rw [this]
          (refine St.Le.clean zR zU zV)
      · refine Runs.loop ?_
        repeat' (first | refine yw ?_ | ((with_reducible refine Runs.is ?_); first | refine Runs.region (id := 10) ?_ | refine Runs.region (id := 12) ?_ | refine Runs.region (id := 11) ?_ | refine Runs.region (id := 13) ?_ | ((with_reducible refine Runs.isC ?_); refine Runs.cond rfl (zc ?_) (zc ?_) <;> intro hc <;> (try (first | contradiction | (exfalso; omega; done) | (have : hc = trivial := rfl; clear this; clear hc))))) | ((with_reducible refine r_is ?_); first | refine yr ?_ | (refine r_append_full SlF.h SlF.s ZoF.h zd rfl rfl zC zJ zS rfl (fun hn => ?_) (fun hn => ?_) <;> refine r_nn zN zH ?_)) | fail)
        refine ihj (j + 1) _ zo zo ?_
        have e0 : stepI low e v = [] := by
          have : (e.count + 1 - getV low e.author).toNat = 0 := by omega
          simp [stepI, upto, this]
        rw [hbase, e0]
        (refine St.Le.clean zR zU zV)
    · repeat' (first | refine yw ?_ | ((with_reducible refine Runs.is ?_); first | refine Runs.region (id := 14) ?_ | refine Runs.region (id := 15) ?_ | ((with_reducible refine Runs.isC ?_); refine Runs.cond rfl (zc ?_) (zc ?_) <;> intro hc <;> (try (first | contradiction | (exfalso; omega; done) | (have : hc = trivial := rfl; clear this; clear hc))))) | ((with_reducible refine r_is ?_); first | refine yr ?_) | fail)
      (refine Runs.weaken (St.Le.freeze_lst 8 rfl) ?_; refine yf ?_)
      refine ih (i + 1) _ zo zo ?_
      rw [hst zo, vectorsStep]
      rw [List.take_of_length_le zo]
      refine St.Le.clean zR (by simp [V.usesL, V.uses]) trivial
  · have e1 := hend zo
    subst e1
    repeat' (first | refine yw ?_ | ((with_reducible refine Runs.is ?_); first | refine Runs.region (id := 16) ?_ | ((with_reducible refine Runs.isC ?_); refine Runs.cond rfl (zc ?_) (zc ?_) <;> intro hc <;> (try (first | contradiction | (exfalso; omega; done) | (have : hc = trivial := rfl; clear this; clear hc))))) | ((with_reducible refine r_is ?_); first | refine yr ?_) | fail)
    (refine Runs.ret1 Tryz.func166 rfl zM zD ?_; try exact zX)
end Go.Proofs
namespace Go.Proofs
open Go.AM
attribute [local irreducible] AM.evalR AM.evalD AM.Runs AM.valK AM.dK AM.opK AM.stepR AM.CallS AM.St.Le
end Go.Proofs
namespace Go.Proofs
open Go.AM
attribute [local irreducible] AM.evalR AM.evalD AM.Runs AM.valK AM.dK AM.opK AM.stepR AM.CallS AM.St.Le
theorem union1 (p : Proposal) : AM.Fn Tryz.prog 150 [prV p] (.b true) := by
  (refine spec_of_runs Tryz.func150 rfl ?_; simp only [Tryz.f150]; refine ys ?_)
  repeat' (first | refine yw ?_ | ((with_reducible refine Runs.is ?_); first | refine Runs.region ?_ | ((with_reducible refine Runs.isC ?_); refine Runs.cond rfl (zc ?_) (zc ?_) <;> intro hc <;> (try (first | contradiction | (exfalso; omega; done) | (have : hc = trivial := rfl; clear this; clear hc))))) | ((with_reducible refine r_is ?_); first | refine yr ?_) | fail)
  (refine Runs.ret1 Tryz.func150 rfl zM zD ?_; try exact zX)
theorem config_Union_nil (f : Bool) (c : Config) (hc : Small c) : AM.Fn Tryz.prog 81 [.sl f (c.map prV), .sc (.slice none 0 0)] (cfV c) := by
  have hf := Fn.of_own (config_filter f c 150 [] (fun _ => true) hc (fun p => union1 p) hb150 rfl)
  rw [show c.filter (fun _ => true) = c by simp] at hf
  (refine spec_of_runs Tryz.func81 rfl ?_; simp only [Tryz.f81]; refine ys ?_)
  repeat' (first | refine yw ?_ | ((with_reducible refine Runs.is ?_); first | refine Runs.region (id := 0) ?_ | refine Runs.region (id := 1) ?_ | refine Runs.region (id := 2) ?_ | ((with_reducible refine Runs.isC ?_); refine Runs.cond rfl (zc ?_) (zc ?_) <;> intro hc <;> (try (first | contradiction | (exfalso; omega; done) | (have : hc = trivial := rfl; clear this; clear hc))))) | ((with_reducible refine r_is ?_); first | refine yr ?_ | (refine r_fn rfl (hf) HbF.h zL2 zD ?_; refine r_nn zN zH ?_)) | fail)
  refine Runs.loop ?_
  repeat' (first | refine yw ?_ | ((with_reducible refine Runs.is ?_); first | refine Runs.region (id := 3) ?_ | refine Runs.region (id := 4) ?_ | refine Runs.region (id := 5) ?_ | refine Runs.region (id := 6) ?_ | refine Runs.region (id := 7) ?_ | refine Runs.region (id := 8) ?_ | refine Runs.region (id := 9) ?_ | refine Runs.region (id := 10) ?_ | refine Runs.region (id := 11) ?_ | refine Runs.region (id := 12) ?_ | refine Runs.region (id := 13) ?_ | refine Runs.region (id := 14) ?_ | refine Runs.region (id := 15) ?_ | ((with_reducible refine Runs.isC ?_); refine Runs.cond rfl (zc ?_) (zc ?_) <;> intro hc <;> (try (first | contradiction | (exfalso; omega; done) | (have : hc = trivial := rfl; clear this; clear hc))))) | ((with_reducible refine r_is ?_); first | refine yr ?_ | (refine r_append_full SlF.h SlF.s ZoF.h zd rfl rfl zC zJ zS rfl (fun hn => ?_) (fun hn => ?_) <;> refine r_nn zN zH ?_)) | fail)
  (refine Runs.ret1 Tryz.func81 rfl zM zD ?_; try exact zX)
def allB (a b : Config) : List Config := if containsB b a then (vectorsV (vectorV a) (vectorV b)).map (restrictV b) else []
theorem vectorV_nonneg (c : Config) (h : c.length ≤ 100000000) : ∀ e ∈ vectorV c, 0 ≤ e.count := fun e he => ((vecFoldV c [] 0 (by simpa using h) (by intro e he; cases he)).1 e he).1
theorem interval_All (f g : Bool) (a b : Config) (ha : a.length ≤ 10000000) (hb : Small b) (hb2 : b.length ≤ 10000000) (hv : Fine (vectorV b)) : AM.Fn Tryz.prog 100 [.sl f (a.map prV), .sl g (b.map prV)] (.sl false ((allB a b).map cfV)) := by
  have hn := vectorV_nonneg a zo
  have hlen : (vectorsV (vectorV a) (vectorV b)).length ≤ 64 := by
    have h1 := (fold_below hv _ (Nat.le_refl _) hn).2
    rw [List.take_of_length_le (Nat.le_refl _)] at h1
    have h2 : (4 : Nat) ^ (vectorV b).length ≤ 4 ^ 3 := Nat.pow_le_pow_right zd hv.1
    exact Nat.le_trans h1 h2
  (refine spec_of_runs Tryz.func100 rfl ?_; simp only [Tryz.f100]; refine ys ?_)
  repeat' (first | refine yw ?_ | ((with_reducible refine Runs.is ?_); first | refine Runs.region (id := 0) ?_ | refine Runs.region (id := 1) ?_ | refine Runs.region (id := 2) ?_ | refine Runs.region (id := 3) ?_ | refine Runs.region (id := 4) ?_ | ((with_reducible refine Runs.isC ?_); refine Runs.cond rfl (zc ?_) (zc ?_) <;> intro hc <;> (try (first | contradiction | (exfalso; omega; done) | (have : hc = trivial := rfl; clear this; clear hc))))) | ((with_reducible refine r_is ?_); first | refine yr ?_ | (refine r_fn rfl (config_Contains g f _ _) HbF.h zL2 zD ?_; refine r_nn zN zH ?_) | (refine r_fn rfl (config_Vector f a ha) HbF.h zL1 zD ?_; refine r_nn zN zH ?_) | (refine r_fn rfl (config_Vector g b hb2) HbF.h zL1 zD ?_; refine r_nn zN zH ?_) | (refine r_fn rfl (interval_vectors false false _ _ hn hv) HbF.h zL2 zD ?_; refine r_nn zN zH ?_)) | fail)
  · (refine Runs.ret1 Tryz.func100 rfl zM zD ?_; try exact zX)
    rw [allB, hc]; exact V.Le.nil _
  · rw [allB, if_pos (by assumption)]
    generalize vectorsV (vectorV a) (vectorV b) = vs at hlen ⊢
    (refine Runs.weaken (St.Le.nil 5 28 1 5 zd rfl rfl zE) ?_)
    refine Runs.loopI (fun i : Nat => vs.length - i) (fun i => i ≤ vs.length)
      (fun i => ⟨[.any, .sl g (b.map prV), .any, .any, .any, .own 5, .any, .any, .any, .any, .any, .any, .any, .any, .any, .any, .sl false (vs.map veV), .i (vs.length : Nat), .i (i : Nat), .any, .any, .any, .any, .any, .any, .any, .any, .any, .any, .any], [(5, .lst 28 1 (((vs.take i).map (restrictV b)).map cfV))]⟩) 0 (by simp) ?_ ?_
    · (refine St.Le.clean zR zU zV)
    rintro i h0 ih
    have hl1 : (vs.take i).length ≤ 64 := by rw [List.length_take]; omega
    have hst := fun (h : i < vs.length) => take_getD h
    generalize hacc : vs.take i = acc at hl1 hst ⊢
    repeat' (first | refine yw ?_ | ((with_reducible refine Runs.is ?_); first | refine Runs.region (id := 5) ?_ | refine Runs.region (id := 6) ?_ | refine Runs.region (id := 7) ?_ | refine Runs.region (id := 8) ?_ | refine Runs.region (id := 9) ?_ | ((with_reducible refine Runs.isC ?_); refine Runs.cond rfl (zc ?_) (zc ?_) <;> intro hc <;> (try (first | contradiction | (exfalso; omega; done) | (have : hc = trivial := rfl; clear this; clear hc))))) | ((with_reducible refine r_is ?_); first | refine yr ?_ | (refine r_fn rfl (config_Restrict g false b _ hb) HbF.h zL2 zD ?_; refine r_nn zN zH ?_) | (refine r_append_full SlF.h SlF.s ZoF.h zd rfl rfl zC zJ zS rfl (fun hn => ?_) (fun hn => ?_) <;> refine r_nn zN zH ?_)) | fail)
    · refine ih (i + 1) _ zo zo ?_
      rw [hst zo]
      (refine St.Le.clean zR zU zV)
    · rw [List.take_of_length_le zo] at hacc
      subst hacc
      exact Runs.ret_frz Tryz.func100 rfl rfl rfl rfl
def Few (nodes : List Config) : Prop := nodes.length ≤ 100000 ∧ ∀ c ∈ nodes, c.length ≤ 1000000000
theorem Few.getD {nodes : List Config} (h : Few nodes) (i : Nat) : (nodes.getD i default).length ≤ 1000000000 := by
  by_cases hi : i < nodes.length
  · rw [List.getD_eq_getElem?_getD, List.getElem?_eq_getElem hi]; exact h.2 _ (List.getElem_mem hi)
  · rw [List.getD_eq_getElem?_getD, List.getElem?_eq_none zo]; exact Nat.zero_le _
end Go.Proofs
namespace Go.Proofs
open Go.AM Go.Sort
def sortI (zs : List Int) : List Int := zs.mergeSort fun x y => decide (x ≤ y)
theorem sortI_length (zs : List Int) : (sortI zs).length = zs.length := by simp [sortI]
theorem sort_turns (zs : List Int) (hsz : zs.length < 4611686018427387904) : AM.Turns Tryz.prog 199 3 zs (sortI zs) := by
  intro w x hrow
  rcases hrow.2 with ⟨rfl, h0⟩ | ⟨g, cap, cur, rfl, hb, hg, h1, h2, h3, h4⟩
  · have e : zs = [] := List.eq_nil_of_length_eq_zero h0
    subst e
    refine (Tryz.slices_Sort_int_none none 0 w).mono ?_
    rintro e w' ⟨rfl, rfl⟩
    exact ⟨rfl, by simpa [sortI] using hrow, Ext.refl _ _⟩
  · have ht : cur.toList.take zs.length = zs.map (Value.int .i64) := by simpa using h4
    refine (Tryz.slices_Sort_int g 0 cap zs w (holds_of_blockI hg ht) (Array.getElem?_eq_some_iff.1 hg).1 hsz).mono ?_
    rintro e w' ⟨rfl, n, os, rfl⟩
    have hl : (sortI zs).length = zs.length := sortI_length zs
    refine ⟨rfl, ?_, ?_⟩
    · have := ownsRow_sortedI (n := n) (os := os) hl hb hg h1 h2 h3
      rw [hl]; exact this
    · have := grownBy_sortedI (w := w) (g := g) (n := n) (os := os) (sortI zs).toArray
      obtain ⟨q1, q2, q3, q4, q5⟩ := this
      exact ⟨q1, q2, q3, q4, fun b hb hne => q5 b hb (fun e => hne (by simpa [blk, eq_comm] using e))⟩
def compactI (zs : List Int) : List Int := Lib.compact zs
theorem compactI_le (zs : List Int) : (compactI zs).length ≤ zs.length := by
  unfold compactI Lib.compact Lib.compactUpTo
  rw [List.length_map]
  exact Nat.le_trans (List.length_filter_le _ _) (by simp)
theorem compact_gives (k : Nat) (zs : List Int) (hsz : zs.length ≤ 9223372036854775807) : AM.Gives Tryz.prog 200 k [] 3 1 (zs.map .i) (fun l => l = (compactI zs).map .i) := by
  refine Gives.of_ints k ?_
  intro w x hrow
  rcases hrow.2 with ⟨rfl, h0⟩ | ⟨g, cap, cur, rfl, hb, hg, h1, h2, h3, h4⟩
  · have e : zs = [] := List.eq_nil_of_length_eq_zero h0
    subst e
    refine (Tryz.slices_Compact_int_empty none 0 w).mono ?_
    rintro e w' ⟨rfl, rfl⟩
    exact ⟨_, rfl, hrow, Ext.refl _ _, fun b hb => .inr hb⟩
  · have ht : cur.toList.take zs.length = zs.map (Value.int .i64) := by simpa using h4
    refine (Tryz.slices_Compact_int g 0 cap zs w (holds_of_blockI hg ht) hsz h1).mono ?_
    rintro e w' ⟨rfl, q, rfl⟩
    have hle := compactI_le zs
    have hb2 := heap_sortedI (w := w) (g := g) (n := q) (os := #[]) (compactI zs ++ List.replicate (zs.length - (compactI zs).length) 0).toArray hg
    have e0 : ∀ W : World, grow W #[] = W := fun W => by simp [grow]
    rw [e0] at hb2
    refine ⟨_, rfl, ⟨by simp, .inr ⟨g, cap, _, rfl, hb, hb2, by omega, h2, by simp [putCells, h3], ?_⟩⟩, ?_, fun b hb => .inr hb⟩
    · rw [Nat.mul_one]
      have hlen : (compactI zs ++ List.replicate (zs.length - (compactI zs).length) 0).length = zs.length := by simp; omega
      have := take_putCellsI cur (compactI zs ++ List.replicate (zs.length - (compactI zs).length) 0) (by rw [hlen]; omega)
      have h5 := congrArg (List.take (compactI zs).length) this
      rw [List.take_take, Nat.min_eq_left (by rw [hlen]; exact hle)] at h5
      refine h5.trans ?_
      rw [List.map_append, List.take_append_of_le_length (by simp)]
      exact List.take_of_length_le (by simp)
    · have := grownBy_sortedI (w := w) (g := g) (n := q) (os := #[]) (compactI zs ++ List.replicate (zs.length - (compactI zs).length) 0).toArray
      rw [e0] at this
      obtain ⟨q1, q2, q3, q4, q5⟩ := this
      exact ⟨q1, q2, q3, q4, fun b hb hne => q5 b hb (fun e => hne (by simpa [blk, eq_comm] using e))⟩
end Go.Proofs
namespace Go.Proofs
open Go.AM
attribute [local irreducible] AM.evalR AM.evalD AM.Runs AM.valK AM.dK AM.opK AM.stepR AM.CallS AM.St.Le
theorem config_Equal (f g : Bool) (a b : Config) : AM.Fn Tryz.prog 101 [.sl f (a.map prV), .sl g (b.map prV)] (.b (containsB a b && containsB b a)) := by
  (refine spec_of_runs Tryz.func101 rfl ?_; simp only [Tryz.f101]; refine ys ?_)
  repeat' (first | refine yw ?_ | ((with_reducible refine Runs.is ?_); first | refine Runs.region ?_ | ((with_reducible refine Runs.isC ?_); refine Runs.cond rfl (zc ?_) (zc ?_) <;> intro hc <;> (try (first | contradiction | (exfalso; omega; done) | (have : hc = trivial := rfl; clear this; clear hc))))) | ((with_reducible refine r_is ?_); first | refine yr ?_ | (refine r_fn rfl (config_Contains f g _ _) HbF.h zL2 zD ?_; refine r_nn zN zH ?_) | (refine r_fn rfl (config_Contains g f _ _) HbF.h zL2 zD ?_; refine r_nn zN zH ?_) | ((with_reducible refine r_gd ?_); (first | refine r_guardPt rfl rfl ?_ ?_ | refine r_guardNt rfl rfl ?_ ?_ | refine r_guard rfl rfl ?_ ?_) <;> intro hG <;> (try (exfalso; omega; done)) <;> refine r_nn zN zH ?_)) | fail)
  all_goals ((refine Runs.ret1 Tryz.func101 rfl zM zD ?_; try exact zX); refine V.Le.of_eq ?_; simp_all)
end Go.Proofs
namespace Go.Proofs
open Go.AM
attribute [local irreducible] AM.evalR AM.evalD AM.Runs AM.valK AM.dK AM.opK AM.stepR AM.CallS AM.St.Le
def idxF (k : Int → Bool) : List Int → Nat → Int
  | [], _ => -1
  | x :: xs, i => if k x then (i : Int) else idxF k xs (i + 1)
theorem idxF_any (k : Int → Bool) (l : List Int) (i : Nat) : decide (0 ≤ idxF k l i) = l.any k := by
  induction l generalizing i with
  | nil => simp [idxF]
  | cons x xs ih =>
    unfold idxF
    rw [List.any_cons]
    cases h : k x
    · simpa using ih (i + 1)
    · simp
def wr (n : Int) : Int := IntKind.i64.wrap n
end Go.Proofs
