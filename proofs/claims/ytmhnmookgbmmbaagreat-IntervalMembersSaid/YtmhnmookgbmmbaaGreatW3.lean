/- Helpers of the laws: numbers, and searching in the reference. -/
import Derived.Test.YtmhnmookgbmmbaaGreatW2
set_option linter.unusedVariables false
set_option linter.unusedSimpArgs false
set_option maxRecDepth 8000
set_option pp.deepTerms false
set_option pp.deepTerms.threshold 6
namespace Go.Proofs
open Go.AM
attribute [local irreducible] AM.evalR AM.evalD AM.Runs AM.valK AM.dK AM.opK AM.stepR AM.CallS AM.St.Le

/-- 'Index' of the laws. -/
def indexI (n k : Int) : Int := if k < 1 then 0 else n % k
theorem tmod_add (n k : Int) (hk : 1 ≤ k) : (n.tmod k + k) % k = n % k := by
  rw [Int.add_emod_right, Int.tmod_eq_emod]
  split
  · simp
  · rw [show (k.natAbs : Int) = k by omega]; simp
theorem kit_Index (n k : Int) (hk : k ≤ 4611686018427387904) : AM.Fn Tryz.prog 75 [.i n, .i k] (.i (indexI n k)) := by
  (refine spec_of_runs Tryz.func75 rfl ?_; simp only [Tryz.f75]; refine ys ?_)
  repeat' (first | refine yw ?_ | ((with_reducible refine Runs.is ?_); first | refine Runs.region (id := 0) ?_ | refine Runs.region (id := 1) ?_ | refine Runs.region (id := 2) ?_ | ((with_reducible refine Runs.isC ?_); refine Runs.cond rfl (zc ?_) (zc ?_) <;> intro hc <;> (try (first | contradiction | (exfalso; omega; done) | (have : hc = trivial := rfl; clear this; clear hc))))) | ((with_reducible refine r_is ?_); first | refine yr ?_) | fail)
  · (refine Runs.ret1 Tryz.func75 rfl zM zD ?_; try exact zX)
    simp [indexI, *]
    exact V.Le.refl _
  · have h1 : -k < n.tmod k := by have := Int.lt_tmod_of_pos n (b := k) zo; omega
    have h2 : n.tmod k < k := Int.tmod_lt_of_pos n zo
    refine Runs.region ?_
    (refine r_v rfl (v_move ?_); all_goals (refine r_n zN ?_); refine r_v rfl (v_move ?_); all_goals (refine r_n zN ?_))
    refine r_v rfl (v_rem rfl rfl zo ?_)
    (refine r_v rfl (v_move ?_); all_goals (refine r_n zN ?_); (first | refine r_v rfl (v_add64 rfl rfl zo ?_) | refine r_v rfl (v_add rfl rfl ?_)); all_goals (refine r_n zN ?_); refine r_v rfl (v_move ?_); all_goals (refine r_n zN ?_); (first | refine r_v rfl (v_rem64 rfl rfl zo ?_) | refine r_v rfl (v_rem rfl rfl zo ?_)); all_goals (refine r_n zN ?_); refine r_v rfl (v_assign ?_); all_goals (refine r_n zN ?_); refine r_end ?_)
    (refine Runs.ret1 Tryz.func75 rfl zM zD ?_; try exact zX)
    refine V.Le.of_eq (congrArg V.i ?_)
    rw [indexI, if_neg zo, tmod_add n k zo]
/-- 'Digit' of the laws. -/
def digitI (n b i : Int) : Int := indexI n 1099511627776 / b ^ i.toNat % b
theorem kit_Digit (n b i : Int) (hb : 2 ≤ b) (hi : i ≤ 9223372036854775806) : AM.Fn Tryz.prog 47 [.i n, .i b, .i i] (.i (digitI n b i)) := by
  have hx : 0 ≤ indexI n 1099511627776 ∧ indexI n 1099511627776 < 1099511627776 := by unfold indexI; rw [if_neg zd]; omega
  (refine spec_of_runs Tryz.func47 rfl ?_; simp only [Tryz.f47]; refine ys ?_)
  repeat' (first | refine yw ?_ | ((with_reducible refine Runs.is ?_); first | refine Runs.region (id := 0) ?_ | refine Runs.region (id := 1) ?_ | refine Runs.region (id := 2) ?_ | ((with_reducible refine Runs.isC ?_); refine Runs.cond rfl (zc ?_) (zc ?_) <;> intro hc <;> (try (first | contradiction | (exfalso; omega; done) | (have : hc = trivial := rfl; clear this; clear hc))))) | ((with_reducible refine r_is ?_); first | refine yr ?_ | (refine r_fn rfl (kit_Index n 1099511627776 zd) HbF.h zL2 zD ?_; refine r_nn zN zH ?_)) | fail)
  refine Runs.loopI (fun k : Nat => i.toNat - k) (fun k => k ≤ i.toNat ∧ 0 ≤ indexI n 1099511627776 / b ^ k ∧ indexI n 1099511627776 / b ^ k < 1099511627776)
    (fun k => ⟨[.any, .i b, .i i, .any, .any, .any, .any, .i (indexI n 1099511627776 / b ^ k), .i (k : Nat), .any, .any, .any, .any, .any, .any, .any, .any, .any, .any, .any, .any, .any], []⟩) 0 (by simpa using hx) ?_ ?_
  · simp only [Int.pow_zero, Int.ediv_one]; (refine St.Le.clean zR (by simp [V.usesL, V.uses, AM.look_cons, AM.look_nil, V.uses_data, da_i, da_chV, da_ruV, da_prV, da_enV, da_cfV, da_veV, da_inV, da_edV, da_grV, da_weV, da_mbV, da_suV, da_viV]) (by simp [AM.sub, AM.look_cons, AM.look_nil, V.uses, V.usesL, V.uses_data, da_i, da_chV, da_ruV, da_prV, da_enV, da_cfV, da_veV, da_inV, da_edV, da_grV, da_weV, da_mbV, da_suV, da_viV]))
  rintro k ⟨h0, h1, h2⟩ ih
  repeat' (first | refine yw ?_ | ((with_reducible refine Runs.is ?_); first | refine Runs.region (id := 3) ?_ | refine Runs.region (id := 5) ?_ | refine Runs.region (id := 4) ?_ | refine Runs.region (id := 6) ?_ | ((with_reducible refine Runs.isC ?_); refine Runs.cond rfl (zc ?_) (zc ?_) <;> intro hc <;> (try (first | contradiction | (exfalso; omega; done) | (have : hc = trivial := rfl; clear this; clear hc))))) | ((with_reducible refine r_is ?_); first | refine yr ?_) | fail)
  · have e : indexI n 1099511627776 / b ^ k / b = indexI n 1099511627776 / b ^ (k + 1) := by rw [Int.ediv_ediv_of_nonneg (Int.pow_nonneg zo), Int.pow_succ]
    rw [e]
    refine ih (k + 1) _ ⟨by omega, ?_, ?_⟩ zo (by (refine St.Le.clean zR (by simp [V.usesL, V.uses, AM.look_cons, AM.look_nil, V.uses_data, da_i, da_chV, da_ruV, da_prV, da_enV, da_cfV, da_veV, da_inV, da_edV, da_grV, da_weV, da_mbV, da_suV, da_viV]) (by simp [AM.sub, AM.look_cons, AM.look_nil, V.uses, V.usesL, V.uses_data, da_i, da_chV, da_ruV, da_prV, da_enV, da_cfV, da_veV, da_inV, da_edV, da_grV, da_weV, da_mbV, da_suV, da_viV])))
    · rw [← e]; exact Int.ediv_nonneg h1 zo
    · rw [← e]; exact Int.lt_of_le_of_lt (Int.ediv_le_self _ h1) h2
  · (refine Runs.ret1 Tryz.func47 rfl zM zD ?_; try exact zX)
    refine V.Le.of_eq (congrArg V.i ?_)
    have : k = i.toNat := by omega
    rw [digitI, this]
/-- 'At' of the laws. -/
def atI (l : List Int) (i : Int) : Int := if l = [] then 0 else l.getD (indexI i l.length).toNat 0
theorem kit_At (f : Bool) (l : List Int) (i : Int) (hl : l.length ≤ 4611686018427387904) : AM.Fn Tryz.prog 48 [.sl f (l.map .i), .i i] (.i (atI l i)) := by
  (refine spec_of_runs Tryz.func48 rfl ?_; simp only [Tryz.f48]; refine ys ?_)
  repeat' (first | refine yw ?_ | ((with_reducible refine Runs.is ?_); first | refine Runs.region (id := 0) ?_ | refine Runs.region (id := 1) ?_ | refine Runs.region (id := 2) ?_ | ((with_reducible refine Runs.isC ?_); refine Runs.cond rfl (zc ?_) (zc ?_) <;> intro hc <;> (try (first | contradiction | (exfalso; omega; done) | (have : hc = trivial := rfl; clear this; clear hc))))) | ((with_reducible refine r_is ?_); first | refine yr ?_) | fail)
  · (refine Runs.ret1 Tryz.func48 rfl zM zD ?_; try exact zX)
    have : l = [] := List.eq_nil_of_length_eq_zero zo
    subst this; exact V.Le.refl _
  · have hne : l ≠ [] := by rintro rfl; simp at hc
    have hb : 0 ≤ indexI i l.length ∧ indexI i l.length < l.length := by
      unfold indexI; rw [if_neg zo]
      exact ⟨Int.emod_nonneg _ zo, Int.emod_lt_of_pos _ zo⟩
    repeat' (first | refine yw ?_ | ((with_reducible refine Runs.is ?_); first | refine Runs.region (id := 3) ?_ | ((with_reducible refine Runs.isC ?_); refine Runs.cond rfl (zc ?_) (zc ?_) <;> intro hc <;> (try (first | contradiction | (exfalso; omega; done) | (have : hc = trivial := rfl; clear this; clear hc))))) | ((with_reducible refine r_is ?_); first | refine yr ?_ | (refine r_fn rfl (kit_Index i l.length zo) HbF.h zL2 zD ?_; refine r_nn zN zH ?_)) | fail)
    (refine Runs.ret1 Tryz.func48 rfl zM zD ?_; try exact zX)
    rw [atI, if_neg hne]; exact V.Le.refl _
theorem cmpP_neg {p q : Proposal} : cmpP p q = -1 ↔ (p.admin < q.admin ∨ p.admin = q.admin ∧ p.number < q.number) := by
  unfold cmpP orI orI orI cmpI; split <;> (repeat' split) <;> (repeat' split at *) <;> omega
theorem cmpP_zero {p q : Proposal} : cmpP p q = 0 ↔ (p.admin = q.admin ∧ p.number = q.number) := by
  unfold cmpP orI orI orI cmpI; split <;> (repeat' split) <;> (repeat' split at *) <;> omega
theorem cmpP_pos {p q : Proposal} : cmpP p q = 1 ↔ (q.admin < p.admin ∨ p.admin = q.admin ∧ q.number < p.number) := by
  unfold cmpP orI orI orI cmpI; split <;> (repeat' split) <;> (repeat' split at *) <;> omega
theorem ref_Compare (p q : Proposal) : AM.Fn Tryz.prog 52 [prV p, prV q] (.i (cmpP p q)) := by
  (refine spec_of_runs Tryz.func52 rfl ?_; simp only [Tryz.f52]; refine ys ?_)
  repeat' (first | refine yw ?_ | ((with_reducible refine Runs.is ?_); first | refine Runs.region ?_ | ((with_reducible refine Runs.isC ?_); refine Runs.cond rfl (zc ?_) (zc ?_) <;> intro hc <;> (try (first | contradiction | (exfalso; omega; done) | (have : hc = trivial := rfl; clear this; clear hc))))) | ((with_reducible refine r_is ?_); first | refine yr ?_ | ((with_reducible refine r_gd ?_); (first | refine r_guardPf rfl rfl ?_ ?_ | refine r_guardNf rfl rfl ?_ ?_ | refine r_guardPt rfl rfl ?_ ?_ | refine r_guardNt rfl rfl ?_ ?_ | refine r_guard rfl rfl ?_ ?_) <;> intro hG <;> (try (exfalso; omega; done)) <;> refine r_nn zN zH ?_)) | fail)
  all_goals ((refine Runs.ret1 Tryz.func52 rfl zM zD ?_; try exact zX); refine V.Le.of_eq (congrArg V.i ?_); symm)
  all_goals first | exact cmpP_neg.2 zo | exact cmpP_zero.2 zo | exact cmpP_pos.2 zo
/-- 'has' of the reference. -/
def hasR (c : Config) (p : Proposal) : Bool := c.any fun x => decide (cmpP x p = 0)
theorem any_drop {α : Type} [Inhabited α] {f : α → Bool} {xs : List α} {i : Nat} (h : i < xs.length) : (xs.drop i).any f = (f (xs.getD i default) || (xs.drop (i + 1)).any f) := by
  rw [drop_getD h, List.any_cons]
theorem all_drop {α : Type} [Inhabited α] {f : α → Bool} {xs : List α} {i : Nat} (h : i < xs.length) : (xs.drop i).all f = (f (xs.getD i default) && (xs.drop (i + 1)).all f) := by
  rw [drop_getD h, List.all_cons]
theorem ref_has (f : Bool) (c : Config) (p : Proposal) : AM.Fn Tryz.prog 53 [.sl f (c.map prV), prV p] (.b (hasR c p)) := by
  (refine spec_of_runs Tryz.func53 rfl ?_; simp only [Tryz.f53]; refine ys ?_)
  (refine Runs.lens 0 ?_; refine yl ?_)
  intro hl
  repeat' (first | refine yw ?_ | ((with_reducible refine Runs.is ?_); first | refine Runs.region (id := 0) ?_ | refine Runs.region (id := 1) ?_ | ((with_reducible refine Runs.isC ?_); refine Runs.cond rfl (zc ?_) (zc ?_) <;> intro hc <;> (try (first | contradiction | (exfalso; omega; done) | (have : hc = trivial := rfl; clear this; clear hc))))) | ((with_reducible refine r_is ?_); first | refine yr ?_) | fail)
  refine Runs.loopI (fun i : Nat => c.length - i) (fun i => i ≤ c.length ∧ hasR (c.drop i) p = hasR c p)
    (fun i => ⟨[.sl f (c.map prV), .any, .any, .ptr 3 0 0, .any, .i (i : Nat), .any, .any, .any, .any, .any, .any, .any, .any, .any, .any, .any, .any, .any], [(3, .var 63 (prV p))]⟩) 0 (by simp) ?_ ?_
  · (refine St.Le.clean zR (by simp [V.usesL, V.uses, AM.look_cons, AM.look_nil, V.uses_data, da_i, da_chV, da_ruV, da_prV, da_enV, da_cfV, da_veV, da_inV, da_edV, da_grV, da_weV, da_mbV, da_suV, da_viV]) (by simp [AM.sub, AM.look_cons, AM.look_nil, V.uses, V.usesL, V.uses_data, da_i, da_chV, da_ruV, da_prV, da_enV, da_cfV, da_veV, da_inV, da_edV, da_grV, da_weV, da_mbV, da_suV, da_viV]))
  rintro i ⟨h0, h1⟩ ih
  repeat' (first | refine yw ?_ | ((with_reducible refine Runs.is ?_); first | refine Runs.region (id := 2) ?_ | refine Runs.drawn (id := 4) mixed zK ?_ | refine Runs.region (id := 5) ?_ | refine Runs.region (id := 3) ?_ | refine Runs.region (id := 6) ?_ | ((with_reducible refine Runs.isC ?_); refine Runs.cond rfl (zc ?_) (zc ?_) <;> intro hc <;> (try (first | contradiction | (exfalso; omega; done) | (have : hc = trivial := rfl; clear this; clear hc))))) | ((with_reducible refine r_is ?_); first | refine yr ?_) | ((with_reducible refine d_is ?_); first | refine yd ?_ | (refine d_fn rfl (ref_Compare _ _) HbF.h zL2 zD ?_; refine d_nn zN zH ?_)) | fail)
  · (refine Runs.ret1 Tryz.func53 rfl zM zD ?_; try exact zX)
    rw [← h1, hasR, any_drop zo, decide_eq_true (by assumption)]; exact V.Le.refl _
  · refine ih (i + 1) _ ⟨by omega, ?_⟩ zo (by (refine St.Le.clean zR (by simp [V.usesL, V.uses, AM.look_cons, AM.look_nil, V.uses_data, da_i, da_chV, da_ruV, da_prV, da_enV, da_cfV, da_veV, da_inV, da_edV, da_grV, da_weV, da_mbV, da_suV, da_viV]) (by simp [AM.sub, AM.look_cons, AM.look_nil, V.uses, V.usesL, V.uses_data, da_i, da_chV, da_ruV, da_prV, da_enV, da_cfV, da_veV, da_inV, da_edV, da_grV, da_weV, da_mbV, da_suV, da_viV])))
    rw [← h1, hasR, hasR, any_drop (i := i) zo, decide_eq_false (by assumption), Bool.false_or]
  · (refine Runs.ret1 Tryz.func53 rfl zM zD ?_; try exact zX)
    rw [← h1, List.drop_eq_nil_of_le zo]; exact V.Le.refl _
/-- 'Contains' of the reference. -/
def containsR (a b : Config) : Bool := b.all (hasR a)
theorem ref_Contains (f g : Bool) (a b : Config) : AM.Fn Tryz.prog 26 [.sl f (a.map prV), .sl g (b.map prV)] (.b (containsR a b)) := by
  (refine spec_of_runs Tryz.func26 rfl ?_; simp only [Tryz.f26]; refine ys ?_)
  (refine Runs.lens 1 ?_; refine yl ?_)
  intro hl
  repeat' (first | refine yw ?_ | ((with_reducible refine Runs.is ?_); first | refine Runs.region (id := 0) ?_ | refine Runs.region (id := 1) ?_ | ((with_reducible refine Runs.isC ?_); refine Runs.cond rfl (zc ?_) (zc ?_) <;> intro hc <;> (try (first | contradiction | (exfalso; omega; done) | (have : hc = trivial := rfl; clear this; clear hc))))) | ((with_reducible refine r_is ?_); first | refine yr ?_) | fail)
  refine Runs.loopI (fun i : Nat => b.length - i) (fun i => i ≤ b.length ∧ containsR a (b.drop i) = containsR a b)
    (fun i => ⟨[.sl f (a.map prV), .sl g (b.map prV), .any, .any, .any, .i (i : Nat), .any, .any, .any, .any, .any, .any, .any, .any, .any, .any, .any, .any, .any], []⟩) 0 (by simp) ?_ ?_
  · (refine St.Le.clean zR (by simp [V.usesL, V.uses, AM.look_cons, AM.look_nil, V.uses_data, da_i, da_chV, da_ruV, da_prV, da_enV, da_cfV, da_veV, da_inV, da_edV, da_grV, da_weV, da_mbV, da_suV, da_viV]) (by simp [AM.sub, AM.look_cons, AM.look_nil, V.uses, V.usesL, V.uses_data, da_i, da_chV, da_ruV, da_prV, da_enV, da_cfV, da_veV, da_inV, da_edV, da_grV, da_weV, da_mbV, da_suV, da_viV]))
  rintro i ⟨h0, h1⟩ ih
  repeat' (first | refine yw ?_ | ((with_reducible refine Runs.is ?_); first | refine Runs.region (id := 2) ?_ | refine Runs.region (id := 4) ?_ | refine Runs.region (id := 5) ?_ | refine Runs.region (id := 3) ?_ | refine Runs.region (id := 6) ?_ | ((with_reducible refine Runs.isC ?_); refine Runs.cond rfl (zc ?_) (zc ?_) <;> intro hc <;> (try (first | contradiction | (exfalso; omega; done) | (have : hc = trivial := rfl; clear this; clear hc))))) | ((with_reducible refine r_is ?_); first | refine yr ?_ | (refine r_fn rfl (ref_has f a _) HbF.h zL2 zD ?_; refine r_nn zN zH ?_)) | fail)
  · (refine Runs.ret1 Tryz.func26 rfl zM zD ?_; try exact zX)
    rw [← h1, containsR, all_drop zo, hc]; exact V.Le.refl _
  · refine ih (i + 1) _ ⟨by omega, ?_⟩ zo (by (refine St.Le.clean zR (by simp [V.usesL, V.uses, AM.look_cons, AM.look_nil, V.uses_data, da_i, da_chV, da_ruV, da_prV, da_enV, da_cfV, da_veV, da_inV, da_edV, da_grV, da_weV, da_mbV, da_suV, da_viV]) (by simp [AM.sub, AM.look_cons, AM.look_nil, V.uses, V.usesL, V.uses_data, da_i, da_chV, da_ruV, da_prV, da_enV, da_cfV, da_veV, da_inV, da_edV, da_grV, da_weV, da_mbV, da_suV, da_viV])))
    rw [← h1, containsR, containsR, all_drop (i := i) zo, hc, Bool.true_and]
  · (refine Runs.ret1 Tryz.func26 rfl zM zD ?_; try exact zX)
    rw [← h1, List.drop_eq_nil_of_le zo]; exact V.Le.refl _
/-- 'Count' of the reference. -/
def countR : Vector → Int → Int
  | [], _ => 0
  | e :: v, a => if e.author = a then e.count else countR v a
theorem ref_Count (f : Bool) (v : Vector) (a : Int) : AM.Fn Tryz.prog 55 [.sl f (v.map enV), .i a] (.i (countR v a)) := by
  (refine spec_of_runs Tryz.func55 rfl ?_; simp only [Tryz.f55]; refine ys ?_)
  (refine Runs.lens 0 ?_; refine yl ?_)
  intro hl
  repeat' (first | refine yw ?_ | ((with_reducible refine Runs.is ?_); first | refine Runs.region (id := 0) ?_ | refine Runs.region (id := 1) ?_ | ((with_reducible refine Runs.isC ?_); refine Runs.cond rfl (zc ?_) (zc ?_) <;> intro hc <;> (try (first | contradiction | (exfalso; omega; done) | (have : hc = trivial := rfl; clear this; clear hc))))) | ((with_reducible refine r_is ?_); first | refine yr ?_) | fail)
  refine Runs.loopI (fun i : Nat => v.length - i) (fun i => i ≤ v.length ∧ countR (v.drop i) a = countR v a)
    (fun i => ⟨[.sl f (v.map enV), .i a, .any, .any, .any, .i (i : Nat), .any, .any, .any, .any, .any, .any, .any, .any, .any, .any, .any, .any, .any, .any, .any, .any, .any, .any], []⟩) 0 (by simp) ?_ ?_
  · (refine St.Le.clean zR (by simp [V.usesL, V.uses, AM.look_cons, AM.look_nil, V.uses_data, da_i, da_chV, da_ruV, da_prV, da_enV, da_cfV, da_veV, da_inV, da_edV, da_grV, da_weV, da_mbV, da_suV, da_viV]) (by simp [AM.sub, AM.look_cons, AM.look_nil, V.uses, V.usesL, V.uses_data, da_i, da_chV, da_ruV, da_prV, da_enV, da_cfV, da_veV, da_inV, da_edV, da_grV, da_weV, da_mbV, da_suV, da_viV]))
  rintro i ⟨h0, h1⟩ ih
  repeat' (first | refine yw ?_ | ((with_reducible refine Runs.is ?_); first | refine Runs.region (id := 2) ?_ | refine Runs.region (id := 4) ?_ | refine Runs.region (id := 5) ?_ | refine Runs.region (id := 3) ?_ | refine Runs.region (id := 6) ?_ | ((with_reducible refine Runs.isC ?_); refine Runs.cond rfl (zc ?_) (zc ?_) <;> intro hc <;> (try (first | contradiction | (exfalso; omega; done) | (have : hc = trivial := rfl; clear this; clear hc))))) | ((with_reducible refine r_is ?_); first | refine yr ?_) | fail)
  · (refine Runs.ret1 Tryz.func55 rfl zM zD ?_; try exact zX)
    rw [← h1, drop_getD zo, countR, if_pos (by assumption)]; exact V.Le.refl _
  · refine ih (i + 1) _ ⟨by omega, ?_⟩ zo (by (refine St.Le.clean zR (by simp [V.usesL, V.uses, AM.look_cons, AM.look_nil, V.uses_data, da_i, da_chV, da_ruV, da_prV, da_enV, da_cfV, da_veV, da_inV, da_edV, da_grV, da_weV, da_mbV, da_suV, da_viV]) (by simp [AM.sub, AM.look_cons, AM.look_nil, V.uses, V.usesL, V.uses_data, da_i, da_chV, da_ruV, da_prV, da_enV, da_cfV, da_veV, da_inV, da_edV, da_grV, da_weV, da_mbV, da_suV, da_viV])))
    rw [← h1, drop_getD (i := i) zo, countR, if_neg (by assumption)]
  · (refine Runs.ret1 Tryz.func55 rfl zM zD ?_; try exact zX)
    rw [← h1, List.drop_eq_nil_of_le zo]; exact V.Le.refl _
end Go.Proofs
