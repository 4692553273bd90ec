/- Contracts of functions and plain laws: W1, W2, W3, W4, W5, W6, W7, W8, W11, W9, W12, Sk, W14, W16, W38, W39, W44. -/
import Derived.Sort.OwnSortedInts
import Derived.Test.YtmgnkabnlcapbaaHd
import Derived.Test.YtmgnkabnlcapbaaSl
import Derived.Test.YtmgnkabnlcapbaaMf
set_option linter.unusedVariables false
set_option linter.unusedSimpArgs false
set_option maxRecDepth 8000
set_option pp.deepTerms false
set_option pp.deepTerms.threshold 6
set_option maxHeartbeats 4000000
namespace Go.Proofs
open Go.AM
attribute [local irreducible] AM.evalR AM.evalD AM.Runs AM.valK AM.dK AM.opK AM.stepR AM.CallS AM.St.Le
theorem cmp_isNaN (a : Int) : AM.Fn Try.prog 108 [.i a] (.b false) := by
  (refine spec_of_runs Try.func108 rfl ?_; simp only [Try.f108]; refine ys ?_)
  repeat' (first | refine yw ?_ | ((with_reducible refine Runs.is ?_); first | refine Runs.region ?_ | ((with_reducible refine Runs.isC ?_); refine Runs.cond rfl (zc ?_) (zc ?_) <;> intro hc <;> (try (first | contradiction | (exfalso; omega; done) | (have : hc = trivial := rfl; clear this; clear hc))))) | ((with_reducible refine r_is ?_); first | refine yr ?_) | fail)
  (refine Runs.ret1 Try.func108 rfl zM zD ?_; try exact zX)
def cmpI (a b : Int) : Int := if a < b then -1 else if b < a then 1 else 0
theorem cmp_Compare (a b : Int) : AM.Fn Try.prog 84 [.i a, .i b] (.i (cmpI a b)) := by
  (refine spec_of_runs Try.func84 rfl ?_; simp only [Try.f84]; refine ys ?_)
  repeat' (first | refine yw ?_ | ((with_reducible refine Runs.is ?_); first | refine Runs.region ?_ | ((with_reducible refine Runs.isC ?_); refine Runs.cond rfl (zc ?_) (zc ?_) <;> intro hc <;> (try (first | contradiction | (exfalso; omega; done) | (have : hc = trivial := rfl; clear this; clear hc))))) | ((with_reducible refine r_is ?_); first | refine yr ?_ | (refine r_fn rfl (cmp_isNaN _) HbF.h zL1 zD ?_; refine r_nn zN zH ?_)) | fail)
  all_goals ((refine Runs.ret1 Try.func84 rfl zM zD ?_; try exact zX))
  all_goals (refine V.Le.of_eq (congrArg V.i ?_); unfold cmpI; split <;> (try split) <;> omega)
def orI : List Int → Int
  | [] => 0
  | x :: xs => if x = 0 then orI xs else x
theorem orI_drop {xs : List Int} {i : Nat} (h : i < xs.length) : orI (xs.drop i) = if xs.getD i default = 0 then orI (xs.drop (i+1)) else xs.getD i default := by
  rw [drop_getD h]; rfl
theorem cmp_Or (f : Bool) (xs : List Int) : AM.Fn Try.prog 83 [.sl f (xs.map .i)] (.i (orI xs)) := by
  (refine spec_of_runs Try.func83 rfl ?_; simp only [Try.f83]; refine ys ?_)
  (refine Runs.lens 0 ?_; refine yl ?_)
  intro hl
  repeat' (first | refine yw ?_ | ((with_reducible refine Runs.is ?_); first | refine Runs.region ?_ | ((with_reducible refine Runs.isC ?_); refine Runs.cond rfl (zc ?_) (zc ?_) <;> intro hc <;> (try (first | contradiction | (exfalso; omega; done) | (have : hc = trivial := rfl; clear this; clear hc))))) | ((with_reducible refine r_is ?_); first | refine yr ?_) | fail)
  refine Runs.loopI (fun i : Nat => xs.length - i) (fun i => i ≤ xs.length ∧ orI (xs.drop i) = orI xs) (fun i => ⟨[.any, .any, .any, .i 0, .any, .any, .sl f (xs.map .i), .i (xs.length : Nat), .i (i : Nat), .any, .any, .any, .any, .any, .any, .any, .any, .any], []⟩) 0 (by simp) ?_ ?_
  · (refine St.Le.clean zR (by simp [V.usesL, V.uses, AM.look_cons, AM.look_nil, V.uses_data, da_i, da_chV, da_ruV, da_prV, da_enV, da_cfV, da_veV, da_inV, da_edV, da_grV, da_weV, da_mbV, da_suV, da_viV]) (by simp [AM.sub, AM.look_cons, AM.look_nil, V.uses, V.usesL, V.uses_data, da_i, da_chV, da_ruV, da_prV, da_enV, da_cfV, da_veV, da_inV, da_edV, da_grV, da_weV, da_mbV, da_suV, da_viV]))
  rintro i ⟨h1, h2⟩ ih
  repeat' (first | refine yw ?_ | ((with_reducible refine Runs.is ?_); first | refine Runs.region ?_ | ((with_reducible refine Runs.isC ?_); refine Runs.cond rfl (zc ?_) (zc ?_) <;> intro hc <;> (try (first | contradiction | (exfalso; omega; done) | (have : hc = trivial := rfl; clear this; clear hc))))) | ((with_reducible refine r_is ?_); first | refine yr ?_) | fail)
  · (refine Runs.ret1 Try.func83 rfl zM zD ?_; try exact zX)
    refine V.Le.of_eq (congrArg V.i ?_)
    rw [← h2, orI_drop zo, if_neg (by assumption)]
  · refine ih (i + 1) _ ⟨by omega, ?_⟩ zo (by (refine St.Le.clean zR (by simp [V.usesL, V.uses, AM.look_cons, AM.look_nil, V.uses_data, da_i, da_chV, da_ruV, da_prV, da_enV, da_cfV, da_veV, da_inV, da_edV, da_grV, da_weV, da_mbV, da_suV, da_viV]) (by simp [AM.sub, AM.look_cons, AM.look_nil, V.uses, V.usesL, V.uses_data, da_i, da_chV, da_ruV, da_prV, da_enV, da_cfV, da_veV, da_inV, da_edV, da_grV, da_weV, da_mbV, da_suV, da_viV])))
    rw [← h2, orI_drop (i := i) zo, if_pos (by assumption)]
  · (refine Runs.ret1 Try.func83 rfl zM zD ?_; try exact zX)
    rw [List.drop_eq_nil_of_le zo] at h2; rw [← h2]; exact V.Le.refl _
def cmpP (a b : Proposal) : Int := orI [cmpI a.admin b.admin, cmpI a.number b.number]
end Go.Proofs
namespace Go.Proofs
open Go.AM
attribute [local irreducible] AM.evalR AM.evalD AM.Runs AM.valK AM.dK AM.opK AM.stepR AM.CallS AM.St.Le
def bs (k : Nat → Int) (i j : Nat) : Nat := if h : i < j then (if k ((i + j) / 2) < 0 then bs k ((i + j) / 2 + 1) j else bs k i ((i + j) / 2)) else i
termination_by j - i
decreasing_by all_goals omega
def hasB (c : Config) (p : Proposal) : Bool :=
  let r := bs (fun i => cmpP (c.getD i default) p) 0 c.length
  decide (r < c.length ∧ cmpP (c.getD r default) p = 0)
def containsB (a b : Config) : Bool := b.all (hasB a)
end Go.Proofs
namespace Go.Proofs
open Go.AM
attribute [local irreducible] AM.evalR AM.evalD AM.Runs AM.valK AM.dK AM.opK AM.stepR AM.CallS AM.St.Le
def indexI (n k : Int) : Int := if k < 1 then 0 else n % k
theorem tmod_add (n k : Int) (hk : 1 ≤ k) : (n.tmod k + k) % k = n % k := by
  rw [Int.add_emod_right, Int.tmod_eq_emod]
  split
  · simp
  · rw [show (k.natAbs : Int) = k by omega]; simp
theorem kit_Index (n k : Int) (hk : k ≤ 4611686018427387904) : AM.Fn Try.prog 93 [.i n, .i k] (.i (indexI n k)) := by
  (refine spec_of_runs Try.func93 rfl ?_; simp only [Try.f93]; refine ys ?_)
  repeat' (first | refine yw ?_ | ((with_reducible refine Runs.is ?_); first | refine Runs.region (id := 0) ?_ | refine Runs.region (id := 1) ?_ | refine Runs.region (id := 2) ?_ | ((with_reducible refine Runs.isC ?_); refine Runs.cond rfl (zc ?_) (zc ?_) <;> intro hc <;> (try (first | contradiction | (exfalso; omega; done) | (have : hc = trivial := rfl; clear this; clear hc))))) | ((with_reducible refine r_is ?_); first | refine yr ?_) | fail)
  · (refine Runs.ret1 Try.func93 rfl zM zD ?_; try exact zX)
    simp [indexI, *]
    exact V.Le.refl _
  · have h1 : -k < n.tmod k := by have := Int.lt_tmod_of_pos n (b := k) zo; omega
    have h2 : n.tmod k < k := Int.tmod_lt_of_pos n zo
    refine Runs.region ?_
    (refine r_v rfl (v_move ?_); all_goals (refine r_n zN ?_); refine r_v rfl (v_move ?_); all_goals (refine r_n zN ?_))
    refine r_v rfl (v_rem rfl rfl zo ?_)
    (refine r_v rfl (v_move ?_); all_goals (refine r_n zN ?_); (first | refine r_v rfl (v_add64 rfl rfl zo ?_) | refine r_v rfl (v_add rfl rfl ?_)); all_goals (refine r_n zN ?_); refine r_v rfl (v_move ?_); all_goals (refine r_n zN ?_); (first | refine r_v rfl (v_rem64 rfl rfl zo ?_) | refine r_v rfl (v_rem rfl rfl zo ?_)); all_goals (refine r_n zN ?_); refine r_v rfl (v_assign ?_); all_goals (refine r_n zN ?_); refine r_end ?_)
    (refine Runs.ret1 Try.func93 rfl zM zD ?_; try exact zX)
    refine V.Le.of_eq (congrArg V.i ?_)
    rw [indexI, if_neg zo, tmod_add n k zo]
def digitI (n b i : Int) : Int := indexI n 1099511627776 / b ^ i.toNat % b
theorem kit_Digit (n b i : Int) (hb : 2 ≤ b) (hi : i ≤ 9223372036854775806) : AM.Fn Try.prog 70 [.i n, .i b, .i i] (.i (digitI n b i)) := by
  have hx : 0 ≤ indexI n 1099511627776 ∧ indexI n 1099511627776 < 1099511627776 := by unfold indexI; rw [if_neg zd]; omega
  (refine spec_of_runs Try.func70 rfl ?_; simp only [Try.f70]; refine ys ?_)
  repeat' (first | refine yw ?_ | ((with_reducible refine Runs.is ?_); first | refine Runs.region (id := 0) ?_ | refine Runs.region (id := 1) ?_ | refine Runs.region (id := 2) ?_ | ((with_reducible refine Runs.isC ?_); refine Runs.cond rfl (zc ?_) (zc ?_) <;> intro hc <;> (try (first | contradiction | (exfalso; omega; done) | (have : hc = trivial := rfl; clear this; clear hc))))) | ((with_reducible refine r_is ?_); first | refine yr ?_ | (refine r_fn rfl (kit_Index n 1099511627776 zd) HbF.h zL2 zD ?_; refine r_nn zN zH ?_)) | fail)
  refine Runs.loopI (fun k : Nat => i.toNat - k) (fun k => k ≤ i.toNat ∧ 0 ≤ indexI n 1099511627776 / b ^ k ∧ indexI n 1099511627776 / b ^ k < 1099511627776)
    (fun k => ⟨[.any, .i b, .i i, .any, .any, .any, .any, .i (indexI n 1099511627776 / b ^ k), .i (k : Nat), .any, .any, .any, .any, .any, .any, .any, .any, .any, .any, .any, .any, .any], []⟩) 0 (by simpa using hx) ?_ ?_
  · simp only [Int.pow_zero, Int.ediv_one]; (refine St.Le.clean zR (by simp [V.usesL, V.uses, AM.look_cons, AM.look_nil, V.uses_data, da_i, da_chV, da_ruV, da_prV, da_enV, da_cfV, da_veV, da_inV, da_edV, da_grV, da_weV, da_mbV, da_suV, da_viV]) (by simp [AM.sub, AM.look_cons, AM.look_nil, V.uses, V.usesL, V.uses_data, da_i, da_chV, da_ruV, da_prV, da_enV, da_cfV, da_veV, da_inV, da_edV, da_grV, da_weV, da_mbV, da_suV, da_viV]))
  rintro k ⟨h0, h1, h2⟩ ih
  repeat' (first | refine yw ?_ | ((with_reducible refine Runs.is ?_); first | refine Runs.region (id := 3) ?_ | refine Runs.region (id := 5) ?_ | refine Runs.region (id := 4) ?_ | refine Runs.region (id := 6) ?_ | ((with_reducible refine Runs.isC ?_); refine Runs.cond rfl (zc ?_) (zc ?_) <;> intro hc <;> (try (first | contradiction | (exfalso; omega; done) | (have : hc = trivial := rfl; clear this; clear hc))))) | ((with_reducible refine r_is ?_); first | refine yr ?_) | fail)
  · have e : indexI n 1099511627776 / b ^ k / b = indexI n 1099511627776 / b ^ (k + 1) := by rw [Int.ediv_ediv_of_nonneg (Int.pow_nonneg zo), Int.pow_succ]
    rw [e]
    refine ih (k + 1) _ ⟨by omega, ?_, ?_⟩ zo (by (refine St.Le.clean zR (by simp [V.usesL, V.uses, AM.look_cons, AM.look_nil, V.uses_data, da_i, da_chV, da_ruV, da_prV, da_enV, da_cfV, da_veV, da_inV, da_edV, da_grV, da_weV, da_mbV, da_suV, da_viV]) (by simp [AM.sub, AM.look_cons, AM.look_nil, V.uses, V.usesL, V.uses_data, da_i, da_chV, da_ruV, da_prV, da_enV, da_cfV, da_veV, da_inV, da_edV, da_grV, da_weV, da_mbV, da_suV, da_viV])))
    · rw [← e]; exact Int.ediv_nonneg h1 zo
    · rw [← e]; exact Int.lt_of_le_of_lt (Int.ediv_le_self _ h1) h2
  · (refine Runs.ret1 Try.func70 rfl zM zD ?_; try exact zX)
    refine V.Le.of_eq (congrArg V.i ?_)
    have : k = i.toNat := by omega
    rw [digitI, this]
def atI (l : List Int) (i : Int) : Int := if l = [] then 0 else l.getD (indexI i l.length).toNat 0
theorem kit_At (f : Bool) (l : List Int) (i : Int) (hl : l.length ≤ 4611686018427387904) : AM.Fn Try.prog 71 [.sl f (l.map .i), .i i] (.i (atI l i)) := by
  (refine spec_of_runs Try.func71 rfl ?_; simp only [Try.f71]; refine ys ?_)
  repeat' (first | refine yw ?_ | ((with_reducible refine Runs.is ?_); first | refine Runs.region (id := 0) ?_ | refine Runs.region (id := 1) ?_ | refine Runs.region (id := 2) ?_ | ((with_reducible refine Runs.isC ?_); refine Runs.cond rfl (zc ?_) (zc ?_) <;> intro hc <;> (try (first | contradiction | (exfalso; omega; done) | (have : hc = trivial := rfl; clear this; clear hc))))) | ((with_reducible refine r_is ?_); first | refine yr ?_) | fail)
  · (refine Runs.ret1 Try.func71 rfl zM zD ?_; try exact zX)
    have : l = [] := List.eq_nil_of_length_eq_zero zo
    subst this; exact V.Le.refl _
  · have hne : l ≠ [] := by rintro rfl; simp at hc
    have hb : 0 ≤ indexI i l.length ∧ indexI i l.length < l.length := by
      unfold indexI; rw [if_neg zo]
      exact ⟨Int.emod_nonneg _ zo, Int.emod_lt_of_pos _ zo⟩
    repeat' (first | refine yw ?_ | ((with_reducible refine Runs.is ?_); first | refine Runs.region (id := 3) ?_ | ((with_reducible refine Runs.isC ?_); refine Runs.cond rfl (zc ?_) (zc ?_) <;> intro hc <;> (try (first | contradiction | (exfalso; omega; done) | (have : hc = trivial := rfl; clear this; clear hc))))) | ((with_reducible refine r_is ?_); first | refine yr ?_ | (refine r_fn rfl (kit_Index i l.length zo) HbF.h zL2 zD ?_; refine r_nn zN zH ?_)) | fail)
    (refine Runs.ret1 Try.func71 rfl zM zD ?_; try exact zX)
    rw [atI, if_neg hne]; exact V.Le.refl _
theorem cmpP_neg {p q : Proposal} : cmpP p q = -1 ↔ (p.admin < q.admin ∨ p.admin = q.admin ∧ p.number < q.number) := by
  unfold cmpP orI orI orI cmpI; split <;> (repeat' split) <;> (repeat' split at *) <;> omega
theorem cmpP_zero {p q : Proposal} : cmpP p q = 0 ↔ (p.admin = q.admin ∧ p.number = q.number) := by
  unfold cmpP orI orI orI cmpI; split <;> (repeat' split) <;> (repeat' split at *) <;> omega
theorem cmpP_pos {p q : Proposal} : cmpP p q = 1 ↔ (q.admin < p.admin ∨ p.admin = q.admin ∧ q.number < p.number) := by
  unfold cmpP orI orI orI cmpI; split <;> (repeat' split) <;> (repeat' split at *) <;> omega
theorem ref_Compare (p q : Proposal) : AM.Fn Try.prog 68 [prV p, prV q] (.i (cmpP p q)) := by
  (refine spec_of_runs Try.func68 rfl ?_; simp only [Try.f68]; refine ys ?_)
  repeat' (first | refine yw ?_ | ((with_reducible refine Runs.is ?_); first | refine Runs.region ?_ | ((with_reducible refine Runs.isC ?_); refine Runs.cond rfl (zc ?_) (zc ?_) <;> intro hc <;> (try (first | contradiction | (exfalso; omega; done) | (have : hc = trivial := rfl; clear this; clear hc))))) | ((with_reducible refine r_is ?_); first | refine yr ?_ | ((with_reducible refine r_gd ?_); (first | refine r_guardPf rfl rfl ?_ ?_ | refine r_guardNf rfl rfl ?_ ?_ | refine r_guardPt rfl rfl ?_ ?_ | refine r_guardNt rfl rfl ?_ ?_ | refine r_guard rfl rfl ?_ ?_) <;> intro hG <;> (try (exfalso; omega; done)) <;> refine r_nn zN zH ?_)) | fail)
  all_goals ((refine Runs.ret1 Try.func68 rfl zM zD ?_; try exact zX); refine V.Le.of_eq (congrArg V.i ?_); symm)
  all_goals first | exact cmpP_neg.2 zo | exact cmpP_zero.2 zo | exact cmpP_pos.2 zo
def hasR (c : Config) (p : Proposal) : Bool := c.any fun x => decide (cmpP x p = 0)
def containsR (a b : Config) : Bool := b.all (hasR a)
def countR : Vector → Int → Int
  | [], _ => 0
  | e :: v, a => if e.author = a then e.count else countR v a
theorem ref_Count (f : Bool) (v : Vector) (a : Int) : AM.Fn Try.prog 94 [.sl f (v.map enV), .i a] (.i (countR v a)) := by
  (refine spec_of_runs Try.func94 rfl ?_; simp only [Try.f94]; refine ys ?_)
  (refine Runs.lens 0 ?_; refine yl ?_)
  intro hl
  repeat' (first | refine yw ?_ | ((with_reducible refine Runs.is ?_); first | refine Runs.region (id := 0) ?_ | refine Runs.region (id := 1) ?_ | ((with_reducible refine Runs.isC ?_); refine Runs.cond rfl (zc ?_) (zc ?_) <;> intro hc <;> (try (first | contradiction | (exfalso; omega; done) | (have : hc = trivial := rfl; clear this; clear hc))))) | ((with_reducible refine r_is ?_); first | refine yr ?_) | fail)
  refine Runs.loopI (fun i : Nat => v.length - i) (fun i => i ≤ v.length ∧ countR (v.drop i) a = countR v a)
    (fun i => ⟨[.sl f (v.map enV), .i a, .any, .any, .any, .i (i : Nat), .any, .any, .any, .any, .any, .any, .any, .any, .any, .any, .any, .any, .any, .any, .any, .any, .any, .any], []⟩) 0 (by simp) ?_ ?_
  · (refine St.Le.clean zR (by simp [V.usesL, V.uses, AM.look_cons, AM.look_nil, V.uses_data, da_i, da_chV, da_ruV, da_prV, da_enV, da_cfV, da_veV, da_inV, da_edV, da_grV, da_weV, da_mbV, da_suV, da_viV]) (by simp [AM.sub, AM.look_cons, AM.look_nil, V.uses, V.usesL, V.uses_data, da_i, da_chV, da_ruV, da_prV, da_enV, da_cfV, da_veV, da_inV, da_edV, da_grV, da_weV, da_mbV, da_suV, da_viV]))
  rintro i ⟨h0, h1⟩ ih
  repeat' (first | refine yw ?_ | ((with_reducible refine Runs.is ?_); first | refine Runs.region (id := 2) ?_ | refine Runs.region (id := 4) ?_ | refine Runs.region (id := 5) ?_ | refine Runs.region (id := 3) ?_ | refine Runs.region (id := 6) ?_ | ((with_reducible refine Runs.isC ?_); refine Runs.cond rfl (zc ?_) (zc ?_) <;> intro hc <;> (try (first | contradiction | (exfalso; omega; done) | (have : hc = trivial := rfl; clear this; clear hc))))) | ((with_reducible refine r_is ?_); first | refine yr ?_) | fail)
  · (refine Runs.ret1 Try.func94 rfl zM zD ?_; try exact zX)
    rw [← h1, drop_getD zo, countR, if_pos (by assumption)]; exact V.Le.refl _
  · refine ih (i + 1) _ ⟨by omega, ?_⟩ zo (by (refine St.Le.clean zR (by simp [V.usesL, V.uses, AM.look_cons, AM.look_nil, V.uses_data, da_i, da_chV, da_ruV, da_prV, da_enV, da_cfV, da_veV, da_inV, da_edV, da_grV, da_weV, da_mbV, da_suV, da_viV]) (by simp [AM.sub, AM.look_cons, AM.look_nil, V.uses, V.usesL, V.uses_data, da_i, da_chV, da_ruV, da_prV, da_enV, da_cfV, da_veV, da_inV, da_edV, da_grV, da_weV, da_mbV, da_suV, da_viV])))
    rw [← h1, drop_getD (i := i) zo, countR, if_neg (by assumption)]
  · (refine Runs.ret1 Try.func94 rfl zM zD ?_; try exact zX)
    rw [← h1, List.drop_eq_nil_of_le zo]; exact V.Le.refl _
end Go.Proofs
namespace Go.Proofs
open Go.AM
attribute [local irreducible] AM.evalR AM.evalD AM.Runs AM.valK AM.dK AM.opK AM.stepR AM.CallS AM.St.Le
theorem filter_take {α : Type} [Inhabited α] {k : α → Bool} {xs : List α} {i : Nat} (h : i < xs.length) : (xs.take (i + 1)).filter k = (xs.take i).filter k ++ if k (xs.getD i default) then [xs.getD i default] else [] := by
  rw [take_getD h, List.filter_append]
  congr 1
  generalize xs.getD i default = x
  cases hk : k x <;> simp [hk]
def Small (c : Config) : Prop := c.length ≤ 1000000000 ∧ ∀ p ∈ c, p.changes.length ≤ 1000000000000
theorem Small.getD {c : Config} (h : Small c) (i : Nat) : (c.getD i default).changes.length ≤ 1000000000000 := by
  by_cases hi : i < c.length
  · rw [List.getD_eq_getElem?_getD, List.getElem?_eq_getElem hi]; exact h.2 _ (List.getElem_mem hi)
  · rw [List.getD_eq_getElem?_getD, List.getElem?_eq_none zo]; exact Nat.zero_le _
end Go.Proofs
namespace Go.Proofs
open Go.AM
attribute [local irreducible] AM.evalR AM.evalD AM.Runs AM.valK AM.dK AM.opK AM.stepR AM.CallS AM.St.Le
def vbs (v : Vector) (a : Int) : Nat := bs (fun i => cmpI (v.getD i default).author a) 0 v.length
def getV (v : Vector) (a : Int) : Int := if vbs v a < v.length ∧ cmpI (v.getD (vbs v a) default).author a = 0 then (v.getD (vbs v a) default).count else 0
def restrictV (c : Config) (v : Vector) : Config := c.filter fun p => decide (p.number ≤ getV v p.admin)
end Go.Proofs
namespace Go.Proofs
open Go.AM
attribute [local irreducible] AM.evalR AM.evalD AM.Runs AM.valK AM.dK AM.opK AM.stepR AM.CallS AM.St.Le
def restrictR (c : Config) (v : Vector) : Config := c.filter fun p => decide (p.number ≤ countR v p.admin)
theorem ref_Restrict (f g : Bool) (c : Config) (v : Vector) (hs1 : c.length ≤ 1000000000) :
    AM.Spec Try.prog 73 [.sl f (c.map prV), .sl g (v.map enV)] [] (OwnPost 41 3 fun l => l = (restrictR c v).map prV) := by
  (refine spec_of_runs Try.func73 rfl ?_; simp only [Try.f73]; refine ys ?_)
  repeat' (first | refine yw ?_ | ((with_reducible refine Runs.is ?_); first | refine Runs.region (id := 0) ?_ | refine Runs.region (id := 1) ?_ | refine Runs.region (id := 2) ?_ | ((with_reducible refine Runs.isC ?_); refine Runs.cond rfl (zc ?_) (zc ?_) <;> intro hc <;> (try (first | contradiction | (exfalso; omega; done) | (have : hc = trivial := rfl; clear this; clear hc))))) | ((with_reducible refine r_is ?_); first | refine yr ?_) | fail)
  refine Runs.weaken (St.Le.nil 5 41 3 5 zd rfl rfl zE) ?_
  refine Runs.loopI (fun i : Nat => c.length - i) (fun i => i ≤ c.length)
    (fun i => ⟨[.sl f (c.map prV), .sl g (v.map enV), .any, .any, .any, .own 5, .i (i : Nat), .any, .any, .any, .any, .any, .any, .any, .any, .any, .any, .any, .any, .any, .any, .any, .any, .any, .any, .any, .any, .any, .any, .any, .any, .any, .any, .any], [(5, .lst 41 3 ((restrictR (c.take i) v).map prV))]⟩) 0 (by simp) ?_ ?_
  · refine St.Le.clean zR ?_ ?_
    · simp [V.usesL, V.uses, AM.look_cons]
    · exact ⟨⟨rfl, trivial⟩, trivial⟩
  rintro i h0 ih
  have hfl : (restrictR (c.take i) v).length ≤ i := Nat.le_trans (List.length_filter_le _ _) (by rw [List.length_take]; omega)
  repeat' (first | refine yw ?_ | ((with_reducible refine Runs.is ?_); first | refine Runs.region (id := 3) ?_ | refine Runs.drawn (id := 5) mixed zK ?_ | refine Runs.region (id := 6) ?_ | refine Runs.region (id := 4) ?_ | refine Runs.region (id := 7) ?_ | ((with_reducible refine Runs.isC ?_); refine Runs.cond rfl (zc ?_) (zc ?_) <;> intro hc <;> (try (first | contradiction | (exfalso; omega; done) | (have : hc = trivial := rfl; clear this; clear hc))))) | ((with_reducible refine r_is ?_); first | refine yr ?_ | (refine r_append_full SlF.h SlF.s ZoF.h zd rfl rfl zC zJ zS rfl (fun hn => ?_) (fun hn => ?_) <;> refine r_nn zN zH ?_)) | ((with_reducible refine d_is ?_); first | refine yd ?_ | (refine d_fn rfl (ref_Count g v _) HbF.h zL2 zD ?_; refine d_nn zN zH ?_)) | fail)
  · refine ih (i + 1) _ zo zo ?_
    refine St.Le.clean zR ?_ ?_
    · simp [V.usesL, V.uses, AM.look_cons]
    · unfold restrictR; rw [filter_take zo, if_pos (decide_eq_true hc)]
      exact ⟨⟨by simp [AM.look_cons], trivial⟩, trivial⟩
  · refine ih (i + 1) _ zo zo ?_
    refine St.Le.clean zR ?_ ?_
    · simp [V.usesL, V.uses, AM.look_cons]
    · unfold restrictR; rw [filter_take zo, decide_eq_false (Int.not_le.2 hc), if_neg Bool.false_ne_true]
      exact ⟨⟨by simp [AM.look_cons], trivial⟩, trivial⟩
  · refine Runs.ret_own Try.func73 rfl rfl rfl ?_
    rw [List.take_of_length_le zo]
def withStep (a n : Int) (s : Vector × Bool) (e : Entry) : Vector × Bool :=
  let s1 : Vector × Bool := if s.2 = false ∧ a ≤ e.author then (s.1 ++ [⟨a, n⟩], true) else s
  if e.author = a then s1 else (s1.1 ++ [e], s1.2)
def withR (v : Vector) (a n : Int) : Vector :=
  if a < 1 ∨ n < 0 ∨ 1000000 < n then v else
    let s := v.foldl (withStep a n) ([], decide (n = 0))
    if s.2 then s.1 else s.1 ++ [⟨a, n⟩]
theorem foldl_take {α β : Type} [Inhabited α] {g : β → α → β} {s : β} {xs : List α} {i : Nat} (h : i < xs.length) : (xs.take (i + 1)).foldl g s = g ((xs.take i).foldl g s) (xs.getD i default) := by
  rw [take_getD h, List.foldl_append]; rfl
section
variable {a n : Int} {l : Vector} {put : Bool} {e : Entry}
end
end Go.Proofs
namespace Go.Proofs
open Go.AM
attribute [local irreducible] AM.evalR AM.evalD AM.Runs AM.valK AM.dK AM.opK AM.stepR AM.CallS AM.St.Le
theorem withStep_mem (a n : Int) (v : Vector) (s : Vector × Bool) : ∀ e ∈ (v.foldl (withStep a n) s).1, e ∈ s.1 ∨ e ∈ v ∨ e = ⟨a, n⟩ := by
  induction v generalizing s with
  | nil => intro e he; exact .inl he
  | cons x v ih =>
    intro e he
    rcases ih _ e he with h | h | h
    · obtain ⟨l, put⟩ := s
      unfold withStep at h
      dsimp only at h
      split at h <;> split at h <;> simp at h <;> simp <;> grind
    · exact .inr (.inl (List.mem_cons_of_mem _ h))
    · exact .inr (.inr h)
theorem withR_mem {v : Vector} {a n : Int} {e : Entry} (h : e ∈ withR v a n) : e ∈ v ∨ (e = ⟨a, n⟩ ∧ 0 ≤ n ∧ n ≤ 1000000) := by
  unfold withR at h
  split at h
  · exact .inl h
  · dsimp only at h
    split at h
    · rcases withStep_mem a n v _ e h with h | h | h
      · cases h
      · exact .inl h
      · exact .inr ⟨h, by omega, by omega⟩
    · rcases List.mem_append.1 h with h | h
      · rcases withStep_mem a n v _ e h with h | h | h
        · cases h
        · exact .inl h
        · exact .inr ⟨h, by omega, by omega⟩
      · exact .inr ⟨by simpa using h, by omega, by omega⟩
def Mild (v : Vector) : Prop := ∀ e ∈ v, 0 ≤ e.count ∧ e.count ≤ 1000000
theorem Mild.count {v : Vector} (h : Mild v) (a : Int) : 0 ≤ countR v a ∧ countR v a ≤ 1000000 := by
  induction v with
  | nil => simp [countR]
  | cons e v ih =>
    unfold countR
    split
    · exact h e (List.mem_cons_self ..)
    · exact ih fun x hx => h x (List.mem_cons_of_mem _ hx)
theorem Mild.withR {v : Vector} (h : Mild v) (a n : Int) : Mild (withR v a n) := by
  intro e he
  rcases withR_mem he with h' | ⟨rfl, h1, h2⟩
  · exact h e h'
  · exact ⟨h1, h2⟩
def vecStep (v : Vector) (p : Proposal) : Vector := withR v p.admin (countR v p.admin + 1)
def vectorR (c : Config) : Vector := c.foldl vecStep []
end Go.Proofs
namespace Go.Proofs
open Go.AM
attribute [local irreducible] AM.evalR AM.evalD AM.Runs AM.valK AM.dK AM.opK AM.stepR AM.CallS AM.St.Le
theorem digit4 (n i : Int) : 0 ≤ digitI n 4 i ∧ digitI n 4 i < 4 := by unfold digitI; omega
def partV (n : Int) (k : Nat) : Vector := (List.range k).filterMap fun i : Nat => if digitI n 4 i > 0 then some ⟨201 + i, digitI n 4 i⟩ else none
def partI (c : Config) (n : Int) : Config := restrictR c (partV n 3)
theorem partV_succ (n : Int) (k : Nat) : partV n (k + 1) = partV n k ++ if digitI n 4 k > 0 then [⟨201 + k, digitI n 4 k⟩] else [] := by
  unfold partV; rw [List.range_succ, List.filterMap_append]; congr 1; simp [List.filterMap_cons]; split <;> simp_all
theorem partV3 (n : Int) : partV n 3 = (if 0 < digitI n 4 0 then [⟨201 + 0, digitI n 4 0⟩] else []) ++ (if 0 < digitI n 4 1 then [⟨201 + (0 + 1), digitI n 4 1⟩] else []) ++ (if 0 < digitI n 4 2 then [⟨201 + (0 + 1 + 1), digitI n 4 2⟩] else []) := by
  rw [partV_succ, partV_succ, partV_succ]; rfl
theorem kit_Part (f : Bool) (c : Config) (n : Int) (hs1 : c.length ≤ 1000000000) : AM.Fn Try.prog 36 [.sl f (c.map prV), .i n] (.sl false ((partI c n).map prV)) := by
  have d0 := digit4 n 0
  have d1 := digit4 n 1
  have d2 := digit4 n 2
  (refine spec_of_runs Try.func36 rfl ?_; simp only [Try.f36]; refine ys ?_)
  repeat' (first | refine yw ?_ | ((with_reducible refine Runs.is ?_); first | refine Runs.region (id := 0) ?_ | refine Runs.region (id := 1) ?_ | refine Runs.region (id := 2) ?_ | ((with_reducible refine Runs.isC ?_); refine Runs.cond rfl (zc ?_) (zc ?_) <;> intro hc <;> (try (first | contradiction | (exfalso; omega; done) | (have : hc = trivial := rfl; clear this; clear hc))))) | ((with_reducible refine r_is ?_); first | refine yr ?_) | fail)
  refine Runs.loop ?_
  repeat' (first | refine yw ?_ | ((with_reducible refine Runs.is ?_); first | refine Runs.region (id := 3) ?_ | refine Runs.region (id := 5) ?_ | refine Runs.region (id := 6) ?_ | refine Runs.region (id := 4) ?_ | ((with_reducible refine Runs.isC ?_); refine Runs.cond rfl (zc ?_) (zc ?_) <;> intro hc <;> (try (first | contradiction | (exfalso; omega; done) | (have : hc = trivial := rfl; clear this; clear hc))))) | ((with_reducible refine r_is ?_); first | refine yr ?_ | (refine r_fn rfl (kit_Digit n 4 0 zd zd) HbF.h zL3 zD ?_; refine r_nn zN zH ?_) | (refine r_fn rfl (kit_Digit n 4 1 zd zd) HbF.h zL3 zD ?_; refine r_nn zN zH ?_) | (refine r_fn rfl (kit_Digit n 4 2 zd zd) HbF.h zL3 zD ?_; refine r_nn zN zH ?_) | (refine r_append_full SlF.h SlF.s ZoF.h zd rfl rfl zC zJ zS rfl (fun hn => ?_) (fun hn => ?_) <;> refine r_nn zN zH ?_)) | fail)
  all_goals (try omega)
  all_goals (refine Runs.inLoop ?_)
  all_goals
    repeat' (first | refine yw ?_ | ((with_reducible refine Runs.is ?_); first | refine Runs.region (id := 3) ?_ | refine Runs.region (id := 5) ?_ | refine Runs.region (id := 6) ?_ | refine Runs.region (id := 4) ?_ | ((with_reducible refine Runs.isC ?_); refine Runs.cond rfl (zc ?_) (zc ?_) <;> intro hc <;> (try (first | contradiction | (exfalso; omega; done) | (have : hc = trivial := rfl; clear this; clear hc))))) | ((with_reducible refine r_is ?_); first | refine yr ?_ | (refine r_fn rfl (kit_Digit n 4 0 zd zd) HbF.h zL3 zD ?_; refine r_nn zN zH ?_) | (refine r_fn rfl (kit_Digit n 4 1 zd zd) HbF.h zL3 zD ?_; refine r_nn zN zH ?_) | (refine r_fn rfl (kit_Digit n 4 2 zd zd) HbF.h zL3 zD ?_; refine r_nn zN zH ?_) | (refine r_append_full SlF.h SlF.s ZoF.h zd rfl rfl zC zJ zS rfl (fun hn => ?_) (fun hn => ?_) <;> refine r_nn zN zH ?_)) | fail)
  all_goals (try omega)
  all_goals (refine Runs.inLoop ?_)
  all_goals
    repeat' (first | refine yw ?_ | ((with_reducible refine Runs.is ?_); first | refine Runs.region (id := 3) ?_ | refine Runs.region (id := 5) ?_ | refine Runs.region (id := 6) ?_ | refine Runs.region (id := 4) ?_ | ((with_reducible refine Runs.isC ?_); refine Runs.cond rfl (zc ?_) (zc ?_) <;> intro hc <;> (try (first | contradiction | (exfalso; omega; done) | (have : hc = trivial := rfl; clear this; clear hc))))) | ((with_reducible refine r_is ?_); first | refine yr ?_ | (refine r_fn rfl (kit_Digit n 4 0 zd zd) HbF.h zL3 zD ?_; refine r_nn zN zH ?_) | (refine r_fn rfl (kit_Digit n 4 1 zd zd) HbF.h zL3 zD ?_; refine r_nn zN zH ?_) | (refine r_fn rfl (kit_Digit n 4 2 zd zd) HbF.h zL3 zD ?_; refine r_nn zN zH ?_) | (refine r_append_full SlF.h SlF.s ZoF.h zd rfl rfl zC zJ zS rfl (fun hn => ?_) (fun hn => ?_) <;> refine r_nn zN zH ?_)) | fail)
  all_goals (try omega)
  all_goals (refine Runs.inLoop ?_)
  all_goals
    repeat' (first | refine yw ?_ | ((with_reducible refine Runs.is ?_); first | refine Runs.region (id := 3) ?_ | refine Runs.region (id := 5) ?_ | refine Runs.region (id := 6) ?_ | refine Runs.region (id := 4) ?_ | ((with_reducible refine Runs.isC ?_); refine Runs.cond rfl (zc ?_) (zc ?_) <;> intro hc <;> (try (first | contradiction | (exfalso; omega; done) | (have : hc = trivial := rfl; clear this; clear hc))))) | ((with_reducible refine r_is ?_); first | refine yr ?_ | (refine r_fn rfl (kit_Digit n 4 0 zd zd) HbF.h zL3 zD ?_; refine r_nn zN zH ?_) | (refine r_fn rfl (kit_Digit n 4 1 zd zd) HbF.h zL3 zD ?_; refine r_nn zN zH ?_) | (refine r_fn rfl (kit_Digit n 4 2 zd zd) HbF.h zL3 zD ?_; refine r_nn zN zH ?_) | (refine r_append_full SlF.h SlF.s ZoF.h zd rfl rfl zC zJ zS rfl (fun hn => ?_) (fun hn => ?_) <;> refine r_nn zN zH ?_)) | fail)
  all_goals (try omega)
  all_goals (have e := partV3 n)
  all_goals (simp (disch := omega) only [if_pos, if_neg, List.nil_append, List.append_nil, List.cons_append] at e)
  all_goals (try (refine Runs.weaken (St.Le.freeze_lst 24 rfl) ?_; simp only [V.frzL, V.frz, frzH, if_true, ↓reduceIte, Nat.reduceEqDiff]))
  all_goals (refine Runs.weaken (St.Le.clean (s' := ⟨[.sl f (c.map prV), .any, .any, .any, .any, .sl false ((partV n 3).map enV), .any, .any, .any, .any, .any, .any, .any, .any, .any, .any, .any, .any, .any, .any, .any, .any, .any, .any, .any, .any, .any, .any], []⟩) (by rw [e]; repeat' (first | exact V.LeL.refl _ | exact V.LeL.nil | refine V.LeL.cons ?_ ?_ | exact V.Le.refl _ | exact V.Le.full _ | exact V.Le.nil _ | exact V.Le.any _ | refine V.Le.aggL ?_ | assumption)) (by simp [V.usesL, V.uses]) trivial) ?_)
  all_goals
    repeat' (first | refine yw ?_ | ((with_reducible refine Runs.is ?_); first | refine Runs.region (id := 7) ?_ | ((with_reducible refine Runs.isC ?_); refine Runs.cond rfl (zc ?_) (zc ?_) <;> intro hc <;> (try (first | contradiction | (exfalso; omega; done) | (have : hc = trivial := rfl; clear this; clear hc))))) | ((with_reducible refine r_is ?_); first | refine yr ?_ | (refine r_fn rfl (Fn.of_own (ref_Restrict f false c (partV n 3) hs1)) HbF.h zL2 zD ?_; refine r_nn zN zH ?_)) | fail)
  all_goals ((refine Runs.ret1 Try.func36 rfl zM zD ?_; try exact zX))
end Go.Proofs
namespace Go.Proofs
open Go.AM
attribute [local irreducible] AM.evalR AM.evalD AM.Runs AM.valK AM.dK AM.opK AM.stepR AM.CallS AM.St.Le
def vecStepV (v : Vector) (p : Proposal) : Vector :=
  if 0 < v.length ∧ (v.getD (v.length - 1) default).author = p.admin then v.set (v.length - 1) ⟨(v.getD (v.length - 1) default).author, (v.getD (v.length - 1) default).count + 1⟩ else v ++ [⟨p.admin, 1⟩]
def vectorV (c : Config) : Vector := c.foldl vecStepV []
def withA (v : Vector) (a n : Int) : Vector := if n = 0 then v else v ++ [⟨a, n⟩]
def upto (a b : Int) : List Int := (List.range (b + 1 - a).toNat).map fun k : Nat => a + k
theorem upto_succ {a b : Int} (h : a ≤ b + 1) : upto a (b + 1) = upto a b ++ [b + 1] := by
  unfold upto
  have e : (b + 1 + 1 - a).toNat = (b + 1 - a).toNat + 1 := by omega
  rw [e, List.range_succ, List.map_append, List.map_cons, List.map_nil]
  congr 2; omega
theorem upto_snoc {lo n : Int} (h : lo ≤ n) : upto lo n = upto lo (n - 1) ++ [n] := by
  have := upto_succ (a := lo) (b := n - 1) zo
  rwa [show n - 1 + 1 = n by omega] at this
theorem upto_len (a b : Int) : (upto a b).length = (b + 1 - a).toNat := by simp [upto]
def stepI (low : Vector) (e : Entry) (v : Vector) : List Vector := (upto (getV low e.author) e.count).map fun n => withA v e.author n
def vectorsStep (low : Vector) (out : List Vector) (e : Entry) : List Vector := out.flatMap (stepI low e)
def vectorsV (low high : Vector) : List Vector := high.foldl (vectorsStep low) [[]]
def Fine (v : Vector) : Prop := v.length ≤ 3 ∧ v.Pairwise (fun x y => x.author < y.author) ∧ ∀ e ∈ v, 1 ≤ e.author ∧ 0 ≤ e.count ∧ e.count ≤ 3
def Below (a : Int) (k : Nat) (out : List Vector) : Prop := ∀ v ∈ out, v.length ≤ k ∧ ∀ e ∈ v, e.author < a
end Go.Proofs
namespace Go.Proofs
open Go.AM
attribute [local irreducible] AM.evalR AM.evalD AM.Runs AM.valK AM.dK AM.opK AM.stepR AM.CallS AM.St.Le
theorem take_eq_succ {α : Type} [Inhabited α] {xs ys : List α} {i : Nat} (h1 : i < xs.length) (h2 : i < ys.length) (h : xs.take i = ys.take i) (he : xs.getD i default = ys.getD i default) : xs.take (i + 1) = ys.take (i + 1) := by
  rw [take_getD h1, take_getD h2, h, he]
theorem eq_of_take {α : Type} {xs ys : List α} {i : Nat} (hl : xs.length = ys.length) (hi : xs.length ≤ i) (h : xs.take i = ys.take i) : xs = ys := by
  rwa [List.take_of_length_le hi, List.take_of_length_le zo] at h
theorem ne_at {α : Type} [Inhabited α] {xs ys : List α} {i : Nat} (h : ¬ xs.getD i default = ys.getD i default) : ¬ xs = ys := fun e => h (by rw [e])
end Go.Proofs
namespace Go.Proofs
open Go.AM
attribute [local irreducible] AM.evalR AM.evalD AM.Runs AM.valK AM.dK AM.opK AM.stepR AM.CallS AM.St.Le
def allB (a b : Config) : List Config := if containsB b a then (vectorsV (vectorV a) (vectorV b)).map (restrictV b) else []
def Few (nodes : List Config) : Prop := nodes.length ≤ 100000 ∧ ∀ c ∈ nodes, c.length ≤ 1000000000
theorem Few.getD {nodes : List Config} (h : Few nodes) (i : Nat) : (nodes.getD i default).length ≤ 1000000000 := by
  by_cases hi : i < nodes.length
  · rw [List.getD_eq_getElem?_getD, List.getElem?_eq_getElem hi]; exact h.2 _ (List.getElem_mem hi)
  · rw [List.getD_eq_getElem?_getD, List.getElem?_eq_none zo]; exact Nat.zero_le _
end Go.Proofs
namespace Go.Proofs
open Go.AM Go.Sort
def sortI (zs : List Int) : List Int := zs.mergeSort fun x y => decide (x ≤ y)
theorem sortI_length (zs : List Int) : (sortI zs).length = zs.length := by simp [sortI]
theorem sort_turns (zs : List Int) (hsz : zs.length < 4611686018427387904) : AM.Turns Try.prog 58 3 zs (sortI zs) := by
  intro w x hrow
  rcases hrow.2 with ⟨rfl, h0⟩ | ⟨g, cap, cur, rfl, hb, hg, h1, h2, h3, h4⟩
  · have e : zs = [] := List.eq_nil_of_length_eq_zero h0
    subst e
    refine (Try.slices_Sort_int_none none 0 w).mono ?_
    rintro e w' ⟨rfl, rfl⟩
    exact ⟨rfl, by simpa [sortI] using hrow, Ext.refl _ _⟩
  · have ht : cur.toList.take zs.length = zs.map (Value.int .i64) := by simpa using h4
    refine (Try.slices_Sort_int g 0 cap zs w (holds_of_blockI hg ht) (Array.getElem?_eq_some_iff.1 hg).1 hsz).mono ?_
    rintro e w' ⟨rfl, n, os, rfl⟩
    have hl : (sortI zs).length = zs.length := sortI_length zs
    refine ⟨rfl, ?_, ?_⟩
    · have := ownsRow_sortedI (n := n) (os := os) hl hb hg h1 h2 h3
      rw [hl]; exact this
    · have := grownBy_sortedI (w := w) (g := g) (n := n) (os := os) (sortI zs).toArray
      obtain ⟨q1, q2, q3, q4, q5⟩ := this
      exact ⟨q1, q2, q3, q4, fun b hb hne => q5 b hb (fun e => hne (by simpa [blk, eq_comm] using e))⟩
end Go.Proofs
namespace Go.Proofs
open Go.AM
attribute [local irreducible] AM.evalR AM.evalD AM.Runs AM.valK AM.dK AM.opK AM.stepR AM.CallS AM.St.Le
theorem ref_EqualInts (f g : Bool) (a b : List Int) : AM.Fn Try.prog 44 [.sl f (a.map .i), .sl g (b.map .i)] (.b (decide (a = b))) := by
  (refine spec_of_runs Try.func44 rfl ?_; simp only [Try.f44]; refine ys ?_)
  (refine Runs.lens 0 ?_; refine yl ?_)
  intro hl0
  repeat' (first | refine yw ?_ | ((with_reducible refine Runs.is ?_); first | refine Runs.region (id := 0) ?_ | refine Runs.region (id := 1) ?_ | refine Runs.region (id := 2) ?_ | refine Runs.region (id := 3) ?_ | ((with_reducible refine Runs.isC ?_); refine Runs.cond rfl (zc ?_) (zc ?_) <;> intro hc <;> (try (first | contradiction | (exfalso; omega; done) | (have : hc = trivial := rfl; clear this; clear hc))))) | ((with_reducible refine r_is ?_); first | refine yr ?_) | fail)
  all_goals (try ((refine Runs.ret1 Try.func44 rfl zM zD ?_; try exact zX); rw [decide_eq_false (by intro e; subst e; simp at *)]; exact V.Le.refl _))
  refine Runs.loopI (fun i : Nat => a.length - i) (fun i => i ≤ a.length ∧ a.take i = b.take i)
    (fun i => ⟨[.sl f (a.map .i), .sl g (b.map .i), .any, .any, .any, .i (i : Nat), .any, .any, .any, .any, .any, .any, .any, .any, .any, .any, .any, .any, .any, .any, .any, .any, .any, .any, .any, .any], []⟩) 0 (by simp) ?_ ?_
  · (refine St.Le.clean zR (by simp [V.usesL, V.uses, AM.look_cons, AM.look_nil, V.uses_data, da_i, da_chV, da_ruV, da_prV, da_enV, da_cfV, da_veV, da_inV, da_edV, da_grV, da_weV, da_mbV, da_suV, da_viV]) (by simp [AM.sub, AM.look_cons, AM.look_nil, V.uses, V.usesL, V.uses_data, da_i, da_chV, da_ruV, da_prV, da_enV, da_cfV, da_veV, da_inV, da_edV, da_grV, da_weV, da_mbV, da_suV, da_viV]))
  rintro i ⟨h0, h1⟩ ih
  repeat' (first | refine yw ?_ | ((with_reducible refine Runs.is ?_); first | refine Runs.region (id := 4) ?_ | refine Runs.drawn (id := 6) mixed zK ?_ | refine Runs.region (id := 7) ?_ | refine Runs.region (id := 5) ?_ | refine Runs.region (id := 8) ?_ | ((with_reducible refine Runs.isC ?_); refine Runs.cond rfl (zc ?_) (zc ?_) <;> intro hc <;> (try (first | contradiction | (exfalso; omega; done) | (have : hc = trivial := rfl; clear this; clear hc))))) | ((with_reducible refine r_is ?_); first | refine yr ?_) | ((with_reducible refine d_is ?_); first | refine yd ?_) | fail)
  · (refine Runs.ret1 Try.func44 rfl zM zD ?_; try exact zX)
    rw [decide_eq_false (ne_at hc)]; exact V.Le.refl _
  · refine ih (i + 1) _ ⟨by omega, take_eq_succ zo zo h1 hc⟩ zo (by (refine St.Le.clean zR (by simp [V.usesL, V.uses, AM.look_cons, AM.look_nil, V.uses_data, da_i, da_chV, da_ruV, da_prV, da_enV, da_cfV, da_veV, da_inV, da_edV, da_grV, da_weV, da_mbV, da_suV, da_viV]) (by simp [AM.sub, AM.look_cons, AM.look_nil, V.uses, V.usesL, V.uses_data, da_i, da_chV, da_ruV, da_prV, da_enV, da_cfV, da_veV, da_inV, da_edV, da_grV, da_weV, da_mbV, da_suV, da_viV])))
  · (refine Runs.ret1 Try.func44 rfl zM zD ?_; try exact zX)
    rw [decide_eq_true (eq_of_take zo zo h1)]; exact V.Le.refl _
end Go.Proofs
namespace Go.Proofs
open Go.AM
attribute [local irreducible] AM.evalR AM.evalD AM.Runs AM.valK AM.dK AM.opK AM.stepR AM.CallS AM.St.Le
def idxF (k : Int → Bool) : List Int → Nat → Int
  | [], _ => -1
  | x :: xs, i => if k x then (i : Int) else idxF k xs (i + 1)
theorem idxF_any (k : Int → Bool) (l : List Int) (i : Nat) : decide (0 ≤ idxF k l i) = l.any k := by
  induction l generalizing i with
  | nil => simp [idxF]
  | cons x xs ih =>
    unfold idxF
    rw [List.any_cons]
    cases h : k x
    · simpa using ih (i + 1)
    · simp
def wr (n : Int) : Int := IntKind.i64.wrap n
end Go.Proofs
namespace Go.Proofs
open Go.AM
attribute [local irreducible] AM.evalR AM.evalD AM.Runs AM.valK AM.dK AM.opK AM.stepR AM.CallS AM.St.Le
theorem cmp_Less (a b : Int) : AM.Fn Try.prog 103 [.i a, .i b] (.b (decide (a < b))) := by
  (refine spec_of_runs Try.func103 rfl ?_; simp only [Try.f103]; refine ys ?_)
  repeat' (first | refine yw ?_ | ((with_reducible refine Runs.is ?_); first | refine Runs.region ?_ | ((with_reducible refine Runs.isC ?_); refine Runs.cond rfl (zc ?_) (zc ?_) <;> intro hc <;> (try (first | contradiction | (exfalso; omega; done) | (have : hc = trivial := rfl; clear this; clear hc))))) | ((with_reducible refine r_is ?_); first | refine yr ?_ | (refine r_fn rfl (cmp_isNaN _) HbF.h zL1 zD ?_; refine r_nn zN zH ?_) | ((with_reducible refine r_gd ?_); (first | refine r_guardPf rfl rfl ?_ ?_ | refine r_guardNf rfl rfl ?_ ?_ | refine r_guardPt rfl rfl ?_ ?_ | refine r_guardNt rfl rfl ?_ ?_ | refine r_guard rfl rfl ?_ ?_) <;> intro hG <;> (try (exfalso; omega; done)) <;> refine r_nn zN zH ?_)) | fail)
  (refine Runs.ret1 Try.func103 rfl zM zD ?_; try exact zX)
theorem sl_isNaN (a : Int) : AM.Fn Try.prog 109 [.i a] (.b false) := by
  (refine spec_of_runs Try.func109 rfl ?_; simp only [Try.f109]; refine ys ?_)
  repeat' (first | refine yw ?_ | ((with_reducible refine Runs.is ?_); first | refine Runs.region ?_ | ((with_reducible refine Runs.isC ?_); refine Runs.cond rfl (zc ?_) (zc ?_) <;> intro hc <;> (try (first | contradiction | (exfalso; omega; done) | (have : hc = trivial := rfl; clear this; clear hc))))) | ((with_reducible refine r_is ?_); first | refine yr ?_) | fail)
  (refine Runs.ret1 Try.func109 rfl zM zD ?_; try exact zX)
def ltK (l : List Int) (x : Int) (t : Nat) : Int := if l.getD t default < x then -1 else 1
def bsI (l : List Int) (x : Int) : Nat := bs (ltK l x) 0 l.length
def foundI (l : List Int) (x : Int) : Bool := decide (bsI l x < l.length ∧ l.getD (bsI l x) default = x)
theorem ltK_neg {l : List Int} {x : Int} {t : Nat} : ltK l x t < 0 ↔ l.getD t default < x := by unfold ltK; split <;> omega
theorem search_ints (f : Bool) (l : List Int) (x : Int) : AM.Fn Try.prog 86 [.sl f (l.map .i), .i x] (.tup [.i (bsI l x : Nat), .b (foundI l x)]) := by
  (refine spec_of_runs Try.func86 rfl ?_; simp only [Try.f86]; refine ys ?_)
  (refine Runs.lens 0 ?_; refine yl ?_)
  intro hl
  repeat' (first | refine yw ?_ | ((with_reducible refine Runs.is ?_); first | refine Runs.region (id := 0) ?_ | refine Runs.region (id := 1) ?_ | refine Runs.region (id := 2) ?_ | ((with_reducible refine Runs.isC ?_); refine Runs.cond rfl (zc ?_) (zc ?_) <;> intro hc <;> (try (first | contradiction | (exfalso; omega; done) | (have : hc = trivial := rfl; clear this; clear hc))))) | ((with_reducible refine r_is ?_); first | refine yr ?_) | fail)
  refine Runs.loopI (α := Nat × Nat) (fun a => a.2 - a.1) (fun a => a.1 ≤ a.2 ∧ a.2 ≤ l.length ∧ bs (ltK l x) a.1 a.2 = bs (ltK l x) 0 l.length)
    (fun a => ⟨[.sl f (l.map .i), .i x, .any, .any, .any, .any, .i (l.length : Nat), .i (a.1 : Nat), .i (a.2 : Nat), .any, .any, .any, .any, .any, .any, .any, .any, .any, .any, .any, .any, .any, .any, .any, .any, .any, .any, .any, .any, .any, .any, .any, .any, .any, .any, .any, .any, .any, .any, .any, .any, .any, .any, .any, .any, .any, .any, .any, .any, .any, .any, .any, .any, .any], []⟩) (0, l.length) (by simp) ?_ ?_
  · (refine St.Le.clean zR zU zV)
  rintro ⟨i, j⟩ ⟨h0, h1, h2⟩ ih
  dsimp only at h0 h1 h2
  by_cases hij : i < j
  · repeat' (first | refine yw ?_ | ((with_reducible refine Runs.is ?_); first | refine Runs.region (id := 3) ?_ | refine Runs.region (id := 4) ?_ | refine Runs.region (id := 5) ?_ | refine Runs.region (id := 6) ?_ | refine Runs.region (id := 7) ?_ | ((with_reducible refine Runs.isC ?_); refine Runs.cond rfl (zc ?_) (zc ?_) <;> intro hc <;> (try (first | contradiction | (exfalso; omega; done) | (have : hc = trivial := rfl; clear this; clear hc))))) | ((with_reducible refine r_is ?_); first | refine yr ?_ | (refine r_fn rfl (cmp_Less _ _) HbF.h zL2 zD ?_; refine r_nn zN zH ?_)) | fail)
    · have e : (((i : Int) + (j : Int)) / 2).toNat = (i + j) / 2 := by omega
      rw [e] at hc
      refine ih ((i + j) / 2 + 1, j) _ ⟨by dsimp only; omega, h1, ?_⟩ (by dsimp only; omega) (by (refine St.Le.clean zR zU zV))
      rw [← h2, bs.eq_1 _ i j, dif_pos hij, if_pos (ltK_neg.2 hc)]
    · have e : (((i : Int) + (j : Int)) / 2).toNat = (i + j) / 2 := by omega
      rw [e] at hc
      refine ih (i, (i + j) / 2) _ ⟨by dsimp only; omega, by dsimp only; omega, ?_⟩ (by dsimp only; omega) (by (refine St.Le.clean zR zU zV))
      rw [← h2, bs.eq_1 _ i j, dif_pos hij, if_neg (fun h => by have := ltK_neg.1 h; omega)]
  · have e : bs (ltK l x) i j = i := by rw [bs.eq_1, dif_neg zo]
    rw [e] at h2
    have hr : bsI l x = i := h2.symm
    rw [foundI, hr]
    repeat' (first | refine yw ?_ | ((with_reducible refine Runs.is ?_); first | refine Runs.region (id := 3) ?_ | ((with_reducible refine Runs.isC ?_); refine Runs.cond rfl (zc ?_) (zc ?_) <;> intro hc <;> (try (first | contradiction | (exfalso; omega; done) | (have : hc = trivial := rfl; clear this; clear hc))))) | ((with_reducible refine r_is ?_); first | refine yr ?_) | fail)
    repeat' (first | refine yw ?_ | ((with_reducible refine Runs.is ?_); first | refine Runs.region (id := 8) ?_ | ((with_reducible refine Runs.isC ?_); refine Runs.cond rfl (zc ?_) (zc ?_) <;> intro hc <;> (try (first | contradiction | (exfalso; omega; done) | (have : hc = trivial := rfl; clear this; clear hc))))) | ((with_reducible refine r_is ?_); first | refine yr ?_ | (refine r_fn rfl (sl_isNaN _) HbF.h zL1 zD ?_; refine r_nn zN zH ?_) | ((with_reducible refine r_gd ?_); (first | refine r_guardPf rfl rfl ?_ ?_ | refine r_guardNf rfl rfl ?_ ?_ | refine r_guardPt rfl rfl ?_ ?_ | refine r_guardNt rfl rfl ?_ ?_ | refine r_guard rfl rfl ?_ ?_) <;> intro hG <;> (try (exfalso; omega; done)) <;> refine r_nn zN zH ?_)) | fail)
    all_goals ((refine Runs.ret2 Try.func86 rfl zM zM zD ?_; try exact zX))
    all_goals (refine V.Le.of_eq ?_; congr 3; refine congrArg V.b (Eq.symm ?_); first | exact decide_eq_true ⟨by omega, hG⟩ | exact decide_eq_false (fun q => hG q.2) | exact decide_eq_false (fun q => by have := q.1; omega))
theorem duplicate_ints (f : Bool) (l : List Int) (hl : l.length ≤ 1000000000) : AM.Spec Try.prog 85 [.sl f (l.map .i)] [] (OwnPost 3 1 fun r => r = l.map .i) := by
  (refine spec_of_runs Try.func85 rfl ?_; simp only [Try.f85]; refine ys ?_)
  repeat' (first | refine yw ?_ | ((with_reducible refine Runs.is ?_); first | refine Runs.region ?_ | ((with_reducible refine Runs.isC ?_); refine Runs.cond rfl (zc ?_) (zc ?_) <;> intro hc <;> (try (first | contradiction | (exfalso; omega; done) | (have : hc = trivial := rfl; clear this; clear hc))))) | ((with_reducible refine r_is ?_); first | refine yr ?_ | (refine r_copyA SlF.h SlF.s rfl rfl rfl zC (by simp) ?_; refine r_nn zN zH ?_)) | fail)
  · obtain rfl : l = [] := List.eq_nil_of_length_eq_zero zo
    exact Runs.ret_nil Try.func85 rfl rfl zd rfl rfl
  · exact Runs.ret_own Try.func85 rfl rfl rfl rfl
theorem index_ints (f : Bool) (l : List Int) (x : Int) : AM.Fn Try.prog 92 [.sl f (l.map .i), .i x] (.i (idxF (fun y => decide (y = x)) l 0)) := by
  (refine spec_of_runs Try.func92 rfl ?_; simp only [Try.f92]; refine ys ?_)
  (refine Runs.lens 0 ?_; refine yl ?_)
  intro hl
  repeat' (first | refine yw ?_ | ((with_reducible refine Runs.is ?_); first | refine Runs.region (id := 0) ?_ | refine Runs.region (id := 1) ?_ | ((with_reducible refine Runs.isC ?_); refine Runs.cond rfl (zc ?_) (zc ?_) <;> intro hc <;> (try (first | contradiction | (exfalso; omega; done) | (have : hc = trivial := rfl; clear this; clear hc))))) | ((with_reducible refine r_is ?_); first | refine yr ?_) | fail)
  refine Runs.loopI (fun i : Nat => l.length - i) (fun i => i ≤ l.length ∧ idxF (fun y => decide (y = x)) (l.drop i) i = idxF (fun y => decide (y = x)) l 0)
    (fun i => ⟨[.sl f (l.map .i), .i x, .any, .any, .any, .any, .any, .i (l.length : Nat), .i (i : Nat), .any, .any, .any, .any, .any, .any, .any, .any, .any, .any], []⟩) 0 (by simp) ?_ ?_
  · (refine St.Le.clean zR zU zV)
  rintro i ⟨h0, h1⟩ ih
  by_cases hi : i < l.length
  · rw [drop_getD hi, idxF] at h1
    repeat' (first | refine yw ?_ | ((with_reducible refine Runs.is ?_); first | refine Runs.region (id := 2) ?_ | refine Runs.region (id := 3) ?_ | refine Runs.region (id := 4) ?_ | refine Runs.region (id := 5) ?_ | refine Runs.region (id := 6) ?_ | refine Runs.region (id := 7) ?_ | ((with_reducible refine Runs.isC ?_); refine Runs.cond rfl (zc ?_) (zc ?_) <;> intro hc <;> (try (first | contradiction | (exfalso; omega; done) | (have : hc = trivial := rfl; clear this; clear hc))))) | ((with_reducible refine r_is ?_); first | refine yr ?_) | fail)
    · (refine Runs.ret1 Try.func92 rfl zM zD ?_; try exact zX)
      rw [← h1, if_pos (by simpa using hc.symm)]; exact V.Le.refl _
    · refine ih (i + 1) _ ⟨by omega, by rw [← h1, if_neg (by simpa using fun e => hc e.symm)]⟩ zo ?_
      (refine St.Le.clean zR zU zV)
  · repeat' (first | refine yw ?_ | ((with_reducible refine Runs.is ?_); first | refine Runs.region (id := 2) ?_ | refine Runs.region (id := 3) ?_ | refine Runs.region (id := 4) ?_ | refine Runs.region (id := 5) ?_ | refine Runs.region (id := 6) ?_ | refine Runs.region (id := 7) ?_ | ((with_reducible refine Runs.isC ?_); refine Runs.cond rfl (zc ?_) (zc ?_) <;> intro hc <;> (try (first | contradiction | (exfalso; omega; done) | (have : hc = trivial := rfl; clear this; clear hc))))) | ((with_reducible refine r_is ?_); first | refine yr ?_) | fail)
    (refine Runs.ret1 Try.func92 rfl zM zD ?_; try exact zX)
    rw [← h1, List.drop_eq_nil_of_le zo]; exact V.Le.refl _
theorem contains_ints (f : Bool) (l : List Int) (x : Int) : AM.Fn Try.prog 66 [.sl f (l.map .i), .i x] (.b (l.contains x)) := by
  have h := index_ints f l x
  have e : l.contains x = decide (0 ≤ idxF (fun y => decide (y = x)) l 0) := by
    rw [idxF_any, List.contains_eq_any_beq]
    congr 1
    funext y
    rw [Bool.eq_iff_iff, beq_iff_eq, decide_eq_true_eq]; exact ⟨Eq.symm, Eq.symm⟩
  rw [e]
  (refine spec_of_runs Try.func66 rfl ?_; simp only [Try.f66]; refine ys ?_)
  repeat' (first | refine yw ?_ | ((with_reducible refine Runs.is ?_); first | refine Runs.region ?_ | ((with_reducible refine Runs.isC ?_); refine Runs.cond rfl (zc ?_) (zc ?_) <;> intro hc <;> (try (first | contradiction | (exfalso; omega; done) | (have : hc = trivial := rfl; clear this; clear hc))))) | ((with_reducible refine r_is ?_); first | refine yr ?_ | (refine r_fn rfl (h) HbF.h zL2 zD ?_; refine r_nn zN zH ?_)) | fail)
  (refine Runs.ret1 Try.func66 rfl zM zD ?_; try exact zX)
end Go.Proofs
namespace Go.Proofs
open Go.AM
attribute [local irreducible] AM.evalR AM.evalD AM.Runs AM.valK AM.dK AM.opK AM.stepR AM.CallS AM.St.Le
def putI (l : List Int) (x : Int) : List Int := l.take (bsI l x) ++ x :: l.drop (bsI l x)
def insI (l : List Int) (x : Int) : List Int := if foundI l x then l else putI l x
def unionI (a b : List Int) : List Int := b.foldl insI a
def InsI (l : List Int) (x : Int) : Prop := AM.Gives Try.prog 87 1000 [.i (bsI l x : Nat), .sl true [.i x]] 3 1 (l.map .i) (fun r => r = (putI l x).map .i)
theorem member_union (f g : Bool) (a b : List Int) (ha : a.length ≤ 1000000000) (hI : ∀ k, k < b.length → foundI ((b.take k).foldl insI a) (b.getD k default) = false → InsI ((b.take k).foldl insI a) (b.getD k default)) :
    AM.Fn Try.prog 63 [.sl f (a.map .i), .sl g (b.map .i)] (.sl false ((unionI a b).map .i)) := by
  (refine spec_of_runs Try.func63 rfl ?_; simp only [Try.f63]; refine ys ?_)
  (refine Runs.lens 1 ?_; refine yl ?_)
  intro hlb
  repeat' (first | refine yw ?_ | ((with_reducible refine Runs.is ?_); first | refine Runs.region (id := 0) ?_ | refine Runs.region (id := 1) ?_ | refine Runs.region (id := 2) ?_ | ((with_reducible refine Runs.isC ?_); refine Runs.cond rfl (zc ?_) (zc ?_) <;> intro hc <;> (try (first | contradiction | (exfalso; omega; done) | (have : hc = trivial := rfl; clear this; clear hc))))) | ((with_reducible refine r_is ?_); first | refine yr ?_ | (refine r_own rfl (duplicate_ints f a ha) HbF.h zL1 zD rfl (fun _ hq _ => ?_); (try subst hq); refine r_nn zN zH ?_)) | fail)
  refine Runs.loopI (fun k : Nat => b.length - k) (fun k => k ≤ b.length)
    (fun k => ⟨[.any, .any, .any, .any, .any, .own 11, .any, .any, .any, .any, .any, .any, .sl g (b.map .i), .i (b.length : Nat), .i (k : Nat), .any, .any, .any, .any, .any, .any, .any, .any, .any, .any, .any, .any, .any, .any, .any, .any, .any, .any], [(11, .lst 3 1 (((b.take k).foldl insI a).map .i))]⟩) 0 (by simp) ?_ ?_
  · (refine St.Le.clean zR zU zV)
  rintro k hk ih
  have hst := fun (h : k < b.length) => foldl_take (g := insI) (s := a) h
  have hend : b.length ≤ k → (b.take k).foldl insI a = unionI a b := fun h => by rw [List.take_of_length_le h]; rfl
  have hIk := hI k
  generalize (b.take k).foldl insI a = l at hst hend hIk ⊢
  by_cases hlt : k < b.length
  · have hst2 := hst hlt
    have hI2 := hIk hlt
    by_cases hf : foundI l (b.getD k default) = true
    · rw [insI, if_pos hf] at hst2
      repeat' (first | refine yw ?_ | ((with_reducible refine Runs.is ?_); first | refine Runs.region (id := 3) ?_ | refine Runs.region (id := 4) ?_ | refine Runs.region (id := 5) ?_ | refine Runs.region (id := 6) ?_ | refine Runs.region (id := 7) ?_ | refine Runs.region (id := 8) ?_ | ((with_reducible refine Runs.isC ?_); refine Runs.cond rfl (zc ?_) (zc ?_) <;> intro hc <;> (try (first | contradiction | (exfalso; omega; done) | (have : hc = trivial := rfl; clear this; clear hc))))) | ((with_reducible refine r_is ?_); first | refine yr ?_ | (refine r_lend rfl (search_ints false _ _) HbF.h zY rfl ?_; refine r_nn zN zH ?_)) | fail)
      · exfalso; rw [hf] at hc; cases hc
      · refine ih (k + 1) _ zo zo ?_
        rw [hst2]
        (refine St.Le.clean zR zU zV)
    · have hf2 : foundI l (b.getD k default) = false := by simpa using hf
      rw [insI, if_neg hf] at hst2
      have hI3 := hI2 hf2
      unfold InsI at hI3
      repeat' (first | refine yw ?_ | ((with_reducible refine Runs.is ?_); first | refine Runs.region (id := 3) ?_ | refine Runs.region (id := 4) ?_ | refine Runs.region (id := 5) ?_ | refine Runs.region (id := 6) ?_ | refine Runs.region (id := 7) ?_ | refine Runs.region (id := 8) ?_ | ((with_reducible refine Runs.isC ?_); refine Runs.cond rfl (zc ?_) (zc ?_) <;> intro hc <;> (try (first | contradiction | (exfalso; omega; done) | (have : hc = trivial := rfl; clear this; clear hc))))) | ((with_reducible refine r_is ?_); first | refine yr ?_ | (refine r_lend rfl (search_ints false _ _) HbF.h zY rfl ?_; refine r_nn zN zH ?_) | (refine r_give rfl (hI3) HbF.h rfl rfl zL2 zD ?_; refine r_nn zN zH ?_)) | fail)
      · refine ih (k + 1) _ zo zo ?_
        rw [hst2]
        (refine St.Le.clean zR zU zV)
  · repeat' (first | refine yw ?_ | ((with_reducible refine Runs.is ?_); first | refine Runs.region (id := 3) ?_ | ((with_reducible refine Runs.isC ?_); refine Runs.cond rfl (zc ?_) (zc ?_) <;> intro hc <;> (try (first | contradiction | (exfalso; omega; done) | (have : hc = trivial := rfl; clear this; clear hc))))) | ((with_reducible refine r_is ?_); first | refine yr ?_) | fail)
    rw [hend zo]
    repeat' (first | refine yw ?_ | ((with_reducible refine Runs.is ?_); first | refine Runs.region (id := 9) ?_ | ((with_reducible refine Runs.isC ?_); refine Runs.cond rfl (zc ?_) (zc ?_) <;> intro hc <;> (try (first | contradiction | (exfalso; omega; done) | (have : hc = trivial := rfl; clear this; clear hc))))) | ((with_reducible refine r_is ?_); first | refine yr ?_) | fail)
    exact Runs.ret_frz Try.func63 rfl rfl rfl rfl
theorem member_newer (a b : WeightEntry) : AM.Fn Try.prog 61 [weV a, weV b] (.b (decide (0 < orI [cmpI b.version a.version, cmpI b.admin a.admin, cmpI b.number a.number]))) := by
  (refine spec_of_runs Try.func61 rfl ?_; simp only [Try.f61]; refine ys ?_)
  repeat' (first | refine yw ?_ | ((with_reducible refine Runs.is ?_); first | refine Runs.region ?_ | refine Runs.drawn mixed zK ?_ | ((with_reducible refine Runs.isC ?_); refine Runs.cond rfl (zc ?_) (zc ?_) <;> intro hc <;> (try (first | contradiction | (exfalso; omega; done) | (have : hc = trivial := rfl; clear this; clear hc))))) | ((with_reducible refine r_is ?_); first | refine yr ?_) | ((with_reducible refine d_is ?_); first | refine yd ?_ | (refine d_fn rfl (cmp_Compare _ _) HbF.h zL2 zD ?_; refine d_nn zN zH ?_) | (refine d_fn rfl (cmp_Or true [_, _, _]) HbF.h zL1 zD ?_; refine d_nn zN zH ?_)) | fail)
  (refine Runs.ret1 Try.func61 rfl zM zD ?_; try exact zX)
def newerW (a b : WeightEntry) : Bool := decide (0 < orI [cmpI b.version a.version, cmpI b.admin a.admin, cmpI b.number a.number])
def originW (s : Summary) : WeightEntry := ⟨0, 0, s.version, s.admin, s.number⟩
theorem member_origin (s : Summary) : AM.Fn Try.prog 62 [suV s] (weV (originW s)) := by
  (refine spec_of_runs Try.func62 rfl ?_; simp only [Try.f62]; refine ys ?_)
  repeat' (first | refine yw ?_ | ((with_reducible refine Runs.is ?_); first | refine Runs.region ?_ | ((with_reducible refine Runs.isC ?_); refine Runs.cond rfl (zc ?_) (zc ?_) <;> intro hc <;> (try (first | contradiction | (exfalso; omega; done) | (have : hc = trivial := rfl; clear this; clear hc))))) | ((with_reducible refine r_is ?_); first | refine yr ?_) | fail)
  (refine Runs.retC Try.func62 rfl zM rfl TyF.h (And.intro zE zd) zD ?_; try exact zX)
theorem weights1 (a b : WeightEntry) : AM.Fn Try.prog 90 [weV a, weV b] (.i (cmpI a.server b.server)) := by
  (refine spec_of_runs Try.func90 rfl ?_; simp only [Try.f90]; refine ys ?_)
  repeat' (first | refine yw ?_ | ((with_reducible refine Runs.is ?_); first | refine Runs.region ?_ | ((with_reducible refine Runs.isC ?_); refine Runs.cond rfl (zc ?_) (zc ?_) <;> intro hc <;> (try (first | contradiction | (exfalso; omega; done) | (have : hc = trivial := rfl; clear this; clear hc))))) | ((with_reducible refine r_is ?_); first | refine yr ?_ | (refine r_fn rfl (cmp_Compare _ _) HbF.h zL2 zD ?_; refine r_nn zN zH ?_)) | fail)
  (refine Runs.ret1 Try.func90 rfl zM zD ?_; try exact zX)
theorem duplicate_we (f : Bool) (l : List WeightEntry) (hl : l.length ≤ 1000000000) : AM.Spec Try.prog 88 [.sl f (l.map weV)] [] (OwnPost 73 5 fun r => r = l.map weV) := by
  (refine spec_of_runs Try.func88 rfl ?_; simp only [Try.f88]; refine ys ?_)
  repeat' (first | refine yw ?_ | ((with_reducible refine Runs.is ?_); first | refine Runs.region ?_ | ((with_reducible refine Runs.isC ?_); refine Runs.cond rfl (zc ?_) (zc ?_) <;> intro hc <;> (try (first | contradiction | (exfalso; omega; done) | (have : hc = trivial := rfl; clear this; clear hc))))) | ((with_reducible refine r_is ?_); first | refine yr ?_ | (refine r_copyA SlF.h SlF.s rfl rfl rfl zC (by simp) ?_; refine r_nn zN zH ?_)) | fail)
  · obtain rfl : l = [] := List.eq_nil_of_length_eq_zero zo
    exact Runs.ret_nil Try.func88 rfl rfl zd rfl rfl
  · exact Runs.ret_own Try.func88 rfl rfl rfl rfl
def weK (l : List WeightEntry) (w : WeightEntry) (t : Nat) : Int := cmpI (l.getD t default).server w.server
def bsW (l : List WeightEntry) (w : WeightEntry) : Nat := bs (weK l w) 0 l.length
def foundW (l : List WeightEntry) (w : WeightEntry) : Bool := decide (bsW l w < l.length ∧ cmpI (l.getD (bsW l w) default).server w.server = 0)
theorem search_we (f : Bool) (l : List WeightEntry) (w : WeightEntry) (g : FuncId) (hg : ∀ x, AM.Fn Try.prog g [weV x, weV w] (.i (cmpI x.server w.server))) (hb : hasBody Try.prog g) :
    AM.Fn Try.prog 89 [.sl f (l.map weV), weV w, .fn g []] (.tup [.i (bsW l w : Nat), .b (foundW l w)]) := by
  (refine spec_of_runs Try.func89 rfl ?_; simp only [Try.f89]; refine ys ?_)
  (refine Runs.lens 0 ?_; refine yl ?_)
  intro hl
  repeat' (first | refine yw ?_ | ((with_reducible refine Runs.is ?_); first | refine Runs.region (id := 0) ?_ | refine Runs.region (id := 1) ?_ | refine Runs.region (id := 2) ?_ | ((with_reducible refine Runs.isC ?_); refine Runs.cond rfl (zc ?_) (zc ?_) <;> intro hc <;> (try (first | contradiction | (exfalso; omega; done) | (have : hc = trivial := rfl; clear this; clear hc))))) | ((with_reducible refine r_is ?_); first | refine yr ?_) | fail)
  refine Runs.loopI (α := Nat × Nat) (fun a => a.2 - a.1) (fun a => a.1 ≤ a.2 ∧ a.2 ≤ l.length ∧ bs (weK l w) a.1 a.2 = bs (weK l w) 0 l.length)
    (fun a => ⟨[.sl f (l.map weV), .any, .fn g [], .any, .ptr 4 0 0, .any, .any, .any, .i (l.length : Nat), .i (a.1 : Nat), .i (a.2 : Nat), .any, .any, .any, .any, .any, .any, .any, .any, .any, .any, .any, .any, .any, .any, .any, .any, .any, .any, .any, .any, .any, .any, .any, .any, .any, .any, .any, .any, .any, .any, .any, .any, .any, .any, .any, .any, .any, .any], [(4, .var 73 (weV w))]⟩) (0, l.length) (by simp) ?_ ?_
  · (refine St.Le.clean zR zU zV)
  rintro ⟨i, j⟩ ⟨h0, h1, h2⟩ ih
  dsimp only at h0 h1 h2
  by_cases hij : i < j
  · repeat' (first | refine yw ?_ | ((with_reducible refine Runs.is ?_); first | refine Runs.region (id := 3) ?_ | refine Runs.region (id := 4) ?_ | refine Runs.drawn (id := 5) mixed zK ?_ | refine Runs.region (id := 6) ?_ | refine Runs.region (id := 7) ?_ | ((with_reducible refine Runs.isC ?_); refine Runs.cond rfl (zc ?_) (zc ?_) <;> intro hc <;> (try (first | contradiction | (exfalso; omega; done) | (have : hc = trivial := rfl; clear this; clear hc))))) | ((with_reducible refine r_is ?_); first | refine yr ?_) | ((with_reducible refine d_is ?_); first | refine yd ?_ | (refine d_fn rfl (hg _) (hb) zL2 zD ?_; refine d_nn zN zH ?_)) | fail)
    · have e : (((i : Int) + (j : Int)) / 2).toNat = (i + j) / 2 := by omega
      rw [e] at hc
      refine ih ((i + j) / 2 + 1, j) _ ⟨by dsimp only; omega, h1, ?_⟩ (by dsimp only; omega) (by (refine St.Le.clean zR zU zV))
      rw [← h2, bs.eq_1 _ i j, dif_pos hij, if_pos (show weK l w ((i + j) / 2) < 0 from hc)]
    · have e : (((i : Int) + (j : Int)) / 2).toNat = (i + j) / 2 := by omega
      rw [e] at hc
      refine ih (i, (i + j) / 2) _ ⟨by dsimp only; omega, by dsimp only; omega, ?_⟩ (by dsimp only; omega) (by (refine St.Le.clean zR zU zV))
      rw [← h2, bs.eq_1 _ i j, dif_pos hij, if_neg (show ¬ weK l w ((i + j) / 2) < 0 by unfold weK; omega)]
  · have e : bs (weK l w) i j = i := by rw [bs.eq_1, dif_neg zo]
    rw [e] at h2
    have hr : bsW l w = i := h2.symm
    rw [foundW, hr]
    repeat' (first | refine yw ?_ | ((with_reducible refine Runs.is ?_); first | refine Runs.region (id := 3) ?_ | ((with_reducible refine Runs.isC ?_); refine Runs.cond rfl (zc ?_) (zc ?_) <;> intro hc <;> (try (first | contradiction | (exfalso; omega; done) | (have : hc = trivial := rfl; clear this; clear hc))))) | ((with_reducible refine r_is ?_); first | refine yr ?_) | fail)
    repeat' (first | refine yw ?_ | ((with_reducible refine Runs.is ?_); first | refine Runs.drawn (id := 8) mixed zK ?_ | ((with_reducible refine Runs.isC ?_); refine Runs.cond rfl (zc ?_) (zc ?_) <;> intro hc <;> (try (first | contradiction | (exfalso; omega; done) | (have : hc = trivial := rfl; clear this; clear hc))))) | ((with_reducible refine d_is ?_); first | refine yd ?_ | (refine d_fn rfl (hg _) (hb) zL2 zD ?_; refine d_nn zN zH ?_) | ((with_reducible refine d_gd ?_); (first | refine d_guardPt rfl rfl ?_ ?_ | refine d_guardNt rfl rfl ?_ ?_ | refine d_guard rfl rfl ?_ ?_) <;> intro hG <;> (try (exfalso; omega; done)) <;> refine d_nn zN zH ?_)) | fail)
    all_goals ((refine Runs.ret2 Try.func89 rfl zM zM zD ?_; try exact zX))
    all_goals (refine V.Le.of_eq ?_; congr 3)
    · refine congrArg V.b (decide_eq_decide.2 ⟨fun h => ⟨by omega, h⟩, fun h => h.2⟩)
    · exact congrArg V.b (Eq.symm (decide_eq_false (fun q => by have := q.1; omega)))
def putW (l : List WeightEntry) (w : WeightEntry) : List WeightEntry := l.take (bsW l w) ++ w :: l.drop (bsW l w)
def insW (l : List WeightEntry) (w : WeightEntry) : List WeightEntry :=
  if foundW l w then (if newerW (l.getD (bsW l w) default) w then l.set (bsW l w) w else l) else putW l w
def weightsI (a b : List WeightEntry) : List WeightEntry := b.foldl insW a
def InsW (l : List WeightEntry) (w : WeightEntry) : Prop := AM.Gives Try.prog 91 1000 [.i (bsW l w : Nat), .sl true [weV w]] 73 5 (l.map weV) (fun r => r = (putW l w).map weV)
theorem member_weights (f g : Bool) (a b : List WeightEntry) (ha : a.length ≤ 1000000000) (hI : ∀ k, k < b.length → foundW ((b.take k).foldl insW a) (b.getD k default) = false → InsW ((b.take k).foldl insW a) (b.getD k default)) :
    AM.Fn Try.prog 64 [.sl f (a.map weV), .sl g (b.map weV)] (.sl false ((weightsI a b).map weV)) := by
  (refine spec_of_runs Try.func64 rfl ?_; simp only [Try.f64]; refine ys ?_)
  (refine Runs.lens 1 ?_; refine yl ?_)
  intro hlb
  repeat' (first | refine yw ?_ | ((with_reducible refine Runs.is ?_); first | refine Runs.region (id := 0) ?_ | refine Runs.region (id := 1) ?_ | refine Runs.region (id := 2) ?_ | ((with_reducible refine Runs.isC ?_); refine Runs.cond rfl (zc ?_) (zc ?_) <;> intro hc <;> (try (first | contradiction | (exfalso; omega; done) | (have : hc = trivial := rfl; clear this; clear hc))))) | ((with_reducible refine r_is ?_); first | refine yr ?_ | (refine r_own rfl (duplicate_we f a ha) HbF.h zL1 zD rfl (fun _ hq _ => ?_); (try subst hq); refine r_nn zN zH ?_)) | fail)
  refine Runs.loopI (fun k : Nat => b.length - k) (fun k => k ≤ b.length)
    (fun k => ⟨[.any, .any, .any, .any, .any, .own 11, .any, .any, .any, .any, .any, .any, .sl g (b.map weV), .i (b.length : Nat), .i (k : Nat), .any, .any, .any, .any, .any, .any, .any, .any, .any, .any, .any, .any, .any, .any, .any, .any, .any, .any, .any, .any, .any, .any, .any, .any, .any, .any, .any, .any, .any, .any], [(11, .lst 73 5 (((b.take k).foldl insW a).map weV))]⟩) 0 (by simp) ?_ ?_
  · (refine St.Le.clean zR zU zV)
  rintro k hk ih
  have hst := fun (h : k < b.length) => foldl_take (g := insW) (s := a) h
  have hend : b.length ≤ k → (b.take k).foldl insW a = weightsI a b := fun h => by rw [List.take_of_length_le h]; rfl
  have hIk := hI k
  generalize (b.take k).foldl insW a = l at hst hend hIk ⊢
  by_cases hlt : k < b.length
  · have hst2 := hst hlt
    have hI2 := hIk hlt
    by_cases hf : foundW l (b.getD k default) = true
    · rw [insW, if_pos hf] at hst2
      have hb : bsW l (b.getD k default) < l.length := by
        unfold foundW at hf; exact (of_decide_eq_true hf).1
      repeat' (first | refine yw ?_ | ((with_reducible refine Runs.is ?_); first | refine Runs.region (id := 3) ?_ | refine Runs.region (id := 4) ?_ | refine Runs.region (id := 5) ?_ | refine Runs.region (id := 6) ?_ | refine Runs.region (id := 7) ?_ | refine Runs.drawn (id := 8) mixed zK ?_ | refine Runs.region (id := 9) ?_ | refine Runs.region (id := 10) ?_ | ((with_reducible refine Runs.isC ?_); refine Runs.cond rfl (zc ?_) (zc ?_) <;> intro hc <;> (try (first | contradiction | (exfalso; omega; done) | (have : hc = trivial := rfl; clear this; clear hc))))) | ((with_reducible refine r_is ?_); first | refine yr ?_ | (refine r_lend rfl (search_we false _ _ _ (fun x => weights1 x _) hb90) HbF.h zY rfl ?_; refine r_nn zN zH ?_)) | ((with_reducible refine d_is ?_); first | refine yd ?_ | (refine d_fn rfl (member_newer _ _) HbF.h zL2 zD ?_; refine d_nn zN zH ?_)) | fail)
      · exfalso; rw [hf] at hc; cases hc
      · refine ih (k + 1) _ zo zo ?_
        rw [hst2, newerW, if_pos (by simpa using hc)]
        (refine St.Le.clean zR (by first | (simp [V.usesL, V.uses, AM.look_cons]; done) | (simp [V.usesL, V.uses, AM.look_cons, V.usesL_data, V.uses_data, da_i, da_chV, da_ruV, da_prV, da_enV, da_cfV, da_veV, da_inV, da_edV, da_grV, da_weV, da_mbV, da_suV, da_viV]; done)) ?_; (repeat' (first | exact True.intro | refine And.intro ?_ ?_)); all_goals (first | rfl | (simp [AM.look_cons, List.map_set, weV]; done) | (simp [V.uses, V.usesL, AM.look_cons, V.usesL_data, V.uses_data, da_i, da_chV, da_ruV, da_prV, da_enV, da_cfV, da_veV, da_inV, da_edV, da_grV, da_weV, da_mbV, da_suV, da_viV]; done)))
      · refine ih (k + 1) _ zo zo ?_
        rw [hst2, newerW, if_neg (by simpa using hc)]
        (refine St.Le.clean zR zU zV)
    · have hf2 : foundW l (b.getD k default) = false := by simpa using hf
      rw [insW, if_neg hf] at hst2
      have hI3 := hI2 hf2
      unfold InsW at hI3
      repeat' (first | refine yw ?_ | ((with_reducible refine Runs.is ?_); first | refine Runs.region (id := 3) ?_ | refine Runs.region (id := 4) ?_ | refine Runs.region (id := 5) ?_ | refine Runs.region (id := 6) ?_ | refine Runs.region (id := 7) ?_ | refine Runs.drawn (id := 8) mixed zK ?_ | refine Runs.region (id := 9) ?_ | refine Runs.region (id := 10) ?_ | ((with_reducible refine Runs.isC ?_); refine Runs.cond rfl (zc ?_) (zc ?_) <;> intro hc <;> (try (first | contradiction | (exfalso; omega; done) | (have : hc = trivial := rfl; clear this; clear hc))))) | ((with_reducible refine r_is ?_); first | refine yr ?_ | (refine r_lend rfl (search_we false _ _ _ (fun x => weights1 x _) hb90) HbF.h zY rfl ?_; refine r_nn zN zH ?_) | (refine r_give rfl (hI3) HbF.h rfl rfl zL2 zD ?_; refine r_nn zN zH ?_)) | ((with_reducible refine d_is ?_); first | refine yd ?_) | fail)
      · refine ih (k + 1) _ zo zo ?_
        rw [hst2]
        (refine St.Le.clean zR zU zV)
  · repeat' (first | refine yw ?_ | ((with_reducible refine Runs.is ?_); first | refine Runs.region (id := 3) ?_ | ((with_reducible refine Runs.isC ?_); refine Runs.cond rfl (zc ?_) (zc ?_) <;> intro hc <;> (try (first | contradiction | (exfalso; omega; done) | (have : hc = trivial := rfl; clear this; clear hc))))) | ((with_reducible refine r_is ?_); first | refine yr ?_) | fail)
    rw [hend zo]
    repeat' (first | refine yw ?_ | ((with_reducible refine Runs.is ?_); first | refine Runs.region (id := 11) ?_ | ((with_reducible refine Runs.isC ?_); refine Runs.cond rfl (zc ?_) (zc ?_) <;> intro hc <;> (try (first | contradiction | (exfalso; omega; done) | (have : hc = trivial := rfl; clear this; clear hc))))) | ((with_reducible refine r_is ?_); first | refine yr ?_) | fail)
    exact Runs.ret_frz Try.func64 rfl rfl rfl rfl
end Go.Proofs
namespace Go.Proofs
open Go.AM
attribute [local irreducible] AM.evalR AM.evalD AM.Runs AM.valK AM.dK AM.opK AM.stepR AM.CallS AM.St.Le
section
variable {α : Type} {row L : List α} {x z : α} {i n c : Nat}
theorem insA (h : row.take n = L) (hi : i < n) : row.take (i + 1) ++ (((row.drop i).take (n + 1 - i)).take (n - i) ++ row.drop (i + 1 + (n - i))) = row.take (i + 1) ++ (L.drop i ++ row.drop (n + 1)) := by
  rw [List.take_take, Nat.min_eq_left zo, List.take_drop, show i + (n - i) = n by omega, h, show i + 1 + (n - i) = n + 1 by omega]
theorem insB (h : row.take n = L) (hi : i < n) (hc : n + 1 ≤ row.length) :
    (row.take (i + 1) ++ (L.drop i ++ row.drop (n + 1))).take i ++ ([x].take 1 ++ (row.take (i + 1) ++ (L.drop i ++ row.drop (n + 1))).drop (i + 1)) = L.take i ++ ([x] ++ (L.drop i ++ row.drop (n + 1))) := by
  have h1 : (row.take (i + 1)).length = i + 1 := by rw [List.length_take]; omega
  rw [List.take_append_of_le_length zo, List.take_take, Nat.min_eq_left zo, List.drop_left' h1, ← h, List.take_take, Nat.min_eq_left zo]
  rfl
theorem insC {rest : List α} (hL : L.length = n) (hi : i < n) : (L.take i ++ ([x] ++ (L.drop i ++ rest))).take (n + 1) = L.take i ++ x :: L.drop i := by
  have e : L.take i ++ ([x] ++ (L.drop i ++ rest)) = (L.take i ++ x :: L.drop i) ++ rest := by simp
  rw [e, List.take_left' (by simp; omega)]
theorem insD (hL : L.length = n) (hi : i < n) (hc : n + 1 ≤ c) : (L.take i ++ List.replicate (c - i) z).take i ++ ([x].take 1 ++ (L.take i ++ List.replicate (c - i) z).drop (i + 1)) = L.take i ++ ([x] ++ List.replicate (c - (i + 1)) z) := by
  have h1 : (L.take i).length = i := by rw [List.length_take]; omega
  rw [List.take_left' h1, List.drop_append, h1, List.drop_of_length_le zo, show i + 1 - i = 1 by omega, List.drop_replicate, show c - i - 1 = c - (i + 1) by omega]
  rfl
theorem insE (h : row.take n = L) (hL : L.length = n) (hi : i < n) (hc : n + 1 ≤ c) :
    (L.take i ++ ([x] ++ List.replicate (c - (i + 1)) z)).take (i + 1) ++ (((row.drop i).take (n - i)).take (n - i) ++ (L.take i ++ ([x] ++ List.replicate (c - (i + 1)) z)).drop (i + 1 + (n - i))) = L.take i ++ ([x] ++ (L.drop i ++ List.replicate (c - (n + 1)) z)) := by
  have h1 : (L.take i ++ [x]).length = i + 1 := by rw [List.length_append, List.length_take]; simp; omega
  have e : L.take i ++ ([x] ++ List.replicate (c - (i + 1)) z) = (L.take i ++ [x]) ++ List.replicate (c - (i + 1)) z := (List.append_assoc ..).symm
  rw [e, List.take_left' h1, List.take_take, Nat.min_self, List.take_drop, show i + (n - i) = n by omega, h, List.drop_append, List.drop_of_length_le (l := L.take i ++ [x]) (by rw [h1]; omega), h1, List.nil_append, show i + 1 + (n - i) - (i + 1) = n - i by omega, List.drop_replicate, show c - (i + 1) - (n - i) = c - (n + 1) by omega]
  simp
end
section
variable {P : Program} {e : Operand → V} {H : Heap} {K : V → Prop} {t te te' : TypeId} {x : Operand} {sz by_ id off len cap : Nat} {es : List V} {k k' : IntKind}
theorem v_slice_vloN {lo : Operand} {li : Int} (l : Nat) {off' len' cap' : Nat} (hs : slv P t = some (te, sz, by_)) (hx : e x = .vw id off len cap) (ho : AM.look H id = some (.row te' sz es)) (hl : e lo = .sc (.int k li)) (hli : li = (l : Nat)) (hb : l ≤ len ∧ l < cap) (h1 : off + l = off') (h2 : len - l = len') (h3 : cap - l = cap')
    (h : K (.vw id off' len' cap')) : valK P (.slice t x (some lo) none none) e H K := by
  subst hli
  refine v_slice_vlo hs hx ho hl ⟨by omega, by omega⟩ ?_
  rw [Int.toNat_natCast, if_neg zo, h1, h2, h3]; exact h
theorem v_slice_vhiN {hi : Operand} {li : Int} (l : Nat) (hs : slv P t = some (te, sz, by_)) (hx : e x = .vw id off len cap) (ho : AM.look H id = some (.row te' sz es)) (hl : e hi = .sc (.int k li)) (hli : li = (l : Nat)) (hb : l ≤ cap) (h : K (.vw id off l cap)) : valK P (.slice t x none (some hi) none) e H K := by
  subst hli
  refine v_slice_vhi hs hx ho hl ⟨by omega, by omega⟩ ?_
  rw [Int.toNat_natCast]; exact h
end
theorem insert_ints_mid (l : List Int) (i : Nat) (x : Int) (hi : i < l.length) (hl : l.length ≤ 1000000000) :
    AM.Gives Try.prog 87 1000 [.i (i : Nat), .sl true [.i x]] 3 1 (l.map .i) (fun r => r = (l.take i ++ x :: l.drop i).map .i) := by
  have hne : l.map V.i ≠ [] := by intro e; rw [List.map_eq_nil_iff] at e; subst e; simp at hi
  (refine gives_open Try.func87 rfl ?_ ?_ fun c hc0 => ?_; rotate_left; rotate_left; simp only [Try.f87]; refine ys ?_)
  · rw [List.length_map] at hc0 ⊢
    generalize hrow : l.map V.i ++ List.replicate (c - l.length) _ = row
    have hrl : row.length = c := by rw [← hrow]; simp; omega
    have hrt : row.take l.length = l.map V.i := by rw [← hrow, List.take_left' (by simp)]
    clear hrow
    have hL : (l.map V.i).length = l.length := by simp
    have hst : Storable (l.map V.i) := st_i l
    have hfin : (l.take i ++ x :: l.drop i).map V.i = (l.map V.i).take i ++ V.i x :: (l.map V.i).drop i := by simp
    rw [hfin]
    clear hfin
    generalize l.map V.i = L at hrt hL hst hne ⊢
    generalize l.length = n at *
    have hsd : Storable (L.drop i) := fun v hv => hst v (List.mem_of_mem_drop hv)
    repeat' (first | refine yw ?_ | ((with_reducible refine Runs.is ?_); first | refine Runs.region (id := 0) ?_ | refine Runs.region (id := 1) ?_ | ((with_reducible refine Runs.isC ?_); refine Runs.cond rfl (zc ?_) (zc ?_) <;> intro hc <;> (try (first | contradiction | (exfalso; omega; done) | (have : hc = trivial := rfl; clear this; clear hc))))) | ((with_reducible refine r_is ?_); first | refine yr ?_) | fail)
    refine r_v rfl (v_slice_vloN i SlF.h rfl rfl rfl rfl ⟨by omega, by omega⟩ (show 0 + i = i by omega) rfl rfl ?_)
    refine r_n zN ?_
    repeat' (first | refine yw ?_ | ((with_reducible refine Runs.is ?_); first | refine Runs.region (id := 2) ?_ | refine Runs.region (id := 3) ?_ | refine Runs.region (id := 4) ?_ | refine Runs.region (id := 5) ?_ | refine Runs.region (id := 6) ?_ | refine Runs.region (id := 7) ?_ | refine Runs.region (id := 8) ?_ | ((with_reducible refine Runs.isC ?_); refine Runs.cond rfl (zc ?_) (zc ?_) <;> intro hc <;> (try (first | contradiction | (exfalso; omega; done) | (have : hc = trivial := rfl; clear this; clear hc))))) | ((with_reducible refine r_is ?_); first | refine yr ?_ | (refine r_append_full SlF.h SlF.s ZoF.h zd rfl rfl zC zJ zS rfl (fun hn => ?_) (fun hn => ?_) <;> refine r_nn zN zH ?_)) | fail)
    · repeat' (first | refine yw ?_ | ((with_reducible refine Runs.is ?_); first | refine Runs.region (id := 9) ?_ | ((with_reducible refine Runs.isC ?_); refine Runs.cond rfl (zc ?_) (zc ?_) <;> intro hc <;> (try (first | contradiction | (exfalso; omega; done) | (have : hc = trivial := rfl; clear this; clear hc))))) | ((with_reducible refine r_is ?_); first | refine yr ?_ | (refine r_append_full SlF.h SlF.s ZoF.h zd rfl rfl zC zJ zS rfl (fun hn => ?_) (fun hn => ?_) <;> refine r_nn zN zH ?_)) | fail)
      refine r_v rfl (v_slice_vhiN i SlF.h rfl rfl rfl rfl zo ?_)
      refine r_n zN ?_
      repeat' (first | refine yw ?_ | ((with_reducible refine Runs.is ?_); first | refine Runs.region (id := 9) ?_ | ((with_reducible refine Runs.isC ?_); refine Runs.cond rfl (zc ?_) (zc ?_) <;> intro hc <;> (try (first | contradiction | (exfalso; omega; done) | (have : hc = trivial := rfl; clear this; clear hc))))) | ((with_reducible refine r_is ?_); first | refine yr ?_ | (refine r_append_full SlF.h SlF.s ZoF.h zd rfl rfl zC zJ zS rfl (fun hn => ?_) (fun hn => ?_) <;> refine r_nn zN zH ?_)) | fail)
      refine r_zap (m := n + 1 - i) (z := .i 0) SlF.h UnF.h rfl (congrArg (fun q => V.sc (.int .i64 q)) zo) rfl zo ⟨by omega, by omega, by omega, by omega⟩ ZvF.h ⟨rfl, rfl⟩ rfl (show _ = L.take i by rw [List.drop_zero, ← hrt, List.take_take, Nat.min_eq_left zo]) fun c' hc' => ?_
      refine r_nn zN zH ?_
      rw [show i + (n + 1 - i) = n + 1 by omega] at hc' ⊢
      repeat' (first | refine yw ?_ | ((with_reducible refine Runs.is ?_); first | refine Runs.region (id := 9) ?_ | refine Runs.region (id := 10) ?_ | ((with_reducible refine Runs.isC ?_); refine Runs.cond rfl (zc ?_) (zc ?_) <;> intro hc <;> (try (first | contradiction | (exfalso; omega; done) | (have : hc = trivial := rfl; clear this; clear hc))))) | ((with_reducible refine r_is ?_); first | refine yr ?_ | (refine r_copyA SlF.h SlF.s rfl rfl rfl zC (by simp) ?_; refine r_nn zN zH ?_) | (refine r_append_full SlF.h SlF.s ZoF.h zd rfl rfl zC zJ zS rfl (fun hn => ?_) (fun hn => ?_) <;> refine r_nn zN zH ?_)) | fail)
      refine r_v rfl (v_slice_vloN i SlF.h rfl rfl rfl rfl ⟨by omega, by omega⟩ (show 0 + i = i by omega) rfl rfl ?_)
      refine r_n zN ?_
      repeat' (first | refine yw ?_ | ((with_reducible refine Runs.is ?_); first | refine Runs.region (id := 10) ?_ | ((with_reducible refine Runs.isC ?_); refine Runs.cond rfl (zc ?_) (zc ?_) <;> intro hc <;> (try (first | contradiction | (exfalso; omega; done) | (have : hc = trivial := rfl; clear this; clear hc))))) | ((with_reducible refine r_is ?_); first | refine yr ?_ | (refine r_copyA SlF.h SlF.s rfl rfl rfl zC (by simp) ?_; refine r_nn zN zH ?_)) | fail)
      refine r_copyVS (n := 1) SlF.h SlF.s rfl rfl rfl (by simp; omega) (sd_i [x]) (by simp; omega) (fun v hv => by rw [List.mem_singleton.1 hv]; rfl) (insD hL hi hc') ?_
      refine r_nn zN zH ?_
      repeat' (first | refine yw ?_ | ((with_reducible refine Runs.is ?_); first | refine Runs.region (id := 10) ?_ | refine Runs.drawn (id := 11) mixed zK ?_ | ((with_reducible refine Runs.isC ?_); refine Runs.cond rfl (zc ?_) (zc ?_) <;> intro hc <;> (try (first | contradiction | (exfalso; omega; done) | (have : hc = trivial := rfl; clear this; clear hc))))) | ((with_reducible refine r_is ?_); first | refine yr ?_ | (refine r_copyA SlF.h SlF.s rfl rfl rfl zC (by simp) ?_; refine r_nn zN zH ?_)) | ((with_reducible refine d_is ?_); first | refine yd ?_) | fail)
      refine d_v rfl (v_slice_vloN (i + 1) SlF.h rfl rfl rfl zo ⟨by omega, by omega⟩ (show 0 + (i + 1) = i + 1 by omega) (show n + 1 - (i + 1) = n - i by omega) rfl ?_)
      refine d_n zN ?_
      repeat' (first | refine yw ?_ | ((with_reducible refine Runs.is ?_); first | refine Runs.drawn (id := 11) mixed zK ?_ | ((with_reducible refine Runs.isC ?_); refine Runs.cond rfl (zc ?_) (zc ?_) <;> intro hc <;> (try (first | contradiction | (exfalso; omega; done) | (have : hc = trivial := rfl; clear this; clear hc))))) | ((with_reducible refine d_is ?_); first | refine yd ?_) | fail)
      refine d_v rfl (v_slice_vloN i SlF.h rfl rfl rfl rfl ⟨by omega, by omega⟩ (show 0 + i = i by omega) rfl rfl ?_)
      refine d_n zN ?_
      repeat' (first | refine yw ?_ | ((with_reducible refine Runs.is ?_); first | refine Runs.drawn (id := 11) mixed zK ?_ | ((with_reducible refine Runs.isC ?_); refine Runs.cond rfl (zc ?_) (zc ?_) <;> intro hc <;> (try (first | contradiction | (exfalso; omega; done) | (have : hc = trivial := rfl; clear this; clear hc))))) | ((with_reducible refine d_is ?_); first | refine yd ?_) | fail)
      refine d_copyVV (n := n - i) SlF.h SlF.s rfl rfl rfl rfl (by simp; omega) zo zo (by rw [List.take_take, Nat.min_self, List.take_drop, show i + (n - i) = n by omega, hrt]; exact hsd) (insE hrt hL hi hc') ?_
      refine d_nn zN zH ?_
      repeat' (first | refine yw ?_ | ((with_reducible refine Runs.is ?_); first | refine Runs.drawn (id := 11) mixed zK ?_ | refine Runs.region (id := 12) ?_ | ((with_reducible refine Runs.isC ?_); refine Runs.cond rfl (zc ?_) (zc ?_) <;> intro hc <;> (try (first | contradiction | (exfalso; omega; done) | (have : hc = trivial := rfl; clear this; clear hc))))) | ((with_reducible refine r_is ?_); first | refine yr ?_ | (refine r_copyA SlF.h SlF.s rfl rfl rfl zC (by simp) ?_; refine r_nn zN zH ?_)) | ((with_reducible refine d_is ?_); first | refine yd ?_) | fail)
      exact Runs.ret_giveV Try.func87 rfl rfl rfl (by simp; omega) (insC hL hi) rfl
    · repeat' (first | refine yw ?_ | ((with_reducible refine Runs.is ?_); first | refine Runs.region (id := 13) ?_ | ((with_reducible refine Runs.isC ?_); refine Runs.cond rfl (zc ?_) (zc ?_) <;> intro hc <;> (try (first | contradiction | (exfalso; omega; done) | (have : hc = trivial := rfl; clear this; clear hc))))) | ((with_reducible refine r_is ?_); first | refine yr ?_) | fail)
      refine r_v rfl (v_slice_vhiN (n + 1) SlF.h rfl rfl rfl zo zo ?_)
      refine r_n zN ?_
      repeat' (first | refine yw ?_ | ((with_reducible refine Runs.is ?_); first | refine Runs.region (id := 13) ?_ | refine Runs.region (id := 14) ?_ | ((with_reducible refine Runs.isC ?_); refine Runs.cond rfl (zc ?_) (zc ?_) <;> intro hc <;> (try (first | contradiction | (exfalso; omega; done) | (have : hc = trivial := rfl; clear this; clear hc))))) | ((with_reducible refine r_is ?_); first | refine yr ?_) | fail)
      refine r_v rfl (v_slice_vloN (i + 1) SlF.h rfl rfl rfl zo ⟨by omega, by omega⟩ (show 0 + (i + 1) = i + 1 by omega) (show n + 1 - (i + 1) = n - i by omega) rfl ?_)
      refine r_n zN ?_
      repeat' (first | refine yw ?_ | ((with_reducible refine Runs.is ?_); first | refine Runs.region (id := 14) ?_ | ((with_reducible refine Runs.isC ?_); refine Runs.cond rfl (zc ?_) (zc ?_) <;> intro hc <;> (try (first | contradiction | (exfalso; omega; done) | (have : hc = trivial := rfl; clear this; clear hc))))) | ((with_reducible refine r_is ?_); first | refine yr ?_) | fail)
      refine r_overlaps (tS := 31) (tR := 4) Try.func110 (by kernel_rfl) (by kernel_rfl) (by kernel_rfl) (by kernel_rfl) SlF.h rfl rfl rfl ?_
      refine r_n zN ?_
      repeat' (first | refine yw ?_ | ((with_reducible refine Runs.is ?_); first | refine Runs.region (id := 14) ?_ | refine Runs.drawn (id := 15) mixed zK ?_ | ((with_reducible refine Runs.isC ?_); refine Runs.cond rfl (zc ?_) (zc ?_) <;> intro hc <;> (try (first | contradiction | (exfalso; omega; done) | (have : hc = trivial := rfl; clear this; clear hc))))) | ((with_reducible refine r_is ?_); first | refine yr ?_ | (refine r_copyA SlF.h SlF.s rfl rfl rfl zC (by simp) ?_; refine r_nn zN zH ?_)) | ((with_reducible refine d_is ?_); first | refine yd ?_) | fail)
      refine d_v rfl (v_slice_vloN (i + 1) SlF.h rfl rfl rfl zo ⟨by omega, by omega⟩ (show 0 + (i + 1) = i + 1 by omega) (show n + 1 - (i + 1) = n - i by omega) rfl ?_)
      refine d_n zN ?_
      repeat' (first | refine yw ?_ | ((with_reducible refine Runs.is ?_); first | refine Runs.drawn (id := 15) mixed zK ?_ | ((with_reducible refine Runs.isC ?_); refine Runs.cond rfl (zc ?_) (zc ?_) <;> intro hc <;> (try (first | contradiction | (exfalso; omega; done) | (have : hc = trivial := rfl; clear this; clear hc))))) | ((with_reducible refine d_is ?_); first | refine yd ?_) | fail)
      refine d_v rfl (v_slice_vloN i SlF.h rfl rfl rfl rfl ⟨by omega, by omega⟩ (show 0 + i = i by omega) rfl rfl ?_)
      refine d_n zN ?_
      repeat' (first | refine yw ?_ | ((with_reducible refine Runs.is ?_); first | refine Runs.drawn (id := 15) mixed zK ?_ | ((with_reducible refine Runs.isC ?_); refine Runs.cond rfl (zc ?_) (zc ?_) <;> intro hc <;> (try (first | contradiction | (exfalso; omega; done) | (have : hc = trivial := rfl; clear this; clear hc))))) | ((with_reducible refine d_is ?_); first | refine yd ?_) | fail)
      refine d_copyVV (n := n - i) SlF.h SlF.s rfl rfl rfl rfl zo zo zo (by rw [List.take_take, Nat.min_eq_left zo, List.take_drop, show i + (n - i) = n by omega, hrt]; exact hsd) (insA hrt hi) ?_
      refine d_nn zN zH ?_
      repeat' (first | refine yw ?_ | ((with_reducible refine Runs.is ?_); first | refine Runs.drawn (id := 15) mixed zK ?_ | refine Runs.region (id := 16) ?_ | ((with_reducible refine Runs.isC ?_); refine Runs.cond rfl (zc ?_) (zc ?_) <;> intro hc <;> (try (first | contradiction | (exfalso; omega; done) | (have : hc = trivial := rfl; clear this; clear hc))))) | ((with_reducible refine r_is ?_); first | refine yr ?_ | (refine r_copyA SlF.h SlF.s rfl rfl rfl zC (by simp) ?_; refine r_nn zN zH ?_)) | ((with_reducible refine d_is ?_); first | refine yd ?_) | fail)
      refine r_v rfl (v_slice_vloN i SlF.h rfl rfl rfl rfl ⟨by omega, by omega⟩ (show 0 + i = i by omega) rfl rfl ?_)
      refine r_n zN ?_
      repeat' (first | refine yw ?_ | ((with_reducible refine Runs.is ?_); first | refine Runs.region (id := 16) ?_ | ((with_reducible refine Runs.isC ?_); refine Runs.cond rfl (zc ?_) (zc ?_) <;> intro hc <;> (try (first | contradiction | (exfalso; omega; done) | (have : hc = trivial := rfl; clear this; clear hc))))) | ((with_reducible refine r_is ?_); first | refine yr ?_ | (refine r_copyA SlF.h SlF.s rfl rfl rfl zC (by simp) ?_; refine r_nn zN zH ?_)) | fail)
      refine r_copyVS (n := 1) SlF.h SlF.s rfl rfl rfl (by simp; omega) (sd_i [x]) (by simp; omega) (fun v hv => by rw [List.mem_singleton.1 hv]; rfl) (insB hrt hi zo) ?_
      refine r_nn zN zH ?_
      repeat' (first | refine yw ?_ | ((with_reducible refine Runs.is ?_); first | refine Runs.region (id := 16) ?_ | refine Runs.region (id := 17) ?_ | ((with_reducible refine Runs.isC ?_); refine Runs.cond rfl (zc ?_) (zc ?_) <;> intro hc <;> (try (first | contradiction | (exfalso; omega; done) | (have : hc = trivial := rfl; clear this; clear hc))))) | ((with_reducible refine r_is ?_); first | refine yr ?_ | (refine r_copyA SlF.h SlF.s rfl rfl rfl zC (by simp) ?_; refine r_nn zN zH ?_)) | fail)
      exact Runs.ret_giveV Try.func87 rfl rfl rfl (by simp; omega) (insC hL hi) rfl
  · exact hne
  · rfl
theorem insert_ints (l : List Int) (i : Nat) (x : Int) (hi : i ≤ l.length) (hl : l.length ≤ 1000000000) :
    AM.Gives Try.prog 87 1000 [.i (i : Nat), .sl true [.i x]] 3 1 (l.map .i) (fun r => r = (l.take i ++ x :: l.drop i).map .i) := by
  by_cases h : i < l.length
  · exact insert_ints_mid l i x h hl
  obtain rfl : i = l.length := by omega
  (refine spec_of_runs Try.func87 rfl ?_; simp only [Try.f87]; refine ys ?_)
  repeat' (first | refine yw ?_ | ((with_reducible refine Runs.is ?_); first | refine Runs.region (id := 0) ?_ | refine Runs.region (id := 1) ?_ | refine Runs.region (id := 2) ?_ | refine Runs.region (id := 3) ?_ | refine Runs.region (id := 4) ?_ | refine Runs.region (id := 5) ?_ | refine Runs.region (id := 6) ?_ | refine Runs.region (id := 7) ?_ | ((with_reducible refine Runs.isC ?_); refine Runs.cond rfl (zc ?_) (zc ?_) <;> intro hc <;> (try (first | contradiction | (exfalso; omega; done) | (have : hc = trivial := rfl; clear this; clear hc))))) | ((with_reducible refine r_is ?_); first | refine yr ?_ | (refine r_append_full SlF.h SlF.s ZoF.h zd rfl rfl zC zJ zS rfl (fun hn => ?_) (fun hn => ?_) <;> refine r_nn zN zH ?_)) | fail)
  all_goals first
    | (refine Runs.ret_give Try.func87 rfl rfl rfl ?_; simp; done)
    | (exfalso; simp at hc; done)
    | fail
theorem insert_we_mid (l : List WeightEntry) (i : Nat) (x : WeightEntry) (hi : i < l.length) (hl : l.length ≤ 1000000000) :
    AM.Gives Try.prog 91 1000 [.i (i : Nat), .sl true [weV x]] 73 5 (l.map weV) (fun r => r = (l.take i ++ x :: l.drop i).map weV) := by
  have hne : l.map weV ≠ [] := by intro e; rw [List.map_eq_nil_iff] at e; subst e; simp at hi
  (refine gives_open Try.func91 rfl ?_ ?_ fun c hc0 => ?_; rotate_left; rotate_left; simp only [Try.f91]; refine ys ?_)
  · rw [List.length_map] at hc0 ⊢
    generalize hrow : l.map weV ++ List.replicate (c - l.length) _ = row
    have hrl : row.length = c := by rw [← hrow]; simp; omega
    have hrt : row.take l.length = l.map weV := by rw [← hrow, List.take_left' (by simp)]
    clear hrow
    have hL : (l.map weV).length = l.length := by simp
    have hst : Storable (l.map weV) := st_weV l
    have hfin : (l.take i ++ x :: l.drop i).map weV = (l.map weV).take i ++ weV x :: (l.map weV).drop i := by simp
    rw [hfin]
    clear hfin
    generalize l.map weV = L at hrt hL hst hne ⊢
    generalize l.length = n at *
    have hsd : Storable (L.drop i) := fun v hv => hst v (List.mem_of_mem_drop hv)
    repeat' (first | refine yw ?_ | ((with_reducible refine Runs.is ?_); first | refine Runs.region (id := 0) ?_ | refine Runs.region (id := 1) ?_ | ((with_reducible refine Runs.isC ?_); refine Runs.cond rfl (zc ?_) (zc ?_) <;> intro hc <;> (try (first | contradiction | (exfalso; omega; done) | (have : hc = trivial := rfl; clear this; clear hc))))) | ((with_reducible refine r_is ?_); first | refine yr ?_) | fail)
    refine r_v rfl (v_slice_vloN i SlF.h rfl rfl rfl rfl ⟨by omega, by omega⟩ (show 0 + i = i by omega) rfl rfl ?_)
    refine r_n zN ?_
    repeat' (first | refine yw ?_ | ((with_reducible refine Runs.is ?_); first | refine Runs.region (id := 2) ?_ | refine Runs.region (id := 3) ?_ | refine Runs.region (id := 4) ?_ | refine Runs.region (id := 5) ?_ | refine Runs.region (id := 6) ?_ | refine Runs.region (id := 7) ?_ | refine Runs.region (id := 8) ?_ | ((with_reducible refine Runs.isC ?_); refine Runs.cond rfl (zc ?_) (zc ?_) <;> intro hc <;> (try (first | contradiction | (exfalso; omega; done) | (have : hc = trivial := rfl; clear this; clear hc))))) | ((with_reducible refine r_is ?_); first | refine yr ?_ | (refine r_append_full SlF.h SlF.s ZoF.h zd rfl rfl zC zJ zS rfl (fun hn => ?_) (fun hn => ?_) <;> refine r_nn zN zH ?_)) | fail)
    · repeat' (first | refine yw ?_ | ((with_reducible refine Runs.is ?_); first | refine Runs.region (id := 9) ?_ | ((with_reducible refine Runs.isC ?_); refine Runs.cond rfl (zc ?_) (zc ?_) <;> intro hc <;> (try (first | contradiction | (exfalso; omega; done) | (have : hc = trivial := rfl; clear this; clear hc))))) | ((with_reducible refine r_is ?_); first | refine yr ?_ | (refine r_append_full SlF.h SlF.s ZoF.h zd rfl rfl zC zJ zS rfl (fun hn => ?_) (fun hn => ?_) <;> refine r_nn zN zH ?_)) | fail)
      refine r_v rfl (v_slice_vhiN i SlF.h rfl rfl rfl rfl zo ?_)
      refine r_n zN ?_
      repeat' (first | refine yw ?_ | ((with_reducible refine Runs.is ?_); first | refine Runs.region (id := 9) ?_ | ((with_reducible refine Runs.isC ?_); refine Runs.cond rfl (zc ?_) (zc ?_) <;> intro hc <;> (try (first | contradiction | (exfalso; omega; done) | (have : hc = trivial := rfl; clear this; clear hc))))) | ((with_reducible refine r_is ?_); first | refine yr ?_ | (refine r_append_full SlF.h SlF.s ZoF.h zd rfl rfl zC zJ zS rfl (fun hn => ?_) (fun hn => ?_) <;> refine r_nn zN zH ?_)) | fail)
      refine r_zap (m := n + 1 - i) (z := weV ⟨0, 0, 0, 0, 0⟩) SlF.h UnF.h rfl (congrArg (fun q => V.sc (.int .i64 q)) zo) rfl zo ⟨by omega, by omega, by omega, by omega⟩ ZvF.h ⟨rfl, rfl⟩ rfl (show _ = L.take i by rw [List.drop_zero, ← hrt, List.take_take, Nat.min_eq_left zo]) fun c' hc' => ?_
      refine r_nn zN zH ?_
      rw [show i + (n + 1 - i) = n + 1 by omega] at hc' ⊢
      repeat' (first | refine yw ?_ | ((with_reducible refine Runs.is ?_); first | refine Runs.region (id := 9) ?_ | refine Runs.region (id := 10) ?_ | ((with_reducible refine Runs.isC ?_); refine Runs.cond rfl (zc ?_) (zc ?_) <;> intro hc <;> (try (first | contradiction | (exfalso; omega; done) | (have : hc = trivial := rfl; clear this; clear hc))))) | ((with_reducible refine r_is ?_); first | refine yr ?_ | (refine r_copyA SlF.h SlF.s rfl rfl rfl zC (by simp) ?_; refine r_nn zN zH ?_) | (refine r_append_full SlF.h SlF.s ZoF.h zd rfl rfl zC zJ zS rfl (fun hn => ?_) (fun hn => ?_) <;> refine r_nn zN zH ?_)) | fail)
      refine r_v rfl (v_slice_vloN i SlF.h rfl rfl rfl rfl ⟨by omega, by omega⟩ (show 0 + i = i by omega) rfl rfl ?_)
      refine r_n zN ?_
      repeat' (first | refine yw ?_ | ((with_reducible refine Runs.is ?_); first | refine Runs.region (id := 10) ?_ | ((with_reducible refine Runs.isC ?_); refine Runs.cond rfl (zc ?_) (zc ?_) <;> intro hc <;> (try (first | contradiction | (exfalso; omega; done) | (have : hc = trivial := rfl; clear this; clear hc))))) | ((with_reducible refine r_is ?_); first | refine yr ?_ | (refine r_copyA SlF.h SlF.s rfl rfl rfl zC (by simp) ?_; refine r_nn zN zH ?_)) | fail)
      refine r_copyVS (n := 1) SlF.h SlF.s rfl rfl rfl (by simp; omega) (sd_weV [x]) (by simp; omega) (fun v hv => by rw [List.mem_singleton.1 hv]; rfl) (insD hL hi hc') ?_
      refine r_nn zN zH ?_
      repeat' (first | refine yw ?_ | ((with_reducible refine Runs.is ?_); first | refine Runs.region (id := 10) ?_ | refine Runs.drawn (id := 11) mixed zK ?_ | ((with_reducible refine Runs.isC ?_); refine Runs.cond rfl (zc ?_) (zc ?_) <;> intro hc <;> (try (first | contradiction | (exfalso; omega; done) | (have : hc = trivial := rfl; clear this; clear hc))))) | ((with_reducible refine r_is ?_); first | refine yr ?_ | (refine r_copyA SlF.h SlF.s rfl rfl rfl zC (by simp) ?_; refine r_nn zN zH ?_)) | ((with_reducible refine d_is ?_); first | refine yd ?_) | fail)
      refine d_v rfl (v_slice_vloN (i + 1) SlF.h rfl rfl rfl zo ⟨by omega, by omega⟩ (show 0 + (i + 1) = i + 1 by omega) (show n + 1 - (i + 1) = n - i by omega) rfl ?_)
      refine d_n zN ?_
      repeat' (first | refine yw ?_ | ((with_reducible refine Runs.is ?_); first | refine Runs.drawn (id := 11) mixed zK ?_ | ((with_reducible refine Runs.isC ?_); refine Runs.cond rfl (zc ?_) (zc ?_) <;> intro hc <;> (try (first | contradiction | (exfalso; omega; done) | (have : hc = trivial := rfl; clear this; clear hc))))) | ((with_reducible refine d_is ?_); first | refine yd ?_) | fail)
      refine d_v rfl (v_slice_vloN i SlF.h rfl rfl rfl rfl ⟨by omega, by omega⟩ (show 0 + i = i by omega) rfl rfl ?_)
      refine d_n zN ?_
      repeat' (first | refine yw ?_ | ((with_reducible refine Runs.is ?_); first | refine Runs.drawn (id := 11) mixed zK ?_ | ((with_reducible refine Runs.isC ?_); refine Runs.cond rfl (zc ?_) (zc ?_) <;> intro hc <;> (try (first | contradiction | (exfalso; omega; done) | (have : hc = trivial := rfl; clear this; clear hc))))) | ((with_reducible refine d_is ?_); first | refine yd ?_) | fail)
      refine d_copyVV (n := n - i) SlF.h SlF.s rfl rfl rfl rfl (by simp; omega) zo zo (by rw [List.take_take, Nat.min_self, List.take_drop, show i + (n - i) = n by omega, hrt]; exact hsd) (insE hrt hL hi hc') ?_
      refine d_nn zN zH ?_
      repeat' (first | refine yw ?_ | ((with_reducible refine Runs.is ?_); first | refine Runs.drawn (id := 11) mixed zK ?_ | refine Runs.region (id := 12) ?_ | ((with_reducible refine Runs.isC ?_); refine Runs.cond rfl (zc ?_) (zc ?_) <;> intro hc <;> (try (first | contradiction | (exfalso; omega; done) | (have : hc = trivial := rfl; clear this; clear hc))))) | ((with_reducible refine r_is ?_); first | refine yr ?_ | (refine r_copyA SlF.h SlF.s rfl rfl rfl zC (by simp) ?_; refine r_nn zN zH ?_)) | ((with_reducible refine d_is ?_); first | refine yd ?_) | fail)
      exact Runs.ret_giveV Try.func91 rfl rfl rfl (by simp; omega) (insC hL hi) rfl
    · repeat' (first | refine yw ?_ | ((with_reducible refine Runs.is ?_); first | refine Runs.region (id := 13) ?_ | ((with_reducible refine Runs.isC ?_); refine Runs.cond rfl (zc ?_) (zc ?_) <;> intro hc <;> (try (first | contradiction | (exfalso; omega; done) | (have : hc = trivial := rfl; clear this; clear hc))))) | ((with_reducible refine r_is ?_); first | refine yr ?_) | fail)
      refine r_v rfl (v_slice_vhiN (n + 1) SlF.h rfl rfl rfl zo zo ?_)
      refine r_n zN ?_
      repeat' (first | refine yw ?_ | ((with_reducible refine Runs.is ?_); first | refine Runs.region (id := 13) ?_ | refine Runs.region (id := 14) ?_ | ((with_reducible refine Runs.isC ?_); refine Runs.cond rfl (zc ?_) (zc ?_) <;> intro hc <;> (try (first | contradiction | (exfalso; omega; done) | (have : hc = trivial := rfl; clear this; clear hc))))) | ((with_reducible refine r_is ?_); first | refine yr ?_) | fail)
      refine r_v rfl (v_slice_vloN (i + 1) SlF.h rfl rfl rfl zo ⟨by omega, by omega⟩ (show 0 + (i + 1) = i + 1 by omega) (show n + 1 - (i + 1) = n - i by omega) rfl ?_)
      refine r_n zN ?_
      repeat' (first | refine yw ?_ | ((with_reducible refine Runs.is ?_); first | refine Runs.region (id := 14) ?_ | ((with_reducible refine Runs.isC ?_); refine Runs.cond rfl (zc ?_) (zc ?_) <;> intro hc <;> (try (first | contradiction | (exfalso; omega; done) | (have : hc = trivial := rfl; clear this; clear hc))))) | ((with_reducible refine r_is ?_); first | refine yr ?_) | fail)
      refine r_overlaps (tS := 32) (tR := 4) Try.func112 (by kernel_rfl) (by kernel_rfl) (by kernel_rfl) (by kernel_rfl) SlF.h rfl rfl rfl ?_
      refine r_n zN ?_
      repeat' (first | refine yw ?_ | ((with_reducible refine Runs.is ?_); first | refine Runs.region (id := 14) ?_ | refine Runs.drawn (id := 15) mixed zK ?_ | ((with_reducible refine Runs.isC ?_); refine Runs.cond rfl (zc ?_) (zc ?_) <;> intro hc <;> (try (first | contradiction | (exfalso; omega; done) | (have : hc = trivial := rfl; clear this; clear hc))))) | ((with_reducible refine r_is ?_); first | refine yr ?_ | (refine r_copyA SlF.h SlF.s rfl rfl rfl zC (by simp) ?_; refine r_nn zN zH ?_)) | ((with_reducible refine d_is ?_); first | refine yd ?_) | fail)
      refine d_v rfl (v_slice_vloN (i + 1) SlF.h rfl rfl rfl zo ⟨by omega, by omega⟩ (show 0 + (i + 1) = i + 1 by omega) (show n + 1 - (i + 1) = n - i by omega) rfl ?_)
      refine d_n zN ?_
      repeat' (first | refine yw ?_ | ((with_reducible refine Runs.is ?_); first | refine Runs.drawn (id := 15) mixed zK ?_ | ((with_reducible refine Runs.isC ?_); refine Runs.cond rfl (zc ?_) (zc ?_) <;> intro hc <;> (try (first | contradiction | (exfalso; omega; done) | (have : hc = trivial := rfl; clear this; clear hc))))) | ((with_reducible refine d_is ?_); first | refine yd ?_) | fail)
      refine d_v rfl (v_slice_vloN i SlF.h rfl rfl rfl rfl ⟨by omega, by omega⟩ (show 0 + i = i by omega) rfl rfl ?_)
      refine d_n zN ?_
      repeat' (first | refine yw ?_ | ((with_reducible refine Runs.is ?_); first | refine Runs.drawn (id := 15) mixed zK ?_ | ((with_reducible refine Runs.isC ?_); refine Runs.cond rfl (zc ?_) (zc ?_) <;> intro hc <;> (try (first | contradiction | (exfalso; omega; done) | (have : hc = trivial := rfl; clear this; clear hc))))) | ((with_reducible refine d_is ?_); first | refine yd ?_) | fail)
      refine d_copyVV (n := n - i) SlF.h SlF.s rfl rfl rfl rfl zo zo zo (by rw [List.take_take, Nat.min_eq_left zo, List.take_drop, show i + (n - i) = n by omega, hrt]; exact hsd) (insA hrt hi) ?_
      refine d_nn zN zH ?_
      repeat' (first | refine yw ?_ | ((with_reducible refine Runs.is ?_); first | refine Runs.drawn (id := 15) mixed zK ?_ | refine Runs.region (id := 16) ?_ | ((with_reducible refine Runs.isC ?_); refine Runs.cond rfl (zc ?_) (zc ?_) <;> intro hc <;> (try (first | contradiction | (exfalso; omega; done) | (have : hc = trivial := rfl; clear this; clear hc))))) | ((with_reducible refine r_is ?_); first | refine yr ?_ | (refine r_copyA SlF.h SlF.s rfl rfl rfl zC (by simp) ?_; refine r_nn zN zH ?_)) | ((with_reducible refine d_is ?_); first | refine yd ?_) | fail)
      refine r_v rfl (v_slice_vloN i SlF.h rfl rfl rfl rfl ⟨by omega, by omega⟩ (show 0 + i = i by omega) rfl rfl ?_)
      refine r_n zN ?_
      repeat' (first | refine yw ?_ | ((with_reducible refine Runs.is ?_); first | refine Runs.region (id := 16) ?_ | ((with_reducible refine Runs.isC ?_); refine Runs.cond rfl (zc ?_) (zc ?_) <;> intro hc <;> (try (first | contradiction | (exfalso; omega; done) | (have : hc = trivial := rfl; clear this; clear hc))))) | ((with_reducible refine r_is ?_); first | refine yr ?_ | (refine r_copyA SlF.h SlF.s rfl rfl rfl zC (by simp) ?_; refine r_nn zN zH ?_)) | fail)
      refine r_copyVS (n := 1) SlF.h SlF.s rfl rfl rfl (by simp; omega) (sd_weV [x]) (by simp; omega) (fun v hv => by rw [List.mem_singleton.1 hv]; rfl) (insB hrt hi zo) ?_
      refine r_nn zN zH ?_
      repeat' (first | refine yw ?_ | ((with_reducible refine Runs.is ?_); first | refine Runs.region (id := 16) ?_ | refine Runs.region (id := 17) ?_ | ((with_reducible refine Runs.isC ?_); refine Runs.cond rfl (zc ?_) (zc ?_) <;> intro hc <;> (try (first | contradiction | (exfalso; omega; done) | (have : hc = trivial := rfl; clear this; clear hc))))) | ((with_reducible refine r_is ?_); first | refine yr ?_ | (refine r_copyA SlF.h SlF.s rfl rfl rfl zC (by simp) ?_; refine r_nn zN zH ?_)) | fail)
      exact Runs.ret_giveV Try.func91 rfl rfl rfl (by simp; omega) (insC hL hi) rfl
  · exact hne
  · rfl
theorem insert_we (l : List WeightEntry) (i : Nat) (x : WeightEntry) (hi : i ≤ l.length) (hl : l.length ≤ 1000000000) :
    AM.Gives Try.prog 91 1000 [.i (i : Nat), .sl true [weV x]] 73 5 (l.map weV) (fun r => r = (l.take i ++ x :: l.drop i).map weV) := by
  by_cases h : i < l.length
  · exact insert_we_mid l i x h hl
  obtain rfl : i = l.length := by omega
  (refine spec_of_runs Try.func91 rfl ?_; simp only [Try.f91]; refine ys ?_)
  repeat' (first | refine yw ?_ | ((with_reducible refine Runs.is ?_); first | refine Runs.region (id := 0) ?_ | refine Runs.region (id := 1) ?_ | refine Runs.region (id := 2) ?_ | refine Runs.region (id := 3) ?_ | refine Runs.region (id := 4) ?_ | refine Runs.region (id := 5) ?_ | refine Runs.region (id := 6) ?_ | refine Runs.region (id := 7) ?_ | ((with_reducible refine Runs.isC ?_); refine Runs.cond rfl (zc ?_) (zc ?_) <;> intro hc <;> (try (first | contradiction | (exfalso; omega; done) | (have : hc = trivial := rfl; clear this; clear hc))))) | ((with_reducible refine r_is ?_); first | refine yr ?_ | (refine r_append_full SlF.h SlF.s ZoF.h zd rfl rfl zC zJ zS rfl (fun hn => ?_) (fun hn => ?_) <;> refine r_nn zN zH ?_)) | fail)
  all_goals first
    | (refine Runs.ret_give Try.func91 rfl rfl rfl ?_; simp; done)
    | (exfalso; simp at hc; done)
    | fail
theorem bs_le0 (k : Nat → Int) (i j : Nat) (h : i ≤ j) : i ≤ bs k i j ∧ bs k i j ≤ j := by
  induction hn : j - i using Nat.strongRecOn generalizing i j with
  | _ n ih =>
    rw [bs]
    split
    · rename_i hlt
      split
      · have := ih (j - ((i + j) / 2 + 1)) zo ((i + j) / 2 + 1) j zo rfl; omega
      · have := ih ((i + j) / 2 - i) zo i ((i + j) / 2) zo rfl; omega
    · omega
theorem bsI_le (l : List Int) (x : Int) : bsI l x ≤ l.length := (bs_le0 _ _ _ (Nat.zero_le _)).2
theorem bsW_le (l : List WeightEntry) (x : WeightEntry) : bsW l x ≤ l.length := (bs_le0 _ _ _ (Nat.zero_le _)).2
theorem putI_len (l : List Int) (x : Int) : (putI l x).length = l.length + 1 := by
  have := bsI_le l x
  simp [putI]; omega
theorem putW_len (l : List WeightEntry) (x : WeightEntry) : (putW l x).length = l.length + 1 := by
  have := bsW_le l x
  simp [putW]; omega
theorem insI_len (l : List Int) (x : Int) : (insI l x).length ≤ l.length + 1 := by
  unfold insI; split
  · omega
  · rw [putI_len]; omega
theorem insW_len (l : List WeightEntry) (x : WeightEntry) : (insW l x).length ≤ l.length + 1 := by
  unfold insW; split
  · split
    · rw [List.length_set]; omega
    · omega
  · rw [putW_len]; omega
theorem unionI_len (a b : List Int) : (unionI a b).length ≤ a.length + b.length := by
  unfold unionI
  induction b generalizing a with
  | nil => simp
  | cons x b ih => have := ih (insI a x); have := insI_len a x; rw [List.foldl_cons, List.length_cons]; omega
theorem weightsI_len (a b : List WeightEntry) : (weightsI a b).length ≤ a.length + b.length := by
  unfold weightsI
  induction b generalizing a with
  | nil => simp
  | cons x b ih => have := ih (insW a x); have := insW_len a x; rw [List.foldl_cons, List.length_cons]; omega
theorem member_union_all (f g : Bool) (a b : List Int) (h : a.length + b.length ≤ 1000000000) : AM.Fn Try.prog 63 [.sl f (a.map .i), .sl g (b.map .i)] (.sl false ((unionI a b).map .i)) := by
  refine member_union f g a b zo fun k hk _ => ?_
  have := unionI_len a (b.take k)
  unfold unionI at this
  rw [List.length_take] at this
  exact insert_ints _ _ _ (bsI_le _ _) zo
theorem member_weights_all (f g : Bool) (a b : List WeightEntry) (h : a.length + b.length ≤ 1000000000) : AM.Fn Try.prog 64 [.sl f (a.map weV), .sl g (b.map weV)] (.sl false ((weightsI a b).map weV)) := by
  refine member_weights f g a b zo fun k hk _ => ?_
  have := weightsI_len a (b.take k)
  unfold weightsI at this
  rw [List.length_take] at this
  exact insert_we _ _ _ (bsW_le _ _) zo
end Go.Proofs
