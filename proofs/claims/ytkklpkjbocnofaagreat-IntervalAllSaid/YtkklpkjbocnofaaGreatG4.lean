/- Proved: whatever the input, elasticstorelaw09.IntervalAll returns true, and its input reads as it did. No condition. -/
import Derived.Test.YtkklpkjbocnofaaGreatRows
import Derived.Test.YtkklpkjbocnofaaGreatG3
set_option linter.unusedVariables false
set_option linter.unusedSimpArgs false
set_option maxRecDepth 8000
set_option maxHeartbeats 4000000
set_option pp.deepTerms false
set_option pp.deepTerms.threshold 6
namespace Go.Proofs
open Go.AM
attribute [local irreducible] AM.evalR AM.evalD AM.Runs AM.valK AM.dK AM.opK AM.stepR AM.CallS AM.St.Le
def dupB (d c : Change) : Bool := decide (d.kind = c.kind ∧ d.server = c.server)
def chsE : List Change → List Change → Int
  | _, [] => 0
  | pre, c :: cs => if changeE c ≠ 0 then changeE c else if pre.any (dupB · c) = true then 5 else chsE (pre ++ [c]) cs
def propE (p : Proposal) : Int := if ¬ (201 ≤ p.admin ∧ p.admin < 204) ∨ p.number < 1 ∨ 3 < p.number then 9 else if p.changes.length = 0 then 2 else if 6 < p.changes.length then 3 else chsE [] p.changes
theorem chsE_drop {l : List Change} {i : Nat} (h : i < l.length) : chsE (l.take i) (l.drop i) = if changeE (l.getD i default) ≠ 0 then changeE (l.getD i default) else if (l.take i).any (dupB · (l.getD i default)) = true then 5 else chsE (l.take (i + 1)) (l.drop (i + 1)) := by
  rw [drop_getD h, chsE, take_getD h]
theorem any_take {α : Type} [Inhabited α] {g : α → Bool} {l : List α} {k : Nat} (h : k < l.length) : (l.take (k + 1)).any g = ((l.take k).any g || g (l.getD k default)) := by
  rw [take_getD h, List.any_append]; simp
theorem take_take_le {α : Type} {l : List α} {k i : Nat} (h : k ≤ i) : (l.take i).take k = l.take k := by rw [List.take_take, Nat.min_eq_left h]
theorem vax_Prop (p : Proposal) : AM.Fn Tryz.prog 51 [prV p] (.i (propE p)) := by
  obtain ⟨ad, nu, cs⟩ := p
  have hgo : ∀ e, propE ⟨ad, nu, cs⟩ = e → AM.Fn Tryz.prog 51 [prV ⟨ad, nu, cs⟩] (.i e) := by
    intro e he
    unfold propE at he
    dsimp only at he
    (refine spec_of_runs Tryz.func51 rfl ?_; simp only [Tryz.f51]; refine ys ?_)
    repeat' (first | refine yw ?_ | ((with_reducible refine Runs.is ?_); first | refine Runs.region (id := 0) ?_ | refine Runs.region (id := 1) ?_ | refine Runs.region (id := 2) ?_ | refine Runs.region (id := 3) ?_ | refine Runs.region (id := 4) ?_ | refine Runs.region (id := 5) ?_ | refine Runs.region (id := 6) ?_ | refine Runs.region (id := 7) ?_ | ((with_reducible refine Runs.isC ?_); refine Runs.cond rfl (zc ?_) (zc ?_) <;> intro hc <;> (try (first | contradiction | (exfalso; omega; done) | (have : hc = trivial := rfl; clear this; clear hc))))) | ((with_reducible refine r_is ?_); first | refine yr ?_ | (refine r_fn rfl (val_Admin _) HbF.h zL1 zD ?_; refine r_nn zN zH ?_) | ((with_reducible refine r_gd ?_); (first | refine r_guardPf rfl rfl ?_ ?_ | refine r_guardNf rfl rfl ?_ ?_ | refine r_guard rfl rfl ?_ ?_) <;> intro hG <;> (try (exfalso; omega; done)) <;> refine r_nn zN zH ?_)) | fail)
    all_goals first
      | (rw [if_pos zo] at he; subst he; (refine Runs.ret1 Tryz.func51 rfl zM zD ?_; try exact zX); done)
      | (rw [if_neg zo, if_pos zo] at he; subst he; (refine Runs.ret1 Tryz.func51 rfl zM zD ?_; try exact zX); done)
      | (rw [if_neg zo, if_neg zo, if_pos zo] at he; subst he; (refine Runs.ret1 Tryz.func51 rfl zM zD ?_; try exact zX); done)
      | skip
    rw [if_neg zo, if_neg zo, if_neg zo] at he
    have hl6 : cs.length ≤ 6 := by omega
    refine Runs.weaken (St.Le.clean (s' := ⟨[.any, .ptr 1 0 0, .any, .i ((0 : Nat) : Int), .any, .any, .any, .any, .any, .any, .any, .any, .any, .any, .any, .any, .any, .any, .any, .any, .any, .any, .any, .any, .any, .any, .any, .any, .any, .any, .any, .any, .any, .any, .any, .any, .any, .any, .any, .any, .any, .any, .any, .any, .any, .any, .any, .any, .any, .any, .any, .any, .any, .any, .any, .any, .any, .any, .any, .any, .any, .any, .any, .any, .any, .any, .any, .any, .any, .any, .any, .any, .any, .any, .any, .any, .any, .any, .any, .any], [(1, .var 62 (prV ⟨ad, nu, cs⟩))]⟩) zR zU zV) ?_
    refine Runs.loopI (fun i : Nat => cs.length - i) (fun i => i ≤ cs.length ∧ chsE (cs.take i) (cs.drop i) = e)
      (fun i => ⟨[.any, .ptr 1 0 0, .any, .i (i : Nat), .any, .any, .any, .any, .any, .any, .any, .any, .any, .any, .any, .any, .any, .any, .any, .any, .any, .any, .any, .any, .any, .any, .any, .any, .any, .any, .any, .any, .any, .any, .any, .any, .any, .any, .any, .any, .any, .any, .any, .any, .any, .any, .any, .any, .any, .any, .any, .any, .any, .any, .any, .any, .any, .any, .any, .any, .any, .any, .any, .any, .any, .any, .any, .any, .any, .any, .any, .any, .any, .any, .any, .any, .any, .any, .any, .any], [(1, .var 62 (prV ⟨ad, nu, cs⟩))]⟩) 0 (by simpa using he) ?_ ?_
    · (refine St.Le.clean zR zU zV)
    rintro i ⟨hi, he2⟩ ih
    by_cases hlt : i < cs.length
    · have hC := vax_Change (cs.getD i default)
      rw [chsE_drop hlt] at he2
      repeat' (first | refine yw ?_ | ((with_reducible refine Runs.is ?_); first | refine Runs.region (id := 8) ?_ | refine Runs.region (id := 10) ?_ | refine Runs.region (id := 11) ?_ | refine Runs.region (id := 12) ?_ | refine Runs.region (id := 13) ?_ | refine Runs.region (id := 9) ?_ | ((with_reducible refine Runs.isC ?_); refine Runs.cond rfl (zc ?_) (zc ?_) <;> intro hc <;> (try (first | contradiction | (exfalso; omega; done) | (have : hc = trivial := rfl; clear this; clear hc))))) | ((with_reducible refine r_is ?_); first | refine yr ?_ | (refine r_fn rfl (hC) HbF.h zL1 zD ?_; refine r_nn zN zH ?_)) | fail)
      · rw [if_pos (by assumption)] at he2
        subst he2
        (refine Runs.ret1 Tryz.func51 rfl zM zD ?_; try exact zX)
      rw [if_neg zo] at he2
      refine Runs.loopI (fun k : Nat => i - k) (fun k => k ≤ i ∧ (cs.take k).any (dupB · (cs.getD i default)) = false)
        (fun k => ⟨[.any, .ptr 1 0 0, .any, .i (i : Nat), .any, .i (k : Nat), .any, .any, .any, .any, .any, .any, .any, .any, .any, .any, .any, .any, .any, .any, .any, .any, .any, .any, .any, .any, .any, .any, .any, .any, .any, .any, .any, .any, .any, .any, .any, .any, .any, .any, .any, .any, .any, .any, .any, .any, .any, .any, .any, .any, .any, .any, .any, .any, .any, .any, .any, .any, .any, .any, .any, .any, .any, .any, .any, .any, .any, .any, .any, .any, .any, .any, .any, .any, .any, .any, .any, .any, .any, .any], [(1, .var 62 (prV ⟨ad, nu, cs⟩))]⟩) 0 (by simp) ?_ ?_
      · (refine St.Le.clean zR zU zV)
      rintro k ⟨hk, hn⟩ ihk
      by_cases hkt : k < i
      · have hst := any_take (g := (dupB · (cs.getD i default))) (show k < cs.length by omega)
        rw [hn, Bool.false_or] at hst
        have hin : cs.getD k default ∈ cs.take i := by
          rw [← List.take_append_drop k (cs.take i), take_take_le zo]
          refine List.mem_append.2 (.inr ?_)
          rw [drop_getD (show k < (cs.take i).length by rw [List.length_take]; omega)]
          have : (cs.take i).getD k default = cs.getD k default := by rw [List.getD_eq_getElem?_getD, List.getD_eq_getElem?_getD, List.getElem?_take_of_lt hkt]
          rw [this]; exact List.mem_cons_self
        repeat' (first | refine yw ?_ | ((with_reducible refine Runs.is ?_); first | refine Runs.region (id := 14) ?_ | refine Runs.drawn (id := 16) mixed zK ?_ | refine Runs.region (id := 17) ?_ | refine Runs.region (id := 15) ?_ | ((with_reducible refine Runs.isC ?_); refine Runs.cond rfl (zc ?_) (zc ?_) <;> intro hc <;> (try (first | contradiction | (exfalso; omega; done) | (have : hc = trivial := rfl; clear this; clear hc))))) | ((with_reducible refine r_is ?_); first | refine yr ?_) | ((with_reducible refine d_is ?_); first | refine yd ?_ | ((with_reducible refine d_gd ?_); (first | refine d_guardPt rfl rfl ?_ ?_ | refine d_guardNt rfl rfl ?_ ?_ | refine d_guard rfl rfl ?_ ?_) <;> intro hG <;> (try (exfalso; omega; done)) <;> refine d_nn zN zH ?_)) | fail)
        all_goals first
          | (have hd : dupB (cs.getD k default) (cs.getD i default) = true := decide_eq_true ⟨by assumption, by assumption⟩
             rw [if_pos (List.any_eq_true.2 ⟨_, hin, hd⟩)] at he2
             subst he2
             (refine Runs.ret1 Tryz.func51 rfl zM zD ?_; try exact zX)
             done)
          | (refine ihk (k + 1) _ ⟨by omega, by rw [hst]; exact decide_eq_false (fun h => by first | exact absurd h.1 (by assumption) | exact absurd h.2 (by assumption))⟩ zo ?_; (refine St.Le.clean zR zU zV); done)
          | fail
      · repeat' (first | refine yw ?_ | ((with_reducible refine Runs.is ?_); first | refine Runs.region (id := 14) ?_ | ((with_reducible refine Runs.isC ?_); refine Runs.cond rfl (zc ?_) (zc ?_) <;> intro hc <;> (try (first | contradiction | (exfalso; omega; done) | (have : hc = trivial := rfl; clear this; clear hc))))) | ((with_reducible refine r_is ?_); first | refine yr ?_) | fail)
        repeat' (first | refine yw ?_ | ((with_reducible refine Runs.is ?_); first | refine Runs.region (id := 9) ?_ | ((with_reducible refine Runs.isC ?_); refine Runs.cond rfl (zc ?_) (zc ?_) <;> intro hc <;> (try (first | contradiction | (exfalso; omega; done) | (have : hc = trivial := rfl; clear this; clear hc))))) | ((with_reducible refine r_is ?_); first | refine yr ?_) | fail)
        obtain rfl : k = i := by omega
        rw [if_neg (by rw [hn]; decide)] at he2
        refine ih (k + 1) _ ⟨by omega, he2⟩ zo ?_
        (refine St.Le.clean zR zU zV)
    · repeat' (first | refine yw ?_ | ((with_reducible refine Runs.is ?_); first | refine Runs.region (id := 8) ?_ | ((with_reducible refine Runs.isC ?_); refine Runs.cond rfl (zc ?_) (zc ?_) <;> intro hc <;> (try (first | contradiction | (exfalso; omega; done) | (have : hc = trivial := rfl; clear this; clear hc))))) | ((with_reducible refine r_is ?_); first | refine yr ?_) | fail)
      rw [List.drop_of_length_le zo] at he2
      repeat' (first | refine yw ?_ | ((with_reducible refine Runs.is ?_); first | refine Runs.region (id := 18) ?_ | ((with_reducible refine Runs.isC ?_); refine Runs.cond rfl (zc ?_) (zc ?_) <;> intro hc <;> (try (first | contradiction | (exfalso; omega; done) | (have : hc = trivial := rfl; clear this; clear hc))))) | ((with_reducible refine r_is ?_); first | refine yr ?_) | fail)
      subst he2
      (refine Runs.ret1 Tryz.func51 rfl zM zD ?_; try exact zX)
  exact hgo _ rfl
def cfsE : Config → Nat → Nat → Int
  | _, _, 0 => 0
  | c, i, n + 1 => if propE (c.getD i default) ≠ 0 then propE (c.getD i default) else if 0 < i ∧ 0 ≤ cmpP (c.getD (i - 1) default) (c.getD i default) then 7
    else if 1 < (c.getD i default).number ∧ (i = 0 ∨ (c.getD (i - 1) default).admin ≠ (c.getD i default).admin ∨ (c.getD (i - 1) default).number ≠ (c.getD i default).number - 1) then 8 else cfsE c (i + 1) n
def confE (c : Config) : Int := cfsE c 0 c.length
theorem propE_num (p : Proposal) : propE p ≠ 0 ∨ (1 ≤ p.number ∧ p.number ≤ 3) := by
  unfold propE
  split
  · exact .inl zd
  · exact .inr zo
theorem vax_Conf (f : Bool) (c : Config) : AM.Fn Tryz.prog 27 [.sl f (c.map prV)] (.i (confE c)) := by
  have hgo : ∀ e, confE c = e → AM.Fn Tryz.prog 27 [.sl f (c.map prV)] (.i e) := by
    intro e he
    unfold confE at he
    (refine spec_of_runs Tryz.func27 rfl ?_; simp only [Tryz.f27]; refine ys ?_)
    (refine Runs.lens 0 ?_; refine yl ?_)
    intro hl
    repeat' (first | refine yw ?_ | ((with_reducible refine Runs.is ?_); first | refine Runs.region (id := 0) ?_ | refine Runs.region (id := 1) ?_ | ((with_reducible refine Runs.isC ?_); refine Runs.cond rfl (zc ?_) (zc ?_) <;> intro hc <;> (try (first | contradiction | (exfalso; omega; done) | (have : hc = trivial := rfl; clear this; clear hc))))) | ((with_reducible refine r_is ?_); first | refine yr ?_) | fail)
    refine Runs.loopI (fun i : Nat => c.length - i) (fun i => i ≤ c.length ∧ cfsE c i (c.length - i) = e)
      (fun i => ⟨[.sl f (c.map prV), .any, .any, .i (i : Nat), .any, .any, .any, .any, .any, .any, .any, .any, .any, .any, .any, .any, .any, .any, .any, .any, .any, .any, .any, .any, .any, .any, .any, .any, .any, .any, .any, .any, .any, .any, .any, .any, .any, .any, .any, .any, .any, .any, .any, .any, .any, .any, .any, .any, .any, .any, .any, .any, .any, .any, .any, .any, .any, .any, .any, .any, .any, .any, .any, .any, .any, .any, .any, .any, .any, .any, .any, .any, .any], []⟩) 0 (by simpa using he) ?_ ?_
    · (refine St.Le.clean zR zU zV)
    rintro i ⟨hi, he2⟩ ih
    by_cases hlt : i < c.length
    · have hP := vax_Prop (c.getD i default)
      have hnum := propE_num (c.getD i default)
      rw [show c.length - i = (c.length - (i + 1)) + 1 by omega, cfsE] at he2
      by_cases h0 : 0 < i
      · have e1 : ((i : Int) - 1).toNat = i - 1 := by omega
        rw [← e1] at he2
        repeat' (first | refine yw ?_ | ((with_reducible refine Runs.is ?_); first | refine Runs.region (id := 2) ?_ | refine Runs.region (id := 4) ?_ | refine Runs.region (id := 5) ?_ | refine Runs.region (id := 6) ?_ | refine Runs.drawn (id := 7) mixed zK ?_ | refine Runs.region (id := 8) ?_ | refine Runs.drawn (id := 9) mixed zK ?_ | refine Runs.region (id := 10) ?_ | refine Runs.region (id := 3) ?_ | ((with_reducible refine Runs.isC ?_); refine Runs.cond rfl (zc ?_) (zc ?_) <;> intro hc <;> (try (first | contradiction | (exfalso; omega; done) | (have : hc = trivial := rfl; clear this; clear hc))))) | ((with_reducible refine r_is ?_); first | refine yr ?_ | (refine r_fn rfl (hP) HbF.h zL1 zD ?_; refine r_nn zN zH ?_)) | ((with_reducible refine d_is ?_); first | refine yd ?_ | (refine d_fn rfl (ref_Compare _ _) HbF.h zL2 zD ?_; refine d_nn zN zH ?_) | ((with_reducible refine d_gd ?_); (first | refine d_guardPf rfl rfl ?_ ?_ | refine d_guardNf rfl rfl ?_ ?_ | refine d_guardPt rfl rfl ?_ ?_ | refine d_guardNt rfl rfl ?_ ?_ | refine d_guard rfl rfl ?_ ?_) <;> intro hG <;> (try (exfalso; omega; done)) <;> refine d_nn zN zH ?_)) | fail)
        all_goals first
          | (rw [if_pos (by assumption)] at he2; subst he2; (refine Runs.ret1 Tryz.func27 rfl zM zD ?_; try exact zX); done)
          | (rw [if_neg zo, if_pos zo] at he2; subst he2; (refine Runs.ret1 Tryz.func27 rfl zM zD ?_; try exact zX); done)
          | (rw [if_neg zo, if_neg zo, if_pos zo] at he2; subst he2; (refine Runs.ret1 Tryz.func27 rfl zM zD ?_; try exact zX); done)
          | (rw [if_neg zo, if_neg zo, if_neg zo] at he2
             refine ih (i + 1) _ ⟨by omega, he2⟩ zo ?_
             (refine St.Le.clean zR zU zV)
             done)
          | fail
      · obtain rfl : i = 0 := by omega
        repeat' (first | refine yw ?_ | ((with_reducible refine Runs.is ?_); first | refine Runs.region (id := 2) ?_ | refine Runs.region (id := 4) ?_ | refine Runs.region (id := 5) ?_ | refine Runs.region (id := 6) ?_ | refine Runs.drawn (id := 7) mixed zK ?_ | refine Runs.region (id := 8) ?_ | refine Runs.drawn (id := 9) mixed zK ?_ | refine Runs.region (id := 10) ?_ | refine Runs.region (id := 3) ?_ | ((with_reducible refine Runs.isC ?_); refine Runs.cond rfl (zc ?_) (zc ?_) <;> intro hc <;> (try (first | contradiction | (exfalso; omega; done) | (have : hc = trivial := rfl; clear this; clear hc))))) | ((with_reducible refine r_is ?_); first | refine yr ?_ | (refine r_fn rfl (hP) HbF.h zL1 zD ?_; refine r_nn zN zH ?_)) | ((with_reducible refine d_is ?_); first | refine yd ?_ | (refine d_fn rfl (ref_Compare _ _) HbF.h zL2 zD ?_; refine d_nn zN zH ?_) | ((with_reducible refine d_gd ?_); (first | refine d_guardPf rfl rfl ?_ ?_ | refine d_guardNf rfl rfl ?_ ?_ | refine d_guardPt rfl rfl ?_ ?_ | refine d_guardNt rfl rfl ?_ ?_ | refine d_guard rfl rfl ?_ ?_) <;> intro hG <;> (try (exfalso; omega; done)) <;> refine d_nn zN zH ?_)) | fail)
        all_goals first
          | (rw [if_pos (by assumption)] at he2; subst he2; (refine Runs.ret1 Tryz.func27 rfl zM zD ?_; try exact zX); done)
          | (rw [if_neg zo, if_pos zo] at he2; subst he2; (refine Runs.ret1 Tryz.func27 rfl zM zD ?_; try exact zX); done)
          | (rw [if_neg zo, if_neg zo, if_pos zo] at he2; subst he2; (refine Runs.ret1 Tryz.func27 rfl zM zD ?_; try exact zX); done)
          | (rw [if_neg zo, if_neg zo, if_neg zo] at he2
             refine ih (0 + 1) _ ⟨by omega, he2⟩ zo ?_
             (refine St.Le.clean zR zU zV)
             done)
          | fail
    · repeat' (first | refine yw ?_ | ((with_reducible refine Runs.is ?_); first | refine Runs.region (id := 2) ?_ | ((with_reducible refine Runs.isC ?_); refine Runs.cond rfl (zc ?_) (zc ?_) <;> intro hc <;> (try (first | contradiction | (exfalso; omega; done) | (have : hc = trivial := rfl; clear this; clear hc))))) | ((with_reducible refine r_is ?_); first | refine yr ?_) | fail)
      rw [show c.length - i = 0 by omega, cfsE] at he2
      repeat' (first | refine yw ?_ | ((with_reducible refine Runs.is ?_); first | refine Runs.region (id := 11) ?_ | ((with_reducible refine Runs.isC ?_); refine Runs.cond rfl (zc ?_) (zc ?_) <;> intro hc <;> (try (first | contradiction | (exfalso; omega; done) | (have : hc = trivial := rfl; clear this; clear hc))))) | ((with_reducible refine r_is ?_); first | refine yr ?_) | fail)
      subst he2
      (refine Runs.ret1 Tryz.func27 rfl zM zD ?_; try exact zX)
  exact hgo _ rfl
end Go.Proofs
namespace Go.Proofs
open Go.AM
attribute [local irreducible] AM.evalR AM.evalD AM.Runs AM.valK AM.dK AM.opK AM.stepR AM.CallS AM.St.Le
def idx (i j k i' j' k' : Nat) : List (Nat × Nat × Nat) := (upto i i').flatMap fun a => (upto j j').flatMap fun b => (upto k k').map fun c => (a.toNat, b.toNat, c.toNat)
theorem allN_idx (f : Nat → Nat → Proposal) (i j k i' j' k' : Nat) : allN f i j k i' j' k' = (idx i j k i' j' k').map fun t => cut f t.1 t.2.1 t.2.2 := by
  simp [allN, idx, List.map_flatMap, Function.comp_def]
def facR (vf vt : Vector) (a : Nat) : Int := 1 + countR vt (201 + a) - countR vf (201 + a)
def prodR (vf vt : Vector) : Nat → Int
  | 0 => 1
  | k + 1 => prodR vf vt k * facR vf vt k
theorem cnt_fin : ∀ i j k i' j' k' : Fin 4, i ≤ i' → j ≤ j' → k ≤ k' →
    (∀ a : Fin 3, (1 ≤ facR (vecC i j k) (vecC i' j' k') a ∧ facR (vecC i j k) (vecC i' j' k') a ≤ 4) ∧ (0 ≤ countR (vecC i j k) (201 + (a : Nat)) ∧ countR (vecC i j k) (201 + (a : Nat)) ≤ 3) ∧ (0 ≤ countR (vecC i' j' k') (201 + (a : Nat)) ∧ countR (vecC i' j' k') (201 + (a : Nat)) ≤ 3)) ∧
      countI (vecC i j k) (vecC i' j' k') = prodR (vecC i j k) (vecC i' j' k') 3 ∧ (∀ e ∈ vecC i' j' k', (1 ≤ fac (vecC i j k) e ∧ fac (vecC i j k) e ≤ 4) ∧ 0 ≤ e.count ∧ e.count ≤ 1000000) := by decide +kernel
theorem idx_fin : ∀ i j k i' j' k' : Fin 4, i ≤ i' → j ≤ j' → k ≤ k' →
    ((idx i j k i' j' k').length : Int) = prodR (vecC i j k) (vecC i' j' k') 3 ∧ (idx i j k i' j' k').getD 0 (0, 0, 0) = (i.val, j.val, k.val) ∧ (idx i j k i' j' k').getD ((idx i j k i' j' k').length - 1) (0, 0, 0) = (i'.val, j'.val, k'.val) := by decide +kernel
theorem getV_fin : ∀ i j k : Fin 4, (vecC i j k).length ≤ 3 := by decide +kernel
theorem getV_le {v : Vector} (h : ∀ e ∈ v, 0 ≤ e.count ∧ e.count ≤ 1000000000) (x : Int) : 0 ≤ getV v x ∧ getV v x ≤ 1000000000 := by
  unfold getV
  split
  · rename_i hh
    refine h _ ?_
    rw [List.getD_eq_getElem?_getD, List.getElem?_eq_getElem hh.1]; exact List.getElem_mem hh.1
  · omega
end Go.Proofs
namespace Go.Proofs
open Go.AM
attribute [local irreducible] AM.evalR AM.evalD AM.Runs AM.valK AM.dK AM.opK AM.stepR AM.CallS AM.St.Le
end Go.Proofs
namespace Go.Proofs
open Go.AM
attribute [local irreducible] AM.evalR AM.evalD AM.Runs AM.valK AM.dK AM.opK AM.stepR AM.CallS AM.St.Le
end Go.Proofs
namespace Go.Proofs
open Go.AM
attribute [local irreducible] AM.evalR AM.evalD AM.Runs AM.valK AM.dK AM.opK AM.stepR AM.CallS AM.St.Le
end Go.Proofs
namespace Go.Proofs
open Go.AM
attribute [local irreducible] AM.evalR AM.evalD AM.Runs AM.valK AM.dK AM.opK AM.stepR AM.CallS AM.St.Le
end Go.Proofs
namespace Go.Proofs
open Go.AM
attribute [local irreducible] AM.evalR AM.evalD AM.Runs AM.valK AM.dK AM.opK AM.stepR AM.CallS AM.St.Le
def clashB (p q : Proposal) : Bool := decide (cmpP p q = 0) && !decide (p = q)
def agreeB (a b : Config) : Bool := a.all fun p => b.all fun q => !clashB p q
theorem ref_Agree (f g : Bool) (a b : Config) : AM.Fn Tryz.prog 28 [.sl f (a.map prV), .sl g (b.map prV)] (.b (agreeB a b)) := by
  have hgo : ∀ e, agreeB a b = e → AM.Fn Tryz.prog 28 [.sl f (a.map prV), .sl g (b.map prV)] (.b e) := by
    intro e he
    unfold agreeB at he
    (refine spec_of_runs Tryz.func28 rfl ?_; simp only [Tryz.f28]; refine ys ?_)
    (refine Runs.lens 0 ?_; refine yl ?_)
    intro hla
    (refine Runs.lens 1 ?_; refine yl ?_)
    intro hlb
    repeat' (first | refine yw ?_ | ((with_reducible refine Runs.is ?_); first | refine Runs.region (id := 0) ?_ | refine Runs.region (id := 1) ?_ | ((with_reducible refine Runs.isC ?_); refine Runs.cond rfl (zc ?_) (zc ?_) <;> intro hc <;> (try (first | contradiction | (exfalso; omega; done) | (have : hc = trivial := rfl; clear this; clear hc))))) | ((with_reducible refine r_is ?_); first | refine yr ?_) | fail)
    refine Runs.loopI (fun i : Nat => a.length - i) (fun i => i ≤ a.length ∧ ((a.drop i).all fun p => b.all fun q => !clashB p q) = e)
      (fun i => ⟨[.sl f (a.map prV), .sl g (b.map prV), .any, .any, .any, .i (i : Nat), .any, .any, .any, .any, .any, .any, .any, .any, .any, .any, .any, .any, .any, .any, .any, .any, .any, .any, .any, .any, .any, .any, .any, .any, .any, .any, .any, .any, .any, .any, .any, .any, .any, .any, .any], []⟩) 0 (by simpa using he) ?_ ?_
    · (refine St.Le.clean zR zU zV)
    rintro i ⟨hi, he2⟩ ih
    by_cases hlt : i < a.length
    · rw [all_drop hlt] at he2
      repeat' (first | refine yw ?_ | ((with_reducible refine Runs.is ?_); first | refine Runs.region (id := 2) ?_ | refine Runs.region (id := 4) ?_ | refine Runs.region (id := 3) ?_ | ((with_reducible refine Runs.isC ?_); refine Runs.cond rfl (zc ?_) (zc ?_) <;> intro hc <;> (try (first | contradiction | (exfalso; omega; done) | (have : hc = trivial := rfl; clear this; clear hc))))) | ((with_reducible refine r_is ?_); first | refine yr ?_) | fail)
      generalize hB : ((a.drop (i + 1)).all fun p => b.all fun q => !clashB p q) = B at he2
      refine Runs.loopI (fun k : Nat => b.length - k) (fun k => k ≤ b.length ∧ (((b.drop k).all fun q => !clashB (a.getD i default) q) && B) = e)
        (fun k => ⟨[.sl f (a.map prV), .sl g (b.map prV), .any, .any, .any, .i (i : Nat), .i (k : Nat), .any, .any, .any, .any, .any, .any, .any, .any, .any, .any, .any, .any, .any, .any, .any, .any, .any, .any, .any, .any, .any, .any, .any, .any, .any, .any, .any, .any, .any, .any, .any, .any, .any, .any], []⟩) 0 (by simpa using he2) ?_ ?_
      · (refine St.Le.clean zR zU zV)
      rintro k ⟨hk, he3⟩ ihk
      by_cases hkt : k < b.length
      · rw [all_drop hkt] at he3
        have hC := ref_Compare (a.getD i default) (b.getD k default)
        have hE := ref_EqualProposal (a.getD i default) (b.getD k default)
        repeat' (first | refine yw ?_ | ((with_reducible refine Runs.is ?_); first | refine Runs.region (id := 5) ?_ | refine Runs.drawn (id := 7) mixed zK ?_ | refine Runs.region (id := 8) ?_ | refine Runs.region (id := 6) ?_ | ((with_reducible refine Runs.isC ?_); refine Runs.cond rfl (zc ?_) (zc ?_) <;> intro hc <;> (try (first | contradiction | (exfalso; omega; done) | (have : hc = trivial := rfl; clear this; clear hc))))) | ((with_reducible refine r_is ?_); first | refine yr ?_) | ((with_reducible refine d_is ?_); first | refine yd ?_ | (refine d_fn rfl (hC) HbF.h zL2 zD ?_; refine d_nn zN zH ?_) | (refine d_fn rfl (hE) HbF.h zL2 zD ?_; refine d_nn zN zH ?_) | ((with_reducible refine d_gd ?_); (first | refine d_guardPt rfl rfl ?_ ?_ | refine d_guardNt rfl rfl ?_ ?_ | refine d_guard rfl rfl ?_ ?_) <;> intro hG <;> (try (exfalso; omega; done)) <;> refine d_nn zN zH ?_)) | fail)
        all_goals first
          | (have h9 : clashB (a.getD i default) (b.getD k default) = true := by unfold clashB; simp; exact ⟨by assumption, by assumption⟩
             rw [h9] at he3
             simp only [Bool.not_true, Bool.false_and] at he3
             subst he3
             (refine Runs.ret1 Tryz.func28 rfl zM zD ?_; try exact zX)
             done)
          | (have h9 : clashB (a.getD i default) (b.getD k default) = false := by unfold clashB; simp; intro q; first | exact absurd q (by assumption) | assumption
             rw [h9, Bool.not_false, Bool.true_and] at he3
             refine ihk (k + 1) _ ⟨by omega, he3⟩ zo ?_
             (refine St.Le.clean zR zU zV)
             done)
          | fail
      · rw [List.drop_of_length_le zo, List.all_nil, Bool.true_and] at he3
        repeat' (first | refine yw ?_ | ((with_reducible refine Runs.is ?_); first | refine Runs.region (id := 5) ?_ | ((with_reducible refine Runs.isC ?_); refine Runs.cond rfl (zc ?_) (zc ?_) <;> intro hc <;> (try (first | contradiction | (exfalso; omega; done) | (have : hc = trivial := rfl; clear this; clear hc))))) | ((with_reducible refine r_is ?_); first | refine yr ?_) | fail)
        repeat' (first | refine yw ?_ | ((with_reducible refine Runs.is ?_); first | refine Runs.region (id := 3) ?_ | ((with_reducible refine Runs.isC ?_); refine Runs.cond rfl (zc ?_) (zc ?_) <;> intro hc <;> (try (first | contradiction | (exfalso; omega; done) | (have : hc = trivial := rfl; clear this; clear hc))))) | ((with_reducible refine r_is ?_); first | refine yr ?_) | fail)
        refine ih (i + 1) _ ⟨by omega, by rw [hB, he3]⟩ zo ?_
        (refine St.Le.clean zR zU zV)
    · rw [List.drop_of_length_le zo] at he2
      repeat' (first | refine yw ?_ | ((with_reducible refine Runs.is ?_); first | refine Runs.region (id := 2) ?_ | ((with_reducible refine Runs.isC ?_); refine Runs.cond rfl (zc ?_) (zc ?_) <;> intro hc <;> (try (first | contradiction | (exfalso; omega; done) | (have : hc = trivial := rfl; clear this; clear hc))))) | ((with_reducible refine r_is ?_); first | refine yr ?_) | fail)
      repeat' (first | refine yw ?_ | ((with_reducible refine Runs.is ?_); first | refine Runs.region (id := 9) ?_ | ((with_reducible refine Runs.isC ?_); refine Runs.cond rfl (zc ?_) (zc ?_) <;> intro hc <;> (try (first | contradiction | (exfalso; omega; done) | (have : hc = trivial := rfl; clear this; clear hc))))) | ((with_reducible refine r_is ?_); first | refine yr ?_) | fail)
      simp at he2
      subst he2
      (refine Runs.ret1 Tryz.func28 rfl zM zD ?_; try exact zX)
  exact hgo _ rfl
def okI (l : List Config) (i : Nat) : Bool := decide (confE (l.getD i default) = 0) && (List.range i).all fun k => agreeB (l.getD i default) (l.getD k default)
def validB (l : List Config) : Bool := (List.range l.length).all (okI l)
theorem range_all {n : Nat} {g : Nat → Bool} : ((List.range n).all g = true) ↔ ∀ i, i < n → g i = true := by simp
theorem kit_Valid (f : Bool) (l : List Config) : AM.Fn Tryz.prog 6 [.sl f (l.map cfV)] (.b (validB l)) := by
  have hgo : ∀ e, validB l = e → AM.Fn Tryz.prog 6 [.sl f (l.map cfV)] (.b e) := by
    intro e he
    (refine spec_of_runs Tryz.func6 rfl ?_; simp only [Tryz.f6]; refine ys ?_)
    (refine Runs.lens 0 ?_; refine yl ?_)
    intro hl
    have hbad : ∀ i, i < l.length → okI l i = false → e = false := fun i hi h => by
      rw [← he]
      cases hv : validB l
      · rfl
      · rw [range_all.1 hv i hi] at h; cases h
    repeat' (first | refine yw ?_ | ((with_reducible refine Runs.is ?_); first | refine Runs.region (id := 0) ?_ | refine Runs.region (id := 1) ?_ | ((with_reducible refine Runs.isC ?_); refine Runs.cond rfl (zc ?_) (zc ?_) <;> intro hc <;> (try (first | contradiction | (exfalso; omega; done) | (have : hc = trivial := rfl; clear this; clear hc))))) | ((with_reducible refine r_is ?_); first | refine yr ?_) | fail)
    refine Runs.loopI (fun i : Nat => l.length - i) (fun i => i ≤ l.length ∧ ∀ j, j < i → okI l j = true)
      (fun i => ⟨[.sl f (l.map cfV), .any, .any, .i (i : Nat), .any, .any, .any, .any, .any, .any, .any, .any, .any, .any, .any, .any, .any, .any, .any, .any, .any, .any, .any, .any, .any, .any, .any, .any, .any, .any, .any, .any], []⟩) 0 (by simp) ?_ ?_
    · (refine St.Le.clean zR zU zV)
    rintro i ⟨hi, hok⟩ ih
    by_cases hlt : i < l.length
    · have hC := vax_Conf false (l.getD i default)
      repeat' (first | refine yw ?_ | ((with_reducible refine Runs.is ?_); first | refine Runs.region (id := 2) ?_ | refine Runs.region (id := 4) ?_ | refine Runs.region (id := 5) ?_ | refine Runs.region (id := 6) ?_ | refine Runs.region (id := 3) ?_ | ((with_reducible refine Runs.isC ?_); refine Runs.cond rfl (zc ?_) (zc ?_) <;> intro hc <;> (try (first | contradiction | (exfalso; omega; done) | (have : hc = trivial := rfl; clear this; clear hc))))) | ((with_reducible refine r_is ?_); first | refine yr ?_ | (refine r_fn rfl (hC) HbF.h zL1 zD ?_; refine r_nn zN zH ?_)) | fail)
      · have h0 : okI l i = false := by unfold okI; rw [decide_eq_false (by assumption)]; rfl
        rw [hbad i hlt h0]
        (refine Runs.ret1 Tryz.func6 rfl zM zD ?_; try exact zX)
      refine Runs.loopI (fun k : Nat => i - k) (fun k => k ≤ i ∧ ∀ j, j < k → agreeB (l.getD i default) (l.getD j default) = true)
        (fun k => ⟨[.sl f (l.map cfV), .any, .any, .i (i : Nat), .i (k : Nat), .any, .any, .any, .any, .any, .any, .any, .any, .any, .any, .any, .any, .any, .any, .any, .any, .any, .any, .any, .any, .any, .any, .any, .any, .any, .any, .any], []⟩) 0 (by simp) ?_ ?_
      · (refine St.Le.clean zR zU zV)
      rintro k ⟨hk, hag⟩ ihk
      by_cases hkt : k < i
      · have hA := ref_Agree false false (l.getD i default) (l.getD k default)
        cases hv : agreeB (l.getD i default) (l.getD k default)
        · rw [hv] at hA
          repeat' (first | refine yw ?_ | ((with_reducible refine Runs.is ?_); first | refine Runs.region (id := 7) ?_ | refine Runs.drawn (id := 9) mixed zK ?_ | refine Runs.region (id := 10) ?_ | refine Runs.region (id := 8) ?_ | ((with_reducible refine Runs.isC ?_); refine Runs.cond rfl (zc ?_) (zc ?_) <;> intro hc <;> (try (first | contradiction | (exfalso; omega; done) | (have : hc = trivial := rfl; clear this; clear hc))))) | ((with_reducible refine r_is ?_); first | refine yr ?_) | ((with_reducible refine d_is ?_); first | refine yd ?_ | (refine d_fn rfl (hA) HbF.h zL2 zD ?_; refine d_nn zN zH ?_)) | fail)
          have h0 : okI l i = false := by
            unfold okI
            rw [Bool.and_eq_false_iff]
            refine .inr ?_
            cases hr : (List.range i).all fun k => agreeB (l.getD i default) (l.getD k default)
            · rfl
            · rw [range_all.1 hr k hkt] at hv; cases hv
          rw [hbad i hlt h0]
          (refine Runs.ret1 Tryz.func6 rfl zM zD ?_; try exact zX)
        · rw [hv] at hA
          repeat' (first | refine yw ?_ | ((with_reducible refine Runs.is ?_); first | refine Runs.region (id := 7) ?_ | refine Runs.drawn (id := 9) mixed zK ?_ | refine Runs.region (id := 10) ?_ | refine Runs.region (id := 8) ?_ | ((with_reducible refine Runs.isC ?_); refine Runs.cond rfl (zc ?_) (zc ?_) <;> intro hc <;> (try (first | contradiction | (exfalso; omega; done) | (have : hc = trivial := rfl; clear this; clear hc))))) | ((with_reducible refine r_is ?_); first | refine yr ?_) | ((with_reducible refine d_is ?_); first | refine yd ?_ | (refine d_fn rfl (hA) HbF.h zL2 zD ?_; refine d_nn zN zH ?_)) | fail)
          refine ihk (k + 1) _ ⟨by omega, fun j hj => ?_⟩ zo ?_
          · by_cases e : j = k
            · rw [e]; exact hv
            · exact hag j zo
          · (refine St.Le.clean zR zU zV)
      · obtain rfl : k = i := by omega
        repeat' (first | refine yw ?_ | ((with_reducible refine Runs.is ?_); first | refine Runs.region (id := 7) ?_ | ((with_reducible refine Runs.isC ?_); refine Runs.cond rfl (zc ?_) (zc ?_) <;> intro hc <;> (try (first | contradiction | (exfalso; omega; done) | (have : hc = trivial := rfl; clear this; clear hc))))) | ((with_reducible refine r_is ?_); first | refine yr ?_) | fail)
        repeat' (first | refine yw ?_ | ((with_reducible refine Runs.is ?_); first | refine Runs.region (id := 3) ?_ | ((with_reducible refine Runs.isC ?_); refine Runs.cond rfl (zc ?_) (zc ?_) <;> intro hc <;> (try (first | contradiction | (exfalso; omega; done) | (have : hc = trivial := rfl; clear this; clear hc))))) | ((with_reducible refine r_is ?_); first | refine yr ?_) | fail)
        refine ih (k + 1) _ ⟨by omega, fun j hj => ?_⟩ zo ?_
        · by_cases e : j = k
          · rw [e]
            unfold okI
            rw [decide_eq_true (by assumption), Bool.true_and]
            exact range_all.2 hag
          · exact hok j zo
        · (refine St.Le.clean zR zU zV)
    · obtain rfl : i = l.length := by omega
      have h1 : validB l = true := range_all.2 hok
      rw [h1] at he
      subst he
      repeat' (first | refine yw ?_ | ((with_reducible refine Runs.is ?_); first | refine Runs.region (id := 2) ?_ | ((with_reducible refine Runs.isC ?_); refine Runs.cond rfl (zc ?_) (zc ?_) <;> intro hc <;> (try (first | contradiction | (exfalso; omega; done) | (have : hc = trivial := rfl; clear this; clear hc))))) | ((with_reducible refine r_is ?_); first | refine yr ?_) | fail)
      repeat' (first | refine yw ?_ | ((with_reducible refine Runs.is ?_); first | refine Runs.region (id := 11) ?_ | ((with_reducible refine Runs.isC ?_); refine Runs.cond rfl (zc ?_) (zc ?_) <;> intro hc <;> (try (first | contradiction | (exfalso; omega; done) | (have : hc = trivial := rfl; clear this; clear hc))))) | ((with_reducible refine r_is ?_); first | refine yr ?_) | fail)
      (refine Runs.ret1 Tryz.func6 rfl zM zD ?_; try exact zX)
  exact hgo _ rfl
theorem chsE_ok : ∀ {cs pre : List Change}, chsE pre cs = 0 → (∀ c ∈ cs, ChangeOK c) ∧ ∀ i, i < cs.length → ∀ d ∈ pre ++ cs.take i, ¬ (d.kind = (cs.getD i default).kind ∧ d.server = (cs.getD i default).server)
  | [], pre, _ => ⟨by simp, by simp⟩
  | c :: cs, pre, h => by
    rw [chsE] at h
    split at h
    · contradiction
    rename_i h0
    split at h
    · contradiction
    rename_i h1
    have h0' : changeE c = 0 := by omega
    obtain ⟨i1, i2⟩ := chsE_ok h
    refine ⟨fun d hd => ?_, fun i hi d hd => ?_⟩
    · rcases List.mem_cons.1 hd with rfl | hd
      · exact changeE_ok h0'
      · exact i1 d hd
    · cases i with
      | zero =>
        intro hk
        refine h1 (List.any_eq_true.2 ⟨d, ?_, decide_eq_true hk⟩)
        simpa using hd
      | succ i => exact i2 i (by simpa using hi) d (by simpa using hd)
theorem propE_ok {p : Proposal} (h : propE p = 0) : PropOK p := by
  unfold propE at h
  split at h
  · contradiction
  split at h
  · contradiction
  split at h
  · contradiction
  obtain ⟨h1, h2⟩ := chsE_ok h
  refine ⟨by omega, by omega, by omega, h1, fun i k hk hi => ?_⟩
  refine h2 i hi _ ?_
  rw [List.nil_append, ← List.take_append_drop k (p.changes.take i), take_take_le zo]
  refine List.mem_append.2 (.inr ?_)
  rw [drop_getD (show k < (p.changes.take i).length by rw [List.length_take]; omega)]
  have : (p.changes.take i).getD k default = p.changes.getD k default := by rw [List.getD_eq_getElem?_getD, List.getD_eq_getElem?_getD, List.getElem?_take_of_lt hk]
  rw [this]; exact List.mem_cons_self
theorem cfsE_ok {c : Config} : ∀ (n i : Nat), cfsE c i n = 0 → ∀ j, i ≤ j → j < i + n → propE (c.getD j default) = 0 ∧ (0 < j → cmpP (c.getD (j - 1) default) (c.getD j default) < 0) ∧
    (1 < (c.getD j default).number → 0 < j ∧ (c.getD (j - 1) default).admin = (c.getD j default).admin ∧ (c.getD (j - 1) default).number = (c.getD j default).number - 1)
  | 0, i, _, j, h1, h2 => by omega
  | n + 1, i, h, j, h1, h2 => by
    rw [cfsE] at h
    split at h
    · contradiction
    split at h
    · contradiction
    split at h
    · contradiction
    by_cases e : j = i
    · subst e; exact ⟨by omega, by omega, by omega⟩
    · exact cfsE_ok n (i + 1) h j zo zo
theorem confE_ok {c : Config} (h : confE c = 0) : ConfOK c := by
  have hk := cfsE_ok c.length 0 h
  refine ⟨fun p hp => ?_, fun i h0 hi => (hk i zo zo).2.1 h0, fun i hi h1 => (hk i zo zo).2.2 h1⟩
  obtain ⟨i, hi, rfl⟩ := List.mem_iff_getElem.1 hp
  have := propE_ok (hk i zo zo).1
  rw [List.getD_eq_getElem?_getD, List.getElem?_eq_getElem hi] at this
  exact this
end Go.Proofs
namespace Go.Proofs
open Go.AM
attribute [local irreducible] AM.evalR AM.evalD AM.Runs AM.valK AM.dK AM.opK AM.stepR AM.CallS AM.St.Le
theorem cmpP_lt {p q : Proposal} : cmpP p q < 0 ↔ (p.admin < q.admin ∨ p.admin = q.admin ∧ p.number < q.number) := by
  by_cases h1 : p.admin < q.admin ∨ p.admin = q.admin ∧ p.number < q.number
  · have := cmpP_neg.2 h1; omega
  · by_cases h2 : p.admin = q.admin ∧ p.number = q.number
    · have := cmpP_zero.2 h2; omega
    · have := (cmpP_pos (p := p) (q := q)).2 zo; omega
theorem conf_pair {c : Config} (h : ∀ i : Nat, 0 < i → i < c.length → cmpP (c.getD (i - 1) default) (c.getD i default) < 0) (i : Nat) : ∀ j, i < j → j < c.length → cmpP (c.getD i default) (c.getD j default) < 0 := by
  intro j hij hj
  induction j with
  | zero => omega
  | succ j ih =>
    have h1 := h (j + 1) zo hj
    rw [Nat.add_sub_cancel] at h1
    by_cases e : i = j
    · subst e; exact h1
    · have h2 := ih zo zo
      rw [cmpP_lt] at h1 h2 ⊢
      omega
def dflP (a n : Nat) : Proposal := ⟨201 + a, n + 1, [⟨2, 1, 0, 0, ⟨0, 0, 0⟩⟩]⟩
def keyIs (a n : Nat) (p : Proposal) : Bool := decide (p.admin = 201 + (a : Int) ∧ p.number = (n : Int) + 1)
def fOf (c : Config) (a n : Nat) : Proposal := (c.find? (keyIs a n)).getD (dflP a n)
theorem fOf_nice (c : Config) : Nice (fOf c) := by
  intro a n
  unfold fOf
  cases h : c.find? (keyIs a n) with
  | none => exact ⟨rfl, rfl⟩
  | some p => simpa [keyIs] using List.find?_some h
theorem fOf_mem {c : Config} (h : ConfOK c) {p : Proposal} (hp : p ∈ c) {a n : Nat} (ha : p.admin = 201 + a) (hn : p.number = n + 1) : fOf c a n = p := by
  unfold fOf
  cases hf : c.find? (keyIs a n) with
  | none =>
    have := List.find?_eq_none.1 hf p hp
    simp [keyIs, ha, hn] at this
  | some q =>
    have hq := List.find?_some hf
    have hqc := List.mem_of_find?_eq_some hf
    simp only [keyIs, decide_eq_true_eq] at hq
    simp only [Option.getD_some]
    obtain ⟨i, hi, rfl⟩ := List.mem_iff_getElem.1 hp
    obtain ⟨j, hj, rfl⟩ := List.mem_iff_getElem.1 hqc
    have g : ∀ k (hk : k < c.length), c.getD k default = c[k] := fun k hk => by rw [List.getD_eq_getElem?_getD, List.getElem?_eq_getElem hk]; rfl
    rcases Nat.lt_trichotomy i j with e | e | e
    · have := cmpP_lt.1 (conf_pair h.2.1 i j e hj)
      rw [g i hi, g j hj] at this; omega
    · subst e; rfl
    · have := cmpP_lt.1 (conf_pair h.2.1 j i e hi)
      rw [g i hi, g j hj] at this; omega
theorem blk_succ (f : Nat → Nat → Proposal) (a n : Nat) : Go.Proofs.blk f a (n + 1) = Go.Proofs.blk f a n ++ [f a n] := by simp [Go.Proofs.blk, List.range_succ]
theorem blk_zero (f : Nat → Nat → Proposal) (a : Nat) : Go.Proofs.blk f a 0 = [] := rfl
theorem conf_take {c : Config} (h : ConfOK c) : ∀ n, n ≤ c.length → ∃ i j k, (i < 4 ∧ j < 4 ∧ k < 4) ∧ c.take n = cut (fOf c) i j k ∧ (n = 0 → i = 0 ∧ j = 0 ∧ k = 0) ∧
    (0 < n → (0 < k ∧ (c.getD (n - 1) default).admin = 203 ∧ (c.getD (n - 1) default).number = k) ∨ (k = 0 ∧ 0 < j ∧ (c.getD (n - 1) default).admin = 202 ∧ (c.getD (n - 1) default).number = j) ∨
      (k = 0 ∧ j = 0 ∧ 0 < i ∧ (c.getD (n - 1) default).admin = 201 ∧ (c.getD (n - 1) default).number = i)) := by
  intro n
  induction n with
  | zero => intro _; exact ⟨0, 0, 0, by decide, by simp [cut, Go.Proofs.blk], fun _ => ⟨rfl, rfl, rfl⟩, fun h => by omega⟩
  | succ n ih =>
    intro hn
    obtain ⟨i, j, k, hlt, ht, h0, hlast⟩ := ih zo
    have hin : c.getD n default ∈ c := getD_in zo
    have hP := h.1 _ hin
    have hord : 0 < n → _ := fun hn0 => cmpP_lt.1 (h.2.1 n hn0 zo)
    have hgap := h.2.2 n zo
    have hfm := fun a m => fOf_mem h hin (a := a) (n := m)
    rw [Nat.add_sub_cancel, take_getD (show n < c.length by omega), ht]
    obtain ⟨hA, hN, _⟩ := hP
    generalize c.getD n default = p at *
    generalize c.getD (n - 1) default = q at *
    have hone : n = 0 → p.number = 1 := fun e => by
      clear hlast h0 hord hfm ht hlt
      omega
    rcases (show p.admin = 201 ∨ p.admin = 202 ∨ p.admin = 203 by omega) with ha | ha | ha
    · have hnum : p.number = i + 1 := by
        rcases Nat.eq_zero_or_pos n with e | e
        · rw [hone e, (h0 e).1]; rfl
        · have h7 := hlast e
          have h8 := hord e
          clear hlast hord h0 hone
          omega
      have hj : j = 0 ∧ k = 0 := by
        rcases Nat.eq_zero_or_pos n with e | e
        · exact (h0 e).2
        · have h7 := hlast e
          have h8 := hord e
          clear hlast hord h0 hone
          omega
      clear hlast h0
      obtain ⟨rfl, rfl⟩ := hj
      refine ⟨i + 1, 0, 0, by omega, ?_, fun e => by omega, fun _ => .inr (.inr ⟨rfl, rfl, by omega, ha, by rw [hnum]; rfl⟩)⟩
      have := hfm 0 i (by rw [ha]; rfl) hnum
      rw [← this]
      simp only [cut, blk_succ, blk_zero, List.append_nil, List.append_assoc]
    · have hnum : p.number = j + 1 := by
        rcases Nat.eq_zero_or_pos n with e | e
        · rw [hone e, (h0 e).2.1]; rfl
        · have h7 := hlast e
          have h8 := hord e
          clear hlast hord h0 hone
          omega
      have hk : k = 0 := by
        rcases Nat.eq_zero_or_pos n with e | e
        · exact (h0 e).2.2
        · have h7 := hlast e
          have h8 := hord e
          clear hlast hord h0 hone
          omega
      clear hlast h0
      subst hk
      refine ⟨i, j + 1, 0, by omega, ?_, fun e => by omega, fun _ => .inr (.inl ⟨rfl, by omega, ha, by rw [hnum]; rfl⟩)⟩
      have := hfm 1 j (by rw [ha]; rfl) hnum
      rw [← this]
      simp only [cut, blk_succ, blk_zero, List.append_nil, List.append_assoc]
    · have hnum : p.number = k + 1 := by
        rcases Nat.eq_zero_or_pos n with e | e
        · rw [hone e, (h0 e).2.2]; rfl
        · have h7 := hlast e
          have h8 := hord e
          clear hlast hord h0 hone
          omega
      clear hlast h0
      refine ⟨i, j, k + 1, by omega, ?_, fun e => by omega, fun _ => .inl ⟨by omega, ha, by rw [hnum]; rfl⟩⟩
      have := hfm 2 k (by rw [ha]; rfl) hnum
      rw [← this]
      simp only [cut, blk_succ, List.append_assoc]
theorem conf_cut {c : Config} (h : ConfOK c) : IsCut (fOf c) c := by
  obtain ⟨i, j, k, hlt, ht, _⟩ := conf_take h c.length (Nat.le_refl _)
  rw [List.take_length] at ht
  exact ⟨i, j, k, hlt, ht⟩
theorem containsB_key (a b : Config) : containsB (b.map key) (a.map key) = containsB b a := by
  unfold containsB
  rw [List.all_map]
  congr 1; funext p; exact hasB_key b p
theorem containsR_key (a b : Config) : containsR (b.map key) (a.map key) = containsR b a := by
  unfold containsR
  rw [List.all_map]
  congr 1; funext p; exact hasR_key b p
theorem allB_keys {a a' b : Config} (h : a.map key = a'.map key) : allB a b = allB a' b := by
  unfold allB
  rw [← containsB_key a b, ← containsB_key a' b, ← vectorV_key a, ← vectorV_key a', h]
theorem allR_keys {a a' b : Config} (h : a.map key = a'.map key) : allR a b = allR a' b := by
  have hc : ∀ t, cntR a t = cntR a' t := fun t => by unfold cntR; rw [← vectorR_key a, ← vectorR_key a', h]
  unfold allR allJ allK
  rw [← containsR_key a b, ← containsR_key a' b, h]
  simp only [hc]
structure Pair (a b : Config) : Prop where
  all : allB a b = allR a b
  mem : ∀ c ∈ allR a b, ∃ i j k, (i < 4 ∧ j < 4 ∧ k < 4) ∧ c = cut (fOf b) i j k
  len : (allR a b).length ≤ 64
  cnt : countB a b = ((allR a b).length : Int)
  within : ∀ c, ConfOK c → containsB c a = containsR c a ∧ containsB b c = containsR b c
  few : (vectorV b).length ≤ 3
  fac : containsB b a = true → ∀ e ∈ vectorV b, 1 ≤ fac (vectorV a) e ∧ fac (vectorV a) e ≤ 4
  num : ∀ e ∈ vectorV b, 0 ≤ e.count ∧ e.count ≤ 1000000
  get : ∀ x, 0 ≤ getV (vectorV a) x ∧ getV (vectorV a) x ≤ 1000000000
  fine : Fine (vectorV b)
  cntb : ∀ t, cntR b t ≤ 3
theorem prod_pos {i j k i' j' k' : Nat} (h : i < 4 ∧ j < 4 ∧ k < 4) (h' : i' < 4 ∧ j' < 4 ∧ k' < 4) (hle : i ≤ i' ∧ j ≤ j' ∧ k ≤ k') : countI (vecC i j k) (vecC i' j' k') = ((idx i j k i' j' k').length : Int) := by
  have h1 := cnt_fin ⟨i, h.1⟩ ⟨j, h.2.1⟩ ⟨k, h.2.2⟩ ⟨i', h'.1⟩ ⟨j', h'.2.1⟩ ⟨k', h'.2.2⟩ hle.1 hle.2.1 hle.2.2
  have h2 := idx_fin ⟨i, h.1⟩ ⟨j, h.2.1⟩ ⟨k, h.2.2⟩ ⟨i', h'.1⟩ ⟨j', h'.2.1⟩ ⟨k', h'.2.2⟩ hle.1 hle.2.1 hle.2.2
  exact h1.2.1.trans h2.1.symm
theorem conf_pairs {a b : Config} (ha : ConfOK a) (hb : ConfOK b) : Pair a b := by
  obtain ⟨i, j, k, h, ea⟩ := conf_cut ha
  have hcb := conf_cut hb
  obtain ⟨i', j', k', h', eb⟩ := hcb
  have hfa := fOf_nice a
  have hfb := fOf_nice b
  generalize hga : fOf a = fa at *
  generalize hgb : fOf b = fb at *
  have hk : a.map key = (cut fb i j k).map key := by rw [ea, cut_key hfa, cut_key hfb]
  have hkk : ∀ x y z, (cut fa x y z).map key = (cut fb x y z).map key := fun x y z => by rw [cut_key hfa, cut_key hfb]
  have hva : vectorV a = vecC i j k := by rw [ea]; exact (vec_cut hfa h).1
  have hvb : vectorV b = vecC i' j' k' := by rw [eb]; exact (vec_cut hfb h').1
  have hcon : containsB b a = decide (i ≤ i' ∧ j ≤ j' ∧ k ≤ k') := by
    rw [← containsB_key a b, hk, containsB_key]
    rw [eb]
    exact (contains_cut hfb h' h).1
  have hall : allB a b = allR a b := by
    rw [allB_keys hk, allR_keys hk, eb, allB_cut hfb h h', allR_cut hfb h h']
  have hR : allR a b = if i ≤ i' ∧ j ≤ j' ∧ k ≤ k' then allN fb i j k i' j' k' else [] := by
    rw [allR_keys hk, eb, allR_cut hfb h h']
  have h1 := fun hle : i ≤ i' ∧ j ≤ j' ∧ k ≤ k' => cnt_fin ⟨i, h.1⟩ ⟨j, h.2.1⟩ ⟨k, h.2.2⟩ ⟨i', h'.1⟩ ⟨j', h'.2.1⟩ ⟨k', h'.2.2⟩ hle.1 hle.2.1 hle.2.2
  have h3 := cnt_fin ⟨0, by decide⟩ ⟨0, by decide⟩ ⟨0, by decide⟩ ⟨i, h.1⟩ ⟨j, h.2.1⟩ ⟨k, h.2.2⟩ (Nat.zero_le _) (Nat.zero_le _) (Nat.zero_le _)
  have h4 := cnt_fin ⟨0, by decide⟩ ⟨0, by decide⟩ ⟨0, by decide⟩ ⟨i', h'.1⟩ ⟨j', h'.2.1⟩ ⟨k', h'.2.2⟩ (Nat.zero_le _) (Nat.zero_le _) (Nat.zero_le _)
  dsimp only at h1 h3 h4
  refine ⟨hall, ?_, ?_, ?_, ?_, ?_, ?_, ?_, ?_, ?_, ?_⟩
  · rw [hR]
    intro c hc
    split at hc
    · obtain ⟨x, y, z, h5, h6⟩ := allN_cut fb h' c hc
      exact ⟨x, y, z, h5, by rw [hgb]; exact h6⟩
    · simp at hc
  · rw [hR]
    split
    · exact allN_len fb h'
    · simp
  · rw [hR]
    unfold countB
    rw [hcon, hva, hvb]
    by_cases hle : i ≤ i' ∧ j ≤ j' ∧ k ≤ k'
    · rw [decide_eq_true hle, if_pos rfl, if_pos hle, allN_idx, List.length_map]
      exact prod_pos h h' hle
    · rw [decide_eq_false hle, if_neg zd, if_neg hle]; rfl
  · intro c hc
    obtain ⟨x, y, z, h5, ec⟩ := conf_cut hc
    have hfc := fOf_nice c
    generalize fOf c = fc at *
    constructor
    · rw [← containsB_key a c, ← containsR_key a c, ea, ec, cut_key hfa, cut_key hfc]
      exact (contains_cut (f := f0) (fun _ _ => ⟨rfl, rfl⟩) h5 h).1.trans (contains_cut (f := f0) (fun _ _ => ⟨rfl, rfl⟩) h5 h).2.symm
    · rw [← containsB_key c b, ← containsR_key c b, eb, ec, cut_key hfb, cut_key hfc]
      exact (contains_cut (f := f0) (fun _ _ => ⟨rfl, rfl⟩) h' h5).1.trans (contains_cut (f := f0) (fun _ _ => ⟨rfl, rfl⟩) h' h5).2.symm
  · rw [hvb]; exact getV_fin ⟨i', h'.1⟩ ⟨j', h'.2.1⟩ ⟨k', h'.2.2⟩
  · rw [hcon, hva, hvb]
    intro hle e he
    exact ((h1 (of_decide_eq_true hle)).2.2 e he).1
  · rw [hvb]; intro e he; exact (h4.2.2 e he).2
  · rw [hva]; intro x; refine getV_le (fun e he => ?_) x
    have := (h3.2.2 e he).2; omega
  · exact IsCut.fine hfb ⟨i', j', k', h', eb⟩
  · exact IsCut.cnt hfb ⟨i', j', k', h', eb⟩
theorem ConfOK.small {c : Config} (h : ConfOK c) : c.length ≤ 9 ∧ Small c := by
  obtain ⟨i, j, k, hl, e⟩ := conf_cut h
  have h9 : c.length ≤ 9 := by rw [e, cut_len]; omega
  refine ⟨h9, by omega, fun p hp => ?_⟩
  have := (h.1 p hp).2.2.1; omega
end Go.Proofs
namespace Go.Proofs
open Go.AM
attribute [local irreducible] AM.evalR AM.evalD AM.Runs AM.valK AM.dK AM.opK AM.stepR AM.CallS AM.St.Le
end Go.Proofs
namespace Go.Proofs
open Go.AM
attribute [local irreducible] AM.evalR AM.evalD AM.Runs AM.valK AM.dK AM.opK AM.stepR AM.CallS AM.St.Le
theorem ref_Within (f g h : Bool) (a b c : Config) : AM.Fn Tryz.prog 13 [.sl f (a.map prV), .sl g (b.map prV), .sl h (c.map prV)] (.b (containsR c a && containsR b c)) := by
  (refine spec_of_runs Tryz.func13 rfl ?_; simp only [Tryz.f13]; refine ys ?_)
  repeat' (first | refine yw ?_ | ((with_reducible refine Runs.is ?_); first | refine Runs.region ?_ | ((with_reducible refine Runs.isC ?_); refine Runs.cond rfl (zc ?_) (zc ?_) <;> intro hc <;> (try (first | contradiction | (exfalso; omega; done) | (have : hc = trivial := rfl; clear this; clear hc))))) | ((with_reducible refine r_is ?_); first | refine yr ?_ | (refine r_fn rfl (ref_Contains h f c a) HbF.h zL2 zD ?_; refine r_nn zN zH ?_) | (refine r_fn rfl (ref_Contains g h b c) HbF.h zL2 zD ?_; refine r_nn zN zH ?_) | ((with_reducible refine r_gd ?_); (first | refine r_guardPt rfl rfl ?_ ?_ | refine r_guardNt rfl rfl ?_ ?_ | refine r_guard rfl rfl ?_ ?_) <;> intro hG <;> (try (exfalso; omega; done)) <;> refine r_nn zN zH ?_)) | fail)
  all_goals ((refine Runs.ret1 Tryz.func13 rfl zM zD ?_; try exact zX))
  all_goals (refine V.Le.of_eq ?_; simp_all)
theorem law_same (f g : Bool) (a b : List Config) : AM.Fn Tryz.prog 9 [.sl f (a.map cfV), .sl g (b.map cfV)] (.b (decide (a = b))) := by
  (refine spec_of_runs Tryz.func9 rfl ?_; simp only [Tryz.f9]; refine ys ?_)
  (refine Runs.lens 0 ?_; refine yl ?_)
  intro hl
  repeat' (first | refine yw ?_ | ((with_reducible refine Runs.is ?_); first | refine Runs.region (id := 0) ?_ | refine Runs.region (id := 1) ?_ | refine Runs.region (id := 2) ?_ | refine Runs.region (id := 3) ?_ | ((with_reducible refine Runs.isC ?_); refine Runs.cond rfl (zc ?_) (zc ?_) <;> intro hc <;> (try (first | contradiction | (exfalso; omega; done) | (have : hc = trivial := rfl; clear this; clear hc))))) | ((with_reducible refine r_is ?_); first | refine yr ?_) | fail)
  · (refine Runs.ret1 Tryz.func9 rfl zM zD ?_; try exact zX)
    refine V.Le.of_eq (congrArg V.b (decide_eq_false ?_).symm)
    rintro rfl; omega
  · have hlen : a.length = b.length := by omega
    refine Runs.loopI (fun i : Nat => a.length - i) (fun i => i ≤ a.length ∧ a.take i = b.take i)
      (fun i => ⟨[.sl f (a.map cfV), .sl g (b.map cfV), .any, .any, .any, .i (i : Nat), .any, .any, .any, .any, .any, .any, .any, .any, .any, .any, .any, .any, .any, .any, .any, .any, .any, .any, .any, .any, .any], []⟩) 0 (by simp) ?_ ?_
    · (refine St.Le.clean zR zU zV)
    rintro i ⟨hi, he⟩ ih
    by_cases hlt : i < a.length
    · have hE := ref_EqualConfig false false (a.getD i default) (b.getD i default)
      repeat' (first | refine yw ?_ | ((with_reducible refine Runs.is ?_); first | refine Runs.region (id := 4) ?_ | refine Runs.drawn (id := 6) mixed zK ?_ | refine Runs.region (id := 7) ?_ | refine Runs.region (id := 5) ?_ | ((with_reducible refine Runs.isC ?_); refine Runs.cond rfl (zc ?_) (zc ?_) <;> intro hc <;> (try (first | contradiction | (exfalso; omega; done) | (have : hc = trivial := rfl; clear this; clear hc))))) | ((with_reducible refine r_is ?_); first | refine yr ?_) | ((with_reducible refine d_is ?_); first | refine yd ?_ | (refine d_fn rfl (hE) HbF.h zL2 zD ?_; refine d_nn zN zH ?_)) | fail)
      · (refine Runs.ret1 Tryz.func9 rfl zM zD ?_; try exact zX)
        refine V.Le.of_eq (congrArg V.b (decide_eq_false ?_).symm)
        rintro rfl
        exact absurd rfl hc
      · repeat' (first | refine yw ?_ | ((with_reducible refine Runs.is ?_); first | refine Runs.region (id := 5) ?_ | ((with_reducible refine Runs.isC ?_); refine Runs.cond rfl (zc ?_) (zc ?_) <;> intro hc <;> (try (first | contradiction | (exfalso; omega; done) | (have : hc = trivial := rfl; clear this; clear hc))))) | ((with_reducible refine r_is ?_); first | refine yr ?_) | fail)
        refine ih (i + 1) _ ⟨by omega, ?_⟩ zo ?_
        · rw [take_getD hlt, take_getD zo, he, hc]
        · (refine St.Le.clean zR zU zV)
    · rw [List.take_of_length_le zo, List.take_of_length_le zo] at he
      repeat' (first | refine yw ?_ | ((with_reducible refine Runs.is ?_); first | refine Runs.region (id := 4) ?_ | ((with_reducible refine Runs.isC ?_); refine Runs.cond rfl (zc ?_) (zc ?_) <;> intro hc <;> (try (first | contradiction | (exfalso; omega; done) | (have : hc = trivial := rfl; clear this; clear hc))))) | ((with_reducible refine r_is ?_); first | refine yr ?_) | fail)
      repeat' (first | refine yw ?_ | ((with_reducible refine Runs.is ?_); first | refine Runs.region (id := 8) ?_ | ((with_reducible refine Runs.isC ?_); refine Runs.cond rfl (zc ?_) (zc ?_) <;> intro hc <;> (try (first | contradiction | (exfalso; omega; done) | (have : hc = trivial := rfl; clear this; clear hc))))) | ((with_reducible refine r_is ?_); first | refine yr ?_) | fail)
      (refine Runs.ret1 Tryz.func9 rfl zM zD ?_; try exact zX)
      exact V.Le.of_eq (congrArg V.b (decide_eq_true he).symm)
end Go.Proofs
namespace Go.Proofs
open Go.AM
attribute [local irreducible] AM.evalR AM.evalD AM.Runs AM.valK AM.dK AM.opK AM.stepR AM.CallS AM.St.Le
theorem validB_conf {l : List Config} (h : validB l = true) : ∀ c ∈ l, ConfOK c := by
  intro c hc
  obtain ⟨i, hi, rfl⟩ := List.mem_iff_getElem.1 hc
  have h1 := range_all.1 h i hi
  unfold okI at h1
  rw [Bool.and_eq_true, decide_eq_true_eq, List.getD_eq_getElem?_getD, List.getElem?_eq_getElem hi] at h1
  exact confE_ok h1.1
theorem law_IntervalAll (a b c : Config) : AM.Fn Tryz.prog 3 [cfV a, cfV b, cfV c] (.b true) := by
  have hV := kit_Valid false [a, b, c]
  cases hv : validB [a, b, c]
  · rw [hv] at hV
    (refine spec_of_runs Tryz.func3 rfl ?_; simp only [Tryz.f3]; refine ys ?_)
    repeat' (first | refine yw ?_ | ((with_reducible refine Runs.is ?_); first | refine Runs.region (id := 0) ?_ | refine Runs.region (id := 1) ?_ | refine Runs.region (id := 2) ?_ | ((with_reducible refine Runs.isC ?_); refine Runs.cond rfl (zc ?_) (zc ?_) <;> intro hc <;> (try (first | contradiction | (exfalso; omega; done) | (have : hc = trivial := rfl; clear this; clear hc))))) | ((with_reducible refine r_is ?_); first | refine yrb ?_ | (refine r_buildOwn (D := 25) SlF.h ZoF.h zd zB zd rfl ?_; refine r_nn zN zH ?_) | (refine r_build SlF.h ZoF.h zd zB ?_; refine r_n zN ?_) | (refine r_lend rfl (hV) HbF.h zY rfl ?_; refine r_nn zN zH ?_) | (refine r_fn rfl (law_awake) HbF.h zL0 zD ?_; refine r_nn zN zH ?_) | ((with_reducible refine r_gd ?_); (first | refine r_guardPf rfl rfl ?_ ?_ | refine r_guardNf rfl rfl ?_ ?_ | refine r_guard rfl rfl ?_ ?_) <;> intro hG <;> (try (exfalso; omega; done)) <;> refine r_nn zN zH ?_)) | fail)
    all_goals ((refine Runs.ret1 Tryz.func3 rfl zM zD ?_; try exact zX))
  · rw [hv] at hV
    have hok := validB_conf hv
    have ha := hok a (by simp)
    have hb := hok b (by simp)
    have hc := hok c (by simp)
    have sa := ha.small
    have sb := hb.small
    have P := conf_pairs ha hb
    have hA := interval_All false false a b zo sb.2 zo P.fine
    have hR := ref_All false false a b zo zo P.cntb
    have hC := interval_Count false false a b zo zo P.few P.fac P.num P.get
    rw [P.all] at hA
    rw [P.cnt] at hC
    have hW := interval_Within false false false a b c
    have hW2 := ref_Within false false false a b c
    rw [show withinB a b c = (containsR c a && containsR b c) by unfold withinB; rw [(P.within c hc).1, (P.within c hc).2]] at hW
    have hlen := P.len
    generalize allR a b = l at *
    generalize (containsR c a && containsR b c) = w at *
    have hS := law_same false false l l
    rw [decide_eq_true rfl] at hS
    (refine spec_of_runs Tryz.func3 rfl ?_; simp only [Tryz.f3]; refine ys ?_)
    repeat' (first | refine yw ?_ | ((with_reducible refine Runs.is ?_); first | refine Runs.region ?_ | ((with_reducible refine Runs.isC ?_); refine Runs.cond rfl (zc ?_) (zc ?_) <;> intro hc <;> (try (first | contradiction | (exfalso; omega; done) | (have : hc = trivial := rfl; clear this; clear hc))))) | ((with_reducible refine r_is ?_); first | refine yrb ?_ | (refine r_buildOwn (D := 25) SlF.h ZoF.h zd zB zd rfl ?_; refine r_nn zN zH ?_) | (refine r_build SlF.h ZoF.h zd zB ?_; refine r_n zN ?_) | (refine r_lend rfl (hV) HbF.h zY rfl ?_; refine r_nn zN zH ?_) | (refine r_fn rfl (law_awake) HbF.h zL0 zD ?_; refine r_nn zN zH ?_) | (refine r_fn rfl (hR) HbF.h zL2 zD ?_; refine r_nn zN zH ?_) | (refine r_fn rfl (hA) HbF.h zL2 zD ?_; refine r_nn zN zH ?_) | (refine r_fn rfl (hS) HbF.h zL2 zD ?_; refine r_nn zN zH ?_) | (refine r_fn rfl (hC) HbF.h zL2 zD ?_; refine r_nn zN zH ?_) | (refine r_fn rfl (hW) HbF.h zL3 zD ?_; refine r_nn zN zH ?_) | (refine r_fn rfl (hW2) HbF.h zL3 zD ?_; refine r_nn zN zH ?_) | ((with_reducible refine r_gd ?_); (first | refine r_guardPf rfl rfl ?_ ?_ | refine r_guardNf rfl rfl ?_ ?_ | refine r_guardPt rfl rfl ?_ ?_ | refine r_guardNt rfl rfl ?_ ?_ | refine r_guard rfl rfl ?_ ?_) <;> intro hG <;> (try (exfalso; omega; done)) <;> refine r_nn zN zH ?_)) | fail)
    all_goals first | exact absurd rfl (by assumption) | ((refine Runs.ret1 Tryz.func3 rfl zM zD ?_; try exact zX); done) | ((refine Runs.ret1 Tryz.func3 rfl zM zD ?_; try exact zX); exact absurd rfl (by assumption)) | fail
end Go.Proofs
namespace Go.Proofs
open Go.AM
attribute [local irreducible] AM.evalR AM.evalD AM.Runs AM.valK AM.dK AM.opK AM.stepR AM.CallS AM.St.Le
theorem row_own : ownKnob Tryz.prog.godebug = none := by kernel_rfl
theorem row_laid : laidOutB Tryz.prog = true := by kernel_rfl
theorem row_bool : Tryz.prog.underlying 4 = some .bool := by kernel_rfl
theorem row_int : Tryz.prog.underlying 3 = some (.int .i64) := by kernel_rfl
def I64 (z : Int) : Prop := -9223372036854775808 ≤ z ∧ z ≤ 9223372036854775807
theorem wf_i64 {z : Int} (h : (Lit.int .i64 z).wf = true) : I64 z := by
  simp only [Lit.wf, Bool.and_eq_true, decide_eq_true_eq] at h
  exact h
theorem opI : Opens Tryz.prog 3 1 (fun vs => ∃ z, I64 z ∧ vs = [V.i z]) := (opens_int row_int (by kernel_rfl)).imp fun vs ⟨z, h, e⟩ => ⟨z, wf_i64 h, e⟩
theorem opRu : Opens Tryz.prog 33 3 (fun vs => ∃ r : Rule, (I64 r.kind ∧ I64 r.columns ∧ I64 r.faulty) ∧ vs = [.i r.kind, .i r.columns, .i r.faulty]) :=
  (opens_struct (L := [(3, 0), (3, 1), (3, 2)]) (by kernel_rfl) zd (by kernel_rfl) (fs_cons opI (fs_cons opI (fs_cons opI fs_nil)))).imp fun vs h => by
    simp only [CatQ] at h
    obtain ⟨_, _, rfl, ⟨k, hk, rfl⟩, _, _, rfl, ⟨c, hc, rfl⟩, _, _, rfl, ⟨f, hf, rfl⟩, rfl⟩ := h
    exact ⟨⟨k, c, f⟩, ⟨hk, hc, hf⟩, rfl⟩
theorem opCh : Opens Tryz.prog 59 7 (fun vs => ∃ c : Change, True ∧ .agg vs = chV c) :=
  (opens_struct (L := [(3, 0), (3, 1), (3, 2), (3, 3), (33, 4)]) (by kernel_rfl) zd (by kernel_rfl) (fs_cons opI (fs_cons opI (fs_cons opI (fs_cons opI (fs_cons opRu fs_nil)))))).imp fun vs h => by
    simp only [CatQ] at h
    obtain ⟨_, _, rfl, ⟨k, _, rfl⟩, _, _, rfl, ⟨s, _, rfl⟩, _, _, rfl, ⟨w, _, rfl⟩, _, _, rfl, ⟨v, _, rfl⟩, _, _, rfl, ⟨r, _, rfl⟩, rfl⟩ := h
    exact ⟨⟨k, s, w, v, r⟩, trivial, rfl⟩
theorem opPr : Opens Tryz.prog 62 3 (fun vs => ∃ p : Proposal, p.changes.length ≤ 140737488351232 ∧ .agg vs = prV p) :=
  (opens_struct (L := [(3, 0), (3, 1), (60, 2)]) (by kernel_rfl) zd (by kernel_rfl) (fs_cons opI (fs_cons opI (fs_cons (opens_slice true (e := 59) (by kernel_rfl) (by kernel_rfl) opCh zd (by kernel_rfl) (by intro h; cases h)) fs_nil)))).imp fun vs h => by
    simp only [CatQ] at h
    obtain ⟨_, _, rfl, ⟨a, _, rfl⟩, _, _, rfl, ⟨n, _, rfl⟩, _, _, rfl, ⟨ess, h1, h2, rfl⟩, rfl⟩ := h
    obtain ⟨xs, e1, _, e2⟩ := lists_of (f := chV) (ok := fun _ => True) (ag := true) (ess := ess) fun c hc => by obtain ⟨z, _, e⟩ := h1 c hc; exact ⟨z, trivial, e⟩
    have : reachBytes = 140737488351232 := rfl
    exact ⟨⟨a, n, xs⟩, by dsimp only; omega, by rw [e1]; rfl⟩
theorem opCf : Opens Tryz.prog 23 1 (fun vs => ∃ c : Config, (c.length ≤ 140737488351232 ∧ ∀ p ∈ c, p.changes.length ≤ 140737488351232) ∧ vs = [cfV c]) :=
  (opens_slice true (e := 62) (by kernel_rfl) (by kernel_rfl) opPr zd (by kernel_rfl) (by intro h; cases h)).imp fun vs ⟨ess, h1, h2, e⟩ => by
    obtain ⟨xs, e1, e3, e2⟩ := lists_of (f := prV) (ok := fun p => p.changes.length ≤ 140737488351232) (ag := true) (ess := ess) fun c hc => h1 c hc
    have : reachBytes = 140737488351232 := rfl
    exact ⟨xs, ⟨by omega, e3⟩, by rw [e, e1]⟩
theorem oaCf : OpensV Tryz.prog 23 (fun u => ∃ c : Config, (c.length ≤ 140737488351232 ∧ ∀ p ∈ c, p.changes.length ≤ 140737488351232) ∧ u = cfV c) := opCf.sl (e := 62) (by kernel_rfl) fun u ⟨l, h, e⟩ => ⟨l, h, by simpa using e⟩
end Go.Proofs
namespace Go.Proofs.YtkklpkjbocnofaaGreat
open Go.AM
attribute [local irreducible] AM.evalR AM.evalD AM.Runs AM.valK AM.dK AM.opK AM.stepR AM.CallS AM.St.Le
theorem args_of {α : Type} {l : List α} (h : l.length = 3) : ∃ d0 d1 d2, l = [d0, d1, d2] := by
  match l, h with
  | [d0, d1, d2], _ => exact ⟨d0, d1, d2, rfl⟩
set_option maxRecDepth 100000 in
theorem intervalAll_lifted (os : Os) (started : os.Started) (H : Type) (enc : TypeId × Value → H) :
    ReturnsInHanded {} Tryz.checked os 3 .any (Rows.intervalAllSpec.pre6 enc Tryz.prog Tryz.f3 Rows.intervalAllRow.domain false) (Rows.intervalAllSpec.post enc Tryz.prog Tryz.f3 false true false false) := by
  refine returnsInHanded_of_change_sized (C := Tryz.checked) row_own started (by kernel_rfl) Tryz.func3
    (ChangeSpec.witness6 (enc := enc) (C := Tryz.checked) false ⟨#[], #[.slice none 0 0, .slice none 0 0, .slice none 0 0], []⟩ 8 (by kernel_rfl) (by kernel_rfl) (by kernel_rfl) (by kernel_rfl)) ?_
  intro W base args ds gs before hval hW _ hsz _
  refine row_any row_laid row_bool (ts := [23, 23, 23]) (by kernel_rfl) (args_cons oaCf (by kernel_rfl) (by kernel_rfl) (args_cons oaCf (by kernel_rfl) (by kernel_rfl) (args_cons oaCf (by kernel_rfl) (by kernel_rfl) args_nil))) (by kernel_rfl) rfl (fun ds h => ?_) (fun us h => ?_) W base args ds gs before hval hW hsz
  · obtain ⟨d0, d1, d2, rfl⟩ := args_of h
    exact ⟨rfl, rfl, rfl⟩
  · skip
    obtain ⟨_, us0, rfl, ⟨a0, h0, rfl⟩, k0⟩ := all_cons h
    obtain ⟨_, us1, rfl, ⟨a1, h1, rfl⟩, k1⟩ := all_cons k0
    obtain ⟨_, us2, rfl, ⟨a2, h2, rfl⟩, k2⟩ := all_cons k1
    obtain rfl := all_nil k2
    exact law_IntervalAll a0 a1 a2
theorem intervalAll_holds : Rows.IntervalAllSaid :=
  OpenClaim.holds_of_wide 3 Tryz.f3 rfl rfl rfl rfl rfl rfl rfl ⟨rfl, rfl, rfl, rfl, rfl⟩ rfl rfl rfl rfl rfl (by kernel_rfl) Tryz.func3 (by kernel_rfl)
    (of_decide_eq_true (by kernel_rfl)) (by unfold Func.isWrapper; first | (rw [if_pos (by decide +kernel)]; kernel_rfl) | (rw [if_neg (by decide +kernel)]; exact ⟨rfl, rfl⟩))
    (fun os started H enc _ => intervalAll_lifted os started H enc)
end Go.Proofs.YtkklpkjbocnofaaGreat
