/- Contracts of functions and plain laws: W93, W87, W88, W89, W90, W91. -/
import Derived.Test.YtmgnkabnlcapbaaG4
set_option linter.unusedVariables false
set_option linter.unusedSimpArgs false
set_option maxRecDepth 8000
set_option maxHeartbeats 4000000
set_option pp.deepTerms false
set_option pp.deepTerms.threshold 6
namespace Go.Proofs
open Go.AM
attribute [local irreducible] AM.evalR AM.evalD AM.Runs AM.valK AM.dK AM.opK AM.stepR AM.CallS AM.St.Le
theorem member_Validate (s : Summary) (hj : s.joined.length + s.removed.length ≤ 1000000000) (hw : s.weights.length ≤ 4611686018427387904) : AM.Fn Try.prog 19 [suV s] (.i (sumE s)) := by
  have hgo : ∀ e, sumE s = e → AM.Fn Try.prog 19 [suV s] (.i e) := by
    intro e he
    obtain ⟨J, R, W, ru, ver, adm, num⟩ := s
    unfold sumE at he
    dsimp only at he hj hw
    have hC := concat_ints true [J, R] (by simp; omega)
    have ha1 := member_ascending false J
    have ha2 := member_ascending false R
    have hru := quo_Rule ru
    (refine spec_of_runs Try.func19 rfl ?_; simp only [Try.f19]; refine ys ?_)
    repeat' (first | refine yw ?_ | ((with_reducible refine Runs.is ?_); first | refine Runs.region (id := 0) ?_ | refine Runs.region (id := 1) ?_ | ((with_reducible refine Runs.isC ?_); refine Runs.cond rfl (zc ?_) (zc ?_) <;> intro hc <;> (try (first | contradiction | (exfalso; omega; done) | (have : hc = trivial := rfl; clear this; clear hc))))) | ((with_reducible refine r_is ?_); first | refine yr ?_ | (refine r_own rfl (hC) HbF.h zL1 zD rfl (fun _ hq _ => ?_); (try subst hq); refine r_nn zN zH ?_)) | fail)
    (refine Runs.weaken (St.Le.freeze_lst 14 rfl) ?_; refine yf ?_)
    rw [List.append_nil]
    clear hC
    have hl : (J ++ R).length ≤ 1000000000 := by rw [List.length_append]; exact hj
    generalize J ++ R = L at *
    refine Runs.loopI (fun k : Nat => L.length - k) (fun k => k ≤ L.length ∧ (L.take k).all srvB = true)
      (fun k => ⟨[.any, .ptr 1 0 0, .any, .any, .any, .any, .any, .any, .any, .any, .any, .any, .any, .any, .sl false (L.map .i), .i (L.length : Nat), .i (k : Nat), .any, .any, .any, .any, .any, .any, .any, .any, .any, .any, .any, .any, .any, .any, .any, .any, .any, .any, .any, .any, .any, .any, .any, .any, .any, .any, .any, .any, .any, .any, .any, .any, .any, .any, .any, .any, .any, .any, .any, .any, .any, .any, .any, .any, .any, .any, .any, .any, .any, .any, .any, .any, .any, .any, .any, .any, .any, .any, .any, .any, .any, .any, .any, .any, .any, .any, .any, .any, .any, .any, .any, .any, .any, .any, .any, .any, .any, .any, .any, .any, .any, .any, .any, .any, .any, .any, .any, .any, .any, .any, .any, .any, .any, .any, .any, .any, .any, .any, .any, .any], [(1, .var 34 (suV ⟨J, R, W, ru, ver, adm, num⟩))]⟩) 0 (by simp) ?_ ?_
    · (refine St.Le.clean zR zU zV)
    rintro k ⟨hk, hall⟩ ih
    by_cases hlt : k < L.length
    · have hS := member_server (L.getD k default)
      cases hb : srvB (L.getD k default)
      · rw [hb] at hS
        have hbad : L.all srvB = false := by
          cases hq : L.all srvB
          · rfl
          · rw [List.all_eq_true] at hq
            rw [hq _ (getD_in hlt)] at hb; cases hb
        rw [if_pos hbad] at he
        subst he
        repeat' (first | refine yw ?_ | ((with_reducible refine Runs.is ?_); first | refine Runs.region (id := 2) ?_ | refine Runs.region (id := 3) ?_ | refine Runs.region (id := 4) ?_ | refine Runs.region (id := 5) ?_ | refine Runs.region (id := 6) ?_ | ((with_reducible refine Runs.isC ?_); refine Runs.cond rfl (zc ?_) (zc ?_) <;> intro hc <;> (try (first | contradiction | (exfalso; omega; done) | (have : hc = trivial := rfl; clear this; clear hc))))) | ((with_reducible refine r_is ?_); first | refine yr ?_ | (refine r_fn rfl (hS) HbF.h zL1 zD ?_; refine r_nn zN zH ?_)) | fail)
        (refine Runs.ret1 Try.func19 rfl zM zD ?_; try exact zX)
      · rw [hb] at hS
        repeat' (first | refine yw ?_ | ((with_reducible refine Runs.is ?_); first | refine Runs.region (id := 2) ?_ | refine Runs.region (id := 3) ?_ | refine Runs.region (id := 4) ?_ | refine Runs.region (id := 5) ?_ | refine Runs.region (id := 6) ?_ | ((with_reducible refine Runs.isC ?_); refine Runs.cond rfl (zc ?_) (zc ?_) <;> intro hc <;> (try (first | contradiction | (exfalso; omega; done) | (have : hc = trivial := rfl; clear this; clear hc))))) | ((with_reducible refine r_is ?_); first | refine yr ?_ | (refine r_fn rfl (hS) HbF.h zL1 zD ?_; refine r_nn zN zH ?_)) | fail)
        refine ih (k + 1) _ ⟨by omega, ?_⟩ zo ?_
        · rw [take_getD hlt, List.all_append, hall]; simp only [List.all_cons, List.all_nil, Bool.and_true, Bool.true_and]; exact hb
        · (refine St.Le.clean zR zU zV)
    · rw [List.take_of_length_le zo] at hall
      rw [if_neg (by rw [hall]; decide)] at he
      clear ih hl hk
      cases hA1 : ascR J
      · rw [hA1] at ha1 he
        rw [if_pos (.inl rfl)] at he
        subst he
        repeat' (first | refine yw ?_ | ((with_reducible refine Runs.is ?_); first | refine Runs.region (id := 2) ?_ | ((with_reducible refine Runs.isC ?_); refine Runs.cond rfl (zc ?_) (zc ?_) <;> intro hc <;> (try (first | contradiction | (exfalso; omega; done) | (have : hc = trivial := rfl; clear this; clear hc))))) | ((with_reducible refine r_is ?_); first | refine yr ?_) | fail)
        repeat' (first | refine yw ?_ | ((with_reducible refine Runs.is ?_); first | refine Runs.region (id := 7) ?_ | refine Runs.region (id := 8) ?_ | ((with_reducible refine Runs.isC ?_); refine Runs.cond rfl (zc ?_) (zc ?_) <;> intro hc <;> (try (first | contradiction | (exfalso; omega; done) | (have : hc = trivial := rfl; clear this; clear hc))))) | ((with_reducible refine r_is ?_); first | refine yr ?_ | (refine r_fn rfl (ha1) HbF.h zL1 zD ?_; refine r_nn zN zH ?_) | ((with_reducible refine r_gd ?_); (first | refine r_guardPf rfl rfl ?_ ?_ | refine r_guardNf rfl rfl ?_ ?_ | refine r_guard rfl rfl ?_ ?_) <;> intro hG <;> (try (exfalso; omega; done)) <;> refine r_nn zN zH ?_)) | fail)
        (refine Runs.ret1 Try.func19 rfl zM zD ?_; try exact zX)
      cases hA2 : ascR R
      · rw [hA1] at ha1 he
        rw [hA2] at ha2 he
        rw [if_pos (.inr rfl)] at he
        subst he
        repeat' (first | refine yw ?_ | ((with_reducible refine Runs.is ?_); first | refine Runs.region (id := 2) ?_ | ((with_reducible refine Runs.isC ?_); refine Runs.cond rfl (zc ?_) (zc ?_) <;> intro hc <;> (try (first | contradiction | (exfalso; omega; done) | (have : hc = trivial := rfl; clear this; clear hc))))) | ((with_reducible refine r_is ?_); first | refine yr ?_) | fail)
        repeat' (first | refine yw ?_ | ((with_reducible refine Runs.is ?_); first | refine Runs.region (id := 7) ?_ | refine Runs.region (id := 8) ?_ | ((with_reducible refine Runs.isC ?_); refine Runs.cond rfl (zc ?_) (zc ?_) <;> intro hc <;> (try (first | contradiction | (exfalso; omega; done) | (have : hc = trivial := rfl; clear this; clear hc))))) | ((with_reducible refine r_is ?_); first | refine yr ?_ | (refine r_fn rfl (ha1) HbF.h zL1 zD ?_; refine r_nn zN zH ?_) | (refine r_fn rfl (ha2) HbF.h zL1 zD ?_; refine r_nn zN zH ?_) | ((with_reducible refine r_gd ?_); (first | refine r_guardPf rfl rfl ?_ ?_ | refine r_guardNf rfl rfl ?_ ?_ | refine r_guard rfl rfl ?_ ?_) <;> intro hG <;> (try (exfalso; omega; done)) <;> refine r_nn zN zH ?_)) | fail)
        (refine Runs.ret1 Try.func19 rfl zM zD ?_; try exact zX)
      rw [hA1] at ha1 he
      rw [hA2] at ha2 he
      rw [if_neg zd] at he
      repeat' (first | refine yw ?_ | ((with_reducible refine Runs.is ?_); first | refine Runs.region (id := 2) ?_ | ((with_reducible refine Runs.isC ?_); refine Runs.cond rfl (zc ?_) (zc ?_) <;> intro hc <;> (try (first | contradiction | (exfalso; omega; done) | (have : hc = trivial := rfl; clear this; clear hc))))) | ((with_reducible refine r_is ?_); first | refine yr ?_) | fail)
      repeat' (first | refine yw ?_ | ((with_reducible refine Runs.is ?_); first | refine Runs.region (id := 7) ?_ | refine Runs.region (id := 8) ?_ | refine Runs.region (id := 9) ?_ | ((with_reducible refine Runs.isC ?_); refine Runs.cond rfl (zc ?_) (zc ?_) <;> intro hc <;> (try (first | contradiction | (exfalso; omega; done) | (have : hc = trivial := rfl; clear this; clear hc))))) | ((with_reducible refine r_is ?_); first | refine yr ?_ | (refine r_fn rfl (ha1) HbF.h zL1 zD ?_; refine r_nn zN zH ?_) | (refine r_fn rfl (ha2) HbF.h zL1 zD ?_; refine r_nn zN zH ?_) | ((with_reducible refine r_gd ?_); (first | refine r_guardPf rfl rfl ?_ ?_ | refine r_guardNf rfl rfl ?_ ?_ | refine r_guard rfl rfl ?_ ?_) <;> intro hG <;> (try (exfalso; omega; done)) <;> refine r_nn zN zH ?_)) | fail)
      clear hc
      have hsplit : ∀ e0, weiE W 0 W.length = e0 → (if e0 ≠ 0 then e0 else if ru ≠ ⟨0, 0, 0⟩ ∧ ruleE ru ≠ 0 then ruleE ru else if negB ver adm num = true ∨ (ru = ⟨0, 0, 0⟩ ∧ (ver ≠ 0 ∨ adm ≠ 0 ∨ num ≠ 0)) then 9 else 0) = e := fun e0 h => by rw [← h]; exact he
      obtain ⟨e0, he0⟩ : ∃ e0, weiE W 0 W.length = e0 := ⟨_, rfl⟩
      replace he := hsplit e0 he0
      clear hsplit
      refine Runs.loopI (fun i : Nat => W.length - i) (fun i => i ≤ W.length ∧ weiE W i (W.length - i) = e0)
        (fun i => ⟨[.any, .ptr 1 0 0, .any, .any, .any, .any, .any, .any, .any, .any, .any, .any, .any, .any, .any, .any, .any, .any, .any, .any, .any, .any, .any, .any, .any, .any, .any, .any, .any, .any, .any, .any, .any, .any, .any, .sl false (W.map weV), .i (W.length : Nat), .i (i : Nat), .any, .any, .any, .any, .any, .any, .any, .any, .any, .any, .any, .any, .any, .any, .any, .any, .any, .any, .any, .any, .any, .any, .any, .any, .any, .any, .any, .any, .any, .any, .any, .any, .any, .any, .any, .any, .any, .any, .any, .any, .any, .any, .any, .any, .any, .any, .any, .any, .any, .any, .any, .any, .any, .any, .any, .any, .any, .any, .any, .any, .any, .any, .any, .any, .any, .any, .any, .any, .any, .any, .any, .any, .any, .any, .any, .any, .any, .any, .any], [(1, .var 34 (suV ⟨J, R, W, ru, ver, adm, num⟩))]⟩) 0 (by simpa using he0) ?_ ?_
      · (refine St.Le.clean zR zU zV)
      rintro i ⟨hi, he2⟩ ih
      by_cases hlt : i < W.length
      · rw [show W.length - i = (W.length - (i + 1)) + 1 by omega, weiE] at he2
        have e1 : ((i : Int) - 1).toNat = i - 1 := by omega
        rw [← e1] at he2
        have hS := member_server (W.getD i default).server
        have hN := member_negative (W.getD i default).version (W.getD i default).admin (W.getD i default).number
        cases hb1 : srvB (W.getD i default).server
        · rw [hb1] at hS
          rw [if_pos (.inl hb1)] at he2
          subst he2
          rw [if_pos zd] at he
          subst he
          repeat' (first | refine yw ?_ | ((with_reducible refine Runs.is ?_); first | refine Runs.region (id := 10) ?_ | refine Runs.region (id := 11) ?_ | refine Runs.region (id := 12) ?_ | refine Runs.region (id := 13) ?_ | ((with_reducible refine Runs.isC ?_); refine Runs.cond rfl (zc ?_) (zc ?_) <;> intro hc <;> (try (first | contradiction | (exfalso; omega; done) | (have : hc = trivial := rfl; clear this; clear hc))))) | ((with_reducible refine r_is ?_); first | refine yr ?_ | (refine r_fn rfl (hS) HbF.h zL1 zD ?_; refine r_nn zN zH ?_) | ((with_reducible refine r_gd ?_); (first | refine r_guardPf rfl rfl ?_ ?_ | refine r_guardNf rfl rfl ?_ ?_ | refine r_guard rfl rfl ?_ ?_) <;> intro hG <;> (try (exfalso; omega; done)) <;> refine r_nn zN zH ?_)) | fail)
          all_goals ((refine Runs.ret1 Try.func19 rfl zM zD ?_; try exact zX))
        rw [hb1] at hS
        cases hb2 : negB (W.getD i default).version (W.getD i default).admin (W.getD i default).number
        · rw [hb2] at hN
          repeat' (first | refine yw ?_ | ((with_reducible refine Runs.is ?_); first | refine Runs.region (id := 10) ?_ | refine Runs.region (id := 11) ?_ | refine Runs.region (id := 12) ?_ | refine Runs.region (id := 13) ?_ | refine Runs.drawn (id := 14) mixed zK ?_ | refine Runs.region (id := 15) ?_ | refine Runs.region (id := 16) ?_ | ((with_reducible refine Runs.isC ?_); refine Runs.cond rfl (zc ?_) (zc ?_) <;> intro hc <;> (try (first | contradiction | (exfalso; omega; done) | (have : hc = trivial := rfl; clear this; clear hc))))) | ((with_reducible refine r_is ?_); first | refine yr ?_ | (refine r_fn rfl (hS) HbF.h zL1 zD ?_; refine r_nn zN zH ?_) | (refine r_fn rfl (hN) HbF.h zL3 zD ?_; refine r_nn zN zH ?_) | ((with_reducible refine r_gd ?_); (first | refine r_guardPf rfl rfl ?_ ?_ | refine r_guardNf rfl rfl ?_ ?_ | refine r_guard rfl rfl ?_ ?_) <;> intro hG <;> (try (exfalso; omega; done)) <;> refine r_nn zN zH ?_)) | ((with_reducible refine d_is ?_); first | refine yd ?_ | ((with_reducible refine d_gd ?_); (first | refine d_guardPt rfl rfl ?_ ?_ | refine d_guardNt rfl rfl ?_ ?_ | refine d_guard rfl rfl ?_ ?_) <;> intro hG <;> (try (exfalso; omega; done)) <;> refine d_nn zN zH ?_)) | fail)
          all_goals first
            | (rw [if_pos (by first | exact .inr (.inl zo) | exact .inr (.inr (.inl zo)))] at he2
               subst he2
               rw [if_pos zd] at he
               subst he
               (refine Runs.ret1 Try.func19 rfl zM zD ?_; try exact zX)
               done)
            | (rw [if_neg (by
                 rintro (h | h | h | h)
                 · rw [hb1] at h; cases h
                 · omega
                 · omega
                 · rw [hb2] at h; cases h)] at he2
               first
                 | (rw [if_pos zo] at he2
                    subst he2
                    rw [if_pos zd] at he
                    subst he
                    (refine Runs.ret1 Try.func19 rfl zM zD ?_; try exact zX)
                    done)
                 | (rw [if_neg zo] at he2
                    refine ih (i + 1) _ ⟨by omega, by first | exact he2 | (rw [show W.length - (i + 1) = W.length - i - 1 by omega]; exact he2)⟩ zo ?_
                    (refine St.Le.clean zR zU zV)
                    done))
            | trace_state
        · rw [hb2] at hN
          rw [if_pos (.inr (.inr (.inr hb2)))] at he2
          subst he2
          rw [if_pos zd] at he
          subst he
          repeat' (first | refine yw ?_ | ((with_reducible refine Runs.is ?_); first | refine Runs.region (id := 10) ?_ | refine Runs.region (id := 11) ?_ | refine Runs.region (id := 12) ?_ | refine Runs.region (id := 13) ?_ | ((with_reducible refine Runs.isC ?_); refine Runs.cond rfl (zc ?_) (zc ?_) <;> intro hc <;> (try (first | contradiction | (exfalso; omega; done) | (have : hc = trivial := rfl; clear this; clear hc))))) | ((with_reducible refine r_is ?_); first | refine yr ?_ | (refine r_fn rfl (hS) HbF.h zL1 zD ?_; refine r_nn zN zH ?_) | (refine r_fn rfl (hN) HbF.h zL3 zD ?_; refine r_nn zN zH ?_) | ((with_reducible refine r_gd ?_); (first | refine r_guardPf rfl rfl ?_ ?_ | refine r_guardNf rfl rfl ?_ ?_ | refine r_guard rfl rfl ?_ ?_) <;> intro hG <;> (try (exfalso; omega; done)) <;> refine r_nn zN zH ?_)) | fail)
          all_goals ((refine Runs.ret1 Try.func19 rfl zM zD ?_; try exact zX))
      · repeat' (first | refine yw ?_ | ((with_reducible refine Runs.is ?_); first | refine Runs.region (id := 10) ?_ | ((with_reducible refine Runs.isC ?_); refine Runs.cond rfl (zc ?_) (zc ?_) <;> intro hc <;> (try (first | contradiction | (exfalso; omega; done) | (have : hc = trivial := rfl; clear this; clear hc))))) | ((with_reducible refine r_is ?_); first | refine yr ?_) | fail)
        rw [show W.length - i = 0 by omega, weiE] at he2
        subst he2
        rw [if_neg zd] at he
        have hN := member_negative ver adm num
        have hno : ∀ {x : Bool} {p : Prop}, x = false → x = true → p := fun h1 h2 => by rw [h1] at h2; cases h2
        cases hb3 : negB ver adm num
        · rw [hb3] at hN
          by_cases hz : ru = ⟨0, 0, 0⟩
          · rw [if_neg (fun h => h.1 hz)] at he
            repeat' (first | refine yw ?_ | ((with_reducible refine Runs.is ?_); first | refine Runs.region (id := 17) ?_ | ((with_reducible refine Runs.isC ?_); refine Runs.cond rfl (zc ?_) (zc ?_) <;> intro hc <;> (try (first | contradiction | (exfalso; omega; done) | (have : hc = trivial := rfl; clear this; clear hc))))) | ((with_reducible refine r_is ?_); first | refine yr ?_) | fail)
            rw [show eqCells [V.i ru.kind, V.i ru.columns, V.i ru.faulty] [V.i 0, V.i 0, V.i 0] = true by rw [eqc_ru ru ⟨0, 0, 0⟩]; exact decide_eq_true hz]
            repeat' (first | refine yw ?_ | ((with_reducible refine Runs.is ?_); first | refine Runs.region (id := 18) ?_ | refine Runs.region (id := 19) ?_ | refine Runs.region (id := 20) ?_ | refine Runs.region (id := 21) ?_ | refine Runs.region (id := 22) ?_ | refine Runs.region (id := 23) ?_ | refine Runs.region (id := 24) ?_ | ((with_reducible refine Runs.isC ?_); refine Runs.cond rfl (zc ?_) (zc ?_) <;> intro hc <;> (try (first | contradiction | (exfalso; omega; done) | (have : hc = trivial := rfl; clear this; clear hc))))) | ((with_reducible refine r_is ?_); first | refine yr ?_ | (refine r_fn rfl (hru) HbF.h zL1 zD ?_; refine r_nn zN zH ?_) | (refine r_fn rfl (hN) HbF.h zL3 zD ?_; refine r_nn zN zH ?_) | ((with_reducible refine r_gd ?_); (first | refine r_guardPf rfl rfl ?_ ?_ | refine r_guardNf rfl rfl ?_ ?_ | refine r_guardPt rfl rfl ?_ ?_ | refine r_guardNt rfl rfl ?_ ?_ | refine r_guard rfl rfl ?_ ?_) <;> intro hG <;> (try (exfalso; omega; done)) <;> refine r_nn zN zH ?_)) | fail)
            all_goals first
              | (exact absurd hz (by assumption))
              | (rw [if_pos (.inr ⟨hz, by omega⟩)] at he
                 subst he
                 (refine Runs.ret1 Try.func19 rfl zM zD ?_; try exact zX)
                 done)
              | (rw [if_neg (by
                   rintro (h | ⟨_, h⟩)
                   · exact hno hb3 h
                   · omega)] at he
                 subst he
                 (refine Runs.ret1 Try.func19 rfl zM zD ?_; try exact zX)
                 done)
              | trace_state
          · repeat' (first | refine yw ?_ | ((with_reducible refine Runs.is ?_); first | refine Runs.region (id := 17) ?_ | ((with_reducible refine Runs.isC ?_); refine Runs.cond rfl (zc ?_) (zc ?_) <;> intro hc <;> (try (first | contradiction | (exfalso; omega; done) | (have : hc = trivial := rfl; clear this; clear hc))))) | ((with_reducible refine r_is ?_); first | refine yr ?_) | fail)
            rw [show eqCells [V.i ru.kind, V.i ru.columns, V.i ru.faulty] [V.i 0, V.i 0, V.i 0] = false by rw [eqc_ru ru ⟨0, 0, 0⟩]; exact decide_eq_false hz]
            repeat' (first | refine yw ?_ | ((with_reducible refine Runs.is ?_); first | refine Runs.region (id := 18) ?_ | refine Runs.region (id := 19) ?_ | refine Runs.region (id := 20) ?_ | refine Runs.region (id := 21) ?_ | refine Runs.region (id := 22) ?_ | refine Runs.region (id := 23) ?_ | refine Runs.region (id := 24) ?_ | ((with_reducible refine Runs.isC ?_); refine Runs.cond rfl (zc ?_) (zc ?_) <;> intro hc <;> (try (first | contradiction | (exfalso; omega; done) | (have : hc = trivial := rfl; clear this; clear hc))))) | ((with_reducible refine r_is ?_); first | refine yr ?_ | (refine r_fn rfl (hru) HbF.h zL1 zD ?_; refine r_nn zN zH ?_) | (refine r_fn rfl (hN) HbF.h zL3 zD ?_; refine r_nn zN zH ?_) | ((with_reducible refine r_gd ?_); (first | refine r_guardPf rfl rfl ?_ ?_ | refine r_guardNf rfl rfl ?_ ?_ | refine r_guardPt rfl rfl ?_ ?_ | refine r_guardNt rfl rfl ?_ ?_ | refine r_guard rfl rfl ?_ ?_) <;> intro hG <;> (try (exfalso; omega; done)) <;> refine r_nn zN zH ?_)) | fail)
            all_goals first
              | (exact absurd (by assumption) hz)
              | (rw [if_pos ⟨hz, by assumption⟩] at he
                 subst he
                 (refine Runs.ret1 Try.func19 rfl zM zD ?_; try exact zX)
                 done)
              | (rw [if_neg (fun h => h.2 (by assumption)), if_neg (by
                   rintro (h | ⟨h, _⟩)
                   · exact hno hb3 h
                   · exact hz h)] at he
                 subst he
                 (refine Runs.ret1 Try.func19 rfl zM zD ?_; try exact zX)
                 done)
              | trace_state
        · rw [hb3] at hN
          by_cases hz : ru = ⟨0, 0, 0⟩
          · rw [if_neg (fun h => h.1 hz), if_pos (.inl hb3)] at he
            subst he
            repeat' (first | refine yw ?_ | ((with_reducible refine Runs.is ?_); first | refine Runs.region (id := 17) ?_ | ((with_reducible refine Runs.isC ?_); refine Runs.cond rfl (zc ?_) (zc ?_) <;> intro hc <;> (try (first | contradiction | (exfalso; omega; done) | (have : hc = trivial := rfl; clear this; clear hc))))) | ((with_reducible refine r_is ?_); first | refine yr ?_) | fail)
            rw [show eqCells [V.i ru.kind, V.i ru.columns, V.i ru.faulty] [V.i 0, V.i 0, V.i 0] = true by rw [eqc_ru ru ⟨0, 0, 0⟩]; exact decide_eq_true hz]
            repeat' (first | refine yw ?_ | ((with_reducible refine Runs.is ?_); first | refine Runs.region (id := 18) ?_ | refine Runs.region (id := 19) ?_ | refine Runs.region (id := 20) ?_ | refine Runs.region (id := 21) ?_ | refine Runs.region (id := 22) ?_ | refine Runs.region (id := 23) ?_ | refine Runs.region (id := 24) ?_ | ((with_reducible refine Runs.isC ?_); refine Runs.cond rfl (zc ?_) (zc ?_) <;> intro hc <;> (try (first | contradiction | (exfalso; omega; done) | (have : hc = trivial := rfl; clear this; clear hc))))) | ((with_reducible refine r_is ?_); first | refine yr ?_ | (refine r_fn rfl (hru) HbF.h zL1 zD ?_; refine r_nn zN zH ?_) | (refine r_fn rfl (hN) HbF.h zL3 zD ?_; refine r_nn zN zH ?_) | ((with_reducible refine r_gd ?_); (first | refine r_guardPf rfl rfl ?_ ?_ | refine r_guardNf rfl rfl ?_ ?_ | refine r_guardPt rfl rfl ?_ ?_ | refine r_guardNt rfl rfl ?_ ?_ | refine r_guard rfl rfl ?_ ?_) <;> intro hG <;> (try (exfalso; omega; done)) <;> refine r_nn zN zH ?_)) | fail)
            all_goals first
              | (exact absurd hz (by assumption))
              | ((refine Runs.ret1 Try.func19 rfl zM zD ?_; try exact zX)
                 done)
              | trace_state
          · repeat' (first | refine yw ?_ | ((with_reducible refine Runs.is ?_); first | refine Runs.region (id := 17) ?_ | ((with_reducible refine Runs.isC ?_); refine Runs.cond rfl (zc ?_) (zc ?_) <;> intro hc <;> (try (first | contradiction | (exfalso; omega; done) | (have : hc = trivial := rfl; clear this; clear hc))))) | ((with_reducible refine r_is ?_); first | refine yr ?_) | fail)
            rw [show eqCells [V.i ru.kind, V.i ru.columns, V.i ru.faulty] [V.i 0, V.i 0, V.i 0] = false by rw [eqc_ru ru ⟨0, 0, 0⟩]; exact decide_eq_false hz]
            repeat' (first | refine yw ?_ | ((with_reducible refine Runs.is ?_); first | refine Runs.region (id := 18) ?_ | refine Runs.region (id := 19) ?_ | refine Runs.region (id := 20) ?_ | refine Runs.region (id := 21) ?_ | refine Runs.region (id := 22) ?_ | refine Runs.region (id := 23) ?_ | refine Runs.region (id := 24) ?_ | ((with_reducible refine Runs.isC ?_); refine Runs.cond rfl (zc ?_) (zc ?_) <;> intro hc <;> (try (first | contradiction | (exfalso; omega; done) | (have : hc = trivial := rfl; clear this; clear hc))))) | ((with_reducible refine r_is ?_); first | refine yr ?_ | (refine r_fn rfl (hru) HbF.h zL1 zD ?_; refine r_nn zN zH ?_) | (refine r_fn rfl (hN) HbF.h zL3 zD ?_; refine r_nn zN zH ?_) | ((with_reducible refine r_gd ?_); (first | refine r_guardPf rfl rfl ?_ ?_ | refine r_guardNf rfl rfl ?_ ?_ | refine r_guardPt rfl rfl ?_ ?_ | refine r_guardNt rfl rfl ?_ ?_ | refine r_guard rfl rfl ?_ ?_) <;> intro hG <;> (try (exfalso; omega; done)) <;> refine r_nn zN zH ?_)) | fail)
            all_goals first
              | (exact absurd (by assumption) hz)
              | (rw [if_pos ⟨hz, by assumption⟩] at he
                 subst he
                 (refine Runs.ret1 Try.func19 rfl zM zD ?_; try exact zX)
                 done)
              | (rw [if_neg (fun h => h.2 (by assumption)), if_pos (.inl hb3)] at he
                 subst he
                 (refine Runs.ret1 Try.func19 rfl zM zD ?_; try exact zX)
                 done)
              | trace_state
  exact hgo _ rfl
end Go.Proofs
namespace Go.Proofs
open Go.AM
attribute [local irreducible] AM.evalR AM.evalD AM.Runs AM.valK AM.dK AM.opK AM.stepR AM.CallS AM.St.Le
@[reducible] def u8 (n : Int) : V := .sc (.int .u8 n)
@[reducible] def u64 (n : Int) : V := .sc (.int .u64 n)
@[reducible] def byV (l : List Int) : V := .sl false (l.map u8)
theorem da_u8 (x : Int) : (u8 x).data = true := rfl
theorem st_u8 (xs : List Int) : Storable (xs.map u8) := Storable_map _ _ fun _ => rfl
theorem sd_u8 (xs : List Int) : Stride 1 (xs.map u8) := Stride_map _ _ fun _ => rfl
theorem dl_u8 (xs : List Int) : V.dataL (xs.map u8) = true := dataL_map _ _ fun _ => rfl
attribute [go_sem] da_u8 st_u8 sd_u8 dl_u8
def Bytes (b : List Int) : Prop := ∀ c ∈ b, 0 ≤ c ∧ c < 256
theorem Bytes.at {b : List Int} (h : Bytes b) {i : Nat} (hi : i < b.length) : 0 ≤ b.getD i default ∧ b.getD i default < 256 := h _ (by rw [List.getD_eq_getElem?_getD, List.getElem?_eq_getElem hi]; exact List.getElem_mem hi)
theorem Bytes.drop {b : List Int} (h : Bytes b) (n : Nat) : Bytes (b.drop n) := fun c hc => h c (List.mem_of_mem_drop hc)
theorem and8_fin : ∀ c : Fin 256, andNotZ .u8 (c.val : Int) 128 = ((c.val : Int) % 128) := by decide +kernel
theorem or8_fin : ∀ c : Fin 256, orZ .u8 (c.val : Int) 128 = ((c.val : Int) % 128 + 128) := by decide +kernel
theorem and8 {c : Int} (h : 0 ≤ c ∧ c < 256) : andNotZ .u8 c 128 = c % 128 := by
  have := and8_fin ⟨c.toNat, by omega⟩
  rw [show ((⟨c.toNat, by omega⟩ : Fin 256).val : Int) = c from by show ((c.toNat : Nat) : Int) = c; omega] at this
  exact this
theorem or8 {c : Int} (h : 0 ≤ c ∧ c < 256) : orZ .u8 c 128 = c % 128 + 128 := by
  have := or8_fin ⟨c.toNat, by omega⟩
  rw [show ((⟨c.toNat, by omega⟩ : Fin 256).val : Int) = c from by show ((c.toNat : Nat) : Int) = c; omega] at this
  exact this
def orS (v c : Int) (i : Nat) : Int := orZ .u64 v (IntKind.u64.wrap (c % 128 * 2 ^ (min (7 * (i : Int)).toNat IntKind.u64.bits)))
theorem wrap64_mod (x : Int) : IntKind.u64.wrap x = x % 18446744073709551616 := by
  show (if (false && decide (x % 2 ^ 64 ≥ 2 ^ (64 - 1))) = true then x % 2 ^ 64 - 2 ^ 64 else x % 2 ^ 64) = _
  rw [Bool.false_and, if_neg zd]; rfl
theorem wrap8_mod (x : Int) : IntKind.u8.wrap x = x % 256 := by
  show (if (false && decide (x % 2 ^ 8 ≥ 2 ^ (8 - 1))) = true then x % 2 ^ 8 - 2 ^ 8 else x % 2 ^ 8) = _
  rw [Bool.false_and, if_neg zd]; rfl
theorem orS_eq {v c : Int} {i : Nat} (h : 0 ≤ c ∧ c < 256) : orZ .u64 v (IntKind.u64.wrap (andNotZ .u8 c 128 * 2 ^ min (7 * (i : Int)).toNat 64)) = orS v c i := by
  unfold orS
  rw [and8 h]; rfl
def uintF (b : List Int) : Nat → Int → Nat → Int × Int × Int
  | 0, _, _ => (0, 0, 9)
  | n + 1, v, i => if i = b.length then (0, 0, 1) else if i = 9 ∧ 1 < b.getD i default then (0, 0, 9) else
      if 128 ≤ b.getD i default then uintF b n (orS v (b.getD i default) i) (i + 1) else if b.getD i default = 0 ∧ 0 < i then (0, 0, 2) else (orS v (b.getD i default) i, (i : Int) + 1, 0)
def uintE (b : List Int) : Int × Int × Int := uintF b 10 0 0
@[reducible] def uiV (r : Int × Int × Int) : V := .tup [u64 r.1, .i r.2.1, .i r.2.2]
theorem wire_Uint (f : Bool) (b : List Int) (hB : Bytes b) : AM.Fn Try.prog 75 [.sl f (b.map u8)] (uiV (uintE b)) := by
  have hgo : ∀ r, uintE b = r → AM.Fn Try.prog 75 [.sl f (b.map u8)] (uiV r) := by
    intro r hr
    unfold uintE at hr
    (refine spec_of_runs Try.func75 rfl ?_; simp only [Try.f75]; refine ys ?_)
    (refine Runs.lens 0 ?_; refine yl ?_)
    intro hl
    repeat' (first | refine yw ?_ | ((with_reducible refine Runs.is ?_); first | refine Runs.region (id := 0) ?_ | refine Runs.region (id := 1) ?_ | ((with_reducible refine Runs.isC ?_); refine Runs.cond rfl (zc ?_) (zc ?_) <;> intro hc <;> (try (first | contradiction | (exfalso; omega; done) | (have : hc = trivial := rfl; clear this; clear hc))))) | ((with_reducible refine r_is ?_); first | refine yr ?_) | fail)
    refine Runs.atI (α := Int × Nat) (fun a => 10 - a.2) (fun a => a.2 ≤ b.length ∧ a.2 ≤ 9 ∧ uintF b (10 - a.2) a.1 a.2 = r)
      (fun a => ⟨[.sl f (b.map u8), .any, .any, .any, .any, u64 a.1, .i (a.2 : Nat), .any, .any, .any, .any, .any, .any, .any, .any, .any, .any, .any, .any, .any, .any, .any, .any, .any, .any, .any, .any, .any, .any, .any, .any, .any, .any, .any, .any, .any, .any, .any, .any, .any, .any, .any], []⟩) (0, 0) ⟨Nat.zero_le _, by decide, hr⟩ ?_ ?_
    · (refine St.Le.clean zR zU zV)
    rintro ⟨v, i⟩ ⟨h0, h1, h2⟩ ih
    dsimp only at h0 h1 h2 ih ⊢
    rw [show 10 - i = (9 - i) + 1 by omega, uintF] at h2
    by_cases hb : i = b.length
    · rw [if_pos hb] at h2
      subst h2
      repeat' (first | refine yw ?_ | ((with_reducible refine Runs.is ?_); first | refine Runs.region (id := 2) ?_ | refine Runs.region (id := 3) ?_ | ((with_reducible refine Runs.isC ?_); refine Runs.cond rfl (zc ?_) (zc ?_) <;> intro hc <;> (try (first | contradiction | (exfalso; omega; done) | (have : hc = trivial := rfl; clear this; clear hc))))) | ((with_reducible refine r_is ?_); first | refine yr ?_) | fail)
      (refine Runs.ret3 Try.func75 rfl zM zM zM zD ?_; try exact zX)
    rw [if_neg hb] at h2
    have hc8 := hB.at (show i < b.length by omega)
    have e8 := and8 hc8
    repeat' (first | refine yw ?_ | ((with_reducible refine Runs.is ?_); first | refine Runs.region (id := 2) ?_ | refine Runs.region (id := 3) ?_ | refine Runs.region (id := 4) ?_ | refine Runs.region (id := 5) ?_ | refine Runs.region (id := 6) ?_ | refine Runs.region (id := 7) ?_ | refine Runs.region (id := 8) ?_ | refine Runs.region (id := 9) ?_ | refine Runs.region (id := 10) ?_ | refine Runs.region (id := 11) ?_ | refine Runs.region (id := 12) ?_ | ((with_reducible refine Runs.isC ?_); refine Runs.cond rfl (zc ?_) (zc ?_) <;> intro hc <;> (try (first | contradiction | (exfalso; omega; done) | (have : hc = trivial := rfl; clear this; clear hc))))) | ((with_reducible refine r_is ?_); first | refine yr ?_ | ((with_reducible refine r_gd ?_); (first | refine r_guardPt rfl rfl ?_ ?_ | refine r_guardNt rfl rfl ?_ ?_ | refine r_guard rfl rfl ?_ ?_) <;> intro hG <;> (try (exfalso; omega; done)) <;> refine r_nn zN zH ?_)) | fail)
    all_goals first
      | (rw [if_pos zo] at h2; subst h2; (refine Runs.ret3 Try.func75 rfl zM zM zM zD ?_; try exact zX); done)
      | (rw [if_neg zo, if_neg zo, if_pos zo] at h2; subst h2; (refine Runs.ret3 Try.func75 rfl zM zM zM zD ?_; try exact zX); done)
      | skip
    all_goals rw [orS_eq hc8]
    all_goals first
      | (rw [if_neg zo, if_neg zo, if_neg zo] at h2
         subst h2
         (refine Runs.ret3 Try.func75 rfl zM zM zM zD ?_; try exact zX)
         done)
      | skip
    refine Runs.goto rfl (Runs.seq (Runs.skip (Runs.seq (Runs.seq ?_))))
    rw [if_neg zo, if_pos zo] at h2
    refine ih (orS v (b.getD i default) i, i + 1) _ ⟨by dsimp only; omega, by dsimp only; omega, by dsimp only; rw [show 10 - (i + 1) = 9 - i by omega]; exact h2⟩ (by dsimp only; omega) ?_
    (refine St.Le.clean zR zU zV)
  exact hgo _ rfl
end Go.Proofs
namespace Go.Proofs
open Go.AM
attribute [local irreducible] AM.evalR AM.evalD AM.Runs AM.valK AM.dK AM.opK AM.stepR AM.CallS AM.St.Le
theorem Runs.ret_hand {P : Program} {f : FuncId} {k : List Item} {s : St} {fn : Func} {r : V} {H1 : AM.Heap} (hf : P.funcs[f]? = some fn) {j : Tmp} (hr : fn.results = #[.tmp j]) (hs : s.slots.getD j .any = r) (hh : s.heap = H1) : AM.Runs P f (fun r' H' => r' = r ∧ H' = H1) (.code .ret :: k) s := by
  refine AM.Runs.ret hf ?_
  rw [hr]
  subst hs hh
  exact ⟨_, s.heap, ⟨rfl, rfl⟩, fun w0 O M loc x w S => ⟨loc, S⟩⟩
def numE (b : List Int) : Int × Int × Int := if (uintE b).2.2 ≠ 0 then (0, 0, (uintE b).2.2) else if 2147483647 < (uintE b).1 then (0, 0, 9) else ((uintE b).1, (uintE b).2.1, 0)
theorem uintF_bd (b : List Int) : ∀ (n : Nat) (v : Int) (i : Nat), n + i = 10 → 0 ≤ v ∧ v ≤ 18446744073709551615 → (0 ≤ (uintF b n v i).1 ∧ (uintF b n v i).1 ≤ 18446744073709551615) ∧ (0 ≤ (uintF b n v i).2.1 ∧ (uintF b n v i).2.1 ≤ 10) ∧ ((uintF b n v i).2.2 = 0 → 1 ≤ (uintF b n v i).2.1 ∧ (uintF b n v i).2.1 + 0 ≤ b.length ∨ b.length < i)
  | 0, v, i, _, _ => by simp [uintF]
  | n + 1, v, i, h, hv => by
    rw [uintF]
    split
    · simp
    rename_i h0
    split
    · simp
    have ho : 0 ≤ orS v (b.getD i default) i ∧ orS v (b.getD i default) i ≤ 18446744073709551615 := by
      unfold orS orZ
      rw [wrap64_mod]
      omega
    split
    · have := uintF_bd b n (orS v (b.getD i default) i) (i + 1) zo ho
      refine ⟨this.1, this.2.1, fun he => ?_⟩
      rcases this.2.2 he with q | q
      · exact .inl q
      · exact .inr zo
    · split
      · simp
      · refine ⟨ho, by dsimp only; omega, fun _ => ?_⟩
        dsimp only
        omega
theorem uintE_bd (b : List Int) : (0 ≤ (uintE b).1 ∧ (uintE b).1 ≤ 18446744073709551615) ∧ (0 ≤ (uintE b).2.1 ∧ (uintE b).2.1 ≤ 10) ∧ ((uintE b).2.2 = 0 → 1 ≤ (uintE b).2.1 ∧ (uintE b).2.1 ≤ b.length) := by
  have := uintF_bd b 10 0 0 rfl ⟨by decide, by decide⟩
  refine ⟨this.1, this.2.1, fun h => ?_⟩
  rcases this.2.2 h with q | q
  · exact ⟨q.1, by unfold uintE; omega⟩
  · omega
def readH (H : AM.Heap) (m i fo : Nat) (o : AM.Obj) (r : Int × Int × Int) (at' : Nat) : AM.Heap := if r.2.2 = 0 then upd (upd H 6 (.var 3 (.i ((at' : Int) + r.2.1)))) m (o.wr i fo [.i r.1]) else H
theorem read_spec (H : AM.Heap) (f : Bool) (b : List Int) (at' m i fo : Nat) (o : AM.Obj) (hB : Bytes b) (hl : at' ≤ b.length) (hb : b.length ≤ 4611686018427387904) (h1 : AM.look H 1 = some (.var 64 (.sl f (b.map u8)))) (h6 : AM.look H 6 = some (.var 3 (.i (at' : Nat)))) (hm : AM.look H m = some o) (hne : m ≠ 6)
    (ho : i < o.len ∧ fo + 1 ≤ (o.elem i).cells.length) : AM.Spec Try.prog 74 [.ptr m i fo, .ptr 1 0 0, .ptr 6 0 0] H (fun r' H' => r' = .i (numE (b.drop at')).2.2 ∧ H' = readH H m i fo o (numE (b.drop at')) at') := by
  have hU : AM.Fn Try.prog 75 [.sl f (((b.map u8)).drop ((at' : Int)).toNat)] (uiV (uintE (b.drop at'))) := by
    rw [Int.toNat_natCast, ← List.map_drop]
    exact wire_Uint f (b.drop at') (hB.drop _)
  have hD : V.dataL [V.sl f (((b.map u8)).drop ((at' : Int)).toNat)] = true := by
    rw [← List.map_drop]; simp only [V.dataL, V.data, dl_u8, Bool.and_true]
  have hbd := uintE_bd (b.drop at')
  rw [List.length_drop] at hbd
  unfold numE readH
  generalize uintE (b.drop at') = u at *
  obtain ⟨v, n, e⟩ := u
  dsimp only at *
  (refine spec_of_runs Try.func74 rfl ?_; simp only [Try.f74]; refine ys ?_)
  repeat' (first | refine yw ?_ | ((with_reducible refine Runs.is ?_); first | refine Runs.region (id := 0) ?_ | refine Runs.region (id := 1) ?_ | ((with_reducible refine Runs.isC ?_); refine Runs.cond rfl (zc ?_) (zc ?_) <;> intro hc <;> (try (first | contradiction | (exfalso; omega; done) | (have : hc = trivial := rfl; clear this; clear hc))))) | ((with_reducible refine r_is ?_); first | refine yr ?_) | fail)
  refine r_v rfl (v_load_var TyF.h rfl h1 rfl zd rfl ?_); refine r_n zN ?_
  refine r_v rfl (v_load_var TyF.h rfl h6 rfl zd rfl ?_); refine r_n zN ?_
  repeat' (first | refine yw ?_ | ((with_reducible refine Runs.is ?_); first | refine Runs.region (id := 1) ?_ | refine Runs.region (id := 2) ?_ | refine Runs.region (id := 3) ?_ | refine Runs.region (id := 4) ?_ | refine Runs.region (id := 5) ?_ | ((with_reducible refine Runs.isC ?_); refine Runs.cond rfl (zc ?_) (zc ?_) <;> intro hc <;> (try (first | contradiction | (exfalso; omega; done) | (have : hc = trivial := rfl; clear this; clear hc))))) | ((with_reducible refine r_is ?_); first | refine yr ?_ | (refine r_fn rfl (hU) HbF.h zL1 zD ?_; refine r_nn zN zH ?_)) | fail)
  · rw [show (if e ≠ 0 then (0, 0, e) else if 2147483647 < v then (0, 0, 9) else (v, n, 0) : Int × Int × Int) = (0, 0, e) from if_pos hc]
    dsimp only
    rw [if_neg hc]
    exact Runs.ret_hand rfl rfl rfl rfl
  · rw [show (if e ≠ 0 then (0, 0, e) else if 2147483647 < v then (0, 0, 9) else (v, n, 0) : Int × Int × Int) = (0, 0, 9) from by rw [if_neg zo, if_pos zo]]
    dsimp only
    rw [if_neg zd]
    exact Runs.ret_hand rfl rfl rfl rfl
  · rw [show (if e ≠ 0 then (0, 0, e) else if 2147483647 < v then (0, 0, 9) else (v, n, 0) : Int × Int × Int) = (v, n, 0) from by rw [if_neg zo, if_neg zo]]
    dsimp only
    rw [if_pos rfl]
    repeat' (first | refine yw ?_ | ((with_reducible refine Runs.is ?_); first | refine Runs.region (id := 6) ?_ | ((with_reducible refine Runs.isC ?_); refine Runs.cond rfl (zc ?_) (zc ?_) <;> intro hc <;> (try (first | contradiction | (exfalso; omega; done) | (have : hc = trivial := rfl; clear this; clear hc))))) | ((with_reducible refine r_is ?_); first | refine yr ?_) | fail)
    refine r_v rfl (v_load_var TyF.h rfl h6 rfl zd rfl ?_); refine r_n zN ?_
    repeat' (first | refine yw ?_ | ((with_reducible refine Runs.is ?_); first | refine Runs.region (id := 6) ?_ | ((with_reducible refine Runs.isC ?_); refine Runs.cond rfl (zc ?_) (zc ?_) <;> intro hc <;> (try (first | contradiction | (exfalso; omega; done) | (have : hc = trivial := rfl; clear this; clear hc))))) | ((with_reducible refine r_is ?_); first | refine yr ?_) | fail)
    refine r_storeW TyF.h rfl h6 ⟨Nat.le_refl 1, by decide, rfl, rfl⟩ rfl ?_
    dsimp only [go_sem]
    repeat' (first | refine yw ?_ | ((with_reducible refine Runs.is ?_); first | refine Runs.region (id := 6) ?_ | refine Runs.region (id := 7) ?_ | ((with_reducible refine Runs.isC ?_); refine Runs.cond rfl (zc ?_) (zc ?_) <;> intro hc <;> (try (first | contradiction | (exfalso; omega; done) | (have : hc = trivial := rfl; clear this; clear hc))))) | ((with_reducible refine r_is ?_); first | refine yr ?_) | fail)
    have hm' : AM.look (upd H 6 (.var 3 (.i ((at' : Int) + n)))) m = some o := by rw [look_upd, if_neg hne]; exact hm
    refine r_store TyF.h rfl hm' ⟨ho.1, ho.2, by decide, rfl, rfl, .inr rfl⟩ ?_
    repeat' (first | refine yw ?_ | ((with_reducible refine Runs.is ?_); first | refine Runs.region (id := 7) ?_ | refine Runs.region (id := 8) ?_ | ((with_reducible refine Runs.isC ?_); refine Runs.cond rfl (zc ?_) (zc ?_) <;> intro hc <;> (try (first | contradiction | (exfalso; omega; done) | (have : hc = trivial := rfl; clear this; clear hc))))) | ((with_reducible refine r_is ?_); first | refine yr ?_) | fail)
    exact Runs.ret_hand rfl rfl rfl rfl
theorem numE_bd (b : List Int) : (0 ≤ (numE b).1 ∧ (numE b).1 ≤ 2147483647) ∧ (0 ≤ (numE b).2.1 ∧ (numE b).2.1 ≤ 10) ∧ ((numE b).2.2 = 0 → 1 ≤ (numE b).2.1 ∧ (numE b).2.1 ≤ b.length) := by
  have := uintE_bd b
  unfold numE
  split
  · exact ⟨by simp, by simp, fun h => absurd h (by assumption)⟩
  split
  · exact ⟨by simp, by simp, fun h => absurd h (by simp)⟩
  · rename_i h1 h2
    exact ⟨⟨this.1.1, by dsimp only; omega⟩, this.2.1, fun _ => this.2.2 zo⟩
theorem read_ok (H : AM.Heap) (f : Bool) (b : List Int) (at' m i fo : Nat) (o : AM.Obj) (hB : Bytes b) (hl : at' ≤ b.length) (hb : b.length ≤ 4611686018427387904) (h1 : AM.look H 1 = some (.var 64 (.sl f (b.map u8)))) (h6 : AM.look H 6 = some (.var 3 (.i (at' : Nat)))) (hm : AM.look H m = some o) (hne : m ≠ 6)
    (ho : i < o.len ∧ fo + 1 ≤ (o.elem i).cells.length) {v : Int} {n : Int} (hr : numE (b.drop at') = (v, n, 0)) : AM.Spec Try.prog 74 [.ptr m i fo, .ptr 1 0 0, .ptr 6 0 0] H (fun r' H' => r' = .i 0 ∧ H' = upd (upd H 6 (.var 3 (.i ((at' : Int) + n)))) m (o.wr i fo [.i v])) := by
  have := read_spec H f b at' m i fo o hB hl hb h1 h6 hm hne ho
  rw [hr] at this
  rw [readH, if_pos rfl] at this
  exact this
theorem read_no (H : AM.Heap) (f : Bool) (b : List Int) (at' m i fo : Nat) (o : AM.Obj) (hB : Bytes b) (hl : at' ≤ b.length) (hb : b.length ≤ 4611686018427387904) (h1 : AM.look H 1 = some (.var 64 (.sl f (b.map u8)))) (h6 : AM.look H 6 = some (.var 3 (.i (at' : Nat)))) (hm : AM.look H m = some o) (hne : m ≠ 6)
    (ho : i < o.len ∧ fo + 1 ≤ (o.elem i).cells.length) {v : Int} {n e : Int} (hr : numE (b.drop at') = (v, n, e)) (he : e ≠ 0) : AM.Spec Try.prog 74 [.ptr m i fo, .ptr 1 0 0, .ptr 6 0 0] H (fun r' H' => r' = .i e ∧ H' = H) := by
  have := read_spec H f b at' m i fo o hB hl hb h1 h6 hm hne ho
  rw [hr] at this
  rw [readH, if_neg he] at this
  exact this
end Go.Proofs
namespace Go.AM
open V (Le LeL)
variable {P : Program} {f : FuncId} {post : V → Heap → Prop} {todo : List Item} {s : St}
theorem Runs.pinList2 (k id n : Nat) {T t : TypeId} {sz m : Nat} {cs : List V} {es : List V} (hv : look s.heap id = some (.var T (.agg cs))) (hc : cs.getD n .any = .own m) (hn : n < cs.length) (hm : look s.heap m = some (.lst t sz es)) (hk : look s.heap k = none)
    (h : ∀ g p c, (0 < es.length → p = some ⟨g, 0, none⟩) → Runs P f post todo ⟨s.slots, (k, .gho (.slice p es.length c) (.own m)) :: upd s.heap id (.var T (.agg (cs.set n (.sc (.slice p es.length c)))))⟩) : Runs P f post todo s := by
  intro w0 O M loc a w b cs' hd S hb hkd
  obtain ⟨gv, arr, hloc, hheap, hrel⟩ := S.objs id _ hv
  have hr := hrel.2 n hn
  rw [show V.cells (.agg cs) = cs from rfl, hc] at hr
  obtain ⟨hx, _⟩ := hr.own_inv
  have hob := S.objs m _ hm
  obtain ⟨g, p0, c, hp0, hg⟩ : ∃ g p0 c, (0 < es.length → p0 = some ⟨g, 0, none⟩) ∧ loc m = .slice p0 es.length c := by
    rcases blk_own hob with ⟨g, c, e, _⟩ | ⟨e, h0⟩
    · exact ⟨g, _, c, fun _ => rfl, e⟩
    · exact ⟨0, none, 0, fun h => absurd h (Nat.not_lt.2 (Nat.le_of_eq h0)), by rw [h0]; exact e⟩
  have hx' : arr.toList.getD n undef = .slice p0 es.length c := by rw [hx]; exact hg
  rw [hx'] at hr
  have hs : ∀ i, (look (upd s.heap id (.var T (.agg (cs.set n (.sc (.slice p0 es.length c)))))) i).isSome = (look s.heap i).isSome := by
    intro i; rw [look_upd]; by_cases e : i = id <;> simp [e]
  have hF : ∀ b, (env w O s.heap loc).F b → (env w O (upd s.heap id (.var T (.agg (cs.set n (.sc (.slice p0 es.length c)))))) loc).F b ∧ w.heap[b]? = w.heap[b]? := fun b hb => ⟨⟨hb.1, hb.2.1, fun i hi => hb.2.2 i (by rw [← hs]; exact hi)⟩, rfl⟩
  have hrl : ∀ x v, Rel (env w O s.heap loc) x v → Rel (env w O (upd s.heap id (.var T (.agg (cs.set n (.sc (.slice p0 es.length c)))))) loc) x v := by
    intro x v hr
    refine hr.mono (E := env w O s.heap loc) (E' := env w O (upd s.heap id (.var T (.agg (cs.set n (.sc (.slice p0 es.length c)))))) loc) hF fun i p hp => ?_
    have hp' : look s.heap i = some p := hp
    by_cases e : i = id
    · subst e
      rw [hv] at hp'; cases hp'
      have e9 := look_upd s.heap i (.var T (.agg (cs.set n (.sc (.slice p0 es.length c))))) i
      rw [if_pos rfl, hv] at e9
      exact ⟨_, e9, by exact rfl, rfl⟩
    · exact ⟨p, by show look _ _ = _; rw [look_upd, if_neg e]; exact hp', p.alike_refl, rfl⟩
  have S2 : SimAt w0 O M (upd s.heap id (.var T (.agg (cs.set n (.sc (.slice p0 es.length c)))))) loc s.slots a.tmps.toList w := by
    refine ⟨S.vals.imp hrl, fun i p hp => ?_, fun i i' b a1 a2 => S.dist i i' b (by rw [← hs]; exact a1) (by rw [← hs]; exact a2), fun i b a1 => S.own i b (by rw [← hs]; exact a1), S.ext, S.O_lt⟩
    rw [look_upd] at hp
    by_cases e : i = id
    · subst e
      rw [if_pos rfl, hv] at hp
      cases hp
      refine ⟨gv, arr, hloc, hheap, by rw [show V.cells (.agg (cs.set n _)) = cs.set n _ from rfl, List.length_set]; exact hrel.1, fun i hi => ?_⟩
      rw [show V.cells (.agg (cs.set n (.sc (.slice p0 es.length c)))) = cs.set n (.sc (.slice p0 es.length c)) from rfl] at hi ⊢
      rw [List.length_set] at hi
      by_cases e : i = n
      · subst e
        rw [hx', setD_eq hn]; exact .sc _
      · have := hrl _ _ (hrel.2 i hi)
        rw [show V.cells (.agg cs) = cs from rfl] at this
        rw [setD_ne e]; exact this
    · rw [if_neg e] at hp
      exact (S.objs i p hp).imp rfl (fun b _ => rfl) hrl
  obtain ⟨k1, _⟩ := S2.ghost k (by rw [look_upd]; split <;> simp [hk]) (hrl _ _ hr)
  exact h g p0 c hp0 w0 O M _ a w b cs' hd k1 hb hkd
theorem St.Le.leVar (id n : Nat) {T : TypeId} {cs : List V} {u v : V} (hle : V.Le u v) (hv : look s.heap id = some (.var T (.agg cs))) (hc : cs.getD n .any = u) : s.Le ⟨s.slots, upd s.heap id (.var T (.agg (cs.set n v)))⟩ := by
  intro w0 O M loc xs w S
  refine ⟨loc, ?_⟩
  obtain ⟨gv, arr, hloc, hheap, hrel⟩ := S.objs id _ hv
  have hs : ∀ i, (look (upd s.heap id (.var T (.agg (cs.set n v)))) i).isSome = (look s.heap i).isSome := by
    intro i; rw [look_upd]; by_cases e : i = id <;> simp [e]
  have hF : ∀ b, (env w O s.heap loc).F b → (env w O (upd s.heap id (.var T (.agg (cs.set n v)))) loc).F b ∧ w.heap[b]? = w.heap[b]? := fun b hb => ⟨⟨hb.1, hb.2.1, fun i hi => hb.2.2 i (by rw [← hs]; exact hi)⟩, rfl⟩
  have hrl : ∀ x y, Rel (env w O s.heap loc) x y → Rel (env w O (upd s.heap id (.var T (.agg (cs.set n v)))) loc) x y := by
    intro x y hr
    refine hr.mono (E := env w O s.heap loc) (E' := env w O (upd s.heap id (.var T (.agg (cs.set n v)))) loc) hF fun i p hp => ?_
    have hp' : look s.heap i = some p := hp
    by_cases e : i = id
    · subst e
      rw [hv] at hp'; cases hp'
      have e9 := look_upd s.heap i (.var T (.agg (cs.set n v))) i
      rw [if_pos rfl, hv] at e9
      exact ⟨_, e9, by exact rfl, rfl⟩
    · exact ⟨p, by show look _ _ = _; rw [look_upd, if_neg e]; exact hp', p.alike_refl, rfl⟩
  refine ⟨S.vals.imp hrl, fun i p hp => ?_, fun i i' b a1 a2 => S.dist i i' b (by rw [← hs]; exact a1) (by rw [← hs]; exact a2), fun i b a1 => S.own i b (by rw [← hs]; exact a1), S.ext, S.O_lt⟩
  rw [look_upd] at hp
  by_cases e : i = id
  · subst e
    rw [if_pos rfl, hv] at hp
    cases hp
    refine ⟨gv, arr, hloc, hheap, by rw [show V.cells (.agg (cs.set n v)) = cs.set n v from rfl, List.length_set]; exact hrel.1, fun i hi => ?_⟩
    rw [show V.cells (.agg (cs.set n v)) = cs.set n v from rfl] at hi ⊢
    rw [List.length_set] at hi
    have h0 := hrel.2 i hi
    rw [show V.cells (.agg cs) = cs from rfl] at h0
    by_cases e : i = n
    · subst e
      rw [hc] at h0
      rw [setD_eq hi]; exact V.Rel_le hle (hrl _ _ h0)
    · rw [setD_ne e]; exact hrl _ _ h0
  · rw [if_neg e] at hp
    exact (S.objs i p hp).imp rfl (fun b _ => rfl) hrl
end Go.AM
namespace Go.Proofs
open Go.AM
attribute [local irreducible] AM.evalR AM.evalD AM.Runs AM.valK AM.dK AM.opK AM.stepR AM.CallS AM.St.Le
@[reducible] def zGen : V := .agg [.sc (.slice none 0 0), .i 0, .i 0, .i 0]
abbrev tPI : Nat := 101
abbrev fRead : Nat := 74
theorem dataOr_any : dataOr .any = .any := rfl
theorem dataOr_sc (x : Value) : dataOr (.sc x) = .sc x := rfl
theorem dataOr_ptr (i j k : Nat) : dataOr (.ptr i j k) = .any := rfl
theorem mapOr_nil : List.map dataOr [] = [] := rfl
theorem mapOr_cons (x : V) (l : List V) : List.map dataOr (x :: l) = dataOr x :: List.map dataOr l := rfl
attribute [go_sem] dataOr_any dataOr_sc dataOr_ptr mapOr_nil mapOr_cons
theorem Runs.retC3 {P : Program} {f : FuncId} {k : List Item} {s : St} {fn : Func} {r : V} {c i j : Tmp} {ty tt : TypeId} {ag : Bool} {n id : Nat} {v u w : V} (hf : P.funcs[f]? = some fn) (hr : fn.results.toList = [.cell c ty, .tmp i, .tmp j]) (hu : s.slots.getD c .any = .ptr id 0 0)
    (hl : AM.look s.heap id = some (.var tt v)) (ht : tyv P ty = some (ag, n)) (hn : n ≤ v.cells.length ∧ 0 < n) (hs : v.sub ag 0 n = v) (hi : s.slots.getD i .any = u) (hj : s.slots.getD j .any = w) (hd : r.data = true) (h : V.Le (.tup [v, u, w]) r) : AM.Runs P f (fun r' H' => r' = r ∧ H' = []) (.code .ret :: k) s := by
  refine Runs.ret_fn hf ?_
  rw [hr]
  show valK P (.load ty (.tmp c)) (ev s.slots) s.heap _
  refine v_load_ptr ht hu hl ?_ ?_ (.inl hn.2) ?_
  · exact Nat.one_pos
  · rw [Nat.zero_add]; exact hn.1
  · rw [show (Obj.elem (.var tt v) 0).sub ag 0 n = v from hs]
    show V.Le (.tup [v, s.slots.getD i .any, s.slots.getD j .any]) r ∧ _
    rw [hi, hj]
    exact ⟨h, hd⟩
def memsN (m : Nat) (ns : List Int) : List Member := (List.range m).map fun i => ⟨ns.getD (2 * i) 0, ns.getD (2 * i + 1) 0⟩
def ptrsN (g : Nat) (i : Nat) : List V := (List.range (2 * i)).map fun j => .sc (.pointer (some ⟨g, j, none⟩))
theorem memsN_nil (m : Nat) : (memsN m []).map mbV = List.replicate m (.agg [.i 0, .i 0]) := by
  unfold memsN
  rw [List.map_map]
  apply List.ext_getElem
  · simp
  · intro i h1 h2
    simp [mbV]
theorem getD_snoc {ns : List Int} {v : Int} (k : Nat) (h : k ≠ ns.length) : (ns ++ [v]).getD k 0 = ns.getD k 0 := by
  rw [List.getD_eq_getElem?_getD, List.getD_eq_getElem?_getD]
  by_cases hk : k < ns.length
  · rw [List.getElem?_append_left hk]
  · rw [List.getElem?_eq_none (by rw [List.length_append, List.length_singleton]; omega), List.getElem?_eq_none zo]
theorem getD_snoc_self {ns : List Int} {v : Int} {k : Nat} (h : k = ns.length) : (ns ++ [v]).getD k 0 = v := by
  subst h
  rw [List.getD_eq_getElem?_getD, List.getElem?_append_right (Nat.le_refl _), Nat.sub_self]; rfl
theorem memsN_len (m : Nat) (ns : List Int) : (memsN m ns).length = m := by simp [memsN]
theorem memsN_same {m : Nat} {ns : List Int} {v : Int} (h : 2 * m ≤ ns.length) : memsN m (ns ++ [v]) = memsN m ns := by
  unfold memsN
  apply List.map_congr_left
  intro i hi
  have := List.mem_range.1 hi
  rw [getD_snoc _ zo, getD_snoc _ zo]
theorem memsN_set {m : Nat} {ns : List Int} {v : Int} (h : ns.length < 2 * m) :
    ((memsN m ns).map mbV).set (ns.length / 2) (splice (((memsN m ns).map mbV).getD (ns.length / 2) .any) (ns.length % 2) [.i v]) = (memsN m (ns ++ [v])).map mbV := by
  have hq : ns.length / 2 < m := by omega
  apply List.ext_getElem
  · simp [memsN]
  · intro k h1 h2
    have hk : k < m := by simpa [memsN] using h2
    rw [List.getElem_set]
    by_cases he : ns.length / 2 = k
    · rw [if_pos he]
      have e1 : ((memsN m ns).map mbV).getD (ns.length / 2) .any = mbV ⟨ns.getD (2 * k) 0, ns.getD (2 * k + 1) 0⟩ := by
        rw [List.getD_eq_getElem?_getD, List.getElem?_eq_getElem (by simp [memsN]; omega)]
        simp [memsN, he]
      rw [e1]
      simp only [memsN, List.map_map, List.getElem_map, List.getElem_range, Function.comp_apply, mbV, splice]
      rcases Nat.mod_two_eq_zero_or_one ns.length with h0 | h0
      · rw [h0, getD_snoc_self zo, getD_snoc _ zo]; rfl
      · rw [h0, getD_snoc _ zo, getD_snoc_self zo]; rfl
    · rw [if_neg he]
      simp only [memsN, List.map_map, List.getElem_map, List.getElem_range, Function.comp_apply]
      rw [getD_snoc _ zo, getD_snoc _ zo]
@[reducible] def gH (f : Bool) (b : List Int) (gL g5 g2 g6 m cL : Nat) (pL : Option Addr) (x7 : Value) (ns : List Int) (a : Nat) : AM.Heap :=
  [(52, .gho (.pointer (some ⟨g6, 0, none⟩)) (.ptr 6 0 0)), (50, .gho (.pointer (some ⟨g2, 0, none⟩)) (.ptr 2 0 0)), (51, .gho (.pointer (some ⟨g5, 0, none⟩)) (.ptr 5 0 0)), (55, .gho (.slice pL m cL) (.own 27)), (27, .lst 62 2 ((memsN m ns).map mbV)), (53, .gho x7 (.fn 74 [.ptr 1 0 0, .ptr 6 0 0])), (6, .var 3 (.i (a : Nat))), (5, .var 26 (.agg [.sc (.slice pL m cL), .i (ns.getD (2 * m) 0), .i (ns.getD (2 * m + 1) 0), .i (ns.getD (2 * m + 2) 0)])), (2, .var 26 zGen), (1, .var 64 (.sl f (b.map u8)))]
def fldP (gL g5 m j : Nat) : Addr := if j < 2 * m then ⟨gL, j, none⟩ else ⟨g5, j - 2 * m + 1, none⟩
def fldL (gL g5 m : Nat) : List V := (List.range (2 * m + 3)).map fun j => .sc (.pointer (some (fldP gL g5 m j)))
theorem fldL_eq (gL g5 m : Nat) : ptrsN gL m ++ [.sc (.pointer (some ⟨g5, 1, none⟩)), .sc (.pointer (some ⟨g5, 2, none⟩)), .sc (.pointer (some ⟨g5, 3, none⟩))] = fldL gL g5 m := by
  unfold fldL ptrsN
  rw [List.range_succ, List.range_succ, List.range_succ]
  simp only [List.map_append, List.map_cons, List.map_nil, List.append_assoc, List.cons_append, List.nil_append]
  congr 1
  · apply List.map_congr_left
    intro j hj
    rw [fldP, if_pos (List.mem_range.1 hj)]
  · rw [fldP, if_neg zo, fldP, if_neg zo, fldP, if_neg zo, show 2 * m - 2 * m + 1 = 1 by omega, show 2 * m + 1 - 2 * m + 1 = 2 by omega, show 2 * m + 2 - 2 * m + 1 = 3 by omega]
theorem fldL_len (gL g5 m : Nat) : (fldL gL g5 m).length = 2 * m + 3 := by simp [fldL]
theorem fldL_get (gL g5 m : Nat) {j : Nat} (h : j < 2 * m + 3) : (fldL gL g5 m).getD j .any = .sc (.pointer (some (fldP gL g5 m j))) := by
  rw [List.getD_eq_getElem?_getD, List.getElem?_eq_getElem (by rw [fldL_len]; exact h)]
  simp [fldL]
theorem fld_step (f : Bool) (b : List Int) {gL g5 g2 g6 m cL : Nat} {pL : Option Addr} {x7 : Value} {ns : List Int} {a : Nat} (hpL : 0 < m → pL = some ⟨gL, 0, none⟩) (hj : ns.length < 2 * m + 3) :
    ∃ id i fo o, AM.look (gH f b gL g5 g2 g6 m cL pL x7 ns a) id = some o ∧ id ≠ 6 ∧ (i < o.len ∧ fo + 1 ≤ (o.elem i).cells.length) ∧ Gh (gH f b gL g5 g2 g6 m cL pL x7 ns a) (.sc (.pointer (some (fldP gL g5 m ns.length)))) (.ptr id i fo)
      ∧ ∀ (v : Int) (n : Nat), upd (upd (gH f b gL g5 g2 g6 m cL pL x7 ns a) 6 (.var 3 (.i ((a : Int) + n)))) id (o.wr i fo [.i v]) = gH f b gL g5 g2 g6 m cL pL x7 (ns ++ [v]) (a + n) := by
  have ea : ∀ n : Nat, (V.i ((a : Int) + n)) = .i ((a + n : Nat) : Int) := fun n => by rw [Int.natCast_add]
  by_cases h : ns.length < 2 * m
  · have e := hpL zo
    subst e
    have hf : fldP gL g5 m ns.length = ⟨gL, ns.length, none⟩ := by rw [fldP, if_pos h]
    refine ⟨27, ns.length / 2, ns.length % 2, _, rfl, by decide, ⟨?_, ?_⟩, ?_, fun v n => ?_⟩
    · show ns.length / 2 < ((memsN m ns).map mbV).length
      rw [List.length_map, memsN_len]; omega
    · show ns.length % 2 + 1 ≤ (V.cells (((memsN m ns).map mbV).getD (ns.length / 2) .any)).length
      rw [AM.getD_map mbV _ _ _ (by rw [memsN_len]; omega)]
      show ns.length % 2 + 1 ≤ 2
      omega
    · rw [hf]
      exact Gh.ptr 55 27 (ns.length / 2) (ns.length % 2) rfl rfl (.inl rfl) rfl (by show ns.length = ns.length / 2 * 2 + ns.length % 2; omega)
    · rw [ea]
      show upd (upd _ 6 _) 27 (.lst 62 2 (((memsN m ns).map mbV).set (ns.length / 2) (splice (((memsN m ns).map mbV).getD (ns.length / 2) .any) (ns.length % 2) [.i v]))) = _
      rw [memsN_set h]
      show upd (upd (gH f b gL g5 g2 g6 m cL _ x7 ns a) 6 _) 27 _ = _
      unfold gH
      rw [getD_snoc (2 * m) zo, getD_snoc (2 * m + 1) zo, getD_snoc (2 * m + 2) zo]
      rfl
  · have hf : fldP gL g5 m ns.length = ⟨g5, ns.length - 2 * m + 1, none⟩ := by rw [fldP, if_neg h]
    refine ⟨5, 0, ns.length - 2 * m + 1, _, rfl, by decide, ⟨Nat.one_pos, ?_⟩, ?_, fun v n => ?_⟩
    · show ns.length - 2 * m + 1 + 1 ≤ 4
      omega
    · rw [hf]
      exact Gh.ptr 51 5 0 (ns.length - 2 * m + 1) rfl rfl (.inr rfl) rfl (by show _ = 0 * 0 + _; omega)
    · rw [ea]
      unfold gH
      rw [memsN_same zo]
      have h3 : ns.length = 2 * m ∨ ns.length = 2 * m + 1 ∨ ns.length = 2 * m + 2 := by omega
      rcases h3 with e | e | e
      · rw [getD_snoc_self (by omega : 2 * m = ns.length), getD_snoc (2 * m + 1) zo, getD_snoc (2 * m + 2) zo, show ns.length - 2 * m + 1 = 1 by omega]; rfl
      · rw [getD_snoc (2 * m) zo, getD_snoc_self (by omega : 2 * m + 1 = ns.length), getD_snoc (2 * m + 2) zo, show ns.length - 2 * m + 1 = 2 by omega]; rfl
      · rw [getD_snoc (2 * m) zo, getD_snoc (2 * m + 1) zo, getD_snoc_self (by omega : 2 * m + 2 = ns.length), show ns.length - 2 * m + 1 = 3 by omega]; rfl
def readF (b : List Int) : Nat → Nat → List Int → List Int × Nat × Int
  | 0, a, ns => (ns, a, 0)
  | k + 1, a, ns => if (numE (b.drop a)).2.2 ≠ 0 then ([], 0, (numE (b.drop a)).2.2) else readF b k (a + (numE (b.drop a)).2.1.toNat) (ns ++ [(numE (b.drop a)).1])
def zView : View := ⟨[], ⟨0, 0, 0⟩⟩
def genN (m : Nat) (ns : List Int) : View := ⟨memsN m ns, ⟨ns.getD (2 * m) 0, ns.getD (2 * m + 1) 0, ns.getD (2 * m + 2) 0⟩⟩
def decE (b : List Int) : View × Int × Int :=
  if (numE b).2.2 ≠ 0 then (zView, 0, (numE b).2.2) else if 12 < (numE b).1 then (zView, 0, 3) else
  if (readF b (2 * (numE b).1.toNat + 3) (numE b).2.1.toNat []).2.2 ≠ 0 then (zView, 0, (readF b (2 * (numE b).1.toNat + 3) (numE b).2.1.toNat []).2.2) else
  if genE (genN (numE b).1.toNat (readF b (2 * (numE b).1.toNat + 3) (numE b).2.1.toNat []).1) ≠ 0 then (zView, 0, genE (genN (numE b).1.toNat (readF b (2 * (numE b).1.toNat + 3) (numE b).2.1.toNat []).1)) else
  (genN (numE b).1.toNat (readF b (2 * (numE b).1.toNat + 3) (numE b).2.1.toNat []).1, (readF b (2 * (numE b).1.toNat + 3) (numE b).2.1.toNat []).2.1, 0)
def deV (d : View × Int × Int) : V := .tup [viV d.1, .i d.2.1, .i d.2.2]
theorem member_DecodeGenesis (f : Bool) (b : List Int) (hB : Bytes b) (hb : b.length ≤ 4611686018427387904) : AM.Fn Try.prog 39 [.sl f (b.map u8)] (deV (decE b)) := by
  have hgo : ∀ d, decE b = d → AM.Fn Try.prog 39 [.sl f (b.map u8)] (deV d) := ?_
  · exact hgo _ rfl
  intro d hd
  unfold decE at hd
  (refine spec_of_runs Try.func39 rfl ?_; simp only [Try.f39]; refine ys ?_)
  repeat' (first | refine yw ?_ | ((with_reducible refine Runs.is ?_); first | refine Runs.region (id := 0) ?_ | refine Runs.region (id := 1) ?_ | refine Runs.region (id := 2) ?_ | refine Runs.region (id := 3) ?_ | refine Runs.region (id := 4) ?_ | ((with_reducible refine Runs.isC ?_); refine Runs.cond rfl (zc ?_) (zc ?_) <;> intro hc <;> (try (first | contradiction | (exfalso; omega; done) | (have : hc = trivial := rfl; clear this; clear hc))))) | ((with_reducible refine r_is ?_); first | refine yr ?_) | fail)
  refine Runs.weaken (s' := ⟨[.any, .ptr 1 0 0, .ptr 2 0 0, .i 0, .i 0, .ptr 5 0 0, .ptr 6 0 0, .fn fRead [.ptr 1 0 0, .ptr 6 0 0], .ptr 8 0 0, .any, .any, .any, .any, .any, .any, .any, .any, .any, .any, .any, .any, .any, .any, .any, .any, .any, .any, .any, .any, .any, .any, .any, .any, .any, .any, .any, .any, .any, .any, .any, .any, .any, .any, .any, .any, .any, .any, .any, .any, .any, .any, .any, .any, .any, .any, .any, .any, .any, .any, .any, .any, .any, .any, .any, .any, .any, .any, .any, .any, .any, .any, .any, .any, .any, .any, .any, .any, .any, .any], [(8, .var 3 (.i 0)), (6, .var 3 (.i 0)), (5, .var 26 zGen), (2, .var 26 zGen), (1, .var 64 (.sl f (b.map u8)))]⟩) (by (refine St.Le.clean zR zU zV)) ?_
  refine Runs.pinPtr 2 50 rfl zE rfl fun g2 => ?_
  refine Runs.pinPtr 5 51 rfl zE rfl fun g5 => ?_
  refine Runs.pinPtr 6 52 rfl zE rfl fun g6 => ?_
  refine Runs.pin 7 53 (v := .fn fRead [.ptr 1 0 0, .ptr 6 0 0]) rfl zE rfl fun x7 => ?_
  refine Runs.pinPtr 8 54 rfl zE rfl fun g8 => ?_
  dsimp only [List.set]
  generalize hr : numE b = r at hd
  obtain ⟨v, n, e⟩ := r
  have hd0 : numE (b.drop 0) = (v, n, e) := hr
  have hbd := numE_bd b
  rw [hr] at hbd
  dsimp only at hbd hd
  repeat' (first | refine yw ?_ | ((with_reducible refine Runs.is ?_); first | refine Runs.region (id := 5) ?_ | ((with_reducible refine Runs.isC ?_); refine Runs.cond rfl (zc ?_) (zc ?_) <;> intro hc <;> (try (first | contradiction | (exfalso; omega; done) | (have : hc = trivial := rfl; clear this; clear hc))))) | ((with_reducible refine r_is ?_); first | refine yr ?_) | fail)
  by_cases he : e = 0
  · subst he
    refine r_hand (caps := [.ptr 1 0 0, .ptr 6 0 0]) (us := [.ptr 8 0 0]) (read_ok _ f b 0 8 0 0 (.var 3 (.i 0)) hB (Nat.zero_le _) hb rfl rfl rfl zd ⟨Nat.one_pos, Nat.le_refl 1⟩ hd0) HbF.h (Gh.gho 53 rfl) ⟨Gh.gho 54 rfl, trivial⟩ ?_
    refine r_nn zN zH ?_
    repeat' (first | refine yw ?_ | ((with_reducible refine Runs.is ?_); first | refine Runs.region (id := 5) ?_ | refine Runs.region (id := 6) ?_ | ((with_reducible refine Runs.isC ?_); refine Runs.cond rfl (zc ?_) (zc ?_) <;> intro hc <;> (try (first | contradiction | (exfalso; omega; done) | (have : hc = trivial := rfl; clear this; clear hc))))) | ((with_reducible refine r_is ?_); first | refine yr ?_) | fail)
    refine Runs.weaken (St.Le.unpin 8 54 rfl rfl zE) ?_
    refine Runs.weaken (St.Le.unpin 5 51 rfl rfl zE) ?_
    refine Runs.weaken (St.Le.unpin 2 50 rfl rfl zE) ?_
    refine Runs.weaken (St.Le.unpin 6 52 rfl rfl zE) ?_
    dsimp only [List.set]
    repeat' (first | refine yw ?_ | ((with_reducible refine Runs.is ?_); first | refine Runs.region (id := 8) ?_ | refine Runs.region (id := 9) ?_ | ((with_reducible refine Runs.isC ?_); refine Runs.cond rfl (zc ?_) (zc ?_) <;> intro hc <;> (try (first | contradiction | (exfalso; omega; done) | (have : hc = trivial := rfl; clear this; clear hc))))) | ((with_reducible refine r_is ?_); first | refine yr ?_) | fail)
    · rw [if_neg zo, if_pos zo] at hd
      subst hd
      refine Runs.weaken (St.Le.leVar 2 0 (V.Le.nil false) rfl rfl) ?_
      exact Runs.retC3 (id := 2) rfl rfl rfl rfl TyF.h ⟨Nat.le_refl 4, by decide⟩ rfl rfl rfl rfl (V.Le.refl _)
    rw [if_neg zo, if_neg zo] at hd
    repeat' (first | refine yw ?_ | ((with_reducible refine Runs.is ?_); first | refine Runs.region (id := 10) ?_ | refine Runs.region (id := 11) ?_ | refine Runs.region (id := 12) ?_ | ((with_reducible refine Runs.isC ?_); refine Runs.cond rfl (zc ?_) (zc ?_) <;> intro hc <;> (try (first | contradiction | (exfalso; omega; done) | (have : hc = trivial := rfl; clear this; clear hc))))) | ((with_reducible refine r_is ?_); first | refine yr ?_) | fail)
    obtain ⟨m, rfl⟩ : ∃ m : Nat, v = m := ⟨v.toNat, by omega⟩
    obtain ⟨a, rfl⟩ : ∃ a : Nat, n = a := ⟨n.toNat, by omega⟩
    rw [Int.toNat_natCast, Int.toNat_natCast] at hd
    refine Runs.weaken (s' := ⟨[.any, .any, .ptr 2 0 0, .i 0, .i 0, .ptr 5 0 0, .ptr 6 0 0, .sc x7, .any, .any, .sc (.slice none 0 0), .any, .any, .any, .any, .any, .any, .any, .any, .any, .any, .any, .any, .any, .any, .any, .any, .any, .any, .any, .any, .i ((List.replicate m (V.agg [V.sc (.int .i64 0), V.sc (.int .i64 0)])).length : Nat), .i 0, .any, .any, .any, .any, .any, .any, .any, .any, .any, .any, .any, .any, .any, .any, .any, .any, .any, .any, .any, .any, .any, .any, .any, .any, .any, .any, .any, .any, .any, .any, .any, .any, .any, .any, .any, .any, .any, .any, .any, .any, .any, .any, .any, .any, .any, .any], [(27, .lst 62 2 ((memsN m []).map mbV)), (53, .gho x7 (.fn fRead [.ptr 1 0 0, .ptr 6 0 0])), (6, .var 3 (.i a)), (5, .var 26 (.agg [.own 27, .i 0, .i 0, .i 0])), (2, .var 26 zGen), (1, .var 64 (.sl f (b.map u8)))]⟩) ?_ ?_
    · rw [memsN_nil, show (Int.toNat (m : Int)) = m from Int.toNat_natCast m]
      (refine St.Le.clean zR zU zV)
    rw [List.length_replicate]
    refine Runs.pinList2 55 5 0 rfl rfl zE rfl rfl fun gL pL cL hpL => ?_
    rw [List.length_map, show (memsN m []).length = m by simp [memsN]] at hpL
    rw [List.length_map, show (memsN m []).length = m by simp [memsN]]
    dsimp only [List.set, go_sem]
    simp only [Nat.reduceEqDiff, ↓reduceIte]
    (refine Runs.weaken (St.Le.nil 10 101 1 10 zd rfl rfl zE) ?_)
    refine Runs.loopI (fun i : Nat => m - i) (fun i => i ≤ m)
      (fun i => ⟨[.any, .any, .ptr 2 0 0, .i 0, .i 0, .ptr 5 0 0, .ptr 6 0 0, .sc x7, .any, .any, .own 10, .any, .any, .any, .any, .any, .any, .any, .any, .any, .any, .any, .any, .any, .any, .any, .any, .any, .any, .any, .any, .i m, .i (i : Nat), .any, .any, .any, .any, .any, .any, .any, .any, .any, .any, .any, .any, .any, .any, .any, .any, .any, .any, .any, .any, .any, .any, .any, .any, .any, .any, .any, .any, .any, .any, .any, .any, .any, .any, .any, .any, .any, .any, .any, .any, .any, .any, .any, .any, .any, .any],
        [(10, .lst tPI 1 (ptrsN gL i)), (55, .gho (.slice pL m cL) (.own 27)), (27, .lst 62 2 ((memsN m []).map mbV)), (53, .gho x7 (.fn fRead [.ptr 1 0 0, .ptr 6 0 0])), (6, .var 3 (.i a)), (5, .var 26 (.agg [.sc (.slice pL m cL), .i 0, .i 0, .i 0])), (2, .var 26 zGen), (1, .var 64 (.sl f (b.map u8)))]⟩) 0 (Nat.zero_le _) ?_ ?_
    · (refine St.Le.clean zR zU zV)
    · intro i hi ih
      dsimp only at hi ih ⊢
      by_cases hlt : i < m
      · have hp := hpL zo
        subst hp
        repeat' (first | (with_reducible refine And.intro (by intro a i h; cases h) ?_) | refine yw ?_ | ((with_reducible refine Runs.is ?_); first | (refine Runs.drawnT (id := 15) [] 12 mixed zK (by decide +kernel) ?_; dsimp only [List.take, List.drop]) | refine Runs.region (id := 13) ?_ | refine Runs.region (id := 14) ?_ | refine Runs.drawn (id := 15) mixed zK ?_ | ((with_reducible refine Runs.isC ?_); refine Runs.cond rfl (zc ?_) (zc ?_) <;> intro hc <;> (try (first | contradiction | (exfalso; omega; done) | (have : hc = trivial := rfl; clear this; clear hc))))) | ((with_reducible refine r_is ?_); first | refine yr ?_ | (refine r_append_full SlF.h SlF.s ZoF.h zd rfl rfl zC zJ zS rfl (fun hn => ?_) (fun hn => ?_) <;> refine r_nn zN zH ?_)) | ((with_reducible refine d_is ?_); first | refine yd ?_) | fail)
        refine And.intro (by intro a i h; cases h) ?_
        simp only [List.map_cons, List.map_nil, ev, List.getD_cons_succ, List.getD_cons_zero]
        have hlen : (ptrsN gL i).length = 2 * i := by simp [ptrsN]
        refine r_append_own SlF.h SlF.s ZoF.h zd rfl rfl rfl ⟨by intro v hv; simp only [List.mem_cons, List.not_mem_nil, or_false] at hv; rcases hv with rfl | rfl <;> rfl, by intro v hv; simp only [List.mem_cons, List.not_mem_nil, or_false] at hv; rcases hv with rfl | rfl <;> rfl⟩ ⟨by rw [hlen, List.length_cons, List.length_cons, List.length_nil]; omega, by rw [hlen, List.length_cons, List.length_cons, List.length_nil]; omega⟩ ?_
        refine r_nn zN zH ?_
        have hnext : ptrsN gL i ++ [.sc (.pointer (some ⟨gL, 0 + ((i : Nat) : Int).toNat * 2 + 0, none⟩)), .sc (.pointer (some ⟨gL, 0 + ((i : Nat) : Int).toNat * 2 + 1, none⟩))] = ptrsN gL (i + 1) := by
          unfold ptrsN
          rw [show 2 * (i + 1) = 2 * i + 1 + 1 by omega, List.range_succ, List.range_succ, List.map_append, List.map_append, List.append_assoc]
          simp only [List.map_cons, List.map_nil, List.cons_append, List.nil_append, Int.toNat_natCast]
          rw [show 0 + i * 2 + 0 = 2 * i by omega, show 0 + i * 2 + 1 = 2 * i + 1 by omega]
        rw [hnext]
        repeat' (first | (with_reducible refine And.intro (by intro a i h; cases h) ?_) | refine yw ?_ | ((with_reducible refine Runs.is ?_); first | (refine Runs.drawnT (id := 15) [] 12 mixed zK (by decide +kernel) ?_; dsimp only [List.take, List.drop]) | refine Runs.drawn (id := 15) mixed zK ?_ | refine Runs.region (id := 16) ?_ | ((with_reducible refine Runs.isC ?_); refine Runs.cond rfl (zc ?_) (zc ?_) <;> intro hc <;> (try (first | contradiction | (exfalso; omega; done) | (have : hc = trivial := rfl; clear this; clear hc))))) | ((with_reducible refine r_is ?_); first | refine yr ?_ | (refine r_append_full SlF.h SlF.s ZoF.h zd rfl rfl zC zJ zS rfl (fun hn => ?_) (fun hn => ?_) <;> refine r_nn zN zH ?_)) | ((with_reducible refine d_is ?_); first | refine yd ?_) | fail)
        refine ih (i + 1) _ zo zo ?_
        (refine St.Le.clean zR zU zV)
      · have hi' : i = m := by omega
        subst hi'
        repeat' (first | refine yw ?_ | ((with_reducible refine Runs.is ?_); first | refine Runs.region (id := 13) ?_ | ((with_reducible refine Runs.isC ?_); refine Runs.cond rfl (zc ?_) (zc ?_) <;> intro hc <;> (try (first | contradiction | (exfalso; omega; done) | (have : hc = trivial := rfl; clear this; clear hc))))) | ((with_reducible refine r_is ?_); first | refine yr ?_) | fail)
        refine Runs.pinPtr 5 51 rfl zE rfl fun g5 => ?_
        refine Runs.pinPtr 2 50 rfl zE rfl fun g2 => ?_
        refine Runs.pinPtr 6 52 rfl zE rfl fun g6 => ?_
        dsimp only [List.set]
        repeat' (first | refine yw ?_ | ((with_reducible refine Runs.is ?_); first | refine Runs.region (id := 17) ?_ | ((with_reducible refine Runs.isC ?_); refine Runs.cond rfl (zc ?_) (zc ?_) <;> intro hc <;> (try (first | contradiction | (exfalso; omega; done) | (have : hc = trivial := rfl; clear this; clear hc))))) | ((with_reducible refine r_is ?_); first | refine yr ?_ | (refine r_append_full SlF.h SlF.s ZoF.h zd rfl rfl zC zJ zS rfl (fun hn => ?_) (fun hn => ?_) <;> refine r_nn zN zH ?_)) | fail)
        simp only [List.map_cons, List.map_nil, ev, List.getD_cons_succ, List.getD_cons_zero]
        have hlen : (ptrsN gL i).length = 2 * i := by simp [ptrsN]
        refine r_append_own SlF.h SlF.s ZoF.h zd rfl rfl rfl ⟨by intro v hv; simp only [List.mem_cons, List.not_mem_nil, or_false] at hv; rcases hv with rfl | rfl | rfl <;> rfl, by intro v hv; simp only [List.mem_cons, List.not_mem_nil, or_false] at hv; rcases hv with rfl | rfl | rfl <;> rfl⟩ ⟨by rw [hlen, List.length_cons, List.length_cons, List.length_cons, List.length_nil]; omega, by rw [hlen, List.length_cons, List.length_cons, List.length_cons, List.length_nil]; omega⟩ ?_
        refine r_nn zN zH ?_
        repeat' (first | refine yw ?_ | ((with_reducible refine Runs.is ?_); first | refine Runs.region (id := 17) ?_ | ((with_reducible refine Runs.isC ?_); refine Runs.cond rfl (zc ?_) (zc ?_) <;> intro hc <;> (try (first | contradiction | (exfalso; omega; done) | (have : hc = trivial := rfl; clear this; clear hc))))) | ((with_reducible refine r_is ?_); first | refine yr ?_ | (refine r_append_full SlF.h SlF.s ZoF.h zd rfl rfl zC zJ zS rfl (fun hn => ?_) (fun hn => ?_) <;> refine r_nn zN zH ?_)) | fail)
        rw [fldL_eq]
        (refine Runs.weaken (St.Le.freeze_lst 10 rfl) ?_; refine yf ?_)
        rw [fldL_len]
        generalize hq : readF b (2 * i + 3) a [] = q at hd
        refine Runs.loopI (α := List Int × Nat) (fun x => 2 * i + 3 - x.1.length) (fun x => x.1.length ≤ 2 * i + 3 ∧ x.2 ≤ b.length ∧ readF b (2 * i + 3 - x.1.length) x.2 x.1 = q)
          (fun x => ⟨[.any, .any, .sc (.pointer (some ⟨g2, 0, none⟩)), .i 0, .i 0, .sc (.pointer (some ⟨g5, 0, none⟩)), .sc (.pointer (some ⟨g6, 0, none⟩)), .sc x7, .any, .any, .any, .any, .any, .any, .any, .any, .any, .any, .any, .any, .any, .any, .any, .any, .any, .any, .any, .any, .any, .any, .any, .any, .any, .any, .any, .any, .any, .any, .any, .any, .any, .any, .any, .any, .any, .any, .any, .any, .any, .any, .any, .any, .any, .any, .any, .any, .any, .sl false (fldL gL g5 i), .i ((2 * i + 3 : Nat)), .i (x.1.length : Nat), .any, .any, .any, .any, .any, .any, .any, .any, .any, .any, .any, .any, .any, .any, .any, .any, .any, .any, .any], gH f b gL g5 g2 g6 i cL pL x7 x.1 x.2⟩) ([], a) ⟨Nat.zero_le _, by dsimp only; omega, hq⟩ ?_ ?_
        · (refine St.Le.clean zR zU zV)
        rintro ⟨ns, p⟩ ⟨hn1, hn2, hn3⟩ ih
        dsimp only at hn1 hn2 hn3 ih ⊢
        by_cases hlt : ns.length < 2 * i + 3
        · repeat' (first | refine yw ?_ | ((with_reducible refine Runs.is ?_); first | refine Runs.region (id := 18) ?_ | refine Runs.region (id := 19) ?_ | ((with_reducible refine Runs.isC ?_); refine Runs.cond rfl (zc ?_) (zc ?_) <;> intro hc <;> (try (first | contradiction | (exfalso; omega; done) | (have : hc = trivial := rfl; clear this; clear hc))))) | ((with_reducible refine r_is ?_); first | refine yr ?_) | fail)
          refine r_v rfl (v_indexAddr_slE (v := .sc (.pointer (some (fldP gL g5 i ns.length)))) SlF.h rfl rfl ⟨Int.natCast_nonneg _, by rw [fldL_len]; omega⟩ (by rw [Int.toNat_natCast]; exact fldL_get gL g5 i hlt) rfl ?_)
          refine r_n zN ?_
          repeat' (first | refine yw ?_ | ((with_reducible refine Runs.is ?_); first | refine Runs.region (id := 19) ?_ | refine Runs.region (id := 20) ?_ | ((with_reducible refine Runs.isC ?_); refine Runs.cond rfl (zc ?_) (zc ?_) <;> intro hc <;> (try (first | contradiction | (exfalso; omega; done) | (have : hc = trivial := rfl; clear this; clear hc))))) | ((with_reducible refine r_is ?_); first | refine yr ?_) | fail)
          obtain ⟨id, i1, fo, o, k1, k2, k3, k4, k5⟩ := fld_step f b (g2 := g2) (g6 := g6) (g5 := g5) (cL := cL) (x7 := x7) (a := p) hpL hlt
          have hfld : dataOr (.sl false (fldL gL g5 i)) = .sl false (fldL gL g5 i) := by
            unfold dataOr
            rw [if_pos (by show V.dataL (fldL gL g5 i) = true; exact dataL_map _ _ fun _ => rfl)]
          generalize hr2 : numE (b.drop p) = r2
          obtain ⟨v2, n2, e2⟩ := r2
          by_cases he2 : e2 = 0
          · subst he2
            have hb2 := numE_bd (b.drop p)
            rw [hr2, List.length_drop] at hb2
            dsimp only at hb2
            obtain ⟨n3, rfl⟩ : ∃ n3 : Nat, n2 = n3 := ⟨n2.toNat, by omega⟩
            refine r_hand (caps := [.ptr 1 0 0, .ptr 6 0 0]) (us := [.ptr id i1 fo]) (read_ok _ f b p id i1 fo o hB hn2 hb rfl rfl k1 k2 k3 hr2) HbF.h (Gh.gho 53 rfl) ⟨k4, trivial⟩ ?_
            rw [k5]
            refine r_n zN ?_
            rw [hfld]
            repeat' (first | refine yw ?_ | ((with_reducible refine Runs.is ?_); first | refine Runs.region (id := 20) ?_ | refine Runs.region (id := 21) ?_ | refine Runs.region (id := 22) ?_ | refine Runs.region (id := 23) ?_ | ((with_reducible refine Runs.isC ?_); refine Runs.cond rfl (zc ?_) (zc ?_) <;> intro hc <;> (try (first | contradiction | (exfalso; omega; done) | (have : hc = trivial := rfl; clear this; clear hc))))) | ((with_reducible refine r_is ?_); first | refine yr ?_) | fail)
            rw [show 2 * i + 3 - ns.length = (2 * i + 3 - (ns.length + 1)) + 1 by omega, readF, hr2, if_neg (fun h => h rfl)] at hn3
            dsimp only [Int.toNat_natCast] at hn3
            refine ih (ns ++ [v2], p + n3) _ ⟨by dsimp only; rw [List.length_append, List.length_singleton]; omega, by dsimp only; omega, by dsimp only; rw [List.length_append, List.length_singleton]; exact hn3⟩ (by dsimp only; rw [List.length_append, List.length_singleton]; omega) ?_
            dsimp only
            rw [List.length_append, List.length_singleton, Int.natCast_add]
            (refine St.Le.clean zR zU zV)
          · refine r_hand (caps := [.ptr 1 0 0, .ptr 6 0 0]) (us := [.ptr id i1 fo]) (read_no _ f b p id i1 fo o hB hn2 hb rfl rfl k1 k2 k3 hr2 he2) HbF.h (Gh.gho 53 rfl) ⟨k4, trivial⟩ ?_
            refine r_n zN ?_
            repeat' (first | refine yw ?_ | ((with_reducible refine Runs.is ?_); first | refine Runs.region (id := 20) ?_ | ((with_reducible refine Runs.isC ?_); refine Runs.cond rfl (zc ?_) (zc ?_) <;> intro hc <;> (try (first | contradiction | (exfalso; omega; done) | (have : hc = trivial := rfl; clear this; clear hc))))) | ((with_reducible refine r_is ?_); first | refine yr ?_) | fail)
            refine Runs.weaken (St.Le.unpin 2 50 rfl rfl zE) ?_
            dsimp only [List.set]
            repeat' (first | refine yw ?_ | ((with_reducible refine Runs.is ?_); first | refine Runs.region (id := 21) ?_ | refine Runs.region (id := 22) ?_ | ((with_reducible refine Runs.isC ?_); refine Runs.cond rfl (zc ?_) (zc ?_) <;> intro hc <;> (try (first | contradiction | (exfalso; omega; done) | (have : hc = trivial := rfl; clear this; clear hc))))) | ((with_reducible refine r_is ?_); first | refine yr ?_) | fail)
            rw [show 2 * i + 3 - ns.length = (2 * i + 3 - (ns.length + 1)) + 1 by omega, readF, hr2, if_pos he2] at hn3
            subst hn3
            rw [if_pos he2] at hd
            subst hd
            refine Runs.weaken (St.Le.leVar 2 0 (V.Le.nil false) rfl rfl) ?_
            exact Runs.retC3 (id := 2) rfl rfl rfl rfl TyF.h ⟨Nat.le_refl 4, by decide⟩ rfl rfl rfl rfl (V.Le.refl _)
        have hfin : ns.length = 2 * i + 3 := by omega
        rw [hfin, Nat.sub_self, readF] at hn3
        subst hn3
        rw [if_neg (fun h => h rfl)] at hd
        dsimp only at hd
        repeat' (first | refine yw ?_ | ((with_reducible refine Runs.is ?_); first | refine Runs.region (id := 18) ?_ | ((with_reducible refine Runs.isC ?_); refine Runs.cond rfl (zc ?_) (zc ?_) <;> intro hc <;> (try (first | contradiction | (exfalso; omega; done) | (have : hc = trivial := rfl; clear this; clear hc))))) | ((with_reducible refine r_is ?_); first | refine yr ?_) | fail)
        refine Runs.weaken (St.Le.unpin 2 50 rfl rfl zE) ?_
        refine Runs.weaken (St.Le.unpin 5 51 rfl rfl zE) ?_
        refine Runs.weaken (St.Le.unpin 6 52 rfl rfl zE) ?_
        refine Runs.weaken (St.Le.unpinVar 55 5 0 rfl rfl rfl) ?_
        dsimp only [List.set, go_sem]
        simp only [Nat.reduceEqDiff, ↓reduceIte]
        (refine Runs.weaken (St.Le.freeze_lst 27 rfl) ?_; refine yf ?_)
        have hG := member_Gen (genN i ns) (by rw [genN, memsN_len]; omega)
        generalize hge : genE (genN i ns) = ge at hd hG
        repeat' (first | refine yw ?_ | ((with_reducible refine Runs.is ?_); first | refine Runs.region (id := 24) ?_ | refine Runs.region (id := 25) ?_ | refine Runs.region (id := 26) ?_ | ((with_reducible refine Runs.isC ?_); refine Runs.cond rfl (zc ?_) (zc ?_) <;> intro hc <;> (try (first | contradiction | (exfalso; omega; done) | (have : hc = trivial := rfl; clear this; clear hc))))) | ((with_reducible refine r_is ?_); first | refine yr ?_ | (refine r_fn rfl (hG) HbF.h zL1 zD ?_; refine r_nn zN zH ?_)) | fail)
        · rw [if_pos (by assumption)] at hd
          subst hd
          refine Runs.weaken (St.Le.leVar 2 0 (V.Le.nil false) rfl rfl) ?_
          exact Runs.retC3 (id := 2) rfl rfl rfl rfl TyF.h ⟨Nat.le_refl 4, by decide⟩ rfl rfl rfl rfl (V.Le.refl _)
        rw [if_neg zo] at hd
        subst hd
        refine Runs.drawnF [(2, 2), (5, 5), (6, 6)] mixed zK ?_
        refine yd ?_
        refine And.intro (shows_of (by intro p hp; simp only [List.mem_cons, List.not_mem_nil, or_false] at hp; rcases hp with rfl | rfl | rfl <;> exact ⟨_, _, rfl⟩)) ?_
        refine Runs.retC3 (id := 2) rfl rfl rfl rfl TyF.h ⟨Nat.le_refl 4, by decide⟩ rfl rfl rfl ?_ (V.Le.refl _)
        show V.data (.tup [.agg [.sl false ((memsN i ns).map mbV), .i _, .i _, .i _], .i _, .i _]) = true
        simp only [V.data, V.dataL, dataL_map mbV (memsN i ns) fun _ => rfl, Bool.and_self]
  · rw [if_pos he] at hd
    subst hd
    refine r_hand (caps := [.ptr 1 0 0, .ptr 6 0 0]) (us := [.ptr 8 0 0]) (read_no _ f b 0 8 0 0 (.var 3 (.i 0)) hB (Nat.zero_le _) hb rfl rfl rfl zd ⟨Nat.one_pos, Nat.le_refl 1⟩ hd0 he) HbF.h (Gh.gho 53 rfl) ⟨Gh.gho 54 rfl, trivial⟩ ?_
    refine r_n zN ?_
    repeat' (first | refine yw ?_ | ((with_reducible refine Runs.is ?_); first | refine Runs.region (id := 5) ?_ | ((with_reducible refine Runs.isC ?_); refine Runs.cond rfl (zc ?_) (zc ?_) <;> intro hc <;> (try (first | contradiction | (exfalso; omega; done) | (have : hc = trivial := rfl; clear this; clear hc))))) | ((with_reducible refine r_is ?_); first | refine yr ?_) | fail)
    refine Runs.weaken (St.Le.unpin 2 50 rfl rfl zE) ?_
    dsimp only [List.set]
    repeat' (first | refine yw ?_ | ((with_reducible refine Runs.is ?_); first | refine Runs.region (id := 6) ?_ | refine Runs.region (id := 7) ?_ | ((with_reducible refine Runs.isC ?_); refine Runs.cond rfl (zc ?_) (zc ?_) <;> intro hc <;> (try (first | contradiction | (exfalso; omega; done) | (have : hc = trivial := rfl; clear this; clear hc))))) | ((with_reducible refine r_is ?_); first | refine yr ?_) | fail)
    refine Runs.weaken (St.Le.leVar 2 0 (V.Le.nil false) rfl rfl) ?_
    exact Runs.retC3 (id := 2) rfl rfl rfl rfl TyF.h ⟨Nat.le_refl 4, by decide⟩ rfl rfl rfl rfl (V.Le.refl _)
end Go.Proofs
namespace Go.Proofs
open Go.AM
attribute [local irreducible] AM.evalR AM.evalD AM.Runs AM.valK AM.dK AM.opK AM.stepR AM.CallS AM.St.Le
abbrev tU8 : Nat := 5
def encF : Nat → Int → List Int
  | 0, v => [v]
  | n + 1, v => if 128 ≤ v then (v % 128 + 128) :: encF n (v / 128) else [v]
def encU (v : Int) : List Int := encF 9 v
theorem encF_pos : ∀ (n : Nat) (v : Int), 0 < (encF n v).length
  | 0, _ => Nat.one_pos
  | n + 1, v => by rw [encF]; split <;> simp
theorem encF_len : ∀ (n : Nat) (v : Int), (encF n v).length ≤ n + 1
  | 0, _ => Nat.le_refl _
  | n + 1, v => by
    rw [encF]; split
    · have := encF_len n (v / 128); rw [List.length_cons]; omega
    · simp
theorem wire_AppendUint (f : Bool) (b : List Int) (v : Int) (hv : 0 ≤ v ∧ v < 18446744073709551616) (hb : b.length ≤ 1099511627776) : AM.Fn Try.prog 78 [.sl f (b.map u8), u64 v] (byV (b ++ encU v)) := by
  have hgo : ∀ r, encU v = r → AM.Fn Try.prog 78 [.sl f (b.map u8), u64 v] (byV (b ++ r)) := by
    intro r hr
    unfold encU at hr
    (refine spec_of_runs Try.func78 rfl ?_; simp only [Try.f78]; refine ys ?_)
    repeat' (first | refine yw ?_ | ((with_reducible refine Runs.is ?_); first | refine Runs.region (id := 0) ?_ | refine Runs.region (id := 1) ?_ | ((with_reducible refine Runs.isC ?_); refine Runs.cond rfl (zc ?_) (zc ?_) <;> intro hc <;> (try (first | contradiction | (exfalso; omega; done) | (have : hc = trivial := rfl; clear this; clear hc))))) | ((with_reducible refine r_is ?_); first | refine yr ?_) | fail)
    (refine Runs.weaken (St.Le.nil 5 5 1 5 zd rfl rfl zE) ?_)
    refine Runs.loopI (α := Int × List Int) (fun a => a.1.toNat) (fun a => (0 ≤ a.1 ∧ a.1 < 18446744073709551616) ∧ a.2.length ≤ 9 ∧ a.1 < 128 * 128 ^ (9 - a.2.length) ∧ a.2 ++ encF (9 - a.2.length) a.1 = r)
      (fun a => ⟨[.sl f (b.map u8), u64 a.1, .any, .any, .any, .own 5, .any, .any, .any, .any, .any, .any, .any, .any, .any, .any, .any, .any, .any, .any, .any, .any, .any, .any, .any, .any, .any, .any, .any], [(5, .lst tU8 1 (a.2.map u8))]⟩) (v, []) ⟨hv, Nat.zero_le _, by dsimp only [List.length_nil]; omega, hr⟩ ?_ ?_
    · (refine St.Le.clean zR zU zV)
    rintro ⟨w, acc⟩ ⟨h0, h1, h2, h3⟩ ih
    dsimp only at h0 h1 h2 h3 ih ⊢
    by_cases hc8 : 128 ≤ w
    · repeat' (first | refine yw ?_ | ((with_reducible refine Runs.is ?_); first | refine Runs.region (id := 2) ?_ | refine Runs.region (id := 3) ?_ | refine Runs.region (id := 4) ?_ | ((with_reducible refine Runs.isC ?_); refine Runs.cond rfl (zc ?_) (zc ?_) <;> intro hc <;> (try (first | contradiction | (exfalso; omega; done) | (have : hc = trivial := rfl; clear this; clear hc))))) | ((with_reducible refine r_is ?_); first | refine yr ?_ | (refine r_append_full SlF.h SlF.s ZoF.h zd rfl rfl zC zJ zS rfl (fun hn => ?_) (fun hn => ?_) <;> refine r_nn zN zH ?_)) | fail)
      simp only [List.map_cons, List.map_nil, ev, List.getD_cons_succ, List.getD_cons_zero]
      have e1 : w.fdiv (2 ^ min 7 64) = w / 128 := Int.fdiv_eq_ediv_of_nonneg w zd
      have e2 : orZ IntKind.u8 (IntKind.u8.wrap w) 128 = w % 128 + 128 := by
        rw [wrap8_mod, or8 zo]; omega
      rw [e1, e2]
      obtain ⟨n, hn⟩ : ∃ n, 9 - acc.length = n + 1 := by
        rcases Nat.lt_or_ge acc.length 9 with q | q
        · exact ⟨8 - acc.length, by omega⟩
        · rw [show 9 - acc.length = 0 by omega] at h2; omega
      rw [hn, encF, if_pos hc8] at h3
      rw [hn, Int.pow_succ] at h2
      refine ih (w / 128, acc ++ [w % 128 + 128]) _ ⟨by dsimp only; omega, by dsimp only; rw [List.length_append, List.length_singleton]; omega, by dsimp only; rw [List.length_append, List.length_singleton, show 9 - (acc.length + 1) = n by omega]; omega, by dsimp only; rw [List.length_append, List.length_singleton, show 9 - (acc.length + 1) = n by omega, List.append_assoc]; exact h3⟩ (by dsimp only; omega) ?_
      (refine St.Le.clean zR (by first | (simp [V.usesL, V.uses, AM.look_cons]; done) | (simp [V.usesL, V.uses, AM.look_cons, V.usesL_data, V.uses_data, da_i, da_chV, da_ruV, da_prV, da_enV, da_cfV, da_veV, da_inV, da_edV, da_grV, da_weV, da_mbV, da_suV, da_viV]; done)) ?_; (repeat' (first | exact True.intro | refine And.intro ?_ ?_)); all_goals (first | rfl | (simp [AM.look_cons, List.map_append]; done) | (simp [V.uses, V.usesL, AM.look_cons, V.usesL_data, V.uses_data, da_i, da_chV, da_ruV, da_prV, da_enV, da_cfV, da_veV, da_inV, da_edV, da_grV, da_weV, da_mbV, da_suV, da_viV]; done)))
    · repeat' (first | refine yw ?_ | ((with_reducible refine Runs.is ?_); first | refine Runs.region (id := 2) ?_ | refine Runs.region (id := 3) ?_ | refine Runs.region (id := 4) ?_ | refine Runs.region (id := 5) ?_ | ((with_reducible refine Runs.isC ?_); refine Runs.cond rfl (zc ?_) (zc ?_) <;> intro hc <;> (try (first | contradiction | (exfalso; omega; done) | (have : hc = trivial := rfl; clear this; clear hc))))) | ((with_reducible refine r_is ?_); first | refine yr ?_ | (refine r_append_full SlF.h SlF.s ZoF.h zd rfl rfl zC zJ zS rfl (fun hn => ?_) (fun hn => ?_) <;> refine r_nn zN zH ?_)) | fail)
      simp only [List.map_cons, List.map_nil, ev, List.getD_cons_succ, List.getD_cons_zero]
      have e2 : IntKind.u8.wrap w = w := by rw [wrap8_mod]; omega
      rw [e2]
      have h4 : acc ++ [w] = r := by
        rw [← h3]
        cases 9 - acc.length with
        | zero => rfl
        | succ n => rw [encF, if_neg hc8]
      rw [show acc.map u8 ++ [u8 w] = (acc ++ [w]).map u8 by rw [List.map_append]; rfl, h4]
      (refine Runs.weaken (St.Le.freeze_lst 5 rfl) ?_; refine yf ?_)
      repeat' (first | refine yw ?_ | ((with_reducible refine Runs.is ?_); first | refine Runs.region (id := 6) ?_ | ((with_reducible refine Runs.isC ?_); refine Runs.cond rfl (zc ?_) (zc ?_) <;> intro hc <;> (try (first | contradiction | (exfalso; omega; done) | (have : hc = trivial := rfl; clear this; clear hc))))) | ((with_reducible refine r_is ?_); first | refine yr ?_ | (refine r_append_full SlF.h SlF.s ZoF.h zd rfl rfl zC zJ zS rfl (fun hn => ?_) (fun hn => ?_) <;> refine r_nn zN zH ?_)) | fail)
      have hrl : r.length = acc.length + 1 := by rw [← h4, List.length_append, List.length_singleton]
      refine r_append_full SlF.h SlF.s ZoF.h zd rfl rfl ⟨st_u8 _, sd_u8 _⟩ (sd_u8 _) ⟨by rw [List.length_map, List.length_map]; omega, by rw [List.length_map, List.length_map]; omega⟩ rfl (fun e => absurd (congrArg List.length e) (by rw [List.length_map, hrl]; exact Nat.succ_ne_zero _)) (fun _ => ?_)
      refine r_n zN ?_
      rw [← List.map_append]
      repeat' (first | refine yw ?_ | ((with_reducible refine Runs.is ?_); first | refine Runs.region (id := 6) ?_ | ((with_reducible refine Runs.isC ?_); refine Runs.cond rfl (zc ?_) (zc ?_) <;> intro hc <;> (try (first | contradiction | (exfalso; omega; done) | (have : hc = trivial := rfl; clear this; clear hc))))) | ((with_reducible refine r_is ?_); first | refine yr ?_ | (refine r_append_full SlF.h SlF.s ZoF.h zd rfl rfl zC zJ zS rfl (fun hn => ?_) (fun hn => ?_) <;> refine r_nn zN zH ?_)) | fail)
      (refine Runs.weaken (St.Le.freeze_lst 28 rfl) ?_; refine yf ?_)
      (refine Runs.ret1 Try.func78 rfl zM zD ?_; try exact zX)
  exact hgo _ rfl
end Go.Proofs
namespace Go.Proofs
open Go.AM
attribute [local irreducible] AM.evalR AM.evalD AM.Runs AM.valK AM.dK AM.opK AM.stepR AM.CallS AM.St.Le
abbrev tInt : Nat := 3
abbrev tGen : Nat := 26
def numsP (ms : List Member) (i : Nat) : List Int := (ms.length : Int) :: (ms.take i).flatMap fun x => [x.server, x.weight]
def numsG (g : View) : List Int := numsP g.members g.members.length ++ [g.rule.kind, g.rule.columns, g.rule.faulty]
def encL (l : List Int) : List Int := l.flatMap fun n => encU (n % 18446744073709551616)
theorem numsP_succ {ms : List Member} {i : Nat} (h : i < ms.length) : numsP ms i ++ [(ms.getD i default).server, (ms.getD i default).weight] = numsP ms (i + 1) := by
  unfold numsP
  rw [List.take_add_one, List.flatMap_append, List.getD_eq_getElem?_getD, List.getElem?_eq_getElem h]
  simp
theorem flat2_len (l : List Member) : (l.flatMap fun x => [x.server, x.weight]).length = 2 * l.length := by
  induction l with
  | nil => rfl
  | cons a l ih => rw [List.flatMap_cons, List.length_append, ih, List.length_cons]; simp; omega
theorem numsP_len (ms : List Member) (i : Nat) (h : i ≤ ms.length) : (numsP ms i).length = 2 * i + 1 := by
  unfold numsP
  rw [List.length_cons, flat2_len, List.length_take]; omega
theorem encL_len (l : List Int) : (encL l).length ≤ 10 * l.length := by
  induction l with
  | nil => exact Nat.le_refl _
  | cons a l ih =>
    unfold encL at ih ⊢
    rw [List.flatMap_cons, List.length_append, List.length_cons]
    have := encF_len 9 (a % 18446744073709551616)
    dsimp only [encU] at ih ⊢
    omega
theorem encL_succ {l : List Int} {i : Nat} (h : i < l.length) : encL (l.take i) ++ encU (l.getD i default % 18446744073709551616) = encL (l.take (i + 1)) := by
  unfold encL
  rw [List.take_add_one, List.flatMap_append, List.getD_eq_getElem?_getD, List.getElem?_eq_getElem h]
  simp
theorem member_AppendGenesis (f : Bool) (b : List Int) (g : View) (hb : b.length ≤ 1000000000) (hm : g.members.length ≤ 1000000000) : AM.Fn Try.prog 41 [.sl f (b.map u8), viV g] (byV (b ++ encL (numsG g))) := by
  obtain ⟨ms, ru⟩ := g
  dsimp only at hm
  (refine spec_of_runs Try.func41 rfl ?_; simp only [Try.f41]; refine ys ?_)
  repeat' (first | refine yw ?_ | ((with_reducible refine Runs.is ?_); first | refine Runs.region (id := 0) ?_ | ((with_reducible refine Runs.isC ?_); refine Runs.cond rfl (zc ?_) (zc ?_) <;> intro hc <;> (try (first | contradiction | (exfalso; omega; done) | (have : hc = trivial := rfl; clear this; clear hc))))) | ((with_reducible refine r_is ?_); first | refine yr ?_) | fail)
  refine Runs.region (id := 1) ?_
  refine r_v rfl (v_fieldAddr_ptr FlF.h rfl ?_); refine r_n zN ?_
  refine r_v rfl (v_load_part TyF.h rfl rfl zE zd ?_); refine r_n zN ?_
  refine r_v rfl (v_len_map SlF.s rfl ?_); refine r_n zN ?_
  refine r_buildOwn SlF.h ZoF.h zd zB zd rfl ?_; refine r_n zN ?_
  repeat' (first | refine yw ?_ | ((with_reducible refine Runs.is ?_); first | refine Runs.region (id := 1) ?_ | refine Runs.region (id := 2) ?_ | ((with_reducible refine Runs.isC ?_); refine Runs.cond rfl (zc ?_) (zc ?_) <;> intro hc <;> (try (first | contradiction | (exfalso; omega; done) | (have : hc = trivial := rfl; clear this; clear hc))))) | ((with_reducible refine r_is ?_); first | refine yr ?_) | fail)
  refine Runs.loopI (fun i : Nat => ms.length - i) (fun i => i ≤ ms.length)
    (fun i => ⟨[.sl f (b.map u8), .any, .any, .ptr 3 0 0, .any, .own 14, .any, .any, .any, .any, .any, .any, .any, .any, .any, .any, .sl false (ms.map mbV), .i (ms.length : Nat), .i (i : Nat), .any, .any, .any, .any, .any, .any, .any, .any, .any, .any, .any, .any, .any, .any, .any, .any, .any, .any, .any, .any, .any, .any, .any, .any, .any, .any, .any, .any, .any, .any, .any, .any, .any, .any, .any, .any, .any, .any, .any, .any, .any], [(14, .lst tInt 1 ((numsP ms i).map .i)), (3, .var tGen (viV ⟨ms, ru⟩))]⟩) 0 (Nat.zero_le _) ?_ ?_
  · (refine St.Le.clean zR zU zV)
  · intro i hi ih
    dsimp only at hi ih ⊢
    by_cases hlt : i < ms.length
    · have hlen := numsP_len ms i hi
      repeat' (first | refine yw ?_ | ((with_reducible refine Runs.is ?_); first | refine Runs.region (id := 3) ?_ | refine Runs.region (id := 4) ?_ | ((with_reducible refine Runs.isC ?_); refine Runs.cond rfl (zc ?_) (zc ?_) <;> intro hc <;> (try (first | contradiction | (exfalso; omega; done) | (have : hc = trivial := rfl; clear this; clear hc))))) | ((with_reducible refine r_is ?_); first | refine yr ?_) | fail)
      repeat' (first | refine yw ?_ | ((with_reducible refine Runs.is ?_); first | refine Runs.region (id := 5) ?_ | ((with_reducible refine Runs.isC ?_); refine Runs.cond rfl (zc ?_) (zc ?_) <;> intro hc <;> (try (first | contradiction | (exfalso; omega; done) | (have : hc = trivial := rfl; clear this; clear hc))))) | ((with_reducible refine r_is ?_); first | refine yr ?_ | (refine r_append_full SlF.h SlF.s ZoF.h zd rfl rfl zC zJ zS rfl (fun hn => ?_) (fun hn => ?_) <;> refine r_nn zN zH ?_)) | fail)
      simp only [List.map_cons, List.map_nil, ev, List.getD_cons_succ, List.getD_cons_zero]
      rw [show (numsP ms i).map V.i ++ [V.i (ms.getD i default).server, V.i (ms.getD i default).weight] = (numsP ms (i + 1)).map V.i by rw [← numsP_succ hlt, List.map_append]; rfl]
      repeat' (first | refine yw ?_ | ((with_reducible refine Runs.is ?_); first | refine Runs.region (id := 6) ?_ | ((with_reducible refine Runs.isC ?_); refine Runs.cond rfl (zc ?_) (zc ?_) <;> intro hc <;> (try (first | contradiction | (exfalso; omega; done) | (have : hc = trivial := rfl; clear this; clear hc))))) | ((with_reducible refine r_is ?_); first | refine yr ?_) | fail)
      refine ih (i + 1) _ zo zo ?_
      (refine St.Le.clean zR zU zV)
    · have hi' : i = ms.length := by omega
      subst hi'
      have hlen := numsP_len ms ms.length (Nat.le_refl _)
      repeat' (first | refine yw ?_ | ((with_reducible refine Runs.is ?_); first | refine Runs.region (id := 3) ?_ | ((with_reducible refine Runs.isC ?_); refine Runs.cond rfl (zc ?_) (zc ?_) <;> intro hc <;> (try (first | contradiction | (exfalso; omega; done) | (have : hc = trivial := rfl; clear this; clear hc))))) | ((with_reducible refine r_is ?_); first | refine yr ?_) | fail)
      repeat' (first | refine yw ?_ | ((with_reducible refine Runs.is ?_); first | refine Runs.region (id := 7) ?_ | refine Runs.region (id := 8) ?_ | ((with_reducible refine Runs.isC ?_); refine Runs.cond rfl (zc ?_) (zc ?_) <;> intro hc <;> (try (first | contradiction | (exfalso; omega; done) | (have : hc = trivial := rfl; clear this; clear hc))))) | ((with_reducible refine r_is ?_); first | refine yr ?_ | (refine r_append_full SlF.h SlF.s ZoF.h zd rfl rfl zC zJ zS rfl (fun hn => ?_) (fun hn => ?_) <;> refine r_nn zN zH ?_)) | fail)
      simp only [List.map_cons, List.map_nil, ev, List.getD_cons_succ, List.getD_cons_zero]
      rw [show (numsP ms ms.length).map V.i ++ [V.i ru.kind, V.i ru.columns, V.i ru.faulty] = (numsG ⟨ms, ru⟩).map V.i by unfold numsG; rw [List.map_append]; rfl]
      have hgl : (numsG ⟨ms, ru⟩).length = 2 * ms.length + 4 := by unfold numsG; rw [List.length_append, hlen]; rfl
      generalize numsG ⟨ms, ru⟩ = l at hgl ⊢
      (refine Runs.weaken (St.Le.freeze_lst 14 rfl) ?_; refine yf ?_)
      rw [List.length_map]
      refine Runs.loopI (fun i : Nat => l.length - i) (fun i => i ≤ l.length)
        (fun i => ⟨[.sl f (b.map u8), .any, .any, .any, .any, .any, .any, .any, .sl false ((encL (l.take i)).map u8), .any, .any, .any, .any, .any, .any, .any, .any, .any, .any, .any, .any, .any, .any, .any, .any, .any, .any, .any, .any, .any, .any, .any, .any, .any, .any, .any, .any, .any, .any, .any, .any, .sl false (l.map .i), .i (l.length : Nat), .i (i : Nat), .any, .any, .any, .any, .any, .any, .any, .any, .any, .any, .any, .any, .any, .any, .any, .any], []⟩) 0 (Nat.zero_le _) ?_ ?_
      · (refine St.Le.clean zR zU zV)
      intro i hi2 ih
      dsimp only at hi2 ih ⊢
      by_cases hlt2 : i < l.length
      · have hel := encL_len (l.take i)
        rw [List.length_take] at hel
        have hA := wire_AppendUint false (encL (l.take i)) (IntKind.u64.wrap (l.getD i default)) (by rw [wrap64_mod]; omega) zo
        have hS : encL (l.take i) ++ encU (IntKind.u64.wrap (l.getD i default)) = encL (l.take (i + 1)) := by rw [wrap64_mod]; exact encL_succ hlt2
        rw [hS] at hA
        repeat' (first | refine yw ?_ | ((with_reducible refine Runs.is ?_); first | refine Runs.region (id := 9) ?_ | refine Runs.region (id := 10) ?_ | refine Runs.region (id := 11) ?_ | refine Runs.region (id := 12) ?_ | ((with_reducible refine Runs.isC ?_); refine Runs.cond rfl (zc ?_) (zc ?_) <;> intro hc <;> (try (first | contradiction | (exfalso; omega; done) | (have : hc = trivial := rfl; clear this; clear hc))))) | ((with_reducible refine r_is ?_); first | refine yr ?_ | (refine r_fn rfl (hA) HbF.h zL2 zD ?_; refine r_nn zN zH ?_)) | fail)
        refine ih (i + 1) _ zo zo ?_
        (refine St.Le.clean zR zU zV)
      · have hi3 : i = l.length := by omega
        subst hi3
        have hel := encL_len l
        have hpos : 0 < (encL l).length := by
          cases l with
          | nil => rw [List.length_nil] at hgl; omega
          | cons x l =>
            unfold encL
            rw [List.flatMap_cons, List.length_append]
            have := encF_pos 9 (x % 18446744073709551616)
            dsimp only [encU]
            omega
        rw [List.take_length]
        repeat' (first | refine yw ?_ | ((with_reducible refine Runs.is ?_); first | refine Runs.region (id := 9) ?_ | ((with_reducible refine Runs.isC ?_); refine Runs.cond rfl (zc ?_) (zc ?_) <;> intro hc <;> (try (first | contradiction | (exfalso; omega; done) | (have : hc = trivial := rfl; clear this; clear hc))))) | ((with_reducible refine r_is ?_); first | refine yr ?_) | fail)
        repeat' (first | refine yw ?_ | ((with_reducible refine Runs.is ?_); first | refine Runs.region (id := 13) ?_ | ((with_reducible refine Runs.isC ?_); refine Runs.cond rfl (zc ?_) (zc ?_) <;> intro hc <;> (try (first | contradiction | (exfalso; omega; done) | (have : hc = trivial := rfl; clear this; clear hc))))) | ((with_reducible refine r_is ?_); first | refine yr ?_ | (refine r_append_full SlF.h SlF.s ZoF.h zd rfl rfl zC zJ zS rfl (fun hn => ?_) (fun hn => ?_) <;> refine r_nn zN zH ?_)) | fail)
        · have := congrArg List.length hn
          rw [List.length_map, List.length_nil] at this
          omega
        rw [← List.map_append]
        (refine Runs.weaken (St.Le.freeze_lst 59 rfl) ?_; refine yf ?_)
        (refine Runs.ret1 Try.func41 rfl zM zD ?_; try exact zX)
end Go.Proofs
