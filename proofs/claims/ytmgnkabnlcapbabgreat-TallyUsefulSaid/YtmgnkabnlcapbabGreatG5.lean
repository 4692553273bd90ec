/- Contracts of functions and plain laws: W114, W115, W116, W117, W118, W119, W120, W72, W121, W123, W124, W128. -/
import Derived.Test.YtmgnkabnlcapbabGreatMi
import Derived.Test.YtmgnkabnlcapbabGreatG4
set_option linter.unusedVariables false
set_option linter.unusedSimpArgs false
set_option maxRecDepth 8000
set_option maxHeartbeats 4000000
set_option pp.deepTerms false
set_option pp.deepTerms.threshold 10
namespace Go.Proofs
open Go.AM
attribute [local irreducible] AM.evalR AM.evalD AM.Runs AM.valK AM.dK AM.opK AM.stepR AM.CallS AM.St.Le
theorem any_contains (l : List Int) (x : Int) : (l.any fun y => decide (y = x)) = l.contains x := by
  rw [Bool.eq_iff_iff, List.any_eq_true, List.contains_iff_mem]
  constructor
  · rintro ⟨y, hy, e⟩; rw [← of_decide_eq_true e]; exact hy
  · intro h; exact ⟨x, h, decide_eq_true rfl⟩
theorem ref_In2 (f : Bool) (l : List Int) (n : Int) : AM.Fn Tryz.prog 28 [.sl f (l.map .i), .i n] (.b (l.contains n)) := by
  rw [← any_contains]; exact ref_In f l n
theorem map_getD {α β : Type} [Inhabited α] [Inhabited β] (p : α → β) {l : List α} {i : Nat} (h : i < l.length) : (l.map p).getD i default = p (l.getD i default) := by
  rw [List.getD_eq_getElem?_getD, List.getElem?_map, List.getElem?_eq_getElem h, List.getD_eq_getElem?_getD, List.getElem?_eq_getElem h]; rfl
theorem range_all {K : Nat} {q : Nat → Bool} {k : Nat} (hk : k < K) (h : q k = false) : (List.range K).all q = false := by
  cases hx : (List.range K).all q
  · rfl
  · rw [List.all_eq_true.1 hx k (List.mem_range.2 hk)] at h; cases h
theorem ref_grid (f : Bool) (v : View) (ss : List Int) (hm : v.members.length ≤ 1000) (hc : 1 ≤ v.rule.columns ∧ v.rule.columns ≤ 1000) : AM.Fn Tryz.prog 29 [viV v, .sl f (ss.map .i)] (.b (gridB v.rule.columns (v.members.map (inSrv ss)))) := by
  have hgo : ∀ e, gridB v.rule.columns (v.members.map (inSrv ss)) = e → AM.Fn Tryz.prog 29 [viV v, .sl f (ss.map .i)] (.b e) := by
    intro e he
    obtain ⟨ms, ⟨rk, co, fa⟩⟩ := v
    dsimp only at he hm hc
    obtain ⟨c, rfl⟩ : ∃ c : Nat, co = (c : Int) := ⟨co.toNat, by omega⟩
    unfold gridB at he
    rw [if_neg zo, Int.toNat_natCast] at he
    have hbl : (ms.map (inSrv ss)).length = ms.length := List.length_map _
    have hbg := fun i (h : i < ms.length) => map_getD (inSrv ss) h
    generalize ms.map (inSrv ss) = bs at *
    rw [hbl] at he
    have hK := fun k => gK_lt (c := c) (len := ms.length) (k := k) zo
    generalize gK c ms.length = K at *
    (refine spec_of_runs Tryz.func29 rfl ?_; simp only [Tryz.f29]; refine ys ?_)
    repeat' (first | refine yw ?_ | ((with_reducible refine Runs.is ?_); first | refine Runs.region (id := 0) ?_ | refine Runs.region (id := 1) ?_ | refine Runs.region (id := 2) ?_ | ((with_reducible refine Runs.isC ?_); refine Runs.cond rfl (zc ?_) (zc ?_) <;> intro hc <;> (try (first | contradiction | (exfalso; omega; done) | (have : hc = trivial := rfl; clear this; clear hc))))) | ((with_reducible refine r_is ?_); first | refine yr ?_) | fail)
    refine Runs.loopI (fun k : Nat => K + 1 - k) (fun k => k ≤ K ∧ ∀ j, j < k → someB c bs j = true)
      (fun k => ⟨[.any, .sl f (ss.map .i), .ptr 2 0 0, .any, .any, .b ((List.range k).any (fullB c bs)), .i ((k * c : Nat) : Int), .any, .any, .any, .any, .any, .any, .any, .any, .any, .any, .any, .any, .any, .any, .any, .any, .any, .any, .any, .any, .any, .any, .any, .any, .any, .any, .any, .any, .any, .any, .any, .any, .any, .any, .any, .any, .any, .any, .any, .any, .any, .any, .any, .any, .any, .any, .any, .any, .any], [(2, .var 42 (viV ⟨ms, ⟨rk, (c : Nat), fa⟩⟩))]⟩) 0 ⟨Nat.zero_le _, fun j h => by omega⟩ ?_ ?_
    · rw [Nat.zero_mul]
      (refine St.Le.clean zR zU zV)
    rintro k ⟨hk, hall⟩ ih
    have e3 : (k + 1) * c = k * c + c := Nat.succ_mul k c
    have hkk := hK k
    have hr1 : (List.range (k + 1)).any (fullB c bs) = ((List.range k).any (fullB c bs) || fullB c bs k) := by rw [List.range_succ]; simp
    have hfull : fullB c bs k = decide (cntB (gRow c bs k) = min c (ms.length - k * c)) := by unfold fullB; rw [gRow_len, hbl]
    have hsome : someB c bs k = decide (cntB (gRow c bs k) ≠ 0) := rfl
    have hrow : gRow c bs k = (bs.drop (k * c)).take c := rfl
    by_cases hlt : k * c < ms.length
    · have hkK := hkk.2 hlt
      generalize (List.range k).any (fullB c bs) = wb at *
      generalize k * c = a at *
      repeat' (first | refine yw ?_ | ((with_reducible refine Runs.is ?_); first | refine Runs.region (id := 3) ?_ | ((with_reducible refine Runs.isC ?_); refine Runs.cond rfl (zc ?_) (zc ?_) <;> intro hc <;> (try (first | contradiction | (exfalso; omega; done) | (have : hc = trivial := rfl; clear this; clear hc))))) | ((with_reducible refine r_is ?_); first | refine yr ?_) | fail)
      repeat' (first | refine yw ?_ | ((with_reducible refine Runs.is ?_); first | refine Runs.region (id := 5) ?_ | refine Runs.region (id := 6) ?_ | refine Runs.region (id := 7) ?_ | ((with_reducible refine Runs.isC ?_); refine Runs.cond rfl (zc ?_) (zc ?_) <;> intro hc <;> (try (first | contradiction | (exfalso; omega; done) | (have : hc = trivial := rfl; clear this; clear hc))))) | ((with_reducible refine r_is ?_); first | refine yr ?_) | fail)
      rw [show (if ((ms.length : Nat) : Int) < (a : Int) + (c : Int) then ((ms.length : Nat) : Int) else (a : Int) + (c : Int)) = ((a + min c (ms.length - a) : Nat) : Int) by split <;> omega]
      refine Runs.loopI (fun j : Nat => min c (ms.length - a) - j) (fun j => j ≤ min c (ms.length - a))
        (fun j => ⟨[.any, .sl f (ss.map .i), .ptr 2 0 0, .any, .any, .b wb, .i (a : Nat), .i (cntB ((bs.drop a).take j) : Nat), .i ((a + min c (ms.length - a) : Nat) : Int), .i ((a + j : Nat) : Int), .any, .any, .any, .any, .any, .any, .any, .any, .any, .any, .any, .any, .any, .any, .any, .any, .any, .any, .any, .any, .any, .any, .any, .any, .any, .any, .any, .any, .any, .any, .any, .any, .any, .any, .any, .any, .any, .any, .any, .any, .any, .any, .any, .any, .any, .any], [(2, .var 42 (viV ⟨ms, ⟨rk, (c : Nat), fa⟩⟩))]⟩) 0 (Nat.zero_le _) ?_ ?_
      · (refine St.Le.clean zR zU zV)
      intro j hj ihj
      have hcl : cntB ((bs.drop a).take j) ≤ j := Nat.le_trans (cntB_le _) (by rw [List.length_take]; omega)
      have hst : j < min c (ms.length - a) → cntB ((bs.drop a).take (j + 1)) = cntB ((bs.drop a).take j) + (if inSrv ss (ms.getD (a + j) default) = true then 1 else 0) := fun h => by
        rw [cntB_take (by rw [List.length_drop]; omega), ← hbg (a + j) zo]
        congr 2
        rw [List.getD_eq_getElem?_getD, List.getD_eq_getElem?_getD, List.getElem?_drop]
      have hfin : j = min c (ms.length - a) → cntB ((bs.drop a).take j) = cntB (gRow c bs k) := fun h => by
        rw [hrow, h]
        congr 1
        rw [List.take_eq_take_iff, List.length_drop, hbl]; omega
      generalize cntB ((bs.drop a).take j) = n at *
      by_cases hjt : j < min c (ms.length - a)
      · have hst2 := hst hjt
        have hI := ref_In2 f ss (ms.getD (a + j) default).server
        change AM.Fn _ _ _ (.b (inSrv ss (ms.getD (a + j) default))) at hI
        cases hb : inSrv ss (ms.getD (a + j) default)
        · rw [hb] at hI hst2
          rw [if_neg zd] at hst2
          repeat' (first | refine yw ?_ | ((with_reducible refine Runs.is ?_); first | refine Runs.region (id := 8) ?_ | refine Runs.region (id := 10) ?_ | refine Runs.region (id := 11) ?_ | refine Runs.region (id := 9) ?_ | ((with_reducible refine Runs.isC ?_); refine Runs.cond rfl (zc ?_) (zc ?_) <;> intro hc <;> (try (first | contradiction | (exfalso; omega; done) | (have : hc = trivial := rfl; clear this; clear hc))))) | ((with_reducible refine r_is ?_); first | refine yr ?_ | (refine r_fn rfl (hI) HbF.h zL2 zD ?_; refine r_nn zN zH ?_)) | fail)
          refine ihj (j + 1) _ zo zo ?_
          rw [hst2]
          (refine St.Le.clean zR zU zV)
        · rw [hb] at hI hst2
          rw [if_pos rfl] at hst2
          repeat' (first | refine yw ?_ | ((with_reducible refine Runs.is ?_); first | refine Runs.region (id := 8) ?_ | refine Runs.region (id := 10) ?_ | refine Runs.region (id := 11) ?_ | refine Runs.region (id := 9) ?_ | ((with_reducible refine Runs.isC ?_); refine Runs.cond rfl (zc ?_) (zc ?_) <;> intro hc <;> (try (first | contradiction | (exfalso; omega; done) | (have : hc = trivial := rfl; clear this; clear hc))))) | ((with_reducible refine r_is ?_); first | refine yr ?_ | (refine r_fn rfl (hI) HbF.h zL2 zD ?_; refine r_nn zN zH ?_)) | fail)
          refine ihj (j + 1) _ zo zo ?_
          rw [hst2]
          (refine St.Le.clean zR zU zV)
      · have hn := hfin zo
        subst hn
        repeat' (first | refine yw ?_ | ((with_reducible refine Runs.is ?_); first | refine Runs.region (id := 8) ?_ | ((with_reducible refine Runs.isC ?_); refine Runs.cond rfl (zc ?_) (zc ?_) <;> intro hc <;> (try (first | contradiction | (exfalso; omega; done) | (have : hc = trivial := rfl; clear this; clear hc))))) | ((with_reducible refine r_is ?_); first | refine yr ?_) | fail)
        by_cases h0 : cntB (gRow c bs k) = 0
        · rw [range_all hkK (by rw [hsome]; simp [h0]), Bool.false_and] at he
          subst he
          repeat' (first | refine yw ?_ | ((with_reducible refine Runs.is ?_); first | refine Runs.region (id := 12) ?_ | refine Runs.region (id := 13) ?_ | refine Runs.region (id := 14) ?_ | ((with_reducible refine Runs.isC ?_); refine Runs.cond rfl (zc ?_) (zc ?_) <;> intro hc <;> (try (first | contradiction | (exfalso; omega; done) | (have : hc = trivial := rfl; clear this; clear hc))))) | ((with_reducible refine r_is ?_); first | refine yr ?_ | ((with_reducible refine r_gd ?_); (first | refine r_guardPf rfl rfl ?_ ?_ | refine r_guardNf rfl rfl ?_ ?_ | refine r_guard rfl rfl ?_ ?_) <;> intro hG <;> (try (exfalso; omega; done)) <;> refine r_nn zN zH ?_)) | fail)
          (refine Runs.ret1 Tryz.func29 rfl zM zD ?_; try exact zX)
        · have hs : someB c bs k = true := by rw [hsome]; simp [h0]
          have hall2 : ∀ j, j < k + 1 → someB c bs j = true := fun j hj => by
            by_cases q : j = k
            · rw [q]; exact hs
            · exact hall j zo
          cases wb
          · rw [Bool.false_or, hfull, show decide (cntB (gRow c bs k) = min c (ms.length - a)) = decide (((cntB (gRow c bs k) : Nat) : Int) = ((a + min c (ms.length - a) : Nat) : Int) - (a : Int)) from decide_eq_decide.2 zo] at hr1
            repeat' (first | refine yw ?_ | ((with_reducible refine Runs.is ?_); first | refine Runs.region (id := 12) ?_ | refine Runs.region (id := 13) ?_ | refine Runs.region (id := 14) ?_ | ((with_reducible refine Runs.isC ?_); refine Runs.cond rfl (zc ?_) (zc ?_) <;> intro hc <;> (try (first | contradiction | (exfalso; omega; done) | (have : hc = trivial := rfl; clear this; clear hc))))) | ((with_reducible refine r_is ?_); first | refine yr ?_ | ((with_reducible refine r_gd ?_); (first | refine r_guardPf rfl rfl ?_ ?_ | refine r_guardNf rfl rfl ?_ ?_ | refine r_guard rfl rfl ?_ ?_) <;> intro hG <;> (try (exfalso; omega; done)) <;> refine r_nn zN zH ?_)) | fail)
            repeat' (first | refine yw ?_ | ((with_reducible refine Runs.is ?_); first | refine Runs.region (id := 4) ?_ | ((with_reducible refine Runs.isC ?_); refine Runs.cond rfl (zc ?_) (zc ?_) <;> intro hc <;> (try (first | contradiction | (exfalso; omega; done) | (have : hc = trivial := rfl; clear this; clear hc))))) | ((with_reducible refine r_is ?_); first | refine yr ?_) | fail)
            refine ih (k + 1) _ ⟨by omega, hall2⟩ zo ?_
            rw [hr1, e3]
            (refine St.Le.clean zR zU zV)
          · rw [Bool.true_or] at hr1
            repeat' (first | refine yw ?_ | ((with_reducible refine Runs.is ?_); first | refine Runs.region (id := 12) ?_ | refine Runs.region (id := 13) ?_ | refine Runs.region (id := 14) ?_ | ((with_reducible refine Runs.isC ?_); refine Runs.cond rfl (zc ?_) (zc ?_) <;> intro hc <;> (try (first | contradiction | (exfalso; omega; done) | (have : hc = trivial := rfl; clear this; clear hc))))) | ((with_reducible refine r_is ?_); first | refine yr ?_ | ((with_reducible refine r_gd ?_); (first | refine r_guardPf rfl rfl ?_ ?_ | refine r_guardNf rfl rfl ?_ ?_ | refine r_guard rfl rfl ?_ ?_) <;> intro hG <;> (try (exfalso; omega; done)) <;> refine r_nn zN zH ?_)) | fail)
            repeat' (first | refine yw ?_ | ((with_reducible refine Runs.is ?_); first | refine Runs.region (id := 4) ?_ | ((with_reducible refine Runs.isC ?_); refine Runs.cond rfl (zc ?_) (zc ?_) <;> intro hc <;> (try (first | contradiction | (exfalso; omega; done) | (have : hc = trivial := rfl; clear this; clear hc))))) | ((with_reducible refine r_is ?_); first | refine yr ?_) | fail)
            refine ih (k + 1) _ ⟨by omega, hall2⟩ zo ?_
            rw [hr1, e3]
            (refine St.Le.clean zR zU zV)
    · have hkK : k = K := by
        have : ¬ k < K := fun q => hlt (hkk.1 q)
        omega
      subst hkK
      rw [List.all_eq_true.2 (fun j hj => hall j (List.mem_range.1 hj)), Bool.true_and] at he
      rw [he]
      generalize k * c = a at *
      repeat' (first | refine yw ?_ | ((with_reducible refine Runs.is ?_); first | refine Runs.region (id := 3) ?_ | ((with_reducible refine Runs.isC ?_); refine Runs.cond rfl (zc ?_) (zc ?_) <;> intro hc <;> (try (first | contradiction | (exfalso; omega; done) | (have : hc = trivial := rfl; clear this; clear hc))))) | ((with_reducible refine r_is ?_); first | refine yr ?_) | fail)
      repeat' (first | refine yw ?_ | ((with_reducible refine Runs.is ?_); first | refine Runs.region (id := 15) ?_ | ((with_reducible refine Runs.isC ?_); refine Runs.cond rfl (zc ?_) (zc ?_) <;> intro hc <;> (try (first | contradiction | (exfalso; omega; done) | (have : hc = trivial := rfl; clear this; clear hc))))) | ((with_reducible refine r_is ?_); first | refine yr ?_) | fail)
      (refine Runs.ret1 Tryz.func29 rfl zM zD ?_; try exact zX)
  exact hgo _ rfl
theorem ref_IsQuorum (f : Bool) (v : View) (ss : List Int) (hm : Light v.members) (hr : RuleOK v.rule) : AM.Fn Tryz.prog 13 [viV v, .sl f (ss.map .i)] (.b (quoB v (v.members.map (inSrv ss)))) := by
  have hgo : ∀ e, quoB v (v.members.map (inSrv ss)) = e → AM.Fn Tryz.prog 13 [viV v, .sl f (ss.map .i)] (.b e) := by
    intro e he
    have hG : v.rule.kind = 3 → AM.Fn Tryz.prog 29 [viV v, .sl f (ss.map .i)] (.b (gridB v.rule.columns (v.members.map (inSrv ss)))) := fun h => ref_grid f v ss hm.1 (by have := hr.2.1 h; omega)
    obtain ⟨ms, ⟨rk, co, fa⟩⟩ := v
    unfold quoB at he
    obtain ⟨r1, r2, r3, r4, r5⟩ := hr
    dsimp only at he hm hG r1 r2 r3 r4 r5
    have hbl : (ms.map (inSrv ss)).length = ms.length := List.length_map _
    have hbg := fun i (h : i < ms.length) => map_getD (inSrv ss) h
    have hlen := hm.1
    generalize gridB co (ms.map (inSrv ss)) = gb at *
    generalize ms.map (inSrv ss) = bs at *
    (refine spec_of_runs Tryz.func13 rfl ?_; simp only [Tryz.f13]; refine ys ?_)
    repeat' (first | refine yw ?_ | ((with_reducible refine Runs.is ?_); first | refine Runs.region (id := 0) ?_ | refine Runs.region (id := 1) ?_ | refine Runs.region (id := 2) ?_ | ((with_reducible refine Runs.isC ?_); refine Runs.cond rfl (zc ?_) (zc ?_) <;> intro hc <;> (try (first | contradiction | (exfalso; omega; done) | (have : hc = trivial := rfl; clear this; clear hc))))) | ((with_reducible refine r_is ?_); first | refine yr ?_) | fail)
    refine Runs.loopI (fun k : Nat => ms.length - k) (fun k => k ≤ ms.length)
      (fun k => ⟨[.any, .sl f (ss.map .i), .ptr 2 0 0, .any, .any, .i (ms.length : Nat), .i (cntB (bs.take k) : Nat), .i (wAllK ms k), .i (wInK ms bs k), .i (k : Nat), .any, .any, .any, .any, .any, .any, .any, .any, .any, .any, .any, .any, .any, .any, .any, .any, .any, .any, .any, .any, .any, .any, .any, .any, .any, .any, .any, .any, .any, .any, .any, .any, .any, .any, .any, .any, .any, .any, .any, .any, .any, .any, .any, .any, .any, .any, .any, .any, .any, .any, .any, .any, .any, .any, .any, .any, .any, .any, .any, .any, .any, .any, .any, .any, .any, .any, .any, .any, .any, .any, .any, .any], [(2, .var 42 (viV ⟨ms, ⟨rk, co, fa⟩⟩))]⟩) 0 (Nat.zero_le _) ?_ ?_
    · (refine St.Le.clean zR zU zV)
    intro k hk ih
    have b1 := wInK_bd hm bs k hk
    have b2 := wAllK_bd hm k hk
    have b3 : cntB (bs.take k) ≤ k := Nat.le_trans (cntB_le _) (by rw [List.length_take]; omega)
    by_cases hlt : k < ms.length
    · have hw := hm.2 _ (getD_in hlt)
      have s1 : wInK ms bs (k + 1) = wInK ms bs k + (if bs.getD k default = true then (ms.getD k default).weight else 0) := rfl
      have s2 : wAllK ms (k + 1) = wAllK ms k + (ms.getD k default).weight := rfl
      have s3 := cntB_take (l := bs) (i := k) zo
      rw [hbg k hlt] at s1 s3
      have hI := ref_In2 f ss (ms.getD k default).server
      change AM.Fn _ _ _ (.b (inSrv ss (ms.getD k default))) at hI
      generalize wInK ms bs k = x at *
      generalize wAllK ms k = y at *
      generalize cntB (bs.take k) = z at *
      cases hb : inSrv ss (ms.getD k default)
      · rw [hb] at hI s1 s3
        rw [if_neg zd] at s1 s3
        repeat' (first | refine yw ?_ | ((with_reducible refine Runs.is ?_); first | refine Runs.region (id := 3) ?_ | refine Runs.region (id := 5) ?_ | refine Runs.region (id := 6) ?_ | refine Runs.region (id := 7) ?_ | refine Runs.region (id := 8) ?_ | refine Runs.region (id := 4) ?_ | ((with_reducible refine Runs.isC ?_); refine Runs.cond rfl (zc ?_) (zc ?_) <;> intro hc <;> (try (first | contradiction | (exfalso; omega; done) | (have : hc = trivial := rfl; clear this; clear hc))))) | ((with_reducible refine r_is ?_); first | refine yr ?_ | (refine r_fn rfl (hI) HbF.h zL2 zD ?_; refine r_nn zN zH ?_)) | fail)
        refine ih (k + 1) _ zo zo ?_
        rw [s1, s2, s3, Int.add_zero]
        (refine St.Le.clean zR zU zV)
      · rw [hb] at hI s1 s3
        rw [if_pos rfl] at s1 s3
        repeat' (first | refine yw ?_ | ((with_reducible refine Runs.is ?_); first | refine Runs.region (id := 3) ?_ | refine Runs.region (id := 5) ?_ | refine Runs.region (id := 6) ?_ | refine Runs.region (id := 7) ?_ | refine Runs.region (id := 8) ?_ | refine Runs.region (id := 4) ?_ | ((with_reducible refine Runs.isC ?_); refine Runs.cond rfl (zc ?_) (zc ?_) <;> intro hc <;> (try (first | contradiction | (exfalso; omega; done) | (have : hc = trivial := rfl; clear this; clear hc))))) | ((with_reducible refine r_is ?_); first | refine yr ?_ | (refine r_fn rfl (hI) HbF.h zL2 zD ?_; refine r_nn zN zH ?_)) | fail)
        refine ih (k + 1) _ zo zo ?_
        rw [s1, s2, s3]
        (refine St.Le.clean zR zU zV)
    · obtain rfl : k = ms.length := by omega
      have hcb : cntB (bs.take ms.length) = cntB bs := by rw [List.take_of_length_le zo]
      rw [hcb] at b3
      rw [hcb]
      clear hcb ih hbg
      generalize wInK ms bs ms.length = x at *
      generalize wAllK ms ms.length = y at *
      generalize cntB bs = z at *
      repeat' (first | refine yw ?_ | ((with_reducible refine Runs.is ?_); first | refine Runs.region (id := 3) ?_ | ((with_reducible refine Runs.isC ?_); refine Runs.cond rfl (zc ?_) (zc ?_) <;> intro hc <;> (try (first | contradiction | (exfalso; omega; done) | (have : hc = trivial := rfl; clear this; clear hc))))) | ((with_reducible refine r_is ?_); first | refine yr ?_) | fail)
      by_cases h0 : ms.length = 0
      · rw [if_pos h0] at he
        subst he
        repeat' (first | refine yw ?_ | ((with_reducible refine Runs.is ?_); first | refine Runs.region (id := 9) ?_ | refine Runs.region (id := 10) ?_ | ((with_reducible refine Runs.isC ?_); refine Runs.cond rfl (zc ?_) (zc ?_) <;> intro hc <;> (try (first | contradiction | (exfalso; omega; done) | (have : hc = trivial := rfl; clear this; clear hc))))) | ((with_reducible refine r_is ?_); first | refine yr ?_) | fail)
        (refine Runs.ret1 Tryz.func13 rfl zM zD ?_; try exact zX)
      rw [if_neg h0] at he
      by_cases h1 : rk = 1
      · subst h1
        rw [if_pos rfl] at he
        subst he
        repeat' (first | refine yw ?_ | ((with_reducible refine Runs.is ?_); first | refine Runs.region (id := 9) ?_ | refine Runs.region (id := 10) ?_ | refine Runs.region (id := 11) ?_ | refine Runs.region (id := 12) ?_ | ((with_reducible refine Runs.isC ?_); refine Runs.cond rfl (zc ?_) (zc ?_) <;> intro hc <;> (try (first | contradiction | (exfalso; omega; done) | (have : hc = trivial := rfl; clear this; clear hc))))) | ((with_reducible refine r_is ?_); first | refine yr ?_) | fail)
        (refine Runs.ret1 Tryz.func13 rfl zM zD ?_; try exact zX)
      rw [if_neg h1] at he
      by_cases h2 : rk = 2
      · subst h2
        rw [if_pos rfl] at he
        subst he
        repeat' (first | refine yw ?_ | ((with_reducible refine Runs.is ?_); first | refine Runs.region (id := 9) ?_ | refine Runs.region (id := 10) ?_ | refine Runs.region (id := 11) ?_ | refine Runs.region (id := 12) ?_ | refine Runs.region (id := 13) ?_ | refine Runs.region (id := 14) ?_ | ((with_reducible refine Runs.isC ?_); refine Runs.cond rfl (zc ?_) (zc ?_) <;> intro hc <;> (try (first | contradiction | (exfalso; omega; done) | (have : hc = trivial := rfl; clear this; clear hc))))) | ((with_reducible refine r_is ?_); first | refine yr ?_) | fail)
        (refine Runs.ret1 Tryz.func13 rfl zM zD ?_; try exact zX)
      rw [if_neg h2] at he
      by_cases h3 : rk = 3
      · subst h3
        rw [if_pos rfl] at he
        subst he
        have hG3 := hG rfl
        clear hG
        repeat' (first | refine yw ?_ | ((with_reducible refine Runs.is ?_); first | refine Runs.region (id := 9) ?_ | refine Runs.region (id := 10) ?_ | refine Runs.region (id := 11) ?_ | refine Runs.region (id := 12) ?_ | refine Runs.region (id := 13) ?_ | refine Runs.region (id := 14) ?_ | refine Runs.region (id := 15) ?_ | refine Runs.region (id := 16) ?_ | refine Runs.region (id := 17) ?_ | ((with_reducible refine Runs.isC ?_); refine Runs.cond rfl (zc ?_) (zc ?_) <;> intro hc <;> (try (first | contradiction | (exfalso; omega; done) | (have : hc = trivial := rfl; clear this; clear hc))))) | ((with_reducible refine r_is ?_); first | refine yr ?_ | (refine r_fn rfl (hG3) HbF.h zL2 zD ?_; refine r_nn zN zH ?_)) | fail)
        (refine Runs.ret1 Tryz.func13 rfl zM zD ?_; try exact zX)
      rw [if_neg h3] at he
      obtain rfl : rk = 4 := by omega
      rw [if_pos rfl] at he
      subst he
      have := r4 rfl
      clear hG
      repeat' (first | refine yw ?_ | ((with_reducible refine Runs.is ?_); first | refine Runs.region (id := 9) ?_ | refine Runs.region (id := 10) ?_ | refine Runs.region (id := 11) ?_ | refine Runs.region (id := 12) ?_ | refine Runs.region (id := 13) ?_ | refine Runs.region (id := 14) ?_ | refine Runs.region (id := 15) ?_ | refine Runs.region (id := 16) ?_ | ((with_reducible refine Runs.isC ?_); refine Runs.cond rfl (zc ?_) (zc ?_) <;> intro hc <;> (try (first | contradiction | (exfalso; omega; done) | (have : hc = trivial := rfl; clear this; clear hc))))) | ((with_reducible refine r_is ?_); first | refine yr ?_) | fail)
      (refine Runs.ret1 Tryz.func13 rfl zM zD ?_; try exact zX)
  exact hgo _ rfl
end Go.Proofs
namespace Go.Proofs
open Go.AM
attribute [local irreducible] AM.evalR AM.evalD AM.Runs AM.valK AM.dK AM.opK AM.stepR AM.CallS AM.St.Le
def srcF (n s : Int) : Option Source := if 0 < digitI n 3 s then some ⟨s, decide (digitI n 3 s = 2)⟩ else none
def srcI (n : Int) : List Source := (upto 1 8).filterMap (srcF n)
end Go.Proofs
namespace Go.Proofs
open Go.AM
attribute [local irreducible] AM.evalR AM.evalD AM.Runs AM.valK AM.dK AM.opK AM.stepR AM.CallS AM.St.Le
@[reducible] def arI (l : List Int) : V := .agg (l.map .i)
@[simp] theorem us_i (p : Nat → Bool) (xs : List Int) : V.usesL p (xs.map V.i) = true := V.usesL_data p _ (dl_i xs)
@[simp] theorem us_b (p : Nat → Bool) (xs : List Bool) : V.usesL p (xs.map V.b) = true := V.usesL_data p _ (dl_bo xs)
def colStep (a : List Int) (s : Source) : List Int :=
  if s.server < 1 ∨ 12 < s.server then a else (let b := a.set s.server.toNat (if a.getD s.server.toNat default < 1 then 1 else a.getD s.server.toNat default); if s.filled = true then b.set s.server.toNat 2 else b)
def ans0 : List Int := List.replicate 13 0
def colI (l : List Source) : List Int := l.foldl colStep ans0
theorem colStep_len (a : List Int) (s : Source) : (colStep a s).length = a.length := by
  unfold colStep
  split
  · rfl
  · dsimp only
    split <;> simp
theorem colI_len : ∀ (l : List Source) (a : List Int), (l.foldl colStep a).length = a.length
  | [], _ => rfl
  | s :: l, a => by rw [List.foldl_cons, colI_len l, colStep_len]
theorem tally_collect (f : Bool) (l : List Source) (hl : l.length ≤ 1000000) : AM.Fn Tryz.prog 19 [.sl f (l.map soV)] (arI (colI l)) := by
  (refine spec_of_runs Tryz.func19 rfl ?_; simp only [Tryz.f19]; refine ys ?_)
  repeat' (first | refine yw ?_ | ((with_reducible refine Runs.is ?_); first | refine Runs.region (id := 0) ?_ | refine Runs.region (id := 1) ?_ | refine Runs.region (id := 2) ?_ | ((with_reducible refine Runs.isC ?_); refine Runs.cond rfl (zc ?_) (zc ?_) <;> intro hc <;> (try (first | contradiction | (exfalso; omega; done) | (have : hc = trivial := rfl; clear this; clear hc))))) | ((with_reducible refine r_is ?_); first | refine yr ?_) | fail)
  refine Runs.loopI (fun k : Nat => l.length - k) (fun k => k ≤ l.length)
    (fun k => ⟨[.any, .any, .ptr 2 0 0, .ptr 3 0 0, .any, .any, .sl f (l.map soV), .i (l.length : Nat), .i (k : Nat), .any, .any, .any, .any, .any, .any, .any, .any, .any, .any, .any, .any, .any, .any, .any, .any, .any, .any, .any, .any, .any, .any, .any, .any, .any, .any], [(3, .var 64 (arI ((l.take k).foldl colStep ans0))), (2, .var 64 (arI ans0))]⟩) 0 (Nat.zero_le _) ?_ ?_
  · (refine St.Le.clean zR zU zV)
  intro k hk ih
  have hst := fun (h : k < l.length) => foldl_take (g := colStep) (s := ans0) h
  have hln := colI_len (l.take k) ans0
  have hend : l.length ≤ k → (l.take k).foldl colStep ans0 = colI l := fun h => by rw [List.take_of_length_le h]; rfl
  generalize (l.take k).foldl colStep ans0 = acc at *
  change acc.length = 13 at hln
  by_cases hlt : k < l.length
  · have hst2 := hst hlt
    obtain ⟨s, hs⟩ : ∃ s, l.getD k default = s := ⟨_, rfl⟩
    repeat' (first | refine yw ?_ | ((with_reducible refine Runs.is ?_); first | refine Runs.region (id := 3) ?_ | refine Runs.region (id := 4) ?_ | refine Runs.region (id := 5) ?_ | ((with_reducible refine Runs.isC ?_); refine Runs.cond rfl (zc ?_) (zc ?_) <;> intro hc <;> (try (first | contradiction | (exfalso; omega; done) | (have : hc = trivial := rfl; clear this; clear hc))))) | ((with_reducible refine r_is ?_); first | refine yr ?_ | ((with_reducible refine r_gd ?_); (first | refine r_guardPf rfl rfl ?_ ?_ | refine r_guardNf rfl rfl ?_ ?_ | refine r_guard rfl rfl ?_ ?_) <;> intro hG <;> (try (exfalso; omega; done)) <;> refine r_nn zN zH ?_)) | fail)
    · rw [colStep, if_pos zo] at hst2
      repeat' (first | refine yw ?_ | ((with_reducible refine Runs.is ?_); first | refine Runs.region (id := 9) ?_ | ((with_reducible refine Runs.isC ?_); refine Runs.cond rfl (zc ?_) (zc ?_) <;> intro hc <;> (try (first | contradiction | (exfalso; omega; done) | (have : hc = trivial := rfl; clear this; clear hc))))) | ((with_reducible refine r_is ?_); first | refine yr ?_) | fail)
      refine ih (k + 1) _ zo zo ?_
      rw [hst2]
      (refine St.Le.clean zR zU zV)
    · rw [colStep, if_neg zo] at hst2
      repeat' (first | refine yw ?_ | ((with_reducible refine Runs.is ?_); first | refine Runs.drawn (id := 6) mixed zK ?_ | ((with_reducible refine Runs.isC ?_); refine Runs.cond rfl (zc ?_) (zc ?_) <;> intro hc <;> (try (first | contradiction | (exfalso; omega; done) | (have : hc = trivial := rfl; clear this; clear hc))))) | ((with_reducible refine d_is ?_); first | refine yd ?_) | fail)
      refine d_v rfl (v_load_arr (k := (l.getD k default).server.toNat) TyF.h rfl rfl (by simp) zo ?_)
      refine d_n zN ?_
      refine d_v rfl (v_max rfl rfl ?_)
      refine d_n zN ?_
      refine d_v rfl (v_indexAddr_arr SlN.h ArF.h rfl rfl zS ?_)
      refine d_n zN ?_
      refine d_store_arr (k := (l.getD k default).server.toNat) _ TyF.h rfl rfl rfl ⟨rfl, rfl⟩ (by simp) zo ?_
      refine d_nn zN zH ?_
      refine d_end ?_
      dsimp only at hst2
      have hl2 : (acc.set (l.getD k default).server.toNat (if acc.getD (l.getD k default).server.toNat default < 1 then 1 else acc.getD (l.getD k default).server.toNat default)).length = 13 := by rw [List.length_set, hln]
      generalize acc.set (l.getD k default).server.toNat (if acc.getD (l.getD k default).server.toNat default < 1 then 1 else acc.getD (l.getD k default).server.toNat default) = acc2 at *
      repeat' (first | refine yw ?_ | ((with_reducible refine Runs.is ?_); first | refine Runs.region (id := 7) ?_ | ((with_reducible refine Runs.isC ?_); refine Runs.cond rfl (zc ?_) (zc ?_) <;> intro hc <;> (try (first | contradiction | (exfalso; omega; done) | (have : hc = trivial := rfl; clear this; clear hc))))) | ((with_reducible refine r_is ?_); first | refine yr ?_) | fail)
      · rw [if_pos (by assumption)] at hst2
        refine Runs.region ?_
        refine r_v rfl (v_fieldAddr_ptr FlF.h rfl ?_)
        refine r_n zN ?_
        refine r_v rfl (v_load_part TyF.h rfl rfl zE zd ?_)
        refine r_n zN ?_
        refine r_v rfl (v_indexAddr_arr SlN.h ArF.h rfl rfl zS ?_)
        refine r_n zN ?_
        refine r_store_arr (k := (l.getD k default).server.toNat) (2 : Int) TyF.h rfl rfl rfl ⟨rfl, rfl⟩ zo zo ?_
        refine r_nn zN zH ?_
        generalize acc2.set (l.getD k default).server.toNat 2 = acc3 at *
        repeat' (first | refine yw ?_ | ((with_reducible refine Runs.is ?_); first | refine Runs.region (id := 9) ?_ | ((with_reducible refine Runs.isC ?_); refine Runs.cond rfl (zc ?_) (zc ?_) <;> intro hc <;> (try (first | contradiction | (exfalso; omega; done) | (have : hc = trivial := rfl; clear this; clear hc))))) | ((with_reducible refine r_is ?_); first | refine yr ?_) | fail)
        refine ih (k + 1) _ zo zo ?_
        rw [hst2]
        (refine St.Le.clean zR zU zV)
      · rw [if_neg (by rw [hc]; decide)] at hst2
        repeat' (first | refine yw ?_ | ((with_reducible refine Runs.is ?_); first | refine Runs.region (id := 9) ?_ | ((with_reducible refine Runs.isC ?_); refine Runs.cond rfl (zc ?_) (zc ?_) <;> intro hc <;> (try (first | contradiction | (exfalso; omega; done) | (have : hc = trivial := rfl; clear this; clear hc))))) | ((with_reducible refine r_is ?_); first | refine yr ?_) | fail)
        refine ih (k + 1) _ zo zo ?_
        rw [hst2]
        (refine St.Le.clean zR zU zV)
    · rw [colStep, if_pos zo] at hst2
      repeat' (first | refine yw ?_ | ((with_reducible refine Runs.is ?_); first | refine Runs.region (id := 9) ?_ | ((with_reducible refine Runs.isC ?_); refine Runs.cond rfl (zc ?_) (zc ?_) <;> intro hc <;> (try (first | contradiction | (exfalso; omega; done) | (have : hc = trivial := rfl; clear this; clear hc))))) | ((with_reducible refine r_is ?_); first | refine yr ?_) | fail)
      refine ih (k + 1) _ zo zo ?_
      rw [hst2]
      (refine St.Le.clean zR zU zV)
  · have he := hend zo
    subst he
    repeat' (first | refine yw ?_ | ((with_reducible refine Runs.is ?_); first | refine Runs.region (id := 3) ?_ | ((with_reducible refine Runs.isC ?_); refine Runs.cond rfl (zc ?_) (zc ?_) <;> intro hc <;> (try (first | contradiction | (exfalso; omega; done) | (have : hc = trivial := rfl; clear this; clear hc))))) | ((with_reducible refine r_is ?_); first | refine yr ?_) | fail)
    repeat' (first | refine yw ?_ | ((with_reducible refine Runs.is ?_); first | refine Runs.region (id := 10) ?_ | ((with_reducible refine Runs.isC ?_); refine Runs.cond rfl (zc ?_) (zc ?_) <;> intro hc <;> (try (first | contradiction | (exfalso; omega; done) | (have : hc = trivial := rfl; clear this; clear hc))))) | ((with_reducible refine r_is ?_); first | refine yr ?_) | fail)
    have hcl : (arI (colI l)).cells.length = 13 := by show ((colI l).map V.i).length = 13; rw [List.length_map]; exact hln
    refine r_v rfl (v_load_var TyF.h rfl rfl hcl zd (by show V.agg ((((colI l).map V.i).drop 0).take 13) = _; rw [List.drop_zero, List.take_of_length_le (by rw [List.length_map]; omega)]) ?_)
    refine r_n zN ?_
    refine r_storeW TyF.h rfl rfl ⟨by decide, by decide, hcl, by show ((colI l).map V.i).all V.one = true; rw [List.all_map]; exact List.all_eq_true.2 fun _ _ => rfl⟩ (by show V.agg ([] ++ (colI l).map V.i ++ List.drop (0 + ((colI l).map V.i).length) (ans0.map V.i)) = _; rw [List.length_map, hln, show List.drop (0 + 13) (ans0.map V.i) = [] from rfl, List.append_nil]; rfl) ?_
    refine r_nn zN zH ?_
    repeat' (first | refine yw ?_ | ((with_reducible refine Runs.is ?_); first | refine Runs.region (id := 10) ?_ | ((with_reducible refine Runs.isC ?_); refine Runs.cond rfl (zc ?_) (zc ?_) <;> intro hc <;> (try (first | contradiction | (exfalso; omega; done) | (have : hc = trivial := rfl; clear this; clear hc))))) | ((with_reducible refine r_is ?_); first | refine yr ?_) | fail)
    refine Runs.retC Tryz.func19 rfl zM rfl TyF.h (And.intro (by rw [hcl]; decide) zd) zD ?_
    exact V.Le.of_eq (by show V.agg ((((colI l).map V.i).drop 0).take 13) = _; rw [List.drop_zero, List.take_of_length_le (by rw [List.length_map]; omega)])
def leastI (a : Int) (l : List Int) : List Int := (upto 1 12).filter fun s => decide (a ≤ l.getD s.toNat default)
theorem v_index_arI {P : Program} {e : Operand → V} {H : AM.Heap} {K : V → Prop} {t : TypeId} {x y : Operand} {k : IntKind} {j : Int} {n : Nat} {l : List Int} (ha : arv P t = some (n, false, 1)) (hx : e x = arI l) (hi : e y = .sc (.int k j)) (hl : l.length = n) (hj : 0 ≤ j ∧ j < n) (h : K (.i (l.getD j.toNat default))) : valK P (.index t x y) e H K := by
  refine v_index_arr ha hx hi ⟨hj, Nat.one_pos, by rw [List.length_map, hl, Nat.mul_one]⟩ ?_
  rw [show V.sub false (j.toNat * 1) 1 (.agg (l.map V.i)) = (l.map V.i).getD (j.toNat * 1) .any from rfl, Nat.mul_one, getD_map V.i l j.toNat .any zo]
  exact h
theorem tally_least (a : Int) (l : List Int) (hl : l.length = 13) (ha : 1 ≤ a) : AM.Fn Tryz.prog 24 [arI l, .i a] (.sl false ((leastI a l).map .i)) := by
  have hcl : (arI l).cells.length = 13 := by show (l.map V.i).length = 13; rw [List.length_map]; exact hl
  have hok : (arI l).okCells = true := by show (l.map V.i).all V.one = true; rw [List.all_map]; exact List.all_eq_true.2 fun _ _ => rfl
  (refine spec_of_runs Tryz.func24 rfl ?_; simp only [Tryz.f24]; refine ys ?_)
  refine Runs.seq ?_
  refine Runs.region ?_
  refine r_box rfl hok ?_
  refine r_nn zN zH ?_
  repeat' (first | refine yw ?_ | ((with_reducible refine Runs.is ?_); first | refine Runs.region (id := 0) ?_ | refine Runs.region (id := 1) ?_ | refine Runs.region (id := 2) ?_ | ((with_reducible refine Runs.isC ?_); refine Runs.cond rfl (zc ?_) (zc ?_) <;> intro hc <;> (try (first | contradiction | (exfalso; omega; done) | (have : hc = trivial := rfl; clear this; clear hc))))) | ((with_reducible refine r_is ?_); first | refine yr ?_) | fail)
  refine r_v rfl (v_load_var TyF.h rfl rfl hcl zd (by show V.agg (((l.map V.i).drop 0).take 13) = _; rw [List.drop_zero, List.take_of_length_le (by rw [List.length_map]; omega)]) ?_)
  refine r_n zN ?_
  repeat' (first | refine yw ?_ | ((with_reducible refine Runs.is ?_); first | refine Runs.region (id := 2) ?_ | ((with_reducible refine Runs.isC ?_); refine Runs.cond rfl (zc ?_) (zc ?_) <;> intro hc <;> (try (first | contradiction | (exfalso; omega; done) | (have : hc = trivial := rfl; clear this; clear hc))))) | ((with_reducible refine r_is ?_); first | refine yr ?_) | fail)
  (refine Runs.weaken (St.Le.nil 5 3 1 5 zd rfl rfl zE) ?_)
  refine Runs.loopI (α := Int) (fun i => (13 - i).toNat) (fun i => 0 ≤ i ∧ i ≤ 13)
    (fun i => ⟨[.any, .i a, .any, .any, .any, .own 5, .any, .any, arI l, .i i, .any, .any, .any, .any, .any, .any, .any, .any, .any, .any, .any, .any, .any, .any, .any, .any], [(5, .lst 3 1 (((upto 1 (i - 1)).filter fun s => decide (a ≤ l.getD s.toNat default)).map .i))]⟩) 0 ⟨by decide, by decide⟩ ?_ ?_
  · rw [show upto 1 (0 - 1) = [] from rfl]
    (refine St.Le.clean zR zU zV)
  rintro i ⟨hi1, hi2⟩ ih
  have hlen : ((upto 1 (i - 1)).filter fun s => decide (a ≤ l.getD s.toNat default)).length ≤ 13 := by
    have h1 := List.length_filter_le (fun s => decide (a ≤ l.getD s.toNat default)) (upto 1 (i - 1))
    rw [upto_len] at h1; omega
  have hst : ((upto 1 (i + 1 - 1)).filter fun s => decide (a ≤ l.getD s.toNat default)) = ((upto 1 (i - 1)).filter fun s => decide (a ≤ l.getD s.toNat default)) ++ (if 0 < i ∧ a ≤ l.getD i.toNat default then [i] else []) := by
    rw [show i + 1 - 1 = i by omega]
    by_cases h0 : 0 < i
    · rw [upto_snoc zo, List.filter_append]
      congr 1
      by_cases h : a ≤ l.getD i.toNat default
      · rw [if_pos ⟨h0, h⟩]; simp only [List.filter_cons, List.filter_nil]; rw [if_pos (decide_eq_true h)]
      · rw [if_neg (fun q => h q.2)]; simp only [List.filter_cons, List.filter_nil]; rw [if_neg (by rw [decide_eq_false h]; decide)]
    · obtain rfl : i = 0 := by omega
      rw [if_neg zo, List.append_nil]; rfl
  have hend : ¬ i < 13 → ((upto 1 (i - 1)).filter fun s => decide (a ≤ l.getD s.toNat default)) = leastI a l := fun h => by rw [show i - 1 = 12 by omega]; rfl
  generalize ((upto 1 (i - 1)).filter fun s => decide (a ≤ l.getD s.toNat default)) = acc at *
  repeat' (first | refine yw ?_ | ((with_reducible refine Runs.is ?_); first | refine Runs.region (id := 3) ?_ | ((with_reducible refine Runs.isC ?_); refine Runs.cond rfl (zc ?_) (zc ?_) <;> intro hc <;> (try (first | contradiction | (exfalso; omega; done) | (have : hc = trivial := rfl; clear this; clear hc))))) | ((with_reducible refine r_is ?_); first | refine yr ?_) | fail)
  · refine Runs.region ?_
    refine r_v rfl (v_move ?_)
    refine r_n zN ?_
    refine r_v rfl (v_index_arI ArF.h rfl rfl hl ⟨by omega, by omega⟩ ?_)
    refine r_n zN ?_
    generalize l.getD i.toNat default = got at *
    have hkl : V.LeL (V.killL 5 (List.map V.i l)) (List.map V.i l) := by rw [V.killL_data _ _ (dl_i l)]; exact V.LeL.refl _
    repeat' (first | refine yw ?_ | ((with_reducible refine Runs.is ?_); first | refine Runs.region (id := 4) ?_ | refine Runs.region (id := 5) ?_ | refine Runs.region (id := 6) ?_ | refine Runs.region (id := 7) ?_ | ((with_reducible refine Runs.isC ?_); refine Runs.cond rfl (zc ?_) (zc ?_) <;> intro hc <;> (try (first | contradiction | (exfalso; omega; done) | (have : hc = trivial := rfl; clear this; clear hc))))) | ((with_reducible refine r_is ?_); first | refine yr ?_ | (refine r_append_full SlF.h SlF.s ZoF.h zd rfl rfl zC zJ zS rfl (fun hn => ?_) (fun hn => ?_) <;> refine r_nn zN zH ?_) | ((with_reducible refine r_gd ?_); (first | refine r_guardPt rfl rfl ?_ ?_ | refine r_guardNt rfl rfl ?_ ?_ | refine r_guard rfl rfl ?_ ?_) <;> intro hG <;> (try (exfalso; omega; done)) <;> refine r_nn zN zH ?_)) | fail)
    all_goals first
      | (rw [if_pos ⟨by omega, by omega⟩] at hst
         refine ih (i + 1) _ ⟨by omega, by omega⟩ zo ?_
         rw [hst]
         (refine St.Le.clean zR zU zV)
         done)
      | (rw [if_neg zo, List.append_nil] at hst
         refine ih (i + 1) _ ⟨by omega, by omega⟩ zo ?_
         rw [hst]
         (refine St.Le.clean zR zU zV)
         done)
      | trace_state
  · have he := hend zo
    subst he
    repeat' (first | refine yw ?_ | ((with_reducible refine Runs.is ?_); first | refine Runs.region (id := 8) ?_ | ((with_reducible refine Runs.isC ?_); refine Runs.cond rfl (zc ?_) (zc ?_) <;> intro hc <;> (try (first | contradiction | (exfalso; omega; done) | (have : hc = trivial := rfl; clear this; clear hc))))) | ((with_reducible refine r_is ?_); first | refine yr ?_) | fail)
    exact Runs.ret_frz Tryz.func24 rfl rfl rfl (by simp)
theorem tally_view (f : Bool) (g : View) (c : Config) (hg : g.members.length ≤ 1000) (hc : c.length ≤ 100) (hp : ∀ p ∈ c, Plain p) : AM.Fn Tryz.prog 21 [viV g, .sl f (c.map prV)] (viV (viewOf g c)) := by
  have hsh := sumS_short hg c (fun p h => (hp p h).1)
  have hS := member_Summarize f g c hg hc hp
  have hV := member_View (sumS g c) (by have := hsh.1; omega) (by have := hsh.2.2; omega)
  unfold viewOf
  generalize sumS g c = s at *
  generalize viewS s = v at *
  (refine spec_of_runs Tryz.func21 rfl ?_; simp only [Tryz.f21]; refine ys ?_)
  repeat' (first | refine yw ?_ | ((with_reducible refine Runs.is ?_); first | refine Runs.region ?_ | ((with_reducible refine Runs.isC ?_); refine Runs.cond rfl (zc ?_) (zc ?_) <;> intro hc <;> (try (first | contradiction | (exfalso; omega; done) | (have : hc = trivial := rfl; clear this; clear hc))))) | ((with_reducible refine r_is ?_); first | refine yr ?_ | (refine r_fn rfl (hS) HbF.h zL2 zD ?_; refine r_nn zN zH ?_) | (refine r_fn rfl (hV) HbF.h zL1 zD ?_; refine r_nn zN zH ?_)) | fail)
  (refine Runs.retC Tryz.func21 rfl zM rfl TyF.h (And.intro zE zd) zD ?_; try exact zX)
end Go.Proofs
namespace Go.Proofs
open Go.AM
attribute [local irreducible] AM.evalR AM.evalD AM.Runs AM.valK AM.dK AM.opK AM.stepR AM.CallS AM.St.Le
def eqvB (a b : Config) : Bool := containsB a b && containsB b a
def gotI (acks : List Source) (base c : Config) : List Int := leastI (if eqvB c base = true then 2 else 1) (colI acks)
def okC (g : View) (base : Config) (acks : List Source) (c : Config) : Bool := quoB (viewOf g c) ((viewOf g c).members.map (inSrv (gotI acks base c)))
def missL (g : View) (base : Config) (acks : List Source) (l : List Config) : List Config := l.filter fun c => !okC g base acks c
theorem missL_snoc (g : View) (base : Config) (acks : List Source) (l : List Config) (c : Config) : missL g base acks (l ++ [c]) = missL g base acks l ++ (if okC g base acks c = true then [] else [c]) := by
  unfold missL
  rw [List.filter_append]
  congr 1
  simp only [List.filter_cons, List.filter_nil]
  cases okC g base acks c <;> rfl
theorem list13 {l : List Int} (h : l.length = 13) : ∃ a0 a1 a2 a3 a4 a5 a6 a7 a8 a9 a10 a11 a12, l = [a0, a1, a2, a3, a4, a5, a6, a7, a8, a9, a10, a11, a12] := by
  match l, h with
  | [a0, a1, a2, a3, a4, a5, a6, a7, a8, a9, a10, a11, a12], _ => exact ⟨a0, a1, a2, a3, a4, a5, a6, a7, a8, a9, a10, a11, a12, rfl⟩
structure Fair (g : View) (l : List Config) : Prop where
  gl : g.members.length ≤ 1000
  n : l.length ≤ 1000
  c : ∀ c ∈ l, c.length ≤ 100 ∧ ∀ p ∈ c, Plain p
  v : ∀ c ∈ l, Light (viewOf g c).members ∧ RuleOK (viewOf g c).rule
theorem tally_Missing (f h f2 : Bool) (g : View) (a b : Config) (acks : List Source) (l : List Config) (hA : AM.Fn Tryz.prog 23 [.sl f (a.map prV), .sl h (b.map prV)] (.sl false (l.map cfV))) (hF : Fair g l) (hk : acks.length ≤ 1000000) :
    AM.Fn Tryz.prog 11 [viV g, .sl f (a.map prV), .sl h (b.map prV), .sl f2 (acks.map soV)] (.sl false ((missL g a acks l).map cfV)) := by
  have hcol := tally_collect f2 acks hk
  have hlen : (colI acks).length = 13 := colI_len acks ans0
  have hlea := fun x (h : 1 ≤ x) => tally_least x (colI acks) hlen h
  have hgot : ∀ c, gotI acks a c = leastI (if eqvB c a = true then 2 else 1) (colI acks) := fun c => rfl
  obtain ⟨a0, a1, a2, a3, a4, a5, a6, a7, a8, a9, a10, a11, a12, hs⟩ := list13 hlen
  have hgl := hF.gl
  have hn := hF.n
  rw [hs] at hcol hlea hgot
  clear hlen hs
  simp only [arI, List.map_cons, List.map_nil] at hcol hlea
  (refine spec_of_runs Tryz.func11 rfl ?_; simp only [Tryz.f11]; refine ys ?_)
  repeat' (first | refine yw ?_ | ((with_reducible refine Runs.is ?_); first | refine Runs.region (id := 0) ?_ | refine Runs.region (id := 1) ?_ | refine Runs.region (id := 2) ?_ | refine Runs.region (id := 3) ?_ | ((with_reducible refine Runs.isC ?_); refine Runs.cond rfl (zc ?_) (zc ?_) <;> intro hc <;> (try (first | contradiction | (exfalso; omega; done) | (have : hc = trivial := rfl; clear this; clear hc))))) | ((with_reducible refine r_is ?_); first | refine yr ?_ | (refine r_fn rfl (hcol) HbF.h zL1 zD ?_; refine r_nn zN zH ?_) | (refine r_fn rfl (hA) HbF.h zL2 zD ?_; refine r_nn zN zH ?_)) | fail)
  (refine Runs.weaken (St.Le.nil 10 30 1 10 zd rfl rfl zE) ?_)
  refine Runs.loopI (fun k : Nat => l.length - k) (fun k => k ≤ l.length)
    (fun k => ⟨[.any, .sl f (a.map prV), .any, .any, .ptr 4 0 0, .any, .any, .any, .any, .ptr 9 0 0, .own 10, .any, .any, .any, .any, .any, .any, .any, .sl false (l.map cfV), .i (l.length : Nat), .i (k : Nat), .any, .any, .any, .any, .any, .any, .any, .any, .any, .any, .any, .any, .any, .any, .any, .any, .any, .any, .any, .any, .any, .any], [(10, .lst 30 1 ((missL g a acks (l.take k)).map cfV)), (9, .var 64 (.agg [.i a0, .i a1, .i a2, .i a3, .i a4, .i a5, .i a6, .i a7, .i a8, .i a9, .i a10, .i a11, .i a12])), (4, .var 27 (viV g))]⟩) 0 (Nat.zero_le _) ?_ ?_
  · rw [show missL g a acks (l.take 0) = [] from rfl]
    (refine St.Le.clean zR zU zV)
  intro k hk2 ih
  have hml : (missL g a acks (l.take k)).length ≤ k := Nat.le_trans (List.length_filter_le _ _) (by rw [List.length_take]; omega)
  have hst : k < l.length → missL g a acks (l.take (k + 1)) = missL g a acks (l.take k) ++ (if okC g a acks (l.getD k default) = true then [] else [l.getD k default]) := fun h => by rw [take_getD h, missL_snoc]
  have hend : l.length ≤ k → missL g a acks (l.take k) = missL g a acks l := fun h => by rw [List.take_of_length_le h]
  generalize missL g a acks (l.take k) = acc at *
  by_cases hlt : k < l.length
  · have hst2 := hst hlt
    have hc0 := getD_in hlt
    have hE := config_Equal false f (l.getD k default) a
    have hV := tally_view false g (l.getD k default) hF.gl (hF.c _ hc0).1 (hF.c _ hc0).2
    have hQ := quo_IsQuorum false (viewOf g (l.getD k default)) (gotI acks a (l.getD k default)) (hF.v _ hc0).1 (hF.v _ hc0).2
    change AM.Fn _ _ _ (.b (okC g a acks (l.getD k default))) at hQ
    change AM.Fn _ _ _ (.b (eqvB (l.getD k default) a)) at hE
    have hg2 := hgot (l.getD k default)
    have hl1 := hlea 1 zd
    have hl2 := hlea 2 zd
    generalize gotI acks a (l.getD k default) = ss at *
    generalize viewOf g (l.getD k default) = v at *
    generalize okC g a acks (l.getD k default) = ok at *
    cases hb : eqvB (l.getD k default) a
    · rw [hb, if_neg zd] at hg2
      rw [hb] at hE
      subst hg2
      generalize leastI 1 [a0, a1, a2, a3, a4, a5, a6, a7, a8, a9, a10, a11, a12] = s1 at *
      cases ok
      · rw [if_neg zd] at hst2
        repeat' (first | refine yw ?_ | ((with_reducible refine Runs.is ?_); first | refine Runs.region (id := 4) ?_ | refine Runs.region (id := 5) ?_ | refine Runs.region (id := 6) ?_ | refine Runs.region (id := 7) ?_ | refine Runs.region (id := 8) ?_ | refine Runs.region (id := 9) ?_ | refine Runs.region (id := 10) ?_ | refine Runs.region (id := 11) ?_ | ((with_reducible refine Runs.isC ?_); refine Runs.cond rfl (zc ?_) (zc ?_) <;> intro hc <;> (try (first | contradiction | (exfalso; omega; done) | (have : hc = trivial := rfl; clear this; clear hc))))) | ((with_reducible refine r_is ?_); first | refine yr ?_ | (refine r_fn rfl (hl1) HbF.h zL2 zD ?_; refine r_nn zN zH ?_) | (refine r_fn rfl (hE) HbF.h zL2 zD ?_; refine r_nn zN zH ?_) | (refine r_fn rfl (hV) HbF.h zL2 zD ?_; refine r_nn zN zH ?_) | (refine r_fn rfl (hQ) HbF.h zL2 zD ?_; refine r_nn zN zH ?_) | (refine r_append_full SlF.h SlF.s ZoF.h zd rfl rfl zC zJ zS rfl (fun hn => ?_) (fun hn => ?_) <;> refine r_nn zN zH ?_)) | fail)
        refine ih (k + 1) _ zo zo ?_
        rw [hst2]
        (refine St.Le.clean zR zU zV)
      · rw [if_pos rfl, List.append_nil] at hst2
        repeat' (first | refine yw ?_ | ((with_reducible refine Runs.is ?_); first | refine Runs.region (id := 4) ?_ | refine Runs.region (id := 5) ?_ | refine Runs.region (id := 6) ?_ | refine Runs.region (id := 7) ?_ | refine Runs.region (id := 8) ?_ | refine Runs.region (id := 9) ?_ | refine Runs.region (id := 10) ?_ | refine Runs.region (id := 11) ?_ | ((with_reducible refine Runs.isC ?_); refine Runs.cond rfl (zc ?_) (zc ?_) <;> intro hc <;> (try (first | contradiction | (exfalso; omega; done) | (have : hc = trivial := rfl; clear this; clear hc))))) | ((with_reducible refine r_is ?_); first | refine yr ?_ | (refine r_fn rfl (hl1) HbF.h zL2 zD ?_; refine r_nn zN zH ?_) | (refine r_fn rfl (hE) HbF.h zL2 zD ?_; refine r_nn zN zH ?_) | (refine r_fn rfl (hV) HbF.h zL2 zD ?_; refine r_nn zN zH ?_) | (refine r_fn rfl (hQ) HbF.h zL2 zD ?_; refine r_nn zN zH ?_) | (refine r_append_full SlF.h SlF.s ZoF.h zd rfl rfl zC zJ zS rfl (fun hn => ?_) (fun hn => ?_) <;> refine r_nn zN zH ?_)) | fail)
        refine ih (k + 1) _ zo zo ?_
        rw [hst2]
        (refine St.Le.clean zR zU zV)
    · rw [hb, if_pos rfl] at hg2
      rw [hb] at hE
      subst hg2
      generalize leastI 1 [a0, a1, a2, a3, a4, a5, a6, a7, a8, a9, a10, a11, a12] = s1 at *
      generalize leastI 2 [a0, a1, a2, a3, a4, a5, a6, a7, a8, a9, a10, a11, a12] = s2 at *
      cases ok
      · rw [if_neg zd] at hst2
        repeat' (first | refine yw ?_ | ((with_reducible refine Runs.is ?_); first | refine Runs.region (id := 4) ?_ | refine Runs.region (id := 5) ?_ | refine Runs.region (id := 6) ?_ | refine Runs.region (id := 7) ?_ | refine Runs.region (id := 8) ?_ | refine Runs.region (id := 9) ?_ | refine Runs.region (id := 10) ?_ | refine Runs.region (id := 11) ?_ | ((with_reducible refine Runs.isC ?_); refine Runs.cond rfl (zc ?_) (zc ?_) <;> intro hc <;> (try (first | contradiction | (exfalso; omega; done) | (have : hc = trivial := rfl; clear this; clear hc))))) | ((with_reducible refine r_is ?_); first | refine yr ?_ | (refine r_fn rfl (hl1) HbF.h zL2 zD ?_; refine r_nn zN zH ?_) | (refine r_fn rfl (hl2) HbF.h zL2 zD ?_; refine r_nn zN zH ?_) | (refine r_fn rfl (hE) HbF.h zL2 zD ?_; refine r_nn zN zH ?_) | (refine r_fn rfl (hV) HbF.h zL2 zD ?_; refine r_nn zN zH ?_) | (refine r_fn rfl (hQ) HbF.h zL2 zD ?_; refine r_nn zN zH ?_) | (refine r_append_full SlF.h SlF.s ZoF.h zd rfl rfl zC zJ zS rfl (fun hn => ?_) (fun hn => ?_) <;> refine r_nn zN zH ?_)) | fail)
        refine ih (k + 1) _ zo zo ?_
        rw [hst2]
        (refine St.Le.clean zR zU zV)
      · rw [if_pos rfl, List.append_nil] at hst2
        repeat' (first | refine yw ?_ | ((with_reducible refine Runs.is ?_); first | refine Runs.region (id := 4) ?_ | refine Runs.region (id := 5) ?_ | refine Runs.region (id := 6) ?_ | refine Runs.region (id := 7) ?_ | refine Runs.region (id := 8) ?_ | refine Runs.region (id := 9) ?_ | refine Runs.region (id := 10) ?_ | refine Runs.region (id := 11) ?_ | ((with_reducible refine Runs.isC ?_); refine Runs.cond rfl (zc ?_) (zc ?_) <;> intro hc <;> (try (first | contradiction | (exfalso; omega; done) | (have : hc = trivial := rfl; clear this; clear hc))))) | ((with_reducible refine r_is ?_); first | refine yr ?_ | (refine r_fn rfl (hl1) HbF.h zL2 zD ?_; refine r_nn zN zH ?_) | (refine r_fn rfl (hl2) HbF.h zL2 zD ?_; refine r_nn zN zH ?_) | (refine r_fn rfl (hE) HbF.h zL2 zD ?_; refine r_nn zN zH ?_) | (refine r_fn rfl (hV) HbF.h zL2 zD ?_; refine r_nn zN zH ?_) | (refine r_fn rfl (hQ) HbF.h zL2 zD ?_; refine r_nn zN zH ?_) | (refine r_append_full SlF.h SlF.s ZoF.h zd rfl rfl zC zJ zS rfl (fun hn => ?_) (fun hn => ?_) <;> refine r_nn zN zH ?_)) | fail)
        refine ih (k + 1) _ zo zo ?_
        rw [hst2]
        (refine St.Le.clean zR zU zV)
  · have he := hend zo
    subst he
    repeat' (first | refine yw ?_ | ((with_reducible refine Runs.is ?_); first | refine Runs.region (id := 4) ?_ | ((with_reducible refine Runs.isC ?_); refine Runs.cond rfl (zc ?_) (zc ?_) <;> intro hc <;> (try (first | contradiction | (exfalso; omega; done) | (have : hc = trivial := rfl; clear this; clear hc))))) | ((with_reducible refine r_is ?_); first | refine yr ?_) | fail)
    repeat' (first | refine yw ?_ | ((with_reducible refine Runs.is ?_); first | refine Runs.region (id := 12) ?_ | ((with_reducible refine Runs.isC ?_); refine Runs.cond rfl (zc ?_) (zc ?_) <;> intro hc <;> (try (first | contradiction | (exfalso; omega; done) | (have : hc = trivial := rfl; clear this; clear hc))))) | ((with_reducible refine r_is ?_); first | refine yr ?_) | fail)
    exact Runs.ret_frz Tryz.func11 rfl rfl rfl (by simp)
end Go.Proofs
namespace Go.Proofs
open Go.AM
attribute [local irreducible] AM.evalR AM.evalD AM.Runs AM.valK AM.dK AM.opK AM.stepR AM.CallS AM.St.Le
def wantI (base c : Config) : Int := if eqvB c base = true then 2 else 1
def wantStep (got : List Int) (w : Int) (acc : List Bool) (m : Member) : List Bool := if (1 ≤ m.server ∧ m.server ≤ 12) ∧ got.getD m.server.toNat default < w then acc.set m.server.toNat true else acc
def confStep (g : View) (base : Config) (got : List Int) (acc : List Bool) (c : Config) : List Bool := (viewOf g c).members.foldl (wantStep got (wantI base c)) acc
def wan0 : List Bool := List.replicate 13 false
def wantL (g : View) (base : Config) (got : List Int) (l : List Config) : List Bool := l.foldl (confStep g base got) wan0
def useL (w : List Bool) : List Int := (upto 0 12).filter fun s => w.getD s.toNat default
theorem wantStep_len (got : List Int) (w : Int) (acc : List Bool) (m : Member) : (wantStep got w acc m).length = acc.length := by
  unfold wantStep; split <;> simp
theorem wantF_len (got : List Int) (w : Int) : ∀ (ms : List Member) (acc : List Bool), (ms.foldl (wantStep got w) acc).length = acc.length
  | [], _ => rfl
  | m :: ms, acc => by rw [List.foldl_cons, wantF_len got w ms, wantStep_len]
theorem confF_len (g : View) (base : Config) (got : List Int) : ∀ (l : List Config) (acc : List Bool), (l.foldl (confStep g base got) acc).length = acc.length
  | [], _ => rfl
  | c :: l, acc => by rw [List.foldl_cons, confF_len g base got l, confStep, wantF_len]
theorem v_index_arB {P : Program} {e : Operand → V} {H : AM.Heap} {K : V → Prop} {t : TypeId} {x y : Operand} {k : IntKind} {j : Int} {n : Nat} {l : List Bool} (ha : arv P t = some (n, false, 1)) (hx : e x = .agg (l.map V.b)) (hi : e y = .sc (.int k j)) (hl : l.length = n) (hj : 0 ≤ j ∧ j < n) (h : K (.b (l.getD j.toNat default))) : valK P (.index t x y) e H K := by
  refine v_index_arr ha hx hi ⟨hj, Nat.one_pos, by rw [List.length_map, hl, Nat.mul_one]⟩ ?_
  rw [show V.sub false (j.toNat * 1) 1 (.agg (l.map V.b)) = (l.map V.b).getD (j.toNat * 1) .any from rfl, Nat.mul_one, getD_map V.b l j.toNat .any zo]
  exact h
theorem tally_Useful (f h f2 : Bool) (g : View) (a b : Config) (acks : List Source) (l : List Config) (hM : AM.Fn Tryz.prog 11 [viV g, .sl f (a.map prV), .sl h (b.map prV), .sl f2 (acks.map soV)] (.sl false (l.map cfV))) (hF : Fair g l) (hk : acks.length ≤ 1000000) :
    AM.Fn Tryz.prog 8 [viV g, .sl f (a.map prV), .sl h (b.map prV), .sl f2 (acks.map soV)] (.sl false ((useL (wantL g a (colI acks) l)).map .i)) := by
  have hcol := tally_collect f2 acks hk
  have hlen : (colI acks).length = 13 := colI_len acks ans0
  have hgl := hF.gl
  have hn := hF.n
  generalize colI acks = got at *
  have hcl : (arI got).cells.length = 13 := by show (got.map V.i).length = 13; rw [List.length_map]; exact hlen
  have hok : (arI got).okCells = true := by show (got.map V.i).all V.one = true; rw [List.all_map]; exact List.all_eq_true.2 fun _ _ => rfl
  have hwl : ∀ k, ((l.take k).foldl (confStep g a got) wan0).length = 13 := fun k => confF_len g a got (l.take k) wan0
  (refine spec_of_runs Tryz.func8 rfl ?_; simp only [Tryz.f8]; refine ys ?_)
  repeat' (first | refine yw ?_ | ((with_reducible refine Runs.is ?_); first | refine Runs.region (id := 0) ?_ | refine Runs.region (id := 1) ?_ | refine Runs.region (id := 2) ?_ | refine Runs.region (id := 3) ?_ | ((with_reducible refine Runs.isC ?_); refine Runs.cond rfl (zc ?_) (zc ?_) <;> intro hc <;> (try (first | contradiction | (exfalso; omega; done) | (have : hc = trivial := rfl; clear this; clear hc))))) | ((with_reducible refine r_is ?_); first | refine yr ?_ | (refine r_fn rfl (hcol) HbF.h zL1 zD ?_; refine r_nn zN zH ?_) | (refine r_fn rfl (hM) HbF.h zL4 zD ?_; refine r_nn zN zH ?_)) | fail)
  refine r_storeW TyF.h rfl rfl ⟨by decide, by decide, hcl, hok⟩ (by show V.agg ([] ++ got.map V.i ++ List.drop (0 + (got.map V.i).length) (ans0.map V.i)) = _; rw [List.length_map, hlen, show List.drop (0 + 13) (ans0.map V.i) = [] from rfl, List.append_nil]; rfl) ?_
  refine r_nn zN zH ?_
  repeat' (first | refine yw ?_ | ((with_reducible refine Runs.is ?_); first | refine Runs.region (id := 1) ?_ | refine Runs.region (id := 2) ?_ | refine Runs.region (id := 3) ?_ | ((with_reducible refine Runs.isC ?_); refine Runs.cond rfl (zc ?_) (zc ?_) <;> intro hc <;> (try (first | contradiction | (exfalso; omega; done) | (have : hc = trivial := rfl; clear this; clear hc))))) | ((with_reducible refine r_is ?_); first | refine yr ?_ | (refine r_fn rfl (hcol) HbF.h zL1 zD ?_; refine r_nn zN zH ?_) | (refine r_fn rfl (hM) HbF.h zL4 zD ?_; refine r_nn zN zH ?_)) | fail)
  refine Runs.loopI (fun k : Nat => l.length - k) (fun k => k ≤ l.length)
    (fun k => ⟨[.any, .sl f (a.map prV), .any, .any, .ptr 4 0 0, .any, .any, .any, .any, .ptr 9 0 0, .ptr 10 0 0, .any, .any, .any, .any, .any, .any, .any, .any, .any, .any, .any, .any, .any, .any, .sl false (l.map cfV), .i (l.length : Nat), .i (k : Nat), .any, .any, .any, .any, .any, .any, .any, .any, .any, .any, .any, .any, .any, .any, .any, .any, .any, .any, .any, .any, .any, .any, .any, .any, .any, .any, .any, .any, .any, .any, .any, .any, .any, .any, .any, .any, .any, .any, .any, .any, .any, .any, .any, .any, .any, .any, .any, .any], [(10, .var 66 (.agg (((l.take k).foldl (confStep g a got) wan0).map .b))), (9, .var 64 (arI got)), (4, .var 27 (viV g))]⟩) 0 (Nat.zero_le _) ?_ ?_
  · (refine St.Le.clean zR zU zV)
  intro k hk2 ih
  have hst := fun (h : k < l.length) => foldl_take (g := confStep g a got) (s := wan0) h
  have hend : l.length ≤ k → (l.take k).foldl (confStep g a got) wan0 = wantL g a got l := fun h => by rw [List.take_of_length_le h]; rfl
  have hw := hwl k
  generalize (l.take k).foldl (confStep g a got) wan0 = acc at *
  by_cases hlt : k < l.length
  · have hst2 : (l.take (k + 1)).foldl (confStep g a got) wan0 = (viewOf g (l.getD k default)).members.foldl (wantStep got (if eqvB (l.getD k default) a = true then 2 else 1)) acc := hst hlt
    have hc0 := getD_in hlt
    have hE := config_Equal false f (l.getD k default) a
    have hV := tally_view false g (l.getD k default) hF.gl (hF.c _ hc0).1 (hF.c _ hc0).2
    have hlm := (hF.v _ hc0).1.1
    change AM.Fn _ _ _ (.b (eqvB (l.getD k default) a)) at hE
    generalize viewOf g (l.getD k default) = v at *
    obtain ⟨ms, vr⟩ := v
    dsimp only at hst2 hlm
    cases hb : eqvB (l.getD k default) a
    all_goals (rw [hb] at hE)
    all_goals (repeat' (first | refine yw ?_ | ((with_reducible refine Runs.is ?_); first | refine Runs.region (id := 4) ?_ | refine Runs.region (id := 5) ?_ | refine Runs.region (id := 6) ?_ | refine Runs.region (id := 7) ?_ | refine Runs.region (id := 8) ?_ | refine Runs.region (id := 9) ?_ | ((with_reducible refine Runs.isC ?_); refine Runs.cond rfl (zc ?_) (zc ?_) <;> intro hc <;> (try (first | contradiction | (exfalso; omega; done) | (have : hc = trivial := rfl; clear this; clear hc))))) | ((with_reducible refine r_is ?_); first | refine yr ?_ | (refine r_fn rfl (hE) HbF.h zL2 zD ?_; refine r_nn zN zH ?_) | (refine r_fn rfl (hV) HbF.h zL2 zD ?_; refine r_nn zN zH ?_)) | fail))
    all_goals (refine Runs.loopI (fun j : Nat => ms.length - j) (fun j => j ≤ ms.length) (fun j => ⟨[.any, .sl f (a.map prV), .any, .any, .ptr 4 0 0, .any, .any, .any, .any, .ptr 9 0 0, .ptr 10 0 0, .any, .any, .i (if eqvB (l.getD k default) a = true then 2 else 1), .any, .any, .any, .any, .any, .any, .any, .any, .any, .any, .any, .sl false (l.map cfV), .i (l.length : Nat), .i (k : Nat), .any, .any, .any, .any, .any, .any, .any, .any, .any, .sl false (ms.map mbV), .i (ms.length : Nat), .i (j : Nat), .any, .any, .any, .any, .any, .any, .any, .any, .any, .any, .any, .any, .any, .any, .any, .any, .any, .any, .any, .any, .any, .any, .any, .any, .any, .any, .any, .any, .any, .any, .any, .any, .any, .any, .any, .any], [(10, .var 66 (.agg (((ms.take j).foldl (wantStep got (if eqvB (l.getD k default) a = true then 2 else 1)) acc).map .b))), (9, .var 64 (arI got)), (4, .var 27 (viV g))]⟩) 0 (Nat.zero_le _) ?_ ?_)
    all_goals first
      | (rw [hb]
         (refine St.Le.clean zR zU zV)
         done)
      | skip
    all_goals generalize (if eqvB (l.getD k default) a = true then (2 : Int) else 1) = w at *
    all_goals (intro j hj ihj)
    all_goals have hsj := fun (h : j < ms.length) => foldl_take (g := wantStep got w) (s := acc) h
    all_goals have hej : ms.length ≤ j → (ms.take j).foldl (wantStep got w) acc = ms.foldl (wantStep got w) acc := fun h => by rw [List.take_of_length_le h]
    all_goals have hwj : ((ms.take j).foldl (wantStep got w) acc).length = 13 := by rw [wantF_len]; exact hw
    all_goals generalize (ms.take j).foldl (wantStep got w) acc = ac2 at *
    all_goals
      by_cases hjt : j < ms.length
      · have hs2 : (ms.take (j + 1)).foldl (wantStep got w) acc = if (1 ≤ (ms.getD j default).server ∧ (ms.getD j default).server ≤ 12) ∧ got.getD (ms.getD j default).server.toNat default < w then ac2.set (ms.getD j default).server.toNat true else ac2 := hsj hjt
        repeat' (first | refine yw ?_ | ((with_reducible refine Runs.is ?_); first | refine Runs.region (id := 10) ?_ | refine Runs.region (id := 11) ?_ | refine Runs.region (id := 12) ?_ | ((with_reducible refine Runs.isC ?_); refine Runs.cond rfl (zc ?_) (zc ?_) <;> intro hc <;> (try (first | contradiction | (exfalso; omega; done) | (have : hc = trivial := rfl; clear this; clear hc))))) | ((with_reducible refine r_is ?_); first | refine yr ?_ | ((with_reducible refine r_gd ?_); (first | refine r_guardPt rfl rfl ?_ ?_ | refine r_guardNt rfl rfl ?_ ?_ | refine r_guard rfl rfl ?_ ?_) <;> intro hG <;> (try (exfalso; omega; done)) <;> refine r_nn zN zH ?_)) | fail)
        all_goals first
          | (refine r_v rfl (v_load_arr (k := (ms.getD j default).server.toNat) TyF.h rfl rfl zo zo ?_)
             refine r_n zN ?_
             repeat' (first | refine yw ?_ | ((with_reducible refine Runs.is ?_); first | refine Runs.region (id := 12) ?_ | ((with_reducible refine Runs.isC ?_); refine Runs.cond rfl (zc ?_) (zc ?_) <;> intro hc <;> (try (first | contradiction | (exfalso; omega; done) | (have : hc = trivial := rfl; clear this; clear hc))))) | ((with_reducible refine r_is ?_); first | refine yr ?_ | ((with_reducible refine r_gd ?_); (first | refine r_guardPt rfl rfl ?_ ?_ | refine r_guardNt rfl rfl ?_ ?_ | refine r_guard rfl rfl ?_ ?_) <;> intro hG <;> (try (exfalso; omega; done)) <;> refine r_nn zN zH ?_)) | fail)
             · rw [if_pos ⟨⟨by omega, by omega⟩, by assumption⟩] at hs2
               refine Runs.region ?_
               refine r_v rfl (v_fieldAddr_ptr FlF.h rfl ?_)
               refine r_n zN ?_
               refine r_v rfl (v_load_part TyF.h rfl rfl zE zd ?_)
               refine r_n zN ?_
               refine r_v rfl (v_indexAddr_arr SlN.h ArF.h rfl rfl zS ?_)
               refine r_n zN ?_
               refine r_store_arr (k := (ms.getD j default).server.toNat) true TyF.h rfl rfl rfl ⟨rfl, rfl⟩ zo zo ?_
               refine r_nn zN zH ?_
               generalize ac2.set (ms.getD j default).server.toNat true = ac3 at *
               repeat' (first | refine yw ?_ | ((with_reducible refine Runs.is ?_); first | refine Runs.region (id := 14) ?_ | ((with_reducible refine Runs.isC ?_); refine Runs.cond rfl (zc ?_) (zc ?_) <;> intro hc <;> (try (first | contradiction | (exfalso; omega; done) | (have : hc = trivial := rfl; clear this; clear hc))))) | ((with_reducible refine r_is ?_); first | refine yr ?_) | fail)
               refine ihj (j + 1) _ zo zo ?_
               rw [hs2]
               (refine St.Le.clean zR zU zV)
             · rw [if_neg zo] at hs2
               repeat' (first | refine yw ?_ | ((with_reducible refine Runs.is ?_); first | refine Runs.region (id := 14) ?_ | ((with_reducible refine Runs.isC ?_); refine Runs.cond rfl (zc ?_) (zc ?_) <;> intro hc <;> (try (first | contradiction | (exfalso; omega; done) | (have : hc = trivial := rfl; clear this; clear hc))))) | ((with_reducible refine r_is ?_); first | refine yr ?_) | fail)
               refine ihj (j + 1) _ zo zo ?_
               rw [hs2]
               (refine St.Le.clean zR zU zV)
             done)
          | (rw [if_neg zo] at hs2
             repeat' (first | refine yw ?_ | ((with_reducible refine Runs.is ?_); first | refine Runs.region (id := 14) ?_ | ((with_reducible refine Runs.isC ?_); refine Runs.cond rfl (zc ?_) (zc ?_) <;> intro hc <;> (try (first | contradiction | (exfalso; omega; done) | (have : hc = trivial := rfl; clear this; clear hc))))) | ((with_reducible refine r_is ?_); first | refine yr ?_) | fail)
             refine ihj (j + 1) _ zo zo ?_
             rw [hs2]
             (refine St.Le.clean zR zU zV)
             done)
          | trace_state
      · have he := hej zo
        subst he
        repeat' (first | refine yw ?_ | ((with_reducible refine Runs.is ?_); first | refine Runs.region (id := 10) ?_ | ((with_reducible refine Runs.isC ?_); refine Runs.cond rfl (zc ?_) (zc ?_) <;> intro hc <;> (try (first | contradiction | (exfalso; omega; done) | (have : hc = trivial := rfl; clear this; clear hc))))) | ((with_reducible refine r_is ?_); first | refine yr ?_) | fail)
        repeat' (first | refine yw ?_ | ((with_reducible refine Runs.is ?_); first | refine Runs.region (id := 15) ?_ | ((with_reducible refine Runs.isC ?_); refine Runs.cond rfl (zc ?_) (zc ?_) <;> intro hc <;> (try (first | contradiction | (exfalso; omega; done) | (have : hc = trivial := rfl; clear this; clear hc))))) | ((with_reducible refine r_is ?_); first | refine yr ?_) | fail)
        refine ih (k + 1) _ zo zo ?_
        rw [hst2]
        (refine St.Le.clean zR zU zV)
  · have he := hend zo
    subst he
    clear ih hst hend
    have hwl2 : (wantL g a got l).length = 13 := confF_len g a got l wan0
    generalize wantL g a got l = w at *
    repeat' (first | refine yw ?_ | ((with_reducible refine Runs.is ?_); first | refine Runs.region (id := 4) ?_ | ((with_reducible refine Runs.isC ?_); refine Runs.cond rfl (zc ?_) (zc ?_) <;> intro hc <;> (try (first | contradiction | (exfalso; omega; done) | (have : hc = trivial := rfl; clear this; clear hc))))) | ((with_reducible refine r_is ?_); first | refine yr ?_) | fail)
    repeat' (first | refine yw ?_ | ((with_reducible refine Runs.is ?_); first | refine Runs.region (id := 16) ?_ | refine Runs.region (id := 17) ?_ | ((with_reducible refine Runs.isC ?_); refine Runs.cond rfl (zc ?_) (zc ?_) <;> intro hc <;> (try (first | contradiction | (exfalso; omega; done) | (have : hc = trivial := rfl; clear this; clear hc))))) | ((with_reducible refine r_is ?_); first | refine yr ?_) | fail)
    refine r_v rfl (v_load_var TyF.h rfl rfl (by show (w.map V.b).length = 13; rw [List.length_map]; exact hwl2) zd (by show V.agg (((w.map V.b).drop 0).take 13) = _; rw [List.drop_zero, List.take_of_length_le (by rw [List.length_map]; omega)]) ?_)
    refine r_n zN ?_
    repeat' (first | refine yw ?_ | ((with_reducible refine Runs.is ?_); first | refine Runs.region (id := 17) ?_ | ((with_reducible refine Runs.isC ?_); refine Runs.cond rfl (zc ?_) (zc ?_) <;> intro hc <;> (try (first | contradiction | (exfalso; omega; done) | (have : hc = trivial := rfl; clear this; clear hc))))) | ((with_reducible refine r_is ?_); first | refine yr ?_) | fail)
    (refine Runs.weaken (St.Le.nil 16 3 1 16 zd rfl rfl zE) ?_)
    refine Runs.loopI (α := Int) (fun i => (13 - i).toNat) (fun i => 0 ≤ i ∧ i ≤ 13)
      (fun i => ⟨[.any, .any, .any, .any, .any, .any, .any, .any, .any, .any, .any, .any, .any, .any, .any, .any, .own 16, .any, .any, .any, .any, .any, .any, .any, .any, .any, .any, .any, .any, .any, .any, .any, .any, .any, .any, .any, .any, .any, .any, .any, .any, .any, .any, .any, .any, .any, .any, .any, .any, .any, .any, .any, .any, .any, .any, .any, .any, .any, .any, .any, .any, .any, .any, .any, .agg (w.map .b), .i i, .any, .any, .any, .any, .any, .any, .any, .any, .any, .any], [(16, .lst 3 1 (((upto 0 (i - 1)).filter fun s => w.getD s.toNat default).map .i))]⟩) 0 ⟨by decide, by decide⟩ ?_ ?_
    · rw [show upto 0 (0 - 1) = [] from rfl]
      (refine St.Le.clean zR zU zV)
    rintro i ⟨hi1, hi2⟩ ih
    have hlen2 : ((upto 0 (i - 1)).filter fun s => w.getD s.toNat default).length ≤ 13 := by
      have h1 := List.length_filter_le (fun s => w.getD s.toNat default) (upto 0 (i - 1))
      rw [upto_len] at h1; omega
    have hst : ((upto 0 (i + 1 - 1)).filter fun s => w.getD s.toNat default) = ((upto 0 (i - 1)).filter fun s => w.getD s.toNat default) ++ (if w.getD i.toNat default = true then [i] else []) := by
      rw [show i + 1 - 1 = i by omega, upto_snoc zo, List.filter_append]
      congr 1
      simp only [List.filter_cons, List.filter_nil]
    have hend : ¬ i < 13 → ((upto 0 (i - 1)).filter fun s => w.getD s.toNat default) = useL w := fun h => by rw [show i - 1 = 12 by omega]; rfl
    generalize ((upto 0 (i - 1)).filter fun s => w.getD s.toNat default) = acc at *
    repeat' (first | refine yw ?_ | ((with_reducible refine Runs.is ?_); first | refine Runs.region (id := 18) ?_ | ((with_reducible refine Runs.isC ?_); refine Runs.cond rfl (zc ?_) (zc ?_) <;> intro hc <;> (try (first | contradiction | (exfalso; omega; done) | (have : hc = trivial := rfl; clear this; clear hc))))) | ((with_reducible refine r_is ?_); first | refine yr ?_) | fail)
    · refine Runs.region ?_
      refine r_v rfl (v_move ?_)
      refine r_n zN ?_
      refine r_v rfl (v_index_arB ArF.h rfl rfl hwl2 ⟨by omega, by omega⟩ ?_)
      refine r_n zN ?_
      generalize w.getD i.toNat default = got2 at *
      have hkl : V.LeL (V.killL 16 (List.map V.b w)) (List.map V.b w) := by rw [V.killL_data _ _ (dl_bo w)]; exact V.LeL.refl _
      repeat' (first | refine yw ?_ | ((with_reducible refine Runs.is ?_); first | refine Runs.region (id := 19) ?_ | refine Runs.region (id := 20) ?_ | refine Runs.region (id := 21) ?_ | refine Runs.region (id := 22) ?_ | ((with_reducible refine Runs.isC ?_); refine Runs.cond rfl (zc ?_) (zc ?_) <;> intro hc <;> (try (first | contradiction | (exfalso; omega; done) | (have : hc = trivial := rfl; clear this; clear hc))))) | ((with_reducible refine r_is ?_); first | refine yr ?_ | (refine r_append_full SlF.h SlF.s ZoF.h zd rfl rfl zC zJ zS rfl (fun hn => ?_) (fun hn => ?_) <;> refine r_nn zN zH ?_)) | fail)
      · rw [if_pos (by assumption)] at hst
        refine ih (i + 1) _ ⟨by omega, by omega⟩ zo ?_
        rw [hst]
        (refine St.Le.clean zR zU zV)
      · rw [if_neg (by rw [hc]; decide), List.append_nil] at hst
        refine ih (i + 1) _ ⟨by omega, by omega⟩ zo ?_
        rw [hst]
        (refine St.Le.clean zR zU zV)
    · have he := hend zo
      subst he
      repeat' (first | refine yw ?_ | ((with_reducible refine Runs.is ?_); first | refine Runs.region (id := 23) ?_ | ((with_reducible refine Runs.isC ?_); refine Runs.cond rfl (zc ?_) (zc ?_) <;> intro hc <;> (try (first | contradiction | (exfalso; omega; done) | (have : hc = trivial := rfl; clear this; clear hc))))) | ((with_reducible refine r_is ?_); first | refine yr ?_) | fail)
      exact Runs.ret_frz Tryz.func8 rfl rfl rfl (by simp)
end Go.Proofs
namespace Go.Proofs
open Go.AM
attribute [local irreducible] AM.evalR AM.evalD AM.Runs AM.valK AM.dK AM.opK AM.stepR AM.CallS AM.St.Le
def complB (g : View) (a b : Config) (acks : List Source) (l : List Config) : Bool := withinB a b a && decide ((missL g a acks l).length = 0)
theorem tally_Complete (f h f2 : Bool) (g : View) (a b : Config) (acks : List Source) (l : List Config) (hM : AM.Fn Tryz.prog 11 [viV g, .sl f (a.map prV), .sl h (b.map prV), .sl f2 (acks.map soV)] (.sl false ((missL g a acks l).map cfV))) :
    AM.Fn Tryz.prog 9 [viV g, .sl f (a.map prV), .sl h (b.map prV), .sl f2 (acks.map soV)] (.b (complB g a b acks l)) := by
  have hW := interval_Within f h f a b a
  unfold complB
  generalize missL g a acks l = ms at *
  generalize withinB a b a = wb at *
  cases wb
  · rw [Bool.false_and]
    (refine spec_of_runs Tryz.func9 rfl ?_; simp only [Tryz.f9]; refine ys ?_)
    repeat' (first | refine yw ?_ | ((with_reducible refine Runs.is ?_); first | refine Runs.region ?_ | ((with_reducible refine Runs.isC ?_); refine Runs.cond rfl (zc ?_) (zc ?_) <;> intro hc <;> (try (first | contradiction | (exfalso; omega; done) | (have : hc = trivial := rfl; clear this; clear hc))))) | ((with_reducible refine r_is ?_); first | refine yr ?_ | (refine r_fn rfl (hW) HbF.h zL3 zD ?_; refine r_nn zN zH ?_) | ((with_reducible refine r_gd ?_); (first | refine r_guardPt rfl rfl ?_ ?_ | refine r_guardNt rfl rfl ?_ ?_ | refine r_guard rfl rfl ?_ ?_) <;> intro hG <;> (try (exfalso; omega; done)) <;> refine r_nn zN zH ?_)) | fail)
    (refine Runs.ret1 Tryz.func9 rfl zM zD ?_; try exact zX)
  · rw [Bool.true_and]
    (refine spec_of_runs Tryz.func9 rfl ?_; simp only [Tryz.f9]; refine ys ?_)
    repeat' (first | refine yw ?_ | ((with_reducible refine Runs.is ?_); first | refine Runs.region ?_ | ((with_reducible refine Runs.isC ?_); refine Runs.cond rfl (zc ?_) (zc ?_) <;> intro hc <;> (try (first | contradiction | (exfalso; omega; done) | (have : hc = trivial := rfl; clear this; clear hc))))) | ((with_reducible refine r_is ?_); first | refine yr ?_ | (refine r_fn rfl (hW) HbF.h zL3 zD ?_; refine r_nn zN zH ?_) | (refine r_fn rfl (hM) HbF.h zL4 zD ?_; refine r_nn zN zH ?_) | ((with_reducible refine r_gd ?_); (first | refine r_guardPt rfl rfl ?_ ?_ | refine r_guardNt rfl rfl ?_ ?_ | refine r_guard rfl rfl ?_ ?_) <;> intro hG <;> (try (exfalso; omega; done)) <;> refine r_nn zN zH ?_)) | fail)
    (refine Runs.ret1 Tryz.func9 rfl zM zD ?_; try exact zX)
def tawG : View := ⟨[⟨1, 1⟩, ⟨2, 1⟩, ⟨3, 1⟩], ⟨1, 0, 0⟩⟩
def tawA : List Source := [⟨1, true⟩, ⟨2, true⟩]
def tawB : List Source := [⟨1, true⟩, ⟨2, false⟩]
theorem taw_all : allB [] [] = [[]] := by decide +kernel
theorem taw_within : withinB [] [] [] = true := by decide +kernel
theorem taw_view : viewOf tawG [] = tawG := by decide +kernel
theorem taw_fair : Fair tawG [[]] := by
  refine ⟨by decide, by decide, fun c hc => ?_, fun c hc => ?_⟩
  · rw [List.mem_singleton.1 hc]; exact ⟨by decide, fun p hp => by cases hp⟩
  · rw [List.mem_singleton.1 hc, taw_view]
    exact ⟨⟨by decide, by decide⟩, by unfold RuleOK; decide⟩
theorem taw_mA : missL tawG [] tawA [[]] = [] := by
  unfold missL okC
  simp only [List.filter_cons, List.filter_nil, taw_view]
  decide +kernel
theorem taw_mB : missL tawG [] tawB [[]] = [[]] := by
  unfold missL okC
  simp only [List.filter_cons, List.filter_nil, taw_view]
  decide +kernel
theorem taw_uB : useL (wantL tawG [] (colI tawB) [[]]) = [2, 3] := by
  unfold wantL confStep
  simp only [List.foldl_cons, List.foldl_nil, taw_view]
  decide +kernel
theorem taw_uA : useL (wantL tawG [] (colI tawA) []) = [] := by decide +kernel
theorem law_awake18 : AM.Fn Tryz.prog 10 [] (.b true) := by
  have hAl := interval_All true true [] [] zd ⟨by decide, by decide +kernel⟩ zd (by unfold Fine; decide +kernel)
  rw [taw_all] at hAl
  have hMA := tally_Missing true true false tawG [] [] tawA [[]] hAl taw_fair zd
  have hMB := tally_Missing true true false tawG [] [] tawB [[]] hAl taw_fair zd
  have hCA := tally_Complete true true false tawG [] [] tawA [[]] hMA
  have hCB := tally_Complete true true false tawG [] [] tawB [[]] hMB
  unfold complB at hCA hCB
  rw [taw_mA] at hMA hCA
  rw [taw_mB] at hMB hCB
  rw [taw_within] at hCA hCB
  rw [show (true && decide (([] : List Config).length = 0)) = true from rfl] at hCA
  rw [show (true && decide (([[]] : List Config).length = 0)) = false from rfl] at hCB
  have hUA := tally_Useful true true false tawG [] [] tawA [] hMA ⟨by decide, by decide, fun c hc => (by cases hc), fun c hc => (by cases hc)⟩ zd
  have hUB := tally_Useful true true false tawG [] [] tawB [[]] hMB taw_fair zd
  rw [taw_uA] at hUA
  rw [taw_uB] at hUB
  (refine spec_of_runs Tryz.func10 rfl ?_; simp only [Tryz.f10]; refine ys ?_)
  repeat' (first | refine yw ?_ | ((with_reducible refine Runs.is ?_); first | refine Runs.region (id := 0) ?_ | refine Runs.region (id := 1) ?_ | ((with_reducible refine Runs.isC ?_); refine Runs.cond rfl (zc ?_) (zc ?_) <;> intro hc <;> (try (first | contradiction | (exfalso; omega; done) | (have : hc = trivial := rfl; clear this; clear hc))))) | ((with_reducible refine r_is ?_); first | refine yrb ?_ | (refine r_buildOwn (D := 7) SlF.h ZoF.h zd zB zd rfl ?_; refine r_nn zN zH ?_) | (refine r_build SlF.h ZoF.h zd zB ?_; refine r_n zN ?_)) | fail)
  (refine Runs.weaken (St.Le.freeze_lst 7 rfl) ?_; refine yf ?_)
  repeat' (first | refine yw ?_ | ((with_reducible refine Runs.is ?_); first | refine Runs.region (id := 2) ?_ | ((with_reducible refine Runs.isC ?_); refine Runs.cond rfl (zc ?_) (zc ?_) <;> intro hc <;> (try (first | contradiction | (exfalso; omega; done) | (have : hc = trivial := rfl; clear this; clear hc))))) | ((with_reducible refine r_is ?_); first | refine yrb ?_ | (refine r_buildOwn (D := 12) SlF.h ZoF.h zd zB zd rfl ?_; refine r_nn zN zH ?_) | (refine r_build SlF.h ZoF.h zd zB ?_; refine r_n zN ?_)) | fail)
  (refine Runs.weaken (St.Le.freeze_lst 12 rfl) ?_; refine yf ?_)
  repeat' (first | refine yw ?_ | ((with_reducible refine Runs.is ?_); first | refine Runs.region (id := 3) ?_ | ((with_reducible refine Runs.isC ?_); refine Runs.cond rfl (zc ?_) (zc ?_) <;> intro hc <;> (try (first | contradiction | (exfalso; omega; done) | (have : hc = trivial := rfl; clear this; clear hc))))) | ((with_reducible refine r_is ?_); first | refine yrb ?_ | (refine r_buildOwn (D := 15) SlF.h ZoF.h zd zB zd rfl ?_; refine r_nn zN zH ?_) | (refine r_build SlF.h ZoF.h zd zB ?_; refine r_n zN ?_)) | fail)
  (refine Runs.weaken (St.Le.freeze_lst 15 rfl) ?_; refine yf ?_)
  refine Runs.weaken (St.Le.clean (s' := ⟨[.any, .ptr 1 0 0, .sl false (tawA.map soV), .sl false (tawB.map soV), .any, .any, .any, .any, .any, .any, .any, .any, .any, .any, .any, .any, .any, .any, .any, .any, .any, .any, .any, .any, .any, .any, .any, .any, .any, .any, .any, .any, .any, .any, .any, .any, .any, .any, .any, .any, .any, .any, .any, .any, .any, .any], [(1, .var 27 (viV tawG))]⟩) (by repeat' (first | exact V.LeL.nil | refine V.LeL.cons ?_ ?_ | exact V.Le.any _ | exact V.Le.full _ | exact V.Le.refl _)) (by simp [V.usesL, V.uses, AM.look_cons, V.usesL_data, da_soV]) (by simp [AM.sub, AM.look_cons, V.uses, V.uses_data, da_viV]; try rfl)) ?_
  clear hMA hAl
  have l1 : ([[]] : List Config).length = 1 := rfl
  have l2 : ([2, 3] : List Int).length = 2 := rfl
  generalize tawG = g at *
  generalize tawA = sa at *
  generalize tawB = sb at *
  generalize ([2, 3] : List Int) = u at *
  generalize ([[]] : List Config) = m at *
  repeat' (first | refine yw ?_ | ((with_reducible refine Runs.is ?_); first | refine Runs.region (id := 4) ?_ | ((with_reducible refine Runs.isC ?_); refine Runs.cond rfl (zc ?_) (zc ?_) <;> intro hc <;> (try (first | contradiction | (exfalso; omega; done) | (have : hc = trivial := rfl; clear this; clear hc))))) | ((with_reducible refine r_is ?_); first | refine yr ?_ | (refine r_fn rfl (hCA) HbF.h zL4 zD ?_; refine r_nn zN zH ?_) | (refine r_fn rfl (hCB) HbF.h zL4 zD ?_; refine r_nn zN zH ?_) | (refine r_fn rfl (hMB) HbF.h zL4 zD ?_; refine r_nn zN zH ?_) | (refine r_fn rfl (hUB) HbF.h zL4 zD ?_; refine r_nn zN zH ?_) | (refine r_fn rfl (hUA) HbF.h zL4 zD ?_; refine r_nn zN zH ?_) | ((with_reducible refine r_gd ?_); (first | refine r_guardPt rfl rfl ?_ ?_ | refine r_guardNt rfl rfl ?_ ?_ | refine r_guard rfl rfl ?_ ?_) <;> intro hG <;> (try (exfalso; omega; done)) <;> refine r_nn zN zH ?_)) | fail)
  all_goals ((refine Runs.ret1 Tryz.func10 rfl zM zD ?_; try exact zX))
end Go.Proofs
namespace Go.Proofs
open Go.AM
attribute [local irreducible] AM.evalR AM.evalD AM.Runs AM.valK AM.dK AM.opK AM.stepR AM.CallS AM.St.Le
def LeB (a b : List Bool) : Prop := a.length = b.length ∧ ∀ i, i < a.length → a.getD i default = true → b.getD i default = true
theorem cntB_cons (x : Bool) (l : List Bool) : cntB (x :: l) = (if x = true then 1 else 0) + cntB l := by
  unfold cntB; cases x <;> simp; omega
theorem LeB.tail {x y : Bool} {a b : List Bool} (h : LeB (x :: a) (y :: b)) : (x = true → y = true) ∧ LeB a b := by
  refine ⟨fun q => ?_, by simpa using h.1, fun i hi q => ?_⟩
  · have := h.2 0 (by simp)
    simpa using this q
  · have := h.2 (i + 1) (by simp; omega)
    simpa using this (by simpa using q)
theorem cntB_mono : ∀ {a b : List Bool}, LeB a b → cntB a ≤ cntB b
  | [], b, h => by unfold cntB; simp
  | x :: a, [], h => by have := h.1; simp at this
  | x :: a, y :: b, h => by
    obtain ⟨h1, h2⟩ := h.tail
    have := cntB_mono h2
    rw [cntB_cons, cntB_cons]
    cases x
    · simp; omega
    · rw [h1 rfl]; simp; omega
theorem LeB.drop {a b : List Bool} (h : LeB a b) (n : Nat) : LeB (a.drop n) (b.drop n) := by
  refine ⟨by rw [List.length_drop, List.length_drop, h.1], fun i hi q => ?_⟩
  rw [List.length_drop] at hi
  rw [List.getD_eq_getElem?_getD, List.getElem?_drop, ← List.getD_eq_getElem?_getD] at q ⊢
  exact h.2 _ zo q
theorem LeB.take {a b : List Bool} (h : LeB a b) (n : Nat) : LeB (a.take n) (b.take n) := by
  refine ⟨by rw [List.length_take, List.length_take, h.1], fun i hi q => ?_⟩
  rw [List.length_take] at hi
  rw [List.getD_eq_getElem?_getD, List.getElem?_take_of_lt zo, ← List.getD_eq_getElem?_getD] at q ⊢
  exact h.2 _ zo q
theorem gRow_mono {a b : List Bool} (h : LeB a b) (c k : Nat) : LeB (gRow c a k) (gRow c b k) := (h.drop _).take _
theorem gridB_mono {a b : List Bool} (h : LeB a b) (c : Int) (hq : gridB c a = true) : gridB c b = true := by
  unfold gridB at hq ⊢
  split at hq
  · cases hq
  rename_i hc
  rw [if_neg hc]
  rw [Bool.and_eq_true, List.all_eq_true, List.any_eq_true, h.1] at hq
  rw [Bool.and_eq_true, List.all_eq_true, List.any_eq_true]
  obtain ⟨h1, k, hk, h2⟩ := hq
  refine ⟨fun j hj => ?_, k, hk, ?_⟩
  · have := h1 j hj
    unfold someB at this ⊢
    have hm := cntB_mono (gRow_mono h c.toNat j)
    simp only [decide_eq_true_eq] at this ⊢
    omega
  · unfold fullB at h2 ⊢
    have hm := cntB_mono (gRow_mono h c.toNat k)
    have hl := (gRow_mono h c.toNat k).1
    have hle := cntB_le (gRow c.toNat b k)
    simp only [decide_eq_true_eq] at h2 ⊢
    omega
theorem wInK_mono {ms : List Member} (hm : ∀ m ∈ ms, 0 ≤ m.weight) {a b : List Bool} (h : LeB a b) (hl : a.length = ms.length) : ∀ k, k ≤ ms.length → wInK ms a k ≤ wInK ms b k
  | 0, _ => Int.le_refl _
  | k + 1, hk => by
    have ih := wInK_mono hm h hl k zo
    have hw := hm _ (getD_in (show k < ms.length by omega))
    have hb := h.2 k zo
    rw [wInK, wInK]
    cases ha : a.getD k default
    · rw [if_neg zd]; split <;> omega
    · rw [if_pos rfl, if_pos (hb ha)]; omega
theorem quoB_mono {v : View} (hv : Light v.members) {a b : List Bool} (h : LeB a b) (hl : a.length = v.members.length) (hq : quoB v a = true) : quoB v b = true := by
  have hc := cntB_mono h
  have hw := wInK_mono (fun m hm => (hv.2 m hm).1) h hl v.members.length (Nat.le_refl _)
  unfold quoB at hq ⊢
  split at hq
  · cases hq
  rename_i h0
  rw [if_neg h0]
  split at hq
  · rename_i h1
    rw [if_pos h1]
    rw [decide_eq_true_eq] at hq ⊢; omega
  rename_i h1
  rw [if_neg h1]
  split at hq
  · rename_i h2
    rw [if_pos h2]
    rw [decide_eq_true_eq] at hq ⊢; omega
  rename_i h2
  rw [if_neg h2]
  split at hq
  · rename_i h3
    rw [if_pos h3]
    exact gridB_mono h _ hq
  rename_i h3
  rw [if_neg h3]
  split at hq
  · rename_i h4
    rw [if_pos h4]
    rw [decide_eq_true_eq] at hq ⊢; omega
  · cases hq
theorem leB_map (ms : List Member) {p q : Member → Bool} (h : ∀ m ∈ ms, p m = true → q m = true) : LeB (ms.map p) (ms.map q) := by
  refine ⟨by rw [List.length_map, List.length_map], fun i hi e => ?_⟩
  rw [List.length_map] at hi
  rw [map_getD p hi] at e
  rw [map_getD q hi]
  exact h _ (getD_in hi) e
def anyS (l : List Source) (s : Int) : Bool := l.any fun a => decide (a.server = s)
def anyF (l : List Source) (s : Int) : Bool := l.any fun a => decide (a.server = s) && a.filled
def valS (l : List Source) (s : Int) : Int := if anyF l s = true then 2 else if anyS l s = true then 1 else 0
theorem anyF_S {l : List Source} {s : Int} (h : anyF l s = true) : anyS l s = true := by
  obtain ⟨a, ha, e⟩ := List.any_eq_true.1 h
  rw [Bool.and_eq_true] at e
  exact List.any_eq_true.2 ⟨a, ha, e.1⟩
theorem getD_set {α : Type} [Inhabited α] {l : List α} {i j : Nat} {x : α} (h : j < l.length) : (l.set i x).getD j default = if i = j then x else l.getD j default := by
  rw [List.getD_eq_getElem?_getD, List.getElem?_set]
  by_cases e : i = j
  · subst e; rw [if_pos rfl, if_pos h, if_pos rfl]; rfl
  · rw [if_neg e, if_neg e, List.getD_eq_getElem?_getD]
theorem colI_val (s : Int) (hs : 1 ≤ s ∧ s ≤ 12) : ∀ (l : List Source), (colI l).getD s.toNat default = valS l s := by
  have gen : ∀ (l done : List Source) (a : List Int), a.length = 13 → a.getD s.toNat default = valS done s → (l.foldl colStep a).getD s.toNat default = valS (done ++ l) s := by
    intro l
    induction l with
    | nil => intro done a _ h; rw [List.append_nil]; exact h
    | cons x l ih =>
      intro done a hl h
      rw [List.foldl_cons]
      rw [show done ++ x :: l = (done ++ [x]) ++ l by simp]
      refine ih (done ++ [x]) _ (by rw [colStep_len]; exact hl) ?_
      have e1 : anyS (done ++ [x]) s = (anyS done s || decide (x.server = s)) := by unfold anyS; simp
      have e2 : anyF (done ++ [x]) s = (anyF done s || (decide (x.server = s) && x.filled)) := by unfold anyF; simp
      unfold colStep
      by_cases hr : x.server < 1 ∨ 12 < x.server
      · rw [if_pos hr, h]
        unfold valS
        rw [e1, e2, decide_eq_false (show ¬ x.server = s by omega)]
        simp
      · rw [if_neg hr]
        dsimp only
        by_cases e : x.server = s
        · have hfs := @anyF_S done s
          unfold valS at h ⊢
          rw [e1, e2, decide_eq_true e, e]
          cases hf : x.filled
          · rw [if_neg zd, getD_set zo, if_pos rfl, h]
            simp only [Bool.and_false, Bool.or_false, Bool.or_true, if_true]
            cases h1 : anyF done s <;> cases h2 : anyS done s <;> simp
          · rw [if_pos rfl, getD_set (by rw [List.length_set]; omega), if_pos rfl]
            simp
        · have hne : ¬ x.server.toNat = s.toNat := by omega
          unfold valS at h ⊢
          rw [e1, e2, decide_eq_false e]
          simp only [Bool.false_and, Bool.or_false]
          split
          · rw [getD_set (by rw [List.length_set]; omega), if_neg hne, getD_set zo, if_neg hne]; exact h
          · rw [getD_set zo, if_neg hne]; exact h
  intro l
  have := gen l [] ans0 rfl (by
    unfold valS anyF anyS ans0
    simp only [List.any_nil, Bool.false_eq_true, if_false]
    rw [List.getD_eq_getElem?_getD, List.getElem?_replicate, if_pos zo]; rfl)
  simpa [colI] using this
theorem mem_least (a : Int) (l : List Source) (s : Int) : s ∈ leastI a (colI l) ↔ (1 ≤ s ∧ s ≤ 12) ∧ a ≤ valS l s := by
  unfold leastI
  rw [List.mem_filter, mem_upto]
  constructor
  · rintro ⟨h1, h2⟩
    rw [decide_eq_true_eq, colI_val s h1] at h2
    exact ⟨h1, h2⟩
  · rintro ⟨h1, h2⟩
    refine ⟨h1, ?_⟩
    rw [decide_eq_true_eq, colI_val s h1]; exact h2
theorem least1 (l : List Source) (s : Int) : s ∈ leastI 1 (colI l) ↔ (1 ≤ s ∧ s ≤ 12) ∧ anyS l s = true := by
  rw [mem_least]
  unfold valS
  have := @anyF_S l s
  cases h1 : anyF l s <;> cases h2 : anyS l s <;> simp [h1, h2] at this ⊢
theorem least2 (l : List Source) (s : Int) : s ∈ leastI 2 (colI l) ↔ (1 ≤ s ∧ s ≤ 12) ∧ anyF l s = true := by
  rw [mem_least]
  unfold valS
  cases h1 : anyF l s <;> cases h2 : anyS l s <;> simp
theorem inSrv_iff {ss : List Int} {m : Member} : inSrv ss m = true ↔ m.server ∈ ss := by unfold inSrv; rw [List.contains_iff_mem]
end Go.Proofs
namespace Go.Proofs
open Go.AM
attribute [local irreducible] AM.evalR AM.evalD AM.Runs AM.valK AM.dK AM.opK AM.stepR AM.CallS AM.St.Le
theorem all_len64 {f : Nat → Nat → Proposal} (hf : Nice f) {a b : Config} (ha : IsCut f a) (hb : IsCut f b) : (allB a b).length ≤ 64 := by
  obtain ⟨i, j, k, h, rfl⟩ := ha
  obtain ⟨i', j', k', h', rfl⟩ := hb
  rw [allB_cut hf h h']
  split
  · exact allN_len f h'
  · simp
end Go.Proofs
namespace Go.Proofs
open Go.AM
attribute [local irreducible] AM.evalR AM.evalD AM.Runs AM.valK AM.dK AM.opK AM.stepR AM.CallS AM.St.Le
theorem init_ok {g : View} (h : MemOK g) (hr : RuleOK g.rule) : SumOK (initS g) := by
  refine ⟨initS_sorted h, fun x hx => ?_, fun x hx => (by cases hx), fun w hw => ?_, ⟨Int.le_refl _, Int.le_refl _, Int.le_refl _⟩, .inr ⟨rule_ne hr, hr⟩⟩
  · obtain ⟨m, hm, rfl⟩ := List.mem_map.1 (show x ∈ g.members.map (·.server) from hx)
    exact (h.1 m hm).1
  · obtain ⟨m, hm, rfl⟩ := List.mem_map.1 (show w ∈ g.members.map wOf from hw)
    exact ⟨(h.1 m hm).1, (h.1 m hm).2, Int.le_refl _, Int.le_refl _, Int.le_refl _⟩
theorem sumT_ok {g : View} (h : MemOK g) (hr : RuleOK g.rule) {c : Config} (hc : ∀ p ∈ c, PropOK p) : SumOK (sumT g c) := by
  have gen : ∀ (c : Config) (s : Summary), SumOK s → (∀ p ∈ c, PropOK p) → SumOK (c.foldl sumTStep s) := by
    intro c
    induction c with
    | nil => intro s h _; exact h
    | cons p c ih => intro s h hc; exact ih _ (join_ok h (ofT_ok (hc p (by simp)))) (fun q hq => hc q (by simp [hq]))
  exact gen c _ (init_ok h hr) hc
theorem view_rule {s : Summary} (h : SumOK s) : RuleOK (viewT s).rule := by
  show RuleOK (viewRule s.rule)
  unfold viewRule
  rcases h.ru with ⟨e, _⟩ | ⟨e, h0⟩
  · rw [if_pos e]; simp [RuleOK]
  · rw [if_neg e]; exact h0
theorem memOK_light {v : View} (h : MemOK v) : Light v.members := ⟨by have := h.len; omega, fun m hm => by have := (h.1 m hm).2; omega⟩
theorem view_good {f : Nat → Nat → Proposal} (F : Fam f) (n : Int) {c : Config} (hc : IsCut f c) : MemOK (viewOf (genesisI n) c) ∧ RuleOK (viewOf (genesisI n) c).rule := by
  rw [viewOf_T (genesis_mem n) (F.prop hc)]
  have hs := sumT_ok (genesis_mem n) (ruleI_ok n) (F.prop hc)
  exact ⟨viewT_mem hs, view_rule hs⟩
theorem fair_of {f : Nat → Nat → Proposal} (F : Fam f) (hl : Lite f) (n : Int) {a b : Config} (ha : IsCut f a) (hb : IsCut f b) : Fair (genesisI n) (allB a b) ∧ ∀ c ∈ allB a b, IsCut f c := by
  have h1 := all_is F.nice hl ha hb
  have hm : ∀ c ∈ allB a b, IsCut f c := by rw [h1.1]; exact h1.2.1
  refine ⟨⟨by have := (genesis_mem n).len; omega, by have := all_len64 F.nice ha hb; omega, fun c hc => cut_plain hl (hm c hc), fun c hc => ?_⟩, hm⟩
  have := view_good F n (hm c hc)
  exact ⟨memOK_light this.1, this.2⟩
def MoreS (a b : List Source) : Prop := ∀ s, (anyS a s = true → anyS b s = true) ∧ (anyF a s = true → anyF b s = true)
theorem got_mono {a b : List Source} (h : MoreS a b) (base c : Config) (s : Int) (hs : s ∈ gotI a base c) : s ∈ gotI b base c := by
  unfold gotI at hs ⊢
  split at hs
  · rename_i e
    rw [if_pos e]
    rw [least2] at hs ⊢
    exact ⟨hs.1, (h s).2 hs.2⟩
  · rename_i e
    rw [if_neg e]
    rw [least1] at hs ⊢
    exact ⟨hs.1, (h s).1 hs.2⟩
theorem okC_mono {g : View} {base c : Config} {a b : List Source} (hv : Light (viewOf g c).members) (h : MoreS a b) (hq : okC g base a c = true) : okC g base b c = true := by
  unfold okC at hq ⊢
  exact quoB_mono hv (leB_map _ fun m _ e => inSrv_iff.2 (got_mono h base c m.server (inSrv_iff.1 e))) (List.length_map _) hq
theorem more_append (a b : List Source) : MoreS a (a ++ b) := fun s => ⟨fun h => by unfold anyS at h ⊢; rw [List.any_append, h]; rfl, fun h => by unfold anyF at h ⊢; rw [List.any_append, h]; rfl⟩
theorem srcI_len (n : Int) : (srcI n).length ≤ 8 := by
  have h1 := List.length_filterMap_le (srcF n) (upto 1 8)
  rw [upto_len] at h1
  exact h1
end Go.Proofs
namespace Go.Proofs
open Go.AM
attribute [local irreducible] AM.evalR AM.evalD AM.Runs AM.valK AM.dK AM.opK AM.stepR AM.CallS AM.St.Le
end Go.Proofs
namespace Go.Proofs
open Go.AM
attribute [local irreducible] AM.evalR AM.evalD AM.Runs AM.valK AM.dK AM.opK AM.stepR AM.CallS AM.St.Le
theorem viewOf_fn (f : Bool) {F : Nat → Nat → Proposal} (hF : Fam F) (hl : Lite F) (n : Int) {c : Config} (hc : IsCut F c) : AM.Fn Tryz.prog 12 [viV (genesisI n), .sl f (c.map prV)] (viV (viewOf (genesisI n) c)) := by
  have h := ref_ViewOf f (genesisI n) c (by have := (genesis_mem n).len; omega) (cut_plain hl hc).1 (cut_plain hl hc).2
  rw [← viewOf_T (genesis_mem n) (hF.prop hc)] at h
  exact h
end Go.Proofs
namespace Go.Proofs
open Go.AM
attribute [local irreducible] AM.evalR AM.evalD AM.Runs AM.valK AM.dK AM.opK AM.stepR AM.CallS AM.St.Le
theorem fold_has {α β : Type} (step : β → α → β) (I P : β → Prop) (hI : ∀ a x, I a → I (step a x)) (hP : ∀ a x, P a → P (step a x)) : ∀ (l : List α) (a : β) (x : α), x ∈ l → (∀ a, I a → P (step a x)) → I a → P (l.foldl step a) := by
  have keep : ∀ (l : List α) (a : β), P a → P (l.foldl step a) := by
    intro l
    induction l with
    | nil => intro a h; exact h
    | cons y l ih => intro a h; exact ih _ (hP _ _ h)
  intro l
  induction l with
  | nil => intro a x hx; cases hx
  | cons y l ih =>
    intro a x hx h hi
    rcases List.mem_cons.1 hx with rfl | hx
    · exact keep l _ (h _ hi)
    · exact ih _ x hx h (hI _ _ hi)
theorem wantStep_keep (got : List Int) (w : Int) {acc : List Bool} (m : Member) {k : Nat} (hk : k < 13) (h : acc.length = 13 ∧ acc.getD k default = true) : (wantStep got w acc m).length = 13 ∧ (wantStep got w acc m).getD k default = true := by
  refine ⟨by rw [wantStep_len]; exact h.1, ?_⟩
  unfold wantStep
  split
  · rw [getD_set zo]
    split
    · rfl
    · exact h.2
  · exact h.2
theorem confStep_keep (g : View) (base : Config) (got : List Int) {acc : List Bool} (c : Config) {k : Nat} (hk : k < 13) (h : acc.length = 13 ∧ acc.getD k default = true) : (confStep g base got acc c).length = 13 ∧ (confStep g base got acc c).getD k default = true := by
  unfold confStep
  generalize (viewOf g c).members = ms
  induction ms generalizing acc with
  | nil => exact h
  | cons m ms ih => exact ih (wantStep_keep got _ m hk h)
theorem want_has {g : View} {base : Config} {got : List Int} {l : List Config} {c : Config} {m : Member} (hc : c ∈ l) (hm : m ∈ (viewOf g c).members) (hr : 1 ≤ m.server ∧ m.server ≤ 12) (hlt : got.getD m.server.toNat default < wantI base c) : (wantL g base got l).getD m.server.toNat default = true := by
  have hk : m.server.toNat < 13 := by omega
  refine (fold_has (confStep g base got) (fun a => a.length = 13) (fun a => a.length = 13 ∧ a.getD m.server.toNat default = true) (fun a x h => ?_) (fun a x h => confStep_keep g base got x hk h) l wan0 c hc (fun a ha => ?_) rfl).2
  · unfold confStep; rw [wantF_len]; exact h
  · unfold confStep
    refine fold_has (wantStep got (wantI base c)) (fun a => a.length = 13) (fun a => a.length = 13 ∧ a.getD m.server.toNat default = true) (fun a x h => by rw [wantStep_len]; exact h) (fun a x h => wantStep_keep got _ x hk h) _ a m hm (fun a ha => ?_) ha
    refine ⟨by rw [wantStep_len]; exact ha, ?_⟩
    unfold wantStep
    rw [if_pos ⟨hr, hlt⟩, getD_set zo, if_pos rfl]
theorem use_mem {w : List Bool} {s : Int} : s ∈ useL w ↔ (0 ≤ s ∧ s ≤ 12) ∧ w.getD s.toNat default = true := by
  unfold useL
  rw [List.mem_filter, mem_upto]
theorem useL_len (w : List Bool) : (useL w).length ≤ 13 := by
  unfold useL
  have h1 := List.length_filter_le (fun s => w.getD s.toNat default) (upto 0 12)
  rw [upto_len] at h1; omega
theorem use_none (g : View) (base : Config) (got : List Int) {l : List Config} (h : l.length = 0) : useL (wantL g base got l) = [] := by
  rw [List.eq_nil_of_length_eq_zero h]
  show useL wan0 = []
  decide +kernel
def fillS (s : Int) : Source := ⟨s, true⟩
theorem useful_full {g : View} {base : Config} {l : List Config} {acks : List Source} (hl : ∀ c ∈ l, MemOK (viewOf g c)) : ∀ c ∈ missL g base (acks ++ (useL (wantL g base (colI acks) (missL g base acks l))).map fillS) l, quoB (viewOf g c) ((viewOf g c).members.map (inSrv ((viewOf g c).members.map (·.server)))) = false := by
  intro c hc
  generalize hu : useL (wantL g base (colI acks) (missL g base acks l)) = u at *
  unfold missL at hc
  obtain ⟨hcl, hno⟩ := List.mem_filter.1 hc
  have hM := hl c hcl
  have hL := memOK_light hM
  have hmiss : c ∈ missL g base acks l := by
    refine List.mem_filter.2 ⟨hcl, ?_⟩
    cases ha : okC g base acks c
    · rfl
    · rw [okC_mono hL (more_append acks (u.map fillS)) ha] at hno; cases hno
  cases hq : quoB (viewOf g c) ((viewOf g c).members.map (inSrv ((viewOf g c).members.map (·.server))))
  · rfl
  · exfalso
    have key : ∀ m ∈ (viewOf g c).members, m.server ∈ gotI (acks ++ u.map fillS) base c := by
      intro m hm
      have hr := (hM.1 m hm).1
      by_cases hg : m.server ∈ gotI acks base c
      · exact got_mono (more_append acks _) base c _ hg
      · have hlt : (colI acks).getD m.server.toNat default < wantI base c := by
          unfold gotI at hg
          rw [mem_least] at hg
          rw [colI_val _ hr]
          unfold wantI
          exact Int.not_le.1 fun hh => hg ⟨hr, hh⟩
        have hus : m.server ∈ u := by
          rw [← hu]
          exact use_mem.2 ⟨by omega, want_has hmiss hm hr hlt⟩
        have hF : anyF (acks ++ u.map fillS) m.server = true := List.any_eq_true.2 ⟨fillS m.server, List.mem_append.2 (.inr (List.mem_map.2 ⟨_, hus, rfl⟩)), by simp [fillS]⟩
        unfold gotI
        split
        · rw [least2]; exact ⟨hr, hF⟩
        · rw [least1]; exact ⟨hr, anyF_S hF⟩
    have hok : okC g base (acks ++ u.map fillS) c = true := quoB_mono hL (leB_map _ fun m hm _ => inSrv_iff.2 (key m hm)) (List.length_map _) hq
    rw [hok] at hno; cases hno
theorem kit_SourcesO (n : Int) : AM.Spec Tryz.prog 7 [.i n] [] (OwnPost 39 2 fun r => r = (srcI n).map soV) := by
  (refine spec_of_runs Tryz.func7 rfl ?_; simp only [Tryz.f7]; refine ys ?_)
  repeat' (first | refine yw ?_ | ((with_reducible refine Runs.is ?_); first | refine Runs.region (id := 0) ?_ | refine Runs.region (id := 1) ?_ | refine Runs.region (id := 2) ?_ | ((with_reducible refine Runs.isC ?_); refine Runs.cond rfl (zc ?_) (zc ?_) <;> intro hc <;> (try (first | contradiction | (exfalso; omega; done) | (have : hc = trivial := rfl; clear this; clear hc))))) | ((with_reducible refine r_is ?_); first | refine yr ?_) | fail)
  (refine Runs.weaken (St.Le.nil 3 39 2 3 zd rfl rfl zE) ?_)
  refine Runs.loopI (α := Int) (fun i => (9 - i).toNat) (fun i => 1 ≤ i ∧ i ≤ 9)
    (fun i => ⟨[.i n, .any, .any, .own 3, .i i, .any, .any, .any, .any, .any, .any, .any, .any, .any, .any, .any, .any, .any, .any, .any, .any, .any, .any], [(3, .lst 39 2 (((upto 1 (i - 1)).filterMap (srcF n)).map soV))]⟩) 1 ⟨by decide, by decide⟩ ?_ ?_
  · rw [show upto 1 (1 - 1) = [] from rfl]
    (refine St.Le.clean zR zU zV)
  rintro i ⟨hi1, hi2⟩ ih
  have hl : ((upto 1 (i - 1)).filterMap (srcF n)).length ≤ 8 := by
    have h1 := List.length_filterMap_le (srcF n) (upto 1 (i - 1))
    rw [upto_len] at h1; omega
  have hst : (upto 1 (i + 1 - 1)).filterMap (srcF n) = (upto 1 (i - 1)).filterMap (srcF n) ++ (srcF n i).toList := by
    rw [show i + 1 - 1 = i by omega, upto_snoc hi1, List.filterMap_append]
    congr 1
  have hend : ¬ i ≤ 8 → (upto 1 (i - 1)).filterMap (srcF n) = srcI n := fun h => by rw [show i - 1 = 8 by omega]; rfl
  have hf : srcF n i = if 0 < digitI n 3 i then some ⟨i, decide (digitI n 3 i = 2)⟩ else none := rfl
  have hD := kit_Digit n 3 i zd zo
  generalize (upto 1 (i - 1)).filterMap (srcF n) = acc at *
  generalize digitI n 3 i = d at *
  generalize srcF n i = sf at *
  repeat' (first | refine yw ?_ | ((with_reducible refine Runs.is ?_); first | refine Runs.region (id := 3) ?_ | ((with_reducible refine Runs.isC ?_); refine Runs.cond rfl (zc ?_) (zc ?_) <;> intro hc <;> (try (first | contradiction | (exfalso; omega; done) | (have : hc = trivial := rfl; clear this; clear hc))))) | ((with_reducible refine r_is ?_); first | refine yr ?_) | fail)
  · repeat' (first | refine yw ?_ | ((with_reducible refine Runs.is ?_); first | refine Runs.region (id := 5) ?_ | refine Runs.region (id := 6) ?_ | ((with_reducible refine Runs.isC ?_); refine Runs.cond rfl (zc ?_) (zc ?_) <;> intro hc <;> (try (first | contradiction | (exfalso; omega; done) | (have : hc = trivial := rfl; clear this; clear hc))))) | ((with_reducible refine r_is ?_); first | refine yr ?_ | (refine r_fn rfl (hD) HbF.h zL3 zD ?_; refine r_nn zN zH ?_) | (refine r_append_full SlF.h SlF.s ZoF.h zd rfl rfl zC zJ zS rfl (fun hn => ?_) (fun hn => ?_) <;> refine r_nn zN zH ?_)) | fail)
    · rw [if_pos (by assumption)] at hf
      subst hf
      repeat' (first | refine yw ?_ | ((with_reducible refine Runs.is ?_); first | refine Runs.region (id := 4) ?_ | ((with_reducible refine Runs.isC ?_); refine Runs.cond rfl (zc ?_) (zc ?_) <;> intro hc <;> (try (first | contradiction | (exfalso; omega; done) | (have : hc = trivial := rfl; clear this; clear hc))))) | ((with_reducible refine r_is ?_); first | refine yr ?_) | fail)
      refine ih (i + 1) _ ⟨by omega, by omega⟩ zo ?_
      rw [hst]
      (refine St.Le.clean zR (by first | (simp [V.usesL, V.uses, AM.look_cons]; done) | (simp [V.usesL, V.uses, AM.look_cons, V.usesL_data, V.uses_data, da_i, da_chV, da_ruV, da_prV, da_enV, da_cfV, da_veV, da_inV, da_edV, da_grV, da_weV, da_mbV, da_suV, da_viV]; done)) ?_; (repeat' (first | exact True.intro | refine And.intro ?_ ?_)); all_goals (first | rfl | (simp [AM.look_cons, soV]; done) | (simp [V.uses, V.usesL, AM.look_cons, V.usesL_data, V.uses_data, da_i, da_chV, da_ruV, da_prV, da_enV, da_cfV, da_veV, da_inV, da_edV, da_grV, da_weV, da_mbV, da_suV, da_viV]; done)))
    · rw [if_neg zo] at hf
      subst hf
      repeat' (first | refine yw ?_ | ((with_reducible refine Runs.is ?_); first | refine Runs.region (id := 4) ?_ | ((with_reducible refine Runs.isC ?_); refine Runs.cond rfl (zc ?_) (zc ?_) <;> intro hc <;> (try (first | contradiction | (exfalso; omega; done) | (have : hc = trivial := rfl; clear this; clear hc))))) | ((with_reducible refine r_is ?_); first | refine yr ?_) | fail)
      refine ih (i + 1) _ ⟨by omega, by omega⟩ zo ?_
      rw [hst, show acc ++ (none : Option Source).toList = acc by simp]
      (refine St.Le.clean zR zU zV)
  · have he := hend zo
    subst he
    repeat' (first | refine yw ?_ | ((with_reducible refine Runs.is ?_); first | refine Runs.region (id := 7) ?_ | ((with_reducible refine Runs.isC ?_); refine Runs.cond rfl (zc ?_) (zc ?_) <;> intro hc <;> (try (first | contradiction | (exfalso; omega; done) | (have : hc = trivial := rfl; clear this; clear hc))))) | ((with_reducible refine r_is ?_); first | refine yr ?_) | fail)
    exact Runs.ret_own Tryz.func7 rfl rfl rfl rfl
end Go.Proofs
