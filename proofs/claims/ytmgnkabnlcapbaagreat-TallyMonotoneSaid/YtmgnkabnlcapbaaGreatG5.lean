/- Contracts of functions and plain laws: W112, W113, W114, W115, W116, W117, W118, W119. -/
import Derived.Test.YtmgnkabnlcapbaaGreatQd
import Derived.Test.YtmgnkabnlcapbaaGreatMi
import Derived.Test.YtmgnkabnlcapbaaGreatG4
set_option linter.unusedVariables false
set_option linter.unusedSimpArgs false
set_option maxRecDepth 8000
set_option maxHeartbeats 4000000
set_option pp.deepTerms false
set_option pp.deepTerms.threshold 10
namespace Go.Proofs
open Go.AM
attribute [local irreducible] AM.evalR AM.evalD AM.Runs AM.valK AM.dK AM.opK AM.stepR AM.CallS AM.St.Le
theorem bo_getD {l : List Bool} {i : Nat} (h : i < l.length) : (l.map V.b).getD i .any = V.b (l.getD i false) := by
  rw [List.getD_eq_getElem?_getD, List.getElem?_map, List.getElem?_eq_getElem h, List.getD_eq_getElem?_getD, List.getElem?_eq_getElem h]; rfl
theorem bools_rel {E : Env} {g o : Nat} {l : List Bool} (hF : E.F g) (hl : l.length ≤ 1000000) (hr : ∀ j, j < l.length → E.w.cell? ⟨g, o + j, none⟩ = some (.bool (l.getD j false))) : Rel E (.slice (some ⟨g, o, none⟩) l.length l.length) (.sl true (l.map .b)) := by
  have := Rel.sl (E := E) true (l.map V.b) g o l.length 1 (fun k => .bool (l.getD k false)) (dl_bo l) (by simp) (by simp [maxLen]; omega) (fun _ => by simp) hF zd (fun i hi => by
    rw [List.length_map] at hi
    rw [List.getD_eq_getElem?_getD, List.getElem?_map, List.getElem?_eq_getElem hi]; rfl) (fun k hk => hr k (by simpa using hk)) (fun i j hi hj => by
    rw [List.length_map] at hi
    obtain rfl : j = 0 := by omega
    rw [Nat.mul_one, Nat.add_zero, bo_getD hi]
    exact Rel.sc _)
  rw [List.length_map] at this
  exact this
theorem countsB : CountsB := by
  intro w g o l hl hg hr
  have S : SimAt w (fun _ => False) (Owned [] (fun _ => undef)) [] (fun _ => undef) [.sl true (l.map .b)] [.slice (some ⟨g, o, none⟩) l.length l.length] w :=
    ⟨RelL.cons (bools_rel ⟨hg, id, fun id h => (by rw [AM.look_nil] at h; cases h)⟩ hl hr) (RelL.nil _), fun id o h => (by rw [AM.look_nil] at h; cases h), fun id id' b h => (by rw [AM.look_nil] at h; cases h), fun id b h => (by rw [AM.look_nil] at h; cases h), Ext.refl _ _, fun b h => h.elim⟩
  refine (quo_count true l w _ _ _ S).mono ?_
  rintro e w' ⟨r, H', x, loc', ⟨rfl, rfl⟩, rfl, S'⟩
  have hx := S'.vals.getD 0
  have hx : x = .int .i64 (cntB l : Nat) := Rel.sc_iff.1 hx
  subst hx
  exact ⟨rfl, S'.ext.os, S'.ext.tape, S'.ext.output, S'.ext.size, fun b hb => S'.ext.block b hb (by rintro ⟨id, h1, _⟩; rw [AM.look_nil] at h1; cases h1)⟩
theorem quo_grid (f : Bool) (c : Int) (hc : 1 ≤ c ∧ c ≤ 1000000) (bs : List Bool) (hne : bs ≠ []) (hl : bs.length ≤ 1000000) : AM.Fn Tryz.prog 57 [.i c, .sl f (bs.map .b)] (.b (gridB c bs)) := by
  intro w O xs loc S
  obtain ⟨x0, x1, rfl⟩ : ∃ x0 x1, xs = [x0, x1] := by
    have := S.vals.1
    match xs, this with
    | [x0, x1], _ => exact ⟨x0, x1, rfl⟩
  have r0 := S.vals.getD 0
  have r1 := S.vals.getD 1
  have r0 : x0 = .int .i64 c := Rel.sc_iff.1 r0
  subst r0
  change Rel _ x1 (.sl f (bs.map .b)) at r1
  have key : ∃ g off cap, x1 = .slice (some ⟨g, off, none⟩) bs.length cap ∧ bs.length ≤ cap ∧ cap ≤ maxLen ∧ g < w.heap.size ∧ ∀ j, j < bs.length → w.cell? ⟨g, off + j, none⟩ = some (.bool (bs.getD j false)) := by
    generalize hv : V.sl f (bs.map V.b) = v at r1
    cases r1 with
    | nil full a c h1 h2 =>
      injection hv with _ hv
      exact absurd (List.map_eq_nil_iff.1 hv) hne
    | sl full es g off c sz fv a1 a2 a3 a4 a5 a6 a7 a8 a9 =>
      injection hv with _ hv
      subst hv
      rw [List.length_map] at a2 a7 a8 a9 ⊢
      have hp : 0 < bs.length := List.length_pos_iff.2 hne
      have hsz : sz = 1 := by
        have := a7 0 hp
        rw [List.getD_eq_getElem?_getD, List.getElem?_map, List.getElem?_eq_getElem hp] at this
        exact this.symm
      subst hsz
      refine ⟨g, off, c, rfl, a2, a3, a5.1, fun j hj => ?_⟩
      have h8 := a8 j zo
      have h9 := a9 j 0 hj zd
      rw [Nat.mul_one, Nat.add_zero, bo_getD hj] at h9
      have h9 : fv j = .bool (bs.getD j false) := Rel.sc_iff.1 h9
      rw [h9] at h8
      exact h8
    | _ => cases hv
  obtain ⟨g, off, cap, rfl, h1, h2, h3, h4⟩ := key
  have hcc : ((c.toNat : Nat) : Int) = c := by omega
  have hG := grid_calls countsB c.toNat ⟨by omega, by omega⟩ bs hl w g off cap h1 (by have : maxLen = 9223372036854775807 := rfl; omega) h3 h4
  rw [hcc] at hG
  refine hG.mono ?_
  rintro e W' ⟨rfl, hB⟩
  have S' := S.grows (w' := W') ⟨hB.os, hB.tape, hB.output, hB.size, fun b hb _ => hB.block b hb⟩
  exact ⟨.b (gridB c bs), [], .bool (gridB c bs), loc, ⟨rfl, rfl⟩, rfl, ⟨RelL.cons (Rel.sc _) (RelL.nil _), S'.objs, S'.dist, S'.own, S'.ext, S'.O_lt⟩⟩
end Go.Proofs
namespace Go.Proofs
open Go.AM
attribute [local irreducible] AM.evalR AM.evalD AM.Runs AM.valK AM.dK AM.opK AM.stepR AM.CallS AM.St.Le
def quoB (v : View) (bs : List Bool) : Bool :=
  if v.members.length = 0 then false
  else if v.rule.kind = 1 then decide ((v.members.length : Int) < 2 * (cntB bs : Nat))
  else if v.rule.kind = 2 then decide (wAllK v.members v.members.length < 2 * wInK v.members bs v.members.length)
  else if v.rule.kind = 3 then gridB v.rule.columns bs
  else if v.rule.kind = 4 then decide (((v.members.length : Int) + v.rule.faulty + 2) / 2 ≤ (cntB bs : Nat))
  else false
theorem quo_contains (f : Bool) (v : View) (bs : List Bool) (hm : Light v.members) (hr : RuleOK v.rule) (hl : bs.length = v.members.length) : AM.Fn Tryz.prog 42 [viV v, .sl f (bs.map .b)] (.b (quoB v bs)) := by
  have hW := quo_weighted false f v.members bs hm hl
  have hC := quo_count f bs
  have hcb := cntB_le bs
  have hgo : ∀ e, quoB v bs = e → AM.Fn Tryz.prog 42 [viV v, .sl f (bs.map .b)] (.b e) := by
    intro e he
    unfold quoB at he
    obtain ⟨r1, r2, r3, r4, r5⟩ := hr
    have hlen := hm.1
    by_cases h0 : v.members.length = 0
    · rw [if_pos h0] at he
      subst he
      clear hW hC
      obtain ⟨ms, ru⟩ := v
      dsimp only at h0 hl
      (refine spec_of_runs Tryz.func42 rfl ?_; simp only [Tryz.f42]; refine ys ?_)
      repeat' (first | refine yw ?_ | ((with_reducible refine Runs.is ?_); first | refine Runs.region (id := 0) ?_ | refine Runs.region (id := 1) ?_ | refine Runs.region (id := 2) ?_ | refine Runs.region (id := 3) ?_ | ((with_reducible refine Runs.isC ?_); refine Runs.cond rfl (zc ?_) (zc ?_) <;> intro hc <;> (try (first | contradiction | (exfalso; omega; done) | (have : hc = trivial := rfl; clear this; clear hc))))) | ((with_reducible refine r_is ?_); first | refine yr ?_) | fail)
      (refine Runs.ret1 Tryz.func42 rfl zM zD ?_; try exact zX)
    rw [if_neg h0] at he
    have hG : v.rule.kind = 3 → AM.Fn Tryz.prog 57 [.i v.rule.columns, .sl f (bs.map .b)] (.b (gridB v.rule.columns bs)) := fun h => quo_grid f v.rule.columns (by have := r2 h; omega) bs (by rintro rfl; exact h0 hl.symm) zo
    generalize decide (wAllK v.members v.members.length < 2 * wInK v.members bs v.members.length) = wb at *
    generalize cntB bs = cn at *
    generalize gridB v.rule.columns bs = gb at *
    obtain ⟨ms, ⟨k, co, fa⟩⟩ := v
    dsimp only at *
    by_cases h1 : k = 1
    · subst h1
      rw [if_pos rfl] at he
      subst he
      (refine spec_of_runs Tryz.func42 rfl ?_; simp only [Tryz.f42]; refine ys ?_)
      repeat' (first | refine yw ?_ | ((with_reducible refine Runs.is ?_); first | refine Runs.region (id := 0) ?_ | refine Runs.region (id := 1) ?_ | refine Runs.region (id := 2) ?_ | refine Runs.region (id := 3) ?_ | refine Runs.region (id := 4) ?_ | refine Runs.region (id := 5) ?_ | refine Runs.region (id := 6) ?_ | ((with_reducible refine Runs.isC ?_); refine Runs.cond rfl (zc ?_) (zc ?_) <;> intro hc <;> (try (first | contradiction | (exfalso; omega; done) | (have : hc = trivial := rfl; clear this; clear hc))))) | ((with_reducible refine r_is ?_); first | refine yr ?_ | (refine r_fn rfl (hC) HbF.h zL1 zD ?_; refine r_nn zN zH ?_)) | fail)
      (refine Runs.ret1 Tryz.func42 rfl zM zD ?_; try exact zX)
    rw [if_neg h1] at he
    by_cases h2 : k = 2
    · subst h2
      rw [if_pos rfl] at he
      subst he
      (refine spec_of_runs Tryz.func42 rfl ?_; simp only [Tryz.f42]; refine ys ?_)
      repeat' (first | refine yw ?_ | ((with_reducible refine Runs.is ?_); first | refine Runs.region (id := 0) ?_ | refine Runs.region (id := 1) ?_ | refine Runs.region (id := 2) ?_ | refine Runs.region (id := 3) ?_ | refine Runs.region (id := 4) ?_ | refine Runs.region (id := 5) ?_ | refine Runs.region (id := 6) ?_ | refine Runs.region (id := 7) ?_ | refine Runs.region (id := 8) ?_ | ((with_reducible refine Runs.isC ?_); refine Runs.cond rfl (zc ?_) (zc ?_) <;> intro hc <;> (try (first | contradiction | (exfalso; omega; done) | (have : hc = trivial := rfl; clear this; clear hc))))) | ((with_reducible refine r_is ?_); first | refine yr ?_ | (refine r_fn rfl (hW) HbF.h zL2 zD ?_; refine r_nn zN zH ?_)) | fail)
      (refine Runs.ret1 Tryz.func42 rfl zM zD ?_; try exact zX)
    rw [if_neg h2] at he
    by_cases h3 : k = 3
    · subst h3
      rw [if_pos rfl] at he
      subst he
      have hG3 := hG rfl
      clear hG
      (refine spec_of_runs Tryz.func42 rfl ?_; simp only [Tryz.f42]; refine ys ?_)
      repeat' (first | refine yw ?_ | ((with_reducible refine Runs.is ?_); first | refine Runs.region (id := 0) ?_ | refine Runs.region (id := 1) ?_ | refine Runs.region (id := 2) ?_ | refine Runs.region (id := 3) ?_ | refine Runs.region (id := 4) ?_ | refine Runs.region (id := 5) ?_ | refine Runs.region (id := 6) ?_ | refine Runs.region (id := 7) ?_ | refine Runs.region (id := 8) ?_ | refine Runs.region (id := 9) ?_ | refine Runs.region (id := 10) ?_ | ((with_reducible refine Runs.isC ?_); refine Runs.cond rfl (zc ?_) (zc ?_) <;> intro hc <;> (try (first | contradiction | (exfalso; omega; done) | (have : hc = trivial := rfl; clear this; clear hc))))) | ((with_reducible refine r_is ?_); first | refine yr ?_ | (refine r_fn rfl (hG3) HbF.h zL2 zD ?_; refine r_nn zN zH ?_)) | fail)
      (refine Runs.ret1 Tryz.func42 rfl zM zD ?_; try exact zX)
    rw [if_neg h3] at he
    obtain rfl : k = 4 := by omega
    rw [if_pos rfl] at he
    subst he
    have := r4 rfl
    clear hG
    (refine spec_of_runs Tryz.func42 rfl ?_; simp only [Tryz.f42]; refine ys ?_)
    repeat' (first | refine yw ?_ | ((with_reducible refine Runs.is ?_); first | refine Runs.region (id := 0) ?_ | refine Runs.region (id := 1) ?_ | refine Runs.region (id := 2) ?_ | refine Runs.region (id := 3) ?_ | refine Runs.region (id := 4) ?_ | refine Runs.region (id := 5) ?_ | refine Runs.region (id := 6) ?_ | refine Runs.region (id := 7) ?_ | refine Runs.region (id := 8) ?_ | refine Runs.region (id := 9) ?_ | refine Runs.region (id := 10) ?_ | refine Runs.region (id := 11) ?_ | refine Runs.drawn (id := 12) mixed zK ?_ | ((with_reducible refine Runs.isC ?_); refine Runs.cond rfl (zc ?_) (zc ?_) <;> intro hc <;> (try (first | contradiction | (exfalso; omega; done) | (have : hc = trivial := rfl; clear this; clear hc))))) | ((with_reducible refine r_is ?_); first | refine yr ?_ | (refine r_fn rfl (hC) HbF.h zL1 zD ?_; refine r_nn zN zH ?_)) | ((with_reducible refine d_is ?_); first | refine yd ?_ | (refine d_fn rfl (hC) HbF.h zL1 zD ?_; refine d_nn zN zH ?_)) | fail)
    (refine Runs.ret1 Tryz.func42 rfl zM zD ?_; try exact zX)
  exact hgo _ rfl
def inK (p : Member → Bool) (ms : List Member) : Nat → List Bool
  | 0 => List.replicate ms.length false
  | k + 1 => (inK p ms k).set k (p (ms.getD k default))
theorem inK_len (p : Member → Bool) (ms : List Member) : ∀ k, (inK p ms k).length = ms.length
  | 0 => by simp [inK]
  | k + 1 => by rw [inK, List.length_set, inK_len p ms k]
theorem inK_get (p : Member → Bool) (ms : List Member) : ∀ k, k ≤ ms.length → ∀ i, i < ms.length → (inK p ms k)[i]? = some (if i < k then p (ms.getD i default) else false)
  | 0, _, i, hi => by simp [inK, hi]
  | k + 1, hk, i, hi => by
    rw [inK, List.getElem?_set]
    by_cases e : k = i
    · subst e; rw [if_pos rfl, if_pos (by rw [inK_len]; omega), if_pos zo]
    · rw [if_neg e, inK_get p ms k zo i hi]
      congr 1
      by_cases h : i < k
      · rw [if_pos h, if_pos zo]
      · rw [if_neg h, if_neg zo]
theorem inK_all (p : Member → Bool) (ms : List Member) : inK p ms ms.length = ms.map p := by
  apply List.ext_getElem?
  intro i
  by_cases hi : i < ms.length
  · rw [inK_get p ms _ (Nat.le_refl _) i hi, if_pos hi, List.getElem?_map, List.getElem?_eq_getElem hi, List.getD_eq_getElem?_getD, List.getElem?_eq_getElem hi]; rfl
  · rw [List.getElem?_eq_none (by rw [inK_len]; omega), List.getElem?_eq_none (by rw [List.length_map]; omega)]
def inSrv (ss : List Int) (m : Member) : Bool := ss.contains m.server
theorem quo_IsQuorum (f : Bool) (v : View) (ss : List Int) (hm : Light v.members) (hr : RuleOK v.rule) : AM.Fn Tryz.prog 29 [viV v, .sl f (ss.map .i)] (.b (quoB v (v.members.map (inSrv ss)))) := by
  have hC := quo_contains false v (v.members.map (inSrv ss)) hm hr (by rw [List.length_map])
  have hlen := hm.1
  generalize quoB v (v.members.map (inSrv ss)) = res at *
  clear hm hr
  rw [← inK_all] at hC
  obtain ⟨ms, ru⟩ := v
  dsimp only at hC hlen
  (refine spec_of_runs Tryz.func29 rfl ?_; simp only [Tryz.f29]; refine ys ?_)
  repeat' (first | refine yw ?_ | ((with_reducible refine Runs.is ?_); first | refine Runs.region (id := 0) ?_ | refine Runs.region (id := 1) ?_ | refine Runs.region (id := 2) ?_ | ((with_reducible refine Runs.isC ?_); refine Runs.cond rfl (zc ?_) (zc ?_) <;> intro hc <;> (try (first | contradiction | (exfalso; omega; done) | (have : hc = trivial := rfl; clear this; clear hc))))) | ((with_reducible refine r_is ?_); first | refine yr ?_) | fail)
  refine Runs.loopI (fun k : Nat => ms.length - k) (fun k => k ≤ ms.length)
    (fun k => ⟨[.any, .sl f (ss.map .i), .ptr 2 0 0, .any, .any, .own 11, .any, .any, .any, .any, .any, .any, .any, .sl false (ms.map mbV), .i (ms.length : Nat), .i (k : Nat), .any, .any, .any, .any, .any, .any, .any, .any, .any, .any, .any, .any, .any, .any, .any], [(11, .lst 4 1 ((inK (inSrv ss) ms k).map .b)), (2, .var 42 (viV ⟨ms, ru⟩))]⟩) 0 zo ?_ ?_
  · show St.Le _ ⟨_, [(11, .lst 4 1 ((List.replicate ms.length false).map .b)), (2, .var 42 (viV ⟨ms, ru⟩))]⟩
    (refine St.Le.clean zR zU zV)
  intro k hk ih
  have hkl := inK_len (inSrv ss) ms k
  by_cases hlt : k < ms.length
  · have hS := contains_ints f ss (ms.getD k default).server
    have hst : inK (inSrv ss) ms (k + 1) = (inK (inSrv ss) ms k).set k (ss.contains (ms.getD k default).server) := rfl
    generalize ss.contains (ms.getD k default).server = b at *
    generalize inK (inSrv ss) ms k = acc at *
    repeat' (first | refine yw ?_ | ((with_reducible refine Runs.is ?_); first | refine Runs.region (id := 3) ?_ | refine Runs.region (id := 4) ?_ | refine Runs.region (id := 5) ?_ | refine Runs.region (id := 6) ?_ | ((with_reducible refine Runs.isC ?_); refine Runs.cond rfl (zc ?_) (zc ?_) <;> intro hc <;> (try (first | contradiction | (exfalso; omega; done) | (have : hc = trivial := rfl; clear this; clear hc))))) | ((with_reducible refine r_is ?_); first | refine yr ?_ | (refine r_fn rfl (hS) HbF.h zL2 zD ?_; refine r_nn zN zH ?_)) | fail)
    refine ih (k + 1) _ zo zo ?_
    rw [hst]
    (refine St.Le.clean zR zU zV)
  · obtain rfl : k = ms.length := by omega
    generalize inK (inSrv ss) ms ms.length = acc at *
    repeat' (first | refine yw ?_ | ((with_reducible refine Runs.is ?_); first | refine Runs.region (id := 3) ?_ | ((with_reducible refine Runs.isC ?_); refine Runs.cond rfl (zc ?_) (zc ?_) <;> intro hc <;> (try (first | contradiction | (exfalso; omega; done) | (have : hc = trivial := rfl; clear this; clear hc))))) | ((with_reducible refine r_is ?_); first | refine yr ?_) | fail)
    (refine Runs.weaken (St.Le.freeze_lst 11 rfl) ?_; refine yf ?_)
    repeat' (first | refine yw ?_ | ((with_reducible refine Runs.is ?_); first | refine Runs.region (id := 7) ?_ | ((with_reducible refine Runs.isC ?_); refine Runs.cond rfl (zc ?_) (zc ?_) <;> intro hc <;> (try (first | contradiction | (exfalso; omega; done) | (have : hc = trivial := rfl; clear this; clear hc))))) | ((with_reducible refine r_is ?_); first | refine yr ?_ | (refine r_fn rfl (hC) HbF.h zL2 zD ?_; refine r_nn zN zH ?_)) | fail)
    (refine Runs.ret1 Tryz.func29 rfl zM zD ?_; try exact zX)
end Go.Proofs
namespace Go.Proofs
open Go.AM
attribute [local irreducible] AM.evalR AM.evalD AM.Runs AM.valK AM.dK AM.opK AM.stepR AM.CallS AM.St.Le
theorem any_contains (l : List Int) (x : Int) : (l.any fun y => decide (y = x)) = l.contains x := by
  rw [Bool.eq_iff_iff, List.any_eq_true, List.contains_iff_mem]
  constructor
  · rintro ⟨y, hy, e⟩; rw [← of_decide_eq_true e]; exact hy
  · intro h; exact ⟨x, h, decide_eq_true rfl⟩
theorem ref_In2 (f : Bool) (l : List Int) (n : Int) : AM.Fn Tryz.prog 18 [.sl f (l.map .i), .i n] (.b (l.contains n)) := by
  rw [← any_contains]; exact ref_In f l n
theorem map_getD {α β : Type} [Inhabited α] [Inhabited β] (p : α → β) {l : List α} {i : Nat} (h : i < l.length) : (l.map p).getD i default = p (l.getD i default) := by
  rw [List.getD_eq_getElem?_getD, List.getElem?_map, List.getElem?_eq_getElem h, List.getD_eq_getElem?_getD, List.getElem?_eq_getElem h]; rfl
theorem range_all {K : Nat} {q : Nat → Bool} {k : Nat} (hk : k < K) (h : q k = false) : (List.range K).all q = false := by
  cases hx : (List.range K).all q
  · rfl
  · rw [List.all_eq_true.1 hx k (List.mem_range.2 hk)] at h; cases h
theorem ref_grid (f : Bool) (v : View) (ss : List Int) (hm : v.members.length ≤ 1000) (hc : 1 ≤ v.rule.columns ∧ v.rule.columns ≤ 1000) : AM.Fn Tryz.prog 33 [viV v, .sl f (ss.map .i)] (.b (gridB v.rule.columns (v.members.map (inSrv ss)))) := by
  have hgo : ∀ e, gridB v.rule.columns (v.members.map (inSrv ss)) = e → AM.Fn Tryz.prog 33 [viV v, .sl f (ss.map .i)] (.b e) := by
    intro e he
    obtain ⟨ms, ⟨rk, co, fa⟩⟩ := v
    dsimp only at he hm hc
    obtain ⟨c, rfl⟩ : ∃ c : Nat, co = (c : Int) := ⟨co.toNat, by omega⟩
    unfold gridB at he
    rw [if_neg zo, Int.toNat_natCast] at he
    have hbl : (ms.map (inSrv ss)).length = ms.length := List.length_map _
    have hbg := fun i (h : i < ms.length) => map_getD (inSrv ss) h
    generalize ms.map (inSrv ss) = bs at *
    rw [hbl] at he
    have hK := fun k => gK_lt (c := c) (len := ms.length) (k := k) zo
    generalize gK c ms.length = K at *
    (refine spec_of_runs Tryz.func33 rfl ?_; simp only [Tryz.f33]; refine ys ?_)
    repeat' (first | refine yw ?_ | ((with_reducible refine Runs.is ?_); first | refine Runs.region (id := 0) ?_ | refine Runs.region (id := 1) ?_ | refine Runs.region (id := 2) ?_ | ((with_reducible refine Runs.isC ?_); refine Runs.cond rfl (zc ?_) (zc ?_) <;> intro hc <;> (try (first | contradiction | (exfalso; omega; done) | (have : hc = trivial := rfl; clear this; clear hc))))) | ((with_reducible refine r_is ?_); first | refine yr ?_) | fail)
    refine Runs.loopI (fun k : Nat => K + 1 - k) (fun k => k ≤ K ∧ ∀ j, j < k → someB c bs j = true)
      (fun k => ⟨[.any, .sl f (ss.map .i), .ptr 2 0 0, .any, .any, .b ((List.range k).any (fullB c bs)), .i ((k * c : Nat) : Int), .any, .any, .any, .any, .any, .any, .any, .any, .any, .any, .any, .any, .any, .any, .any, .any, .any, .any, .any, .any, .any, .any, .any, .any, .any, .any, .any, .any, .any, .any, .any, .any, .any, .any, .any, .any, .any, .any, .any, .any, .any, .any, .any, .any, .any, .any, .any, .any, .any], [(2, .var 42 (viV ⟨ms, ⟨rk, (c : Nat), fa⟩⟩))]⟩) 0 ⟨Nat.zero_le _, fun j h => by omega⟩ ?_ ?_
    · rw [Nat.zero_mul]
      (refine St.Le.clean zR zU zV)
    rintro k ⟨hk, hall⟩ ih
    have e3 : (k + 1) * c = k * c + c := Nat.succ_mul k c
    have hkk := hK k
    have hr1 : (List.range (k + 1)).any (fullB c bs) = ((List.range k).any (fullB c bs) || fullB c bs k) := by rw [List.range_succ]; simp
    have hfull : fullB c bs k = decide (cntB (gRow c bs k) = min c (ms.length - k * c)) := by unfold fullB; rw [gRow_len, hbl]
    have hsome : someB c bs k = decide (cntB (gRow c bs k) ≠ 0) := rfl
    have hrow : gRow c bs k = (bs.drop (k * c)).take c := rfl
    by_cases hlt : k * c < ms.length
    · have hkK := hkk.2 hlt
      generalize (List.range k).any (fullB c bs) = wb at *
      generalize k * c = a at *
      repeat' (first | refine yw ?_ | ((with_reducible refine Runs.is ?_); first | refine Runs.region (id := 3) ?_ | ((with_reducible refine Runs.isC ?_); refine Runs.cond rfl (zc ?_) (zc ?_) <;> intro hc <;> (try (first | contradiction | (exfalso; omega; done) | (have : hc = trivial := rfl; clear this; clear hc))))) | ((with_reducible refine r_is ?_); first | refine yr ?_) | fail)
      repeat' (first | refine yw ?_ | ((with_reducible refine Runs.is ?_); first | refine Runs.region (id := 5) ?_ | refine Runs.region (id := 6) ?_ | refine Runs.region (id := 7) ?_ | ((with_reducible refine Runs.isC ?_); refine Runs.cond rfl (zc ?_) (zc ?_) <;> intro hc <;> (try (first | contradiction | (exfalso; omega; done) | (have : hc = trivial := rfl; clear this; clear hc))))) | ((with_reducible refine r_is ?_); first | refine yr ?_) | fail)
      rw [show (if ((ms.length : Nat) : Int) < (a : Int) + (c : Int) then ((ms.length : Nat) : Int) else (a : Int) + (c : Int)) = ((a + min c (ms.length - a) : Nat) : Int) by split <;> omega]
      refine Runs.loopI (fun j : Nat => min c (ms.length - a) - j) (fun j => j ≤ min c (ms.length - a))
        (fun j => ⟨[.any, .sl f (ss.map .i), .ptr 2 0 0, .any, .any, .b wb, .i (a : Nat), .i (cntB ((bs.drop a).take j) : Nat), .i ((a + min c (ms.length - a) : Nat) : Int), .i ((a + j : Nat) : Int), .any, .any, .any, .any, .any, .any, .any, .any, .any, .any, .any, .any, .any, .any, .any, .any, .any, .any, .any, .any, .any, .any, .any, .any, .any, .any, .any, .any, .any, .any, .any, .any, .any, .any, .any, .any, .any, .any, .any, .any, .any, .any, .any, .any, .any, .any], [(2, .var 42 (viV ⟨ms, ⟨rk, (c : Nat), fa⟩⟩))]⟩) 0 (Nat.zero_le _) ?_ ?_
      · (refine St.Le.clean zR zU zV)
      intro j hj ihj
      have hcl : cntB ((bs.drop a).take j) ≤ j := Nat.le_trans (cntB_le _) (by rw [List.length_take]; omega)
      have hst : j < min c (ms.length - a) → cntB ((bs.drop a).take (j + 1)) = cntB ((bs.drop a).take j) + (if inSrv ss (ms.getD (a + j) default) = true then 1 else 0) := fun h => by
        rw [cntB_take (by rw [List.length_drop]; omega), ← hbg (a + j) zo]
        congr 2
        rw [List.getD_eq_getElem?_getD, List.getD_eq_getElem?_getD, List.getElem?_drop]
      have hfin : j = min c (ms.length - a) → cntB ((bs.drop a).take j) = cntB (gRow c bs k) := fun h => by
        rw [hrow, h]
        congr 1
        rw [List.take_eq_take_iff, List.length_drop, hbl]; omega
      generalize cntB ((bs.drop a).take j) = n at *
      by_cases hjt : j < min c (ms.length - a)
      · have hst2 := hst hjt
        have hI := ref_In2 f ss (ms.getD (a + j) default).server
        change AM.Fn _ _ _ (.b (inSrv ss (ms.getD (a + j) default))) at hI
        cases hb : inSrv ss (ms.getD (a + j) default)
        · rw [hb] at hI hst2
          rw [if_neg zd] at hst2
          repeat' (first | refine yw ?_ | ((with_reducible refine Runs.is ?_); first | refine Runs.region (id := 8) ?_ | refine Runs.region (id := 10) ?_ | refine Runs.region (id := 11) ?_ | refine Runs.region (id := 9) ?_ | ((with_reducible refine Runs.isC ?_); refine Runs.cond rfl (zc ?_) (zc ?_) <;> intro hc <;> (try (first | contradiction | (exfalso; omega; done) | (have : hc = trivial := rfl; clear this; clear hc))))) | ((with_reducible refine r_is ?_); first | refine yr ?_ | (refine r_fn rfl (hI) HbF.h zL2 zD ?_; refine r_nn zN zH ?_)) | fail)
          refine ihj (j + 1) _ zo zo ?_
          rw [hst2]
          (refine St.Le.clean zR zU zV)
        · rw [hb] at hI hst2
          rw [if_pos rfl] at hst2
          repeat' (first | refine yw ?_ | ((with_reducible refine Runs.is ?_); first | refine Runs.region (id := 8) ?_ | refine Runs.region (id := 10) ?_ | refine Runs.region (id := 11) ?_ | refine Runs.region (id := 9) ?_ | ((with_reducible refine Runs.isC ?_); refine Runs.cond rfl (zc ?_) (zc ?_) <;> intro hc <;> (try (first | contradiction | (exfalso; omega; done) | (have : hc = trivial := rfl; clear this; clear hc))))) | ((with_reducible refine r_is ?_); first | refine yr ?_ | (refine r_fn rfl (hI) HbF.h zL2 zD ?_; refine r_nn zN zH ?_)) | fail)
          refine ihj (j + 1) _ zo zo ?_
          rw [hst2]
          (refine St.Le.clean zR zU zV)
      · have hn := hfin zo
        subst hn
        repeat' (first | refine yw ?_ | ((with_reducible refine Runs.is ?_); first | refine Runs.region (id := 8) ?_ | ((with_reducible refine Runs.isC ?_); refine Runs.cond rfl (zc ?_) (zc ?_) <;> intro hc <;> (try (first | contradiction | (exfalso; omega; done) | (have : hc = trivial := rfl; clear this; clear hc))))) | ((with_reducible refine r_is ?_); first | refine yr ?_) | fail)
        by_cases h0 : cntB (gRow c bs k) = 0
        · rw [range_all hkK (by rw [hsome]; simp [h0]), Bool.false_and] at he
          subst he
          repeat' (first | refine yw ?_ | ((with_reducible refine Runs.is ?_); first | refine Runs.region (id := 12) ?_ | refine Runs.region (id := 13) ?_ | refine Runs.region (id := 14) ?_ | ((with_reducible refine Runs.isC ?_); refine Runs.cond rfl (zc ?_) (zc ?_) <;> intro hc <;> (try (first | contradiction | (exfalso; omega; done) | (have : hc = trivial := rfl; clear this; clear hc))))) | ((with_reducible refine r_is ?_); first | refine yr ?_ | ((with_reducible refine r_gd ?_); (first | refine r_guardPf rfl rfl ?_ ?_ | refine r_guardNf rfl rfl ?_ ?_ | refine r_guard rfl rfl ?_ ?_) <;> intro hG <;> (try (exfalso; omega; done)) <;> refine r_nn zN zH ?_)) | fail)
          (refine Runs.ret1 Tryz.func33 rfl zM zD ?_; try exact zX)
        · have hs : someB c bs k = true := by rw [hsome]; simp [h0]
          have hall2 : ∀ j, j < k + 1 → someB c bs j = true := fun j hj => by
            by_cases q : j = k
            · rw [q]; exact hs
            · exact hall j zo
          cases wb
          · rw [Bool.false_or, hfull, show decide (cntB (gRow c bs k) = min c (ms.length - a)) = decide (((cntB (gRow c bs k) : Nat) : Int) = ((a + min c (ms.length - a) : Nat) : Int) - (a : Int)) from decide_eq_decide.2 zo] at hr1
            repeat' (first | refine yw ?_ | ((with_reducible refine Runs.is ?_); first | refine Runs.region (id := 12) ?_ | refine Runs.region (id := 13) ?_ | refine Runs.region (id := 14) ?_ | ((with_reducible refine Runs.isC ?_); refine Runs.cond rfl (zc ?_) (zc ?_) <;> intro hc <;> (try (first | contradiction | (exfalso; omega; done) | (have : hc = trivial := rfl; clear this; clear hc))))) | ((with_reducible refine r_is ?_); first | refine yr ?_ | ((with_reducible refine r_gd ?_); (first | refine r_guardPf rfl rfl ?_ ?_ | refine r_guardNf rfl rfl ?_ ?_ | refine r_guard rfl rfl ?_ ?_) <;> intro hG <;> (try (exfalso; omega; done)) <;> refine r_nn zN zH ?_)) | fail)
            repeat' (first | refine yw ?_ | ((with_reducible refine Runs.is ?_); first | refine Runs.region (id := 4) ?_ | ((with_reducible refine Runs.isC ?_); refine Runs.cond rfl (zc ?_) (zc ?_) <;> intro hc <;> (try (first | contradiction | (exfalso; omega; done) | (have : hc = trivial := rfl; clear this; clear hc))))) | ((with_reducible refine r_is ?_); first | refine yr ?_) | fail)
            refine ih (k + 1) _ ⟨by omega, hall2⟩ zo ?_
            rw [hr1, e3]
            (refine St.Le.clean zR zU zV)
          · rw [Bool.true_or] at hr1
            repeat' (first | refine yw ?_ | ((with_reducible refine Runs.is ?_); first | refine Runs.region (id := 12) ?_ | refine Runs.region (id := 13) ?_ | refine Runs.region (id := 14) ?_ | ((with_reducible refine Runs.isC ?_); refine Runs.cond rfl (zc ?_) (zc ?_) <;> intro hc <;> (try (first | contradiction | (exfalso; omega; done) | (have : hc = trivial := rfl; clear this; clear hc))))) | ((with_reducible refine r_is ?_); first | refine yr ?_ | ((with_reducible refine r_gd ?_); (first | refine r_guardPf rfl rfl ?_ ?_ | refine r_guardNf rfl rfl ?_ ?_ | refine r_guard rfl rfl ?_ ?_) <;> intro hG <;> (try (exfalso; omega; done)) <;> refine r_nn zN zH ?_)) | fail)
            repeat' (first | refine yw ?_ | ((with_reducible refine Runs.is ?_); first | refine Runs.region (id := 4) ?_ | ((with_reducible refine Runs.isC ?_); refine Runs.cond rfl (zc ?_) (zc ?_) <;> intro hc <;> (try (first | contradiction | (exfalso; omega; done) | (have : hc = trivial := rfl; clear this; clear hc))))) | ((with_reducible refine r_is ?_); first | refine yr ?_) | fail)
            refine ih (k + 1) _ ⟨by omega, hall2⟩ zo ?_
            rw [hr1, e3]
            (refine St.Le.clean zR zU zV)
    · have hkK : k = K := by
        have : ¬ k < K := fun q => hlt (hkk.1 q)
        omega
      subst hkK
      rw [List.all_eq_true.2 (fun j hj => hall j (List.mem_range.1 hj)), Bool.true_and] at he
      rw [he]
      generalize k * c = a at *
      repeat' (first | refine yw ?_ | ((with_reducible refine Runs.is ?_); first | refine Runs.region (id := 3) ?_ | ((with_reducible refine Runs.isC ?_); refine Runs.cond rfl (zc ?_) (zc ?_) <;> intro hc <;> (try (first | contradiction | (exfalso; omega; done) | (have : hc = trivial := rfl; clear this; clear hc))))) | ((with_reducible refine r_is ?_); first | refine yr ?_) | fail)
      repeat' (first | refine yw ?_ | ((with_reducible refine Runs.is ?_); first | refine Runs.region (id := 15) ?_ | ((with_reducible refine Runs.isC ?_); refine Runs.cond rfl (zc ?_) (zc ?_) <;> intro hc <;> (try (first | contradiction | (exfalso; omega; done) | (have : hc = trivial := rfl; clear this; clear hc))))) | ((with_reducible refine r_is ?_); first | refine yr ?_) | fail)
      (refine Runs.ret1 Tryz.func33 rfl zM zD ?_; try exact zX)
  exact hgo _ rfl
theorem ref_IsQuorum (f : Bool) (v : View) (ss : List Int) (hm : Light v.members) (hr : RuleOK v.rule) : AM.Fn Tryz.prog 14 [viV v, .sl f (ss.map .i)] (.b (quoB v (v.members.map (inSrv ss)))) := by
  have hgo : ∀ e, quoB v (v.members.map (inSrv ss)) = e → AM.Fn Tryz.prog 14 [viV v, .sl f (ss.map .i)] (.b e) := by
    intro e he
    have hG : v.rule.kind = 3 → AM.Fn Tryz.prog 33 [viV v, .sl f (ss.map .i)] (.b (gridB v.rule.columns (v.members.map (inSrv ss)))) := fun h => ref_grid f v ss hm.1 (by have := hr.2.1 h; omega)
    obtain ⟨ms, ⟨rk, co, fa⟩⟩ := v
    unfold quoB at he
    obtain ⟨r1, r2, r3, r4, r5⟩ := hr
    dsimp only at he hm hG r1 r2 r3 r4 r5
    have hbl : (ms.map (inSrv ss)).length = ms.length := List.length_map _
    have hbg := fun i (h : i < ms.length) => map_getD (inSrv ss) h
    have hlen := hm.1
    generalize gridB co (ms.map (inSrv ss)) = gb at *
    generalize ms.map (inSrv ss) = bs at *
    (refine spec_of_runs Tryz.func14 rfl ?_; simp only [Tryz.f14]; refine ys ?_)
    repeat' (first | refine yw ?_ | ((with_reducible refine Runs.is ?_); first | refine Runs.region (id := 0) ?_ | refine Runs.region (id := 1) ?_ | refine Runs.region (id := 2) ?_ | ((with_reducible refine Runs.isC ?_); refine Runs.cond rfl (zc ?_) (zc ?_) <;> intro hc <;> (try (first | contradiction | (exfalso; omega; done) | (have : hc = trivial := rfl; clear this; clear hc))))) | ((with_reducible refine r_is ?_); first | refine yr ?_) | fail)
    refine Runs.loopI (fun k : Nat => ms.length - k) (fun k => k ≤ ms.length)
      (fun k => ⟨[.any, .sl f (ss.map .i), .ptr 2 0 0, .any, .any, .i (ms.length : Nat), .i (cntB (bs.take k) : Nat), .i (wAllK ms k), .i (wInK ms bs k), .i (k : Nat), .any, .any, .any, .any, .any, .any, .any, .any, .any, .any, .any, .any, .any, .any, .any, .any, .any, .any, .any, .any, .any, .any, .any, .any, .any, .any, .any, .any, .any, .any, .any, .any, .any, .any, .any, .any, .any, .any, .any, .any, .any, .any, .any, .any, .any, .any, .any, .any, .any, .any, .any, .any, .any, .any, .any, .any, .any, .any, .any, .any, .any, .any, .any, .any, .any, .any, .any, .any, .any, .any, .any, .any], [(2, .var 42 (viV ⟨ms, ⟨rk, co, fa⟩⟩))]⟩) 0 (Nat.zero_le _) ?_ ?_
    · (refine St.Le.clean zR zU zV)
    intro k hk ih
    have b1 := wInK_bd hm bs k hk
    have b2 := wAllK_bd hm k hk
    have b3 : cntB (bs.take k) ≤ k := Nat.le_trans (cntB_le _) (by rw [List.length_take]; omega)
    by_cases hlt : k < ms.length
    · have hw := hm.2 _ (getD_in hlt)
      have s1 : wInK ms bs (k + 1) = wInK ms bs k + (if bs.getD k default = true then (ms.getD k default).weight else 0) := rfl
      have s2 : wAllK ms (k + 1) = wAllK ms k + (ms.getD k default).weight := rfl
      have s3 := cntB_take (l := bs) (i := k) zo
      rw [hbg k hlt] at s1 s3
      have hI := ref_In2 f ss (ms.getD k default).server
      change AM.Fn _ _ _ (.b (inSrv ss (ms.getD k default))) at hI
      generalize wInK ms bs k = x at *
      generalize wAllK ms k = y at *
      generalize cntB (bs.take k) = z at *
      cases hb : inSrv ss (ms.getD k default)
      · rw [hb] at hI s1 s3
        rw [if_neg zd] at s1 s3
        repeat' (first | refine yw ?_ | ((with_reducible refine Runs.is ?_); first | refine Runs.region (id := 3) ?_ | refine Runs.region (id := 5) ?_ | refine Runs.region (id := 6) ?_ | refine Runs.region (id := 7) ?_ | refine Runs.region (id := 8) ?_ | refine Runs.region (id := 4) ?_ | ((with_reducible refine Runs.isC ?_); refine Runs.cond rfl (zc ?_) (zc ?_) <;> intro hc <;> (try (first | contradiction | (exfalso; omega; done) | (have : hc = trivial := rfl; clear this; clear hc))))) | ((with_reducible refine r_is ?_); first | refine yr ?_ | (refine r_fn rfl (hI) HbF.h zL2 zD ?_; refine r_nn zN zH ?_)) | fail)
        refine ih (k + 1) _ zo zo ?_
        rw [s1, s2, s3, Int.add_zero]
        (refine St.Le.clean zR zU zV)
      · rw [hb] at hI s1 s3
        rw [if_pos rfl] at s1 s3
        repeat' (first | refine yw ?_ | ((with_reducible refine Runs.is ?_); first | refine Runs.region (id := 3) ?_ | refine Runs.region (id := 5) ?_ | refine Runs.region (id := 6) ?_ | refine Runs.region (id := 7) ?_ | refine Runs.region (id := 8) ?_ | refine Runs.region (id := 4) ?_ | ((with_reducible refine Runs.isC ?_); refine Runs.cond rfl (zc ?_) (zc ?_) <;> intro hc <;> (try (first | contradiction | (exfalso; omega; done) | (have : hc = trivial := rfl; clear this; clear hc))))) | ((with_reducible refine r_is ?_); first | refine yr ?_ | (refine r_fn rfl (hI) HbF.h zL2 zD ?_; refine r_nn zN zH ?_)) | fail)
        refine ih (k + 1) _ zo zo ?_
        rw [s1, s2, s3]
        (refine St.Le.clean zR zU zV)
    · obtain rfl : k = ms.length := by omega
      have hcb : cntB (bs.take ms.length) = cntB bs := by rw [List.take_of_length_le zo]
      rw [hcb] at b3
      rw [hcb]
      clear hcb ih hbg
      generalize wInK ms bs ms.length = x at *
      generalize wAllK ms ms.length = y at *
      generalize cntB bs = z at *
      repeat' (first | refine yw ?_ | ((with_reducible refine Runs.is ?_); first | refine Runs.region (id := 3) ?_ | ((with_reducible refine Runs.isC ?_); refine Runs.cond rfl (zc ?_) (zc ?_) <;> intro hc <;> (try (first | contradiction | (exfalso; omega; done) | (have : hc = trivial := rfl; clear this; clear hc))))) | ((with_reducible refine r_is ?_); first | refine yr ?_) | fail)
      by_cases h0 : ms.length = 0
      · rw [if_pos h0] at he
        subst he
        repeat' (first | refine yw ?_ | ((with_reducible refine Runs.is ?_); first | refine Runs.region (id := 9) ?_ | refine Runs.region (id := 10) ?_ | ((with_reducible refine Runs.isC ?_); refine Runs.cond rfl (zc ?_) (zc ?_) <;> intro hc <;> (try (first | contradiction | (exfalso; omega; done) | (have : hc = trivial := rfl; clear this; clear hc))))) | ((with_reducible refine r_is ?_); first | refine yr ?_) | fail)
        (refine Runs.ret1 Tryz.func14 rfl zM zD ?_; try exact zX)
      rw [if_neg h0] at he
      by_cases h1 : rk = 1
      · subst h1
        rw [if_pos rfl] at he
        subst he
        repeat' (first | refine yw ?_ | ((with_reducible refine Runs.is ?_); first | refine Runs.region (id := 9) ?_ | refine Runs.region (id := 10) ?_ | refine Runs.region (id := 11) ?_ | refine Runs.region (id := 12) ?_ | ((with_reducible refine Runs.isC ?_); refine Runs.cond rfl (zc ?_) (zc ?_) <;> intro hc <;> (try (first | contradiction | (exfalso; omega; done) | (have : hc = trivial := rfl; clear this; clear hc))))) | ((with_reducible refine r_is ?_); first | refine yr ?_) | fail)
        (refine Runs.ret1 Tryz.func14 rfl zM zD ?_; try exact zX)
      rw [if_neg h1] at he
      by_cases h2 : rk = 2
      · subst h2
        rw [if_pos rfl] at he
        subst he
        repeat' (first | refine yw ?_ | ((with_reducible refine Runs.is ?_); first | refine Runs.region (id := 9) ?_ | refine Runs.region (id := 10) ?_ | refine Runs.region (id := 11) ?_ | refine Runs.region (id := 12) ?_ | refine Runs.region (id := 13) ?_ | refine Runs.region (id := 14) ?_ | ((with_reducible refine Runs.isC ?_); refine Runs.cond rfl (zc ?_) (zc ?_) <;> intro hc <;> (try (first | contradiction | (exfalso; omega; done) | (have : hc = trivial := rfl; clear this; clear hc))))) | ((with_reducible refine r_is ?_); first | refine yr ?_) | fail)
        (refine Runs.ret1 Tryz.func14 rfl zM zD ?_; try exact zX)
      rw [if_neg h2] at he
      by_cases h3 : rk = 3
      · subst h3
        rw [if_pos rfl] at he
        subst he
        have hG3 := hG rfl
        clear hG
        repeat' (first | refine yw ?_ | ((with_reducible refine Runs.is ?_); first | refine Runs.region (id := 9) ?_ | refine Runs.region (id := 10) ?_ | refine Runs.region (id := 11) ?_ | refine Runs.region (id := 12) ?_ | refine Runs.region (id := 13) ?_ | refine Runs.region (id := 14) ?_ | refine Runs.region (id := 15) ?_ | refine Runs.region (id := 16) ?_ | refine Runs.region (id := 17) ?_ | ((with_reducible refine Runs.isC ?_); refine Runs.cond rfl (zc ?_) (zc ?_) <;> intro hc <;> (try (first | contradiction | (exfalso; omega; done) | (have : hc = trivial := rfl; clear this; clear hc))))) | ((with_reducible refine r_is ?_); first | refine yr ?_ | (refine r_fn rfl (hG3) HbF.h zL2 zD ?_; refine r_nn zN zH ?_)) | fail)
        (refine Runs.ret1 Tryz.func14 rfl zM zD ?_; try exact zX)
      rw [if_neg h3] at he
      obtain rfl : rk = 4 := by omega
      rw [if_pos rfl] at he
      subst he
      have := r4 rfl
      clear hG
      repeat' (first | refine yw ?_ | ((with_reducible refine Runs.is ?_); first | refine Runs.region (id := 9) ?_ | refine Runs.region (id := 10) ?_ | refine Runs.region (id := 11) ?_ | refine Runs.region (id := 12) ?_ | refine Runs.region (id := 13) ?_ | refine Runs.region (id := 14) ?_ | refine Runs.region (id := 15) ?_ | refine Runs.region (id := 16) ?_ | ((with_reducible refine Runs.isC ?_); refine Runs.cond rfl (zc ?_) (zc ?_) <;> intro hc <;> (try (first | contradiction | (exfalso; omega; done) | (have : hc = trivial := rfl; clear this; clear hc))))) | ((with_reducible refine r_is ?_); first | refine yr ?_) | fail)
      (refine Runs.ret1 Tryz.func14 rfl zM zD ?_; try exact zX)
  exact hgo _ rfl
end Go.Proofs
namespace Go.Proofs
open Go.AM
attribute [local irreducible] AM.evalR AM.evalD AM.Runs AM.valK AM.dK AM.opK AM.stepR AM.CallS AM.St.Le
def srcF (n s : Int) : Option Source := if 0 < digitI n 3 s then some ⟨s, decide (digitI n 3 s = 2)⟩ else none
def srcI (n : Int) : List Source := (upto 1 8).filterMap (srcF n)
theorem kit_Sources (n : Int) : AM.Fn Tryz.prog 9 [.i n] (.sl false ((srcI n).map soV)) := by
  (refine spec_of_runs Tryz.func9 rfl ?_; simp only [Tryz.f9]; refine ys ?_)
  repeat' (first | refine yw ?_ | ((with_reducible refine Runs.is ?_); first | refine Runs.region (id := 0) ?_ | refine Runs.region (id := 1) ?_ | refine Runs.region (id := 2) ?_ | ((with_reducible refine Runs.isC ?_); refine Runs.cond rfl (zc ?_) (zc ?_) <;> intro hc <;> (try (first | contradiction | (exfalso; omega; done) | (have : hc = trivial := rfl; clear this; clear hc))))) | ((with_reducible refine r_is ?_); first | refine yr ?_) | fail)
  (refine Runs.weaken (St.Le.nil 3 65 2 3 zd rfl rfl zE) ?_)
  refine Runs.loopI (α := Int) (fun i => (9 - i).toNat) (fun i => 1 ≤ i ∧ i ≤ 9)
    (fun i => ⟨[.i n, .any, .any, .own 3, .i i, .any, .any, .any, .any, .any, .any, .any, .any, .any, .any, .any, .any, .any, .any, .any, .any, .any, .any], [(3, .lst 65 2 (((upto 1 (i - 1)).filterMap (srcF n)).map soV))]⟩) 1 ⟨by decide, by decide⟩ ?_ ?_
  · rw [show upto 1 (1 - 1) = [] from rfl]
    (refine St.Le.clean zR zU zV)
  rintro i ⟨hi1, hi2⟩ ih
  have hl : ((upto 1 (i - 1)).filterMap (srcF n)).length ≤ 8 := by
    have h1 := List.length_filterMap_le (srcF n) (upto 1 (i - 1))
    rw [upto_len] at h1; omega
  have hst : (upto 1 (i + 1 - 1)).filterMap (srcF n) = (upto 1 (i - 1)).filterMap (srcF n) ++ (srcF n i).toList := by
    rw [show i + 1 - 1 = i by omega, upto_snoc hi1, List.filterMap_append]
    congr 1
  have hend : ¬ i ≤ 8 → (upto 1 (i - 1)).filterMap (srcF n) = srcI n := fun h => by rw [show i - 1 = 8 by omega]; rfl
  have hf : srcF n i = if 0 < digitI n 3 i then some ⟨i, decide (digitI n 3 i = 2)⟩ else none := rfl
  have hD := kit_Digit n 3 i zd zo
  generalize (upto 1 (i - 1)).filterMap (srcF n) = acc at *
  generalize digitI n 3 i = d at *
  generalize srcF n i = sf at *
  repeat' (first | refine yw ?_ | ((with_reducible refine Runs.is ?_); first | refine Runs.region (id := 3) ?_ | ((with_reducible refine Runs.isC ?_); refine Runs.cond rfl (zc ?_) (zc ?_) <;> intro hc <;> (try (first | contradiction | (exfalso; omega; done) | (have : hc = trivial := rfl; clear this; clear hc))))) | ((with_reducible refine r_is ?_); first | refine yr ?_) | fail)
  · repeat' (first | refine yw ?_ | ((with_reducible refine Runs.is ?_); first | refine Runs.region (id := 5) ?_ | refine Runs.region (id := 6) ?_ | ((with_reducible refine Runs.isC ?_); refine Runs.cond rfl (zc ?_) (zc ?_) <;> intro hc <;> (try (first | contradiction | (exfalso; omega; done) | (have : hc = trivial := rfl; clear this; clear hc))))) | ((with_reducible refine r_is ?_); first | refine yr ?_ | (refine r_fn rfl (hD) HbF.h zL3 zD ?_; refine r_nn zN zH ?_) | (refine r_append_full SlF.h SlF.s ZoF.h zd rfl rfl zC zJ zS rfl (fun hn => ?_) (fun hn => ?_) <;> refine r_nn zN zH ?_)) | fail)
    · rw [if_pos (by assumption)] at hf
      subst hf
      repeat' (first | refine yw ?_ | ((with_reducible refine Runs.is ?_); first | refine Runs.region (id := 4) ?_ | ((with_reducible refine Runs.isC ?_); refine Runs.cond rfl (zc ?_) (zc ?_) <;> intro hc <;> (try (first | contradiction | (exfalso; omega; done) | (have : hc = trivial := rfl; clear this; clear hc))))) | ((with_reducible refine r_is ?_); first | refine yr ?_) | fail)
      refine ih (i + 1) _ ⟨by omega, by omega⟩ zo ?_
      rw [hst]
      (refine St.Le.clean zR (by first | (simp [V.usesL, V.uses, AM.look_cons]; done) | (simp [V.usesL, V.uses, AM.look_cons, V.usesL_data, V.uses_data, da_i, da_chV, da_ruV, da_prV, da_enV, da_cfV, da_veV, da_inV, da_edV, da_grV, da_weV, da_mbV, da_suV, da_viV]; done)) ?_; (repeat' (first | exact True.intro | refine And.intro ?_ ?_)); all_goals (first | rfl | (simp [AM.look_cons, soV]; done) | (simp [V.uses, V.usesL, AM.look_cons, V.usesL_data, V.uses_data, da_i, da_chV, da_ruV, da_prV, da_enV, da_cfV, da_veV, da_inV, da_edV, da_grV, da_weV, da_mbV, da_suV, da_viV]; done)))
    · rw [if_neg zo] at hf
      subst hf
      repeat' (first | refine yw ?_ | ((with_reducible refine Runs.is ?_); first | refine Runs.region (id := 4) ?_ | ((with_reducible refine Runs.isC ?_); refine Runs.cond rfl (zc ?_) (zc ?_) <;> intro hc <;> (try (first | contradiction | (exfalso; omega; done) | (have : hc = trivial := rfl; clear this; clear hc))))) | ((with_reducible refine r_is ?_); first | refine yr ?_) | fail)
      refine ih (i + 1) _ ⟨by omega, by omega⟩ zo ?_
      rw [hst, show acc ++ (none : Option Source).toList = acc by simp]
      (refine St.Le.clean zR zU zV)
  · have he := hend zo
    subst he
    repeat' (first | refine yw ?_ | ((with_reducible refine Runs.is ?_); first | refine Runs.region (id := 7) ?_ | ((with_reducible refine Runs.isC ?_); refine Runs.cond rfl (zc ?_) (zc ?_) <;> intro hc <;> (try (first | contradiction | (exfalso; omega; done) | (have : hc = trivial := rfl; clear this; clear hc))))) | ((with_reducible refine r_is ?_); first | refine yr ?_) | fail)
    exact Runs.ret_frz Tryz.func9 rfl rfl rfl (by simp)
def chosenR (l : List Source) (fl : Bool) : List Int := (l.filter fun a => !fl || a.filled).map (·.server)
theorem ref_Chosen (f : Bool) (l : List Source) (fl : Bool) (hl : l.length ≤ 1000000) : AM.Fn Tryz.prog 16 [.sl f (l.map soV), .b fl] (.sl false ((chosenR l fl).map .i)) := by
  (refine spec_of_runs Tryz.func16 rfl ?_; simp only [Tryz.f16]; refine ys ?_)
  repeat' (first | refine yw ?_ | ((with_reducible refine Runs.is ?_); first | refine Runs.region (id := 0) ?_ | refine Runs.region (id := 1) ?_ | refine Runs.region (id := 2) ?_ | ((with_reducible refine Runs.isC ?_); refine Runs.cond rfl (zc ?_) (zc ?_) <;> intro hc <;> (try (first | contradiction | (exfalso; omega; done) | (have : hc = trivial := rfl; clear this; clear hc))))) | ((with_reducible refine r_is ?_); first | refine yr ?_) | fail)
  (refine Runs.weaken (St.Le.nil 5 3 1 5 zd rfl rfl zE) ?_)
  refine Runs.loopI (fun k : Nat => l.length - k) (fun k => k ≤ l.length)
    (fun k => ⟨[.sl f (l.map soV), .b fl, .any, .any, .any, .own 5, .i (k : Nat), .any, .any, .any, .any, .any, .any, .any, .any, .any, .any, .any, .any, .any, .any, .any, .any, .any, .any, .any, .any, .any, .any, .any, .any], [(5, .lst 3 1 ((chosenR (l.take k) fl).map .i))]⟩) 0 (Nat.zero_le _) ?_ ?_
  · rw [show chosenR (l.take 0) fl = [] from rfl]
    (refine St.Le.clean zR zU zV)
  intro k hk ih
  have hlen : (chosenR (l.take k) fl).length ≤ k := by
    unfold chosenR
    rw [List.length_map]
    exact Nat.le_trans (List.length_filter_le _ _) (by rw [List.length_take]; omega)
  have hst : k < l.length → chosenR (l.take (k + 1)) fl = chosenR (l.take k) fl ++ (if (!fl || (l.getD k default).filled) = true then [(l.getD k default).server] else []) := fun h => by
    unfold chosenR
    rw [take_getD h, List.filter_append, List.map_append]
    congr 1
    simp only [List.filter_cons, List.filter_nil]
    split <;> rfl
  have hend : l.length ≤ k → chosenR (l.take k) fl = chosenR l fl := fun h => by rw [List.take_of_length_le h]
  generalize chosenR (l.take k) fl = acc at *
  by_cases hlt : k < l.length
  · have hst2 := hst hlt
    cases fl
    · rw [show (!false || (l.getD k default).filled) = true from rfl, if_pos rfl] at hst2
      repeat' (first | refine yw ?_ | ((with_reducible refine Runs.is ?_); first | refine Runs.region (id := 3) ?_ | refine Runs.region (id := 5) ?_ | refine Runs.region (id := 6) ?_ | refine Runs.region (id := 4) ?_ | ((with_reducible refine Runs.isC ?_); refine Runs.cond rfl (zc ?_) (zc ?_) <;> intro hc <;> (try (first | contradiction | (exfalso; omega; done) | (have : hc = trivial := rfl; clear this; clear hc))))) | ((with_reducible refine r_is ?_); first | refine yr ?_ | (refine r_append_full SlF.h SlF.s ZoF.h zd rfl rfl zC zJ zS rfl (fun hn => ?_) (fun hn => ?_) <;> refine r_nn zN zH ?_) | ((with_reducible refine r_gd ?_); (first | refine r_guardPf rfl rfl ?_ ?_ | refine r_guardNf rfl rfl ?_ ?_ | refine r_guard rfl rfl ?_ ?_) <;> intro hG <;> (try (exfalso; omega; done)) <;> refine r_nn zN zH ?_)) | fail)
      refine ih (k + 1) _ zo zo ?_
      rw [hst2]
      (refine St.Le.clean zR zU zV)
    · rw [show (!true || (l.getD k default).filled) = (l.getD k default).filled from rfl] at hst2
      repeat' (first | refine yw ?_ | ((with_reducible refine Runs.is ?_); first | refine Runs.region (id := 3) ?_ | refine Runs.region (id := 5) ?_ | refine Runs.region (id := 6) ?_ | refine Runs.region (id := 4) ?_ | ((with_reducible refine Runs.isC ?_); refine Runs.cond rfl (zc ?_) (zc ?_) <;> intro hc <;> (try (first | contradiction | (exfalso; omega; done) | (have : hc = trivial := rfl; clear this; clear hc))))) | ((with_reducible refine r_is ?_); first | refine yr ?_ | (refine r_append_full SlF.h SlF.s ZoF.h zd rfl rfl zC zJ zS rfl (fun hn => ?_) (fun hn => ?_) <;> refine r_nn zN zH ?_) | ((with_reducible refine r_gd ?_); (first | refine r_guardPf rfl rfl ?_ ?_ | refine r_guardNf rfl rfl ?_ ?_ | refine r_guard rfl rfl ?_ ?_) <;> intro hG <;> (try (exfalso; omega; done)) <;> refine r_nn zN zH ?_)) | fail)
      · rw [if_pos (by assumption)] at hst2
        refine ih (k + 1) _ zo zo ?_
        rw [hst2]
        (refine St.Le.clean zR zU zV)
      · rw [if_neg (by rw [hc]; decide), List.append_nil] at hst2
        refine ih (k + 1) _ zo zo ?_
        rw [hst2]
        (refine St.Le.clean zR zU zV)
  · have he := hend zo
    subst he
    repeat' (first | refine yw ?_ | ((with_reducible refine Runs.is ?_); first | refine Runs.region (id := 3) ?_ | ((with_reducible refine Runs.isC ?_); refine Runs.cond rfl (zc ?_) (zc ?_) <;> intro hc <;> (try (first | contradiction | (exfalso; omega; done) | (have : hc = trivial := rfl; clear this; clear hc))))) | ((with_reducible refine r_is ?_); first | refine yr ?_) | fail)
    repeat' (first | refine yw ?_ | ((with_reducible refine Runs.is ?_); first | refine Runs.region (id := 7) ?_ | ((with_reducible refine Runs.isC ?_); refine Runs.cond rfl (zc ?_) (zc ?_) <;> intro hc <;> (try (first | contradiction | (exfalso; omega; done) | (have : hc = trivial := rfl; clear this; clear hc))))) | ((with_reducible refine r_is ?_); first | refine yr ?_) | fail)
    exact Runs.ret_frz Tryz.func16 rfl rfl rfl (by simp)
end Go.Proofs
namespace Go.Proofs
open Go.AM
attribute [local irreducible] AM.evalR AM.evalD AM.Runs AM.valK AM.dK AM.opK AM.stepR AM.CallS AM.St.Le
@[reducible] def arI (l : List Int) : V := .agg (l.map .i)
@[simp] theorem us_i (p : Nat → Bool) (xs : List Int) : V.usesL p (xs.map V.i) = true := V.usesL_data p _ (dl_i xs)
@[simp] theorem us_b (p : Nat → Bool) (xs : List Bool) : V.usesL p (xs.map V.b) = true := V.usesL_data p _ (dl_bo xs)
def colStep (a : List Int) (s : Source) : List Int :=
  if s.server < 1 ∨ 12 < s.server then a else (let b := a.set s.server.toNat (if a.getD s.server.toNat default < 1 then 1 else a.getD s.server.toNat default); if s.filled = true then b.set s.server.toNat 2 else b)
def ans0 : List Int := List.replicate 13 0
def colI (l : List Source) : List Int := l.foldl colStep ans0
theorem colStep_len (a : List Int) (s : Source) : (colStep a s).length = a.length := by
  unfold colStep
  split
  · rfl
  · dsimp only
    split <;> simp
theorem colI_len : ∀ (l : List Source) (a : List Int), (l.foldl colStep a).length = a.length
  | [], _ => rfl
  | s :: l, a => by rw [List.foldl_cons, colI_len l, colStep_len]
theorem tally_collect (f : Bool) (l : List Source) (hl : l.length ≤ 1000000) : AM.Fn Tryz.prog 25 [.sl f (l.map soV)] (arI (colI l)) := by
  (refine spec_of_runs Tryz.func25 rfl ?_; simp only [Tryz.f25]; refine ys ?_)
  repeat' (first | refine yw ?_ | ((with_reducible refine Runs.is ?_); first | refine Runs.region (id := 0) ?_ | refine Runs.region (id := 1) ?_ | refine Runs.region (id := 2) ?_ | ((with_reducible refine Runs.isC ?_); refine Runs.cond rfl (zc ?_) (zc ?_) <;> intro hc <;> (try (first | contradiction | (exfalso; omega; done) | (have : hc = trivial := rfl; clear this; clear hc))))) | ((with_reducible refine r_is ?_); first | refine yr ?_) | fail)
  refine Runs.loopI (fun k : Nat => l.length - k) (fun k => k ≤ l.length)
    (fun k => ⟨[.any, .any, .ptr 2 0 0, .ptr 3 0 0, .any, .any, .sl f (l.map soV), .i (l.length : Nat), .i (k : Nat), .any, .any, .any, .any, .any, .any, .any, .any, .any, .any, .any, .any, .any, .any, .any, .any, .any, .any, .any, .any, .any, .any, .any, .any, .any, .any], [(3, .var 69 (arI ((l.take k).foldl colStep ans0))), (2, .var 69 (arI ans0))]⟩) 0 (Nat.zero_le _) ?_ ?_
  · (refine St.Le.clean zR zU zV)
  intro k hk ih
  have hst := fun (h : k < l.length) => foldl_take (g := colStep) (s := ans0) h
  have hln := colI_len (l.take k) ans0
  have hend : l.length ≤ k → (l.take k).foldl colStep ans0 = colI l := fun h => by rw [List.take_of_length_le h]; rfl
  generalize (l.take k).foldl colStep ans0 = acc at *
  change acc.length = 13 at hln
  by_cases hlt : k < l.length
  · have hst2 := hst hlt
    obtain ⟨s, hs⟩ : ∃ s, l.getD k default = s := ⟨_, rfl⟩
    repeat' (first | refine yw ?_ | ((with_reducible refine Runs.is ?_); first | refine Runs.region (id := 3) ?_ | refine Runs.region (id := 4) ?_ | refine Runs.region (id := 5) ?_ | ((with_reducible refine Runs.isC ?_); refine Runs.cond rfl (zc ?_) (zc ?_) <;> intro hc <;> (try (first | contradiction | (exfalso; omega; done) | (have : hc = trivial := rfl; clear this; clear hc))))) | ((with_reducible refine r_is ?_); first | refine yr ?_ | ((with_reducible refine r_gd ?_); (first | refine r_guardPf rfl rfl ?_ ?_ | refine r_guardNf rfl rfl ?_ ?_ | refine r_guard rfl rfl ?_ ?_) <;> intro hG <;> (try (exfalso; omega; done)) <;> refine r_nn zN zH ?_)) | fail)
    · rw [colStep, if_pos zo] at hst2
      repeat' (first | refine yw ?_ | ((with_reducible refine Runs.is ?_); first | refine Runs.region (id := 9) ?_ | ((with_reducible refine Runs.isC ?_); refine Runs.cond rfl (zc ?_) (zc ?_) <;> intro hc <;> (try (first | contradiction | (exfalso; omega; done) | (have : hc = trivial := rfl; clear this; clear hc))))) | ((with_reducible refine r_is ?_); first | refine yr ?_) | fail)
      refine ih (k + 1) _ zo zo ?_
      rw [hst2]
      (refine St.Le.clean zR zU zV)
    · rw [colStep, if_neg zo] at hst2
      repeat' (first | refine yw ?_ | ((with_reducible refine Runs.is ?_); first | refine Runs.drawn (id := 6) mixed zK ?_ | ((with_reducible refine Runs.isC ?_); refine Runs.cond rfl (zc ?_) (zc ?_) <;> intro hc <;> (try (first | contradiction | (exfalso; omega; done) | (have : hc = trivial := rfl; clear this; clear hc))))) | ((with_reducible refine d_is ?_); first | refine yd ?_) | fail)
      refine d_v rfl (v_load_arr (k := (l.getD k default).server.toNat) TyF.h rfl rfl (by simp) zo ?_)
      refine d_n zN ?_
      refine d_v rfl (v_max rfl rfl ?_)
      refine d_n zN ?_
      refine d_v rfl (v_indexAddr_arr SlN.h ArF.h rfl rfl zS ?_)
      refine d_n zN ?_
      refine d_store_arr (k := (l.getD k default).server.toNat) _ TyF.h rfl rfl rfl ⟨rfl, rfl⟩ (by simp) zo ?_
      refine d_nn zN zH ?_
      refine d_end ?_
      dsimp only at hst2
      have hl2 : (acc.set (l.getD k default).server.toNat (if acc.getD (l.getD k default).server.toNat default < 1 then 1 else acc.getD (l.getD k default).server.toNat default)).length = 13 := by rw [List.length_set, hln]
      generalize acc.set (l.getD k default).server.toNat (if acc.getD (l.getD k default).server.toNat default < 1 then 1 else acc.getD (l.getD k default).server.toNat default) = acc2 at *
      repeat' (first | refine yw ?_ | ((with_reducible refine Runs.is ?_); first | refine Runs.region (id := 7) ?_ | ((with_reducible refine Runs.isC ?_); refine Runs.cond rfl (zc ?_) (zc ?_) <;> intro hc <;> (try (first | contradiction | (exfalso; omega; done) | (have : hc = trivial := rfl; clear this; clear hc))))) | ((with_reducible refine r_is ?_); first | refine yr ?_) | fail)
      · rw [if_pos (by assumption)] at hst2
        refine Runs.region ?_
        refine r_v rfl (v_fieldAddr_ptr FlF.h rfl ?_)
        refine r_n zN ?_
        refine r_v rfl (v_load_part TyF.h rfl rfl zE zd ?_)
        refine r_n zN ?_
        refine r_v rfl (v_indexAddr_arr SlN.h ArF.h rfl rfl zS ?_)
        refine r_n zN ?_
        refine r_store_arr (k := (l.getD k default).server.toNat) (2 : Int) TyF.h rfl rfl rfl ⟨rfl, rfl⟩ zo zo ?_
        refine r_nn zN zH ?_
        generalize acc2.set (l.getD k default).server.toNat 2 = acc3 at *
        repeat' (first | refine yw ?_ | ((with_reducible refine Runs.is ?_); first | refine Runs.region (id := 9) ?_ | ((with_reducible refine Runs.isC ?_); refine Runs.cond rfl (zc ?_) (zc ?_) <;> intro hc <;> (try (first | contradiction | (exfalso; omega; done) | (have : hc = trivial := rfl; clear this; clear hc))))) | ((with_reducible refine r_is ?_); first | refine yr ?_) | fail)
        refine ih (k + 1) _ zo zo ?_
        rw [hst2]
        (refine St.Le.clean zR zU zV)
      · rw [if_neg (by rw [hc]; decide)] at hst2
        repeat' (first | refine yw ?_ | ((with_reducible refine Runs.is ?_); first | refine Runs.region (id := 9) ?_ | ((with_reducible refine Runs.isC ?_); refine Runs.cond rfl (zc ?_) (zc ?_) <;> intro hc <;> (try (first | contradiction | (exfalso; omega; done) | (have : hc = trivial := rfl; clear this; clear hc))))) | ((with_reducible refine r_is ?_); first | refine yr ?_) | fail)
        refine ih (k + 1) _ zo zo ?_
        rw [hst2]
        (refine St.Le.clean zR zU zV)
    · rw [colStep, if_pos zo] at hst2
      repeat' (first | refine yw ?_ | ((with_reducible refine Runs.is ?_); first | refine Runs.region (id := 9) ?_ | ((with_reducible refine Runs.isC ?_); refine Runs.cond rfl (zc ?_) (zc ?_) <;> intro hc <;> (try (first | contradiction | (exfalso; omega; done) | (have : hc = trivial := rfl; clear this; clear hc))))) | ((with_reducible refine r_is ?_); first | refine yr ?_) | fail)
      refine ih (k + 1) _ zo zo ?_
      rw [hst2]
      (refine St.Le.clean zR zU zV)
  · have he := hend zo
    subst he
    repeat' (first | refine yw ?_ | ((with_reducible refine Runs.is ?_); first | refine Runs.region (id := 3) ?_ | ((with_reducible refine Runs.isC ?_); refine Runs.cond rfl (zc ?_) (zc ?_) <;> intro hc <;> (try (first | contradiction | (exfalso; omega; done) | (have : hc = trivial := rfl; clear this; clear hc))))) | ((with_reducible refine r_is ?_); first | refine yr ?_) | fail)
    repeat' (first | refine yw ?_ | ((with_reducible refine Runs.is ?_); first | refine Runs.region (id := 10) ?_ | ((with_reducible refine Runs.isC ?_); refine Runs.cond rfl (zc ?_) (zc ?_) <;> intro hc <;> (try (first | contradiction | (exfalso; omega; done) | (have : hc = trivial := rfl; clear this; clear hc))))) | ((with_reducible refine r_is ?_); first | refine yr ?_) | fail)
    have hcl : (arI (colI l)).cells.length = 13 := by show ((colI l).map V.i).length = 13; rw [List.length_map]; exact hln
    refine r_v rfl (v_load_var TyF.h rfl rfl hcl zd (by show V.agg ((((colI l).map V.i).drop 0).take 13) = _; rw [List.drop_zero, List.take_of_length_le (by rw [List.length_map]; omega)]) ?_)
    refine r_n zN ?_
    refine r_storeW TyF.h rfl rfl ⟨by decide, by decide, hcl, by show ((colI l).map V.i).all V.one = true; rw [List.all_map]; exact List.all_eq_true.2 fun _ _ => rfl⟩ (by show V.agg ([] ++ (colI l).map V.i ++ List.drop (0 + ((colI l).map V.i).length) (ans0.map V.i)) = _; rw [List.length_map, hln, show List.drop (0 + 13) (ans0.map V.i) = [] from rfl, List.append_nil]; rfl) ?_
    refine r_nn zN zH ?_
    repeat' (first | refine yw ?_ | ((with_reducible refine Runs.is ?_); first | refine Runs.region (id := 10) ?_ | ((with_reducible refine Runs.isC ?_); refine Runs.cond rfl (zc ?_) (zc ?_) <;> intro hc <;> (try (first | contradiction | (exfalso; omega; done) | (have : hc = trivial := rfl; clear this; clear hc))))) | ((with_reducible refine r_is ?_); first | refine yr ?_) | fail)
    refine Runs.retC Tryz.func25 rfl zM rfl TyF.h (And.intro (by rw [hcl]; decide) zd) zD ?_
    exact V.Le.of_eq (by show V.agg ((((colI l).map V.i).drop 0).take 13) = _; rw [List.drop_zero, List.take_of_length_le (by rw [List.length_map]; omega)])
def leastI (a : Int) (l : List Int) : List Int := (upto 1 12).filter fun s => decide (a ≤ l.getD s.toNat default)
theorem v_index_arI {P : Program} {e : Operand → V} {H : AM.Heap} {K : V → Prop} {t : TypeId} {x y : Operand} {k : IntKind} {j : Int} {n : Nat} {l : List Int} (ha : arv P t = some (n, false, 1)) (hx : e x = arI l) (hi : e y = .sc (.int k j)) (hl : l.length = n) (hj : 0 ≤ j ∧ j < n) (h : K (.i (l.getD j.toNat default))) : valK P (.index t x y) e H K := by
  refine v_index_arr ha hx hi ⟨hj, Nat.one_pos, by rw [List.length_map, hl, Nat.mul_one]⟩ ?_
  rw [show V.sub false (j.toNat * 1) 1 (.agg (l.map V.i)) = (l.map V.i).getD (j.toNat * 1) .any from rfl, Nat.mul_one, getD_map V.i l j.toNat .any zo]
  exact h
theorem tally_least (a : Int) (l : List Int) (hl : l.length = 13) (ha : 1 ≤ a) : AM.Fn Tryz.prog 27 [arI l, .i a] (.sl false ((leastI a l).map .i)) := by
  have hcl : (arI l).cells.length = 13 := by show (l.map V.i).length = 13; rw [List.length_map]; exact hl
  have hok : (arI l).okCells = true := by show (l.map V.i).all V.one = true; rw [List.all_map]; exact List.all_eq_true.2 fun _ _ => rfl
  (refine spec_of_runs Tryz.func27 rfl ?_; simp only [Tryz.f27]; refine ys ?_)
  refine Runs.seq ?_
  refine Runs.region ?_
  refine r_box rfl hok ?_
  refine r_nn zN zH ?_
  repeat' (first | refine yw ?_ | ((with_reducible refine Runs.is ?_); first | refine Runs.region (id := 0) ?_ | refine Runs.region (id := 1) ?_ | refine Runs.region (id := 2) ?_ | ((with_reducible refine Runs.isC ?_); refine Runs.cond rfl (zc ?_) (zc ?_) <;> intro hc <;> (try (first | contradiction | (exfalso; omega; done) | (have : hc = trivial := rfl; clear this; clear hc))))) | ((with_reducible refine r_is ?_); first | refine yr ?_) | fail)
  refine r_v rfl (v_load_var TyF.h rfl rfl hcl zd (by show V.agg (((l.map V.i).drop 0).take 13) = _; rw [List.drop_zero, List.take_of_length_le (by rw [List.length_map]; omega)]) ?_)
  refine r_n zN ?_
  repeat' (first | refine yw ?_ | ((with_reducible refine Runs.is ?_); first | refine Runs.region (id := 2) ?_ | ((with_reducible refine Runs.isC ?_); refine Runs.cond rfl (zc ?_) (zc ?_) <;> intro hc <;> (try (first | contradiction | (exfalso; omega; done) | (have : hc = trivial := rfl; clear this; clear hc))))) | ((with_reducible refine r_is ?_); first | refine yr ?_) | fail)
  (refine Runs.weaken (St.Le.nil 5 3 1 5 zd rfl rfl zE) ?_)
  refine Runs.loopI (α := Int) (fun i => (13 - i).toNat) (fun i => 0 ≤ i ∧ i ≤ 13)
    (fun i => ⟨[.any, .i a, .any, .any, .any, .own 5, .any, .any, arI l, .i i, .any, .any, .any, .any, .any, .any, .any, .any, .any, .any, .any, .any, .any, .any, .any, .any], [(5, .lst 3 1 (((upto 1 (i - 1)).filter fun s => decide (a ≤ l.getD s.toNat default)).map .i))]⟩) 0 ⟨by decide, by decide⟩ ?_ ?_
  · rw [show upto 1 (0 - 1) = [] from rfl]
    (refine St.Le.clean zR zU zV)
  rintro i ⟨hi1, hi2⟩ ih
  have hlen : ((upto 1 (i - 1)).filter fun s => decide (a ≤ l.getD s.toNat default)).length ≤ 13 := by
    have h1 := List.length_filter_le (fun s => decide (a ≤ l.getD s.toNat default)) (upto 1 (i - 1))
    rw [upto_len] at h1; omega
  have hst : ((upto 1 (i + 1 - 1)).filter fun s => decide (a ≤ l.getD s.toNat default)) = ((upto 1 (i - 1)).filter fun s => decide (a ≤ l.getD s.toNat default)) ++ (if 0 < i ∧ a ≤ l.getD i.toNat default then [i] else []) := by
    rw [show i + 1 - 1 = i by omega]
    by_cases h0 : 0 < i
    · rw [upto_snoc zo, List.filter_append]
      congr 1
      by_cases h : a ≤ l.getD i.toNat default
      · rw [if_pos ⟨h0, h⟩]; simp only [List.filter_cons, List.filter_nil]; rw [if_pos (decide_eq_true h)]
      · rw [if_neg (fun q => h q.2)]; simp only [List.filter_cons, List.filter_nil]; rw [if_neg (by rw [decide_eq_false h]; decide)]
    · obtain rfl : i = 0 := by omega
      rw [if_neg zo, List.append_nil]; rfl
  have hend : ¬ i < 13 → ((upto 1 (i - 1)).filter fun s => decide (a ≤ l.getD s.toNat default)) = leastI a l := fun h => by rw [show i - 1 = 12 by omega]; rfl
  generalize ((upto 1 (i - 1)).filter fun s => decide (a ≤ l.getD s.toNat default)) = acc at *
  repeat' (first | refine yw ?_ | ((with_reducible refine Runs.is ?_); first | refine Runs.region (id := 3) ?_ | ((with_reducible refine Runs.isC ?_); refine Runs.cond rfl (zc ?_) (zc ?_) <;> intro hc <;> (try (first | contradiction | (exfalso; omega; done) | (have : hc = trivial := rfl; clear this; clear hc))))) | ((with_reducible refine r_is ?_); first | refine yr ?_) | fail)
  · refine Runs.region ?_
    refine r_v rfl (v_move ?_)
    refine r_n zN ?_
    refine r_v rfl (v_index_arI ArF.h rfl rfl hl ⟨by omega, by omega⟩ ?_)
    refine r_n zN ?_
    generalize l.getD i.toNat default = got at *
    have hkl : V.LeL (V.killL 5 (List.map V.i l)) (List.map V.i l) := by rw [V.killL_data _ _ (dl_i l)]; exact V.LeL.refl _
    repeat' (first | refine yw ?_ | ((with_reducible refine Runs.is ?_); first | refine Runs.region (id := 4) ?_ | refine Runs.region (id := 5) ?_ | refine Runs.region (id := 6) ?_ | refine Runs.region (id := 7) ?_ | ((with_reducible refine Runs.isC ?_); refine Runs.cond rfl (zc ?_) (zc ?_) <;> intro hc <;> (try (first | contradiction | (exfalso; omega; done) | (have : hc = trivial := rfl; clear this; clear hc))))) | ((with_reducible refine r_is ?_); first | refine yr ?_ | (refine r_append_full SlF.h SlF.s ZoF.h zd rfl rfl zC zJ zS rfl (fun hn => ?_) (fun hn => ?_) <;> refine r_nn zN zH ?_) | ((with_reducible refine r_gd ?_); (first | refine r_guardPt rfl rfl ?_ ?_ | refine r_guardNt rfl rfl ?_ ?_ | refine r_guard rfl rfl ?_ ?_) <;> intro hG <;> (try (exfalso; omega; done)) <;> refine r_nn zN zH ?_)) | fail)
    all_goals first
      | (rw [if_pos ⟨by omega, by omega⟩] at hst
         refine ih (i + 1) _ ⟨by omega, by omega⟩ zo ?_
         rw [hst]
         (refine St.Le.clean zR zU zV)
         done)
      | (rw [if_neg zo, List.append_nil] at hst
         refine ih (i + 1) _ ⟨by omega, by omega⟩ zo ?_
         rw [hst]
         (refine St.Le.clean zR zU zV)
         done)
      | trace_state
  · have he := hend zo
    subst he
    repeat' (first | refine yw ?_ | ((with_reducible refine Runs.is ?_); first | refine Runs.region (id := 8) ?_ | ((with_reducible refine Runs.isC ?_); refine Runs.cond rfl (zc ?_) (zc ?_) <;> intro hc <;> (try (first | contradiction | (exfalso; omega; done) | (have : hc = trivial := rfl; clear this; clear hc))))) | ((with_reducible refine r_is ?_); first | refine yr ?_) | fail)
    exact Runs.ret_frz Tryz.func27 rfl rfl rfl (by simp)
theorem tally_view (f : Bool) (g : View) (c : Config) (hg : g.members.length ≤ 1000) (hc : c.length ≤ 100) (hp : ∀ p ∈ c, Plain p) : AM.Fn Tryz.prog 30 [viV g, .sl f (c.map prV)] (viV (viewOf g c)) := by
  have hsh := sumS_short hg c (fun p h => (hp p h).1)
  have hS := member_Summarize f g c hg hc hp
  have hV := member_View (sumS g c) (by have := hsh.1; omega) (by have := hsh.2.2; omega)
  unfold viewOf
  generalize sumS g c = s at *
  generalize viewS s = v at *
  (refine spec_of_runs Tryz.func30 rfl ?_; simp only [Tryz.f30]; refine ys ?_)
  repeat' (first | refine yw ?_ | ((with_reducible refine Runs.is ?_); first | refine Runs.region ?_ | ((with_reducible refine Runs.isC ?_); refine Runs.cond rfl (zc ?_) (zc ?_) <;> intro hc <;> (try (first | contradiction | (exfalso; omega; done) | (have : hc = trivial := rfl; clear this; clear hc))))) | ((with_reducible refine r_is ?_); first | refine yr ?_ | (refine r_fn rfl (hS) HbF.h zL2 zD ?_; refine r_nn zN zH ?_) | (refine r_fn rfl (hV) HbF.h zL1 zD ?_; refine r_nn zN zH ?_)) | fail)
  (refine Runs.retC Tryz.func30 rfl zM rfl TyF.h (And.intro zE zd) zD ?_; try exact zX)
end Go.Proofs
namespace Go.Proofs
open Go.AM
attribute [local irreducible] AM.evalR AM.evalD AM.Runs AM.valK AM.dK AM.opK AM.stepR AM.CallS AM.St.Le
def eqvB (a b : Config) : Bool := containsB a b && containsB b a
def gotI (acks : List Source) (base c : Config) : List Int := leastI (if eqvB c base = true then 2 else 1) (colI acks)
def okC (g : View) (base : Config) (acks : List Source) (c : Config) : Bool := quoB (viewOf g c) ((viewOf g c).members.map (inSrv (gotI acks base c)))
def missL (g : View) (base : Config) (acks : List Source) (l : List Config) : List Config := l.filter fun c => !okC g base acks c
theorem missL_snoc (g : View) (base : Config) (acks : List Source) (l : List Config) (c : Config) : missL g base acks (l ++ [c]) = missL g base acks l ++ (if okC g base acks c = true then [] else [c]) := by
  unfold missL
  rw [List.filter_append]
  congr 1
  simp only [List.filter_cons, List.filter_nil]
  cases okC g base acks c <;> rfl
theorem list13 {l : List Int} (h : l.length = 13) : ∃ a0 a1 a2 a3 a4 a5 a6 a7 a8 a9 a10 a11 a12, l = [a0, a1, a2, a3, a4, a5, a6, a7, a8, a9, a10, a11, a12] := by
  match l, h with
  | [a0, a1, a2, a3, a4, a5, a6, a7, a8, a9, a10, a11, a12], _ => exact ⟨a0, a1, a2, a3, a4, a5, a6, a7, a8, a9, a10, a11, a12, rfl⟩
structure Fair (g : View) (l : List Config) : Prop where
  gl : g.members.length ≤ 1000
  n : l.length ≤ 1000
  c : ∀ c ∈ l, c.length ≤ 100 ∧ ∀ p ∈ c, Plain p
  v : ∀ c ∈ l, Light (viewOf g c).members ∧ RuleOK (viewOf g c).rule
theorem tally_Missing (f h f2 : Bool) (g : View) (a b : Config) (acks : List Source) (l : List Config) (hA : AM.Fn Tryz.prog 26 [.sl f (a.map prV), .sl h (b.map prV)] (.sl false (l.map cfV))) (hF : Fair g l) (hk : acks.length ≤ 1000000) :
    AM.Fn Tryz.prog 11 [viV g, .sl f (a.map prV), .sl h (b.map prV), .sl f2 (acks.map soV)] (.sl false ((missL g a acks l).map cfV)) := by
  have hcol := tally_collect f2 acks hk
  have hlen : (colI acks).length = 13 := colI_len acks ans0
  have hlea := fun x (h : 1 ≤ x) => tally_least x (colI acks) hlen h
  have hgot : ∀ c, gotI acks a c = leastI (if eqvB c a = true then 2 else 1) (colI acks) := fun c => rfl
  obtain ⟨a0, a1, a2, a3, a4, a5, a6, a7, a8, a9, a10, a11, a12, hs⟩ := list13 hlen
  have hgl := hF.gl
  have hn := hF.n
  rw [hs] at hcol hlea hgot
  clear hlen hs
  simp only [arI, List.map_cons, List.map_nil] at hcol hlea
  (refine spec_of_runs Tryz.func11 rfl ?_; simp only [Tryz.f11]; refine ys ?_)
  repeat' (first | refine yw ?_ | ((with_reducible refine Runs.is ?_); first | refine Runs.region (id := 0) ?_ | refine Runs.region (id := 1) ?_ | refine Runs.region (id := 2) ?_ | refine Runs.region (id := 3) ?_ | ((with_reducible refine Runs.isC ?_); refine Runs.cond rfl (zc ?_) (zc ?_) <;> intro hc <;> (try (first | contradiction | (exfalso; omega; done) | (have : hc = trivial := rfl; clear this; clear hc))))) | ((with_reducible refine r_is ?_); first | refine yr ?_ | (refine r_fn rfl (hcol) HbF.h zL1 zD ?_; refine r_nn zN zH ?_) | (refine r_fn rfl (hA) HbF.h zL2 zD ?_; refine r_nn zN zH ?_)) | fail)
  (refine Runs.weaken (St.Le.nil 10 30 1 10 zd rfl rfl zE) ?_)
  refine Runs.loopI (fun k : Nat => l.length - k) (fun k => k ≤ l.length)
    (fun k => ⟨[.any, .sl f (a.map prV), .any, .any, .ptr 4 0 0, .any, .any, .any, .any, .ptr 9 0 0, .own 10, .any, .any, .any, .any, .any, .any, .any, .sl false (l.map cfV), .i (l.length : Nat), .i (k : Nat), .any, .any, .any, .any, .any, .any, .any, .any, .any, .any, .any, .any, .any, .any, .any, .any, .any, .any, .any, .any, .any, .any], [(10, .lst 30 1 ((missL g a acks (l.take k)).map cfV)), (9, .var 69 (.agg [.i a0, .i a1, .i a2, .i a3, .i a4, .i a5, .i a6, .i a7, .i a8, .i a9, .i a10, .i a11, .i a12])), (4, .var 27 (viV g))]⟩) 0 (Nat.zero_le _) ?_ ?_
  · rw [show missL g a acks (l.take 0) = [] from rfl]
    (refine St.Le.clean zR zU zV)
  intro k hk2 ih
  have hml : (missL g a acks (l.take k)).length ≤ k := Nat.le_trans (List.length_filter_le _ _) (by rw [List.length_take]; omega)
  have hst : k < l.length → missL g a acks (l.take (k + 1)) = missL g a acks (l.take k) ++ (if okC g a acks (l.getD k default) = true then [] else [l.getD k default]) := fun h => by rw [take_getD h, missL_snoc]
  have hend : l.length ≤ k → missL g a acks (l.take k) = missL g a acks l := fun h => by rw [List.take_of_length_le h]
  generalize missL g a acks (l.take k) = acc at *
  by_cases hlt : k < l.length
  · have hst2 := hst hlt
    have hc0 := getD_in hlt
    have hE := config_Equal false f (l.getD k default) a
    have hV := tally_view false g (l.getD k default) hF.gl (hF.c _ hc0).1 (hF.c _ hc0).2
    have hQ := quo_IsQuorum false (viewOf g (l.getD k default)) (gotI acks a (l.getD k default)) (hF.v _ hc0).1 (hF.v _ hc0).2
    change AM.Fn _ _ _ (.b (okC g a acks (l.getD k default))) at hQ
    change AM.Fn _ _ _ (.b (eqvB (l.getD k default) a)) at hE
    have hg2 := hgot (l.getD k default)
    have hl1 := hlea 1 zd
    have hl2 := hlea 2 zd
    generalize gotI acks a (l.getD k default) = ss at *
    generalize viewOf g (l.getD k default) = v at *
    generalize okC g a acks (l.getD k default) = ok at *
    cases hb : eqvB (l.getD k default) a
    · rw [hb, if_neg zd] at hg2
      rw [hb] at hE
      subst hg2
      generalize leastI 1 [a0, a1, a2, a3, a4, a5, a6, a7, a8, a9, a10, a11, a12] = s1 at *
      cases ok
      · rw [if_neg zd] at hst2
        repeat' (first | refine yw ?_ | ((with_reducible refine Runs.is ?_); first | refine Runs.region (id := 4) ?_ | refine Runs.region (id := 5) ?_ | refine Runs.region (id := 6) ?_ | refine Runs.region (id := 7) ?_ | refine Runs.region (id := 8) ?_ | refine Runs.region (id := 9) ?_ | refine Runs.region (id := 10) ?_ | refine Runs.region (id := 11) ?_ | ((with_reducible refine Runs.isC ?_); refine Runs.cond rfl (zc ?_) (zc ?_) <;> intro hc <;> (try (first | contradiction | (exfalso; omega; done) | (have : hc = trivial := rfl; clear this; clear hc))))) | ((with_reducible refine r_is ?_); first | refine yr ?_ | (refine r_fn rfl (hl1) HbF.h zL2 zD ?_; refine r_nn zN zH ?_) | (refine r_fn rfl (hE) HbF.h zL2 zD ?_; refine r_nn zN zH ?_) | (refine r_fn rfl (hV) HbF.h zL2 zD ?_; refine r_nn zN zH ?_) | (refine r_fn rfl (hQ) HbF.h zL2 zD ?_; refine r_nn zN zH ?_) | (refine r_append_full SlF.h SlF.s ZoF.h zd rfl rfl zC zJ zS rfl (fun hn => ?_) (fun hn => ?_) <;> refine r_nn zN zH ?_)) | fail)
        refine ih (k + 1) _ zo zo ?_
        rw [hst2]
        (refine St.Le.clean zR zU zV)
      · rw [if_pos rfl, List.append_nil] at hst2
        repeat' (first | refine yw ?_ | ((with_reducible refine Runs.is ?_); first | refine Runs.region (id := 4) ?_ | refine Runs.region (id := 5) ?_ | refine Runs.region (id := 6) ?_ | refine Runs.region (id := 7) ?_ | refine Runs.region (id := 8) ?_ | refine Runs.region (id := 9) ?_ | refine Runs.region (id := 10) ?_ | refine Runs.region (id := 11) ?_ | ((with_reducible refine Runs.isC ?_); refine Runs.cond rfl (zc ?_) (zc ?_) <;> intro hc <;> (try (first | contradiction | (exfalso; omega; done) | (have : hc = trivial := rfl; clear this; clear hc))))) | ((with_reducible refine r_is ?_); first | refine yr ?_ | (refine r_fn rfl (hl1) HbF.h zL2 zD ?_; refine r_nn zN zH ?_) | (refine r_fn rfl (hE) HbF.h zL2 zD ?_; refine r_nn zN zH ?_) | (refine r_fn rfl (hV) HbF.h zL2 zD ?_; refine r_nn zN zH ?_) | (refine r_fn rfl (hQ) HbF.h zL2 zD ?_; refine r_nn zN zH ?_) | (refine r_append_full SlF.h SlF.s ZoF.h zd rfl rfl zC zJ zS rfl (fun hn => ?_) (fun hn => ?_) <;> refine r_nn zN zH ?_)) | fail)
        refine ih (k + 1) _ zo zo ?_
        rw [hst2]
        (refine St.Le.clean zR zU zV)
    · rw [hb, if_pos rfl] at hg2
      rw [hb] at hE
      subst hg2
      generalize leastI 1 [a0, a1, a2, a3, a4, a5, a6, a7, a8, a9, a10, a11, a12] = s1 at *
      generalize leastI 2 [a0, a1, a2, a3, a4, a5, a6, a7, a8, a9, a10, a11, a12] = s2 at *
      cases ok
      · rw [if_neg zd] at hst2
        repeat' (first | refine yw ?_ | ((with_reducible refine Runs.is ?_); first | refine Runs.region (id := 4) ?_ | refine Runs.region (id := 5) ?_ | refine Runs.region (id := 6) ?_ | refine Runs.region (id := 7) ?_ | refine Runs.region (id := 8) ?_ | refine Runs.region (id := 9) ?_ | refine Runs.region (id := 10) ?_ | refine Runs.region (id := 11) ?_ | ((with_reducible refine Runs.isC ?_); refine Runs.cond rfl (zc ?_) (zc ?_) <;> intro hc <;> (try (first | contradiction | (exfalso; omega; done) | (have : hc = trivial := rfl; clear this; clear hc))))) | ((with_reducible refine r_is ?_); first | refine yr ?_ | (refine r_fn rfl (hl1) HbF.h zL2 zD ?_; refine r_nn zN zH ?_) | (refine r_fn rfl (hl2) HbF.h zL2 zD ?_; refine r_nn zN zH ?_) | (refine r_fn rfl (hE) HbF.h zL2 zD ?_; refine r_nn zN zH ?_) | (refine r_fn rfl (hV) HbF.h zL2 zD ?_; refine r_nn zN zH ?_) | (refine r_fn rfl (hQ) HbF.h zL2 zD ?_; refine r_nn zN zH ?_) | (refine r_append_full SlF.h SlF.s ZoF.h zd rfl rfl zC zJ zS rfl (fun hn => ?_) (fun hn => ?_) <;> refine r_nn zN zH ?_)) | fail)
        refine ih (k + 1) _ zo zo ?_
        rw [hst2]
        (refine St.Le.clean zR zU zV)
      · rw [if_pos rfl, List.append_nil] at hst2
        repeat' (first | refine yw ?_ | ((with_reducible refine Runs.is ?_); first | refine Runs.region (id := 4) ?_ | refine Runs.region (id := 5) ?_ | refine Runs.region (id := 6) ?_ | refine Runs.region (id := 7) ?_ | refine Runs.region (id := 8) ?_ | refine Runs.region (id := 9) ?_ | refine Runs.region (id := 10) ?_ | refine Runs.region (id := 11) ?_ | ((with_reducible refine Runs.isC ?_); refine Runs.cond rfl (zc ?_) (zc ?_) <;> intro hc <;> (try (first | contradiction | (exfalso; omega; done) | (have : hc = trivial := rfl; clear this; clear hc))))) | ((with_reducible refine r_is ?_); first | refine yr ?_ | (refine r_fn rfl (hl1) HbF.h zL2 zD ?_; refine r_nn zN zH ?_) | (refine r_fn rfl (hl2) HbF.h zL2 zD ?_; refine r_nn zN zH ?_) | (refine r_fn rfl (hE) HbF.h zL2 zD ?_; refine r_nn zN zH ?_) | (refine r_fn rfl (hV) HbF.h zL2 zD ?_; refine r_nn zN zH ?_) | (refine r_fn rfl (hQ) HbF.h zL2 zD ?_; refine r_nn zN zH ?_) | (refine r_append_full SlF.h SlF.s ZoF.h zd rfl rfl zC zJ zS rfl (fun hn => ?_) (fun hn => ?_) <;> refine r_nn zN zH ?_)) | fail)
        refine ih (k + 1) _ zo zo ?_
        rw [hst2]
        (refine St.Le.clean zR zU zV)
  · have he := hend zo
    subst he
    repeat' (first | refine yw ?_ | ((with_reducible refine Runs.is ?_); first | refine Runs.region (id := 4) ?_ | ((with_reducible refine Runs.isC ?_); refine Runs.cond rfl (zc ?_) (zc ?_) <;> intro hc <;> (try (first | contradiction | (exfalso; omega; done) | (have : hc = trivial := rfl; clear this; clear hc))))) | ((with_reducible refine r_is ?_); first | refine yr ?_) | fail)
    repeat' (first | refine yw ?_ | ((with_reducible refine Runs.is ?_); first | refine Runs.region (id := 12) ?_ | ((with_reducible refine Runs.isC ?_); refine Runs.cond rfl (zc ?_) (zc ?_) <;> intro hc <;> (try (first | contradiction | (exfalso; omega; done) | (have : hc = trivial := rfl; clear this; clear hc))))) | ((with_reducible refine r_is ?_); first | refine yr ?_) | fail)
    exact Runs.ret_frz Tryz.func11 rfl rfl rfl (by simp)
end Go.Proofs
namespace Go.Proofs
open Go.AM
attribute [local irreducible] AM.evalR AM.evalD AM.Runs AM.valK AM.dK AM.opK AM.stepR AM.CallS AM.St.Le
def wantI (base c : Config) : Int := if eqvB c base = true then 2 else 1
def wantStep (got : List Int) (w : Int) (acc : List Bool) (m : Member) : List Bool := if (1 ≤ m.server ∧ m.server ≤ 12) ∧ got.getD m.server.toNat default < w then acc.set m.server.toNat true else acc
def confStep (g : View) (base : Config) (got : List Int) (acc : List Bool) (c : Config) : List Bool := (viewOf g c).members.foldl (wantStep got (wantI base c)) acc
def wan0 : List Bool := List.replicate 13 false
def wantL (g : View) (base : Config) (got : List Int) (l : List Config) : List Bool := l.foldl (confStep g base got) wan0
def useL (w : List Bool) : List Int := (upto 0 12).filter fun s => w.getD s.toNat default
theorem wantStep_len (got : List Int) (w : Int) (acc : List Bool) (m : Member) : (wantStep got w acc m).length = acc.length := by
  unfold wantStep; split <;> simp
theorem wantF_len (got : List Int) (w : Int) : ∀ (ms : List Member) (acc : List Bool), (ms.foldl (wantStep got w) acc).length = acc.length
  | [], _ => rfl
  | m :: ms, acc => by rw [List.foldl_cons, wantF_len got w ms, wantStep_len]
theorem confF_len (g : View) (base : Config) (got : List Int) : ∀ (l : List Config) (acc : List Bool), (l.foldl (confStep g base got) acc).length = acc.length
  | [], _ => rfl
  | c :: l, acc => by rw [List.foldl_cons, confF_len g base got l, confStep, wantF_len]
theorem v_index_arB {P : Program} {e : Operand → V} {H : AM.Heap} {K : V → Prop} {t : TypeId} {x y : Operand} {k : IntKind} {j : Int} {n : Nat} {l : List Bool} (ha : arv P t = some (n, false, 1)) (hx : e x = .agg (l.map V.b)) (hi : e y = .sc (.int k j)) (hl : l.length = n) (hj : 0 ≤ j ∧ j < n) (h : K (.b (l.getD j.toNat default))) : valK P (.index t x y) e H K := by
  refine v_index_arr ha hx hi ⟨hj, Nat.one_pos, by rw [List.length_map, hl, Nat.mul_one]⟩ ?_
  rw [show V.sub false (j.toNat * 1) 1 (.agg (l.map V.b)) = (l.map V.b).getD (j.toNat * 1) .any from rfl, Nat.mul_one, getD_map V.b l j.toNat .any zo]
  exact h
theorem tally_Useful (f h f2 : Bool) (g : View) (a b : Config) (acks : List Source) (l : List Config) (hM : AM.Fn Tryz.prog 11 [viV g, .sl f (a.map prV), .sl h (b.map prV), .sl f2 (acks.map soV)] (.sl false (l.map cfV))) (hF : Fair g l) (hk : acks.length ≤ 1000000) :
    AM.Fn Tryz.prog 31 [viV g, .sl f (a.map prV), .sl h (b.map prV), .sl f2 (acks.map soV)] (.sl false ((useL (wantL g a (colI acks) l)).map .i)) := by
  have hcol := tally_collect f2 acks hk
  have hlen : (colI acks).length = 13 := colI_len acks ans0
  have hgl := hF.gl
  have hn := hF.n
  generalize colI acks = got at *
  have hcl : (arI got).cells.length = 13 := by show (got.map V.i).length = 13; rw [List.length_map]; exact hlen
  have hok : (arI got).okCells = true := by show (got.map V.i).all V.one = true; rw [List.all_map]; exact List.all_eq_true.2 fun _ _ => rfl
  have hwl : ∀ k, ((l.take k).foldl (confStep g a got) wan0).length = 13 := fun k => confF_len g a got (l.take k) wan0
  (refine spec_of_runs Tryz.func31 rfl ?_; simp only [Tryz.f31]; refine ys ?_)
  repeat' (first | refine yw ?_ | ((with_reducible refine Runs.is ?_); first | refine Runs.region (id := 0) ?_ | refine Runs.region (id := 1) ?_ | refine Runs.region (id := 2) ?_ | refine Runs.region (id := 3) ?_ | ((with_reducible refine Runs.isC ?_); refine Runs.cond rfl (zc ?_) (zc ?_) <;> intro hc <;> (try (first | contradiction | (exfalso; omega; done) | (have : hc = trivial := rfl; clear this; clear hc))))) | ((with_reducible refine r_is ?_); first | refine yr ?_ | (refine r_fn rfl (hcol) HbF.h zL1 zD ?_; refine r_nn zN zH ?_) | (refine r_fn rfl (hM) HbF.h zL4 zD ?_; refine r_nn zN zH ?_)) | fail)
  refine r_storeW TyF.h rfl rfl ⟨by decide, by decide, hcl, hok⟩ (by show V.agg ([] ++ got.map V.i ++ List.drop (0 + (got.map V.i).length) (ans0.map V.i)) = _; rw [List.length_map, hlen, show List.drop (0 + 13) (ans0.map V.i) = [] from rfl, List.append_nil]; rfl) ?_
  refine r_nn zN zH ?_
  repeat' (first | refine yw ?_ | ((with_reducible refine Runs.is ?_); first | refine Runs.region (id := 1) ?_ | refine Runs.region (id := 2) ?_ | refine Runs.region (id := 3) ?_ | ((with_reducible refine Runs.isC ?_); refine Runs.cond rfl (zc ?_) (zc ?_) <;> intro hc <;> (try (first | contradiction | (exfalso; omega; done) | (have : hc = trivial := rfl; clear this; clear hc))))) | ((with_reducible refine r_is ?_); first | refine yr ?_ | (refine r_fn rfl (hcol) HbF.h zL1 zD ?_; refine r_nn zN zH ?_) | (refine r_fn rfl (hM) HbF.h zL4 zD ?_; refine r_nn zN zH ?_)) | fail)
  refine Runs.loopI (fun k : Nat => l.length - k) (fun k => k ≤ l.length)
    (fun k => ⟨[.any, .sl f (a.map prV), .any, .any, .ptr 4 0 0, .any, .any, .any, .any, .ptr 9 0 0, .ptr 10 0 0, .any, .any, .any, .any, .any, .any, .any, .any, .any, .any, .any, .any, .any, .any, .sl false (l.map cfV), .i (l.length : Nat), .i (k : Nat), .any, .any, .any, .any, .any, .any, .any, .any, .any, .any, .any, .any, .any, .any, .any, .any, .any, .any, .any, .any, .any, .any, .any, .any, .any, .any, .any, .any, .any, .any, .any, .any, .any, .any, .any, .any, .any, .any, .any, .any, .any, .any, .any, .any, .any, .any, .any, .any], [(10, .var 87 (.agg (((l.take k).foldl (confStep g a got) wan0).map .b))), (9, .var 69 (arI got)), (4, .var 27 (viV g))]⟩) 0 (Nat.zero_le _) ?_ ?_
  · (refine St.Le.clean zR zU zV)
  intro k hk2 ih
  have hst := fun (h : k < l.length) => foldl_take (g := confStep g a got) (s := wan0) h
  have hend : l.length ≤ k → (l.take k).foldl (confStep g a got) wan0 = wantL g a got l := fun h => by rw [List.take_of_length_le h]; rfl
  have hw := hwl k
  generalize (l.take k).foldl (confStep g a got) wan0 = acc at *
  by_cases hlt : k < l.length
  · have hst2 : (l.take (k + 1)).foldl (confStep g a got) wan0 = (viewOf g (l.getD k default)).members.foldl (wantStep got (if eqvB (l.getD k default) a = true then 2 else 1)) acc := hst hlt
    have hc0 := getD_in hlt
    have hE := config_Equal false f (l.getD k default) a
    have hV := tally_view false g (l.getD k default) hF.gl (hF.c _ hc0).1 (hF.c _ hc0).2
    have hlm := (hF.v _ hc0).1.1
    change AM.Fn _ _ _ (.b (eqvB (l.getD k default) a)) at hE
    generalize viewOf g (l.getD k default) = v at *
    obtain ⟨ms, vr⟩ := v
    dsimp only at hst2 hlm
    cases hb : eqvB (l.getD k default) a
    all_goals (rw [hb] at hE)
    all_goals (repeat' (first | refine yw ?_ | ((with_reducible refine Runs.is ?_); first | refine Runs.region (id := 4) ?_ | refine Runs.region (id := 5) ?_ | refine Runs.region (id := 6) ?_ | refine Runs.region (id := 7) ?_ | refine Runs.region (id := 8) ?_ | refine Runs.region (id := 9) ?_ | ((with_reducible refine Runs.isC ?_); refine Runs.cond rfl (zc ?_) (zc ?_) <;> intro hc <;> (try (first | contradiction | (exfalso; omega; done) | (have : hc = trivial := rfl; clear this; clear hc))))) | ((with_reducible refine r_is ?_); first | refine yr ?_ | (refine r_fn rfl (hE) HbF.h zL2 zD ?_; refine r_nn zN zH ?_) | (refine r_fn rfl (hV) HbF.h zL2 zD ?_; refine r_nn zN zH ?_)) | fail))
    all_goals (refine Runs.loopI (fun j : Nat => ms.length - j) (fun j => j ≤ ms.length) (fun j => ⟨[.any, .sl f (a.map prV), .any, .any, .ptr 4 0 0, .any, .any, .any, .any, .ptr 9 0 0, .ptr 10 0 0, .any, .any, .i (if eqvB (l.getD k default) a = true then 2 else 1), .any, .any, .any, .any, .any, .any, .any, .any, .any, .any, .any, .sl false (l.map cfV), .i (l.length : Nat), .i (k : Nat), .any, .any, .any, .any, .any, .any, .any, .any, .any, .sl false (ms.map mbV), .i (ms.length : Nat), .i (j : Nat), .any, .any, .any, .any, .any, .any, .any, .any, .any, .any, .any, .any, .any, .any, .any, .any, .any, .any, .any, .any, .any, .any, .any, .any, .any, .any, .any, .any, .any, .any, .any, .any, .any, .any, .any, .any], [(10, .var 87 (.agg (((ms.take j).foldl (wantStep got (if eqvB (l.getD k default) a = true then 2 else 1)) acc).map .b))), (9, .var 69 (arI got)), (4, .var 27 (viV g))]⟩) 0 (Nat.zero_le _) ?_ ?_)
    all_goals first
      | (rw [hb]
         (refine St.Le.clean zR zU zV)
         done)
      | skip
    all_goals generalize (if eqvB (l.getD k default) a = true then (2 : Int) else 1) = w at *
    all_goals (intro j hj ihj)
    all_goals have hsj := fun (h : j < ms.length) => foldl_take (g := wantStep got w) (s := acc) h
    all_goals have hej : ms.length ≤ j → (ms.take j).foldl (wantStep got w) acc = ms.foldl (wantStep got w) acc := fun h => by rw [List.take_of_length_le h]
    all_goals have hwj : ((ms.take j).foldl (wantStep got w) acc).length = 13 := by rw [wantF_len]; exact hw
    all_goals generalize (ms.take j).foldl (wantStep got w) acc = ac2 at *
    all_goals
      by_cases hjt : j < ms.length
      · have hs2 : (ms.take (j + 1)).foldl (wantStep got w) acc = if (1 ≤ (ms.getD j default).server ∧ (ms.getD j default).server ≤ 12) ∧ got.getD (ms.getD j default).server.toNat default < w then ac2.set (ms.getD j default).server.toNat true else ac2 := hsj hjt
        repeat' (first | refine yw ?_ | ((with_reducible refine Runs.is ?_); first | refine Runs.region (id := 10) ?_ | refine Runs.region (id := 11) ?_ | refine Runs.region (id := 12) ?_ | ((with_reducible refine Runs.isC ?_); refine Runs.cond rfl (zc ?_) (zc ?_) <;> intro hc <;> (try (first | contradiction | (exfalso; omega; done) | (have : hc = trivial := rfl; clear this; clear hc))))) | ((with_reducible refine r_is ?_); first | refine yr ?_ | ((with_reducible refine r_gd ?_); (first | refine r_guardPt rfl rfl ?_ ?_ | refine r_guardNt rfl rfl ?_ ?_ | refine r_guard rfl rfl ?_ ?_) <;> intro hG <;> (try (exfalso; omega; done)) <;> refine r_nn zN zH ?_)) | fail)
        all_goals first
          | (refine r_v rfl (v_load_arr (k := (ms.getD j default).server.toNat) TyF.h rfl rfl zo zo ?_)
             refine r_n zN ?_
             repeat' (first | refine yw ?_ | ((with_reducible refine Runs.is ?_); first | refine Runs.region (id := 12) ?_ | ((with_reducible refine Runs.isC ?_); refine Runs.cond rfl (zc ?_) (zc ?_) <;> intro hc <;> (try (first | contradiction | (exfalso; omega; done) | (have : hc = trivial := rfl; clear this; clear hc))))) | ((with_reducible refine r_is ?_); first | refine yr ?_ | ((with_reducible refine r_gd ?_); (first | refine r_guardPt rfl rfl ?_ ?_ | refine r_guardNt rfl rfl ?_ ?_ | refine r_guard rfl rfl ?_ ?_) <;> intro hG <;> (try (exfalso; omega; done)) <;> refine r_nn zN zH ?_)) | fail)
             · rw [if_pos ⟨⟨by omega, by omega⟩, by assumption⟩] at hs2
               refine Runs.region ?_
               refine r_v rfl (v_fieldAddr_ptr FlF.h rfl ?_)
               refine r_n zN ?_
               refine r_v rfl (v_load_part TyF.h rfl rfl zE zd ?_)
               refine r_n zN ?_
               refine r_v rfl (v_indexAddr_arr SlN.h ArF.h rfl rfl zS ?_)
               refine r_n zN ?_
               refine r_store_arr (k := (ms.getD j default).server.toNat) true TyF.h rfl rfl rfl ⟨rfl, rfl⟩ zo zo ?_
               refine r_nn zN zH ?_
               generalize ac2.set (ms.getD j default).server.toNat true = ac3 at *
               repeat' (first | refine yw ?_ | ((with_reducible refine Runs.is ?_); first | refine Runs.region (id := 14) ?_ | ((with_reducible refine Runs.isC ?_); refine Runs.cond rfl (zc ?_) (zc ?_) <;> intro hc <;> (try (first | contradiction | (exfalso; omega; done) | (have : hc = trivial := rfl; clear this; clear hc))))) | ((with_reducible refine r_is ?_); first | refine yr ?_) | fail)
               refine ihj (j + 1) _ zo zo ?_
               rw [hs2]
               (refine St.Le.clean zR zU zV)
             · rw [if_neg zo] at hs2
               repeat' (first | refine yw ?_ | ((with_reducible refine Runs.is ?_); first | refine Runs.region (id := 14) ?_ | ((with_reducible refine Runs.isC ?_); refine Runs.cond rfl (zc ?_) (zc ?_) <;> intro hc <;> (try (first | contradiction | (exfalso; omega; done) | (have : hc = trivial := rfl; clear this; clear hc))))) | ((with_reducible refine r_is ?_); first | refine yr ?_) | fail)
               refine ihj (j + 1) _ zo zo ?_
               rw [hs2]
               (refine St.Le.clean zR zU zV)
             done)
          | (rw [if_neg zo] at hs2
             repeat' (first | refine yw ?_ | ((with_reducible refine Runs.is ?_); first | refine Runs.region (id := 14) ?_ | ((with_reducible refine Runs.isC ?_); refine Runs.cond rfl (zc ?_) (zc ?_) <;> intro hc <;> (try (first | contradiction | (exfalso; omega; done) | (have : hc = trivial := rfl; clear this; clear hc))))) | ((with_reducible refine r_is ?_); first | refine yr ?_) | fail)
             refine ihj (j + 1) _ zo zo ?_
             rw [hs2]
             (refine St.Le.clean zR zU zV)
             done)
          | trace_state
      · have he := hej zo
        subst he
        repeat' (first | refine yw ?_ | ((with_reducible refine Runs.is ?_); first | refine Runs.region (id := 10) ?_ | ((with_reducible refine Runs.isC ?_); refine Runs.cond rfl (zc ?_) (zc ?_) <;> intro hc <;> (try (first | contradiction | (exfalso; omega; done) | (have : hc = trivial := rfl; clear this; clear hc))))) | ((with_reducible refine r_is ?_); first | refine yr ?_) | fail)
        repeat' (first | refine yw ?_ | ((with_reducible refine Runs.is ?_); first | refine Runs.region (id := 15) ?_ | ((with_reducible refine Runs.isC ?_); refine Runs.cond rfl (zc ?_) (zc ?_) <;> intro hc <;> (try (first | contradiction | (exfalso; omega; done) | (have : hc = trivial := rfl; clear this; clear hc))))) | ((with_reducible refine r_is ?_); first | refine yr ?_) | fail)
        refine ih (k + 1) _ zo zo ?_
        rw [hst2]
        (refine St.Le.clean zR zU zV)
  · have he := hend zo
    subst he
    clear ih hst hend
    have hwl2 : (wantL g a got l).length = 13 := confF_len g a got l wan0
    generalize wantL g a got l = w at *
    repeat' (first | refine yw ?_ | ((with_reducible refine Runs.is ?_); first | refine Runs.region (id := 4) ?_ | ((with_reducible refine Runs.isC ?_); refine Runs.cond rfl (zc ?_) (zc ?_) <;> intro hc <;> (try (first | contradiction | (exfalso; omega; done) | (have : hc = trivial := rfl; clear this; clear hc))))) | ((with_reducible refine r_is ?_); first | refine yr ?_) | fail)
    repeat' (first | refine yw ?_ | ((with_reducible refine Runs.is ?_); first | refine Runs.region (id := 16) ?_ | refine Runs.region (id := 17) ?_ | ((with_reducible refine Runs.isC ?_); refine Runs.cond rfl (zc ?_) (zc ?_) <;> intro hc <;> (try (first | contradiction | (exfalso; omega; done) | (have : hc = trivial := rfl; clear this; clear hc))))) | ((with_reducible refine r_is ?_); first | refine yr ?_) | fail)
    refine r_v rfl (v_load_var TyF.h rfl rfl (by show (w.map V.b).length = 13; rw [List.length_map]; exact hwl2) zd (by show V.agg (((w.map V.b).drop 0).take 13) = _; rw [List.drop_zero, List.take_of_length_le (by rw [List.length_map]; omega)]) ?_)
    refine r_n zN ?_
    repeat' (first | refine yw ?_ | ((with_reducible refine Runs.is ?_); first | refine Runs.region (id := 17) ?_ | ((with_reducible refine Runs.isC ?_); refine Runs.cond rfl (zc ?_) (zc ?_) <;> intro hc <;> (try (first | contradiction | (exfalso; omega; done) | (have : hc = trivial := rfl; clear this; clear hc))))) | ((with_reducible refine r_is ?_); first | refine yr ?_) | fail)
    (refine Runs.weaken (St.Le.nil 16 3 1 16 zd rfl rfl zE) ?_)
    refine Runs.loopI (α := Int) (fun i => (13 - i).toNat) (fun i => 0 ≤ i ∧ i ≤ 13)
      (fun i => ⟨[.any, .any, .any, .any, .any, .any, .any, .any, .any, .any, .any, .any, .any, .any, .any, .any, .own 16, .any, .any, .any, .any, .any, .any, .any, .any, .any, .any, .any, .any, .any, .any, .any, .any, .any, .any, .any, .any, .any, .any, .any, .any, .any, .any, .any, .any, .any, .any, .any, .any, .any, .any, .any, .any, .any, .any, .any, .any, .any, .any, .any, .any, .any, .any, .any, .agg (w.map .b), .i i, .any, .any, .any, .any, .any, .any, .any, .any, .any, .any], [(16, .lst 3 1 (((upto 0 (i - 1)).filter fun s => w.getD s.toNat default).map .i))]⟩) 0 ⟨by decide, by decide⟩ ?_ ?_
    · rw [show upto 0 (0 - 1) = [] from rfl]
      (refine St.Le.clean zR zU zV)
    rintro i ⟨hi1, hi2⟩ ih
    have hlen2 : ((upto 0 (i - 1)).filter fun s => w.getD s.toNat default).length ≤ 13 := by
      have h1 := List.length_filter_le (fun s => w.getD s.toNat default) (upto 0 (i - 1))
      rw [upto_len] at h1; omega
    have hst : ((upto 0 (i + 1 - 1)).filter fun s => w.getD s.toNat default) = ((upto 0 (i - 1)).filter fun s => w.getD s.toNat default) ++ (if w.getD i.toNat default = true then [i] else []) := by
      rw [show i + 1 - 1 = i by omega, upto_snoc zo, List.filter_append]
      congr 1
      simp only [List.filter_cons, List.filter_nil]
    have hend : ¬ i < 13 → ((upto 0 (i - 1)).filter fun s => w.getD s.toNat default) = useL w := fun h => by rw [show i - 1 = 12 by omega]; rfl
    generalize ((upto 0 (i - 1)).filter fun s => w.getD s.toNat default) = acc at *
    repeat' (first | refine yw ?_ | ((with_reducible refine Runs.is ?_); first | refine Runs.region (id := 18) ?_ | ((with_reducible refine Runs.isC ?_); refine Runs.cond rfl (zc ?_) (zc ?_) <;> intro hc <;> (try (first | contradiction | (exfalso; omega; done) | (have : hc = trivial := rfl; clear this; clear hc))))) | ((with_reducible refine r_is ?_); first | refine yr ?_) | fail)
    · refine Runs.region ?_
      refine r_v rfl (v_move ?_)
      refine r_n zN ?_
      refine r_v rfl (v_index_arB ArF.h rfl rfl hwl2 ⟨by omega, by omega⟩ ?_)
      refine r_n zN ?_
      generalize w.getD i.toNat default = got2 at *
      have hkl : V.LeL (V.killL 16 (List.map V.b w)) (List.map V.b w) := by rw [V.killL_data _ _ (dl_bo w)]; exact V.LeL.refl _
      repeat' (first | refine yw ?_ | ((with_reducible refine Runs.is ?_); first | refine Runs.region (id := 19) ?_ | refine Runs.region (id := 20) ?_ | refine Runs.region (id := 21) ?_ | refine Runs.region (id := 22) ?_ | ((with_reducible refine Runs.isC ?_); refine Runs.cond rfl (zc ?_) (zc ?_) <;> intro hc <;> (try (first | contradiction | (exfalso; omega; done) | (have : hc = trivial := rfl; clear this; clear hc))))) | ((with_reducible refine r_is ?_); first | refine yr ?_ | (refine r_append_full SlF.h SlF.s ZoF.h zd rfl rfl zC zJ zS rfl (fun hn => ?_) (fun hn => ?_) <;> refine r_nn zN zH ?_)) | fail)
      · rw [if_pos (by assumption)] at hst
        refine ih (i + 1) _ ⟨by omega, by omega⟩ zo ?_
        rw [hst]
        (refine St.Le.clean zR zU zV)
      · rw [if_neg (by rw [hc]; decide), List.append_nil] at hst
        refine ih (i + 1) _ ⟨by omega, by omega⟩ zo ?_
        rw [hst]
        (refine St.Le.clean zR zU zV)
    · have he := hend zo
      subst he
      repeat' (first | refine yw ?_ | ((with_reducible refine Runs.is ?_); first | refine Runs.region (id := 23) ?_ | ((with_reducible refine Runs.isC ?_); refine Runs.cond rfl (zc ?_) (zc ?_) <;> intro hc <;> (try (first | contradiction | (exfalso; omega; done) | (have : hc = trivial := rfl; clear this; clear hc))))) | ((with_reducible refine r_is ?_); first | refine yr ?_) | fail)
      exact Runs.ret_frz Tryz.func31 rfl rfl rfl (by simp)
end Go.Proofs
namespace Go.Proofs
open Go.AM
attribute [local irreducible] AM.evalR AM.evalD AM.Runs AM.valK AM.dK AM.opK AM.stepR AM.CallS AM.St.Le
def complB (g : View) (a b : Config) (acks : List Source) (l : List Config) : Bool := withinB a b a && decide ((missL g a acks l).length = 0)
theorem tally_Complete (f h f2 : Bool) (g : View) (a b : Config) (acks : List Source) (l : List Config) (hM : AM.Fn Tryz.prog 11 [viV g, .sl f (a.map prV), .sl h (b.map prV), .sl f2 (acks.map soV)] (.sl false ((missL g a acks l).map cfV))) :
    AM.Fn Tryz.prog 10 [viV g, .sl f (a.map prV), .sl h (b.map prV), .sl f2 (acks.map soV)] (.b (complB g a b acks l)) := by
  have hW := interval_Within f h f a b a
  unfold complB
  generalize missL g a acks l = ms at *
  generalize withinB a b a = wb at *
  cases wb
  · rw [Bool.false_and]
    (refine spec_of_runs Tryz.func10 rfl ?_; simp only [Tryz.f10]; refine ys ?_)
    repeat' (first | refine yw ?_ | ((with_reducible refine Runs.is ?_); first | refine Runs.region ?_ | ((with_reducible refine Runs.isC ?_); refine Runs.cond rfl (zc ?_) (zc ?_) <;> intro hc <;> (try (first | contradiction | (exfalso; omega; done) | (have : hc = trivial := rfl; clear this; clear hc))))) | ((with_reducible refine r_is ?_); first | refine yr ?_ | (refine r_fn rfl (hW) HbF.h zL3 zD ?_; refine r_nn zN zH ?_) | ((with_reducible refine r_gd ?_); (first | refine r_guardPt rfl rfl ?_ ?_ | refine r_guardNt rfl rfl ?_ ?_ | refine r_guard rfl rfl ?_ ?_) <;> intro hG <;> (try (exfalso; omega; done)) <;> refine r_nn zN zH ?_)) | fail)
    (refine Runs.ret1 Tryz.func10 rfl zM zD ?_; try exact zX)
  · rw [Bool.true_and]
    (refine spec_of_runs Tryz.func10 rfl ?_; simp only [Tryz.f10]; refine ys ?_)
    repeat' (first | refine yw ?_ | ((with_reducible refine Runs.is ?_); first | refine Runs.region ?_ | ((with_reducible refine Runs.isC ?_); refine Runs.cond rfl (zc ?_) (zc ?_) <;> intro hc <;> (try (first | contradiction | (exfalso; omega; done) | (have : hc = trivial := rfl; clear this; clear hc))))) | ((with_reducible refine r_is ?_); first | refine yr ?_ | (refine r_fn rfl (hW) HbF.h zL3 zD ?_; refine r_nn zN zH ?_) | (refine r_fn rfl (hM) HbF.h zL4 zD ?_; refine r_nn zN zH ?_) | ((with_reducible refine r_gd ?_); (first | refine r_guardPt rfl rfl ?_ ?_ | refine r_guardNt rfl rfl ?_ ?_ | refine r_guard rfl rfl ?_ ?_) <;> intro hG <;> (try (exfalso; omega; done)) <;> refine r_nn zN zH ?_)) | fail)
    (refine Runs.ret1 Tryz.func10 rfl zM zD ?_; try exact zX)
def tawG : View := ⟨[⟨1, 1⟩, ⟨2, 1⟩, ⟨3, 1⟩], ⟨1, 0, 0⟩⟩
def tawA : List Source := [⟨1, true⟩, ⟨2, true⟩]
def tawB : List Source := [⟨1, true⟩, ⟨2, false⟩]
theorem taw_all : allB [] [] = [[]] := by decide +kernel
theorem taw_within : withinB [] [] [] = true := by decide +kernel
theorem taw_view : viewOf tawG [] = tawG := by decide +kernel
theorem taw_fair : Fair tawG [[]] := by
  refine ⟨by decide, by decide, fun c hc => ?_, fun c hc => ?_⟩
  · rw [List.mem_singleton.1 hc]; exact ⟨by decide, fun p hp => by cases hp⟩
  · rw [List.mem_singleton.1 hc, taw_view]
    exact ⟨⟨by decide, by decide⟩, by unfold RuleOK; decide⟩
theorem taw_mA : missL tawG [] tawA [[]] = [] := by
  unfold missL okC
  simp only [List.filter_cons, List.filter_nil, taw_view]
  decide +kernel
theorem taw_mB : missL tawG [] tawB [[]] = [[]] := by
  unfold missL okC
  simp only [List.filter_cons, List.filter_nil, taw_view]
  decide +kernel
theorem taw_uB : useL (wantL tawG [] (colI tawB) [[]]) = [2, 3] := by
  unfold wantL confStep
  simp only [List.foldl_cons, List.foldl_nil, taw_view]
  decide +kernel
theorem taw_uA : useL (wantL tawG [] (colI tawA) []) = [] := by decide +kernel
theorem law_awake18 : AM.Fn Tryz.prog 12 [] (.b true) := by
  have hAl := interval_All true true [] [] zd ⟨by decide, by decide +kernel⟩ zd (by unfold Fine; decide +kernel)
  rw [taw_all] at hAl
  have hMA := tally_Missing true true false tawG [] [] tawA [[]] hAl taw_fair zd
  have hMB := tally_Missing true true false tawG [] [] tawB [[]] hAl taw_fair zd
  have hCA := tally_Complete true true false tawG [] [] tawA [[]] hMA
  have hCB := tally_Complete true true false tawG [] [] tawB [[]] hMB
  unfold complB at hCA hCB
  rw [taw_mA] at hMA hCA
  rw [taw_mB] at hMB hCB
  rw [taw_within] at hCA hCB
  rw [show (true && decide (([] : List Config).length = 0)) = true from rfl] at hCA
  rw [show (true && decide (([[]] : List Config).length = 0)) = false from rfl] at hCB
  have hUA := tally_Useful true true false tawG [] [] tawA [] hMA ⟨by decide, by decide, fun c hc => (by cases hc), fun c hc => (by cases hc)⟩ zd
  have hUB := tally_Useful true true false tawG [] [] tawB [[]] hMB taw_fair zd
  rw [taw_uA] at hUA
  rw [taw_uB] at hUB
  (refine spec_of_runs Tryz.func12 rfl ?_; simp only [Tryz.f12]; refine ys ?_)
  repeat' (first | refine yw ?_ | ((with_reducible refine Runs.is ?_); first | refine Runs.region (id := 0) ?_ | refine Runs.region (id := 1) ?_ | ((with_reducible refine Runs.isC ?_); refine Runs.cond rfl (zc ?_) (zc ?_) <;> intro hc <;> (try (first | contradiction | (exfalso; omega; done) | (have : hc = trivial := rfl; clear this; clear hc))))) | ((with_reducible refine r_is ?_); first | refine yrb ?_ | (refine r_buildOwn (D := 7) SlF.h ZoF.h zd zB zd rfl ?_; refine r_nn zN zH ?_) | (refine r_build SlF.h ZoF.h zd zB ?_; refine r_n zN ?_)) | fail)
  (refine Runs.weaken (St.Le.freeze_lst 7 rfl) ?_; refine yf ?_)
  repeat' (first | refine yw ?_ | ((with_reducible refine Runs.is ?_); first | refine Runs.region (id := 2) ?_ | ((with_reducible refine Runs.isC ?_); refine Runs.cond rfl (zc ?_) (zc ?_) <;> intro hc <;> (try (first | contradiction | (exfalso; omega; done) | (have : hc = trivial := rfl; clear this; clear hc))))) | ((with_reducible refine r_is ?_); first | refine yrb ?_ | (refine r_buildOwn (D := 12) SlF.h ZoF.h zd zB zd rfl ?_; refine r_nn zN zH ?_) | (refine r_build SlF.h ZoF.h zd zB ?_; refine r_n zN ?_)) | fail)
  (refine Runs.weaken (St.Le.freeze_lst 12 rfl) ?_; refine yf ?_)
  repeat' (first | refine yw ?_ | ((with_reducible refine Runs.is ?_); first | refine Runs.region (id := 3) ?_ | ((with_reducible refine Runs.isC ?_); refine Runs.cond rfl (zc ?_) (zc ?_) <;> intro hc <;> (try (first | contradiction | (exfalso; omega; done) | (have : hc = trivial := rfl; clear this; clear hc))))) | ((with_reducible refine r_is ?_); first | refine yrb ?_ | (refine r_buildOwn (D := 15) SlF.h ZoF.h zd zB zd rfl ?_; refine r_nn zN zH ?_) | (refine r_build SlF.h ZoF.h zd zB ?_; refine r_n zN ?_)) | fail)
  (refine Runs.weaken (St.Le.freeze_lst 15 rfl) ?_; refine yf ?_)
  refine Runs.weaken (St.Le.clean (s' := ⟨[.any, .ptr 1 0 0, .sl false (tawA.map soV), .sl false (tawB.map soV), .any, .any, .any, .any, .any, .any, .any, .any, .any, .any, .any, .any, .any, .any, .any, .any, .any, .any, .any, .any, .any, .any, .any, .any, .any, .any, .any, .any, .any, .any, .any, .any, .any, .any, .any, .any, .any, .any, .any, .any, .any, .any], [(1, .var 27 (viV tawG))]⟩) (by repeat' (first | exact V.LeL.nil | refine V.LeL.cons ?_ ?_ | exact V.Le.any _ | exact V.Le.full _ | exact V.Le.refl _)) (by simp [V.usesL, V.uses, AM.look_cons, V.usesL_data, da_soV]) (by simp [AM.sub, AM.look_cons, V.uses, V.uses_data, da_viV]; try rfl)) ?_
  clear hMA hAl
  have l1 : ([[]] : List Config).length = 1 := rfl
  have l2 : ([2, 3] : List Int).length = 2 := rfl
  generalize tawG = g at *
  generalize tawA = sa at *
  generalize tawB = sb at *
  generalize ([2, 3] : List Int) = u at *
  generalize ([[]] : List Config) = m at *
  repeat' (first | refine yw ?_ | ((with_reducible refine Runs.is ?_); first | refine Runs.region (id := 4) ?_ | ((with_reducible refine Runs.isC ?_); refine Runs.cond rfl (zc ?_) (zc ?_) <;> intro hc <;> (try (first | contradiction | (exfalso; omega; done) | (have : hc = trivial := rfl; clear this; clear hc))))) | ((with_reducible refine r_is ?_); first | refine yr ?_ | (refine r_fn rfl (hCA) HbF.h zL4 zD ?_; refine r_nn zN zH ?_) | (refine r_fn rfl (hCB) HbF.h zL4 zD ?_; refine r_nn zN zH ?_) | (refine r_fn rfl (hMB) HbF.h zL4 zD ?_; refine r_nn zN zH ?_) | (refine r_fn rfl (hUB) HbF.h zL4 zD ?_; refine r_nn zN zH ?_) | (refine r_fn rfl (hUA) HbF.h zL4 zD ?_; refine r_nn zN zH ?_) | ((with_reducible refine r_gd ?_); (first | refine r_guardPt rfl rfl ?_ ?_ | refine r_guardNt rfl rfl ?_ ?_ | refine r_guard rfl rfl ?_ ?_) <;> intro hG <;> (try (exfalso; omega; done)) <;> refine r_nn zN zH ?_)) | fail)
  all_goals ((refine Runs.ret1 Tryz.func12 rfl zM zD ?_; try exact zX))
end Go.Proofs
