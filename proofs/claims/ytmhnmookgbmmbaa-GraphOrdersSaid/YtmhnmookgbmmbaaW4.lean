/- Copies and filters of configurations. -/
import Derived.Test.YtmhnmookgbmmbaaW3
set_option linter.unusedVariables false
set_option linter.unusedSimpArgs false
set_option maxRecDepth 8000
set_option pp.deepTerms false
set_option pp.deepTerms.threshold 6
namespace Go.Proofs
open Go.AM

theorem clone_change (f : Bool) (l : List Change) (hl : l.length ≤ 1000000000000) : AM.Fn Try.prog 114 [.sl f (l.map chV)] (.sl false (l.map chV)) := by
  (refine spec_of_runs Try.func114 rfl ?_; simp only [Try.f114]; refine ys ?_)
  repeat' (first | refine yw ?_ | refine Runs.region ?_ | refine yr ?_ | (refine r_isNil rfl rfl SlF.s (fun hn => ?_) (fun hn b => ?_) <;> refine r_n zN ?_) | (refine r_append_full SlF.h SlF.s ZoF.h zd rfl rfl zC zJ zS rfl (fun hn => ?_) (fun hn => ?_) <;> refine r_nn zN zH ?_) | (refine Runs.cond rfl (zc ?_) (zc ?_) <;> intro hc <;> (try (first | contradiction | (exfalso; omega; done) | (have : hc = trivial := rfl; clear this; clear hc)))))
  · contradiction
  · exact Runs.ret_frz Try.func114 rfl rfl rfl rfl
  · (refine Runs.ret1 Try.func114 rfl zM zD ?_; try exact zX)
    rw [hn]; exact V.Le.nil _
  · (refine Runs.ret1 Try.func114 rfl zM zD ?_; try exact zX)
    rw [hn]; exact V.Le.full _
  · contradiction
theorem config_clone (p : Proposal) (hl : p.changes.length ≤ 1000000000000) : AM.Fn Try.prog 87 [prV p] (prV p) := by
  (refine spec_of_runs Try.func87 rfl ?_; simp only [Try.f87]; refine ys ?_)
  repeat' (first | refine yw ?_ | refine Runs.region ?_ | refine yr ?_ | (refine r_fn rfl (clone_change false _ hl) HbF.h zL1 zD ?_; refine r_nn zN zH ?_) | (refine Runs.cond rfl (zc ?_) (zc ?_) <;> intro hc <;> (try (first | contradiction | (exfalso; omega; done) | (have : hc = trivial := rfl; clear this; clear hc)))))
  (refine Runs.ret_fn Try.func87 ?_; (try simp only [Try.f87]); (try simp -implicitDefEqProofs (disch := omega) only [↓evalR_cons, ↓evalR_nil, ↓evalR_guard, ↓evalD_cons, ↓evalD_nil, ↓evalD_guard, ↓stepR, ↓opK, ↓valK, ↓dK, binK, unK, convK, intK, cmpK, strK, srcK, resK, AM.pack, AM.free, AM.look_nil, AM.look_cons, AM.upd_nil, AM.upd_cons, AM.updK, Obj.len, Obj.elem, Obj.wr, sp_agg, sp_sc, sp_sl, sp_own, sp_junk, isVar, ev, List.getD_cons_zero, List.getD_cons_succ, St.put, List.set, List.append, List.cons_append, List.nil_append, List.append_nil, List.map_cons, List.map_nil, List.toList_toArray, Option.map_some, Option.map_none, Option.bind_some, u64_i64, shr1, half, IntWalk.i64_in, IntWalk.u64_in, getD_map, List.length_map, Int.toNat_natCast, Int.natCast_nonneg, V.cells_agg, V.cells_sc, V.cells_any, V.cells_junk, V.cells_sl, V.cells_pt, V.cells_fn, V.cells_own, V.cells_ptr, V.cells_vw, V.cells_mp, V.sub, V.okCells, V.one, Value.oneCell', List.all_cons, List.all_nil, Storable_nil, Storable_cons, Stride_nil, Stride_cons, V.kill, V.killL, V.fits, V.dataL, V.data, List.length_cons, List.length_nil, List.drop_zero, List.drop_succ_cons, List.take_succ_cons, List.take_zero, List.take, List.drop, List.headD_cons, Nat.zero_add, Nat.add_zero, Nat.reduceAdd, Nat.reduceSub, Nat.reduceMul, Nat.reduceLeDiff, Nat.reduceLT, Nat.reduceEqDiff, Int.reduceToNat, Int.reduceAdd, Int.reduceSub, Int.reduceMul, Int.reduceLT, Int.reduceLE, Int.reduceEq, Int.reduceNeg, Nat.reduceBEq, Nat.reduceBNe, List.getElem?_cons_zero, List.getElem?_cons_succ, List.getElem?_toArray, Nat.lt_irrefl, Nat.le_refl, decide_true, decide_false, Bool.not_true, Bool.not_false, Bool.and_true, Bool.true_and, Bool.and_self, Bool.false_eq_true, ↓reduceIte, true_and, and_true, and_self, true_or, or_true, false_or, or_false, ge_iff_le, gt_iff_lt, forall_const, true_implies, false_implies, implies_true, not_true_eq_false, not_false_eq_true, ne_eq, Option.isSome_some, reduceCtorEq, if_true, if_false, st_i, sd_i, da_i, dl_i, st_chV, sd_chV, da_chV, dl_chV, ce_chV, ok_chV, sp_chV, st_ruV, sd_ruV, da_ruV, dl_ruV, ce_ruV, ok_ruV, sp_ruV, st_prV, sd_prV, da_prV, dl_prV, ce_prV, ok_prV, sp_prV, st_enV, sd_enV, da_enV, dl_enV, ce_enV, ok_enV, sp_enV, st_cfV, sd_cfV, da_cfV, dl_cfV, st_veV, sd_veV, da_veV, dl_veV, st_inV, sd_inV, da_inV, dl_inV, st_edV, sd_edV, da_edV, dl_edV, ce_edV, ok_edV, sp_edV, st_grV, sd_grV, da_grV, dl_grV, ce_grV, ok_grV, sp_grV, st_weV, sd_weV, da_weV, dl_weV, ce_weV, ok_weV, sp_weV, st_mbV, sd_mbV, da_mbV, dl_mbV, ce_mbV, ok_mbV, sp_mbV, st_suV, sd_suV, da_suV, dl_suV, ce_suV, ok_suV, sp_suV, st_viV, sd_viV, da_viV, dl_viV, ce_viV, ok_viV, sp_viV, ty53, sl53, zv53, zo53, ty55, sl55, fl55_0, fl55_1, fl55_2, pl55, zv55, zo55, ty68, sl68, fl68_0, fl68_1, fl68_2, fl68_3, fl68_4, pl68, eq68, zv68, zo68]); (try exact V.Le.refl _))
theorem filter_take {α : Type} [Inhabited α] {k : α → Bool} {xs : List α} {i : Nat} (h : i < xs.length) : (xs.take (i + 1)).filter k = (xs.take i).filter k ++ if k (xs.getD i default) then [xs.getD i default] else [] := by
  rw [take_getD h, List.filter_append]
  congr 1
  generalize xs.getD i default = x
  cases hk : k x <;> simp [hk]
theorem filter_take_t {α : Type} [Inhabited α] {k : α → Bool} {xs : List α} {i : Nat} (h : i < xs.length) (hk : k (xs.getD i default) = true) : (xs.take (i + 1)).filter k = (xs.take i).filter k ++ [xs.getD i default] := by
  rw [filter_take h, if_pos hk]
theorem filter_take_f {α : Type} [Inhabited α] {k : α → Bool} {xs : List α} {i : Nat} (h : i < xs.length) (hk : k (xs.getD i default) = false) : (xs.take (i + 1)).filter k = (xs.take i).filter k := by
  rw [filter_take h, if_neg (by rw [hk]; simp), List.append_nil]
/-- Every proposal of a configuration has few changes. -/
def Small (c : Config) : Prop := c.length ≤ 1000000000 ∧ ∀ p ∈ c, p.changes.length ≤ 1000000000000
theorem Small.getD {c : Config} (h : Small c) (i : Nat) : (c.getD i default).changes.length ≤ 1000000000000 := by
  by_cases hi : i < c.length
  · rw [List.getD_eq_getElem?_getD, List.getElem?_eq_getElem hi]; exact h.2 _ (List.getElem_mem hi)
  · rw [List.getD_eq_getElem?_getD, List.getElem?_eq_none zo]; exact Nat.zero_le _
theorem config_filter (f : Bool) (c : Config) (g : FuncId) (caps : List V) (k : Proposal → Bool) (hsm : Small c) (hg : ∀ p, AM.Fn Try.prog g (prV p :: caps) (.b (k p))) (hb : hasBody Try.prog g) (hd : V.dataL caps = true) :
    AM.Spec Try.prog 78 [.sl f (c.map prV), .fn g caps] [] (OwnPost 55 3 fun l => l = (c.filter k).map prV) := by
  (refine spec_of_runs Try.func78 rfl ?_; simp only [Try.f78]; refine ys ?_)
  (refine Runs.lens 0 ?_; refine yl ?_)
  intro hl
  repeat' (first | refine yw ?_ | refine Runs.region (id := 0) ?_ | refine Runs.region (id := 1) ?_ | refine Runs.region (id := 2) ?_ | refine yr ?_ | (refine Runs.cond rfl (zc ?_) (zc ?_) <;> intro hc <;> (try (first | contradiction | (exfalso; omega; done) | (have : hc = trivial := rfl; clear this; clear hc)))))
  refine Runs.weaken (St.Le.nil 5 55 3 5 zd rfl rfl zE) ?_
  refine Runs.loopI (fun i : Nat => c.length - i) (fun i => i ≤ c.length)
    (fun i => ⟨[.any, .fn g caps, .any, .any, .any, .own 5, .any, .any, .sl f (c.map prV), .i (c.length : Nat), .i (i : Nat), .any, .any, .any, .any, .any, .any, .any, .any, .any, .any, .any, .any, .any], [(5, .lst 55 3 (((c.take i).filter k).map prV))]⟩) 0 (by simp) ?_ ?_
  · refine St.Le.clean zR ?_ ?_
    · simp [V.usesL, V.uses, AM.look_cons, V.usesL_data _ _ hd]
    · exact ⟨⟨rfl, trivial⟩, trivial⟩
  rintro i h0 ih
  have hs1 := hsm.1
  have hfl : ((c.take i).filter k).length ≤ i := Nat.le_trans (List.length_filter_le _ _) (by rw [List.length_take]; omega)
  repeat' (first | refine yw ?_ | refine Runs.region (id := 3) ?_ | refine Runs.region (id := 4) ?_ | refine Runs.region (id := 5) ?_ | refine Runs.region (id := 6) ?_ | refine Runs.region (id := 7) ?_ | refine Runs.region (id := 8) ?_ | refine yr ?_ | (refine r_fn rfl (hg _) (hb) zL1 zD ?_; refine r_nn zN zH ?_) | (refine r_fn rfl (config_clone _ (hsm.getD _)) HbF.h zL1 zD ?_; refine r_nn zN zH ?_) | (refine r_append_full SlF.h SlF.s ZoF.h zd rfl rfl zC zJ zS rfl (fun hn => ?_) (fun hn => ?_) <;> refine r_nn zN zH ?_) | (refine Runs.cond rfl (zc ?_) (zc ?_) <;> intro hc <;> (try (first | contradiction | (exfalso; omega; done) | (have : hc = trivial := rfl; clear this; clear hc)))))
  · refine ih (i + 1) _ zo zo ?_
    rw [V.killL_data _ _ hd]
    refine St.Le.clean zR ?_ ?_
    · simp [V.usesL, V.uses, AM.look_cons, V.usesL_data _ _ hd]
    · rw [filter_take zo, if_pos hc]
      exact ⟨⟨by simp [AM.look_cons], trivial⟩, trivial⟩
  · refine ih (i + 1) _ zo zo ?_
    refine St.Le.clean zR ?_ ?_
    · simp [V.usesL, V.uses, AM.look_cons, V.usesL_data _ _ hd]
    · rw [filter_take zo, hc]
      exact ⟨⟨by simp [AM.look_cons], trivial⟩, trivial⟩
  · refine Runs.ret_own Try.func78 rfl rfl rfl ?_
    rw [List.take_of_length_le zo]
end Go.Proofs
