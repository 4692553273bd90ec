/- The kit: Rule, Change. -/
import Derived.Test.YtmhnmookgbmmbaaW8
set_option linter.unusedVariables false
set_option linter.unusedSimpArgs false
set_option maxRecDepth 8000
set_option maxHeartbeats 4000000
set_option pp.deepTerms false
set_option pp.deepTerms.threshold 6
namespace Go.Proofs
open Go.AM
theorem v_indexAddr_slE {P : Program} {t te : TypeId} {x y : Operand} {e : Operand → V} {H : Heap} {K : V → Prop} {sz by_ : Nat} {f : Bool} {es : List V} {k : IntKind} {j : Int} {v : V} (hs : slv P t = some (te, sz, by_)) (hx : e x = .sl f es) (hi : e y = .sc (.int k j)) (hj : 0 ≤ j ∧ j < es.length) (hv : es.getD j.toNat .any = v) (hc : v.cells.length = sz) (h : K (.pt v)) : valK P (.indexAddr t x y) e H K := by
  subst hv
  exact v_indexAddr_sl hs hx hi hj hc h
theorem digitB (n b i : Int) (hb : 2 ≤ b) : 0 ≤ digitI n b i ∧ digitI n b i < b := by
  unfold digitI
  exact ⟨Int.emod_nonneg _ zo, Int.emod_lt_of_pos _ zo⟩
def ruleI (n : Int) : Rule := if digitI n 8 0 = 1 ∨ digitI n 8 0 = 2 then ⟨2, 0, 0⟩ else if digitI n 8 0 = 3 then ⟨3, 1 + digitI n 4 2, 0⟩ else if digitI n 8 0 = 4 then ⟨4, 0, digitI n 2 3⟩ else ⟨1, 0, 0⟩
theorem kit_Rule (n : Int) : AM.Fn Try.prog 70 [.i n] (ruV (ruleI n)) := by
  have d4 := digitB n 4 2 zd
  (refine spec_of_runs Try.func70 rfl ?_; simp only [Try.f70]; refine ys ?_)
  repeat' (first | refine yw ?_ | refine Runs.region ?_ | refine yr ?_ | (refine r_fn rfl (kit_Digit n 8 0 zd zd) HbF.h zL3 zD ?_; refine r_nn zN zH ?_) | (refine r_fn rfl (kit_Digit n 4 2 zd zd) HbF.h zL3 zD ?_; refine r_nn zN zH ?_) | (refine r_fn rfl (kit_Digit n 2 3 zd zd) HbF.h zL3 zD ?_; refine r_nn zN zH ?_) | (refine Runs.cond rfl (zc ?_) (zc ?_) <;> intro hc <;> (try (first | contradiction | (exfalso; omega; done) | (have : hc = trivial := rfl; clear this; clear hc)))))
  all_goals ((refine Runs.ret_fn Try.func70 ?_; (try simp only [Try.f70]); (try simp -implicitDefEqProofs (disch := omega) only [↓evalR_cons, ↓evalR_nil, ↓evalR_guard, ↓evalD_cons, ↓evalD_nil, ↓evalD_guard, ↓stepR, ↓opK, ↓valK, ↓dK, binK, unK, convK, intK, cmpK, strK, srcK, resK, AM.pack, AM.free, AM.look_nil, AM.look_cons, AM.upd_nil, AM.upd_cons, AM.updK, Obj.len, Obj.elem, Obj.wr, sp_agg, sp_sc, sp_sl, sp_own, sp_junk, isVar, ev, List.getD_cons_zero, List.getD_cons_succ, St.put, List.set, List.append, List.cons_append, List.nil_append, List.append_nil, List.map_cons, List.map_nil, List.toList_toArray, Option.map_some, Option.map_none, Option.bind_some, u64_i64, shr1, half, IntWalk.i64_in, IntWalk.u64_in, getD_map, List.length_map, Int.toNat_natCast, Int.natCast_nonneg, V.cells_agg, V.cells_sc, V.cells_any, V.cells_junk, V.cells_sl, V.cells_pt, V.cells_fn, V.cells_own, V.cells_ptr, V.cells_vw, V.cells_mp, V.sub, V.okCells, V.one, Value.oneCell', List.all_cons, List.all_nil, Storable_nil, Storable_cons, Stride_nil, Stride_cons, V.kill, V.killL, V.fits, V.dataL, V.data, List.length_cons, List.length_nil, List.drop_zero, List.drop_succ_cons, List.take_succ_cons, List.take_zero, List.take, List.drop, List.headD_cons, Nat.zero_add, Nat.add_zero, Nat.reduceAdd, Nat.reduceSub, Nat.reduceMul, Nat.reduceLeDiff, Nat.reduceLT, Nat.reduceEqDiff, Int.reduceToNat, Int.reduceAdd, Int.reduceSub, Int.reduceMul, Int.reduceLT, Int.reduceLE, Int.reduceEq, Int.reduceNeg, Nat.reduceBEq, Nat.reduceBNe, List.getElem?_cons_zero, List.getElem?_cons_succ, List.getElem?_toArray, Nat.lt_irrefl, Nat.le_refl, decide_true, decide_false, Bool.not_true, Bool.not_false, Bool.and_true, Bool.true_and, Bool.and_self, Bool.false_eq_true, ↓reduceIte, true_and, and_true, and_self, true_or, or_true, false_or, or_false, ge_iff_le, gt_iff_lt, forall_const, true_implies, false_implies, implies_true, not_true_eq_false, not_false_eq_true, ne_eq, Option.isSome_some, reduceCtorEq, if_true, if_false, st_i, sd_i, da_i, dl_i, st_chV, sd_chV, da_chV, dl_chV, ce_chV, ok_chV, sp_chV, st_ruV, sd_ruV, da_ruV, dl_ruV, ce_ruV, ok_ruV, sp_ruV, st_prV, sd_prV, da_prV, dl_prV, ce_prV, ok_prV, sp_prV, st_enV, sd_enV, da_enV, dl_enV, ce_enV, ok_enV, sp_enV, st_cfV, sd_cfV, da_cfV, dl_cfV, st_veV, sd_veV, da_veV, dl_veV, st_inV, sd_inV, da_inV, dl_inV, st_edV, sd_edV, da_edV, dl_edV, ce_edV, ok_edV, sp_edV, st_grV, sd_grV, da_grV, dl_grV, ce_grV, ok_grV, sp_grV, st_weV, sd_weV, da_weV, dl_weV, ce_weV, ok_weV, sp_weV, st_mbV, sd_mbV, da_mbV, dl_mbV, ce_mbV, ok_mbV, sp_mbV, st_suV, sd_suV, da_suV, dl_suV, ce_suV, ok_suV, sp_suV, st_viV, sd_viV, da_viV, dl_viV, ce_viV, ok_viV, sp_viV, ty3, un3, sl3, zv3, zo3, ty66, sl66, fl66_0, fl66_1, fl66_2, pl66, eq66, zv66, zo66]); (try exact V.Le.refl _)))
  all_goals (unfold ruleI; repeat (first | rw [if_pos zo] | rw [if_neg zo]))
  all_goals (exact V.Le.refl _)
def changeI (n : Int) : Change :=
  if digitI n 8 0 = 0 ∨ digitI n 8 0 = 1 ∨ digitI n 8 0 = 2 then ⟨1, 1 + digitI n 8 1, 1 + digitI n 4 3, 0, ⟨0, 0, 0⟩⟩
  else if digitI n 8 0 = 3 ∨ digitI n 8 0 = 4 then ⟨2, 1 + digitI n 8 1, 0, 0, ⟨0, 0, 0⟩⟩
  else if digitI n 8 0 = 5 then ⟨3, 1 + digitI n 8 1, 1 + digitI n 4 3, 1 + digitI n 2 9, ⟨0, 0, 0⟩⟩
  else if digitI n 8 0 = 6 then ⟨4, 0, 0, 1 + digitI n 2 9, ruleI (indexI n 1099511627776 / 64)⟩
  else ⟨1, 1 + digitI n 12 1, 1, 0, ⟨0, 0, 0⟩⟩
theorem indexI_bd (n k : Int) (hk : 1 ≤ k) : 0 ≤ indexI n k ∧ indexI n k < k := by
  unfold indexI
  rw [if_neg zo]
  exact ⟨Int.emod_nonneg _ zo, Int.emod_lt_of_pos _ zo⟩
theorem kit_Change (n : Int) : AM.Fn Try.prog 43 [.i n] (chV (changeI n)) := by
  have d1 := digitB n 8 1 zd
  have d2 := digitB n 4 3 zd
  have d3 := digitB n 2 9 zd
  have d4 := digitB n 12 1 zd
  have d5 := indexI_bd n 1099511627776 zd
  (refine spec_of_runs Try.func43 rfl ?_; simp only [Try.f43]; refine ys ?_)
  repeat' (first | refine yw ?_ | refine Runs.region ?_ | refine yr ?_ | (refine r_fn rfl (kit_Digit n 8 1 zd zd) HbF.h zL3 zD ?_; refine r_nn zN zH ?_) | (refine r_fn rfl (kit_Digit n 8 0 zd zd) HbF.h zL3 zD ?_; refine r_nn zN zH ?_) | (refine r_fn rfl (kit_Digit n 4 3 zd zd) HbF.h zL3 zD ?_; refine r_nn zN zH ?_) | (refine r_fn rfl (kit_Digit n 2 9 zd zd) HbF.h zL3 zD ?_; refine r_nn zN zH ?_) | (refine r_fn rfl (kit_Digit n 12 1 zd zd) HbF.h zL3 zD ?_; refine r_nn zN zH ?_) | (refine r_fn rfl (kit_Index n 1099511627776 zd) HbF.h zL2 zD ?_; refine r_nn zN zH ?_) | (refine r_fn rfl (kit_Rule (indexI n 1099511627776 / 64)) HbF.h zL1 zD ?_; refine r_nn zN zH ?_) | (refine Runs.cond rfl (zc ?_) (zc ?_) <;> intro hc <;> (try (first | contradiction | (exfalso; omega; done) | (have : hc = trivial := rfl; clear this; clear hc)))))
  all_goals ((refine Runs.ret_fn Try.func43 ?_; (try simp only [Try.f43]); (try simp -implicitDefEqProofs (disch := omega) only [↓evalR_cons, ↓evalR_nil, ↓evalR_guard, ↓evalD_cons, ↓evalD_nil, ↓evalD_guard, ↓stepR, ↓opK, ↓valK, ↓dK, binK, unK, convK, intK, cmpK, strK, srcK, resK, AM.pack, AM.free, AM.look_nil, AM.look_cons, AM.upd_nil, AM.upd_cons, AM.updK, Obj.len, Obj.elem, Obj.wr, sp_agg, sp_sc, sp_sl, sp_own, sp_junk, isVar, ev, List.getD_cons_zero, List.getD_cons_succ, St.put, List.set, List.append, List.cons_append, List.nil_append, List.append_nil, List.map_cons, List.map_nil, List.toList_toArray, Option.map_some, Option.map_none, Option.bind_some, u64_i64, shr1, half, IntWalk.i64_in, IntWalk.u64_in, getD_map, List.length_map, Int.toNat_natCast, Int.natCast_nonneg, V.cells_agg, V.cells_sc, V.cells_any, V.cells_junk, V.cells_sl, V.cells_pt, V.cells_fn, V.cells_own, V.cells_ptr, V.cells_vw, V.cells_mp, V.sub, V.okCells, V.one, Value.oneCell', List.all_cons, List.all_nil, Storable_nil, Storable_cons, Stride_nil, Stride_cons, V.kill, V.killL, V.fits, V.dataL, V.data, List.length_cons, List.length_nil, List.drop_zero, List.drop_succ_cons, List.take_succ_cons, List.take_zero, List.take, List.drop, List.headD_cons, Nat.zero_add, Nat.add_zero, Nat.reduceAdd, Nat.reduceSub, Nat.reduceMul, Nat.reduceLeDiff, Nat.reduceLT, Nat.reduceEqDiff, Int.reduceToNat, Int.reduceAdd, Int.reduceSub, Int.reduceMul, Int.reduceLT, Int.reduceLE, Int.reduceEq, Int.reduceNeg, Nat.reduceBEq, Nat.reduceBNe, List.getElem?_cons_zero, List.getElem?_cons_succ, List.getElem?_toArray, Nat.lt_irrefl, Nat.le_refl, decide_true, decide_false, Bool.not_true, Bool.not_false, Bool.and_true, Bool.true_and, Bool.and_self, Bool.false_eq_true, ↓reduceIte, true_and, and_true, and_self, true_or, or_true, false_or, or_false, ge_iff_le, gt_iff_lt, forall_const, true_implies, false_implies, implies_true, not_true_eq_false, not_false_eq_true, ne_eq, Option.isSome_some, reduceCtorEq, if_true, if_false, st_i, sd_i, da_i, dl_i, st_chV, sd_chV, da_chV, dl_chV, ce_chV, ok_chV, sp_chV, st_ruV, sd_ruV, da_ruV, dl_ruV, ce_ruV, ok_ruV, sp_ruV, st_prV, sd_prV, da_prV, dl_prV, ce_prV, ok_prV, sp_prV, st_enV, sd_enV, da_enV, dl_enV, ce_enV, ok_enV, sp_enV, st_cfV, sd_cfV, da_cfV, dl_cfV, st_veV, sd_veV, da_veV, dl_veV, st_inV, sd_inV, da_inV, dl_inV, st_edV, sd_edV, da_edV, dl_edV, ce_edV, ok_edV, sp_edV, st_grV, sd_grV, da_grV, dl_grV, ce_grV, ok_grV, sp_grV, st_weV, sd_weV, da_weV, dl_weV, ce_weV, ok_weV, sp_weV, st_mbV, sd_mbV, da_mbV, dl_mbV, ce_mbV, ok_mbV, sp_mbV, st_suV, sd_suV, da_suV, dl_suV, ce_suV, ok_suV, sp_suV, st_viV, sd_viV, da_viV, dl_viV, ce_viV, ok_viV, sp_viV, ty3, un3, sl3, zv3, zo3, ty68, sl68, fl68_0, fl68_1, fl68_2, fl68_3, fl68_4, pl68, eq68, zv68, zo68]); (try exact V.Le.refl _)))
  all_goals (unfold changeI; repeat (first | rw [if_pos zo] | rw [if_neg zo]))
  all_goals (exact V.Le.refl _)
/-- The proposal of administrator 201 + a with number i + 1, and the words at 'at'. -/
def extra (l : List Int) (at' : Int) : Bool := decide (digitI (atI l at') 2 12 = 1) && (decide ((changeI (atI l (at' + 1))).kind ≠ (changeI (atI l at')).kind) || decide ((changeI (atI l (at' + 1))).server ≠ (changeI (atI l at')).server))
def propI (l : List Int) (a i at' : Int) : Proposal := ⟨201 + a, i + 1, changeI (atI l at') :: if extra l at' then [changeI (atI l (at' + 1))] else []⟩
def groupI (l : List Int) (a at' : Int) (n : Nat) : Config := (List.range n).map fun i : Nat => propI l a i (at' + 2 * i)
def cntI (l : List Int) (a : Int) : Nat := (digitI (atI l a) 4 0).toNat
def poolI (l : List Int) : Config := groupI l 0 3 (cntI l 0) ++ groupI l 1 (3 + 2 * cntI l 0) (cntI l 1) ++ groupI l 2 (3 + 2 * cntI l 0 + 2 * cntI l 1) (cntI l 2)
theorem groupI_succ (l : List Int) (a at' : Int) (n : Nat) : groupI l a at' (n + 1) = groupI l a at' n ++ [propI l a n (at' + 2 * n)] := by
  simp [groupI, List.range_succ]
theorem cntI_bd (l : List Int) (a : Int) : (cntI l a : Int) = digitI (atI l a) 4 0 ∧ cntI l a < 4 := by
  have := digitB (atI l a) 4 0 zd
  unfold cntI; omega
/-- The pool as three cut groups: what stands before administrator a, and the place. -/
def poolUpto (l : List Int) : Nat → Config × Int
  | 0 => ([], 3)
  | a + 1 => ((poolUpto l a).1 ++ groupI l a (poolUpto l a).2 (cntI l a), (poolUpto l a).2 + 2 * cntI l a)
theorem poolUpto_bd (l : List Int) (a : Nat) : 3 ≤ (poolUpto l a).2 ∧ (poolUpto l a).2 ≤ 3 + 6 * a ∧ (poolUpto l a).1.length ≤ 3 * a := by
  induction a with
  | zero => simp [poolUpto]
  | succ a ih =>
    have h := (cntI_bd l a).2
    simp only [poolUpto, List.length_append, groupI, List.length_map, List.length_range]
    omega
end Go.Proofs
