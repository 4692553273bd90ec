/- Law 10: GraphBuild. -/
import Derived.Test.YtmhnmookgbmmbaaW22
set_option linter.unusedVariables false
set_option linter.unusedSimpArgs false
set_option maxRecDepth 8000
set_option maxHeartbeats 4000000
set_option pp.deepTerms false
set_option pp.deepTerms.threshold 6
namespace Go.Proofs
open Go.AM
/-- The proposals of a pool. -/
def poolF (l : List Int) (a i : Nat) : Proposal := propI l a i ((poolUpto l a).2 + 2 * i)
theorem pool_nice (l : List Int) : Nice (poolF l) := fun a i => ⟨rfl, rfl⟩
theorem pool_lite (l : List Int) (a i : Nat) : (poolF l a i).changes.length ≤ 2 := by
  simp only [poolF, propI, List.length_cons]
  split <;> simp
theorem pool_cut (l : List Int) : IsCut (poolF l) (poolI l) := ⟨cntI l 0, cntI l 1, cntI l 2, ⟨(cntI_bd l 0).2, (cntI_bd l 1).2, (cntI_bd l 2).2⟩, by
  show (([] ++ groupI l 0 3 (cntI l 0)) ++ groupI l 1 (3 + 2 * cntI l 0) (cntI l 1)) ++ groupI l 2 (3 + 2 * cntI l 0 + 2 * cntI l 1) (cntI l 2) = _
  rw [List.nil_append]; rfl⟩
theorem part_cut {f : Nat → Nat → Proposal} (hf : Nice f) {c : Config} (hc : IsCut f c) (n : Int) : IsCut f (partI c n) := by
  obtain ⟨i, j, k, h, rfl⟩ := hc
  exact ⟨_, _, _, ⟨by omega, by omega, by omega⟩, restrictR_cut hf _ i j k⟩
theorem cut_len (f : Nat → Nat → Proposal) (i j k : Nat) : (cut f i j k).length = i + j + k := by simp [cut, blk, Nat.add_assoc]
def Lite (f : Nat → Nat → Proposal) : Prop := ∀ a i, (f a i).changes.length ≤ 2
theorem IsCut.small {f : Nat → Nat → Proposal} (hf : Lite f) {c : Config} (hc : IsCut f c) : c.length ≤ 9 ∧ Small c := by
  obtain ⟨i, j, k, h, rfl⟩ := hc
  refine ⟨by rw [cut_len]; omega, by rw [cut_len]; omega, fun p hp => ?_⟩
  simp only [cut, blk, List.mem_append, List.mem_map] at hp
  rcases hp with (⟨n, _, rfl⟩ | ⟨n, _, rfl⟩) | ⟨n, _, rfl⟩ <;> exact Nat.le_trans (hf _ _) zd
theorem fine_fin : ∀ i j k : Fin 4, Fine (vecC i j k) := by unfold Fine; decide +kernel
theorem IsCut.fine {f : Nat → Nat → Proposal} (hf : Nice f) {c : Config} (hc : IsCut f c) : Fine (vectorV c) := by
  obtain ⟨i, j, k, h, rfl⟩ := hc
  rw [(vec_cut hf h).1]
  exact fine_fin ⟨i, h.1⟩ ⟨j, h.2.1⟩ ⟨k, h.2.2⟩
theorem count_vecC (i j k : Nat) (h : i < 4 ∧ j < 4 ∧ k < 4) (t : Int) : countR (vecC i j k) t ≤ 3 := by
  unfold vecC
  split <;> split <;> split <;> simp only [List.nil_append, List.cons_append, countR] <;> (repeat' split) <;> omega
theorem IsCut.cnt {f : Nat → Nat → Proposal} (hf : Nice f) {c : Config} (hc : IsCut f c) (t : Int) : cntR c t ≤ 3 := by
  obtain ⟨i, j, k, h, rfl⟩ := hc
  unfold cntR
  rw [(vec_cut hf h).2]
  exact count_vecC i j k h t
theorem flatMap_len_le {α β : Type} {l : List α} {g : α → List β} {n : Nat} (h : ∀ x ∈ l, (g x).length ≤ n) : (l.flatMap g).length ≤ l.length * n := by
  induction l with
  | nil => simp
  | cons x l ih =>
    rw [List.flatMap_cons, List.length_append, List.length_cons, Nat.add_mul]
    have := h x (by simp)
    have := ih fun y hy => h y (by simp [hy])
    omega
theorem allN_len (f : Nat → Nat → Proposal) {i j k i' j' k' : Nat} (h' : i' < 4 ∧ j' < 4 ∧ k' < 4) : (allN f i j k i' j' k').length ≤ 64 := by
  refine Nat.le_trans (flatMap_len_le (n := 16) fun a ha => ?_) ?_
  · refine Nat.le_trans (flatMap_len_le (n := 4) fun b hb => ?_) ?_
    · rw [List.length_map, upto_len]; omega
    · rw [upto_len]; omega
  · rw [upto_len]; omega
/-- What both sides make of an interval. -/
theorem all_is {f : Nat → Nat → Proposal} (hf : Nice f) (hl : Lite f) {a b : Config} (ha : IsCut f a) (hb : IsCut f b) : allB a b = allR a b ∧ (∀ c ∈ allR a b, IsCut f c) ∧ Few (allR a b) := by
  obtain ⟨i, j, k, h, rfl⟩ := ha
  obtain ⟨i', j', k', h', rfl⟩ := hb
  rw [allB_cut hf h h', allR_cut hf h h']
  split
  · have hc := allN_cut f (i := i) (j := j) (k := k) h'
    exact ⟨rfl, hc, Nat.le_trans (allN_len f h') zd, fun c hm => ((hc c hm).small hl).2.1⟩
  · exact ⟨rfl, by simp, by simp [Few]⟩
theorem law_GraphBuild (f : Bool) (l : List Int) (x y : Int) (hl : l.length ≤ 4611686018427387904) : AM.Fn Try.prog 3 [.sl f (l.map .i), .i x, .i y] (.b true) := by
  have hf := pool_nice l
  have hli : Lite (poolF l) := pool_lite l
  have hc := pool_cut l
  have ha := part_cut hf hc x
  have hb := part_cut hf hc y
  have hn := all_is hf hli ha hb
  have hB := graph_Build false false _ _ (Nat.le_trans (ha.small hli).1 zd) (hb.small hli).2 (Nat.le_trans (hb.small hli).1 zd) (hb.fine hf) (by rw [hn.1]; exact hn.2.2)
  have hR := ref_All false false _ _ (Nat.le_trans (ha.small hli).1 zd) (Nat.le_trans (hb.small hli).1 zd) (fun t => hb.cnt hf t)
  have hI := law_is false _ hn.2.2
  rw [hn.1, ofB, edges_cut hf hn.2.1] at hB
  have hlen : (poolI l).length ≤ 1000000000 := Nat.le_trans (hc.small hli).1 zd
  have hP := kit_Pool f l hl
  have hX := kit_Part false _ x hlen
  have hY := kit_Part false _ y hlen
  clear hn ha hb hlen
  generalize poolI l = p at *
  generalize partI p x = a at *
  generalize partI p y = b at *
  generalize allR a b = ns at *
  generalize (⟨ns, edgesR ns⟩ : Graph) = g at *
  clear hc
  (refine spec_of_runs Try.func3 rfl ?_; simp only [Try.f3, List.length_cons, List.length_nil, Nat.zero_add, Nat.reduceAdd, Nat.reduceSub, List.replicate, List.cons_append, List.nil_append])
  repeat' (first | refine Runs.seq ?_ | (refine Runs.region (id := 0) ?_; try (refine r_v rfl (v_assign ?_); try (all_goals (refine r_n zN ?_); try (refine r_end ?_)))) | (refine Runs.region (id := 1) ?_; try (refine r_v rfl (v_move ?_); try (all_goals (refine r_n zN ?_); try ((refine r_fn rfl (hP) hb11 zL1 zD ?_); try (all_goals (refine r_nn zN zH ?_); try (refine r_v rfl (v_assign ?_); try (all_goals (refine r_n zN ?_); try (refine r_end ?_)))))))) | (refine Runs.region (id := 2) ?_; try (refine r_v rfl (v_move ?_); try (all_goals (refine r_n zN ?_); try (refine r_v rfl (v_move ?_); try (all_goals (refine r_n zN ?_); try (((first | refine r_fn rfl (hX) hb12 zL2 zD ?_ | refine r_fn rfl (hY) hb12 zL2 zD ?_)); try (all_goals (refine r_nn zN zH ?_); try (refine r_v rfl (v_move ?_); try (all_goals (refine r_n zN ?_); try (refine r_v rfl (v_move ?_); try (all_goals (refine r_n zN ?_); try (((first | refine r_fn rfl (hX) hb12 zL2 zD ?_ | refine r_fn rfl (hY) hb12 zL2 zD ?_)); try (all_goals (refine r_nn zN zH ?_); try (refine r_v rfl (v_assign ?_); try (all_goals (refine r_n zN ?_); try (refine r_v rfl (v_assign ?_); try (all_goals (refine r_n zN ?_); try (refine r_end ?_)))))))))))))))))) | (refine Runs.region (id := 3) ?_; try (refine r_v rfl (v_move ?_); try (all_goals (refine r_n zN ?_); try (refine r_v rfl (v_move ?_); try (all_goals (refine r_n zN ?_); try ((refine r_fn rfl (hB) hb14 zL2 zD ?_); try (all_goals (refine r_nn zN zH ?_); try (refine r_v rfl (v_move ?_); try (all_goals (refine r_n zN ?_); try (refine r_v rfl (v_move ?_); try (all_goals (refine r_n zN ?_); try ((refine r_fn rfl (hR) hb15 zL2 zD ?_); try (all_goals (refine r_nn zN zH ?_); try ((refine r_fn rfl (hI) hb13 zL2 zD ?_); try (all_goals (refine r_nn zN zH ?_); try (refine r_v rfl (v_move ?_); try (all_goals (refine r_n zN ?_); try (all_goals (first | (refine r_run rfl rfl rfl ?_; (refine r_fn rfl (law_awake) hb16 zL0 zD ?_)) | refine r_pass rfl rfl rfl ?_ | refine r_void rfl rfl ?_ | ((first | (refine r_guardPtL rfl rfl ?_ ?_) | (refine r_guardNtL rfl rfl ?_ ?_) | (refine r_guardL rfl rfl ?_ ?_)); focus (intro hG; first | (exfalso; omega; done) | ((refine r_fn rfl (law_awake) hb16 zL0 zD ?_)))); all_goals (try (refine Later.mk ?_; intro hG; try (exfalso; omega; done)))); try (all_goals (refine r_nn zN zH ?_); try (all_goals (first | refine r_v rfl (v_pick_t rfl ?_) | refine r_v rfl (v_pick_f rfl ?_) | refine r_v rfl (v_pick rfl ?_)); try (all_goals (refine r_n zN ?_); try (all_goals refine r_v rfl (v_assign ?_); try (all_goals (refine r_n zN ?_); try (all_goals refine r_end ?_)))))))))))))))))))))))) | (refine Runs.cond rfl ?_ ?_ <;> intro hc <;> (try simp only [decide_eq_true_eq, decide_eq_false_iff_not, Bool.not_eq_true', Bool.not_eq_false', Bool.not_eq_true, Bool.false_eq_true, reduceCtorEq, Bool.true_eq_false, Int.not_lt, Int.not_le, Int.ofNat_lt, Int.ofNat_le, not_false_eq_true, Decidable.not_not, eqc_ch, eqc_ed, eqc_ru] at hc) <;> (try (exfalso; omega; done))) | refine Runs.skip ?_ | refine Runs.block ?_ | refine Runs.inBlock ?_ | refine Runs.label ?_ | refine Runs.exit rfl ?_ | refine Runs.scope ?_ | refine Runs.inScope ?_)
  (refine Runs.ret_fn Try.func3 ?_; (try simp only [Try.f3]); (try simp -implicitDefEqProofs (disch := omega) only [↓evalR_cons, ↓evalR_nil, ↓evalR_guard, ↓evalD_cons, ↓evalD_nil, ↓evalD_guard, ↓stepR, ↓opK, ↓valK, ↓dK, binK, unK, convK, intK, cmpK, strK, srcK, resK, AM.pack, AM.free, AM.look_nil, AM.look_cons, AM.upd_nil, AM.upd_cons, AM.updK, Obj.len, Obj.elem, Obj.wr, sp_agg, sp_sc, sp_sl, sp_own, sp_junk, isVar, ev, List.getD_cons_zero, List.getD_cons_succ, St.put, List.set, List.append, List.cons_append, List.nil_append, List.append_nil, List.map_cons, List.map_nil, List.toList_toArray, Option.map_some, Option.map_none, Option.bind_some, u64_i64, shr1, half, IntWalk.i64_in, IntWalk.u64_in, getD_map, List.length_map, Int.toNat_natCast, Int.natCast_nonneg, V.cells_agg, V.cells_sc, V.cells_any, V.cells_junk, V.cells_sl, V.cells_pt, V.cells_fn, V.cells_own, V.cells_ptr, V.cells_vw, V.cells_mp, V.sub, V.okCells, V.one, Value.oneCell', List.all_cons, List.all_nil, Storable_nil, Storable_cons, Stride_nil, Stride_cons, V.kill, V.killL, V.fits, V.dataL, V.data, List.length_cons, List.length_nil, List.drop_zero, List.drop_succ_cons, List.take_succ_cons, List.take_zero, List.take, List.drop, List.headD_cons, Nat.zero_add, Nat.add_zero, Nat.reduceAdd, Nat.reduceSub, Nat.reduceMul, Nat.reduceLeDiff, Nat.reduceLT, Nat.reduceEqDiff, Int.reduceToNat, Int.reduceAdd, Int.reduceSub, Int.reduceMul, Int.reduceLT, Int.reduceLE, Int.reduceEq, Int.reduceNeg, Nat.reduceBEq, Nat.reduceBNe, List.getElem?_cons_zero, List.getElem?_cons_succ, List.getElem?_toArray, Nat.lt_irrefl, Nat.le_refl, decide_true, decide_false, Bool.not_true, Bool.not_false, Bool.and_true, Bool.true_and, Bool.and_self, Bool.false_eq_true, ↓reduceIte, true_and, and_true, and_self, true_or, or_true, false_or, or_false, ge_iff_le, gt_iff_lt, forall_const, true_implies, false_implies, implies_true, not_true_eq_false, not_false_eq_true, ne_eq, Option.isSome_some, reduceCtorEq, if_true, if_false, st_i, sd_i, da_i, dl_i, st_chV, sd_chV, da_chV, dl_chV, ce_chV, ok_chV, sp_chV, st_ruV, sd_ruV, da_ruV, dl_ruV, ce_ruV, ok_ruV, sp_ruV, st_prV, sd_prV, da_prV, dl_prV, ce_prV, ok_prV, sp_prV, st_enV, sd_enV, da_enV, dl_enV, ce_enV, ok_enV, sp_enV, st_cfV, sd_cfV, da_cfV, dl_cfV, st_veV, sd_veV, da_veV, dl_veV, st_inV, sd_inV, da_inV, dl_inV, st_edV, sd_edV, da_edV, dl_edV, ce_edV, ok_edV, sp_edV, st_grV, sd_grV, da_grV, dl_grV, ce_grV, ok_grV, sp_grV, ty3, un3, sl3, zv3, zo3, ty22, sl22, zv22, zo22, ty24, sl24, zv24, zo24, ty28, sl28, zv28, zo28, ty31, sl31, fl31_0, fl31_1, pl31, zv31, zo31, ty55, sl55, fl55_0, fl55_1, fl55_2, pl55, zv55, zo55]); (try exact V.Le.refl _))
end Go.Proofs
