/- The reference: VectorOf, count. -/
import Derived.Test.YtmhnmookgbmmbaaW6
set_option linter.unusedVariables false
set_option linter.unusedSimpArgs false
set_option maxRecDepth 8000
set_option maxHeartbeats 4000000
set_option pp.deepTerms false
set_option pp.deepTerms.threshold 6
namespace Go.Proofs
open Go.AM

theorem withStep_fold (a n : Int) (v : Vector) (s : Vector × Bool) :
    (v.foldl (withStep a n) s).1.length + (if (v.foldl (withStep a n) s).2 then 0 else 1) ≤ s.1.length + (if s.2 then 0 else 1) + v.length := by
  induction v generalizing s with
  | nil => exact Nat.le_refl _
  | cons e v ih =>
    refine Nat.le_trans (ih _) ?_
    obtain ⟨l, put⟩ := s
    have : (withStep a n (l, put) e).1.length + (if (withStep a n (l, put) e).2 then 0 else 1) ≤ l.length + (if put then 0 else 1) + 1 := by
      unfold withStep; dsimp only
      cases put <;> split <;> (try split) <;> simp_all <;> omega
    simp only [List.length_cons]; omega
theorem withR_len (v : Vector) (a n : Int) : (withR v a n).length ≤ v.length + 1 := by
  unfold withR
  split
  · omega
  · have := withStep_fold a n v ([], decide (n = 0))
    dsimp only
    split
    · rename_i h; rw [if_pos h] at this; simp at this; split at this <;> omega
    · rename_i h; rw [if_neg h] at this; simp at this ⊢; split at this <;> omega
theorem withStep_mem (a n : Int) (v : Vector) (s : Vector × Bool) : ∀ e ∈ (v.foldl (withStep a n) s).1, e ∈ s.1 ∨ e ∈ v ∨ e = ⟨a, n⟩ := by
  induction v generalizing s with
  | nil => intro e he; exact .inl he
  | cons x v ih =>
    intro e he
    rcases ih _ e he with h | h | h
    · obtain ⟨l, put⟩ := s
      unfold withStep at h
      dsimp only at h
      split at h <;> split at h <;> simp at h <;> simp <;> grind
    · exact .inr (.inl (List.mem_cons_of_mem _ h))
    · exact .inr (.inr h)
theorem withR_mem {v : Vector} {a n : Int} {e : Entry} (h : e ∈ withR v a n) : e ∈ v ∨ (e = ⟨a, n⟩ ∧ 0 ≤ n ∧ n ≤ 1000000) := by
  unfold withR at h
  split at h
  · exact .inl h
  · dsimp only at h
    split at h
    · rcases withStep_mem a n v _ e h with h | h | h
      · cases h
      · exact .inl h
      · exact .inr ⟨h, by omega, by omega⟩
    · rcases List.mem_append.1 h with h | h
      · rcases withStep_mem a n v _ e h with h | h | h
        · cases h
        · exact .inl h
        · exact .inr ⟨h, by omega, by omega⟩
      · exact .inr ⟨by simpa using h, by omega, by omega⟩
/-- The counts of a vector are small. -/
def Mild (v : Vector) : Prop := ∀ e ∈ v, 0 ≤ e.count ∧ e.count ≤ 1000000
theorem Mild.count {v : Vector} (h : Mild v) (a : Int) : 0 ≤ countR v a ∧ countR v a ≤ 1000000 := by
  induction v with
  | nil => simp [countR]
  | cons e v ih =>
    unfold countR
    split
    · exact h e (List.mem_cons_self ..)
    · exact ih fun x hx => h x (List.mem_cons_of_mem _ hx)
theorem Mild.withR {v : Vector} (h : Mild v) (a n : Int) : Mild (withR v a n) := by
  intro e he
  rcases withR_mem he with h' | ⟨rfl, h1, h2⟩
  · exact h e h'
  · exact ⟨h1, h2⟩
/-- 'VectorOf' of the reference. -/
def vecStep (v : Vector) (p : Proposal) : Vector := withR v p.admin (countR v p.admin + 1)
def vectorR (c : Config) : Vector := c.foldl vecStep []
theorem vecFold (c : Config) (v : Vector) (h : Mild v) : Mild (c.foldl vecStep v) ∧ (c.foldl vecStep v).length ≤ v.length + c.length := by
  induction c generalizing v with
  | nil => exact ⟨h, by simp⟩
  | cons p c ih =>
    have := ih (vecStep v p) (h.withR _ _)
    refine ⟨this.1, Nat.le_trans this.2 ?_⟩
    have := withR_len v p.admin (countR v p.admin + 1)
    simp only [vecStep, List.length_cons]; omega
theorem ref_VectorOf (f : Bool) (c : Config) (hs1 : c.length ≤ 100000000) : AM.Fn Try.prog 35 [.sl f (c.map prV)] (.sl false ((vectorR c).map enV)) := by
  (refine spec_of_runs Try.func35 rfl ?_; simp only [Try.f35, List.length_cons, List.length_nil, Nat.zero_add, Nat.reduceAdd, Nat.reduceSub, List.replicate, List.cons_append, List.nil_append])
  repeat' (first | refine Runs.seq ?_ | (refine Runs.region (id := 0) ?_; try (refine r_v rfl (v_assign ?_); try (all_goals (refine r_n zN ?_); try (refine r_end ?_)))) | (refine Runs.region (id := 1) ?_; try (refine r_v rfl (v_assign ?_); try (all_goals (refine r_n zN ?_); try (refine r_end ?_)))) | (refine Runs.region (id := 2) ?_; try (refine r_v rfl (v_assign ?_); try (all_goals (refine r_n zN ?_); try (refine r_end ?_)))) | (refine Runs.cond rfl ?_ ?_ <;> intro hc <;> (try simp only [decide_eq_true_eq, decide_eq_false_iff_not, Bool.not_eq_true', Bool.not_eq_false', Bool.not_eq_true, Bool.false_eq_true, reduceCtorEq, Bool.true_eq_false, Int.not_lt, Int.not_le, Int.ofNat_lt, Int.ofNat_le, not_false_eq_true, Decidable.not_not, eqc_ch, eqc_ed, eqc_ru] at hc) <;> (try (exfalso; omega; done))) | refine Runs.skip ?_ | refine Runs.block ?_ | refine Runs.inBlock ?_ | refine Runs.label ?_ | refine Runs.exit rfl ?_ | refine Runs.scope ?_ | refine Runs.inScope ?_)
  refine Runs.loopI (fun i : Nat => c.length - i) (fun i => i ≤ c.length)
    (fun i => ⟨[.sl f (c.map prV), .any, .any, .sl false ((vectorR (c.take i)).map enV), .i (i : Nat), .any, .any, .any, .any, .any, .any, .any, .any, .any, .any, .any, .any, .any, .any, .any, .any, .any, .any, .any, .any, .any, .any], []⟩) 0 (by simp) ?_ ?_
  · (refine St.Le.clean zR (by simp [V.usesL, V.uses, AM.look_cons, AM.look_nil, V.uses_data, da_i, da_chV, da_ruV, da_prV, da_enV, da_cfV, da_veV, da_inV, da_edV, da_grV]) (by simp [AM.sub, AM.look_cons, AM.look_nil, V.uses, V.usesL, V.uses_data, da_i, da_chV, da_ruV, da_prV, da_enV, da_cfV, da_veV, da_inV, da_edV, da_grV]))
  rintro i h0 ih
  have hv := vecFold (c.take i) [] (by intro e he; cases he)
  rw [List.length_take, Nat.min_eq_left h0] at hv
  simp only [List.length_nil, Nat.zero_add] at hv
  have hst := fun (h : i < c.length) => foldl_take (g := vecStep) (s := []) h
  unfold vectorR
  generalize hs : (c.take i).foldl vecStep [] = v at hv hst ⊢
  have hcn := hv.1.count (c.getD i default).admin
  repeat' (first | refine Runs.seq ?_ | (refine Runs.region (id := 3) ?_; try (refine r_v rfl (v_move ?_); try (all_goals (refine r_n zN ?_); try (refine r_v rfl (v_move ?_); try (all_goals (refine r_n zN ?_); try ((first | refine r_v rfl (v_len_map (by rw [sl24]; rfl) rfl ?_) | refine r_v rfl (v_len_sl (by rw [sl24]; rfl) rfl ?_) | refine r_v rfl (v_len_own_map (by rw [sl24]; rfl) rfl rfl ?_) | refine r_v rfl (v_len_own (by rw [sl24]; rfl) rfl rfl ?_) | refine r_v rfl (v_len_vw (by rw [sl24]; rfl) rfl ?_) | refine r_v rfl (v_len_nil (by rw [sl24]; rfl) rfl ?_)); try (all_goals (refine r_nn zN zH ?_); try (refine r_v rfl (v_lss rfl rfl ?_); try (all_goals (refine r_n zN ?_); try (refine r_end ?_)))))))))) | (refine Runs.drawn (id := 5) mixed (by decide +kernel) ?_; try (refine d_v rfl (v_move ?_); try (all_goals (refine d_n zN ?_); try (refine d_v rfl (v_move ?_); try (all_goals (refine d_n zN ?_); try (refine d_v rfl (v_move ?_); try (all_goals (refine d_n zN ?_); try ((first | refine d_v rfl (v_indexAddr_map sl24 rfl rfl zo rfl ?_) | refine d_v rfl (v_indexAddr_mapZ sl24 rfl rfl zo rfl ?_) | refine d_v rfl (v_indexAddr_ownM sl24 rfl rfl rfl zS ?_) | refine d_v rfl (v_indexAddr_own sl24 rfl rfl rfl zS ?_) | refine d_v rfl (v_indexAddr_vw sl24 rfl rfl rfl zS ?_) | refine d_v rfl (v_indexAddr_slE sl24 rfl rfl (by first | decide | simp | omega) rfl rfl ?_)); try (all_goals (refine d_n zN ?_); try ((first | refine d_v rfl (v_fieldAddr_ptr fl55_0 rfl ?_) | refine d_v rfl (v_fieldAddr_pt fl55_0 rfl zE zF ?_)); try (all_goals (refine d_n zN ?_); try ((first | refine d_v rfl (v_load_pt ty3 rfl rfl zd rfl ?_) | refine d_v rfl (v_load_var ty3 rfl rfl rfl zd rfl ?_) | refine d_v rfl (v_load_part ty3 rfl rfl zE zd ?_) | refine d_v rfl (v_load_ownM ty3 rfl rfl zS (And.intro zE zd) ?_) | refine d_v rfl (v_load_ptr ty3 rfl rfl zS zS zd ?_) | refine d_v rfl (v_load_ptr ty3 rfl rfl zE zE zd ?_)); try (all_goals (refine d_n zN ?_); try (refine d_v rfl (v_move ?_); try (all_goals (refine d_n zN ?_); try (refine d_v rfl (v_move ?_); try (all_goals (refine d_n zN ?_); try (refine d_v rfl (v_move ?_); try (all_goals (refine d_n zN ?_); try ((first | refine d_v rfl (v_indexAddr_map sl24 rfl rfl zo rfl ?_) | refine d_v rfl (v_indexAddr_mapZ sl24 rfl rfl zo rfl ?_) | refine d_v rfl (v_indexAddr_ownM sl24 rfl rfl rfl zS ?_) | refine d_v rfl (v_indexAddr_own sl24 rfl rfl rfl zS ?_) | refine d_v rfl (v_indexAddr_vw sl24 rfl rfl rfl zS ?_) | refine d_v rfl (v_indexAddr_slE sl24 rfl rfl (by first | decide | simp | omega) rfl rfl ?_)); try (all_goals (refine d_n zN ?_); try ((first | refine d_v rfl (v_fieldAddr_ptr fl55_0 rfl ?_) | refine d_v rfl (v_fieldAddr_pt fl55_0 rfl zE zF ?_)); try (all_goals (refine d_n zN ?_); try ((first | refine d_v rfl (v_load_pt ty3 rfl rfl zd rfl ?_) | refine d_v rfl (v_load_var ty3 rfl rfl rfl zd rfl ?_) | refine d_v rfl (v_load_part ty3 rfl rfl zE zd ?_) | refine d_v rfl (v_load_ownM ty3 rfl rfl zS (And.intro zE zd) ?_) | refine d_v rfl (v_load_ptr ty3 rfl rfl zS zS zd ?_) | refine d_v rfl (v_load_ptr ty3 rfl rfl zE zE zd ?_)); try (all_goals (refine d_n zN ?_); try ((refine d_fn rfl (ref_Count false v _) hb34 zL2 zD ?_); try (all_goals (refine d_nn zN zH ?_); try ((first | refine d_v rfl (v_add64 rfl rfl zo ?_) | refine d_v rfl (v_add rfl rfl ?_)); try (all_goals (refine d_n zN ?_); try ((refine d_fn rfl (ref_With false v _ _ zo) hb47 zL3 zD ?_); try (all_goals (refine d_nn zN zH ?_); try (refine d_v rfl (v_assign ?_); try (all_goals (refine d_n zN ?_); try (refine d_end ?_)))))))))))))))))))))))))))))))))) | (refine Runs.region (id := 4) ?_; try (refine r_v rfl (v_move ?_); try (all_goals (refine r_n zN ?_); try ((first | refine r_v rfl (v_add64 rfl rfl zo ?_) | refine r_v rfl (v_add rfl rfl ?_)); try (all_goals (refine r_n zN ?_); try (refine r_v rfl (v_assign ?_); try (all_goals (refine r_n zN ?_); try (refine r_end ?_)))))))) | (refine Runs.region (id := 6) ?_; try (refine r_v rfl (v_move ?_); try (all_goals (refine r_n zN ?_); try (refine r_v rfl (v_assign ?_); try (all_goals (refine r_n zN ?_); try (refine r_end ?_)))))) | (refine Runs.cond rfl ?_ ?_ <;> intro hc <;> (try simp only [decide_eq_true_eq, decide_eq_false_iff_not, Bool.not_eq_true', Bool.not_eq_false', Bool.not_eq_true, Bool.false_eq_true, reduceCtorEq, Bool.true_eq_false, Int.not_lt, Int.not_le, Int.ofNat_lt, Int.ofNat_le, not_false_eq_true, Decidable.not_not, eqc_ch, eqc_ed, eqc_ru] at hc) <;> (try (exfalso; omega; done))) | refine Runs.skip ?_ | refine Runs.block ?_ | refine Runs.inBlock ?_ | refine Runs.label ?_ | refine Runs.exit rfl ?_ | refine Runs.scope ?_ | refine Runs.inScope ?_)
  · refine ih (i + 1) _ zo zo ?_
    unfold vectorR
    rw [hst zo]
    (refine St.Le.clean zR (by simp [V.usesL, V.uses, AM.look_cons, AM.look_nil, V.uses_data, da_i, da_chV, da_ruV, da_prV, da_enV, da_cfV, da_veV, da_inV, da_edV, da_grV]) (by simp [AM.sub, AM.look_cons, AM.look_nil, V.uses, V.usesL, V.uses_data, da_i, da_chV, da_ruV, da_prV, da_enV, da_cfV, da_veV, da_inV, da_edV, da_grV]))
  · (refine Runs.ret_fn Try.func35 ?_; (try simp only [Try.f35]); (try simp -implicitDefEqProofs (disch := omega) only [↓evalR_cons, ↓evalR_nil, ↓evalR_guard, ↓evalD_cons, ↓evalD_nil, ↓evalD_guard, ↓stepR, ↓opK, ↓valK, ↓dK, binK, unK, convK, intK, cmpK, strK, srcK, resK, AM.pack, AM.free, AM.look_nil, AM.look_cons, AM.upd_nil, AM.upd_cons, AM.updK, Obj.len, Obj.elem, Obj.wr, sp_agg, sp_sc, sp_sl, sp_own, sp_junk, isVar, ev, List.getD_cons_zero, List.getD_cons_succ, St.put, List.set, List.append, List.cons_append, List.nil_append, List.append_nil, List.map_cons, List.map_nil, List.toList_toArray, Option.map_some, Option.map_none, Option.bind_some, u64_i64, shr1, half, IntWalk.i64_in, IntWalk.u64_in, getD_map, List.length_map, Int.toNat_natCast, Int.natCast_nonneg, V.cells_agg, V.cells_sc, V.cells_any, V.cells_junk, V.cells_sl, V.cells_pt, V.cells_fn, V.cells_own, V.cells_ptr, V.cells_vw, V.cells_mp, V.sub, V.okCells, V.one, Value.oneCell', List.all_cons, List.all_nil, Storable_nil, Storable_cons, Stride_nil, Stride_cons, V.kill, V.killL, V.fits, V.dataL, V.data, List.length_cons, List.length_nil, List.drop_zero, List.drop_succ_cons, List.take_succ_cons, List.take_zero, List.take, List.drop, List.headD_cons, Nat.zero_add, Nat.add_zero, Nat.reduceAdd, Nat.reduceSub, Nat.reduceMul, Nat.reduceLeDiff, Nat.reduceLT, Nat.reduceEqDiff, Int.reduceToNat, Int.reduceAdd, Int.reduceSub, Int.reduceMul, Int.reduceLT, Int.reduceLE, Int.reduceEq, Int.reduceNeg, Nat.reduceBEq, Nat.reduceBNe, List.getElem?_cons_zero, List.getElem?_cons_succ, List.getElem?_toArray, Nat.lt_irrefl, Nat.le_refl, decide_true, decide_false, Bool.not_true, Bool.not_false, Bool.and_true, Bool.true_and, Bool.and_self, Bool.false_eq_true, ↓reduceIte, true_and, and_true, and_self, true_or, or_true, false_or, or_false, ge_iff_le, gt_iff_lt, forall_const, true_implies, false_implies, implies_true, not_true_eq_false, not_false_eq_true, ne_eq, Option.isSome_some, reduceCtorEq, if_true, if_false, st_i, sd_i, da_i, dl_i, st_chV, sd_chV, da_chV, dl_chV, ce_chV, ok_chV, sp_chV, st_ruV, sd_ruV, da_ruV, dl_ruV, ce_ruV, ok_ruV, sp_ruV, st_prV, sd_prV, da_prV, dl_prV, ce_prV, ok_prV, sp_prV, st_enV, sd_enV, da_enV, dl_enV, ce_enV, ok_enV, sp_enV, st_cfV, sd_cfV, da_cfV, dl_cfV, st_veV, sd_veV, da_veV, dl_veV, st_inV, sd_inV, da_inV, dl_inV, st_edV, sd_edV, da_edV, dl_edV, ce_edV, ok_edV, sp_edV, st_grV, sd_grV, da_grV, dl_grV, ce_grV, ok_grV, sp_grV, ty3, un3, sl3, zv3, zo3, ty24, sl24, zv24, zo24, ty55, sl55, fl55_0, fl55_1, fl55_2, pl55, zv55, zo55, ty59, sl59, zv59, zo59, ty71, sl71, fl71_0, fl71_1, pl71, eq71, zv71, zo71]); (try exact V.Le.refl _))
    rw [List.take_of_length_le zo] at hs
    rw [hs]; exact V.Le.refl _
theorem ref_count (f : Bool) (c : Config) (a : Int) (hs1 : c.length ≤ 100000000) : AM.Fn Try.prog 46 [.sl f (c.map prV), .i a] (.i (countR (vectorR c) a)) := by
  (refine spec_of_runs Try.func46 rfl ?_; simp only [Try.f46, List.length_cons, List.length_nil, Nat.zero_add, Nat.reduceAdd, Nat.reduceSub, List.replicate, List.cons_append, List.nil_append])
  repeat' (first | refine Runs.seq ?_ | (refine Runs.region (id := 0) ?_; try (refine r_v rfl (v_assign ?_); try (all_goals (refine r_n zN ?_); try (refine r_end ?_)))) | (refine Runs.region (id := 1) ?_; try (refine r_v rfl (v_move ?_); try (all_goals (refine r_n zN ?_); try ((refine r_fn rfl (ref_VectorOf f c hs1) hb35 zL1 zD ?_); try (all_goals (refine r_nn zN zH ?_); try (refine r_v rfl (v_move ?_); try (all_goals (refine r_n zN ?_); try ((refine r_fn rfl (ref_Count false _ _) hb34 zL2 zD ?_); try (all_goals (refine r_nn zN zH ?_); try (refine r_v rfl (v_assign ?_); try (all_goals (refine r_n zN ?_); try (refine r_end ?_)))))))))))) | (refine Runs.cond rfl ?_ ?_ <;> intro hc <;> (try simp only [decide_eq_true_eq, decide_eq_false_iff_not, Bool.not_eq_true', Bool.not_eq_false', Bool.not_eq_true, Bool.false_eq_true, reduceCtorEq, Bool.true_eq_false, Int.not_lt, Int.not_le, Int.ofNat_lt, Int.ofNat_le, not_false_eq_true, Decidable.not_not, eqc_ch, eqc_ed, eqc_ru] at hc) <;> (try (exfalso; omega; done))) | refine Runs.skip ?_ | refine Runs.block ?_ | refine Runs.inBlock ?_ | refine Runs.label ?_ | refine Runs.exit rfl ?_ | refine Runs.scope ?_ | refine Runs.inScope ?_)
  (refine Runs.ret_fn Try.func46 ?_; (try simp only [Try.f46]); (try simp -implicitDefEqProofs (disch := omega) only [↓evalR_cons, ↓evalR_nil, ↓evalR_guard, ↓evalD_cons, ↓evalD_nil, ↓evalD_guard, ↓stepR, ↓opK, ↓valK, ↓dK, binK, unK, convK, intK, cmpK, strK, srcK, resK, AM.pack, AM.free, AM.look_nil, AM.look_cons, AM.upd_nil, AM.upd_cons, AM.updK, Obj.len, Obj.elem, Obj.wr, sp_agg, sp_sc, sp_sl, sp_own, sp_junk, isVar, ev, List.getD_cons_zero, List.getD_cons_succ, St.put, List.set, List.append, List.cons_append, List.nil_append, List.append_nil, List.map_cons, List.map_nil, List.toList_toArray, Option.map_some, Option.map_none, Option.bind_some, u64_i64, shr1, half, IntWalk.i64_in, IntWalk.u64_in, getD_map, List.length_map, Int.toNat_natCast, Int.natCast_nonneg, V.cells_agg, V.cells_sc, V.cells_any, V.cells_junk, V.cells_sl, V.cells_pt, V.cells_fn, V.cells_own, V.cells_ptr, V.cells_vw, V.cells_mp, V.sub, V.okCells, V.one, Value.oneCell', List.all_cons, List.all_nil, Storable_nil, Storable_cons, Stride_nil, Stride_cons, V.kill, V.killL, V.fits, V.dataL, V.data, List.length_cons, List.length_nil, List.drop_zero, List.drop_succ_cons, List.take_succ_cons, List.take_zero, List.take, List.drop, List.headD_cons, Nat.zero_add, Nat.add_zero, Nat.reduceAdd, Nat.reduceSub, Nat.reduceMul, Nat.reduceLeDiff, Nat.reduceLT, Nat.reduceEqDiff, Int.reduceToNat, Int.reduceAdd, Int.reduceSub, Int.reduceMul, Int.reduceLT, Int.reduceLE, Int.reduceEq, Int.reduceNeg, Nat.reduceBEq, Nat.reduceBNe, List.getElem?_cons_zero, List.getElem?_cons_succ, List.getElem?_toArray, Nat.lt_irrefl, Nat.le_refl, decide_true, decide_false, Bool.not_true, Bool.not_false, Bool.and_true, Bool.true_and, Bool.and_self, Bool.false_eq_true, ↓reduceIte, true_and, and_true, and_self, true_or, or_true, false_or, or_false, ge_iff_le, gt_iff_lt, forall_const, true_implies, false_implies, implies_true, not_true_eq_false, not_false_eq_true, ne_eq, Option.isSome_some, reduceCtorEq, if_true, if_false, st_i, sd_i, da_i, dl_i, st_chV, sd_chV, da_chV, dl_chV, ce_chV, ok_chV, sp_chV, st_ruV, sd_ruV, da_ruV, dl_ruV, ce_ruV, ok_ruV, sp_ruV, st_prV, sd_prV, da_prV, dl_prV, ce_prV, ok_prV, sp_prV, st_enV, sd_enV, da_enV, dl_enV, ce_enV, ok_enV, sp_enV, st_cfV, sd_cfV, da_cfV, dl_cfV, st_veV, sd_veV, da_veV, dl_veV, st_inV, sd_inV, da_inV, dl_inV, st_edV, sd_edV, da_edV, dl_edV, ce_edV, ok_edV, sp_edV, st_grV, sd_grV, da_grV, dl_grV, ce_grV, ok_grV, sp_grV, ty3, un3, sl3, zv3, zo3, ty24, sl24, zv24, zo24, ty55, sl55, fl55_0, fl55_1, fl55_2, pl55, zv55, zo55, ty59, sl59, zv59, zo59, ty71, sl71, fl71_0, fl71_1, pl71, eq71, zv71, zo71]); (try exact V.Le.refl _))
end Go.Proofs
