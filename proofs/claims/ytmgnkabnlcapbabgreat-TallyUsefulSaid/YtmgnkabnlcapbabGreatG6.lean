/- Contracts of functions and plain laws: W133, W129, W74. -/
import Derived.Test.YtmgnkabnlcapbabGreatMj
import Derived.Test.YtmgnkabnlcapbabGreatRows
import Derived.Test.YtmgnkabnlcapbabGreatG5
set_option linter.unusedVariables false
set_option linter.unusedSimpArgs false
set_option maxRecDepth 8000
set_option maxHeartbeats 4000000
set_option pp.deepTerms false
set_option pp.deepTerms.threshold 6
namespace Go.Proofs
open Go.AM
attribute [local irreducible] AM.evalR AM.evalD AM.Runs AM.valK AM.dK AM.opK AM.stepR AM.CallS AM.St.Le
theorem tally_UsefulO (f h f2 : Bool) (g : View) (a b : Config) (acks : List Source) (l : List Config) (hM : AM.Fn Tryz.prog 11 [viV g, .sl f (a.map prV), .sl h (b.map prV), .sl f2 (acks.map soV)] (.sl false (l.map cfV))) (hF : Fair g l) (hk : acks.length ≤ 1000000) :
    AM.Spec Tryz.prog 8 [viV g, .sl f (a.map prV), .sl h (b.map prV), .sl f2 (acks.map soV)] [] (OwnPost 3 1 fun r => r = (useL (wantL g a (colI acks) l)).map .i) := by
  have hcol := tally_collect f2 acks hk
  have hlen : (colI acks).length = 13 := colI_len acks ans0
  have hgl := hF.gl
  have hn := hF.n
  generalize colI acks = got at *
  have hcl : (arI got).cells.length = 13 := by show (got.map V.i).length = 13; rw [List.length_map]; exact hlen
  have hok : (arI got).okCells = true := by show (got.map V.i).all V.one = true; rw [List.all_map]; exact List.all_eq_true.2 fun _ _ => rfl
  have hwl : ∀ k, ((l.take k).foldl (confStep g a got) wan0).length = 13 := fun k => confF_len g a got (l.take k) wan0
  (refine spec_of_runs Tryz.func8 rfl ?_; simp only [Tryz.f8]; refine ys ?_)
  repeat' (first | refine yw ?_ | ((with_reducible refine Runs.is ?_); first | refine Runs.region (id := 0) ?_ | refine Runs.region (id := 1) ?_ | refine Runs.region (id := 2) ?_ | refine Runs.region (id := 3) ?_ | ((with_reducible refine Runs.isC ?_); refine Runs.cond rfl (zc ?_) (zc ?_) <;> intro hc <;> (try (first | contradiction | (exfalso; omega; done) | (have : hc = trivial := rfl; clear this; clear hc))))) | ((with_reducible refine r_is ?_); first | refine yr ?_ | (refine r_fn rfl (hcol) HbF.h zL1 zD ?_; refine r_nn zN zH ?_) | (refine r_fn rfl (hM) HbF.h zL4 zD ?_; refine r_nn zN zH ?_)) | fail)
  refine r_storeW TyF.h rfl rfl ⟨by decide, by decide, hcl, hok⟩ (by show V.agg ([] ++ got.map V.i ++ List.drop (0 + (got.map V.i).length) (ans0.map V.i)) = _; rw [List.length_map, hlen, show List.drop (0 + 13) (ans0.map V.i) = [] from rfl, List.append_nil]; rfl) ?_
  refine r_nn zN zH ?_
  repeat' (first | refine yw ?_ | ((with_reducible refine Runs.is ?_); first | refine Runs.region (id := 1) ?_ | refine Runs.region (id := 2) ?_ | refine Runs.region (id := 3) ?_ | ((with_reducible refine Runs.isC ?_); refine Runs.cond rfl (zc ?_) (zc ?_) <;> intro hc <;> (try (first | contradiction | (exfalso; omega; done) | (have : hc = trivial := rfl; clear this; clear hc))))) | ((with_reducible refine r_is ?_); first | refine yr ?_ | (refine r_fn rfl (hcol) HbF.h zL1 zD ?_; refine r_nn zN zH ?_) | (refine r_fn rfl (hM) HbF.h zL4 zD ?_; refine r_nn zN zH ?_)) | fail)
  refine Runs.loopI (fun k : Nat => l.length - k) (fun k => k ≤ l.length)
    (fun k => ⟨[.any, .sl f (a.map prV), .any, .any, .ptr 4 0 0, .any, .any, .any, .any, .ptr 9 0 0, .ptr 10 0 0, .any, .any, .any, .any, .any, .any, .any, .any, .any, .any, .any, .any, .any, .any, .sl false (l.map cfV), .i (l.length : Nat), .i (k : Nat), .any, .any, .any, .any, .any, .any, .any, .any, .any, .any, .any, .any, .any, .any, .any, .any, .any, .any, .any, .any, .any, .any, .any, .any, .any, .any, .any, .any, .any, .any, .any, .any, .any, .any, .any, .any, .any, .any, .any, .any, .any, .any, .any, .any, .any, .any, .any, .any], [(10, .var 66 (.agg (((l.take k).foldl (confStep g a got) wan0).map .b))), (9, .var 64 (arI got)), (4, .var 27 (viV g))]⟩) 0 (Nat.zero_le _) ?_ ?_
  · (refine St.Le.clean zR zU zV)
  intro k hk2 ih
  have hst := fun (h : k < l.length) => foldl_take (g := confStep g a got) (s := wan0) h
  have hend : l.length ≤ k → (l.take k).foldl (confStep g a got) wan0 = wantL g a got l := fun h => by rw [List.take_of_length_le h]; rfl
  have hw := hwl k
  generalize (l.take k).foldl (confStep g a got) wan0 = acc at *
  by_cases hlt : k < l.length
  · have hst2 : (l.take (k + 1)).foldl (confStep g a got) wan0 = (viewOf g (l.getD k default)).members.foldl (wantStep got (if eqvB (l.getD k default) a = true then 2 else 1)) acc := hst hlt
    have hc0 := getD_in hlt
    have hE := config_Equal false f (l.getD k default) a
    have hV := tally_view false g (l.getD k default) hF.gl (hF.c _ hc0).1 (hF.c _ hc0).2
    have hlm := (hF.v _ hc0).1.1
    change AM.Fn _ _ _ (.b (eqvB (l.getD k default) a)) at hE
    generalize viewOf g (l.getD k default) = v at *
    obtain ⟨ms, vr⟩ := v
    dsimp only at hst2 hlm
    cases hb : eqvB (l.getD k default) a
    all_goals (rw [hb] at hE)
    all_goals (repeat' (first | refine yw ?_ | ((with_reducible refine Runs.is ?_); first | refine Runs.region (id := 4) ?_ | refine Runs.region (id := 5) ?_ | refine Runs.region (id := 6) ?_ | refine Runs.region (id := 7) ?_ | refine Runs.region (id := 8) ?_ | refine Runs.region (id := 9) ?_ | ((with_reducible refine Runs.isC ?_); refine Runs.cond rfl (zc ?_) (zc ?_) <;> intro hc <;> (try (first | contradiction | (exfalso; omega; done) | (have : hc = trivial := rfl; clear this; clear hc))))) | ((with_reducible refine r_is ?_); first | refine yr ?_ | (refine r_fn rfl (hE) HbF.h zL2 zD ?_; refine r_nn zN zH ?_) | (refine r_fn rfl (hV) HbF.h zL2 zD ?_; refine r_nn zN zH ?_)) | fail))
    all_goals (refine Runs.loopI (fun j : Nat => ms.length - j) (fun j => j ≤ ms.length) (fun j => ⟨[.any, .sl f (a.map prV), .any, .any, .ptr 4 0 0, .any, .any, .any, .any, .ptr 9 0 0, .ptr 10 0 0, .any, .any, .i (if eqvB (l.getD k default) a = true then 2 else 1), .any, .any, .any, .any, .any, .any, .any, .any, .any, .any, .any, .sl false (l.map cfV), .i (l.length : Nat), .i (k : Nat), .any, .any, .any, .any, .any, .any, .any, .any, .any, .sl false (ms.map mbV), .i (ms.length : Nat), .i (j : Nat), .any, .any, .any, .any, .any, .any, .any, .any, .any, .any, .any, .any, .any, .any, .any, .any, .any, .any, .any, .any, .any, .any, .any, .any, .any, .any, .any, .any, .any, .any, .any, .any, .any, .any, .any, .any], [(10, .var 66 (.agg (((ms.take j).foldl (wantStep got (if eqvB (l.getD k default) a = true then 2 else 1)) acc).map .b))), (9, .var 64 (arI got)), (4, .var 27 (viV g))]⟩) 0 (Nat.zero_le _) ?_ ?_)
    all_goals first
      | (rw [hb]
         (refine St.Le.clean zR zU zV)
         done)
      | skip
    all_goals generalize (if eqvB (l.getD k default) a = true then (2 : Int) else 1) = w at *
    all_goals (intro j hj ihj)
    all_goals have hsj := fun (h : j < ms.length) => foldl_take (g := wantStep got w) (s := acc) h
    all_goals have hej : ms.length ≤ j → (ms.take j).foldl (wantStep got w) acc = ms.foldl (wantStep got w) acc := fun h => by rw [List.take_of_length_le h]
    all_goals have hwj : ((ms.take j).foldl (wantStep got w) acc).length = 13 := by rw [wantF_len]; exact hw
    all_goals generalize (ms.take j).foldl (wantStep got w) acc = ac2 at *
    all_goals
      by_cases hjt : j < ms.length
      · have hs2 : (ms.take (j + 1)).foldl (wantStep got w) acc = if (1 ≤ (ms.getD j default).server ∧ (ms.getD j default).server ≤ 12) ∧ got.getD (ms.getD j default).server.toNat default < w then ac2.set (ms.getD j default).server.toNat true else ac2 := hsj hjt
        repeat' (first | refine yw ?_ | ((with_reducible refine Runs.is ?_); first | refine Runs.region (id := 10) ?_ | refine Runs.region (id := 11) ?_ | refine Runs.region (id := 12) ?_ | ((with_reducible refine Runs.isC ?_); refine Runs.cond rfl (zc ?_) (zc ?_) <;> intro hc <;> (try (first | contradiction | (exfalso; omega; done) | (have : hc = trivial := rfl; clear this; clear hc))))) | ((with_reducible refine r_is ?_); first | refine yr ?_ | ((with_reducible refine r_gd ?_); (first | refine r_guardPt rfl rfl ?_ ?_ | refine r_guardNt rfl rfl ?_ ?_ | refine r_guard rfl rfl ?_ ?_) <;> intro hG <;> (try (exfalso; omega; done)) <;> refine r_nn zN zH ?_)) | fail)
        all_goals first
          | (refine r_v rfl (v_load_arr (k := (ms.getD j default).server.toNat) TyF.h rfl rfl zo zo ?_)
             refine r_n zN ?_
             repeat' (first | refine yw ?_ | ((with_reducible refine Runs.is ?_); first | refine Runs.region (id := 12) ?_ | ((with_reducible refine Runs.isC ?_); refine Runs.cond rfl (zc ?_) (zc ?_) <;> intro hc <;> (try (first | contradiction | (exfalso; omega; done) | (have : hc = trivial := rfl; clear this; clear hc))))) | ((with_reducible refine r_is ?_); first | refine yr ?_ | ((with_reducible refine r_gd ?_); (first | refine r_guardPt rfl rfl ?_ ?_ | refine r_guardNt rfl rfl ?_ ?_ | refine r_guard rfl rfl ?_ ?_) <;> intro hG <;> (try (exfalso; omega; done)) <;> refine r_nn zN zH ?_)) | fail)
             · rw [if_pos ⟨⟨by omega, by omega⟩, by assumption⟩] at hs2
               refine Runs.region ?_
               refine r_v rfl (v_fieldAddr_ptr FlF.h rfl ?_)
               refine r_n zN ?_
               refine r_v rfl (v_load_part TyF.h rfl rfl zE zd ?_)
               refine r_n zN ?_
               refine r_v rfl (v_indexAddr_arr SlN.h ArF.h rfl rfl zS ?_)
               refine r_n zN ?_
               refine r_store_arr (k := (ms.getD j default).server.toNat) true TyF.h rfl rfl rfl ⟨rfl, rfl⟩ zo zo ?_
               refine r_nn zN zH ?_
               generalize ac2.set (ms.getD j default).server.toNat true = ac3 at *
               repeat' (first | refine yw ?_ | ((with_reducible refine Runs.is ?_); first | refine Runs.region (id := 14) ?_ | ((with_reducible refine Runs.isC ?_); refine Runs.cond rfl (zc ?_) (zc ?_) <;> intro hc <;> (try (first | contradiction | (exfalso; omega; done) | (have : hc = trivial := rfl; clear this; clear hc))))) | ((with_reducible refine r_is ?_); first | refine yr ?_) | fail)
               refine ihj (j + 1) _ zo zo ?_
               rw [hs2]
               (refine St.Le.clean zR zU zV)
             · rw [if_neg zo] at hs2
               repeat' (first | refine yw ?_ | ((with_reducible refine Runs.is ?_); first | refine Runs.region (id := 14) ?_ | ((with_reducible refine Runs.isC ?_); refine Runs.cond rfl (zc ?_) (zc ?_) <;> intro hc <;> (try (first | contradiction | (exfalso; omega; done) | (have : hc = trivial := rfl; clear this; clear hc))))) | ((with_reducible refine r_is ?_); first | refine yr ?_) | fail)
               refine ihj (j + 1) _ zo zo ?_
               rw [hs2]
               (refine St.Le.clean zR zU zV)
             done)
          | (rw [if_neg zo] at hs2
             repeat' (first | refine yw ?_ | ((with_reducible refine Runs.is ?_); first | refine Runs.region (id := 14) ?_ | ((with_reducible refine Runs.isC ?_); refine Runs.cond rfl (zc ?_) (zc ?_) <;> intro hc <;> (try (first | contradiction | (exfalso; omega; done) | (have : hc = trivial := rfl; clear this; clear hc))))) | ((with_reducible refine r_is ?_); first | refine yr ?_) | fail)
             refine ihj (j + 1) _ zo zo ?_
             rw [hs2]
             (refine St.Le.clean zR zU zV)
             done)
          | trace_state
      · have he := hej zo
        subst he
        repeat' (first | refine yw ?_ | ((with_reducible refine Runs.is ?_); first | refine Runs.region (id := 10) ?_ | ((with_reducible refine Runs.isC ?_); refine Runs.cond rfl (zc ?_) (zc ?_) <;> intro hc <;> (try (first | contradiction | (exfalso; omega; done) | (have : hc = trivial := rfl; clear this; clear hc))))) | ((with_reducible refine r_is ?_); first | refine yr ?_) | fail)
        repeat' (first | refine yw ?_ | ((with_reducible refine Runs.is ?_); first | refine Runs.region (id := 15) ?_ | ((with_reducible refine Runs.isC ?_); refine Runs.cond rfl (zc ?_) (zc ?_) <;> intro hc <;> (try (first | contradiction | (exfalso; omega; done) | (have : hc = trivial := rfl; clear this; clear hc))))) | ((with_reducible refine r_is ?_); first | refine yr ?_) | fail)
        refine ih (k + 1) _ zo zo ?_
        rw [hst2]
        (refine St.Le.clean zR zU zV)
  · have he := hend zo
    subst he
    clear ih hst hend
    have hwl2 : (wantL g a got l).length = 13 := confF_len g a got l wan0
    generalize wantL g a got l = w at *
    repeat' (first | refine yw ?_ | ((with_reducible refine Runs.is ?_); first | refine Runs.region (id := 4) ?_ | ((with_reducible refine Runs.isC ?_); refine Runs.cond rfl (zc ?_) (zc ?_) <;> intro hc <;> (try (first | contradiction | (exfalso; omega; done) | (have : hc = trivial := rfl; clear this; clear hc))))) | ((with_reducible refine r_is ?_); first | refine yr ?_) | fail)
    repeat' (first | refine yw ?_ | ((with_reducible refine Runs.is ?_); first | refine Runs.region (id := 16) ?_ | refine Runs.region (id := 17) ?_ | ((with_reducible refine Runs.isC ?_); refine Runs.cond rfl (zc ?_) (zc ?_) <;> intro hc <;> (try (first | contradiction | (exfalso; omega; done) | (have : hc = trivial := rfl; clear this; clear hc))))) | ((with_reducible refine r_is ?_); first | refine yr ?_) | fail)
    refine r_v rfl (v_load_var TyF.h rfl rfl (by show (w.map V.b).length = 13; rw [List.length_map]; exact hwl2) zd (by show V.agg (((w.map V.b).drop 0).take 13) = _; rw [List.drop_zero, List.take_of_length_le (by rw [List.length_map]; omega)]) ?_)
    refine r_n zN ?_
    repeat' (first | refine yw ?_ | ((with_reducible refine Runs.is ?_); first | refine Runs.region (id := 17) ?_ | ((with_reducible refine Runs.isC ?_); refine Runs.cond rfl (zc ?_) (zc ?_) <;> intro hc <;> (try (first | contradiction | (exfalso; omega; done) | (have : hc = trivial := rfl; clear this; clear hc))))) | ((with_reducible refine r_is ?_); first | refine yr ?_) | fail)
    (refine Runs.weaken (St.Le.nil 16 3 1 16 zd rfl rfl zE) ?_)
    refine Runs.loopI (α := Int) (fun i => (13 - i).toNat) (fun i => 0 ≤ i ∧ i ≤ 13)
      (fun i => ⟨[.any, .any, .any, .any, .any, .any, .any, .any, .any, .any, .any, .any, .any, .any, .any, .any, .own 16, .any, .any, .any, .any, .any, .any, .any, .any, .any, .any, .any, .any, .any, .any, .any, .any, .any, .any, .any, .any, .any, .any, .any, .any, .any, .any, .any, .any, .any, .any, .any, .any, .any, .any, .any, .any, .any, .any, .any, .any, .any, .any, .any, .any, .any, .any, .any, .agg (w.map .b), .i i, .any, .any, .any, .any, .any, .any, .any, .any, .any, .any], [(16, .lst 3 1 (((upto 0 (i - 1)).filter fun s => w.getD s.toNat default).map .i))]⟩) 0 ⟨by decide, by decide⟩ ?_ ?_
    · rw [show upto 0 (0 - 1) = [] from rfl]
      (refine St.Le.clean zR zU zV)
    rintro i ⟨hi1, hi2⟩ ih
    have hlen2 : ((upto 0 (i - 1)).filter fun s => w.getD s.toNat default).length ≤ 13 := by
      have h1 := List.length_filter_le (fun s => w.getD s.toNat default) (upto 0 (i - 1))
      rw [upto_len] at h1; omega
    have hst : ((upto 0 (i + 1 - 1)).filter fun s => w.getD s.toNat default) = ((upto 0 (i - 1)).filter fun s => w.getD s.toNat default) ++ (if w.getD i.toNat default = true then [i] else []) := by
      rw [show i + 1 - 1 = i by omega, upto_snoc zo, List.filter_append]
      congr 1
      simp only [List.filter_cons, List.filter_nil]
    have hend : ¬ i < 13 → ((upto 0 (i - 1)).filter fun s => w.getD s.toNat default) = useL w := fun h => by rw [show i - 1 = 12 by omega]; rfl
    generalize ((upto 0 (i - 1)).filter fun s => w.getD s.toNat default) = acc at *
    repeat' (first | refine yw ?_ | ((with_reducible refine Runs.is ?_); first | refine Runs.region (id := 18) ?_ | ((with_reducible refine Runs.isC ?_); refine Runs.cond rfl (zc ?_) (zc ?_) <;> intro hc <;> (try (first | contradiction | (exfalso; omega; done) | (have : hc = trivial := rfl; clear this; clear hc))))) | ((with_reducible refine r_is ?_); first | refine yr ?_) | fail)
    · refine Runs.region ?_
      refine r_v rfl (v_move ?_)
      refine r_n zN ?_
      refine r_v rfl (v_index_arB ArF.h rfl rfl hwl2 ⟨by omega, by omega⟩ ?_)
      refine r_n zN ?_
      generalize w.getD i.toNat default = got2 at *
      have hkl : V.LeL (V.killL 16 (List.map V.b w)) (List.map V.b w) := by rw [V.killL_data _ _ (dl_bo w)]; exact V.LeL.refl _
      repeat' (first | refine yw ?_ | ((with_reducible refine Runs.is ?_); first | refine Runs.region (id := 19) ?_ | refine Runs.region (id := 20) ?_ | refine Runs.region (id := 21) ?_ | refine Runs.region (id := 22) ?_ | ((with_reducible refine Runs.isC ?_); refine Runs.cond rfl (zc ?_) (zc ?_) <;> intro hc <;> (try (first | contradiction | (exfalso; omega; done) | (have : hc = trivial := rfl; clear this; clear hc))))) | ((with_reducible refine r_is ?_); first | refine yr ?_ | (refine r_append_full SlF.h SlF.s ZoF.h zd rfl rfl zC zJ zS rfl (fun hn => ?_) (fun hn => ?_) <;> refine r_nn zN zH ?_)) | fail)
      · rw [if_pos (by assumption)] at hst
        refine ih (i + 1) _ ⟨by omega, by omega⟩ zo ?_
        rw [hst]
        (refine St.Le.clean zR zU zV)
      · rw [if_neg (by rw [hc]; decide), List.append_nil] at hst
        refine ih (i + 1) _ ⟨by omega, by omega⟩ zo ?_
        rw [hst]
        (refine St.Le.clean zR zU zV)
    · have he := hend zo
      subst he
      repeat' (first | refine yw ?_ | ((with_reducible refine Runs.is ?_); first | refine Runs.region (id := 23) ?_ | ((with_reducible refine Runs.isC ?_); refine Runs.cond rfl (zc ?_) (zc ?_) <;> intro hc <;> (try (first | contradiction | (exfalso; omega; done) | (have : hc = trivial := rfl; clear this; clear hc))))) | ((with_reducible refine r_is ?_); first | refine yr ?_) | fail)
      exact Runs.ret_own Tryz.func8 rfl rfl rfl rfl
end Go.Proofs
namespace Go.Proofs
open Go.AM
attribute [local irreducible] AM.evalR AM.evalD AM.Runs AM.valK AM.dK AM.opK AM.stepR AM.CallS AM.St.Le
theorem law_TallyUseful (f : Bool) (n : Int) (l : List Int) (x y a : Int) (hl : l.length ≤ 4611686018427387904) : AM.Fn Tryz.prog 3 [.i n, .sl f (l.map .i), .i x, .i y, .i a] (.b true) := by
  have hF := pool_fam l
  have hf := hF.nice
  have hli : Lite (poolF l) := pool_lite l
  have hpc := pool_cut l
  have hct := part_cut hf hpc y
  have hcf := part_cut hf hct x
  have s0 := hpc.small hli
  have s1 := hct.small hli
  have s2 := hcf.small hli
  have fn1 := hct.fine hf
  have hG := kit_Genesis n
  have hP := kit_Pool f l hl
  have hP1 := kit_Part false (poolI l) y zo
  have hP2 := kit_Part false (partI (poolI l) y) x zo
  generalize partI (poolI l) y = to at *
  generalize partI to x = fr at *
  have hA := interval_All false false fr to zo s1.2 zo fn1
  obtain ⟨hFa, hcuts⟩ := fair_of hF hli n hcf hct
  have ha8 := srcI_len a
  have hSa := kit_SourcesO a
  have hM1 := tally_Missing false false false (genesisI n) fr to (srcI a) (allB fr to) hA hFa zo
  have hC1 := tally_Complete false false false (genesisI n) fr to (srcI a) (allB fr to) hM1
  have hFm : Fair (genesisI n) (missL (genesisI n) fr (srcI a) (allB fr to)) := by
    have hs : ∀ c ∈ missL (genesisI n) fr (srcI a) (allB fr to), c ∈ allB fr to := fun c hc => (List.mem_filter.1 hc).1
    exact ⟨hFa.gl, Nat.le_trans (List.length_filter_le _ _) hFa.n, fun c hc => hFa.c c (hs c hc), fun c hc => hFa.v c (hs c hc)⟩
  have hUs := tally_UsefulO false false false (genesisI n) fr to (srcI a) _ hM1 hFm zo
  have hfull := useful_full (base := fr) (acks := srcI a) (l := allB fr to) (g := genesisI n) fun c hc => (view_good hF n (hcuts c hc)).1
  have hnone := use_none (genesisI n) fr (colI (srcI a)) (l := missL (genesisI n) fr (srcI a) (allB fr to))
  have hul := useL_len (wantL (genesisI n) fr (colI (srcI a)) (missL (genesisI n) fr (srcI a) (allB fr to)))
  have hcc : complB (genesisI n) fr to (srcI a) (allB fr to) = true → useL (wantL (genesisI n) fr (colI (srcI a)) (missL (genesisI n) fr (srcI a) (allB fr to))) = [] := fun h => by
    unfold complB at h
    rw [Bool.and_eq_true, decide_eq_true_eq] at h
    exact hnone h.2
  generalize useL (wantL (genesisI n) fr (colI (srcI a)) (missL (genesisI n) fr (srcI a) (allB fr to))) = u at *
  have hM2 := tally_Missing false false false (genesisI n) fr to (srcI a ++ u.map fillS) (allB fr to) hA hFa (by rw [List.length_append, List.length_map]; omega)
  have hin : ∀ c ∈ missL (genesisI n) fr (srcI a ++ u.map fillS) (allB fr to), c ∈ allB fr to := fun c hc => (List.mem_filter.1 hc).1
  have hVo : ∀ c ∈ missL (genesisI n) fr (srcI a ++ u.map fillS) (allB fr to), AM.Fn Tryz.prog 12 [viV (genesisI n), .sl false (c.map prV)] (viV (viewOf (genesisI n) c)) := fun c hc => viewOf_fn false hF hli n (hcuts c (hin c hc))
  have hQu : ∀ c ∈ missL (genesisI n) fr (srcI a ++ u.map fillS) (allB fr to), (viewOf (genesisI n) c).members.length ≤ 12 ∧ AM.Fn Tryz.prog 13 [viV (viewOf (genesisI n) c), .sl false (((viewOf (genesisI n) c).members.map (·.server)).map .i)] (.b false) := fun c hc => by
    have g1 := view_good hF n (hcuts c (hin c hc))
    have := ref_IsQuorum false (viewOf (genesisI n) c) ((viewOf (genesisI n) c).members.map (·.server)) (memOK_light g1.1) g1.2
    rw [hfull c hc] at this
    exact ⟨g1.1.len, this⟩
  have hml : (missL (genesisI n) fr (srcI a ++ u.map fillS) (allB fr to)).length ≤ 1000 := Nat.le_trans (List.length_filter_le _ _) hFa.n
  generalize complB (genesisI n) fr to (srcI a) (allB fr to) = c1 at *
  clear hA hFa hM1 fn1 hfull hnone hin hFm hcuts hpc hct hcf hF hf hli
  generalize missL (genesisI n) fr (srcI a ++ u.map fillS) (allB fr to) = ms at *
  generalize genesisI n = g at *
  generalize srcI a = sa at *
  generalize poolI l = p at *
  cases c1
  rotate_left
  · have hu := hcc rfl
    subst hu
    (refine spec_of_runs Tryz.func3 rfl ?_; simp only [Tryz.f3]; refine ys ?_)
    repeat' (first | refine yw ?_ | ((with_reducible refine Runs.is ?_); first | refine Runs.region (id := 0) ?_ | refine Runs.region (id := 1) ?_ | refine Runs.region (id := 2) ?_ | refine Runs.region (id := 3) ?_ | refine Runs.region (id := 4) ?_ | refine Runs.region (id := 5) ?_ | refine Runs.region (id := 6) ?_ | refine Runs.region (id := 7) ?_ | ((with_reducible refine Runs.isC ?_); refine Runs.cond rfl (zc ?_) (zc ?_) <;> intro hc <;> (try (first | contradiction | (exfalso; omega; done) | (have : hc = trivial := rfl; clear this; clear hc))))) | ((with_reducible refine r_is ?_); first | refine yr ?_ | (refine r_fn rfl (hG) HbF.h zL1 zD ?_; refine r_nn zN zH ?_) | (refine r_fn rfl (hP) HbF.h zL1 zD ?_; refine r_nn zN zH ?_) | (refine r_fn rfl (hP1) HbF.h zL2 zD ?_; refine r_nn zN zH ?_) | (refine r_fn rfl (hP2) HbF.h zL2 zD ?_; refine r_nn zN zH ?_) | (refine r_own rfl (hSa) HbF.h zL1 zD rfl (fun _ hq _ => ?_); (try subst hq); refine r_nn zN zH ?_) | (refine r_lown rfl (hUs) HbF.h zY (flat_ints _) rfl (fun _ hq _ => ?_); (try subst hq); refine r_nn zN zH ?_) | (refine r_lend rfl (hC1) HbF.h zY rfl ?_; refine r_nn zN zH ?_) | (refine r_fn rfl (law_awake18) HbF.h zL0 zD ?_; refine r_nn zN zH ?_) | ((with_reducible refine r_gd ?_); (first | refine r_guardPt rfl rfl ?_ ?_ | refine r_guardNt rfl rfl ?_ ?_ | refine r_guard rfl rfl ?_ ?_) <;> intro hG <;> (try (exfalso; omega; done)) <;> refine r_nn zN zH ?_)) | fail)
    all_goals ((refine Runs.ret1 Tryz.func3 rfl zM zD ?_; try exact zX))
  clear hcc
  (refine spec_of_runs Tryz.func3 rfl ?_; simp only [Tryz.f3]; refine ys ?_)
  repeat' (first | refine yw ?_ | ((with_reducible refine Runs.is ?_); first | refine Runs.region (id := 0) ?_ | refine Runs.region (id := 1) ?_ | refine Runs.region (id := 2) ?_ | refine Runs.region (id := 3) ?_ | refine Runs.region (id := 4) ?_ | refine Runs.region (id := 5) ?_ | refine Runs.region (id := 6) ?_ | refine Runs.region (id := 7) ?_ | refine Runs.region (id := 8) ?_ | refine Runs.region (id := 9) ?_ | ((with_reducible refine Runs.isC ?_); refine Runs.cond rfl (zc ?_) (zc ?_) <;> intro hc <;> (try (first | contradiction | (exfalso; omega; done) | (have : hc = trivial := rfl; clear this; clear hc))))) | ((with_reducible refine r_is ?_); first | refine yr ?_ | (refine r_fn rfl (hG) HbF.h zL1 zD ?_; refine r_nn zN zH ?_) | (refine r_fn rfl (hP) HbF.h zL1 zD ?_; refine r_nn zN zH ?_) | (refine r_fn rfl (hP1) HbF.h zL2 zD ?_; refine r_nn zN zH ?_) | (refine r_fn rfl (hP2) HbF.h zL2 zD ?_; refine r_nn zN zH ?_) | (refine r_own rfl (hSa) HbF.h zL1 zD rfl (fun _ hq _ => ?_); (try subst hq); refine r_nn zN zH ?_) | (refine r_lown rfl (hUs) HbF.h zY (flat_ints _) rfl (fun _ hq _ => ?_); (try subst hq); refine r_nn zN zH ?_) | (refine r_lend rfl (hC1) HbF.h zY rfl ?_; refine r_nn zN zH ?_) | (refine r_fn rfl (law_awake18) HbF.h zL0 zD ?_; refine r_nn zN zH ?_) | ((with_reducible refine r_gd ?_); (first | refine r_guardPt rfl rfl ?_ ?_ | refine r_guardNt rfl rfl ?_ ?_ | refine r_guard rfl rfl ?_ ?_) <;> intro hG <;> (try (exfalso; omega; done)) <;> refine r_nn zN zH ?_)) | fail)
  refine Runs.loopI (fun i : Nat => u.length - i) (fun i => i ≤ u.length)
    (fun i => ⟨[.any, .any, .any, .any, .any, .any, .any, .any, .any, .any, .any, .ptr 11 0 0, .any, .sl false (to.map prV), .sl false (fr.map prV), .any, .own 40, .own 35, .i (i : Nat), .any, .any, .any, .any, .any, .any, .any, .any, .any, .any, .any, .any, .any, .any, .any, .any, .any, .any, .any, .any, .any, .any, .any, .any, .any, .any, .any, .any, .any, .any, .any, .any, .any, .any, .any, .any, .any, .any, .any, .any, .any, .any, .any, .any, .any, .any, .any, .any, .any, .any, .any, .any, .any, .any, .any, .any, .any, .any, .any, .any, .any, .any, .any, .any, .any, .any, .any, .any, .any, .any, .any, .any, .any, .any, .any, .any, .any, .any, .any, .any, .any, .any, .any, .any, .any], [(40, .lst 3 1 (u.map .i)), (35, .lst 39 2 ((sa ++ (u.take i).map fillS).map soV)), (11, .var 27 (viV g))]⟩) 0 (Nat.zero_le _) ?_ ?_
  · rw [show sa ++ (u.take 0).map fillS = sa by simp]
    (refine St.Le.clean zR zU zV)
  intro i hi2 ih
  have hst := fun (h : i < u.length) => show sa ++ (u.take (i + 1)).map fillS = (sa ++ (u.take i).map fillS) ++ [fillS (u.getD i default)] by rw [take_getD h, List.map_append, ← List.append_assoc]; rfl
  have hend : u.length ≤ i → sa ++ (u.take i).map fillS = sa ++ u.map fillS := fun h => by rw [List.take_of_length_le h]
  have hal : (sa ++ (u.take i).map fillS).length ≤ 100 := by rw [List.length_append, List.length_map, List.length_take]; omega
  generalize hac : sa ++ (u.take i).map fillS = acc at *
  clear hac
  by_cases hlt : i < u.length
  · have hst2 := hst hlt
    repeat' (first | refine yw ?_ | ((with_reducible refine Runs.is ?_); first | refine Runs.region (id := 10) ?_ | refine Runs.region (id := 12) ?_ | refine Runs.region (id := 11) ?_ | ((with_reducible refine Runs.isC ?_); refine Runs.cond rfl (zc ?_) (zc ?_) <;> intro hc <;> (try (first | contradiction | (exfalso; omega; done) | (have : hc = trivial := rfl; clear this; clear hc))))) | ((with_reducible refine r_is ?_); first | refine yr ?_ | (refine r_append_full SlF.h SlF.s ZoF.h zd rfl rfl zC zJ zS rfl (fun hn => ?_) (fun hn => ?_) <;> refine r_nn zN zH ?_)) | fail)
    refine ih (i + 1) _ zo zo ?_
    rw [hst2]
    (refine St.Le.clean zR (by first | (simp [V.usesL, V.uses, AM.look_cons]; done) | (simp [V.usesL, V.uses, AM.look_cons, V.usesL_data, V.uses_data, da_i, da_chV, da_ruV, da_prV, da_enV, da_cfV, da_veV, da_inV, da_edV, da_grV, da_weV, da_mbV, da_suV, da_viV]; done)) ?_; (repeat' (first | exact True.intro | refine And.intro ?_ ?_)); all_goals (first | rfl | (simp [AM.look_cons, soV, fillS]; done) | (simp [V.uses, V.usesL, AM.look_cons, V.usesL_data, V.uses_data, da_i, da_chV, da_ruV, da_prV, da_enV, da_cfV, da_veV, da_inV, da_edV, da_grV, da_weV, da_mbV, da_suV, da_viV]; done)))
  have he := hend zo
  subst he
  clear ih hst hend
  repeat' (first | refine yw ?_ | ((with_reducible refine Runs.is ?_); first | refine Runs.region (id := 10) ?_ | ((with_reducible refine Runs.isC ?_); refine Runs.cond rfl (zc ?_) (zc ?_) <;> intro hc <;> (try (first | contradiction | (exfalso; omega; done) | (have : hc = trivial := rfl; clear this; clear hc))))) | ((with_reducible refine r_is ?_); first | refine yr ?_) | fail)
  (refine Runs.weaken (St.Le.freeze_lst 35 rfl) ?_; refine yf ?_)
  repeat' (first | refine yw ?_ | ((with_reducible refine Runs.is ?_); first | refine Runs.region (id := 13) ?_ | refine Runs.region (id := 14) ?_ | ((with_reducible refine Runs.isC ?_); refine Runs.cond rfl (zc ?_) (zc ?_) <;> intro hc <;> (try (first | contradiction | (exfalso; omega; done) | (have : hc = trivial := rfl; clear this; clear hc))))) | ((with_reducible refine r_is ?_); first | refine yr ?_ | (refine r_fn rfl (hM2) HbF.h zL4 zD ?_; refine r_nn zN zH ?_)) | fail)
  generalize sa ++ u.map fillS = al at *
  refine Runs.loopI (fun k : Nat => ms.length - k) (fun k => k ≤ ms.length)
    (fun k => ⟨[.any, .any, .any, .any, .any, .any, .any, .any, .any, .any, .any, .ptr 11 0 0, .any, .any, .any, .any, .any, .any, .any, .sl false (ms.map cfV), .i (k : Nat), .any, .any, .any, .any, .any, .any, .any, .any, .any, .any, .any, .any, .any, .any, .any, .any, .any, .any, .any, .any, .any, .any, .any, .any, .any, .any, .any, .any, .any, .any, .any, .any, .any, .any, .any, .any, .any, .any, .any, .any, .any, .any, .any, .any, .any, .any, .any, .any, .any, .any, .any, .any, .any, .any, .any, .any, .any, .any, .any, .any, .any, .any, .any, .any, .any, .any, .any, .any, .any, .any, .any, .any, .any, .any, .any, .any, .any, .any, .any, .any, .any, .any, .any], [(11, .var 27 (viV g))]⟩) 0 (Nat.zero_le _) ?_ ?_
  · (refine St.Le.clean zR zU zV)
  intro k hk2 ih
  by_cases hlt2 : k < ms.length
  rotate_left
  · repeat' (first | (with_reducible refine And.intro (by intro a i h; cases h) ?_) | refine yw ?_ | ((with_reducible refine Runs.is ?_); first | (refine Runs.drawnT (id := 17) [] 6 mixed zK (by decide +kernel) ?_; dsimp only [List.take, List.drop]) | refine Runs.region (id := 15) ?_ | refine Runs.drawn (id := 17) mixed zK ?_ | refine Runs.region (id := 18) ?_ | refine Runs.region (id := 19) ?_ | refine Runs.region (id := 20) ?_ | refine Runs.region (id := 22) ?_ | refine Runs.region (id := 21) ?_ | refine Runs.region (id := 23) ?_ | refine Runs.region (id := 24) ?_ | refine Runs.region (id := 16) ?_ | refine Runs.region (id := 25) ?_ | ((with_reducible refine Runs.isC ?_); refine Runs.cond rfl (zc ?_) (zc ?_) <;> intro hc <;> (try (first | contradiction | (exfalso; omega; done) | (have : hc = trivial := rfl; clear this; clear hc))))) | ((with_reducible refine r_is ?_); first | refine yr ?_ | (refine r_fn rfl (law_awake18) HbF.h zL0 zD ?_; refine r_nn zN zH ?_) | (refine r_append_full SlF.h SlF.s ZoF.h zd rfl rfl zC zJ zS rfl (fun hn => ?_) (fun hn => ?_) <;> refine r_nn zN zH ?_)) | ((with_reducible refine d_is ?_); first | refine yd ?_) | fail)
    all_goals ((refine Runs.ret1 Tryz.func3 rfl zM zD ?_; try exact zX))
  have hc0 := getD_in hlt2
  have hV := hVo _ hc0
  obtain ⟨hv12, hQ⟩ := hQu _ hc0
  generalize viewOf g (ms.getD k default) = v at *
  repeat' (first | (with_reducible refine And.intro (by intro a i h; cases h) ?_) | refine yw ?_ | ((with_reducible refine Runs.is ?_); first | (refine Runs.drawnT (id := 17) [] 6 mixed zK (by decide +kernel) ?_; dsimp only [List.take, List.drop]) | refine Runs.region (id := 15) ?_ | refine Runs.drawn (id := 17) mixed zK ?_ | refine Runs.region (id := 18) ?_ | refine Runs.region (id := 19) ?_ | refine Runs.region (id := 16) ?_ | ((with_reducible refine Runs.isC ?_); refine Runs.cond rfl (zc ?_) (zc ?_) <;> intro hc <;> (try (first | contradiction | (exfalso; omega; done) | (have : hc = trivial := rfl; clear this; clear hc))))) | ((with_reducible refine r_is ?_); first | refine yr ?_) | ((with_reducible refine d_is ?_); first | refine yd ?_ | (refine d_fn rfl (hV) HbF.h zL2 zD ?_; refine d_nn zN zH ?_)) | fail)
  (refine Runs.weaken (St.Le.nil 22 3 1 22 zd rfl rfl zE) ?_)
  refine Runs.loopI (fun j : Nat => v.members.length - j) (fun j => j ≤ v.members.length)
    (fun j => ⟨[.any, .any, .any, .any, .any, .any, .any, .any, .any, .any, .any, .ptr 11 0 0, .any, .any, .any, .any, .any, .any, .any, .sl false (ms.map cfV), .i (k : Nat), .ptr 21 0 0, .own 22, .i (j : Nat), .any, .any, .any, .any, .any, .any, .any, .any, .any, .any, .any, .any, .any, .any, .any, .any, .any, .any, .any, .any, .any, .any, .any, .any, .any, .any, .any, .any, .any, .any, .any, .any, .any, .any, .any, .any, .any, .any, .any, .any, .any, .any, .any, .any, .any, .any, .any, .any, .any, .any, .any, .any, .any, .any, .any, .any, .any, .any, .any, .any, .any, .any, .any, .any, .any, .any, .any, .any, .any, .any, .any, .any, .any, .any, .any, .any, .any, .any, .any, .any], [(22, .lst 3 1 (((v.members.take j).map (·.server)).map .i)), (21, .var 42 (viV v)), (11, .var 27 (viV g))]⟩) 0 (Nat.zero_le _) ?_ ?_
  · (refine St.Le.clean zR zU zV)
  intro j hj2 ihj
  have hst := fun (h : j < v.members.length) => show (v.members.take (j + 1)).map (·.server) = (v.members.take j).map (·.server) ++ [(v.members.getD j default).server] by rw [take_getD h, List.map_append]; rfl
  have hend : v.members.length ≤ j → (v.members.take j).map (·.server) = v.members.map (·.server) := fun h => by rw [List.take_of_length_le h]
  have hal2 : ((v.members.take j).map (·.server)).length ≤ 12 := by rw [List.length_map, List.length_take]; omega
  generalize hac : (v.members.take j).map (·.server) = acc at *
  clear hac
  by_cases hlt3 : j < v.members.length
  · have hst2 := hst hlt3
    repeat' (first | refine yw ?_ | ((with_reducible refine Runs.is ?_); first | refine Runs.region (id := 20) ?_ | refine Runs.region (id := 22) ?_ | refine Runs.region (id := 21) ?_ | ((with_reducible refine Runs.isC ?_); refine Runs.cond rfl (zc ?_) (zc ?_) <;> intro hc <;> (try (first | contradiction | (exfalso; omega; done) | (have : hc = trivial := rfl; clear this; clear hc))))) | ((with_reducible refine r_is ?_); first | refine yr ?_ | (refine r_append_full SlF.h SlF.s ZoF.h zd rfl rfl zC zJ zS rfl (fun hn => ?_) (fun hn => ?_) <;> refine r_nn zN zH ?_)) | fail)
    refine ihj (j + 1) _ zo zo ?_
    rw [hst2]
    (refine St.Le.clean zR zU zV)
  have he := hend zo
  subst he
  repeat' (first | refine yw ?_ | ((with_reducible refine Runs.is ?_); first | refine Runs.region (id := 20) ?_ | ((with_reducible refine Runs.isC ?_); refine Runs.cond rfl (zc ?_) (zc ?_) <;> intro hc <;> (try (first | contradiction | (exfalso; omega; done) | (have : hc = trivial := rfl; clear this; clear hc))))) | ((with_reducible refine r_is ?_); first | refine yr ?_) | fail)
  repeat' (first | refine yw ?_ | ((with_reducible refine Runs.is ?_); first | refine Runs.region (id := 23) ?_ | refine Runs.region (id := 24) ?_ | ((with_reducible refine Runs.isC ?_); refine Runs.cond rfl (zc ?_) (zc ?_) <;> intro hc <;> (try (first | contradiction | (exfalso; omega; done) | (have : hc = trivial := rfl; clear this; clear hc))))) | ((with_reducible refine r_is ?_); first | refine yr ?_ | (refine r_lend rfl (hQ) HbF.h zY rfl ?_; refine r_nn zN zH ?_)) | fail)
  repeat' (first | refine yw ?_ | ((with_reducible refine Runs.is ?_); first | refine Runs.region (id := 16) ?_ | ((with_reducible refine Runs.isC ?_); refine Runs.cond rfl (zc ?_) (zc ?_) <;> intro hc <;> (try (first | contradiction | (exfalso; omega; done) | (have : hc = trivial := rfl; clear this; clear hc))))) | ((with_reducible refine r_is ?_); first | refine yr ?_) | fail)
  refine ih (k + 1) _ zo zo ?_
  (refine St.Le.clean zR zU zV)
end Go.Proofs
namespace Go.Proofs
open Go.AM
attribute [local irreducible] AM.evalR AM.evalD AM.Runs AM.valK AM.dK AM.opK AM.stepR AM.CallS AM.St.Le
theorem row_own : ownKnob Tryz.prog.godebug = none := by kernel_rfl
theorem row_laid : laidOutB Tryz.prog = true := by kernel_rfl
theorem row_bool : Tryz.prog.underlying 4 = some .bool := by kernel_rfl
theorem row_int : Tryz.prog.underlying 3 = some (.int .i64) := by kernel_rfl
def I64 (z : Int) : Prop := -9223372036854775808 ≤ z ∧ z ≤ 9223372036854775807
theorem wf_i64 {z : Int} (h : (Lit.int .i64 z).wf = true) : I64 z := by
  simp only [Lit.wf, Bool.and_eq_true, decide_eq_true_eq] at h
  exact h
theorem opI : Opens Tryz.prog 3 1 (fun vs => ∃ z, I64 z ∧ vs = [V.i z]) := (opens_int row_int (by kernel_rfl)).imp fun vs ⟨z, h, e⟩ => ⟨z, wf_i64 h, e⟩
theorem opIs : Opens Tryz.prog 22 1 (fun vs => ∃ l : List Int, l.length ≤ 4611686018427387904 ∧ vs = [inV l]) := (opens_slice false (e := 3) (by kernel_rfl) (by kernel_rfl) opI zd (by kernel_rfl) (by rintro _ c ⟨z, _, rfl⟩; rfl)).imp fun vs ⟨ess, h1, h2, e⟩ => by
  obtain ⟨xs, e1, _, e2⟩ := lists_of (f := V.i) (ok := fun _ => True) (ag := false) (ess := ess) fun c hc => by obtain ⟨z, _, rfl⟩ := h1 c hc; exact ⟨z, trivial, rfl⟩
  have : reachBytes = 140737488351232 := rfl
  exact ⟨xs, by omega, by rw [e, e1]⟩
theorem oaI : OpensV Tryz.prog 3 (fun u => ∃ z, I64 z ∧ u = .i z) := fun H enc W base v d ps a b c d' => (opensV_int row_int (by kernel_rfl) H enc W base v d ps a b c d').imp fun u q => ⟨q.1, q.2.imp fun z r => ⟨wf_i64 r.1, r.2⟩⟩
theorem oaIs : OpensV Tryz.prog 22 (fun u => ∃ l : List Int, l.length ≤ 4611686018427387904 ∧ u = inV l) := opIs.sl (e := 3) (by kernel_rfl) fun u ⟨l, h, e⟩ => ⟨l, h, by simpa using e⟩
end Go.Proofs
