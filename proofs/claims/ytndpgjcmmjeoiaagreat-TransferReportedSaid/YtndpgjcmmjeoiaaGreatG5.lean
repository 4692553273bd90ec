/- Contracts of functions and plain laws: W149, W118, W119, W72, W147, W151, W152, W74. -/
import Derived.Test.YtndpgjcmmjeoiaaGreatMk
import Derived.Test.YtndpgjcmmjeoiaaGreatRows
import Derived.Test.YtndpgjcmmjeoiaaGreatG4
set_option linter.unusedVariables false
set_option linter.unusedSimpArgs false
set_option maxRecDepth 8000
set_option maxHeartbeats 4000000
set_option pp.deepTerms false
set_option pp.deepTerms.threshold 6
namespace Go.Proofs
open Go.AM
attribute [local irreducible] AM.evalR AM.evalD AM.Runs AM.valK AM.dK AM.opK AM.stepR AM.CallS AM.St.Le
def serveM (r : Replica) (m : Message) (l : List Update) (more : Bool) : Message := ⟨5, r.server, m.«from», ⟨0, 0⟩, 0, 0, m.cert, r.base, r.hasBase, r.established, [], l, [], more⟩
theorem transfer_Serve (r : Replica) (m : Message) (l : List Update) (more : Bool) (h1 : SmallC m.cert) (h2 : SmallC r.base) (h3 : SmallC r.established) (hB : AM.Fn Tryz.prog 88 [.sl false (r.state.map upV), .sl false (m.«have».map enV), .i 4] (.tup [.sl false (l.map upV), .b more])) :
    AM.Fn Tryz.prog 29 [rpV r, msV m] (msV (serveM r m l more)) := by
  have c1 := transfer_copyCert m.cert h1
  have c2 := transfer_copyCert r.base h2
  have c3 := transfer_copyCert r.established h3
  (refine spec_of_runs Tryz.func29 rfl ?_; simp only [Tryz.f29]; refine ys ?_)
  repeat' (first | refine yw ?_ | ((with_reducible refine Runs.is ?_); first | refine Runs.region (id := 0) ?_ | refine Runs.region (id := 1) ?_ | ((with_reducible refine Runs.isC ?_); refine Runs.cond rfl (zc ?_) (zc ?_) <;> intro hc <;> (try (first | contradiction | (exfalso; omega; done) | (have : hc = trivial := rfl; clear this; clear hc))))) | ((with_reducible refine r_is ?_); first | refine yr ?_ | (refine r_fn rfl (hB) HbF.h zL3 zD ?_; refine r_nn zN zH ?_)) | fail)
  refine Runs.drawn mixed zK ?_
  ((first | refine d_v rfl (v_fieldAddr_ptr fl54_0 rfl ?_) | refine d_v rfl (v_fieldAddr_pt fl54_0 rfl zE zF ?_)); all_goals (refine d_n zN ?_); (first | refine d_v rfl (v_load_pt ty3 rfl rfl zd rfl ?_) | refine d_v rfl (v_load_var ty3 rfl rfl rfl zd rfl ?_) | refine d_v rfl (v_load_part ty3 rfl rfl zE zd ?_) | refine d_v rfl (v_load_ownM ty3 rfl rfl zS (And.intro zE zd) ?_) | refine d_v rfl (v_load_ptr ty3 rfl rfl zS zS zd ?_) | refine d_v rfl (v_load_ptr ty3 rfl rfl zE zE zd ?_)); all_goals (refine d_n zN ?_); (first | refine d_v rfl (v_fieldAddr_ptr fl60_1 rfl ?_) | refine d_v rfl (v_fieldAddr_pt fl60_1 rfl zE zF ?_)); all_goals (refine d_n zN ?_); (first | refine d_v rfl (v_load_pt ty3 rfl rfl zd rfl ?_) | refine d_v rfl (v_load_var ty3 rfl rfl rfl zd rfl ?_) | refine d_v rfl (v_load_part ty3 rfl rfl zE zd ?_) | refine d_v rfl (v_load_ownM ty3 rfl rfl zS (And.intro zE zd) ?_) | refine d_v rfl (v_load_ptr ty3 rfl rfl zS zS zd ?_) | refine d_v rfl (v_load_ptr ty3 rfl rfl zE zE zd ?_)); all_goals (refine d_n zN ?_); (first | refine d_v rfl (v_fieldAddr_ptr fl60_6 rfl ?_) | refine d_v rfl (v_fieldAddr_pt fl60_6 rfl zE zF ?_)); all_goals (refine d_n zN ?_); (first | refine d_v rfl (v_load_pt ty52 rfl rfl zd rfl ?_) | refine d_v rfl (v_load_var ty52 rfl rfl rfl zd rfl ?_) | refine d_v rfl (v_load_part ty52 rfl rfl zE zd ?_) | refine d_v rfl (v_load_ownM ty52 rfl rfl zS (And.intro zE zd) ?_) | refine d_v rfl (v_load_ptr ty52 rfl rfl zS zS zd ?_) | refine d_v rfl (v_load_ptr ty52 rfl rfl zE zE zd ?_)); all_goals (refine d_n zN ?_); ((first | refine d_fn rfl (c1) hb89 zL1 zD ?_ | refine d_fn rfl (c2) hb89 zL1 zD ?_ | refine d_fn rfl (c3) hb89 zL1 zD ?_)); all_goals (refine d_nn zN zH ?_); refine d_v rfl (v_move ?_); all_goals (refine d_n zN ?_); refine d_v rfl (v_move ?_); all_goals (refine d_n zN ?_); (first | refine d_v rfl (v_fieldAddr_ptr fl54_4 rfl ?_) | refine d_v rfl (v_fieldAddr_pt fl54_4 rfl zE zF ?_)); all_goals (refine d_n zN ?_); (first | refine d_v rfl (v_load_pt ty52 rfl rfl zd rfl ?_) | refine d_v rfl (v_load_var ty52 rfl rfl rfl zd rfl ?_) | refine d_v rfl (v_load_part ty52 rfl rfl zE zd ?_) | refine d_v rfl (v_load_ownM ty52 rfl rfl zS (And.intro zE zd) ?_) | refine d_v rfl (v_load_ptr ty52 rfl rfl zS zS zd ?_) | refine d_v rfl (v_load_ptr ty52 rfl rfl zE zE zd ?_)); all_goals (refine d_n zN ?_); ((first | refine d_fn rfl (c1) hb89 zL1 zD ?_ | refine d_fn rfl (c2) hb89 zL1 zD ?_ | refine d_fn rfl (c3) hb89 zL1 zD ?_)); all_goals (refine d_nn zN zH ?_); (first | refine d_v rfl (v_fieldAddr_ptr fl54_5 rfl ?_) | refine d_v rfl (v_fieldAddr_pt fl54_5 rfl zE zF ?_)); all_goals (refine d_n zN ?_); (first | refine d_v rfl (v_load_pt ty4 rfl rfl zd rfl ?_) | refine d_v rfl (v_load_var ty4 rfl rfl rfl zd rfl ?_) | refine d_v rfl (v_load_part ty4 rfl rfl zE zd ?_) | refine d_v rfl (v_load_ownM ty4 rfl rfl zS (And.intro zE zd) ?_) | refine d_v rfl (v_load_ptr ty4 rfl rfl zS zS zd ?_) | refine d_v rfl (v_load_ptr ty4 rfl rfl zE zE zd ?_)); all_goals (refine d_n zN ?_); (first | refine d_v rfl (v_fieldAddr_ptr fl54_6 rfl ?_) | refine d_v rfl (v_fieldAddr_pt fl54_6 rfl zE zF ?_)); all_goals (refine d_n zN ?_); (first | refine d_v rfl (v_load_pt ty52 rfl rfl zd rfl ?_) | refine d_v rfl (v_load_var ty52 rfl rfl rfl zd rfl ?_) | refine d_v rfl (v_load_part ty52 rfl rfl zE zd ?_) | refine d_v rfl (v_load_ownM ty52 rfl rfl zS (And.intro zE zd) ?_) | refine d_v rfl (v_load_ptr ty52 rfl rfl zS zS zd ?_) | refine d_v rfl (v_load_ptr ty52 rfl rfl zE zE zd ?_)); all_goals (refine d_n zN ?_); ((first | refine d_fn rfl (c1) hb89 zL1 zD ?_ | refine d_fn rfl (c2) hb89 zL1 zD ?_ | refine d_fn rfl (c3) hb89 zL1 zD ?_)); all_goals (refine d_nn zN zH ?_))
  refine d_v rfl (v_buildP (cs := [.i 5, .i r.server, .i m.«from», .i 0, .i 0, .i 0, .i 0, .sl false (m.cert.«from».map prV), .sl false (m.cert.to.map prV), .sl false (r.base.«from».map prV), .sl false (r.base.to.map prV), .b r.hasBase, .sl false (r.established.«from».map prV), .sl false (r.established.to.map prV), .sc (.slice none 0 0), .sl false (l.map upV), .sc (.slice none 0 0), .b more]) PlF.h ZvF.h rfl rfl rfl ?_)
  refine d_n zN ?_
  repeat' (first | refine yw ?_ | ((with_reducible refine Runs.is ?_); first | refine Runs.drawn (id := 2) mixed zK ?_ | ((with_reducible refine Runs.isC ?_); refine Runs.cond rfl (zc ?_) (zc ?_) <;> intro hc <;> (try (first | contradiction | (exfalso; omega; done) | (have : hc = trivial := rfl; clear this; clear hc))))) | ((with_reducible refine d_is ?_); first | refine yd ?_) | fail)
  (refine Runs.retC Tryz.func29 rfl zM rfl TyF.h (And.intro zE zd) zD ?_; try exact zX)
end Go.Proofs
namespace Go.Proofs
open Go.AM
attribute [local irreducible] AM.evalR AM.evalD AM.Runs AM.valK AM.dK AM.opK AM.stepR AM.CallS AM.St.Le
end Go.Proofs
namespace Go.Proofs
open Go.AM
attribute [local irreducible] AM.evalR AM.evalD AM.Runs AM.valK AM.dK AM.opK AM.stepR AM.CallS AM.St.Le
def tawG : View := ⟨[⟨1, 1⟩, ⟨2, 1⟩, ⟨3, 1⟩], ⟨1, 0, 0⟩⟩
theorem taw_view : viewOf tawG [] = tawG := by decide +kernel
end Go.Proofs
namespace Go.Proofs
open Go.AM
attribute [local irreducible] AM.evalR AM.evalD AM.Runs AM.valK AM.dK AM.opK AM.stepR AM.CallS AM.St.Le
theorem span_fn {g : View} (hg : g.members.length ≤ 1000) {a b : Config} (hA : AM.Fn Tryz.prog 100 [.sl false (a.map prV), .sl false (b.map prV)] (.sl false ((allB a b).map cfV))) (hn : (allB a b).length ≤ 1000)
    (hp : ∀ c ∈ allB a b, c.length ≤ 100 ∧ ∀ p ∈ c, Plain p) : AM.Fn Tryz.prog 79 [viV g, .sl false (a.map prV), .sl false (b.map prV)] (.sl false ((spanI ((allB a b).map (viewOf g))).map .i)) := by
  have hV := interval_Views false false g a b hA zo hg hp
  have hm : ∀ v ∈ (allB a b).map (viewOf g), v.members.length ≤ 200000 := by
    intro v hv
    obtain ⟨c, hc, rfl⟩ := List.mem_map.1 hv
    exact view_len hg (hp c hc).1 (hp c hc).2
  refine interval_Span false false g a b _ hV (by rw [List.length_map]; omega) (fun v hv => Nat.le_trans (hm v hv) zd) ?_
  refine Nat.le_trans (sum_le_mul (m := 200000) ?_) ?_
  · intro x hx
    obtain ⟨l, hl, rfl⟩ := List.mem_map.1 hx
    obtain ⟨v, hv, rfl⟩ := List.mem_map.1 hl
    unfold srv
    rw [List.length_map]; exact hm v hv
  · rw [List.length_map, List.length_map, List.length_map]
    omega
end Go.Proofs
namespace Go.Proofs
open Go.AM
attribute [local irreducible] AM.evalR AM.evalD AM.Runs AM.valK AM.dK AM.opK AM.stepR AM.CallS AM.St.Le
theorem law20_genesis : AM.Fn Tryz.prog 49 [] (viV tawG) := by
  (refine spec_of_runs Tryz.func49 rfl ?_; simp only [Tryz.f49]; refine ys ?_)
  repeat' (first | refine yw ?_ | ((with_reducible refine Runs.is ?_); first | refine Runs.region ?_ | ((with_reducible refine Runs.isC ?_); refine Runs.cond rfl (zc ?_) (zc ?_) <;> intro hc <;> (try (first | contradiction | (exfalso; omega; done) | (have : hc = trivial := rfl; clear this; clear hc))))) | ((with_reducible refine r_is ?_); first | refine yr ?_) | fail)
  (refine Runs.retC Tryz.func49 rfl zM rfl TyF.h (And.intro zE zd) zD ?_; try exact zX)
theorem law20_l0 (f : Bool) (l : List Message) (hl : 0 < l.length) : AM.Fn Tryz.prog 77 [.sl f (l.map msV)] (msV (l.getD 0 default)) := by
  (refine spec_of_runs Tryz.func77 rfl ?_; simp only [Tryz.f77]; refine ys ?_)
  repeat' (first | refine yw ?_ | ((with_reducible refine Runs.is ?_); first | refine Runs.region ?_ | ((with_reducible refine Runs.isC ?_); refine Runs.cond rfl (zc ?_) (zc ?_) <;> intro hc <;> (try (first | contradiction | (exfalso; omega; done) | (have : hc = trivial := rfl; clear this; clear hc))))) | ((with_reducible refine r_is ?_); first | refine yr ?_) | fail)
  all_goals ((refine Runs.retC Tryz.func77 rfl zM rfl TyF.h (And.intro zE zd) zD ?_; try exact zX))
def awT : Proposal := ⟨201, 1, [⟨1, 4, 1, 0, ⟨0, 0, 0⟩⟩]⟩
def awV4 : View := ⟨[⟨1, 1⟩, ⟨2, 1⟩, ⟨3, 1⟩, ⟨4, 1⟩], ⟨1, 0, 0⟩⟩
theorem awt_all : allB [] [awT] = [[], [awT]] := by decide +kernel
theorem awt_view : viewOf tawG [awT] = awV4 := by decide +kernel
theorem awt_span : spanI ([[], [awT]].map (viewOf tawG)) = [1, 2, 3, 4] := by
  simp only [List.map_cons, List.map_nil, taw_view, awt_view]
  rw [← spanR_I]
  decide +kernel
theorem awt_plain : ∀ c ∈ [[], [awT]], c.length ≤ 100 ∧ ∀ p ∈ c, Plain p := by
  intro c hc
  rcases List.mem_cons.1 hc with rfl | hc
  · exact ⟨by decide, fun p hp => by cases hp⟩
  · rw [List.mem_singleton.1 hc]
    exact ⟨by decide, fun p hp => by rw [List.mem_singleton.1 hp]; exact ⟨by decide, trivial⟩⟩
theorem awt_fair : Fair tawG [[], [awT]] := by
  refine ⟨by decide, by decide, awt_plain, fun c hc => ?_⟩
  rcases List.mem_cons.1 hc with rfl | hc
  · rw [taw_view]; exact ⟨⟨by decide, by decide⟩, by unfold RuleOK; decide⟩
  · rw [List.mem_singleton.1 hc, awt_view]; exact ⟨⟨by decide, by decide⟩, by unfold RuleOK; decide⟩
theorem awt_small : Small [] ∧ Small [awT] := ⟨⟨by decide, fun p hp => by cases hp⟩, ⟨by decide, fun p hp => by rw [List.mem_singleton.1 hp]; decide⟩⟩
theorem awt_jA : jobB tawG ⟨true, [], [awT], [⟨2, true⟩]⟩ [[], [awT]] = false := by
  unfold jobB jokB
  simp only [List.all_cons, List.all_nil, taw_view, awt_view]
  decide +kernel
theorem awt_jB : jobB tawG ⟨true, [], [awT], [⟨1, true⟩, ⟨2, true⟩]⟩ [[], [awT]] = true := by
  unfold jobB jokB
  simp only [List.all_cons, List.all_nil, taw_view, awt_view]
  decide +kernel
theorem awt_need : [1, 2, 3, 4].filter (needB (viewOf tawG []) [⟨1, true⟩, ⟨2, true⟩]) = [3, 4] := by rw [taw_view]; decide +kernel
theorem awt_le : V.Le (.sl false [.agg [.i 201, .i 1, .sl true (awT.changes.map chV)]]) (.sl false ([awT].map prV)) := by
  refine V.Le.slE _ _ _ rfl (dl_prV _) ?_ ?_
  · intro i hi
    have : i = 0 := by simpa using hi
    subst this; rfl
  · intro i j hi hj
    have : i = 0 := by simpa using hi
    subst this
    have hj : j < 3 := hj
    rcases (by omega : j = 0 ∨ j = 1 ∨ j = 2) with rfl | rfl | rfl
    · exact V.Le.refl _
    · exact V.Le.refl _
    · exact V.Le.full _
theorem posV_nil : PosV [] := ⟨by decide, fun e he => by cases he⟩
theorem law_awake20 : AM.Fn Tryz.prog 19 [] (.b true) := by
  have hAl := interval_All false false [] [awT] zd awt_small.2 zd (by unfold Fine; decide +kernel)
  have hSp := span_fn (g := tawG) zd hAl (by rw [awt_all]; decide) (by rw [awt_all]; exact awt_plain)
  rw [awt_all] at hAl
  rw [awt_all, awt_span] at hSp
  have hGe := law20_genesis
  have hB := transfer_Begin false false false tawG 4 [] [awT] [] [1, 2, 3, 4] hSp awt_small posV_nil zd
  have hR1 := transfer_Reported ⟨true, [], [awT], []⟩ 2 true awt_small zd
  have hR2 := transfer_Reported ⟨true, [], [awT], [⟨2, true⟩]⟩ 1 true awt_small zd
  dsimp only at hR1 hR2
  rw [show repS [] ⟨2, true⟩ = [⟨2, true⟩] by decide] at hR1
  rw [show repS [⟨2, true⟩] ⟨1, true⟩ = [⟨1, true⟩, ⟨2, true⟩] by decide] at hR2
  have hCA := transfer_Complete tawG ⟨true, [], [awT], [⟨2, true⟩]⟩ [[], [awT]] hAl awt_fair zd
  have hCB := transfer_Complete tawG ⟨true, [], [awT], [⟨1, true⟩, ⟨2, true⟩]⟩ [[], [awT]] hAl awt_fair zd
  rw [awt_jA] at hCA
  rw [awt_jB] at hCB
  have hV0 := transfer_view false tawG [] zd zd (fun p hp => by cases hp)
  have hAg := transfer_Again false tawG 4 ⟨true, [], [awT], [⟨1, true⟩, ⟨2, true⟩]⟩ [] [1, 2, 3, 4] hSp hV0 awt_small posV_nil zd rfl zd
  dsimp only at hAg
  rw [awt_need] at hAg
  have hN := ref_NewReplica 2 tawG zd
  have hL := law20_l0 false (fetchL 4 [] [awT] [] [1, 2, 3, 4]) zd
  have hBy := state_Beyond false false [] [] 4 zd zd (clone_nil false)
  have hSv := transfer_Serve (newR 2 tawG) ((fetchL 4 [] [awT] [] [1, 2, 3, 4]).getD 0 default) [] false awt_small ⟨awt_small.1, awt_small.1⟩ ⟨awt_small.1, awt_small.1⟩ hBy
  have m1 : (fetchL 4 [] [awT] [] [1, 2, 3, 4]).length = 4 := rfl
  have m2 : ((fetchL 4 [] [awT] [] [1, 2, 3, 4]).getD 3 default).to = 4 := rfl
  have m3 : ((fetchL 4 [] [awT] [] [1, 2, 3, 4]).getD 0 default).«from» = 4 := rfl
  have m4 : (serveM (newR 2 tawG) ((fetchL 4 [] [awT] [] [1, 2, 3, 4]).getD 0 default) [] false).kind = 5 := rfl
  have m5 : (serveM (newR 2 tawG) ((fetchL 4 [] [awT] [] [1, 2, 3, 4]).getD 0 default) [] false).«from» = 2 := rfl
  have m6 : (serveM (newR 2 tawG) ((fetchL 4 [] [awT] [] [1, 2, 3, 4]).getD 0 default) [] false).to = 4 := rfl
  have m7 : (serveM (newR 2 tawG) ((fetchL 4 [] [awT] [] [1, 2, 3, 4]).getD 0 default) [] false).more = false := rfl
  have m8 : (fetchL 4 [] [awT] [] [3, 4]).length = 2 := rfl
  generalize serveM (newR 2 tawG) ((fetchL 4 [] [awT] [] [1, 2, 3, 4]).getD 0 default) [] false = c at *
  generalize newR 2 tawG = nr at *
  generalize fetchL 4 [] [awT] [] [1, 2, 3, 4] = ms at *
  generalize fetchL 4 [] [awT] [] [3, 4] = ags at *
  clear hAl hSp hV0 hBy
  (refine spec_of_runs Tryz.func19 rfl ?_; simp only [Tryz.f19]; refine ys ?_)
  repeat' (first | refine yw ?_ | ((with_reducible refine Runs.is ?_); first | refine Runs.region (id := 0) ?_ | refine Runs.region (id := 1) ?_ | ((with_reducible refine Runs.isC ?_); refine Runs.cond rfl (zc ?_) (zc ?_) <;> intro hc <;> (try (first | contradiction | (exfalso; omega; done) | (have : hc = trivial := rfl; clear this; clear hc))))) | ((with_reducible refine r_is ?_); first | refine yrb ?_ | (refine r_buildOwn (D := 10) SlF.h ZoF.h zd zB zd rfl ?_; refine r_nn zN zH ?_) | (refine r_build SlF.h ZoF.h zd zB ?_; refine r_n zN ?_)) | fail)
  (refine Runs.weaken (St.Le.freeze_lst 10 rfl) ?_; refine yf ?_)
  refine Runs.weaken (St.Le.clean (s' := ⟨[.any, .sl false ([awT].map prV), .any, .any, .any, .any, .any, .any, .any, .any, .any, .any, .any, .any, .any, .any, .any, .any, .any, .any, .any, .any, .any, .any, .any, .any, .any, .any, .any, .any, .any, .any, .any, .any, .any, .any, .any, .any, .any, .any, .any, .any, .any, .any, .any, .any, .any, .any, .any, .any, .any, .any, .any, .any, .any, .any, .any, .any, .any, .any, .any, .any, .any, .any, .any, .any, .any, .any, .any, .any, .any, .any, .any, .any, .any, .any, .any, .any, .any, .any, .any, .any, .any, .any, .any], []⟩) (by repeat' (first | exact V.LeL.nil | refine V.LeL.cons ?_ ?_ | exact V.Le.any _ | exact awt_le)) (by simp [V.usesL, V.uses, AM.look_cons, V.usesL_data, da_prV]) (by simp [AM.sub])) ?_
  have hR1b : AM.Fn Tryz.prog 34 [.agg [.b true, .sl false (([] : Config).map prV), .sl false ([awT].map prV), .sc (.slice none 0 0)], .i 2, .b true] (joV ⟨true, [], [awT], [⟨2, true⟩]⟩) := Spec.args hR1 (.cons (.aggL (.cons (.refl _) (.cons (.refl _) (.cons (.refl _) (.cons (.nil _) .nil))))) (V.LeL.refl _)) (by simp [V.dataL, V.data, da_joV])
  clear hR1
  generalize [awT] = cT at *
  repeat' (first | refine yw ?_ | ((with_reducible refine Runs.is ?_); first | refine Runs.region (id := 2) ?_ | refine Runs.region (id := 3) ?_ | refine Runs.region (id := 4) ?_ | refine Runs.region (id := 5) ?_ | ((with_reducible refine Runs.isC ?_); refine Runs.cond rfl (zc ?_) (zc ?_) <;> intro hc <;> (try (first | contradiction | (exfalso; omega; done) | (have : hc = trivial := rfl; clear this; clear hc))))) | ((with_reducible refine r_is ?_); first | refine yr ?_ | (refine r_fn rfl (hGe) HbF.h zL0 zD ?_; refine r_nn zN zH ?_) | (refine r_fn rfl (hB) HbF.h zL5 zD ?_; refine r_nn zN zH ?_) | (refine r_fn rfl (hR1b) HbF.h zL3 zD ?_; refine r_nn zN zH ?_) | (refine r_fn rfl (hR2) HbF.h zL3 zD ?_; refine r_nn zN zH ?_) | (refine r_fn rfl (hN) HbF.h zL2 zD ?_; refine r_nn zN zH ?_) | (refine r_fn rfl (hL) HbF.h zL1 zD ?_; refine r_nn zN zH ?_) | (refine r_fn rfl (hSv) HbF.h zL2 zD ?_; refine r_nn zN zH ?_)) | fail)
  clear hB hR1b hR2 hN hL hSv
  repeat' (first | refine yw ?_ | ((with_reducible refine Runs.is ?_); first | refine Runs.drawn (id := 6) mixed zK ?_ | ((with_reducible refine Runs.isC ?_); refine Runs.cond rfl (zc ?_) (zc ?_) <;> intro hc <;> (try (first | contradiction | (exfalso; omega; done) | (have : hc = trivial := rfl; clear this; clear hc))))) | ((with_reducible refine d_is ?_); first | refine yd ?_ | (refine d_fn rfl (hGe) HbF.h zL0 zD ?_; refine d_nn zN zH ?_) | (refine d_fn rfl (hCA) HbF.h zL2 zD ?_; refine d_nn zN zH ?_) | (refine d_fn rfl (hCB) HbF.h zL2 zD ?_; refine d_nn zN zH ?_) | (refine d_fn rfl (hAg) HbF.h zL4 zD ?_; refine d_nn zN zH ?_) | ((with_reducible refine d_gd ?_); (first | refine d_guardPt rfl rfl ?_ ?_ | refine d_guardNt rfl rfl ?_ ?_ | refine d_guard rfl rfl ?_ ?_) <;> intro hG <;> (try (exfalso; omega; done)) <;> refine d_nn zN zH ?_)) | fail)
  all_goals ((refine Runs.ret1 Tryz.func19 rfl zM zD ?_; try exact zX))
  all_goals (rw [m7]; exact V.Le.refl _)
end Go.Proofs
namespace Go.Proofs
open Go.AM
attribute [local irreducible] AM.evalR AM.evalD AM.Runs AM.valK AM.dK AM.opK AM.stepR AM.CallS AM.St.Le
def insS (s : Source) : List Source → List Source
  | [] => [s]
  | e :: l => if e.server < s.server then e :: insS s l else if e.server = s.server then s :: l else s :: e :: l
def StrictS (l : List Source) : Prop := l.Pairwise fun a b => a.server < b.server
theorem insS_mem {s : Source} : ∀ {l : List Source} {e : Source}, e ∈ insS s l → e ∈ l ∨ e = s
  | [], e, h => by simp [insS] at h; exact .inr h
  | x :: l, e, h => by
    unfold insS at h
    split at h
    · rcases List.mem_cons.1 h with h | h
      · exact .inl (by simp [h])
      · rcases insS_mem h with h | h
        · exact .inl (by simp [h])
        · exact .inr h
    · split at h
      · rcases List.mem_cons.1 h with h | h
        · exact .inr h
        · exact .inl (by simp [h])
      · rcases List.mem_cons.1 h with h | h
        · exact .inr h
        · exact .inl h
theorem insS_strict {s : Source} : ∀ {l : List Source}, StrictS l → StrictS (insS s l)
  | [], _ => by simp [insS, StrictS]
  | x :: l, h => by
    obtain ⟨h1, h2⟩ := List.pairwise_cons.1 h
    unfold insS
    split
    · refine List.pairwise_cons.2 ⟨fun e he => ?_, insS_strict h2⟩
      rcases insS_mem he with h | h
      · exact h1 e h
      · rw [h]; assumption
    · split
      · rename_i h3 h4
        exact List.pairwise_cons.2 ⟨fun e he => by have := h1 e he; omega, h2⟩
      · refine List.pairwise_cons.2 ⟨fun e he => ?_, h⟩
        rcases List.mem_cons.1 he with h | h
        · rw [h]; omega
        · have := h1 e h; omega
theorem insS_len (s : Source) : ∀ l : List Source, (insS s l).length ≤ l.length + 1
  | [] => by simp [insS]
  | x :: l => by
    have := insS_len s l
    unfold insS
    split
    · simp only [List.length_cons]; omega
    · split <;> simp only [List.length_cons] <;> omega
theorem insS_app {s : Source} {B : List Source} (hB : ∀ e ∈ B, s.server ≤ e.server) : ∀ {A : List Source}, (∀ e ∈ A, e.server < s.server) → insS s (A ++ B) = A ++ s :: restS B s.server
  | [], _ => by
    cases B with
    | nil => rfl
    | cons e B =>
      have := hB e (by simp)
      show insS s (e :: B) = s :: restS (e :: B) s.server
      unfold insS restS
      rw [if_neg zo]
      by_cases h : e.server = s.server
      · rw [if_pos h, if_pos ⟨by simp, h⟩]; rfl
      · rw [if_neg h, if_neg (fun q => h q.2)]
  | x :: A, h => by
    have ih := insS_app hB (A := A) fun e he => h e (by simp [he])
    have := h x (by simp)
    rw [List.cons_append, insS, if_pos this, ih]; rfl
theorem atK_spec (l : List Source) (x : Int) : ∀ k, (atK l x k = 0 ∨ (l.getD (atK l x k - 1) default).server < x) ∧ ∀ i, atK l x k ≤ i → i < k → x ≤ (l.getD i default).server
  | 0 => ⟨.inl rfl, fun i h1 h2 => by omega⟩
  | k + 1 => by
    have ih := atK_spec l x k
    unfold atK
    split
    · exact ⟨.inr (by simpa using by assumption), fun i h1 h2 => by omega⟩
    · refine ⟨ih.1, fun i h1 h2 => ?_⟩
      by_cases e : i = k
      · subst e; omega
      · exact ih.2 i h1 zo
theorem strict_get {l : List Source} (h : StrictS l) {i j : Nat} (hij : i < j) (hj : j < l.length) : (l.getD i default).server < (l.getD j default).server := by
  have := List.pairwise_iff_getElem.1 h i j zo hj hij
  rw [List.getD_eq_getElem?_getD, List.getD_eq_getElem?_getD, List.getElem?_eq_getElem hj, List.getElem?_eq_getElem (show i < l.length by omega)]
  exact this
theorem repS_ins {l : List Source} (h : StrictS l) (s : Source) : repS l s = insS s l := by
  unfold repS
  have hsp := atK_spec l s.server l.length
  have hle := atK_le l s.server l.length
  generalize atK l s.server l.length = a at *
  conv => rhs; rw [← List.take_append_drop a l]
  rw [insS_app]
  · intro e he
    obtain ⟨i, hi, rfl⟩ := List.mem_iff_getElem.1 he
    rw [List.length_drop] at hi
    have := hsp.2 (a + i) zo zo
    rw [List.getD_eq_getElem?_getD, List.getElem?_eq_getElem (show a + i < l.length by omega)] at this
    rw [List.getElem_drop]
    exact this
  · intro e he
    obtain ⟨i, hi, rfl⟩ := List.mem_iff_getElem.1 he
    rw [List.length_take] at hi
    have h2 : (l.getD (a - 1) default).server < s.server := hsp.1.resolve_left zo
    have h3 : (l.getD i default).server ≤ (l.getD (a - 1) default).server := by
      by_cases e : i = a - 1
      · rw [e]; exact Int.le_refl _
      · exact Int.le_of_lt (strict_get h zo zo)
    rw [List.getElem_take]
    rw [List.getD_eq_getElem?_getD, List.getElem?_eq_getElem (show i < l.length by omega)] at h3
    exact Int.lt_of_le_of_lt h3 h2
def setStep (s : Source) (t : List Source × Bool) (e : Source) : List Source × Bool :=
  let t1 : List Source × Bool := if t.2 = false ∧ s.server ≤ e.server then (t.1 ++ [s], true) else t
  if e.server = s.server then t1 else (t1.1 ++ [e], t1.2)
def setF (s : Source) (t : List Source × Bool) : List Source := if t.2 = true then t.1 else t.1 ++ [s]
def setR (l : List Source) (s : Source) : List Source := setF s (l.foldl (setStep s) ([], false))
theorem set_true {s : Source} : ∀ {l acc : List Source}, (∀ e ∈ l, e.server ≠ s.server) → l.foldl (setStep s) (acc, true) = (acc ++ l, true)
  | [], acc, _ => by simp
  | e :: l, acc, h => by
    have h1 := h e (by simp)
    have ih := set_true (l := l) (acc := acc ++ [e]) fun x hx => h x (by simp [hx])
    rw [List.foldl_cons, show setStep s (acc, true) e = (acc ++ [e], true) by simp [setStep, h1], ih]
    simp
theorem set_aux {s : Source} : ∀ {l acc : List Source}, StrictS l → setF s (l.foldl (setStep s) (acc, false)) = acc ++ insS s l
  | [], acc, _ => by simp [setF, insS]
  | e :: l, acc, h => by
    obtain ⟨h1, h2⟩ := List.pairwise_cons.1 h
    rw [List.foldl_cons]
    by_cases c1 : e.server < s.server
    · rw [show setStep s (acc, false) e = (acc ++ [e], false) by simp [setStep, show ¬ s.server ≤ e.server by omega, show e.server ≠ s.server by omega], set_aux h2, insS, if_pos c1]
      simp
    · by_cases c2 : e.server = s.server
      · rw [show setStep s (acc, false) e = (acc ++ [s], true) by simp [setStep, c2], set_true (fun x hx => by have := h1 x hx; omega), insS, if_neg c1, if_pos c2]
        simp [setF]
      · rw [show setStep s (acc, false) e = (acc ++ [s] ++ [e], true) by simp [setStep, c2, show s.server ≤ e.server by omega], set_true (fun x hx => by have := h1 x hx; omega), insS, if_neg c1, if_neg c2]
        simp [setF]
theorem setR_ins {l : List Source} (h : StrictS l) (s : Source) : setR l s = insS s l := by
  unfold setR
  rw [set_aux h]; rfl
theorem setStep_len (s : Source) (l : List Source) (t : List Source × Bool) : (l.foldl (setStep s) t).1.length ≤ t.1.length + 2 * l.length := by
  induction l generalizing t with
  | nil => simp
  | cons e l ih =>
    refine Nat.le_trans (ih _) ?_
    have : (setStep s t e).1.length ≤ t.1.length + 2 := by
      unfold setStep; dsimp only; split <;> split <;> simp
    simp only [List.length_cons]; omega
section
variable {s e : Source} {l : List Source} {put : Bool}
theorem ss1 (h1 : put = false) (h2 : s.server ≤ e.server) (h3 : ¬ e.server = s.server) : setStep s (l, put) e = (l ++ [s] ++ [e], true) := by simp [setStep, h1, h2, h3]
theorem ss2 (h1 : put = false) (h2 : s.server ≤ e.server) (h3 : e.server = s.server) : setStep s (l, put) e = (l ++ [s], true) := by simp [setStep, h1, h2, h3]
theorem ss3 (h2 : e.server < s.server) (h3 : ¬ e.server = s.server) : setStep s (l, put) e = (l ++ [e], put) := by simp [setStep, h3, Int.not_le.2 h2]
theorem ss5 (h1 : put = true) (h3 : ¬ e.server = s.server) : setStep s (l, put) e = (l ++ [e], put) := by simp [setStep, h1, h3]
theorem ss6 (h1 : put = true) (h3 : e.server = s.server) : setStep s (l, put) e = (l, put) := by simp [setStep, h1, h3]
end
theorem ref_Set (f : Bool) (l : List Source) (s : Source) (hl : l.length ≤ 1000000) : AM.Fn Tryz.prog 35 [.sl f (l.map soV), soV s] (.sl false ((setR l s).map soV)) := by
  (refine spec_of_runs Tryz.func35 rfl ?_; simp only [Tryz.f35]; refine ys ?_)
  repeat' (first | refine yw ?_ | ((with_reducible refine Runs.is ?_); first | refine Runs.region (id := 0) ?_ | refine Runs.region (id := 1) ?_ | refine Runs.region (id := 2) ?_ | refine Runs.region (id := 3) ?_ | ((with_reducible refine Runs.isC ?_); refine Runs.cond rfl (zc ?_) (zc ?_) <;> intro hc <;> (try (first | contradiction | (exfalso; omega; done) | (have : hc = trivial := rfl; clear this; clear hc))))) | ((with_reducible refine r_is ?_); first | refine yr ?_) | fail)
  (refine Runs.weaken (St.Le.nil 5 68 2 5 zd rfl rfl zE) ?_)
  refine Runs.loopI (fun i : Nat => l.length - i) (fun i => i ≤ l.length)
    (fun i => ⟨[.sl f (l.map soV), .any, .any, .ptr 3 0 0, .any, .own 5, .b ((l.take i).foldl (setStep s) ([], false)).2, .i (i : Nat), .any, .any, .any, .any, .any, .any, .any, .any, .any, .any, .any, .any, .any, .any, .any, .any, .any, .any, .any, .any, .any, .any, .any, .any, .any, .any, .any, .any, .any, .any, .any, .any, .any, .any, .any, .any, .any, .any, .any, .any, .any, .any, .any, .any], [(5, .lst 68 2 (((l.take i).foldl (setStep s) ([], false)).1.map soV)), (3, .var 68 (soV s))]⟩) 0 (Nat.zero_le _) ?_ ?_
  · (refine St.Le.clean zR zU zV)
  intro i hi ih
  have hfl := setStep_len s (l.take i) ([], false)
  rw [List.length_take, Nat.min_eq_left hi] at hfl
  have hst := fun (h : i < l.length) => foldl_take (g := setStep s) (s := ([], false)) h
  have hend : l.length ≤ i → setR l s = setF s ((l.take i).foldl (setStep s) ([], false)) := fun h => by rw [List.take_of_length_le h]; rfl
  generalize (l.take i).foldl (setStep s) ([], false) = q at *
  obtain ⟨acc, put⟩ := q
  dsimp only at hfl
  simp only [List.length_nil, Nat.zero_add] at hfl
  by_cases hlt : i < l.length
  · have hst2 := hst hlt
    repeat' (first | refine yw ?_ | ((with_reducible refine Runs.is ?_); first | refine Runs.region (id := 4) ?_ | refine Runs.drawn (id := 6) mixed zK ?_ | refine Runs.region (id := 7) ?_ | refine Runs.region (id := 8) ?_ | refine Runs.drawn (id := 9) mixed zK ?_ | refine Runs.region (id := 10) ?_ | refine Runs.region (id := 5) ?_ | ((with_reducible refine Runs.isC ?_); refine Runs.cond rfl (zc ?_) (zc ?_) <;> intro hc <;> (try (first | contradiction | (exfalso; omega; done) | (have : hc = trivial := rfl; clear this; clear hc))))) | ((with_reducible refine r_is ?_); first | refine yr ?_ | (refine r_append_full SlF.h SlF.s ZoF.h zd rfl rfl zC zJ zS rfl (fun hn => ?_) (fun hn => ?_) <;> refine r_nn zN zH ?_)) | ((with_reducible refine d_is ?_); first | refine yd ?_ | ((with_reducible refine d_gd ?_); (first | refine d_guardPt rfl rfl ?_ ?_ | refine d_guardNt rfl rfl ?_ ?_ | refine d_guard rfl rfl ?_ ?_) <;> intro hG <;> (try (exfalso; omega; done)) <;> refine d_nn zN zH ?_)) | fail)
    all_goals first
      | (rw [ss1 (by simpa using hG) (by assumption) (by assumption)] at hst2
         refine ih (i + 1) _ zo zo ?_
         rw [hst2]
         (refine St.Le.clean zR (by first | (simp [V.usesL, V.uses, AM.look_cons]; done) | (simp [V.usesL, V.uses, AM.look_cons, V.usesL_data, V.uses_data, da_i, da_chV, da_ruV, da_prV, da_enV, da_cfV, da_veV, da_inV, da_edV, da_grV, da_weV, da_mbV, da_suV, da_viV]; done)) ?_; (repeat' (first | exact True.intro | refine And.intro ?_ ?_)); all_goals (first | rfl | (simp [AM.look_cons, soV]; done) | (simp [V.uses, V.usesL, AM.look_cons, V.usesL_data, V.uses_data, da_i, da_chV, da_ruV, da_prV, da_enV, da_cfV, da_veV, da_inV, da_edV, da_grV, da_weV, da_mbV, da_suV, da_viV]; done)))
         done)
      | (rw [ss2 (by simpa using hG) (by assumption) (by assumption)] at hst2
         refine ih (i + 1) _ zo zo ?_
         rw [hst2]
         (refine St.Le.clean zR (by first | (simp [V.usesL, V.uses, AM.look_cons]; done) | (simp [V.usesL, V.uses, AM.look_cons, V.usesL_data, V.uses_data, da_i, da_chV, da_ruV, da_prV, da_enV, da_cfV, da_veV, da_inV, da_edV, da_grV, da_weV, da_mbV, da_suV, da_viV]; done)) ?_; (repeat' (first | exact True.intro | refine And.intro ?_ ?_)); all_goals (first | rfl | (simp [AM.look_cons, soV]; done) | (simp [V.uses, V.usesL, AM.look_cons, V.usesL_data, V.uses_data, da_i, da_chV, da_ruV, da_prV, da_enV, da_cfV, da_veV, da_inV, da_edV, da_grV, da_weV, da_mbV, da_suV, da_viV]; done)))
         done)
      | (rw [ss3 (by assumption) (by assumption)] at hst2
         refine ih (i + 1) _ zo zo ?_
         rw [hst2]
         (refine St.Le.clean zR (by first | (simp [V.usesL, V.uses, AM.look_cons]; done) | (simp [V.usesL, V.uses, AM.look_cons, V.usesL_data, V.uses_data, da_i, da_chV, da_ruV, da_prV, da_enV, da_cfV, da_veV, da_inV, da_edV, da_grV, da_weV, da_mbV, da_suV, da_viV]; done)) ?_; (repeat' (first | exact True.intro | refine And.intro ?_ ?_)); all_goals (first | rfl | (simp [AM.look_cons, soV]; done) | (simp [V.uses, V.usesL, AM.look_cons, V.usesL_data, V.uses_data, da_i, da_chV, da_ruV, da_prV, da_enV, da_cfV, da_veV, da_inV, da_edV, da_grV, da_weV, da_mbV, da_suV, da_viV]; done)))
         done)
      | (rw [ss5 (by simpa using hG) (by assumption)] at hst2
         refine ih (i + 1) _ zo zo ?_
         rw [hst2]
         (refine St.Le.clean zR (by first | (simp [V.usesL, V.uses, AM.look_cons]; done) | (simp [V.usesL, V.uses, AM.look_cons, V.usesL_data, V.uses_data, da_i, da_chV, da_ruV, da_prV, da_enV, da_cfV, da_veV, da_inV, da_edV, da_grV, da_weV, da_mbV, da_suV, da_viV]; done)) ?_; (repeat' (first | exact True.intro | refine And.intro ?_ ?_)); all_goals (first | rfl | (simp [AM.look_cons, soV]; done) | (simp [V.uses, V.usesL, AM.look_cons, V.usesL_data, V.uses_data, da_i, da_chV, da_ruV, da_prV, da_enV, da_cfV, da_veV, da_inV, da_edV, da_grV, da_weV, da_mbV, da_suV, da_viV]; done)))
         done)
      | (rw [ss6 (by simpa using hG) (by assumption)] at hst2
         refine ih (i + 1) _ zo zo ?_
         rw [hst2]
         (refine St.Le.clean zR (by first | (simp [V.usesL, V.uses, AM.look_cons]; done) | (simp [V.usesL, V.uses, AM.look_cons, V.usesL_data, V.uses_data, da_i, da_chV, da_ruV, da_prV, da_enV, da_cfV, da_veV, da_inV, da_edV, da_grV, da_weV, da_mbV, da_suV, da_viV]; done)) ?_; (repeat' (first | exact True.intro | refine And.intro ?_ ?_)); all_goals (first | rfl | (simp [AM.look_cons, soV]; done) | (simp [V.uses, V.usesL, AM.look_cons, V.usesL_data, V.uses_data, da_i, da_chV, da_ruV, da_prV, da_enV, da_cfV, da_veV, da_inV, da_edV, da_grV, da_weV, da_mbV, da_suV, da_viV]; done)))
         done)
      | trace_state
  · rw [hend zo]
    cases put
    · repeat' (first | refine yw ?_ | ((with_reducible refine Runs.is ?_); first | refine Runs.region (id := 4) ?_ | ((with_reducible refine Runs.isC ?_); refine Runs.cond rfl (zc ?_) (zc ?_) <;> intro hc <;> (try (first | contradiction | (exfalso; omega; done) | (have : hc = trivial := rfl; clear this; clear hc))))) | ((with_reducible refine r_is ?_); first | refine yr ?_) | fail)
      repeat' (first | refine yw ?_ | ((with_reducible refine Runs.is ?_); first | refine Runs.region (id := 11) ?_ | refine Runs.region (id := 12) ?_ | refine Runs.region (id := 13) ?_ | ((with_reducible refine Runs.isC ?_); refine Runs.cond rfl (zc ?_) (zc ?_) <;> intro hc <;> (try (first | contradiction | (exfalso; omega; done) | (have : hc = trivial := rfl; clear this; clear hc))))) | ((with_reducible refine r_is ?_); first | refine yr ?_ | (refine r_append_full SlF.h SlF.s ZoF.h zd rfl rfl zC zJ zS rfl (fun hn => ?_) (fun hn => ?_) <;> refine r_nn zN zH ?_)) | fail)
      exact Runs.ret_frz Tryz.func35 rfl rfl rfl (by simp [setF, soV])
    · repeat' (first | refine yw ?_ | ((with_reducible refine Runs.is ?_); first | refine Runs.region (id := 4) ?_ | ((with_reducible refine Runs.isC ?_); refine Runs.cond rfl (zc ?_) (zc ?_) <;> intro hc <;> (try (first | contradiction | (exfalso; omega; done) | (have : hc = trivial := rfl; clear this; clear hc))))) | ((with_reducible refine r_is ?_); first | refine yr ?_) | fail)
      repeat' (first | refine yw ?_ | ((with_reducible refine Runs.is ?_); first | refine Runs.region (id := 11) ?_ | refine Runs.region (id := 12) ?_ | refine Runs.region (id := 13) ?_ | ((with_reducible refine Runs.isC ?_); refine Runs.cond rfl (zc ?_) (zc ?_) <;> intro hc <;> (try (first | contradiction | (exfalso; omega; done) | (have : hc = trivial := rfl; clear this; clear hc))))) | ((with_reducible refine r_is ?_); first | refine yr ?_ | (refine r_append_full SlF.h SlF.s ZoF.h zd rfl rfl zC zJ zS rfl (fun hn => ?_) (fun hn => ?_) <;> refine r_nn zN zH ?_)) | fail)
      exact Runs.ret_frz Tryz.func35 rfl rfl rfl (by simp [setF, soV])
theorem ref_EqualSources (f g : Bool) (a : List Source) (hl : a.length ≤ 4611686018427387904) : AM.Fn Tryz.prog 36 [.sl f (a.map soV), .sl g (a.map soV)] (.b true) := by
  (refine spec_of_runs Tryz.func36 rfl ?_; simp only [Tryz.f36]; refine ys ?_)
  repeat' (first | refine yw ?_ | ((with_reducible refine Runs.is ?_); first | refine Runs.region (id := 0) ?_ | refine Runs.region (id := 1) ?_ | refine Runs.region (id := 2) ?_ | refine Runs.region (id := 3) ?_ | ((with_reducible refine Runs.isC ?_); refine Runs.cond rfl (zc ?_) (zc ?_) <;> intro hc <;> (try (first | contradiction | (exfalso; omega; done) | (have : hc = trivial := rfl; clear this; clear hc))))) | ((with_reducible refine r_is ?_); first | refine yr ?_) | fail)
  refine Runs.loopI (fun i : Nat => a.length - i) (fun i => i ≤ a.length)
    (fun i => ⟨[.sl f (a.map soV), .sl g (a.map soV), .any, .any, .any, .i (i : Nat), .any, .any, .any, .any, .any, .any, .any, .any, .any, .any, .any, .any, .any, .any, .any, .any, .any, .any, .any, .any], []⟩) 0 (Nat.zero_le _) ?_ ?_
  · (refine St.Le.clean zR zU zV)
  intro i hi ih
  by_cases hlt : i < a.length
  · have he := eqc_so (a.getD i default) (a.getD i default)
    repeat' (first | refine yw ?_ | ((with_reducible refine Runs.is ?_); first | refine Runs.region (id := 4) ?_ | refine Runs.drawn (id := 6) mixed zK ?_ | refine Runs.region (id := 7) ?_ | refine Runs.region (id := 5) ?_ | ((with_reducible refine Runs.isC ?_); refine Runs.cond rfl (zc ?_) (zc ?_) <;> intro hc <;> (try (first | contradiction | (exfalso; omega; done) | (have : hc = trivial := rfl; clear this; clear hc))))) | ((with_reducible refine r_is ?_); first | refine yr ?_) | ((with_reducible refine d_is ?_); first | refine yd ?_) | fail)
    · exfalso
      rw [he] at hc
      simp at hc
    · refine ih (i + 1) _ zo zo ?_
      (refine St.Le.clean zR zU zV)
  · repeat' (first | refine yw ?_ | ((with_reducible refine Runs.is ?_); first | refine Runs.region (id := 4) ?_ | ((with_reducible refine Runs.isC ?_); refine Runs.cond rfl (zc ?_) (zc ?_) <;> intro hc <;> (try (first | contradiction | (exfalso; omega; done) | (have : hc = trivial := rfl; clear this; clear hc))))) | ((with_reducible refine r_is ?_); first | refine yr ?_) | fail)
    repeat' (first | refine yw ?_ | ((with_reducible refine Runs.is ?_); first | refine Runs.region (id := 8) ?_ | ((with_reducible refine Runs.isC ?_); refine Runs.cond rfl (zc ?_) (zc ?_) <;> intro hc <;> (try (first | contradiction | (exfalso; omega; done) | (have : hc = trivial := rfl; clear this; clear hc))))) | ((with_reducible refine r_is ?_); first | refine yr ?_) | fail)
    (refine Runs.ret1 Tryz.func36 rfl zM zD ?_; try exact zX)
end Go.Proofs
namespace Go.Proofs
open Go.AM
attribute [local irreducible] AM.evalR AM.evalD AM.Runs AM.valK AM.dK AM.opK AM.stepR AM.CallS AM.St.Le
def reportS (d : Int) : Source := ⟨1 + digitI d 12 0, decide (5 < digitI d 12 1)⟩
def repStep (a : List Source) (d : Int) : List Source := insS (reportS d) a
def doneL (l : List Int) : List Source := l.foldl repStep []
theorem done_facts : ∀ (l : List Int) (a : List Source), StrictS a → StrictS (l.foldl repStep a) ∧ (l.foldl repStep a).length ≤ a.length + l.length
  | [], a, h => ⟨h, Nat.le_refl _⟩
  | d :: l, a, h => by
    have ih := done_facts l (repStep a d) (insS_strict h)
    have := insS_len (reportS d) a
    rw [List.foldl_cons]
    refine ⟨ih.1, Nat.le_trans ih.2 ?_⟩
    unfold repStep
    rw [List.length_cons]; omega
theorem digit12 (n i : Int) : 0 ≤ digitI n 12 i ∧ digitI n 12 i < 12 := by unfold digitI; omega
theorem law_TransferReported (f : Bool) (l : List Int) (hl : l.length ≤ 4611686018427387904) : AM.Fn Tryz.prog 5 [.sl f (l.map .i)] (.b true) := by
  have hAw := law_awake20
  by_cases hlen : 60 < l.length
  · (refine spec_of_runs Tryz.func5 rfl ?_; simp only [Tryz.f5]; refine ys ?_)
    repeat' (first | refine yw ?_ | ((with_reducible refine Runs.is ?_); first | refine Runs.region (id := 0) ?_ | refine Runs.region (id := 1) ?_ | refine Runs.region (id := 2) ?_ | ((with_reducible refine Runs.isC ?_); refine Runs.cond rfl (zc ?_) (zc ?_) <;> intro hc <;> (try (first | contradiction | (exfalso; omega; done) | (have : hc = trivial := rfl; clear this; clear hc))))) | ((with_reducible refine r_is ?_); first | refine yr ?_ | (refine r_fn rfl (hAw) HbF.h zL0 zD ?_; refine r_nn zN zH ?_)) | fail)
    (refine Runs.ret1 Tryz.func5 rfl zM zD ?_; try exact zX)
  · (refine spec_of_runs Tryz.func5 rfl ?_; simp only [Tryz.f5]; refine ys ?_)
    repeat' (first | refine yw ?_ | ((with_reducible refine Runs.is ?_); first | refine Runs.region (id := 0) ?_ | refine Runs.region (id := 1) ?_ | refine Runs.region (id := 2) ?_ | refine Runs.region (id := 3) ?_ | refine Runs.region (id := 4) ?_ | refine Runs.region (id := 5) ?_ | ((with_reducible refine Runs.isC ?_); refine Runs.cond rfl (zc ?_) (zc ?_) <;> intro hc <;> (try (first | contradiction | (exfalso; omega; done) | (have : hc = trivial := rfl; clear this; clear hc))))) | ((with_reducible refine r_is ?_); first | refine yr ?_) | fail)
    refine Runs.weaken (St.Le.varLe 3 (ds := [.b true, .sl false (([] : Config).map prV), .sl false (([] : Config).map prV), .sl false (([] : List Source).map soV)]) (.cons (.refl _) (.cons (.nil _) (.cons (.nil _) (.cons (.nil _) .nil)))) rfl) ?_
    refine Runs.loopI (fun i : Nat => l.length - i) (fun i => i ≤ l.length)
      (fun i => ⟨[.sl f (l.map .i), .any, .any, .ptr 3 0 0, .sl false ((doneL (l.take i)).map soV), .i (i : Nat), .any, .any, .any, .any, .any, .any, .any, .any, .any, .any, .any, .any, .any, .any, .any, .any, .any, .any, .any, .any, .any, .any, .any, .any, .any, .any, .any, .any, .any, .any, .any, .any, .any, .any, .any, .any, .any, .any, .any, .any, .any, .any, .any, .any, .any], [(3, .var 39 (joV ⟨true, [], [], doneL (l.take i)⟩))]⟩) 0 (Nat.zero_le _) ?_ ?_
    · rw [show doneL (l.take 0) = [] from rfl]
      (refine St.Le.clean zR zU zV)
    intro i hi ih
    have hst := fun (h : i < l.length) => foldl_take (g := repStep) (s := []) h
    have hdf := done_facts (l.take i) [] (by simp [StrictS])
    rw [List.length_take, List.length_nil] at hdf
    unfold doneL at ih ⊢
    generalize (l.take i).foldl repStep [] = dn at *
    by_cases hlt : i < l.length
    · have hst2 := hst hlt
      have hD1 := kit_Digit (l.getD i default) 12 0 zd zd
      have hD2 := kit_Digit (l.getD i default) 12 1 zd zd
      have b1 := digit12 (l.getD i default) 0
      have hR := transfer_Reported ⟨true, [], [], dn⟩ (1 + digitI (l.getD i default) 12 0) (decide (5 < digitI (l.getD i default) 12 1)) ⟨awt_small.1, awt_small.1⟩ (by dsimp only; omega)
      have hS := ref_Set false dn ⟨1 + digitI (l.getD i default) 12 0, decide (5 < digitI (l.getD i default) 12 1)⟩ zo
      rw [repS_ins hdf.1] at hR
      rw [setR_ins hdf.1] at hS
      have hl2 := insS_len ⟨1 + digitI (l.getD i default) 12 0, decide (5 < digitI (l.getD i default) 12 1)⟩ dn
      change _ = insS ⟨1 + digitI (l.getD i default) 12 0, decide (5 < digitI (l.getD i default) 12 1)⟩ dn at hst2
      generalize digitI (l.getD i default) 12 0 = d1 at *
      generalize digitI (l.getD i default) 12 1 = d2 at *
      generalize insS ⟨1 + d1, decide (5 < d2)⟩ dn = dn2 at *
      have hE := ref_EqualSources false false dn2 zo
      repeat' (first | (with_reducible refine And.intro (by intro a i h; cases h) ?_) | refine yw ?_ | ((with_reducible refine Runs.is ?_); first | (refine Runs.drawnT (id := 8) [] 13 mixed zK (by decide +kernel) ?_; dsimp only [List.take, List.drop]) | refine Runs.region (id := 6) ?_ | refine Runs.drawn (id := 8) mixed zK ?_ | refine Runs.region (id := 9) ?_ | refine Runs.region (id := 10) ?_ | refine Runs.region (id := 11) ?_ | refine Runs.region (id := 12) ?_ | refine Runs.region (id := 7) ?_ | ((with_reducible refine Runs.isC ?_); refine Runs.cond rfl (zc ?_) (zc ?_) <;> intro hc <;> (try (first | contradiction | (exfalso; omega; done) | (have : hc = trivial := rfl; clear this; clear hc))))) | ((with_reducible refine r_is ?_); first | refine yr ?_ | (refine r_fn rfl (hR) HbF.h zL3 zD ?_; refine r_nn zN zH ?_) | (refine r_fn rfl (hS) HbF.h zL2 zD ?_; refine r_nn zN zH ?_) | (refine r_fn rfl (hE) HbF.h zL2 zD ?_; refine r_nn zN zH ?_) | ((with_reducible refine r_gd ?_); (first | refine r_guardPf rfl rfl ?_ ?_ | refine r_guardNf rfl rfl ?_ ?_ | refine r_guard rfl rfl ?_ ?_) <;> intro hG <;> (try (exfalso; omega; done)) <;> refine r_nn zN zH ?_)) | ((with_reducible refine d_is ?_); first | refine yd ?_ | (refine d_fn rfl (hD1) HbF.h zL3 zD ?_; refine d_nn zN zH ?_) | (refine d_fn rfl (hD2) HbF.h zL3 zD ?_; refine d_nn zN zH ?_)) | fail)
      all_goals first
        | (refine ih (i + 1) _ zo zo ?_
           rw [hst2]
           (refine St.Le.clean zR zU zV)
           done)
        | trace_state
    · repeat' (first | refine yw ?_ | ((with_reducible refine Runs.is ?_); first | refine Runs.region (id := 6) ?_ | ((with_reducible refine Runs.isC ?_); refine Runs.cond rfl (zc ?_) (zc ?_) <;> intro hc <;> (try (first | contradiction | (exfalso; omega; done) | (have : hc = trivial := rfl; clear this; clear hc))))) | ((with_reducible refine r_is ?_); first | refine yr ?_) | fail)
      repeat' (first | refine yw ?_ | ((with_reducible refine Runs.is ?_); first | refine Runs.region (id := 13) ?_ | ((with_reducible refine Runs.isC ?_); refine Runs.cond rfl (zc ?_) (zc ?_) <;> intro hc <;> (try (first | contradiction | (exfalso; omega; done) | (have : hc = trivial := rfl; clear this; clear hc))))) | ((with_reducible refine r_is ?_); first | refine yr ?_ | (refine r_fn rfl (hAw) HbF.h zL0 zD ?_; refine r_nn zN zH ?_)) | fail)
      (refine Runs.ret1 Tryz.func5 rfl zM zD ?_; try exact zX)
end Go.Proofs
namespace Go.Proofs
open Go.AM
attribute [local irreducible] AM.evalR AM.evalD AM.Runs AM.valK AM.dK AM.opK AM.stepR AM.CallS AM.St.Le
theorem row_own : ownKnob Tryz.prog.godebug = none := by kernel_rfl
theorem row_laid : laidOutB Tryz.prog = true := by kernel_rfl
theorem row_bool : Tryz.prog.underlying 4 = some .bool := by kernel_rfl
theorem row_int : Tryz.prog.underlying 3 = some (.int .i64) := by kernel_rfl
def I64 (z : Int) : Prop := -9223372036854775808 ≤ z ∧ z ≤ 9223372036854775807
theorem wf_i64 {z : Int} (h : (Lit.int .i64 z).wf = true) : I64 z := by
  simp only [Lit.wf, Bool.and_eq_true, decide_eq_true_eq] at h
  exact h
theorem opI : Opens Tryz.prog 3 1 (fun vs => ∃ z, I64 z ∧ vs = [V.i z]) := (opens_int row_int (by kernel_rfl)).imp fun vs ⟨z, h, e⟩ => ⟨z, wf_i64 h, e⟩
theorem opIs : Opens Tryz.prog 46 1 (fun vs => ∃ l : List Int, l.length ≤ 4611686018427387904 ∧ vs = [inV l]) := (opens_slice false (e := 3) (by kernel_rfl) (by kernel_rfl) opI zd (by kernel_rfl) (by rintro _ c ⟨z, _, rfl⟩; rfl)).imp fun vs ⟨ess, h1, h2, e⟩ => by
  obtain ⟨xs, e1, _, e2⟩ := lists_of (f := V.i) (ok := fun _ => True) (ag := false) (ess := ess) fun c hc => by obtain ⟨z, _, rfl⟩ := h1 c hc; exact ⟨z, trivial, rfl⟩
  have : reachBytes = 140737488351232 := rfl
  exact ⟨xs, by omega, by rw [e, e1]⟩
theorem oaIs : OpensV Tryz.prog 46 (fun u => ∃ l : List Int, l.length ≤ 4611686018427387904 ∧ u = inV l) := opIs.sl (e := 3) (by kernel_rfl) fun u ⟨l, h, e⟩ => ⟨l, h, by simpa using e⟩
end Go.Proofs
