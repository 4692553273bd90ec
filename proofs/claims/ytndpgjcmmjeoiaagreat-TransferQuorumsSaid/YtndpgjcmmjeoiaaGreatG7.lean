/- Contracts of functions and plain laws: W146, W148, W149, W118, W119, W72, W147, W151, W120, W121, W123, W124, W154, W74. -/
import Derived.Test.YtndpgjcmmjeoiaaGreatMk
import Derived.Test.YtndpgjcmmjeoiaaGreatRows
import Derived.Test.YtndpgjcmmjeoiaaGreatG6
set_option linter.unusedVariables false
set_option linter.unusedSimpArgs false
set_option maxRecDepth 8000
set_option maxHeartbeats 4000000
set_option pp.deepTerms false
set_option pp.deepTerms.threshold 6
namespace Go.Proofs
open Go.AM
attribute [local irreducible] AM.evalR AM.evalD AM.Runs AM.valK AM.dK AM.opK AM.stepR AM.CallS AM.St.Le
theorem clone_nil (f : Bool) : AM.Fn Tryz.prog 157 [.sl f (([] : List Update).map upV)] (.sl false (([] : List Update).map upV)) := by
  (refine spec_of_runs Tryz.func157 rfl ?_; simp only [Tryz.f157]; refine ys ?_)
  repeat' (first | refine yw ?_ | ((with_reducible refine Runs.is ?_); first | refine Runs.region (id := 0) ?_ | refine Runs.region (id := 1) ?_ | refine Runs.region (id := 2) ?_ | ((with_reducible refine Runs.isC ?_); refine Runs.cond rfl (zc ?_) (zc ?_) <;> intro hc <;> (try (first | contradiction | (exfalso; omega; done) | (have : hc = trivial := rfl; clear this; clear hc))))) | ((with_reducible refine r_is ?_); first | refine yr ?_) | fail)
  all_goals ((refine Runs.ret1 Tryz.func157 rfl zM zD ?_; try exact zX))
  all_goals (exact V.Le.nil _)
def beyP (s : List Update) (v : Vector) : List Update := s.filter fun u => decide (getV v u.client < u.seq)
theorem state_Beyond (f h : Bool) (s : List Update) (v : Vector) (n : Nat) (hn : s.length ≤ 1000000) (hn2 : n ≤ 1000000) (hC : AM.Fn Tryz.prog 157 [.sl false (((beyP s v).take n).map upV)] (.sl false (((beyP s v).take n).map upV))) :
    AM.Fn Tryz.prog 88 [.sl f (s.map upV), .sl h (v.map enV), .i (n : Nat)] (.tup [.sl false (((beyP s v).take n).map upV), .b (decide (n < (beyP s v).length))]) := by
  (refine spec_of_runs Tryz.func88 rfl ?_; simp only [Tryz.f88]; refine ys ?_)
  repeat' (first | refine yw ?_ | ((with_reducible refine Runs.is ?_); first | refine Runs.region (id := 0) ?_ | refine Runs.region (id := 1) ?_ | refine Runs.region (id := 2) ?_ | ((with_reducible refine Runs.isC ?_); refine Runs.cond rfl (zc ?_) (zc ?_) <;> intro hc <;> (try (first | contradiction | (exfalso; omega; done) | (have : hc = trivial := rfl; clear this; clear hc))))) | ((with_reducible refine r_is ?_); first | refine yr ?_) | fail)
  (refine Runs.weaken (St.Le.nil 8 137 4 8 zd rfl rfl zE) ?_)
  refine Runs.loopI (fun k : Nat => s.length - k) (fun k => k ≤ s.length)
    (fun k => ⟨[.any, .sl h (v.map enV), .i (n : Nat), .any, .any, .any, .any, .any, .own 8, .any, .any, .any, .sl f (s.map upV), .i (s.length : Nat), .i (k : Nat), .any, .any, .any, .any, .any, .any, .any, .any, .any, .any, .any, .any, .any, .any, .any, .any, .any, .any, .any, .any, .any, .any, .any, .any, .any, .any, .any, .any], [(8, .lst 137 4 ((beyP (s.take k) v).map upV))]⟩) 0 (Nat.zero_le _) ?_ ?_
  · rw [show beyP (s.take 0) v = [] from rfl]
    (refine St.Le.clean zR zU zV)
  intro k hk ih
  have hlen : (beyP (s.take k) v).length ≤ k := Nat.le_trans (List.length_filter_le _ _) (by rw [List.length_take]; omega)
  have hst : k < s.length → beyP (s.take (k + 1)) v = beyP (s.take k) v ++ (if decide (getV v (s.getD k default).client < (s.getD k default).seq) = true then [s.getD k default] else []) := fun h => by
    unfold beyP; rw [filter_take h]
  have hend : s.length ≤ k → beyP (s.take k) v = beyP s v := fun h => by rw [List.take_of_length_le h]
  generalize beyP (s.take k) v = acc at *
  by_cases hlt : k < s.length
  · have hst2 := hst hlt
    have hG := vector_Get h v (s.getD k default).client
    generalize getV v (s.getD k default).client = c at *
    repeat' (first | refine yw ?_ | ((with_reducible refine Runs.is ?_); first | refine Runs.region (id := 3) ?_ | refine Runs.region (id := 4) ?_ | refine Runs.drawn (id := 5) mixed zK ?_ | refine Runs.region (id := 6) ?_ | refine Runs.region (id := 7) ?_ | ((with_reducible refine Runs.isC ?_); refine Runs.cond rfl (zc ?_) (zc ?_) <;> intro hc <;> (try (first | contradiction | (exfalso; omega; done) | (have : hc = trivial := rfl; clear this; clear hc))))) | ((with_reducible refine r_is ?_); first | refine yr ?_ | (refine r_append_full SlF.h SlF.s ZoF.h zd rfl rfl zC zJ zS rfl (fun hn => ?_) (fun hn => ?_) <;> refine r_nn zN zH ?_)) | ((with_reducible refine d_is ?_); first | refine yd ?_ | (refine d_fn rfl (hG) HbF.h zL2 zD ?_; refine d_nn zN zH ?_)) | fail)
    · rw [if_pos (by simpa using hc)] at hst2
      refine ih (k + 1) _ zo zo ?_
      rw [hst2]
      (refine St.Le.clean zR (by first | (simp [V.usesL, V.uses, AM.look_cons]; done) | (simp [V.usesL, V.uses, AM.look_cons, V.usesL_data, V.uses_data, da_i, da_chV, da_ruV, da_prV, da_enV, da_cfV, da_veV, da_inV, da_edV, da_grV, da_weV, da_mbV, da_suV, da_viV]; done)) ?_; (repeat' (first | exact True.intro | refine And.intro ?_ ?_)); all_goals (first | rfl | (simp [AM.look_cons, upV]; done) | (simp [V.uses, V.usesL, AM.look_cons, V.usesL_data, V.uses_data, da_i, da_chV, da_ruV, da_prV, da_enV, da_cfV, da_veV, da_inV, da_edV, da_grV, da_weV, da_mbV, da_suV, da_viV]; done)))
    · rw [if_neg (by simpa using hc), List.append_nil] at hst2
      refine ih (k + 1) _ zo zo ?_
      rw [hst2]
      (refine St.Le.clean zR zU zV)
  · have he := hend zo
    rw [← he] at hC ⊢
    clear hst ih hend he
    have hmn : (acc.map upV).take (min n acc.length) = (acc.take n).map upV := by
      rw [← List.map_take]
      congr 1
      by_cases h : n ≤ acc.length
      · rw [Nat.min_eq_left h]
      · rw [Nat.min_eq_right zo, List.take_of_length_le zo, List.take_of_length_le zo]
    have hdec : decide (((min n acc.length : Nat) : Int) < (acc.length : Int)) = decide (n < acc.length) := decide_eq_decide.2 zo
    repeat' (first | refine yw ?_ | ((with_reducible refine Runs.is ?_); first | refine Runs.region (id := 3) ?_ | ((with_reducible refine Runs.isC ?_); refine Runs.cond rfl (zc ?_) (zc ?_) <;> intro hc <;> (try (first | contradiction | (exfalso; omega; done) | (have : hc = trivial := rfl; clear this; clear hc))))) | ((with_reducible refine r_is ?_); first | refine yr ?_) | fail)
    (refine Runs.weaken (St.Le.freeze_lst 8 rfl) ?_; refine yf ?_)
    have hmi : (if (acc.length : Int) < (if (n : Int) < 0 then 0 else (n : Int)) then (acc.length : Int) else (if (n : Int) < 0 then 0 else (n : Int))) = ((min n acc.length : Nat) : Int) := by
      have h0 : ¬ (n : Int) < 0 := by omega
      simp only [h0, if_false]
      split <;> omega
    have hmx : min n acc.length ≤ acc.length := Nat.min_le_right _ _
    repeat' (first | refine yw ?_ | ((with_reducible refine Runs.is ?_); first | refine Runs.region (id := 8) ?_ | ((with_reducible refine Runs.isC ?_); refine Runs.cond rfl (zc ?_) (zc ?_) <;> intro hc <;> (try (first | contradiction | (exfalso; omega; done) | (have : hc = trivial := rfl; clear this; clear hc))))) | ((with_reducible refine r_is ?_); first | refine yr ?_) | fail)
    rw [hmi]
    generalize min n acc.length = q at *
    repeat' (first | refine yw ?_ | ((with_reducible refine Runs.is ?_); first | refine Runs.region (id := 9) ?_ | ((with_reducible refine Runs.isC ?_); refine Runs.cond rfl (zc ?_) (zc ?_) <;> intro hc <;> (try (first | contradiction | (exfalso; omega; done) | (have : hc = trivial := rfl; clear this; clear hc))))) | ((with_reducible refine r_is ?_); first | refine yr ?_) | fail)
    rw [Int.toNat_natCast, hmn]
    repeat' (first | refine yw ?_ | ((with_reducible refine Runs.is ?_); first | refine Runs.region (id := 9) ?_ | ((with_reducible refine Runs.isC ?_); refine Runs.cond rfl (zc ?_) (zc ?_) <;> intro hc <;> (try (first | contradiction | (exfalso; omega; done) | (have : hc = trivial := rfl; clear this; clear hc))))) | ((with_reducible refine r_is ?_); first | refine yr ?_ | (refine r_fn rfl (hC) HbF.h zL1 zD ?_; refine r_nn zN zH ?_)) | fail)
    (refine Runs.ret2 Tryz.func88 rfl zM zM zD ?_; try exact zX)
    rw [hdec]
    exact V.Le.refl _
end Go.Proofs
namespace Go.Proofs
open Go.AM
attribute [local irreducible] AM.evalR AM.evalD AM.Runs AM.valK AM.dK AM.opK AM.stepR AM.CallS AM.St.Le
def memB (v : View) (s : Int) : Bool := v.members.any fun m => decide (m.server = s)
theorem ref_Member (v : View) (s : Int) (hl : v.members.length ≤ 4611686018427387904) : AM.Fn Tryz.prog 109 [viV v, .i s] (.b (memB v s)) := by
  (refine spec_of_runs Tryz.func109 rfl ?_; simp only [Tryz.f109]; refine ys ?_)
  repeat' (first | refine yw ?_ | ((with_reducible refine Runs.is ?_); first | refine Runs.region (id := 0) ?_ | refine Runs.region (id := 1) ?_ | ((with_reducible refine Runs.isC ?_); refine Runs.cond rfl (zc ?_) (zc ?_) <;> intro hc <;> (try (first | contradiction | (exfalso; omega; done) | (have : hc = trivial := rfl; clear this; clear hc))))) | ((with_reducible refine r_is ?_); first | refine yr ?_) | fail)
  refine Runs.loopI (fun k : Nat => v.members.length - k) (fun k => k ≤ v.members.length ∧ memB v s = (v.members.drop k).any fun m => decide (m.server = s))
    (fun k => ⟨[.any, .i s, .ptr 2 0 0, .any, .any, .i (k : Nat), .any, .any, .any, .any, .any, .any, .any, .any, .any, .any, .any, .any, .any, .any, .any], [(2, .var 79 (viV v))]⟩) 0 ⟨Nat.zero_le _, rfl⟩ ?_ ?_
  · (refine St.Le.clean zR zU zV)
  rintro k ⟨hk, he⟩ ih
  by_cases hlt : k < v.members.length
  · rw [drop_getD hlt, List.any_cons] at he
    repeat' (first | refine yw ?_ | ((with_reducible refine Runs.is ?_); first | refine Runs.region (id := 2) ?_ | refine Runs.region (id := 4) ?_ | refine Runs.region (id := 5) ?_ | refine Runs.region (id := 3) ?_ | ((with_reducible refine Runs.isC ?_); refine Runs.cond rfl (zc ?_) (zc ?_) <;> intro hc <;> (try (first | contradiction | (exfalso; omega; done) | (have : hc = trivial := rfl; clear this; clear hc))))) | ((with_reducible refine r_is ?_); first | refine yr ?_) | fail)
    · rw [decide_eq_true (by assumption), Bool.true_or] at he
      rw [he]
      (refine Runs.ret1 Tryz.func109 rfl zM zD ?_; try exact zX)
    · rw [decide_eq_false (by assumption), Bool.false_or] at he
      refine ih (k + 1) _ ⟨by omega, he⟩ zo ?_
      (refine St.Le.clean zR zU zV)
  · rw [List.drop_eq_nil_of_le zo] at he
    rw [he]
    repeat' (first | refine yw ?_ | ((with_reducible refine Runs.is ?_); first | refine Runs.region (id := 2) ?_ | ((with_reducible refine Runs.isC ?_); refine Runs.cond rfl (zc ?_) (zc ?_) <;> intro hc <;> (try (first | contradiction | (exfalso; omega; done) | (have : hc = trivial := rfl; clear this; clear hc))))) | ((with_reducible refine r_is ?_); first | refine yr ?_) | fail)
    repeat' (first | refine yw ?_ | ((with_reducible refine Runs.is ?_); first | refine Runs.region (id := 6) ?_ | ((with_reducible refine Runs.isC ?_); refine Runs.cond rfl (zc ?_) (zc ?_) <;> intro hc <;> (try (first | contradiction | (exfalso; omega; done) | (have : hc = trivial := rfl; clear this; clear hc))))) | ((with_reducible refine r_is ?_); first | refine yr ?_) | fail)
    (refine Runs.ret1 Tryz.func109 rfl zM zD ?_; try exact zX)
def newR (s : Int) (g : View) : Replica := ⟨s, g, [], [], ⟨[], []⟩, memB g s, ⟨[], []⟩, ⟨false, [], [], []⟩⟩
theorem ref_NewReplica (s : Int) (g : View) (hl : g.members.length ≤ 4611686018427387904) : AM.Fn Tryz.prog 48 [.i s, viV g] (rpV (newR s g)) := by
  have hM := ref_Member g s hl
  unfold newR
  generalize memB g s = b at *
  (refine spec_of_runs Tryz.func48 rfl ?_; simp only [Tryz.f48]; refine ys ?_)
  repeat' (first | refine yw ?_ | ((with_reducible refine Runs.is ?_); first | refine Runs.region ?_ | refine Runs.drawn mixed zK ?_ | ((with_reducible refine Runs.isC ?_); refine Runs.cond rfl (zc ?_) (zc ?_) <;> intro hc <;> (try (first | contradiction | (exfalso; omega; done) | (have : hc = trivial := rfl; clear this; clear hc))))) | ((with_reducible refine r_is ?_); first | refine yr ?_) | ((with_reducible refine d_is ?_); first | refine yd ?_ | (refine d_fn rfl (hM) HbF.h zL2 zD ?_; refine d_nn zN zH ?_)) | fail)
  (refine Runs.retC Tryz.func48 rfl zM rfl TyF.h (And.intro zE zd) zD ?_; try exact zX)
end Go.Proofs
namespace Go.Proofs
open Go.AM
attribute [local irreducible] AM.evalR AM.evalD AM.Runs AM.valK AM.dK AM.opK AM.stepR AM.CallS AM.St.Le
def serveM (r : Replica) (m : Message) (l : List Update) (more : Bool) : Message := ⟨5, r.server, m.«from», ⟨0, 0⟩, 0, 0, m.cert, r.base, r.hasBase, r.established, [], l, [], more⟩
theorem transfer_Serve (r : Replica) (m : Message) (l : List Update) (more : Bool) (h1 : SmallC m.cert) (h2 : SmallC r.base) (h3 : SmallC r.established) (hB : AM.Fn Tryz.prog 88 [.sl false (r.state.map upV), .sl false (m.«have».map enV), .i 4] (.tup [.sl false (l.map upV), .b more])) :
    AM.Fn Tryz.prog 29 [rpV r, msV m] (msV (serveM r m l more)) := by
  have c1 := transfer_copyCert m.cert h1
  have c2 := transfer_copyCert r.base h2
  have c3 := transfer_copyCert r.established h3
  (refine spec_of_runs Tryz.func29 rfl ?_; simp only [Tryz.f29]; refine ys ?_)
  repeat' (first | refine yw ?_ | ((with_reducible refine Runs.is ?_); first | refine Runs.region (id := 0) ?_ | refine Runs.region (id := 1) ?_ | ((with_reducible refine Runs.isC ?_); refine Runs.cond rfl (zc ?_) (zc ?_) <;> intro hc <;> (try (first | contradiction | (exfalso; omega; done) | (have : hc = trivial := rfl; clear this; clear hc))))) | ((with_reducible refine r_is ?_); first | refine yr ?_ | (refine r_fn rfl (hB) HbF.h zL3 zD ?_; refine r_nn zN zH ?_)) | fail)
  refine Runs.drawn mixed zK ?_
  ((first | refine d_v rfl (v_fieldAddr_ptr fl54_0 rfl ?_) | refine d_v rfl (v_fieldAddr_pt fl54_0 rfl zE zF ?_)); all_goals (refine d_n zN ?_); (first | refine d_v rfl (v_load_pt ty3 rfl rfl zd rfl ?_) | refine d_v rfl (v_load_var ty3 rfl rfl rfl zd rfl ?_) | refine d_v rfl (v_load_part ty3 rfl rfl zE zd ?_) | refine d_v rfl (v_load_ownM ty3 rfl rfl zS (And.intro zE zd) ?_) | refine d_v rfl (v_load_ptr ty3 rfl rfl zS zS zd ?_) | refine d_v rfl (v_load_ptr ty3 rfl rfl zE zE zd ?_)); all_goals (refine d_n zN ?_); (first | refine d_v rfl (v_fieldAddr_ptr fl60_1 rfl ?_) | refine d_v rfl (v_fieldAddr_pt fl60_1 rfl zE zF ?_)); all_goals (refine d_n zN ?_); (first | refine d_v rfl (v_load_pt ty3 rfl rfl zd rfl ?_) | refine d_v rfl (v_load_var ty3 rfl rfl rfl zd rfl ?_) | refine d_v rfl (v_load_part ty3 rfl rfl zE zd ?_) | refine d_v rfl (v_load_ownM ty3 rfl rfl zS (And.intro zE zd) ?_) | refine d_v rfl (v_load_ptr ty3 rfl rfl zS zS zd ?_) | refine d_v rfl (v_load_ptr ty3 rfl rfl zE zE zd ?_)); all_goals (refine d_n zN ?_); (first | refine d_v rfl (v_fieldAddr_ptr fl60_6 rfl ?_) | refine d_v rfl (v_fieldAddr_pt fl60_6 rfl zE zF ?_)); all_goals (refine d_n zN ?_); (first | refine d_v rfl (v_load_pt ty52 rfl rfl zd rfl ?_) | refine d_v rfl (v_load_var ty52 rfl rfl rfl zd rfl ?_) | refine d_v rfl (v_load_part ty52 rfl rfl zE zd ?_) | refine d_v rfl (v_load_ownM ty52 rfl rfl zS (And.intro zE zd) ?_) | refine d_v rfl (v_load_ptr ty52 rfl rfl zS zS zd ?_) | refine d_v rfl (v_load_ptr ty52 rfl rfl zE zE zd ?_)); all_goals (refine d_n zN ?_); ((first | refine d_fn rfl (c1) hb89 zL1 zD ?_ | refine d_fn rfl (c2) hb89 zL1 zD ?_ | refine d_fn rfl (c3) hb89 zL1 zD ?_)); all_goals (refine d_nn zN zH ?_); refine d_v rfl (v_move ?_); all_goals (refine d_n zN ?_); refine d_v rfl (v_move ?_); all_goals (refine d_n zN ?_); (first | refine d_v rfl (v_fieldAddr_ptr fl54_4 rfl ?_) | refine d_v rfl (v_fieldAddr_pt fl54_4 rfl zE zF ?_)); all_goals (refine d_n zN ?_); (first | refine d_v rfl (v_load_pt ty52 rfl rfl zd rfl ?_) | refine d_v rfl (v_load_var ty52 rfl rfl rfl zd rfl ?_) | refine d_v rfl (v_load_part ty52 rfl rfl zE zd ?_) | refine d_v rfl (v_load_ownM ty52 rfl rfl zS (And.intro zE zd) ?_) | refine d_v rfl (v_load_ptr ty52 rfl rfl zS zS zd ?_) | refine d_v rfl (v_load_ptr ty52 rfl rfl zE zE zd ?_)); all_goals (refine d_n zN ?_); ((first | refine d_fn rfl (c1) hb89 zL1 zD ?_ | refine d_fn rfl (c2) hb89 zL1 zD ?_ | refine d_fn rfl (c3) hb89 zL1 zD ?_)); all_goals (refine d_nn zN zH ?_); (first | refine d_v rfl (v_fieldAddr_ptr fl54_5 rfl ?_) | refine d_v rfl (v_fieldAddr_pt fl54_5 rfl zE zF ?_)); all_goals (refine d_n zN ?_); (first | refine d_v rfl (v_load_pt ty4 rfl rfl zd rfl ?_) | refine d_v rfl (v_load_var ty4 rfl rfl rfl zd rfl ?_) | refine d_v rfl (v_load_part ty4 rfl rfl zE zd ?_) | refine d_v rfl (v_load_ownM ty4 rfl rfl zS (And.intro zE zd) ?_) | refine d_v rfl (v_load_ptr ty4 rfl rfl zS zS zd ?_) | refine d_v rfl (v_load_ptr ty4 rfl rfl zE zE zd ?_)); all_goals (refine d_n zN ?_); (first | refine d_v rfl (v_fieldAddr_ptr fl54_6 rfl ?_) | refine d_v rfl (v_fieldAddr_pt fl54_6 rfl zE zF ?_)); all_goals (refine d_n zN ?_); (first | refine d_v rfl (v_load_pt ty52 rfl rfl zd rfl ?_) | refine d_v rfl (v_load_var ty52 rfl rfl rfl zd rfl ?_) | refine d_v rfl (v_load_part ty52 rfl rfl zE zd ?_) | refine d_v rfl (v_load_ownM ty52 rfl rfl zS (And.intro zE zd) ?_) | refine d_v rfl (v_load_ptr ty52 rfl rfl zS zS zd ?_) | refine d_v rfl (v_load_ptr ty52 rfl rfl zE zE zd ?_)); all_goals (refine d_n zN ?_); ((first | refine d_fn rfl (c1) hb89 zL1 zD ?_ | refine d_fn rfl (c2) hb89 zL1 zD ?_ | refine d_fn rfl (c3) hb89 zL1 zD ?_)); all_goals (refine d_nn zN zH ?_))
  refine d_v rfl (v_buildP (cs := [.i 5, .i r.server, .i m.«from», .i 0, .i 0, .i 0, .i 0, .sl false (m.cert.«from».map prV), .sl false (m.cert.to.map prV), .sl false (r.base.«from».map prV), .sl false (r.base.to.map prV), .b r.hasBase, .sl false (r.established.«from».map prV), .sl false (r.established.to.map prV), .sc (.slice none 0 0), .sl false (l.map upV), .sc (.slice none 0 0), .b more]) PlF.h ZvF.h rfl rfl rfl ?_)
  refine d_n zN ?_
  repeat' (first | refine yw ?_ | ((with_reducible refine Runs.is ?_); first | refine Runs.drawn (id := 2) mixed zK ?_ | ((with_reducible refine Runs.isC ?_); refine Runs.cond rfl (zc ?_) (zc ?_) <;> intro hc <;> (try (first | contradiction | (exfalso; omega; done) | (have : hc = trivial := rfl; clear this; clear hc))))) | ((with_reducible refine d_is ?_); first | refine yd ?_) | fail)
  (refine Runs.retC Tryz.func29 rfl zM rfl TyF.h (And.intro zE zd) zD ?_; try exact zX)
end Go.Proofs
namespace Go.Proofs
open Go.AM
attribute [local irreducible] AM.evalR AM.evalD AM.Runs AM.valK AM.dK AM.opK AM.stepR AM.CallS AM.St.Le
end Go.Proofs
namespace Go.Proofs
open Go.AM
attribute [local irreducible] AM.evalR AM.evalD AM.Runs AM.valK AM.dK AM.opK AM.stepR AM.CallS AM.St.Le
def tawG : View := ⟨[⟨1, 1⟩, ⟨2, 1⟩, ⟨3, 1⟩], ⟨1, 0, 0⟩⟩
theorem taw_view : viewOf tawG [] = tawG := by decide +kernel
end Go.Proofs
namespace Go.Proofs
open Go.AM
attribute [local irreducible] AM.evalR AM.evalD AM.Runs AM.valK AM.dK AM.opK AM.stepR AM.CallS AM.St.Le
theorem span_fn {g : View} (hg : g.members.length ≤ 1000) {a b : Config} (hA : AM.Fn Tryz.prog 100 [.sl false (a.map prV), .sl false (b.map prV)] (.sl false ((allB a b).map cfV))) (hn : (allB a b).length ≤ 1000)
    (hp : ∀ c ∈ allB a b, c.length ≤ 100 ∧ ∀ p ∈ c, Plain p) : AM.Fn Tryz.prog 79 [viV g, .sl false (a.map prV), .sl false (b.map prV)] (.sl false ((spanI ((allB a b).map (viewOf g))).map .i)) := by
  have hV := interval_Views false false g a b hA zo hg hp
  have hm : ∀ v ∈ (allB a b).map (viewOf g), v.members.length ≤ 200000 := by
    intro v hv
    obtain ⟨c, hc, rfl⟩ := List.mem_map.1 hv
    exact view_len hg (hp c hc).1 (hp c hc).2
  refine interval_Span false false g a b _ hV (by rw [List.length_map]; omega) (fun v hv => Nat.le_trans (hm v hv) zd) ?_
  refine Nat.le_trans (sum_le_mul (m := 200000) ?_) ?_
  · intro x hx
    obtain ⟨l, hl, rfl⟩ := List.mem_map.1 hx
    obtain ⟨v, hv, rfl⟩ := List.mem_map.1 hl
    unfold srv
    rw [List.length_map]; exact hm v hv
  · rw [List.length_map, List.length_map, List.length_map]
    omega
theorem all_len64 {f : Nat → Nat → Proposal} (hf : Nice f) {a b : Config} (ha : IsCut f a) (hb : IsCut f b) : (allB a b).length ≤ 64 := by
  obtain ⟨i, j, k, h, rfl⟩ := ha
  obtain ⟨i', j', k', h', rfl⟩ := hb
  rw [allB_cut hf h h']
  split
  · exact allN_len f h'
  · simp
end Go.Proofs
namespace Go.Proofs
open Go.AM
attribute [local irreducible] AM.evalR AM.evalD AM.Runs AM.valK AM.dK AM.opK AM.stepR AM.CallS AM.St.Le
theorem law20_genesis : AM.Fn Tryz.prog 49 [] (viV tawG) := by
  (refine spec_of_runs Tryz.func49 rfl ?_; simp only [Tryz.f49]; refine ys ?_)
  repeat' (first | refine yw ?_ | ((with_reducible refine Runs.is ?_); first | refine Runs.region ?_ | ((with_reducible refine Runs.isC ?_); refine Runs.cond rfl (zc ?_) (zc ?_) <;> intro hc <;> (try (first | contradiction | (exfalso; omega; done) | (have : hc = trivial := rfl; clear this; clear hc))))) | ((with_reducible refine r_is ?_); first | refine yr ?_) | fail)
  (refine Runs.retC Tryz.func49 rfl zM rfl TyF.h (And.intro zE zd) zD ?_; try exact zX)
theorem law20_l0 (f : Bool) (l : List Message) (hl : 0 < l.length) : AM.Fn Tryz.prog 77 [.sl f (l.map msV)] (msV (l.getD 0 default)) := by
  (refine spec_of_runs Tryz.func77 rfl ?_; simp only [Tryz.f77]; refine ys ?_)
  repeat' (first | refine yw ?_ | ((with_reducible refine Runs.is ?_); first | refine Runs.region ?_ | ((with_reducible refine Runs.isC ?_); refine Runs.cond rfl (zc ?_) (zc ?_) <;> intro hc <;> (try (first | contradiction | (exfalso; omega; done) | (have : hc = trivial := rfl; clear this; clear hc))))) | ((with_reducible refine r_is ?_); first | refine yr ?_) | fail)
  all_goals ((refine Runs.retC Tryz.func77 rfl zM rfl TyF.h (And.intro zE zd) zD ?_; try exact zX))
def awT : Proposal := ⟨201, 1, [⟨1, 4, 1, 0, ⟨0, 0, 0⟩⟩]⟩
def awV4 : View := ⟨[⟨1, 1⟩, ⟨2, 1⟩, ⟨3, 1⟩, ⟨4, 1⟩], ⟨1, 0, 0⟩⟩
theorem awt_all : allB [] [awT] = [[], [awT]] := by decide +kernel
theorem awt_view : viewOf tawG [awT] = awV4 := by decide +kernel
theorem awt_span : spanI ([[], [awT]].map (viewOf tawG)) = [1, 2, 3, 4] := by
  simp only [List.map_cons, List.map_nil, taw_view, awt_view]
  rw [← spanR_I]
  decide +kernel
theorem awt_plain : ∀ c ∈ [[], [awT]], c.length ≤ 100 ∧ ∀ p ∈ c, Plain p := by
  intro c hc
  rcases List.mem_cons.1 hc with rfl | hc
  · exact ⟨by decide, fun p hp => by cases hp⟩
  · rw [List.mem_singleton.1 hc]
    exact ⟨by decide, fun p hp => by rw [List.mem_singleton.1 hp]; exact ⟨by decide, trivial⟩⟩
theorem awt_fair : Fair tawG [[], [awT]] := by
  refine ⟨by decide, by decide, awt_plain, fun c hc => ?_⟩
  rcases List.mem_cons.1 hc with rfl | hc
  · rw [taw_view]; exact ⟨⟨by decide, by decide⟩, by unfold RuleOK; decide⟩
  · rw [List.mem_singleton.1 hc, awt_view]; exact ⟨⟨by decide, by decide⟩, by unfold RuleOK; decide⟩
theorem awt_small : Small [] ∧ Small [awT] := ⟨⟨by decide, fun p hp => by cases hp⟩, ⟨by decide, fun p hp => by rw [List.mem_singleton.1 hp]; decide⟩⟩
theorem awt_jA : jobB tawG ⟨true, [], [awT], [⟨2, true⟩]⟩ [[], [awT]] = false := by
  unfold jobB jokB
  simp only [List.all_cons, List.all_nil, taw_view, awt_view]
  decide +kernel
theorem awt_jB : jobB tawG ⟨true, [], [awT], [⟨1, true⟩, ⟨2, true⟩]⟩ [[], [awT]] = true := by
  unfold jobB jokB
  simp only [List.all_cons, List.all_nil, taw_view, awt_view]
  decide +kernel
theorem awt_need : [1, 2, 3, 4].filter (needB (viewOf tawG []) [⟨1, true⟩, ⟨2, true⟩]) = [3, 4] := by rw [taw_view]; decide +kernel
theorem awt_le : V.Le (.sl false [.agg [.i 201, .i 1, .sl true (awT.changes.map chV)]]) (.sl false ([awT].map prV)) := by
  refine V.Le.slE _ _ _ rfl (dl_prV _) ?_ ?_
  · intro i hi
    have : i = 0 := by simpa using hi
    subst this; rfl
  · intro i j hi hj
    have : i = 0 := by simpa using hi
    subst this
    have hj : j < 3 := hj
    rcases (by omega : j = 0 ∨ j = 1 ∨ j = 2) with rfl | rfl | rfl
    · exact V.Le.refl _
    · exact V.Le.refl _
    · exact V.Le.full _
theorem posV_nil : PosV [] := ⟨by decide, fun e he => by cases he⟩
theorem law_awake20 : AM.Fn Tryz.prog 19 [] (.b true) := by
  have hAl := interval_All false false [] [awT] zd awt_small.2 zd (by unfold Fine; decide +kernel)
  have hSp := span_fn (g := tawG) zd hAl (by rw [awt_all]; decide) (by rw [awt_all]; exact awt_plain)
  rw [awt_all] at hAl
  rw [awt_all, awt_span] at hSp
  have hGe := law20_genesis
  have hB := transfer_Begin false false false tawG 4 [] [awT] [] [1, 2, 3, 4] hSp awt_small posV_nil zd
  have hR1 := transfer_Reported ⟨true, [], [awT], []⟩ 2 true awt_small zd
  have hR2 := transfer_Reported ⟨true, [], [awT], [⟨2, true⟩]⟩ 1 true awt_small zd
  dsimp only at hR1 hR2
  rw [show repS [] ⟨2, true⟩ = [⟨2, true⟩] by decide] at hR1
  rw [show repS [⟨2, true⟩] ⟨1, true⟩ = [⟨1, true⟩, ⟨2, true⟩] by decide] at hR2
  have hCA := transfer_Complete tawG ⟨true, [], [awT], [⟨2, true⟩]⟩ [[], [awT]] hAl awt_fair zd
  have hCB := transfer_Complete tawG ⟨true, [], [awT], [⟨1, true⟩, ⟨2, true⟩]⟩ [[], [awT]] hAl awt_fair zd
  rw [awt_jA] at hCA
  rw [awt_jB] at hCB
  have hV0 := transfer_view false tawG [] zd zd (fun p hp => by cases hp)
  have hAg := transfer_Again false tawG 4 ⟨true, [], [awT], [⟨1, true⟩, ⟨2, true⟩]⟩ [] [1, 2, 3, 4] hSp hV0 awt_small posV_nil zd rfl zd
  dsimp only at hAg
  rw [awt_need] at hAg
  have hN := ref_NewReplica 2 tawG zd
  have hL := law20_l0 false (fetchL 4 [] [awT] [] [1, 2, 3, 4]) zd
  have hBy := state_Beyond false false [] [] 4 zd zd (clone_nil false)
  have hSv := transfer_Serve (newR 2 tawG) ((fetchL 4 [] [awT] [] [1, 2, 3, 4]).getD 0 default) [] false awt_small ⟨awt_small.1, awt_small.1⟩ ⟨awt_small.1, awt_small.1⟩ hBy
  have m1 : (fetchL 4 [] [awT] [] [1, 2, 3, 4]).length = 4 := rfl
  have m2 : ((fetchL 4 [] [awT] [] [1, 2, 3, 4]).getD 3 default).to = 4 := rfl
  have m3 : ((fetchL 4 [] [awT] [] [1, 2, 3, 4]).getD 0 default).«from» = 4 := rfl
  have m4 : (serveM (newR 2 tawG) ((fetchL 4 [] [awT] [] [1, 2, 3, 4]).getD 0 default) [] false).kind = 5 := rfl
  have m5 : (serveM (newR 2 tawG) ((fetchL 4 [] [awT] [] [1, 2, 3, 4]).getD 0 default) [] false).«from» = 2 := rfl
  have m6 : (serveM (newR 2 tawG) ((fetchL 4 [] [awT] [] [1, 2, 3, 4]).getD 0 default) [] false).to = 4 := rfl
  have m7 : (serveM (newR 2 tawG) ((fetchL 4 [] [awT] [] [1, 2, 3, 4]).getD 0 default) [] false).more = false := rfl
  have m8 : (fetchL 4 [] [awT] [] [3, 4]).length = 2 := rfl
  generalize serveM (newR 2 tawG) ((fetchL 4 [] [awT] [] [1, 2, 3, 4]).getD 0 default) [] false = c at *
  generalize newR 2 tawG = nr at *
  generalize fetchL 4 [] [awT] [] [1, 2, 3, 4] = ms at *
  generalize fetchL 4 [] [awT] [] [3, 4] = ags at *
  clear hAl hSp hV0 hBy
  (refine spec_of_runs Tryz.func19 rfl ?_; simp only [Tryz.f19]; refine ys ?_)
  repeat' (first | refine yw ?_ | ((with_reducible refine Runs.is ?_); first | refine Runs.region (id := 0) ?_ | refine Runs.region (id := 1) ?_ | ((with_reducible refine Runs.isC ?_); refine Runs.cond rfl (zc ?_) (zc ?_) <;> intro hc <;> (try (first | contradiction | (exfalso; omega; done) | (have : hc = trivial := rfl; clear this; clear hc))))) | ((with_reducible refine r_is ?_); first | refine yrb ?_ | (refine r_buildOwn (D := 10) SlF.h ZoF.h zd zB zd rfl ?_; refine r_nn zN zH ?_) | (refine r_build SlF.h ZoF.h zd zB ?_; refine r_n zN ?_)) | fail)
  (refine Runs.weaken (St.Le.freeze_lst 10 rfl) ?_; refine yf ?_)
  refine Runs.weaken (St.Le.clean (s' := ⟨[.any, .sl false ([awT].map prV), .any, .any, .any, .any, .any, .any, .any, .any, .any, .any, .any, .any, .any, .any, .any, .any, .any, .any, .any, .any, .any, .any, .any, .any, .any, .any, .any, .any, .any, .any, .any, .any, .any, .any, .any, .any, .any, .any, .any, .any, .any, .any, .any, .any, .any, .any, .any, .any, .any, .any, .any, .any, .any, .any, .any, .any, .any, .any, .any, .any, .any, .any, .any, .any, .any, .any, .any, .any, .any, .any, .any, .any, .any, .any, .any, .any, .any, .any, .any, .any, .any, .any, .any], []⟩) (by repeat' (first | exact V.LeL.nil | refine V.LeL.cons ?_ ?_ | exact V.Le.any _ | exact awt_le)) (by simp [V.usesL, V.uses, AM.look_cons, V.usesL_data, da_prV]) (by simp [AM.sub])) ?_
  have hR1b : AM.Fn Tryz.prog 34 [.agg [.b true, .sl false (([] : Config).map prV), .sl false ([awT].map prV), .sc (.slice none 0 0)], .i 2, .b true] (joV ⟨true, [], [awT], [⟨2, true⟩]⟩) := Spec.args hR1 (.cons (.aggL (.cons (.refl _) (.cons (.refl _) (.cons (.refl _) (.cons (.nil _) .nil))))) (V.LeL.refl _)) (by simp [V.dataL, V.data, da_joV])
  clear hR1
  generalize [awT] = cT at *
  repeat' (first | refine yw ?_ | ((with_reducible refine Runs.is ?_); first | refine Runs.region (id := 2) ?_ | refine Runs.region (id := 3) ?_ | refine Runs.region (id := 4) ?_ | refine Runs.region (id := 5) ?_ | ((with_reducible refine Runs.isC ?_); refine Runs.cond rfl (zc ?_) (zc ?_) <;> intro hc <;> (try (first | contradiction | (exfalso; omega; done) | (have : hc = trivial := rfl; clear this; clear hc))))) | ((with_reducible refine r_is ?_); first | refine yr ?_ | (refine r_fn rfl (hGe) HbF.h zL0 zD ?_; refine r_nn zN zH ?_) | (refine r_fn rfl (hB) HbF.h zL5 zD ?_; refine r_nn zN zH ?_) | (refine r_fn rfl (hR1b) HbF.h zL3 zD ?_; refine r_nn zN zH ?_) | (refine r_fn rfl (hR2) HbF.h zL3 zD ?_; refine r_nn zN zH ?_) | (refine r_fn rfl (hN) HbF.h zL2 zD ?_; refine r_nn zN zH ?_) | (refine r_fn rfl (hL) HbF.h zL1 zD ?_; refine r_nn zN zH ?_) | (refine r_fn rfl (hSv) HbF.h zL2 zD ?_; refine r_nn zN zH ?_)) | fail)
  clear hB hR1b hR2 hN hL hSv
  repeat' (first | refine yw ?_ | ((with_reducible refine Runs.is ?_); first | refine Runs.drawn (id := 6) mixed zK ?_ | ((with_reducible refine Runs.isC ?_); refine Runs.cond rfl (zc ?_) (zc ?_) <;> intro hc <;> (try (first | contradiction | (exfalso; omega; done) | (have : hc = trivial := rfl; clear this; clear hc))))) | ((with_reducible refine d_is ?_); first | refine yd ?_ | (refine d_fn rfl (hGe) HbF.h zL0 zD ?_; refine d_nn zN zH ?_) | (refine d_fn rfl (hCA) HbF.h zL2 zD ?_; refine d_nn zN zH ?_) | (refine d_fn rfl (hCB) HbF.h zL2 zD ?_; refine d_nn zN zH ?_) | (refine d_fn rfl (hAg) HbF.h zL4 zD ?_; refine d_nn zN zH ?_) | ((with_reducible refine d_gd ?_); (first | refine d_guardPt rfl rfl ?_ ?_ | refine d_guardNt rfl rfl ?_ ?_ | refine d_guard rfl rfl ?_ ?_) <;> intro hG <;> (try (exfalso; omega; done)) <;> refine d_nn zN zH ?_)) | fail)
  all_goals ((refine Runs.ret1 Tryz.func19 rfl zM zD ?_; try exact zX))
  all_goals (rw [m7]; exact V.Le.refl _)
end Go.Proofs
namespace Go.Proofs
open Go.AM
attribute [local irreducible] AM.evalR AM.evalD AM.Runs AM.valK AM.dK AM.opK AM.stepR AM.CallS AM.St.Le
section
variable {s e : Source} {l : List Source} {put : Bool}
end
def sameR (a b : Config) : Bool := containsR a b && containsR b a
theorem ref_Same (f g : Bool) (a b : Config) : AM.Fn Tryz.prog 41 [.sl f (a.map prV), .sl g (b.map prV)] (.b (sameR a b)) := by
  have h1 := ref_Contains f g a b
  have h2 := ref_Contains g f b a
  unfold sameR
  generalize containsR a b = x at *
  generalize containsR b a = y at *
  cases x
  · (refine spec_of_runs Tryz.func41 rfl ?_; simp only [Tryz.f41]; refine ys ?_)
    repeat' (first | refine yw ?_ | ((with_reducible refine Runs.is ?_); first | refine Runs.region ?_ | ((with_reducible refine Runs.isC ?_); refine Runs.cond rfl (zc ?_) (zc ?_) <;> intro hc <;> (try (first | contradiction | (exfalso; omega; done) | (have : hc = trivial := rfl; clear this; clear hc))))) | ((with_reducible refine r_is ?_); first | refine yr ?_ | (refine r_fn rfl (h1) HbF.h zL2 zD ?_; refine r_nn zN zH ?_) | ((with_reducible refine r_gd ?_); (first | refine r_guardPt rfl rfl ?_ ?_ | refine r_guardNt rfl rfl ?_ ?_ | refine r_guard rfl rfl ?_ ?_) <;> intro hG <;> (try (exfalso; omega; done)) <;> refine r_nn zN zH ?_)) | fail)
    (refine Runs.ret1 Tryz.func41 rfl zM zD ?_; try exact zX)
  · (refine spec_of_runs Tryz.func41 rfl ?_; simp only [Tryz.f41]; refine ys ?_)
    repeat' (first | refine yw ?_ | ((with_reducible refine Runs.is ?_); first | refine Runs.region ?_ | ((with_reducible refine Runs.isC ?_); refine Runs.cond rfl (zc ?_) (zc ?_) <;> intro hc <;> (try (first | contradiction | (exfalso; omega; done) | (have : hc = trivial := rfl; clear this; clear hc))))) | ((with_reducible refine r_is ?_); first | refine yr ?_ | (refine r_fn rfl (h1) HbF.h zL2 zD ?_; refine r_nn zN zH ?_) | (refine r_fn rfl (h2) HbF.h zL2 zD ?_; refine r_nn zN zH ?_) | ((with_reducible refine r_gd ?_); (first | refine r_guardPt rfl rfl ?_ ?_ | refine r_guardNt rfl rfl ?_ ?_ | refine r_guard rfl rfl ?_ ?_) <;> intro hG <;> (try (exfalso; omega; done)) <;> refine r_nn zN zH ?_)) | fail)
    (refine Runs.ret1 Tryz.func41 rfl zM zD ?_; try exact zX)
end Go.Proofs
namespace Go.Proofs
open Go.AM
attribute [local irreducible] AM.evalR AM.evalD AM.Runs AM.valK AM.dK AM.opK AM.stepR AM.CallS AM.St.Le
def LeB (a b : List Bool) : Prop := a.length = b.length ∧ ∀ i, i < a.length → a.getD i default = true → b.getD i default = true
theorem LeB.drop {a b : List Bool} (h : LeB a b) (n : Nat) : LeB (a.drop n) (b.drop n) := by
  refine ⟨by rw [List.length_drop, List.length_drop, h.1], fun i hi q => ?_⟩
  rw [List.length_drop] at hi
  rw [List.getD_eq_getElem?_getD, List.getElem?_drop, ← List.getD_eq_getElem?_getD] at q ⊢
  exact h.2 _ zo q
theorem LeB.take {a b : List Bool} (h : LeB a b) (n : Nat) : LeB (a.take n) (b.take n) := by
  refine ⟨by rw [List.length_take, List.length_take, h.1], fun i hi q => ?_⟩
  rw [List.length_take] at hi
  rw [List.getD_eq_getElem?_getD, List.getElem?_take_of_lt zo, ← List.getD_eq_getElem?_getD] at q ⊢
  exact h.2 _ zo q
end Go.Proofs
namespace Go.Proofs
open Go.AM
attribute [local irreducible] AM.evalR AM.evalD AM.Runs AM.valK AM.dK AM.opK AM.stepR AM.CallS AM.St.Le
theorem init_ok {g : View} (h : MemOK g) (hr : RuleOK g.rule) : SumOK (initS g) := by
  refine ⟨initS_sorted h, fun x hx => ?_, fun x hx => (by cases hx), fun w hw => ?_, ⟨Int.le_refl _, Int.le_refl _, Int.le_refl _⟩, .inr ⟨rule_ne hr, hr⟩⟩
  · obtain ⟨m, hm, rfl⟩ := List.mem_map.1 (show x ∈ g.members.map (·.server) from hx)
    exact (h.1 m hm).1
  · obtain ⟨m, hm, rfl⟩ := List.mem_map.1 (show w ∈ g.members.map wOf from hw)
    exact ⟨(h.1 m hm).1, (h.1 m hm).2, Int.le_refl _, Int.le_refl _, Int.le_refl _⟩
theorem sumT_ok {g : View} (h : MemOK g) (hr : RuleOK g.rule) {c : Config} (hc : ∀ p ∈ c, PropOK p) : SumOK (sumT g c) := by
  have gen : ∀ (c : Config) (s : Summary), SumOK s → (∀ p ∈ c, PropOK p) → SumOK (c.foldl sumTStep s) := by
    intro c
    induction c with
    | nil => intro s h _; exact h
    | cons p c ih => intro s h hc; exact ih _ (join_ok h (ofT_ok (hc p (by simp)))) (fun q hq => hc q (by simp [hq]))
  exact gen c _ (init_ok h hr) hc
theorem view_rule {s : Summary} (h : SumOK s) : RuleOK (viewT s).rule := by
  show RuleOK (viewRule s.rule)
  unfold viewRule
  rcases h.ru with ⟨e, _⟩ | ⟨e, h0⟩
  · rw [if_pos e]; simp [RuleOK]
  · rw [if_neg e]; exact h0
theorem memOK_light {v : View} (h : MemOK v) : Light v.members := ⟨by have := h.len; omega, fun m hm => by have := (h.1 m hm).2; omega⟩
theorem view_good {f : Nat → Nat → Proposal} (F : Fam f) (n : Int) {c : Config} (hc : IsCut f c) : MemOK (viewOf (genesisI n) c) ∧ RuleOK (viewOf (genesisI n) c).rule := by
  rw [viewOf_T (genesis_mem n) (F.prop hc)]
  have hs := sumT_ok (genesis_mem n) (ruleI_ok n) (F.prop hc)
  exact ⟨viewT_mem hs, view_rule hs⟩
theorem fair_of {f : Nat → Nat → Proposal} (F : Fam f) (hl : Lite f) (n : Int) {a b : Config} (ha : IsCut f a) (hb : IsCut f b) : Fair (genesisI n) (allB a b) ∧ ∀ c ∈ allB a b, IsCut f c := by
  have h1 := all_is F.nice hl ha hb
  have hm : ∀ c ∈ allB a b, IsCut f c := by rw [h1.1]; exact h1.2.1
  refine ⟨⟨by have := (genesis_mem n).len; omega, by have := all_len64 F.nice ha hb; omega, fun c hc => cut_plain hl (hm c hc), fun c hc => ?_⟩, hm⟩
  have := view_good F n (hm c hc)
  exact ⟨memOK_light this.1, this.2⟩
theorem srcI_len (n : Int) : (srcI n).length ≤ 8 := by
  have h1 := List.length_filterMap_le (srcF n) (upto 1 8)
  rw [upto_len] at h1
  exact h1
end Go.Proofs
namespace Go.Proofs
open Go.AM
attribute [local irreducible] AM.evalR AM.evalD AM.Runs AM.valK AM.dK AM.opK AM.stepR AM.CallS AM.St.Le
end Go.Proofs
namespace Go.Proofs
open Go.AM
attribute [local irreducible] AM.evalR AM.evalD AM.Runs AM.valK AM.dK AM.opK AM.stepR AM.CallS AM.St.Le
theorem viewOf_fn (f : Bool) {F : Nat → Nat → Proposal} (hF : Fam F) (hl : Lite F) (n : Int) {c : Config} (hc : IsCut F c) : AM.Fn Tryz.prog 43 [viV (genesisI n), .sl f (c.map prV)] (viV (viewOf (genesisI n) c)) := by
  have h := ref_ViewOf f (genesisI n) c (by have := (genesis_mem n).len; omega) (cut_plain hl hc).1 (cut_plain hl hc).2
  rw [← viewOf_T (genesis_mem n) (hF.prop hc)] at h
  exact h
end Go.Proofs
namespace Go.Proofs
open Go.AM
attribute [local irreducible] AM.evalR AM.evalD AM.Runs AM.valK AM.dK AM.opK AM.stepR AM.CallS AM.St.Le
theorem same_eqv {F : Nat → Nat → Proposal} (hf : Nice F) {a b : Config} (ha : IsCut F a) (hb : IsCut F b) : sameR a b = eqvB a b := by
  obtain ⟨i, j, k, h, rfl⟩ := ha
  obtain ⟨i', j', k', h', rfl⟩ := hb
  unfold sameR eqvB
  rw [(contains_cut hf h h').1, (contains_cut hf h h').2, (contains_cut hf h' h).1, (contains_cut hf h' h).2]
theorem job_at {g : View} {j : Job} {l : List Config} (h : jobB g j l = true) : ∀ c ∈ l, jokB g j.«from» j.to j.done c = true := by
  unfold jobB at h
  rw [Bool.and_eq_true] at h
  exact List.all_eq_true.1 h.2
theorem law_TransferQuorums (f : Bool) (n : Int) (l : List Int) (x y z a : Int) (hl : l.length ≤ 4611686018427387904) : AM.Fn Tryz.prog 6 [.i n, .sl f (l.map .i), .i x, .i y, .i z, .i a] (.b true) := by
  have hAw := law_awake20
  have hF := pool_fam l
  have hf := hF.nice
  have hli : Lite (poolF l) := pool_lite l
  have hpc := pool_cut l
  have hct := part_cut hf hpc x
  have hcf := part_cut hf hct y
  have hcz := part_cut hf hct z
  have s0 := hpc.small hli
  have s1 := hct.small hli
  have s2 := hcf.small hli
  have s3 := hcz.small hli
  have fn1 := hct.fine hf
  have hGe := kit_Genesis n
  have hP := kit_Pool f l hl
  have hP1 := kit_Part false (poolI l) x zo
  have hP2 := kit_Part false (partI (poolI l) x) y zo
  have hP3 := kit_Part false (partI (poolI l) x) z zo
  generalize partI (poolI l) x = to at *
  obtain ⟨hcm, hmid, _, _⟩ := span_facts hf hct y z
  have hU := ref_Union false false (partI to y) (partI to z) zo zo
  generalize partI to y = fr at *
  generalize partI to z = pz at *
  have hA := interval_All false false fr to zo s1.2 zo fn1
  obtain ⟨hFa, _⟩ := fair_of hF hli n hcf hct
  have ha8 := srcI_len a
  have hSa := kit_Sources a
  have hC1 := transfer_Complete (genesisI n) ⟨true, fr, to, srcI a⟩ (allB fr to) hA hFa (by dsimp only; omega)
  have hV1 := viewOf_fn false hF hli n hcm
  have g1 := view_good hF n hcm
  have hS1 := ref_Same false false (unionR fr pz) to
  have hS2 := ref_Same false false (unionR fr pz) fr
  have e1 := same_eqv hf hcm hct
  have e2 := same_eqv hf hcm hcf
  have hQ1 := fun b => ref_IsQuorum false (viewOf (genesisI n) (unionR fr pz)) (chosenR (srcI a) b) (memOK_light g1.1) g1.2
  have hX1 := fun b => ref_Chosen false (srcI a) b zo
  have hcc : jobB (genesisI n) ⟨true, fr, to, srcI a⟩ (allB fr to) = true → (!sameR (unionR fr pz) fr && sameR (unionR fr pz) to) = true ∨ quoB (viewOf (genesisI n) (unionR fr pz)) ((viewOf (genesisI n) (unionR fr pz)).members.map (inSrv (chosenR (srcI a) (sameR (unionR fr pz) fr)))) = true := fun h => by
    have := job_at h _ hmid
    unfold jokB at this
    dsimp only at this
    rw [e1, e2]
    exact (Bool.or_eq_true _ _).mp this
  generalize jobB (genesisI n) ⟨true, fr, to, srcI a⟩ (allB fr to) = c1 at *
  clear e1 e2 g1 hA hFa hmid fn1 hcm hcf hct hcz hpc hF hf hli
  have hqq := fun b => (rfl : quoB (viewOf (genesisI n) (unionR fr pz)) ((viewOf (genesisI n) (unionR fr pz)).members.map (inSrv (chosenR (srcI a) b))) = _)
  generalize (fun b => quoB (viewOf (genesisI n) (unionR fr pz)) ((viewOf (genesisI n) (unionR fr pz)).members.map (inSrv (chosenR (srcI a) b)))) = qq at *
  generalize sameR (unionR fr pz) to = t1 at *
  generalize sameR (unionR fr pz) fr = t2 at *
  have hQ := hQ1 t2
  have hX := hX1 t2
  generalize quoB (viewOf (genesisI n) (unionR fr pz)) ((viewOf (genesisI n) (unionR fr pz)).members.map (inSrv (chosenR (srcI a) t2))) = q1 at *
  generalize chosenR (srcI a) t2 = k1 at *
  clear hQ1 hX1 hqq
  generalize viewOf (genesisI n) (unionR fr pz) = v1 at *
  generalize genesisI n = g at *
  generalize srcI a = sa at *
  generalize poolI l = p at *
  generalize unionR fr pz = mid at *
  cases c1
  · (refine spec_of_runs Tryz.func6 rfl ?_; simp only [Tryz.f6]; refine ys ?_)
    repeat' (first | refine yw ?_ | ((with_reducible refine Runs.is ?_); first | refine Runs.region (id := 0) ?_ | refine Runs.region (id := 1) ?_ | refine Runs.region (id := 2) ?_ | refine Runs.region (id := 3) ?_ | refine Runs.region (id := 4) ?_ | refine Runs.region (id := 5) ?_ | refine Runs.region (id := 6) ?_ | refine Runs.region (id := 7) ?_ | ((with_reducible refine Runs.isC ?_); refine Runs.cond rfl (zc ?_) (zc ?_) <;> intro hc <;> (try (first | contradiction | (exfalso; omega; done) | (have : hc = trivial := rfl; clear this; clear hc))))) | ((with_reducible refine r_is ?_); first | refine yr ?_ | (refine r_fn rfl (hGe) HbF.h zL1 zD ?_; refine r_nn zN zH ?_) | (refine r_fn rfl (hP) HbF.h zL1 zD ?_; refine r_nn zN zH ?_) | (refine r_fn rfl (hP1) HbF.h zL2 zD ?_; refine r_nn zN zH ?_) | (refine r_fn rfl (hP2) HbF.h zL2 zD ?_; refine r_nn zN zH ?_) | (refine r_fn rfl (hP3) HbF.h zL2 zD ?_; refine r_nn zN zH ?_) | (refine r_fn rfl (hSa) HbF.h zL1 zD ?_; refine r_nn zN zH ?_) | (refine r_fn rfl (hU) HbF.h zL2 zD ?_; refine r_nn zN zH ?_) | (refine r_fn rfl (hC1) HbF.h zL2 zD ?_; refine r_nn zN zH ?_) | (refine r_fn rfl (hAw) HbF.h zL0 zD ?_; refine r_nn zN zH ?_) | ((with_reducible refine r_gd ?_); (first | refine r_guardPf rfl rfl ?_ ?_ | refine r_guardNf rfl rfl ?_ ?_ | refine r_guardPt rfl rfl ?_ ?_ | refine r_guardNt rfl rfl ?_ ?_ | refine r_guard rfl rfl ?_ ?_) <;> intro hG <;> (try (exfalso; omega; done)) <;> refine r_nn zN zH ?_)) | fail)
    all_goals ((refine Runs.ret1 Tryz.func6 rfl zM zD ?_; try exact zX))
  · have hc2 := hcc rfl
    by_cases ht : t1 = true ∧ t2 = false
    · obtain ⟨rfl, rfl⟩ := ht
      (refine spec_of_runs Tryz.func6 rfl ?_; simp only [Tryz.f6]; refine ys ?_)
      repeat' (first | refine yw ?_ | ((with_reducible refine Runs.is ?_); first | refine Runs.region ?_ | refine Runs.drawn mixed zK ?_ | ((with_reducible refine Runs.isC ?_); refine Runs.cond rfl (zc ?_) (zc ?_) <;> intro hc <;> (try (first | contradiction | (exfalso; omega; done) | (have : hc = trivial := rfl; clear this; clear hc))))) | ((with_reducible refine r_is ?_); first | refine yr ?_ | (refine r_fn rfl (hGe) HbF.h zL1 zD ?_; refine r_nn zN zH ?_) | (refine r_fn rfl (hP) HbF.h zL1 zD ?_; refine r_nn zN zH ?_) | (refine r_fn rfl (hP1) HbF.h zL2 zD ?_; refine r_nn zN zH ?_) | (refine r_fn rfl (hP2) HbF.h zL2 zD ?_; refine r_nn zN zH ?_) | (refine r_fn rfl (hP3) HbF.h zL2 zD ?_; refine r_nn zN zH ?_) | (refine r_fn rfl (hSa) HbF.h zL1 zD ?_; refine r_nn zN zH ?_) | (refine r_fn rfl (hU) HbF.h zL2 zD ?_; refine r_nn zN zH ?_) | (refine r_fn rfl (hC1) HbF.h zL2 zD ?_; refine r_nn zN zH ?_) | (refine r_fn rfl (hS1) HbF.h zL2 zD ?_; refine r_nn zN zH ?_) | (refine r_fn rfl (hS2) HbF.h zL2 zD ?_; refine r_nn zN zH ?_) | (refine r_fn rfl (hAw) HbF.h zL0 zD ?_; refine r_nn zN zH ?_) | ((with_reducible refine r_gd ?_); (first | refine r_guardPf rfl rfl ?_ ?_ | refine r_guardNf rfl rfl ?_ ?_ | refine r_guardPt rfl rfl ?_ ?_ | refine r_guardNt rfl rfl ?_ ?_ | refine r_guard rfl rfl ?_ ?_) <;> intro hG <;> (try (exfalso; omega; done)) <;> refine r_nn zN zH ?_)) | ((with_reducible refine d_is ?_); first | refine yd ?_ | (refine d_fn rfl (hV1) HbF.h zL2 zD ?_; refine d_nn zN zH ?_) | (refine d_fn rfl (hS1) HbF.h zL2 zD ?_; refine d_nn zN zH ?_) | (refine d_fn rfl (hS2) HbF.h zL2 zD ?_; refine d_nn zN zH ?_) | (refine d_fn rfl (hX) HbF.h zL2 zD ?_; refine d_nn zN zH ?_) | (refine d_fn rfl (hQ) HbF.h zL2 zD ?_; refine d_nn zN zH ?_) | (refine d_fn rfl (hAw) HbF.h zL0 zD ?_; refine d_nn zN zH ?_) | ((with_reducible refine d_gd ?_); (first | refine d_guardPt rfl rfl ?_ ?_ | refine d_guardNt rfl rfl ?_ ?_ | refine d_guard rfl rfl ?_ ?_) <;> intro hG <;> (try (exfalso; omega; done)) <;> refine d_nn zN zH ?_)) | fail)
      all_goals ((refine Runs.ret1 Tryz.func6 rfl zM zD ?_; try exact zX))
    · have hq1 : q1 = true := by
        rcases hc2 with h | h
        · exfalso
          cases t1 <;> cases t2 <;> simp_all
        · exact h
      subst hq1
      cases t1
      · cases t2
        all_goals
          (refine spec_of_runs Tryz.func6 rfl ?_; simp only [Tryz.f6]; refine ys ?_)
          repeat' (first | refine yw ?_ | ((with_reducible refine Runs.is ?_); first | refine Runs.region ?_ | refine Runs.drawn mixed zK ?_ | ((with_reducible refine Runs.isC ?_); refine Runs.cond rfl (zc ?_) (zc ?_) <;> intro hc <;> (try (first | contradiction | (exfalso; omega; done) | (have : hc = trivial := rfl; clear this; clear hc))))) | ((with_reducible refine r_is ?_); first | refine yr ?_ | (refine r_fn rfl (hGe) HbF.h zL1 zD ?_; refine r_nn zN zH ?_) | (refine r_fn rfl (hP) HbF.h zL1 zD ?_; refine r_nn zN zH ?_) | (refine r_fn rfl (hP1) HbF.h zL2 zD ?_; refine r_nn zN zH ?_) | (refine r_fn rfl (hP2) HbF.h zL2 zD ?_; refine r_nn zN zH ?_) | (refine r_fn rfl (hP3) HbF.h zL2 zD ?_; refine r_nn zN zH ?_) | (refine r_fn rfl (hSa) HbF.h zL1 zD ?_; refine r_nn zN zH ?_) | (refine r_fn rfl (hU) HbF.h zL2 zD ?_; refine r_nn zN zH ?_) | (refine r_fn rfl (hC1) HbF.h zL2 zD ?_; refine r_nn zN zH ?_) | (refine r_fn rfl (hS1) HbF.h zL2 zD ?_; refine r_nn zN zH ?_) | (refine r_fn rfl (hS2) HbF.h zL2 zD ?_; refine r_nn zN zH ?_) | (refine r_fn rfl (hAw) HbF.h zL0 zD ?_; refine r_nn zN zH ?_) | ((with_reducible refine r_gd ?_); (first | refine r_guardPf rfl rfl ?_ ?_ | refine r_guardNf rfl rfl ?_ ?_ | refine r_guardPt rfl rfl ?_ ?_ | refine r_guardNt rfl rfl ?_ ?_ | refine r_guard rfl rfl ?_ ?_) <;> intro hG <;> (try (exfalso; omega; done)) <;> refine r_nn zN zH ?_)) | ((with_reducible refine d_is ?_); first | refine yd ?_ | (refine d_fn rfl (hV1) HbF.h zL2 zD ?_; refine d_nn zN zH ?_) | (refine d_fn rfl (hS1) HbF.h zL2 zD ?_; refine d_nn zN zH ?_) | (refine d_fn rfl (hS2) HbF.h zL2 zD ?_; refine d_nn zN zH ?_) | (refine d_fn rfl (hX) HbF.h zL2 zD ?_; refine d_nn zN zH ?_) | (refine d_fn rfl (hQ) HbF.h zL2 zD ?_; refine d_nn zN zH ?_) | (refine d_fn rfl (hAw) HbF.h zL0 zD ?_; refine d_nn zN zH ?_) | ((with_reducible refine d_gd ?_); (first | refine d_guardPt rfl rfl ?_ ?_ | refine d_guardNt rfl rfl ?_ ?_ | refine d_guard rfl rfl ?_ ?_) <;> intro hG <;> (try (exfalso; omega; done)) <;> refine d_nn zN zH ?_)) | fail)
          all_goals ((refine Runs.ret1 Tryz.func6 rfl zM zD ?_; try exact zX))
      · cases t2
        · exact absurd ⟨rfl, rfl⟩ ht
        · (refine spec_of_runs Tryz.func6 rfl ?_; simp only [Tryz.f6]; refine ys ?_)
          repeat' (first | refine yw ?_ | ((with_reducible refine Runs.is ?_); first | refine Runs.region ?_ | refine Runs.drawn mixed zK ?_ | ((with_reducible refine Runs.isC ?_); refine Runs.cond rfl (zc ?_) (zc ?_) <;> intro hc <;> (try (first | contradiction | (exfalso; omega; done) | (have : hc = trivial := rfl; clear this; clear hc))))) | ((with_reducible refine r_is ?_); first | refine yr ?_ | (refine r_fn rfl (hGe) HbF.h zL1 zD ?_; refine r_nn zN zH ?_) | (refine r_fn rfl (hP) HbF.h zL1 zD ?_; refine r_nn zN zH ?_) | (refine r_fn rfl (hP1) HbF.h zL2 zD ?_; refine r_nn zN zH ?_) | (refine r_fn rfl (hP2) HbF.h zL2 zD ?_; refine r_nn zN zH ?_) | (refine r_fn rfl (hP3) HbF.h zL2 zD ?_; refine r_nn zN zH ?_) | (refine r_fn rfl (hSa) HbF.h zL1 zD ?_; refine r_nn zN zH ?_) | (refine r_fn rfl (hU) HbF.h zL2 zD ?_; refine r_nn zN zH ?_) | (refine r_fn rfl (hC1) HbF.h zL2 zD ?_; refine r_nn zN zH ?_) | (refine r_fn rfl (hS1) HbF.h zL2 zD ?_; refine r_nn zN zH ?_) | (refine r_fn rfl (hS2) HbF.h zL2 zD ?_; refine r_nn zN zH ?_) | (refine r_fn rfl (hAw) HbF.h zL0 zD ?_; refine r_nn zN zH ?_) | ((with_reducible refine r_gd ?_); (first | refine r_guardPf rfl rfl ?_ ?_ | refine r_guardNf rfl rfl ?_ ?_ | refine r_guardPt rfl rfl ?_ ?_ | refine r_guardNt rfl rfl ?_ ?_ | refine r_guard rfl rfl ?_ ?_) <;> intro hG <;> (try (exfalso; omega; done)) <;> refine r_nn zN zH ?_)) | ((with_reducible refine d_is ?_); first | refine yd ?_ | (refine d_fn rfl (hV1) HbF.h zL2 zD ?_; refine d_nn zN zH ?_) | (refine d_fn rfl (hS1) HbF.h zL2 zD ?_; refine d_nn zN zH ?_) | (refine d_fn rfl (hS2) HbF.h zL2 zD ?_; refine d_nn zN zH ?_) | (refine d_fn rfl (hX) HbF.h zL2 zD ?_; refine d_nn zN zH ?_) | (refine d_fn rfl (hQ) HbF.h zL2 zD ?_; refine d_nn zN zH ?_) | (refine d_fn rfl (hAw) HbF.h zL0 zD ?_; refine d_nn zN zH ?_) | ((with_reducible refine d_gd ?_); (first | refine d_guardPt rfl rfl ?_ ?_ | refine d_guardNt rfl rfl ?_ ?_ | refine d_guard rfl rfl ?_ ?_) <;> intro hG <;> (try (exfalso; omega; done)) <;> refine d_nn zN zH ?_)) | fail)
          all_goals ((refine Runs.ret1 Tryz.func6 rfl zM zD ?_; try exact zX))
end Go.Proofs
namespace Go.Proofs
open Go.AM
attribute [local irreducible] AM.evalR AM.evalD AM.Runs AM.valK AM.dK AM.opK AM.stepR AM.CallS AM.St.Le
theorem row_own : ownKnob Tryz.prog.godebug = none := by kernel_rfl
theorem row_laid : laidOutB Tryz.prog = true := by kernel_rfl
theorem row_bool : Tryz.prog.underlying 4 = some .bool := by kernel_rfl
theorem row_int : Tryz.prog.underlying 3 = some (.int .i64) := by kernel_rfl
def I64 (z : Int) : Prop := -9223372036854775808 ≤ z ∧ z ≤ 9223372036854775807
theorem wf_i64 {z : Int} (h : (Lit.int .i64 z).wf = true) : I64 z := by
  simp only [Lit.wf, Bool.and_eq_true, decide_eq_true_eq] at h
  exact h
theorem opI : Opens Tryz.prog 3 1 (fun vs => ∃ z, I64 z ∧ vs = [V.i z]) := (opens_int row_int (by kernel_rfl)).imp fun vs ⟨z, h, e⟩ => ⟨z, wf_i64 h, e⟩
theorem opIs : Opens Tryz.prog 46 1 (fun vs => ∃ l : List Int, l.length ≤ 4611686018427387904 ∧ vs = [inV l]) := (opens_slice false (e := 3) (by kernel_rfl) (by kernel_rfl) opI zd (by kernel_rfl) (by rintro _ c ⟨z, _, rfl⟩; rfl)).imp fun vs ⟨ess, h1, h2, e⟩ => by
  obtain ⟨xs, e1, _, e2⟩ := lists_of (f := V.i) (ok := fun _ => True) (ag := false) (ess := ess) fun c hc => by obtain ⟨z, _, rfl⟩ := h1 c hc; exact ⟨z, trivial, rfl⟩
  have : reachBytes = 140737488351232 := rfl
  exact ⟨xs, by omega, by rw [e, e1]⟩
theorem oaI : OpensV Tryz.prog 3 (fun u => ∃ z, I64 z ∧ u = .i z) := fun H enc W base v d ps a b c d' => (opensV_int row_int (by kernel_rfl) H enc W base v d ps a b c d').imp fun u q => ⟨q.1, q.2.imp fun z r => ⟨wf_i64 r.1, r.2⟩⟩
theorem oaIs : OpensV Tryz.prog 46 (fun u => ∃ l : List Int, l.length ≤ 4611686018427387904 ∧ u = inV l) := opIs.sl (e := 3) (by kernel_rfl) fun u ⟨l, h, e⟩ => ⟨l, h, by simpa using e⟩
end Go.Proofs
