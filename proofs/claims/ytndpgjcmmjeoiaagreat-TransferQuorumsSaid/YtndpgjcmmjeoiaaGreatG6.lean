/- Contracts of functions and plain laws: W115, W116, W117, W142, W143, W144, W145. -/
import Derived.Test.YtndpgjcmmjeoiaaGreatMi
import Derived.Test.YtndpgjcmmjeoiaaGreatMk
import Derived.Test.YtndpgjcmmjeoiaaGreatG5
set_option linter.unusedVariables false
set_option linter.unusedSimpArgs false
set_option maxRecDepth 8000
set_option maxHeartbeats 4000000
set_option pp.deepTerms false
set_option pp.deepTerms.threshold 20
namespace Go.Proofs
open Go.AM
attribute [local irreducible] AM.evalR AM.evalD AM.Runs AM.valK AM.dK AM.opK AM.stepR AM.CallS AM.St.Le
def srcF (n s : Int) : Option Source := if 0 < digitI n 3 s then some ⟨s, decide (digitI n 3 s = 2)⟩ else none
def srcI (n : Int) : List Source := (upto 1 8).filterMap (srcF n)
theorem kit_Sources (n : Int) : AM.Fn Tryz.prog 38 [.i n] (.sl false ((srcI n).map soV)) := by
  (refine spec_of_runs Tryz.func38 rfl ?_; simp only [Tryz.f38]; refine ys ?_)
  repeat' (first | refine yw ?_ | ((with_reducible refine Runs.is ?_); first | refine Runs.region (id := 0) ?_ | refine Runs.region (id := 1) ?_ | refine Runs.region (id := 2) ?_ | ((with_reducible refine Runs.isC ?_); refine Runs.cond rfl (zc ?_) (zc ?_) <;> intro hc <;> (try (first | contradiction | (exfalso; omega; done) | (have : hc = trivial := rfl; clear this; clear hc))))) | ((with_reducible refine r_is ?_); first | refine yr ?_) | fail)
  (refine Runs.weaken (St.Le.nil 3 68 2 3 zd rfl rfl zE) ?_)
  refine Runs.loopI (α := Int) (fun i => (9 - i).toNat) (fun i => 1 ≤ i ∧ i ≤ 9)
    (fun i => ⟨[.i n, .any, .any, .own 3, .i i, .any, .any, .any, .any, .any, .any, .any, .any, .any, .any, .any, .any, .any, .any, .any, .any, .any, .any], [(3, .lst 68 2 (((upto 1 (i - 1)).filterMap (srcF n)).map soV))]⟩) 1 ⟨by decide, by decide⟩ ?_ ?_
  · rw [show upto 1 (1 - 1) = [] from rfl]
    (refine St.Le.clean zR zU zV)
  rintro i ⟨hi1, hi2⟩ ih
  have hl : ((upto 1 (i - 1)).filterMap (srcF n)).length ≤ 8 := by
    have h1 := List.length_filterMap_le (srcF n) (upto 1 (i - 1))
    rw [upto_len] at h1; omega
  have hst : (upto 1 (i + 1 - 1)).filterMap (srcF n) = (upto 1 (i - 1)).filterMap (srcF n) ++ (srcF n i).toList := by
    rw [show i + 1 - 1 = i by omega, upto_snoc hi1, List.filterMap_append]
    congr 1
  have hend : ¬ i ≤ 8 → (upto 1 (i - 1)).filterMap (srcF n) = srcI n := fun h => by rw [show i - 1 = 8 by omega]; rfl
  have hf : srcF n i = if 0 < digitI n 3 i then some ⟨i, decide (digitI n 3 i = 2)⟩ else none := rfl
  have hD := kit_Digit n 3 i zd zo
  generalize (upto 1 (i - 1)).filterMap (srcF n) = acc at *
  generalize digitI n 3 i = d at *
  generalize srcF n i = sf at *
  repeat' (first | refine yw ?_ | ((with_reducible refine Runs.is ?_); first | refine Runs.region (id := 3) ?_ | ((with_reducible refine Runs.isC ?_); refine Runs.cond rfl (zc ?_) (zc ?_) <;> intro hc <;> (try (first | contradiction | (exfalso; omega; done) | (have : hc = trivial := rfl; clear this; clear hc))))) | ((with_reducible refine r_is ?_); first | refine yr ?_) | fail)
  · repeat' (first | refine yw ?_ | ((with_reducible refine Runs.is ?_); first | refine Runs.region (id := 5) ?_ | refine Runs.region (id := 6) ?_ | ((with_reducible refine Runs.isC ?_); refine Runs.cond rfl (zc ?_) (zc ?_) <;> intro hc <;> (try (first | contradiction | (exfalso; omega; done) | (have : hc = trivial := rfl; clear this; clear hc))))) | ((with_reducible refine r_is ?_); first | refine yr ?_ | (refine r_fn rfl (hD) HbF.h zL3 zD ?_; refine r_nn zN zH ?_) | (refine r_append_full SlF.h SlF.s ZoF.h zd rfl rfl zC zJ zS rfl (fun hn => ?_) (fun hn => ?_) <;> refine r_nn zN zH ?_)) | fail)
    · rw [if_pos (by assumption)] at hf
      subst hf
      repeat' (first | refine yw ?_ | ((with_reducible refine Runs.is ?_); first | refine Runs.region (id := 4) ?_ | ((with_reducible refine Runs.isC ?_); refine Runs.cond rfl (zc ?_) (zc ?_) <;> intro hc <;> (try (first | contradiction | (exfalso; omega; done) | (have : hc = trivial := rfl; clear this; clear hc))))) | ((with_reducible refine r_is ?_); first | refine yr ?_) | fail)
      refine ih (i + 1) _ ⟨by omega, by omega⟩ zo ?_
      rw [hst]
      (refine St.Le.clean zR (by first | (simp [V.usesL, V.uses, AM.look_cons]; done) | (simp [V.usesL, V.uses, AM.look_cons, V.usesL_data, V.uses_data, da_i, da_chV, da_ruV, da_prV, da_enV, da_cfV, da_veV, da_inV, da_edV, da_grV, da_weV, da_mbV, da_suV, da_viV]; done)) ?_; (repeat' (first | exact True.intro | refine And.intro ?_ ?_)); all_goals (first | rfl | (simp [AM.look_cons, soV]; done) | (simp [V.uses, V.usesL, AM.look_cons, V.usesL_data, V.uses_data, da_i, da_chV, da_ruV, da_prV, da_enV, da_cfV, da_veV, da_inV, da_edV, da_grV, da_weV, da_mbV, da_suV, da_viV]; done)))
    · rw [if_neg zo] at hf
      subst hf
      repeat' (first | refine yw ?_ | ((with_reducible refine Runs.is ?_); first | refine Runs.region (id := 4) ?_ | ((with_reducible refine Runs.isC ?_); refine Runs.cond rfl (zc ?_) (zc ?_) <;> intro hc <;> (try (first | contradiction | (exfalso; omega; done) | (have : hc = trivial := rfl; clear this; clear hc))))) | ((with_reducible refine r_is ?_); first | refine yr ?_) | fail)
      refine ih (i + 1) _ ⟨by omega, by omega⟩ zo ?_
      rw [hst, show acc ++ (none : Option Source).toList = acc by simp]
      (refine St.Le.clean zR zU zV)
  · have he := hend zo
    subst he
    repeat' (first | refine yw ?_ | ((with_reducible refine Runs.is ?_); first | refine Runs.region (id := 7) ?_ | ((with_reducible refine Runs.isC ?_); refine Runs.cond rfl (zc ?_) (zc ?_) <;> intro hc <;> (try (first | contradiction | (exfalso; omega; done) | (have : hc = trivial := rfl; clear this; clear hc))))) | ((with_reducible refine r_is ?_); first | refine yr ?_) | fail)
    exact Runs.ret_frz Tryz.func38 rfl rfl rfl (by simp)
def chosenR (l : List Source) (fl : Bool) : List Int := (l.filter fun a => !fl || a.filled).map (·.server)
theorem ref_Chosen (f : Bool) (l : List Source) (fl : Bool) (hl : l.length ≤ 1000000) : AM.Fn Tryz.prog 44 [.sl f (l.map soV), .b fl] (.sl false ((chosenR l fl).map .i)) := by
  (refine spec_of_runs Tryz.func44 rfl ?_; simp only [Tryz.f44]; refine ys ?_)
  repeat' (first | refine yw ?_ | ((with_reducible refine Runs.is ?_); first | refine Runs.region (id := 0) ?_ | refine Runs.region (id := 1) ?_ | refine Runs.region (id := 2) ?_ | ((with_reducible refine Runs.isC ?_); refine Runs.cond rfl (zc ?_) (zc ?_) <;> intro hc <;> (try (first | contradiction | (exfalso; omega; done) | (have : hc = trivial := rfl; clear this; clear hc))))) | ((with_reducible refine r_is ?_); first | refine yr ?_) | fail)
  (refine Runs.weaken (St.Le.nil 5 3 1 5 zd rfl rfl zE) ?_)
  refine Runs.loopI (fun k : Nat => l.length - k) (fun k => k ≤ l.length)
    (fun k => ⟨[.sl f (l.map soV), .b fl, .any, .any, .any, .own 5, .i (k : Nat), .any, .any, .any, .any, .any, .any, .any, .any, .any, .any, .any, .any, .any, .any, .any, .any, .any, .any, .any, .any, .any, .any, .any, .any], [(5, .lst 3 1 ((chosenR (l.take k) fl).map .i))]⟩) 0 (Nat.zero_le _) ?_ ?_
  · rw [show chosenR (l.take 0) fl = [] from rfl]
    (refine St.Le.clean zR zU zV)
  intro k hk ih
  have hlen : (chosenR (l.take k) fl).length ≤ k := by
    unfold chosenR
    rw [List.length_map]
    exact Nat.le_trans (List.length_filter_le _ _) (by rw [List.length_take]; omega)
  have hst : k < l.length → chosenR (l.take (k + 1)) fl = chosenR (l.take k) fl ++ (if (!fl || (l.getD k default).filled) = true then [(l.getD k default).server] else []) := fun h => by
    unfold chosenR
    rw [take_getD h, List.filter_append, List.map_append]
    congr 1
    simp only [List.filter_cons, List.filter_nil]
    split <;> rfl
  have hend : l.length ≤ k → chosenR (l.take k) fl = chosenR l fl := fun h => by rw [List.take_of_length_le h]
  generalize chosenR (l.take k) fl = acc at *
  by_cases hlt : k < l.length
  · have hst2 := hst hlt
    cases fl
    · rw [show (!false || (l.getD k default).filled) = true from rfl, if_pos rfl] at hst2
      repeat' (first | refine yw ?_ | ((with_reducible refine Runs.is ?_); first | refine Runs.region (id := 3) ?_ | refine Runs.region (id := 5) ?_ | refine Runs.region (id := 6) ?_ | refine Runs.region (id := 4) ?_ | ((with_reducible refine Runs.isC ?_); refine Runs.cond rfl (zc ?_) (zc ?_) <;> intro hc <;> (try (first | contradiction | (exfalso; omega; done) | (have : hc = trivial := rfl; clear this; clear hc))))) | ((with_reducible refine r_is ?_); first | refine yr ?_ | (refine r_append_full SlF.h SlF.s ZoF.h zd rfl rfl zC zJ zS rfl (fun hn => ?_) (fun hn => ?_) <;> refine r_nn zN zH ?_) | ((with_reducible refine r_gd ?_); (first | refine r_guardPf rfl rfl ?_ ?_ | refine r_guardNf rfl rfl ?_ ?_ | refine r_guard rfl rfl ?_ ?_) <;> intro hG <;> (try (exfalso; omega; done)) <;> refine r_nn zN zH ?_)) | fail)
      refine ih (k + 1) _ zo zo ?_
      rw [hst2]
      (refine St.Le.clean zR zU zV)
    · rw [show (!true || (l.getD k default).filled) = (l.getD k default).filled from rfl] at hst2
      repeat' (first | refine yw ?_ | ((with_reducible refine Runs.is ?_); first | refine Runs.region (id := 3) ?_ | refine Runs.region (id := 5) ?_ | refine Runs.region (id := 6) ?_ | refine Runs.region (id := 4) ?_ | ((with_reducible refine Runs.isC ?_); refine Runs.cond rfl (zc ?_) (zc ?_) <;> intro hc <;> (try (first | contradiction | (exfalso; omega; done) | (have : hc = trivial := rfl; clear this; clear hc))))) | ((with_reducible refine r_is ?_); first | refine yr ?_ | (refine r_append_full SlF.h SlF.s ZoF.h zd rfl rfl zC zJ zS rfl (fun hn => ?_) (fun hn => ?_) <;> refine r_nn zN zH ?_) | ((with_reducible refine r_gd ?_); (first | refine r_guardPf rfl rfl ?_ ?_ | refine r_guardNf rfl rfl ?_ ?_ | refine r_guard rfl rfl ?_ ?_) <;> intro hG <;> (try (exfalso; omega; done)) <;> refine r_nn zN zH ?_)) | fail)
      · rw [if_pos (by assumption)] at hst2
        refine ih (k + 1) _ zo zo ?_
        rw [hst2]
        (refine St.Le.clean zR zU zV)
      · rw [if_neg (by rw [hc]; decide), List.append_nil] at hst2
        refine ih (k + 1) _ zo zo ?_
        rw [hst2]
        (refine St.Le.clean zR zU zV)
  · have he := hend zo
    subst he
    repeat' (first | refine yw ?_ | ((with_reducible refine Runs.is ?_); first | refine Runs.region (id := 3) ?_ | ((with_reducible refine Runs.isC ?_); refine Runs.cond rfl (zc ?_) (zc ?_) <;> intro hc <;> (try (first | contradiction | (exfalso; omega; done) | (have : hc = trivial := rfl; clear this; clear hc))))) | ((with_reducible refine r_is ?_); first | refine yr ?_) | fail)
    repeat' (first | refine yw ?_ | ((with_reducible refine Runs.is ?_); first | refine Runs.region (id := 7) ?_ | ((with_reducible refine Runs.isC ?_); refine Runs.cond rfl (zc ?_) (zc ?_) <;> intro hc <;> (try (first | contradiction | (exfalso; omega; done) | (have : hc = trivial := rfl; clear this; clear hc))))) | ((with_reducible refine r_is ?_); first | refine yr ?_) | fail)
    exact Runs.ret_frz Tryz.func44 rfl rfl rfl (by simp)
end Go.Proofs
namespace Go.Proofs
open Go.AM
attribute [local irreducible] AM.evalR AM.evalD AM.Runs AM.valK AM.dK AM.opK AM.stepR AM.CallS AM.St.Le
end Go.Proofs
namespace Go.Proofs
open Go.AM
attribute [local irreducible] AM.evalR AM.evalD AM.Runs AM.valK AM.dK AM.opK AM.stepR AM.CallS AM.St.Le
def eqvB (a b : Config) : Bool := containsB a b && containsB b a
structure Fair (g : View) (l : List Config) : Prop where
  gl : g.members.length ≤ 1000
  n : l.length ≤ 1000
  c : ∀ c ∈ l, c.length ≤ 100 ∧ ∀ p ∈ c, Plain p
  v : ∀ c ∈ l, Light (viewOf g c).members ∧ RuleOK (viewOf g c).rule
end Go.Proofs
namespace Go.Proofs
open Go.AM
attribute [local irreducible] AM.evalR AM.evalD AM.Runs AM.valK AM.dK AM.opK AM.stepR AM.CallS AM.St.Le
theorem cert_all (f : Bool) (l : List Config) (fn : FuncId) (caps : List V) (k : Config → Bool) (hg : ∀ c, AM.Fn Tryz.prog fn (cfV c :: caps) (.b (k c))) (hb : hasBody Tryz.prog fn) (hd : V.dataL caps = true) :
    AM.Fn Tryz.prog 223 [.fn fn caps, .sl f (l.map cfV)] (.b (l.all k)) := by
  (refine spec_of_runs Tryz.func223 rfl ?_; simp only [Tryz.f223]; refine ys ?_)
  (refine Runs.lens 1 ?_; refine yl ?_)
  intro hl
  repeat' (first | refine yw ?_ | ((with_reducible refine Runs.is ?_); first | refine Runs.region (id := 0) ?_ | refine Runs.region (id := 1) ?_ | ((with_reducible refine Runs.isC ?_); refine Runs.cond rfl (zc ?_) (zc ?_) <;> intro hc <;> (try (first | contradiction | (exfalso; omega; done) | (have : hc = trivial := rfl; clear this; clear hc))))) | ((with_reducible refine r_is ?_); first | refine yr ?_) | fail)
  refine Runs.loopI (fun i : Nat => l.length - i) (fun i => i ≤ l.length ∧ (l.drop i).all k = l.all k)
    (fun i => ⟨[.fn fn caps, .any, .any, .any, .any, .any, .any, .sl f (l.map cfV), .i (l.length : Nat), .i (i : Nat), .any, .any, .any, .any, .any, .any, .any, .any], []⟩) 0 (by simp) ?_ ?_
  · refine St.Le.clean zR (by simp [V.usesL, V.uses, V.usesL_data _ _ hd]) trivial
  rintro i ⟨h0, h1⟩ ih
  by_cases hi : i < l.length
  · rw [drop_getD hi, List.all_cons] at h1
    cases hk : k (l.getD i default)
    · have hx := hg (l.getD i default)
      rw [hk] at hx h1
      repeat' (first | refine yw ?_ | ((with_reducible refine Runs.is ?_); first | refine Runs.region (id := 2) ?_ | refine Runs.region (id := 3) ?_ | refine Runs.region (id := 4) ?_ | refine Runs.region (id := 5) ?_ | refine Runs.region (id := 6) ?_ | ((with_reducible refine Runs.isC ?_); refine Runs.cond rfl (zc ?_) (zc ?_) <;> intro hc <;> (try (first | contradiction | (exfalso; omega; done) | (have : hc = trivial := rfl; clear this; clear hc))))) | ((with_reducible refine r_is ?_); first | refine yr ?_ | (refine r_fn rfl (hx) (hb) zL1 zD ?_; refine r_nn zN zH ?_)) | fail)
      (refine Runs.ret1 Tryz.func223 rfl zM zD ?_; try exact zX)
      rw [← h1]; exact V.Le.refl _
    · have hx := hg (l.getD i default)
      rw [hk] at hx h1
      repeat' (first | refine yw ?_ | ((with_reducible refine Runs.is ?_); first | refine Runs.region (id := 2) ?_ | refine Runs.region (id := 3) ?_ | refine Runs.region (id := 4) ?_ | refine Runs.region (id := 5) ?_ | refine Runs.region (id := 6) ?_ | ((with_reducible refine Runs.isC ?_); refine Runs.cond rfl (zc ?_) (zc ?_) <;> intro hc <;> (try (first | contradiction | (exfalso; omega; done) | (have : hc = trivial := rfl; clear this; clear hc))))) | ((with_reducible refine r_is ?_); first | refine yr ?_ | (refine r_fn rfl (hx) (hb) zL1 zD ?_; refine r_nn zN zH ?_)) | fail)
      refine ih (i + 1) _ ⟨by omega, by rw [← h1]; rfl⟩ zo ?_
      refine St.Le.clean zR (by simp [V.usesL, V.uses, V.usesL_data _ _ hd]) trivial
  · rw [List.drop_eq_nil_of_le zo] at h1
    repeat' (first | refine yw ?_ | ((with_reducible refine Runs.is ?_); first | refine Runs.region (id := 2) ?_ | ((with_reducible refine Runs.isC ?_); refine Runs.cond rfl (zc ?_) (zc ?_) <;> intro hc <;> (try (first | contradiction | (exfalso; omega; done) | (have : hc = trivial := rfl; clear this; clear hc))))) | ((with_reducible refine r_is ?_); first | refine yr ?_) | fail)
    repeat' (first | refine yw ?_ | ((with_reducible refine Runs.is ?_); first | refine Runs.region (id := 7) ?_ | ((with_reducible refine Runs.isC ?_); refine Runs.cond rfl (zc ?_) (zc ?_) <;> intro hc <;> (try (first | contradiction | (exfalso; omega; done) | (have : hc = trivial := rfl; clear this; clear hc))))) | ((with_reducible refine r_is ?_); first | refine yr ?_) | fail)
    (refine Runs.ret1 Tryz.func223 rfl zM zD ?_; try exact zX)
    rw [← h1]; exact V.Le.refl _
def newerB (a b : Cert) : Bool := containsB a.to b.to && !(containsB a.to b.to && containsB b.to a.to)
theorem newer1 (a : Cert) (c : Config) : AM.Fn Tryz.prog 224 [cfV c, .pt (ceV a)] (.b (containsB a.to c && !(containsB a.to c && containsB c a.to))) := by
  have h1 := config_Contains false false a.to c
  have h2 := config_Equal false false a.to c
  generalize containsB a.to c = x at *
  generalize containsB c a.to = y at *
  cases x
  · (refine spec_of_runs Tryz.func224 rfl ?_; simp only [Tryz.f224]; refine ys ?_)
    repeat' (first | refine yw ?_ | ((with_reducible refine Runs.is ?_); first | refine Runs.region ?_ | ((with_reducible refine Runs.isC ?_); refine Runs.cond rfl (zc ?_) (zc ?_) <;> intro hc <;> (try (first | contradiction | (exfalso; omega; done) | (have : hc = trivial := rfl; clear this; clear hc))))) | ((with_reducible refine r_is ?_); first | refine yr ?_ | (refine r_fn rfl (h1) HbF.h zL2 zD ?_; refine r_nn zN zH ?_) | (refine r_fn rfl (h2) HbF.h zL2 zD ?_; refine r_nn zN zH ?_) | ((with_reducible refine r_gd ?_); (first | refine r_guardPt rfl rfl ?_ ?_ | refine r_guardNt rfl rfl ?_ ?_ | refine r_guard rfl rfl ?_ ?_) <;> intro hG <;> (try (exfalso; omega; done)) <;> refine r_nn zN zH ?_)) | fail)
    (refine Runs.ret1 Tryz.func224 rfl zM zD ?_; try exact zX)
  · cases y
    · (refine spec_of_runs Tryz.func224 rfl ?_; simp only [Tryz.f224]; refine ys ?_)
      repeat' (first | refine yw ?_ | ((with_reducible refine Runs.is ?_); first | refine Runs.region ?_ | ((with_reducible refine Runs.isC ?_); refine Runs.cond rfl (zc ?_) (zc ?_) <;> intro hc <;> (try (first | contradiction | (exfalso; omega; done) | (have : hc = trivial := rfl; clear this; clear hc))))) | ((with_reducible refine r_is ?_); first | refine yr ?_ | (refine r_fn rfl (h1) HbF.h zL2 zD ?_; refine r_nn zN zH ?_) | (refine r_fn rfl (h2) HbF.h zL2 zD ?_; refine r_nn zN zH ?_) | ((with_reducible refine r_gd ?_); (first | refine r_guardPt rfl rfl ?_ ?_ | refine r_guardNt rfl rfl ?_ ?_ | refine r_guard rfl rfl ?_ ?_) <;> intro hG <;> (try (exfalso; omega; done)) <;> refine r_nn zN zH ?_)) | fail)
      (refine Runs.ret1 Tryz.func224 rfl zM zD ?_; try exact zX)
    · (refine spec_of_runs Tryz.func224 rfl ?_; simp only [Tryz.f224]; refine ys ?_)
      repeat' (first | refine yw ?_ | ((with_reducible refine Runs.is ?_); first | refine Runs.region ?_ | ((with_reducible refine Runs.isC ?_); refine Runs.cond rfl (zc ?_) (zc ?_) <;> intro hc <;> (try (first | contradiction | (exfalso; omega; done) | (have : hc = trivial := rfl; clear this; clear hc))))) | ((with_reducible refine r_is ?_); first | refine yr ?_ | (refine r_fn rfl (h1) HbF.h zL2 zD ?_; refine r_nn zN zH ?_) | (refine r_fn rfl (h2) HbF.h zL2 zD ?_; refine r_nn zN zH ?_) | ((with_reducible refine r_gd ?_); (first | refine r_guardPt rfl rfl ?_ ?_ | refine r_guardNt rfl rfl ?_ ?_ | refine r_guard rfl rfl ?_ ?_) <;> intro hG <;> (try (exfalso; omega; done)) <;> refine r_nn zN zH ?_)) | fail)
      (refine Runs.ret1 Tryz.func224 rfl zM zD ?_; try exact zX)
theorem cert_Newer (a b : Cert) : AM.Fn Tryz.prog 184 [ceV a, ceV b] (.b (newerB a b)) := by
  have h := cert_all true [b.to] 224 [.pt (ceV a)] _ (fun c => newer1 a c) hb224 (by simp only [go_sem, Bool.and_self])
  have e : ([b.to].all fun c => (containsB a.to c && !(containsB a.to c && containsB c a.to))) = newerB a b := by simp [newerB]
  rw [e] at h
  (refine spec_of_runs Tryz.func184 rfl ?_; simp only [Tryz.f184]; refine ys ?_)
  repeat' (first | refine yw ?_ | ((with_reducible refine Runs.is ?_); first | refine Runs.region (id := 0) ?_ | ((with_reducible refine Runs.isC ?_); refine Runs.cond rfl (zc ?_) (zc ?_) <;> intro hc <;> (try (first | contradiction | (exfalso; omega; done) | (have : hc = trivial := rfl; clear this; clear hc))))) | ((with_reducible refine r_is ?_); first | refine yr ?_) | fail)
  (refine Runs.weaken (St.Le.freeze_var 2 rfl (by simp only [go_sem, Bool.and_self, Bool.and_true, Bool.true_and])) ?_; refine yf ?_)
  simp only [fz_ceV]
  repeat' (first | refine yw ?_ | ((with_reducible refine Runs.is ?_); first | refine Runs.region (id := 1) ?_ | ((with_reducible refine Runs.isC ?_); refine Runs.cond rfl (zc ?_) (zc ?_) <;> intro hc <;> (try (first | contradiction | (exfalso; omega; done) | (have : hc = trivial := rfl; clear this; clear hc))))) | ((with_reducible refine r_is ?_); first | refine yr ?_ | (refine r_fn rfl (h) HbF.h zL2 zD ?_; refine r_nn zN zH ?_)) | fail)
  (refine Runs.ret1 Tryz.func184 rfl zM zD ?_; try exact zX)
def SmallC (c : Cert) : Prop := Small c.«from» ∧ Small c.to
theorem cert_clone (c : Cert) (h : SmallC c) : AM.Fn Tryz.prog 185 [ceV c] (ceV c) := by
  have h1 := config_Union_nil false c.«from» h.1
  have h2 := config_Union_nil false c.to h.2
  (refine spec_of_runs Tryz.func185 rfl ?_; simp only [Tryz.f185]; refine ys ?_)
  repeat' (first | refine yw ?_ | ((with_reducible refine Runs.is ?_); first | refine Runs.region ?_ | refine Runs.drawn mixed zK ?_ | ((with_reducible refine Runs.isC ?_); refine Runs.cond rfl (zc ?_) (zc ?_) <;> intro hc <;> (try (first | contradiction | (exfalso; omega; done) | (have : hc = trivial := rfl; clear this; clear hc))))) | ((with_reducible refine r_is ?_); first | refine yr ?_) | ((with_reducible refine d_is ?_); first | refine yd ?_ | (refine d_fn rfl (h1) HbF.h zL2 zD ?_; refine d_nn zN zH ?_) | (refine d_fn rfl (h2) HbF.h zL2 zD ?_; refine d_nn zN zH ?_)) | fail)
  (refine Runs.retC Tryz.func185 rfl zM rfl TyF.h (And.intro zE zd) zD ?_; try exact zX)
def latestB (a b : Cert) : Cert := if newerB b a = true then b else a
theorem cert_Latest (a b : Cert) (ha : SmallC a) (hb : SmallC b) : AM.Fn Tryz.prog 119 [ceV a, ceV b] (ceV (latestB a b)) := by
  have h1 := cert_Newer b a
  have h2 := cert_clone a ha
  have h3 := cert_clone b hb
  unfold latestB
  generalize newerB b a = x at *
  cases x
  · rw [if_neg zd]
    (refine spec_of_runs Tryz.func119 rfl ?_; simp only [Tryz.f119]; refine ys ?_)
    repeat' (first | refine yw ?_ | ((with_reducible refine Runs.is ?_); first | refine Runs.region ?_ | ((with_reducible refine Runs.isC ?_); refine Runs.cond rfl (zc ?_) (zc ?_) <;> intro hc <;> (try (first | contradiction | (exfalso; omega; done) | (have : hc = trivial := rfl; clear this; clear hc))))) | ((with_reducible refine r_is ?_); first | refine yr ?_ | (refine r_fn rfl (h1) HbF.h zL2 zD ?_; refine r_nn zN zH ?_) | (refine r_fn rfl (h2) HbF.h zL1 zD ?_; refine r_nn zN zH ?_)) | fail)
    (refine Runs.retC Tryz.func119 rfl zM rfl TyF.h (And.intro zE zd) zD ?_; try exact zX)
  · rw [if_pos rfl]
    (refine spec_of_runs Tryz.func119 rfl ?_; simp only [Tryz.f119]; refine ys ?_)
    repeat' (first | refine yw ?_ | ((with_reducible refine Runs.is ?_); first | refine Runs.region ?_ | ((with_reducible refine Runs.isC ?_); refine Runs.cond rfl (zc ?_) (zc ?_) <;> intro hc <;> (try (first | contradiction | (exfalso; omega; done) | (have : hc = trivial := rfl; clear this; clear hc))))) | ((with_reducible refine r_is ?_); first | refine yr ?_ | (refine r_fn rfl (h1) HbF.h zL2 zD ?_; refine r_nn zN zH ?_) | (refine r_fn rfl (h3) HbF.h zL1 zD ?_; refine r_nn zN zH ?_)) | fail)
    (refine Runs.retC Tryz.func119 rfl zM rfl TyF.h (And.intro zE zd) zD ?_; try exact zX)
theorem newerB_nil (c : Cert) : newerB ⟨[], []⟩ c = false := by
  unfold newerB
  cases h : c.to with
  | nil => simp [containsB]
  | cons p l =>
    have : containsB [] (p :: l) = false := by
      unfold containsB
      rw [List.all_cons]
      have : hasB [] p = false := by simp [hasB]
      rw [this]; rfl
    rw [this]; rfl
theorem latestB_nil (c : Cert) : latestB c ⟨[], []⟩ = c := by unfold latestB; rw [newerB_nil, if_neg zd]
theorem smallC_nil : SmallC ⟨[], []⟩ := ⟨⟨by decide, fun p hp => by cases hp⟩, ⟨by decide, fun p hp => by cases hp⟩⟩
theorem transfer_copyCert (c : Cert) (h : SmallC c) : AM.Fn Tryz.prog 89 [ceV c] (ceV c) := by
  have h0 := cert_Latest c ⟨[], []⟩ h smallC_nil
  rw [latestB_nil] at h0
  have h1 : AM.Fn Tryz.prog 119 [ceV c, .agg [.sc (.slice none 0 0), .sc (.slice none 0 0)]] (ceV c) := Spec.args h0 (.cons (V.Le.refl _) (.cons (.aggL (.cons (.nil _) (.cons (.nil _) .nil))) .nil)) (by simp [V.dataL, da_ceV])
  clear h0
  (refine spec_of_runs Tryz.func89 rfl ?_; simp only [Tryz.f89]; refine ys ?_)
  repeat' (first | refine yw ?_ | ((with_reducible refine Runs.is ?_); first | refine Runs.region ?_ | ((with_reducible refine Runs.isC ?_); refine Runs.cond rfl (zc ?_) (zc ?_) <;> intro hc <;> (try (first | contradiction | (exfalso; omega; done) | (have : hc = trivial := rfl; clear this; clear hc))))) | ((with_reducible refine r_is ?_); first | refine yr ?_ | (refine r_fn rfl (h1) HbF.h zL2 zD ?_; refine r_nn zN zH ?_)) | fail)
  (refine Runs.retC Tryz.func89 rfl zM rfl TyF.h (And.intro zE zd) zD ?_; try exact zX)
theorem vector_of (x y : Int) : AM.Fn Tryz.prog 202 [.b true, .i x, .i y] (.i (if x < y then y else x)) := by
  (refine spec_of_runs Tryz.func202 rfl ?_; simp only [Tryz.f202]; refine ys ?_)
  repeat' (first | refine yw ?_ | ((with_reducible refine Runs.is ?_); first | refine Runs.region ?_ | ((with_reducible refine Runs.isC ?_); refine Runs.cond rfl (zc ?_) (zc ?_) <;> intro hc <;> (try (first | contradiction | (exfalso; omega; done) | (have : hc = trivial := rfl; clear this; clear hc))))) | ((with_reducible refine r_is ?_); first | refine yr ?_) | fail)
  all_goals ((refine Runs.ret1 Tryz.func202 rfl zM zD ?_; try exact zX))
def PosV (v : Vector) : Prop := v.length ≤ 1000000 ∧ ∀ e ∈ v, 1 ≤ e.count
@[reducible] def ofV : V := .sc (.func (.func 202) #[.bool true] #[])
theorem vector_merge (f : Bool) (v : Vector) (hv : PosV v) : AM.Fn Tryz.prog 201 [.sl f (v.map enV), .sc (.slice none 0 0), ofV] (.sl false (v.map enV)) := by
  have hlen := hv.1
  (refine spec_of_runs Tryz.func201 rfl ?_; simp only [Tryz.f201]; refine ys ?_)
  repeat' (first | refine yw ?_ | ((with_reducible refine Runs.is ?_); first | refine Runs.region (id := 0) ?_ | refine Runs.region (id := 1) ?_ | ((with_reducible refine Runs.isC ?_); refine Runs.cond rfl (zc ?_) (zc ?_) <;> intro hc <;> (try (first | contradiction | (exfalso; omega; done) | (have : hc = trivial := rfl; clear this; clear hc))))) | ((with_reducible refine r_is ?_); first | refine yr ?_) | fail)
  (refine Runs.weaken (St.Le.nil 7 124 2 7 zd rfl rfl zE) ?_)
  refine Runs.loopI (fun i : Nat => v.length - i) (fun i => i ≤ v.length)
    (fun i => ⟨[.sl false ((v.drop i).map enV), .sc (.slice none 0 0), ofV, .any, .any, .any, .any, .own 7, .any, .any, .any, .any, .any, .any, .any, .any, .any, .any, .any, .any, .any, .any, .any, .any, .any, .any, .any, .any, .any, .any, .any, .any, .any, .any, .any, .any, .any, .any, .any, .any, .any, .any, .any, .any, .any, .any, .any, .any, .any, .any, .any, .any, .any, .any, .any, .any, .any, .any, .any, .any, .any, .any, .any, .any, .any, .any, .any, .any, .any, .any, .any, .any, .any, .any, .any, .any, .any, .any, .any, .any, .any, .any, .any, .any, .any, .any, .any, .any, .any, .any, .any, .any, .any, .any, .any, .any, .any, .any, .any, .any, .any, .any, .any, .any, .any], [(7, .lst 124 2 ((v.take i).map enV))]⟩) 0 (Nat.zero_le _) ?_ ?_
  · rw [List.drop_zero, List.take_zero]
    have hle := Le_sl f (v.map enV)
    (refine St.Le.clean zR zU zV)
  intro i hi ih
  by_cases hlt : i < v.length
  · have hp := hv.2 _ (getD_in hlt)
    have hd : v.drop i = v.getD i default :: v.drop (i + 1) := drop_getD hlt
    have htk : v.take (i + 1) = v.take i ++ [v.getD i default] := take_getD hlt
    have hl1 : (v.drop (i + 1)).length = v.length - (i + 1) := List.length_drop
    have hl2 : (v.take i).length = i := by rw [List.length_take]; omega
    have hof := vector_of (v.getD i default).count 0
    rw [if_neg zo] at hof
    generalize v.getD i default = e at *
    generalize hrest : v.drop (i + 1) = rest at *
    rw [hd]
    repeat' (first | refine yw ?_ | ((with_reducible refine Runs.is ?_); first | refine Runs.region (id := 2) ?_ | refine Runs.region (id := 3) ?_ | refine Runs.drawn (id := 6) mixed zK ?_ | refine Runs.drawn (id := 4) mixed zK ?_ | refine Runs.drawn (id := 5) mixed zK ?_ | ((with_reducible refine Runs.isC ?_); refine Runs.cond rfl (zc ?_) (zc ?_) <;> intro hc <;> (try (first | contradiction | (exfalso; omega; done) | (have : hc = trivial := rfl; clear this; clear hc))))) | ((with_reducible refine r_is ?_); first | refine yr ?_ | ((with_reducible refine r_gd ?_); (first | refine r_guardPf rfl rfl ?_ ?_ | refine r_guardNf rfl rfl ?_ ?_ | refine r_guard rfl rfl ?_ ?_) <;> intro hG <;> (try (exfalso; omega; done)) <;> refine r_nn zN zH ?_)) | ((with_reducible refine d_is ?_); first | refine yd ?_ | ((with_reducible refine d_gd ?_); (first | refine d_guardPf rfl rfl ?_ ?_ | refine d_guardNf rfl rfl ?_ ?_ | refine d_guardPt rfl rfl ?_ ?_ | refine d_guardNt rfl rfl ?_ ?_ | refine d_guard rfl rfl ?_ ?_) <;> intro hG <;> (try (exfalso; omega; done)) <;> refine d_nn zN zH ?_)) | fail)
    repeat' (first | refine yw ?_ | ((with_reducible refine Runs.is ?_); first | refine Runs.drawn (id := 7) mixed zK ?_ | ((with_reducible refine Runs.isC ?_); refine Runs.cond rfl (zc ?_) (zc ?_) <;> intro hc <;> (try (first | contradiction | (exfalso; omega; done) | (have : hc = trivial := rfl; clear this; clear hc))))) | ((with_reducible refine d_is ?_); first | refine yd ?_ | (refine d_call ?_; refine CallD.bnd hof hb202 zR zD ?_; refine d_nn zN zH ?_)) | fail)
    repeat' (first | refine yw ?_ | ((with_reducible refine Runs.is ?_); first | refine Runs.region (id := 8) ?_ | ((with_reducible refine Runs.isC ?_); refine Runs.cond rfl (zc ?_) (zc ?_) <;> intro hc <;> (try (first | contradiction | (exfalso; omega; done) | (have : hc = trivial := rfl; clear this; clear hc))))) | ((with_reducible refine r_is ?_); first | refine yr ?_) | fail)
    repeat' (first | refine yw ?_ | ((with_reducible refine Runs.is ?_); first | refine Runs.region (id := 12) ?_ | refine Runs.region (id := 13) ?_ | ((with_reducible refine Runs.isC ?_); refine Runs.cond rfl (zc ?_) (zc ?_) <;> intro hc <;> (try (first | contradiction | (exfalso; omega; done) | (have : hc = trivial := rfl; clear this; clear hc))))) | ((with_reducible refine r_is ?_); first | refine yr ?_ | (refine r_append_full SlF.h SlF.s ZoF.h zd rfl rfl zC zJ zS rfl (fun hn => ?_) (fun hn => ?_) <;> refine r_nn zN zH ?_)) | fail)
    refine ih (i + 1) _ zo zo ?_
    rw [htk, hrest]
    (refine St.Le.clean zR (by first | (simp [V.usesL, V.uses, AM.look_cons]; done) | (simp [V.usesL, V.uses, AM.look_cons, V.usesL_data, V.uses_data, da_i, da_chV, da_ruV, da_prV, da_enV, da_cfV, da_veV, da_inV, da_edV, da_grV, da_weV, da_mbV, da_suV, da_viV]; done)) ?_; (repeat' (first | exact True.intro | refine And.intro ?_ ?_)); all_goals (first | rfl | (simp [AM.look_cons, enV]; done) | (simp [V.uses, V.usesL, AM.look_cons, V.usesL_data, V.uses_data, da_i, da_chV, da_ruV, da_prV, da_enV, da_cfV, da_veV, da_inV, da_edV, da_grV, da_weV, da_mbV, da_suV, da_viV]; done)))
  · rw [List.drop_eq_nil_of_le zo, List.take_of_length_le zo]
    repeat' (first | refine yw ?_ | ((with_reducible refine Runs.is ?_); first | refine Runs.region (id := 2) ?_ | ((with_reducible refine Runs.isC ?_); refine Runs.cond rfl (zc ?_) (zc ?_) <;> intro hc <;> (try (first | contradiction | (exfalso; omega; done) | (have : hc = trivial := rfl; clear this; clear hc))))) | ((with_reducible refine r_is ?_); first | refine yr ?_ | ((with_reducible refine r_gd ?_); (first | refine r_guardPf rfl rfl ?_ ?_ | refine r_guardNf rfl rfl ?_ ?_ | refine r_guard rfl rfl ?_ ?_) <;> intro hG <;> (try (exfalso; omega; done)) <;> refine r_nn zN zH ?_)) | fail)
    repeat' (first | refine yw ?_ | ((with_reducible refine Runs.is ?_); first | refine Runs.region (id := 14) ?_ | ((with_reducible refine Runs.isC ?_); refine Runs.cond rfl (zc ?_) (zc ?_) <;> intro hc <;> (try (first | contradiction | (exfalso; omega; done) | (have : hc = trivial := rfl; clear this; clear hc))))) | ((with_reducible refine r_is ?_); first | refine yr ?_) | fail)
    exact Runs.ret_frz Tryz.func201 rfl rfl rfl (by simp)
theorem vector_Join (f : Bool) (v : Vector) (hv : PosV v) : AM.Fn Tryz.prog 148 [.sl f (v.map enV), .sc (.slice none 0 0)] (.sl false (v.map enV)) := by
  have h := vector_merge f v hv
  (refine spec_of_runs Tryz.func148 rfl ?_; simp only [Tryz.f148]; refine ys ?_)
  repeat' (first | refine yw ?_ | ((with_reducible refine Runs.is ?_); first | refine Runs.region (id := 0) ?_ | ((with_reducible refine Runs.isC ?_); refine Runs.cond rfl (zc ?_) (zc ?_) <;> intro hc <;> (try (first | contradiction | (exfalso; omega; done) | (have : hc = trivial := rfl; clear this; clear hc))))) | ((with_reducible refine r_is ?_); first | refine yr ?_) | fail)
  refine Runs.region ?_
  refine yr ?_
  refine r_v rfl (v_makeFuncB [.bool true] rfl ?_)
  refine r_n zN ?_
  repeat' (first | refine yw ?_ | ((with_reducible refine Runs.is ?_); first | refine Runs.region (id := 1) ?_ | ((with_reducible refine Runs.isC ?_); refine Runs.cond rfl (zc ?_) (zc ?_) <;> intro hc <;> (try (first | contradiction | (exfalso; omega; done) | (have : hc = trivial := rfl; clear this; clear hc))))) | ((with_reducible refine r_is ?_); first | refine yr ?_ | (refine r_fn rfl (h) HbF.h zL3 zD ?_; refine r_nn zN zH ?_)) | fail)
  (refine Runs.ret1 Tryz.func148 rfl zM zD ?_; try exact zX)
theorem Runs.retC2 {P : Program} {f : FuncId} {k : List Item} {s : St} {fn : Func} {r : V} {c i : Tmp} {ty tt : TypeId} {ag : Bool} {n id : Nat} {v u : V} (hf : P.funcs[f]? = some fn) (hr : fn.results.toList = [.cell c ty, .tmp i]) (hu : s.slots.getD c .any = .ptr id 0 0)
    (hl : AM.look s.heap id = some (.var tt v)) (ht : tyv P ty = some (ag, n)) (hn : n ≤ v.cells.length ∧ 0 < n) (hs : v.sub ag 0 n = v) (hi : s.slots.getD i .any = u) (hd : r.data = true) (h : V.Le (.tup [v, u]) r) : AM.Runs P f (fun r' H' => r' = r ∧ H' = []) (.code .ret :: k) s := by
  refine Runs.ret_fn hf ?_
  rw [hr]
  show valK P (.load ty (.tmp c)) (ev s.slots) s.heap _
  refine v_load_ptr ht hu hl ?_ ?_ (.inl hn.2) ?_
  · exact Nat.one_pos
  · rw [Nat.zero_add]; exact hn.1
  · rw [show (Obj.elem (.var tt v) 0).sub ag 0 n = v from hs]
    show V.Le (.tup [v, s.slots.getD i .any]) r ∧ _
    rw [hi]
    exact ⟨h, hd⟩
def fetchM (server source : Int) (fr to : Config) (hv : Vector) : Message := ⟨4, server, source, ⟨0, 0⟩, 0, 0, ⟨fr, to⟩, ⟨[], []⟩, false, ⟨[], []⟩, [], [], hv, false⟩
theorem transfer_fetch (f g h : Bool) (s q : Int) (fr to : Config) (hv : Vector) (hc : SmallC ⟨fr, to⟩) (hp : PosV hv) : AM.Fn Tryz.prog 80 [.i s, .i q, .sl f (fr.map prV), .sl g (to.map prV), .sl h (hv.map enV)] (msV (fetchM s q fr to hv)) := by
  have h1 : AM.Fn Tryz.prog 89 [.agg [.sl f (fr.map prV), .sl g (to.map prV)]] (ceV ⟨fr, to⟩) := Spec.args (transfer_copyCert ⟨fr, to⟩ hc) (.cons (.aggL (.cons (Le_sl f _) (.cons (Le_sl g _) .nil))) .nil) (by simp [V.dataL, da_ceV])
  have h2 := vector_Join h hv hp
  (refine spec_of_runs Tryz.func80 rfl ?_; simp only [Tryz.f80]; refine ys ?_)
  repeat' (first | refine yw ?_ | ((with_reducible refine Runs.is ?_); first | refine Runs.region ?_ | ((with_reducible refine Runs.isC ?_); refine Runs.cond rfl (zc ?_) (zc ?_) <;> intro hc <;> (try (first | contradiction | (exfalso; omega; done) | (have : hc = trivial := rfl; clear this; clear hc))))) | ((with_reducible refine r_is ?_); first | refine yr ?_ | (refine r_fn rfl (h1) HbF.h zL1 zD ?_; refine r_nn zN zH ?_) | (refine r_fn rfl (h2) HbF.h zL2 zD ?_; refine r_nn zN zH ?_)) | fail)
  (refine Runs.retC Tryz.func80 rfl zM rfl TyF.h (And.intro zE zd) zD ?_; try exact zX)
theorem transfer_servers (f : Bool) (l : List Source) (fl : Bool) (hl : l.length ≤ 1000000) : AM.Fn Tryz.prog 104 [.sl f (l.map soV), .b fl] (.sl false ((chosenR l fl).map .i)) := by
  (refine spec_of_runs Tryz.func104 rfl ?_; simp only [Tryz.f104]; refine ys ?_)
  repeat' (first | refine yw ?_ | ((with_reducible refine Runs.is ?_); first | refine Runs.region (id := 0) ?_ | refine Runs.region (id := 1) ?_ | refine Runs.region (id := 2) ?_ | ((with_reducible refine Runs.isC ?_); refine Runs.cond rfl (zc ?_) (zc ?_) <;> intro hc <;> (try (first | contradiction | (exfalso; omega; done) | (have : hc = trivial := rfl; clear this; clear hc))))) | ((with_reducible refine r_is ?_); first | refine yr ?_) | fail)
  (refine Runs.weaken (St.Le.nil 5 3 1 5 zd rfl rfl zE) ?_)
  refine Runs.loopI (fun k : Nat => l.length - k) (fun k => k ≤ l.length)
    (fun k => ⟨[.any, .b fl, .any, .any, .any, .own 5, .any, .any, .sl f (l.map soV), .i (l.length : Nat), .i (k : Nat), .any, .any, .any, .any, .any, .any, .any, .any, .any, .any, .any, .any, .any, .any, .any, .any], [(5, .lst 3 1 ((chosenR (l.take k) fl).map .i))]⟩) 0 (Nat.zero_le _) ?_ ?_
  · rw [show chosenR (l.take 0) fl = [] from rfl]
    (refine St.Le.clean zR zU zV)
  intro k hk ih
  have hlen : (chosenR (l.take k) fl).length ≤ k := by
    unfold chosenR
    rw [List.length_map]
    exact Nat.le_trans (List.length_filter_le _ _) (by rw [List.length_take]; omega)
  have hst : k < l.length → chosenR (l.take (k + 1)) fl = chosenR (l.take k) fl ++ (if (!fl || (l.getD k default).filled) = true then [(l.getD k default).server] else []) := fun h => by
    unfold chosenR
    rw [take_getD h, List.filter_append, List.map_append]
    congr 1
    simp only [List.filter_cons, List.filter_nil]
    split <;> rfl
  have hend : l.length ≤ k → chosenR (l.take k) fl = chosenR l fl := fun h => by rw [List.take_of_length_le h]
  generalize chosenR (l.take k) fl = acc at *
  by_cases hlt : k < l.length
  · have hst2 := hst hlt
    cases fl
    · rw [show (!false || (l.getD k default).filled) = true from rfl, if_pos rfl] at hst2
      repeat' (first | refine yw ?_ | ((with_reducible refine Runs.is ?_); first | refine Runs.region (id := 3) ?_ | refine Runs.region (id := 4) ?_ | refine Runs.region (id := 5) ?_ | refine Runs.region (id := 6) ?_ | refine Runs.region (id := 7) ?_ | ((with_reducible refine Runs.isC ?_); refine Runs.cond rfl (zc ?_) (zc ?_) <;> intro hc <;> (try (first | contradiction | (exfalso; omega; done) | (have : hc = trivial := rfl; clear this; clear hc))))) | ((with_reducible refine r_is ?_); first | refine yr ?_ | (refine r_append_full SlF.h SlF.s ZoF.h zd rfl rfl zC zJ zS rfl (fun hn => ?_) (fun hn => ?_) <;> refine r_nn zN zH ?_) | ((with_reducible refine r_gd ?_); (first | refine r_guardPf rfl rfl ?_ ?_ | refine r_guardNf rfl rfl ?_ ?_ | refine r_guard rfl rfl ?_ ?_) <;> intro hG <;> (try (exfalso; omega; done)) <;> refine r_nn zN zH ?_)) | fail)
      all_goals
        refine ih (k + 1) _ zo zo ?_
        rw [hst2]
        (refine St.Le.clean zR zU zV)
    · rw [show (!true || (l.getD k default).filled) = (l.getD k default).filled from rfl] at hst2
      repeat' (first | refine yw ?_ | ((with_reducible refine Runs.is ?_); first | refine Runs.region (id := 3) ?_ | refine Runs.region (id := 4) ?_ | refine Runs.region (id := 5) ?_ | refine Runs.region (id := 6) ?_ | refine Runs.region (id := 7) ?_ | ((with_reducible refine Runs.isC ?_); refine Runs.cond rfl (zc ?_) (zc ?_) <;> intro hc <;> (try (first | contradiction | (exfalso; omega; done) | (have : hc = trivial := rfl; clear this; clear hc))))) | ((with_reducible refine r_is ?_); first | refine yr ?_ | (refine r_append_full SlF.h SlF.s ZoF.h zd rfl rfl zC zJ zS rfl (fun hn => ?_) (fun hn => ?_) <;> refine r_nn zN zH ?_) | ((with_reducible refine r_gd ?_); (first | refine r_guardPf rfl rfl ?_ ?_ | refine r_guardNf rfl rfl ?_ ?_ | refine r_guard rfl rfl ?_ ?_) <;> intro hG <;> (try (exfalso; omega; done)) <;> refine r_nn zN zH ?_)) | fail)
      all_goals first
        | (rw [if_pos (by first | assumption | simpa using hG)] at hst2
           refine ih (k + 1) _ zo zo ?_
           rw [hst2]
           (refine St.Le.clean zR zU zV)
           done)
        | (rw [if_neg (by rw [hG]; decide), List.append_nil] at hst2
           refine ih (k + 1) _ zo zo ?_
           rw [hst2]
           (refine St.Le.clean zR zU zV)
           done)
  · have he := hend zo
    subst he
    repeat' (first | refine yw ?_ | ((with_reducible refine Runs.is ?_); first | refine Runs.region (id := 3) ?_ | ((with_reducible refine Runs.isC ?_); refine Runs.cond rfl (zc ?_) (zc ?_) <;> intro hc <;> (try (first | contradiction | (exfalso; omega; done) | (have : hc = trivial := rfl; clear this; clear hc))))) | ((with_reducible refine r_is ?_); first | refine yr ?_) | fail)
    repeat' (first | refine yw ?_ | ((with_reducible refine Runs.is ?_); first | refine Runs.region (id := 8) ?_ | ((with_reducible refine Runs.isC ?_); refine Runs.cond rfl (zc ?_) (zc ?_) <;> intro hc <;> (try (first | contradiction | (exfalso; omega; done) | (have : hc = trivial := rfl; clear this; clear hc))))) | ((with_reducible refine r_is ?_); first | refine yr ?_) | fail)
    exact Runs.ret_frz Tryz.func104 rfl rfl rfl (by simp)
theorem transfer_view (f : Bool) (g : View) (c : Config) (hg : g.members.length ≤ 1000) (hc : c.length ≤ 100) (hp : ∀ p ∈ c, Plain p) : AM.Fn Tryz.prog 103 [viV g, .sl f (c.map prV)] (viV (viewOf g c)) := by
  have hsh := sumS_short hg c (fun p h => (hp p h).1)
  have hS := member_Summarize f g c hg hc hp
  have hV := member_View (sumS g c) (by have := hsh.1; omega) (by have := hsh.2.2; omega)
  unfold viewOf
  generalize sumS g c = s at *
  generalize viewS s = v at *
  (refine spec_of_runs Tryz.func103 rfl ?_; simp only [Tryz.f103]; refine ys ?_)
  repeat' (first | refine yw ?_ | ((with_reducible refine Runs.is ?_); first | refine Runs.region ?_ | ((with_reducible refine Runs.isC ?_); refine Runs.cond rfl (zc ?_) (zc ?_) <;> intro hc <;> (try (first | contradiction | (exfalso; omega; done) | (have : hc = trivial := rfl; clear this; clear hc))))) | ((with_reducible refine r_is ?_); first | refine yr ?_ | (refine r_fn rfl (hS) HbF.h zL2 zD ?_; refine r_nn zN zH ?_) | (refine r_fn rfl (hV) HbF.h zL1 zD ?_; refine r_nn zN zH ?_)) | fail)
  (refine Runs.retC Tryz.func103 rfl zM rfl TyF.h (And.intro zE zd) zD ?_; try exact zX)
end Go.Proofs
namespace Go.Proofs
open Go.AM
attribute [local irreducible] AM.evalR AM.evalD AM.Runs AM.valK AM.dK AM.opK AM.stepR AM.CallS AM.St.Le
def fetchL (server : Int) (fr to : Config) (hv : Vector) (sp : List Int) : List Message := sp.map fun x => fetchM server x fr to hv
theorem transfer_Begin (f h q : Bool) (g : View) (s : Int) (fr to : Config) (hv : Vector) (sp : List Int) (hS : AM.Fn Tryz.prog 79 [viV g, .sl f (fr.map prV), .sl h (to.map prV)] (.sl false (sp.map .i))) (hc : SmallC ⟨fr, to⟩) (hp : PosV hv) (hn : sp.length ≤ 1000000) :
    AM.Fn Tryz.prog 20 [viV g, .i s, .sl f (fr.map prV), .sl h (to.map prV), .sl q (hv.map enV)] (.tup [.agg [.b true, .sl false (fr.map prV), .sl false (to.map prV), .sc (.slice none 0 0)], .sl false ((fetchL s fr to hv sp).map msV)]) := by
  have hU1 := config_Union_nil f fr hc.1
  have hU2 := config_Union_nil h to hc.2
  (refine spec_of_runs Tryz.func20 rfl ?_; simp only [Tryz.f20]; refine ys ?_)
  repeat' (first | refine yw ?_ | ((with_reducible refine Runs.is ?_); first | refine Runs.region (id := 0) ?_ | refine Runs.region (id := 1) ?_ | refine Runs.region (id := 2) ?_ | ((with_reducible refine Runs.isC ?_); refine Runs.cond rfl (zc ?_) (zc ?_) <;> intro hc <;> (try (first | contradiction | (exfalso; omega; done) | (have : hc = trivial := rfl; clear this; clear hc))))) | ((with_reducible refine r_is ?_); first | refine yr ?_ | (refine r_fn rfl (hS) HbF.h zL3 zD ?_; refine r_nn zN zH ?_)) | fail)
  (refine Runs.weaken (St.Le.nil 12 60 18 12 zd rfl rfl zE) ?_)
  refine Runs.loopI (fun k : Nat => sp.length - k) (fun k => k ≤ sp.length)
    (fun k => ⟨[.any, .i s, .sl f (fr.map prV), .sl h (to.map prV), .sl q (hv.map enV), .any, .any, .any, .any, .any, .ptr 10 0 0, .any, .own 12, .any, .any, .any, .any, .any, .sl false (sp.map .i), .i (sp.length : Nat), .i (k : Nat), .any, .any, .any, .any, .any, .any, .any, .any, .any, .any, .any, .any, .any, .any, .any, .any, .any, .any, .any], [(12, .lst 60 18 ((fetchL s fr to hv (sp.take k)).map msV)), (10, .var 39 (.agg [.b false, .sc (.slice none 0 0), .sc (.slice none 0 0), .sc (.slice none 0 0)]))]⟩) 0 (Nat.zero_le _) ?_ ?_
  · (refine St.Le.clean zR zU zV)
  intro k hk ih
  have hlen : (fetchL s fr to hv (sp.take k)).length ≤ k := by unfold fetchL; rw [List.length_map, List.length_take]; omega
  have hst : k < sp.length → fetchL s fr to hv (sp.take (k + 1)) = fetchL s fr to hv (sp.take k) ++ [fetchM s (sp.getD k default) fr to hv] := fun h => by
    unfold fetchL
    rw [take_getD h, List.map_append]; rfl
  have hend : sp.length ≤ k → fetchL s fr to hv (sp.take k) = fetchL s fr to hv sp := fun h => by rw [List.take_of_length_le h]
  generalize fetchL s fr to hv (sp.take k) = acc at *
  by_cases hlt : k < sp.length
  · have hst2 := hst hlt
    have hF := transfer_fetch f h q s (sp.getD k default) fr to hv hc hp
    generalize fetchM s (sp.getD k default) fr to hv = m at *
    repeat' (first | refine yw ?_ | ((with_reducible refine Runs.is ?_); first | refine Runs.region (id := 3) ?_ | refine Runs.region (id := 4) ?_ | refine Runs.region (id := 5) ?_ | refine Runs.region (id := 6) ?_ | ((with_reducible refine Runs.isC ?_); refine Runs.cond rfl (zc ?_) (zc ?_) <;> intro hc <;> (try (first | contradiction | (exfalso; omega; done) | (have : hc = trivial := rfl; clear this; clear hc))))) | ((with_reducible refine r_is ?_); first | refine yr ?_ | (refine r_fn rfl (hF) HbF.h zL5 zD ?_; refine r_nn zN zH ?_) | (refine r_append_full SlF.h SlF.s ZoF.h zd rfl rfl zC zJ zS rfl (fun hn => ?_) (fun hn => ?_) <;> refine r_nn zN zH ?_)) | fail)
    refine ih (k + 1) _ zo zo ?_
    rw [hst2]
    (refine St.Le.clean zR zU zV)
  · have he := hend zo
    subst he
    repeat' (first | refine yw ?_ | ((with_reducible refine Runs.is ?_); first | refine Runs.region (id := 3) ?_ | ((with_reducible refine Runs.isC ?_); refine Runs.cond rfl (zc ?_) (zc ?_) <;> intro hc <;> (try (first | contradiction | (exfalso; omega; done) | (have : hc = trivial := rfl; clear this; clear hc))))) | ((with_reducible refine r_is ?_); first | refine yr ?_) | fail)
    (refine Runs.weaken (St.Le.freeze_lst 12 rfl) ?_; refine yf ?_)
    repeat' (first | refine yw ?_ | ((with_reducible refine Runs.is ?_); first | refine Runs.region (id := 7) ?_ | ((with_reducible refine Runs.isC ?_); refine Runs.cond rfl (zc ?_) (zc ?_) <;> intro hc <;> (try (first | contradiction | (exfalso; omega; done) | (have : hc = trivial := rfl; clear this; clear hc))))) | ((with_reducible refine r_is ?_); first | refine yr ?_ | (refine r_fn rfl (hU1) HbF.h zL2 zD ?_; refine r_nn zN zH ?_) | (refine r_fn rfl (hU2) HbF.h zL2 zD ?_; refine r_nn zN zH ?_)) | fail)
    exact Runs.retC2 (id := 10) Tryz.func20 rfl rfl rfl TyF.h ⟨Nat.le_refl 4, by decide⟩ rfl rfl zD (V.Le.refl _)
def jokB (g : View) (fr to : Config) (done : List Source) (c : Config) : Bool := (!eqvB c fr && eqvB c to) || quoB (viewOf g c) ((viewOf g c).members.map (inSrv (chosenR done (eqvB c fr))))
def jobB (g : View) (j : Job) (l : List Config) : Bool := j.active && containsB j.to j.«from» && l.all (jokB g j.«from» j.to j.done)
theorem transfer_Complete (g : View) (j : Job) (l : List Config) (hA : AM.Fn Tryz.prog 100 [.sl false (j.«from».map prV), .sl false (j.to.map prV)] (.sl false (l.map cfV))) (hF : Fair g l) (hk : j.done.length ≤ 1000000) :
    AM.Fn Tryz.prog 40 [viV g, joV j] (.b (jobB g j l)) := by
  have hC := config_Contains false false j.to j.«from»
  unfold jobB
  have hJ : ∀ c, jokB g j.«from» j.to j.done c = ((!eqvB c j.«from» && eqvB c j.to) || quoB (viewOf g c) ((viewOf g c).members.map (inSrv (chosenR j.done (eqvB c j.«from»))))) := fun c => rfl
  have hgl := hF.gl
  have hn := hF.n
  generalize jokB g j.«from» j.to j.done = k at *
  cases ha : j.active
  · rw [Bool.false_and, Bool.false_and]
    (refine spec_of_runs Tryz.func40 rfl ?_; simp only [Tryz.f40]; refine ys ?_)
    repeat' (first | refine yw ?_ | ((with_reducible refine Runs.is ?_); first | refine Runs.region (id := 0) ?_ | refine Runs.region (id := 1) ?_ | refine Runs.region (id := 2) ?_ | ((with_reducible refine Runs.isC ?_); refine Runs.cond rfl (zc ?_) (zc ?_) <;> intro hc <;> (try (first | contradiction | (exfalso; omega; done) | (have : hc = trivial := rfl; clear this; clear hc))))) | ((with_reducible refine r_is ?_); first | refine yr ?_ | ((with_reducible refine r_gd ?_); (first | refine r_guardPf rfl rfl ?_ ?_ | refine r_guardNf rfl rfl ?_ ?_ | refine r_guard rfl rfl ?_ ?_) <;> intro hG <;> (try (exfalso; omega; done)) <;> refine r_nn zN zH ?_)) | fail)
    all_goals first
      | (exfalso; rw [ha] at *; simp_all; done)
      | ((refine Runs.ret1 Tryz.func40 rfl zM zD ?_; try exact zX))
  rw [Bool.true_and]
  cases hcc : containsB j.to j.«from»
  · rw [hcc] at hC
    rw [Bool.false_and]
    (refine spec_of_runs Tryz.func40 rfl ?_; simp only [Tryz.f40]; refine ys ?_)
    repeat' (first | refine yw ?_ | ((with_reducible refine Runs.is ?_); first | refine Runs.region (id := 0) ?_ | refine Runs.region (id := 1) ?_ | refine Runs.region (id := 2) ?_ | ((with_reducible refine Runs.isC ?_); refine Runs.cond rfl (zc ?_) (zc ?_) <;> intro hc <;> (try (first | contradiction | (exfalso; omega; done) | (have : hc = trivial := rfl; clear this; clear hc))))) | ((with_reducible refine r_is ?_); first | refine yr ?_ | (refine r_fn rfl (hC) HbF.h zL2 zD ?_; refine r_nn zN zH ?_) | ((with_reducible refine r_gd ?_); (first | refine r_guardPf rfl rfl ?_ ?_ | refine r_guardNf rfl rfl ?_ ?_ | refine r_guard rfl rfl ?_ ?_) <;> intro hG <;> (try (exfalso; omega; done)) <;> refine r_nn zN zH ?_)) | fail)
    all_goals first
      | (exfalso; rw [ha] at *; simp_all; done)
      | ((refine Runs.ret1 Tryz.func40 rfl zM zD ?_; try exact zX))
  rw [hcc] at hC
  rw [Bool.true_and]
  (refine spec_of_runs Tryz.func40 rfl ?_; simp only [Tryz.f40]; refine ys ?_)
  repeat' (first | refine yw ?_ | ((with_reducible refine Runs.is ?_); first | refine Runs.region (id := 0) ?_ | refine Runs.region (id := 1) ?_ | refine Runs.region (id := 2) ?_ | refine Runs.region (id := 3) ?_ | ((with_reducible refine Runs.isC ?_); refine Runs.cond rfl (zc ?_) (zc ?_) <;> intro hc <;> (try (first | contradiction | (exfalso; omega; done) | (have : hc = trivial := rfl; clear this; clear hc))))) | ((with_reducible refine r_is ?_); first | refine yr ?_ | (refine r_fn rfl (hC) HbF.h zL2 zD ?_; refine r_nn zN zH ?_) | (refine r_fn rfl (hA) HbF.h zL2 zD ?_; refine r_nn zN zH ?_) | ((with_reducible refine r_gd ?_); (first | refine r_guardPf rfl rfl ?_ ?_ | refine r_guardNf rfl rfl ?_ ?_ | refine r_guard rfl rfl ?_ ?_) <;> intro hG <;> (try (exfalso; omega; done)) <;> refine r_nn zN zH ?_)) | fail)
  all_goals (try (exfalso; rw [ha] at *; simp_all; done))
  refine Runs.loopI (fun i : Nat => l.length - i) (fun i => i ≤ l.length ∧ (l.drop i).all k = l.all k)
    (fun i => ⟨[.any, .any, .ptr 2 0 0, .ptr 3 0 0, .any, .any, .any, .any, .any, .any, .any, .any, .any, .any, .any, .any, .any, .any, .any, .any, .any, .any, .any, .sl false (l.map cfV), .i (l.length : Nat), .i (i : Nat), .any, .any, .any, .any, .any, .any, .any, .any, .any, .any, .any, .any, .any, .any, .any, .any, .any, .any, .any, .any, .any, .any, .any, .any, .any], [(3, .var 39 (joV j)), (2, .var 26 (viV g))]⟩) 0 ⟨Nat.zero_le _, rfl⟩ ?_ ?_
  · (refine St.Le.clean zR zU zV)
  rintro i ⟨hi, hall⟩ ih
  by_cases hlt : i < l.length
  · rw [drop_getD hlt, List.all_cons] at hall
    have hc0 := getD_in hlt
    have hE1 := config_Equal false false (l.getD i default) j.«from»
    have hE2 := config_Equal false false (l.getD i default) j.to
    change AM.Fn _ _ _ (.b (eqvB (l.getD i default) j.«from»)) at hE1
    change AM.Fn _ _ _ (.b (eqvB (l.getD i default) j.to)) at hE2
    have hV := transfer_view false g (l.getD i default) hgl (hF.c _ hc0).1 (hF.c _ hc0).2
    have hS := transfer_servers false j.done (eqvB (l.getD i default) j.«from») hk
    have hQ := quo_IsQuorum false (viewOf g (l.getD i default)) (chosenR j.done (eqvB (l.getD i default) j.«from»)) (hF.v _ hc0).1 (hF.v _ hc0).2
    rw [hJ] at hall
    generalize quoB (viewOf g (l.getD i default)) ((viewOf g (l.getD i default)).members.map (inSrv (chosenR j.done (eqvB (l.getD i default) j.«from»)))) = ok at *
    generalize chosenR j.done (eqvB (l.getD i default) j.«from») = ss at *
    generalize viewOf g (l.getD i default) = v at *
    generalize eqvB (l.getD i default) j.«from» = b1 at *
    generalize eqvB (l.getD i default) j.to = b2 at *
    cases b1 <;> cases b2 <;> cases ok
    all_goals
      repeat' (first | refine yw ?_ | ((with_reducible refine Runs.is ?_); first | refine Runs.region (id := 4) ?_ | refine Runs.region (id := 5) ?_ | refine Runs.region (id := 6) ?_ | refine Runs.region (id := 7) ?_ | refine Runs.drawn (id := 8) mixed zK ?_ | refine Runs.region (id := 9) ?_ | refine Runs.region (id := 10) ?_ | ((with_reducible refine Runs.isC ?_); refine Runs.cond rfl (zc ?_) (zc ?_) <;> intro hc <;> (try (first | contradiction | (exfalso; omega; done) | (have : hc = trivial := rfl; clear this; clear hc))))) | ((with_reducible refine r_is ?_); first | refine yr ?_ | (refine r_fn rfl (hE1) HbF.h zL2 zD ?_; refine r_nn zN zH ?_) | (refine r_fn rfl (hE2) HbF.h zL2 zD ?_; refine r_nn zN zH ?_) | ((with_reducible refine r_gd ?_); (first | refine r_guardPt rfl rfl ?_ ?_ | refine r_guardNt rfl rfl ?_ ?_ | refine r_guard rfl rfl ?_ ?_) <;> intro hG <;> (try (exfalso; omega; done)) <;> refine r_nn zN zH ?_)) | ((with_reducible refine d_is ?_); first | refine yd ?_ | (refine d_fn rfl (hV) HbF.h zL2 zD ?_; refine d_nn zN zH ?_) | (refine d_fn rfl (hS) HbF.h zL2 zD ?_; refine d_nn zN zH ?_) | (refine d_fn rfl (hQ) HbF.h zL2 zD ?_; refine d_nn zN zH ?_)) | fail)
      first
        | (refine ih (i + 1) _ ⟨by omega, by rw [← hall]; rfl⟩ zo ?_
           (refine St.Le.clean zR zU zV)
           done)
        | (rw [← hall]
           (refine Runs.ret1 Tryz.func40 rfl zM zD ?_; try exact zX)
           done)
  · rw [List.drop_eq_nil_of_le zo] at hall
    rw [← hall]
    repeat' (first | refine yw ?_ | ((with_reducible refine Runs.is ?_); first | refine Runs.region (id := 4) ?_ | ((with_reducible refine Runs.isC ?_); refine Runs.cond rfl (zc ?_) (zc ?_) <;> intro hc <;> (try (first | contradiction | (exfalso; omega; done) | (have : hc = trivial := rfl; clear this; clear hc))))) | ((with_reducible refine r_is ?_); first | refine yr ?_) | fail)
    repeat' (first | refine yw ?_ | ((with_reducible refine Runs.is ?_); first | refine Runs.region (id := 11) ?_ | ((with_reducible refine Runs.isC ?_); refine Runs.cond rfl (zc ?_) (zc ?_) <;> intro hc <;> (try (first | contradiction | (exfalso; omega; done) | (have : hc = trivial := rfl; clear this; clear hc))))) | ((with_reducible refine r_is ?_); first | refine yr ?_) | fail)
    (refine Runs.ret1 Tryz.func40 rfl zM zD ?_; try exact zX)
end Go.Proofs
namespace Go.Proofs
open Go.AM
attribute [local irreducible] AM.evalR AM.evalD AM.Runs AM.valK AM.dK AM.opK AM.stepR AM.CallS AM.St.Le
section
variable {α : Type} {A R : List α} {X z : α} {a m : Nat}
theorem rep1 (hA : A.length = a) : (List.replicate (a + 1 + m) z).take 0 ++ (A.take a ++ (List.replicate (a + 1 + m) z).drop (0 + a)) = A ++ List.replicate (1 + m) z := by
  rw [List.take_zero, List.nil_append, List.take_of_length_le zo, Nat.zero_add, List.drop_replicate, show a + 1 + m - a = 1 + m by omega]
theorem rep0 {d : α} (hA : A.length = a) : (A ++ List.replicate (1 + m) z).getD a d = z := by
  rw [List.getD_eq_getElem?_getD, List.getElem?_append_right zo, show a - A.length = 0 by omega, Nat.add_comm 1 m, List.replicate_succ]; rfl
theorem rep2 (hA : A.length = a) : (A ++ List.replicate (1 + m) z).set a X = A ++ X :: List.replicate m z := by
  rw [List.set_append_right _ _ zo, show a - A.length = 0 by omega, Nat.add_comm 1 m, List.replicate_succ]; rfl
theorem rep3 (hA : A.length = a) (hR : R.length = m) {o : Nat} (ho : o = a + 1 ∨ (m = 0 ∧ o = 0)) : (A ++ X :: List.replicate m z).take o ++ (R.take m ++ (A ++ X :: List.replicate m z).drop (o + m)) = A ++ X :: R := by
  rcases ho with rfl | ⟨rfl, rfl⟩
  · have e : A ++ X :: List.replicate m z = (A ++ [X]) ++ List.replicate m z := by simp
    rw [e, List.take_left' (by simp; omega), List.take_of_length_le zo, List.drop_append, List.drop_of_length_le (by simp; omega)]
    simp [hA, show a + 1 + m - (a + 1) = m by omega]
  · obtain rfl := List.eq_nil_of_length_eq_zero hR
    simp
end
def atK (l : List Source) (x : Int) : Nat → Nat
  | 0 => 0
  | k + 1 => if (l.getD k default).server < x then k + 1 else atK l x k
theorem atK_le (l : List Source) (x : Int) : ∀ k, atK l x k ≤ k
  | 0 => Nat.le_refl _
  | k + 1 => by
    unfold atK
    have := atK_le l x k
    split <;> omega
def restS (r : List Source) (x : Int) : List Source := if 0 < r.length ∧ (r.getD 0 default).server = x then r.drop 1 else r
def repS (l : List Source) (s : Source) : List Source := l.take (atK l s.server l.length) ++ s :: restS (l.drop (atK l s.server l.length)) s.server
theorem transfer_Reported (j : Job) (x : Int) (fl : Bool) (hc : SmallC ⟨j.«from», j.to⟩) (hl : j.done.length ≤ 1000000) : AM.Fn Tryz.prog 34 [joV j, .i x, .b fl] (joV ⟨j.active, j.«from», j.to, repS j.done ⟨x, fl⟩⟩) := by
  have hU1 := config_Union_nil false j.«from» hc.1
  have hU2 := config_Union_nil false j.to hc.2
  obtain ⟨ac, fr, to, l⟩ := j
  dsimp only at *
  (refine spec_of_runs Tryz.func34 rfl ?_; simp only [Tryz.f34]; refine ys ?_)
  repeat' (first | refine yw ?_ | ((with_reducible refine Runs.is ?_); first | refine Runs.region (id := 0) ?_ | refine Runs.region (id := 1) ?_ | refine Runs.region (id := 2) ?_ | ((with_reducible refine Runs.isC ?_); refine Runs.cond rfl (zc ?_) (zc ?_) <;> intro hc <;> (try (first | contradiction | (exfalso; omega; done) | (have : hc = trivial := rfl; clear this; clear hc))))) | ((with_reducible refine r_is ?_); first | refine yr ?_) | fail)
  refine Runs.loopI (fun k : Nat => l.length - k) (fun k => k ≤ l.length)
    (fun k => ⟨[.any, .i x, .b fl, .ptr 3 0 0, .any, .any, .ptr 6 0 0, .i (atK l x k : Nat), .any, .any, .any, .any, .any, .i (l.length : Nat), .i (k : Nat), .any, .any, .any, .any, .any, .any, .any, .any, .any, .any, .any, .any, .any, .any, .any, .any, .any, .any, .any, .any, .any, .any, .any, .any, .any, .any, .any, .any, .any, .any, .any, .any, .any, .any, .any, .any, .any, .any, .any, .any, .any, .any, .any, .any, .any, .any, .any, .any, .any, .any, .any, .any, .any, .any, .any, .any, .any, .any, .any, .any, .any, .any, .any, .any], [(6, .var 39 (.agg [.b false, .sc (.slice none 0 0), .sc (.slice none 0 0), .sc (.slice none 0 0)])), (3, .var 39 (joV ⟨ac, fr, to, l⟩))]⟩) 0 (Nat.zero_le _) ?_ ?_
  · (refine St.Le.clean zR zU zV)
  intro k hk ih
  have hst : atK l x (k + 1) = if (l.getD k default).server < x then k + 1 else atK l x k := rfl
  have hal := atK_le l x k
  have hend : l.length ≤ k → atK l x k = atK l x l.length := fun h => by rw [show k = l.length by omega]
  by_cases hlt : k < l.length
  · generalize atK l x k = a at *
    repeat' (first | refine yw ?_ | ((with_reducible refine Runs.is ?_); first | refine Runs.region (id := 3) ?_ | refine Runs.region (id := 4) ?_ | refine Runs.region (id := 5) ?_ | refine Runs.region (id := 6) ?_ | refine Runs.region (id := 7) ?_ | ((with_reducible refine Runs.isC ?_); refine Runs.cond rfl (zc ?_) (zc ?_) <;> intro hc <;> (try (first | contradiction | (exfalso; omega; done) | (have : hc = trivial := rfl; clear this; clear hc))))) | ((with_reducible refine r_is ?_); first | refine yr ?_) | fail)
    · rw [if_pos (by assumption)] at hst
      refine ih (k + 1) _ zo zo ?_
      rw [hst]
      (refine St.Le.clean zR zU zV)
    · rw [if_neg zo] at hst
      refine ih (k + 1) _ zo zo ?_
      rw [hst]
      (refine St.Le.clean zR zU zV)
  · have he := hend zo
    unfold repS
    dsimp only
    rw [← he]
    clear hst ih hend he
    generalize atK l x k = a at *
    have hrs : (l.drop a).length = l.length - a := List.length_drop
    have hrdef : restS (l.drop a) x = if 0 < (l.drop a).length ∧ ((l.drop a).getD 0 default).server = x then (l.drop a).drop 1 else l.drop a := rfl
    have htl : (l.take a).length = a := by rw [List.length_take]; omega
    have hmt : (l.map soV).take a = (l.take a).map soV := List.map_take.symm
    have hmd : (l.map soV).drop a = (l.drop a).map soV := List.map_drop.symm
    repeat' (first | refine yw ?_ | ((with_reducible refine Runs.is ?_); first | refine Runs.region (id := 3) ?_ | ((with_reducible refine Runs.isC ?_); refine Runs.cond rfl (zc ?_) (zc ?_) <;> intro hc <;> (try (first | contradiction | (exfalso; omega; done) | (have : hc = trivial := rfl; clear this; clear hc))))) | ((with_reducible refine r_is ?_); first | refine yr ?_) | fail)
    repeat' (first | refine yw ?_ | ((with_reducible refine Runs.is ?_); first | refine Runs.region (id := 8) ?_ | ((with_reducible refine Runs.isC ?_); refine Runs.cond rfl (zc ?_) (zc ?_) <;> intro hc <;> (try (first | contradiction | (exfalso; omega; done) | (have : hc = trivial := rfl; clear this; clear hc))))) | ((with_reducible refine r_is ?_); first | refine yr ?_) | fail)
    rw [Int.toNat_natCast, hmd]
    generalize l.drop a = r at *
    by_cases hh : 0 < r.length ∧ (r.getD 0 default).server = x
    · rw [if_pos hh] at hrdef
      rw [hrdef]
      obtain ⟨h0, hs0⟩ := hh
      have hR : (r.map soV).drop 1 = (r.drop 1).map soV := List.map_drop.symm
      have hRl : (r.drop 1).length = r.length - 1 := List.length_drop
      repeat' (first | refine yw ?_ | ((with_reducible refine Runs.is ?_); first | refine Runs.region (id := 9) ?_ | refine Runs.region (id := 10) ?_ | ((with_reducible refine Runs.isC ?_); refine Runs.cond rfl (zc ?_) (zc ?_) <;> intro hc <;> (try (first | contradiction | (exfalso; omega; done) | (have : hc = trivial := rfl; clear this; clear hc))))) | ((with_reducible refine r_is ?_); first | refine yr ?_ | ((with_reducible refine r_gd ?_); (first | refine r_guardPt rfl rfl ?_ ?_ | refine r_guardNt rfl rfl ?_ ?_ | refine r_guard rfl rfl ?_ ?_) <;> intro hG <;> (try (exfalso; omega; done)) <;> refine r_nn zN zH ?_)) | fail)
      rw [hR]
      generalize r.drop 1 = R at *
      have hRl2 : R.length ≤ 1000000 := by omega
      have hAl : ((l.take a).map soV).length = a := by rw [List.length_map, htl]
      have hRm : (R.map soV).length = R.length := List.length_map _
      have hzz : (V.agg [.i 0, .b false]) = soV ⟨0, false⟩ := rfl
      refine Runs.region ?_
      (refine r_v rfl (v_move ?_); all_goals (refine r_n zN ?_); (first | refine r_v rfl (v_add64 rfl rfl zo ?_) | refine r_v rfl (v_add rfl rfl ?_)); all_goals (refine r_n zN ?_); refine r_v rfl (v_move ?_); all_goals (refine r_n zN ?_); (first | refine r_v rfl (v_len_map (by rw [sl37]; rfl) rfl ?_) | refine r_v rfl (v_len_sl (by rw [sl37]; rfl) rfl ?_) | refine r_v rfl (v_len_own_map (by rw [sl37]; rfl) rfl rfl ?_) | refine r_v rfl (v_len_own (by rw [sl37]; rfl) rfl rfl ?_) | refine r_v rfl (v_len_vw (by rw [sl37]; rfl) rfl ?_) | refine r_v rfl (v_len_nil (by rw [sl37]; rfl) rfl ?_)); all_goals (refine r_nn zN zH ?_); (first | refine r_v rfl (v_add64 rfl rfl zo ?_) | refine r_v rfl (v_add rfl rfl ?_)); all_goals (refine r_n zN ?_))
      refine r_makeR (n := ((a + 1 + R.length : Nat) : Int)) SlF.h (congrArg (fun q => V.sc (.int .i64 q)) zo) (congrArg (fun q => V.sc (.int .i64 q)) zo) ZvF.h ⟨by omega, by omega, by omega, by decide⟩ ⟨rfl, rfl⟩ rfl ?_
      refine r_nn zN zH ?_
      rw [Int.toNat_natCast]
      repeat' (first | refine yw ?_ | ((with_reducible refine Runs.is ?_); first | refine Runs.region (id := 11) ?_ | refine Runs.region (id := 12) ?_ | ((with_reducible refine Runs.isC ?_); refine Runs.cond rfl (zc ?_) (zc ?_) <;> intro hc <;> (try (first | contradiction | (exfalso; omega; done) | (have : hc = trivial := rfl; clear this; clear hc))))) | ((with_reducible refine r_is ?_); first | refine yr ?_ | (refine r_copyA SlF.h SlF.s rfl rfl rfl zC (by simp) ?_; refine r_nn zN zH ?_)) | fail)
      rw [Int.toNat_natCast, hmt]
      refine r_copyVS (n := a) SlF.h SlF.s rfl rfl rfl (by simp) (sd_soV _) (by rw [hAl]; omega) (fun v hv => st_soV _ v (List.mem_of_mem_take hv)) (rep1 hAl) ?_
      refine r_nn zN zH ?_
      repeat' (first | refine yw ?_ | ((with_reducible refine Runs.is ?_); first | refine Runs.region (id := 12) ?_ | ((with_reducible refine Runs.isC ?_); refine Runs.cond rfl (zc ?_) (zc ?_) <;> intro hc <;> (try (first | contradiction | (exfalso; omega; done) | (have : hc = trivial := rfl; clear this; clear hc))))) | ((with_reducible refine r_is ?_); first | refine yr ?_ | (refine r_copyA SlF.h SlF.s rfl rfl rfl zC (by simp) ?_; refine r_nn zN zH ?_)) | fail)
      refine Runs.region ?_
      (refine r_v rfl (v_move ?_); all_goals (refine r_n zN ?_); refine r_v rfl (v_move ?_); all_goals (refine r_n zN ?_); refine r_v rfl (v_move ?_); all_goals (refine r_n zN ?_); refine r_v rfl (v_move ?_); all_goals (refine r_n zN ?_); refine r_v rfl (v_build pl68 zv68 rfl rfl ?_); all_goals (refine r_n zN ?_))
      refine r_v rfl (v_indexAddr_vw SlF.h rfl rfl rfl ⟨by omega, by omega⟩ ?_)
      rw [Int.toNat_natCast, Nat.zero_add]
      refine r_n zN ?_
      refine r_storeRow (i := a) TyF.h rfl rfl rfl (by simp; omega) ⟨by rw [rep0 hAl]; rfl, by decide, rfl, rfl, rfl⟩ (by rw [rep0 hAl]; rfl) (rep2 hAl) ?_
      refine r_nn zN zH ?_
      repeat' (first | refine yw ?_ | ((with_reducible refine Runs.is ?_); first | refine Runs.region (id := 13) ?_ | ((with_reducible refine Runs.isC ?_); refine Runs.cond rfl (zc ?_) (zc ?_) <;> intro hc <;> (try (first | contradiction | (exfalso; omega; done) | (have : hc = trivial := rfl; clear this; clear hc))))) | ((with_reducible refine r_is ?_); first | refine yr ?_) | fail)
      refine Runs.region ?_
      (refine r_v rfl (v_move ?_); all_goals (refine r_n zN ?_); refine r_v rfl (v_move ?_); all_goals (refine r_n zN ?_); (first | refine r_v rfl (v_add64 rfl rfl zo ?_) | refine r_v rfl (v_add rfl rfl ?_)); all_goals (refine r_n zN ?_))
      refine r_v rfl (v_slice_vlo (l := ((a + 1 : Nat) : Int)) SlF.h rfl rfl (congrArg (fun q => V.sc (.int .i64 q)) zo) ⟨by omega, by omega⟩ ?_)
      rw [Int.toNat_natCast]
      obtain ⟨o, ho⟩ : ∃ o, (if a + 1 + R.length = a + 1 then 0 else 0 + (a + 1)) = o := ⟨_, rfl⟩
      have ho2 : o = a + 1 ∨ (R.length = 0 ∧ o = 0) := by rw [← ho]; split <;> omega
      rw [ho, show a + 1 + R.length - (a + 1) = R.length by omega]
      refine r_n zN ?_
      (refine r_v rfl (v_move ?_); all_goals (refine r_n zN ?_))
      refine r_copyVS (n := R.length) SlF.h SlF.s rfl rfl rfl (by simp; omega) (sd_soV _) (by rw [hRm]; omega) (fun v hv => st_soV _ v (List.mem_of_mem_take hv)) (rep3 hAl hRm ho2) ?_
      refine r_nn zN zH ?_
      repeat' (first | refine yw ?_ | ((with_reducible refine Runs.is ?_); first | refine Runs.region (id := 14) ?_ | ((with_reducible refine Runs.isC ?_); refine Runs.cond rfl (zc ?_) (zc ?_) <;> intro hc <;> (try (first | contradiction | (exfalso; omega; done) | (have : hc = trivial := rfl; clear this; clear hc))))) | ((with_reducible refine r_is ?_); first | refine yr ?_ | (refine r_copyA SlF.h SlF.s rfl rfl rfl zC (by simp) ?_; refine r_nn zN zH ?_)) | fail)
      refine Runs.weaken (St.Le.shutRow 50 10 (n := a + 1 + R.length) rfl (by simp; omega) rfl (Nat.le_of_ble_eq_true rfl)) ?_
      refine Runs.weaken (St.Le.clean (s' := ⟨[.any, .any, .any, .ptr 3 0 0, .any, .any, .ptr 6 0 0, .any, .any, .any, .own 50, .any, .any, .any, .any, .any, .any, .any, .any, .any, .any, .any, .any, .any, .any, .any, .any, .any, .any, .any, .any, .any, .any, .any, .any, .any, .any, .any, .any, .any, .any, .any, .any, .any, .any, .any, .any, .any, .any, .any, .any, .any, .any, .any, .any, .any, .any, .any, .any, .any, .any, .any, .any, .any, .any, .any, .any, .any, .any, .any, .any, .any, .any, .any, .any, .any, .any, .any, .any], [(50, .lst 68 2 ((l.take a).map soV ++ soV ⟨x, fl⟩ :: R.map soV)), (6, .var 39 (.agg [.b false, .sc (.slice none 0 0), .sc (.slice none 0 0), .sc (.slice none 0 0)])), (3, .var 39 (joV ⟨ac, fr, to, l⟩))]⟩) zR (by simp [V.usesL, V.uses, AM.look_cons]) (by repeat' (first | exact True.intro | refine And.intro ?_ ?_ | rfl))) ?_
      have hfin : (l.take a).map soV ++ soV ⟨x, fl⟩ :: R.map soV = (l.take a ++ ⟨x, fl⟩ :: R).map soV := by simp
      rw [hfin]
      generalize l.take a ++ ⟨x, fl⟩ :: R = out at *
      (refine Runs.weaken (St.Le.freeze_lst 50 rfl) ?_; refine yf ?_)
      repeat' (first | refine yw ?_ | ((with_reducible refine Runs.is ?_); first | refine Runs.drawn (id := 15) mixed zK ?_ | ((with_reducible refine Runs.isC ?_); refine Runs.cond rfl (zc ?_) (zc ?_) <;> intro hc <;> (try (first | contradiction | (exfalso; omega; done) | (have : hc = trivial := rfl; clear this; clear hc))))) | ((with_reducible refine d_is ?_); first | refine yd ?_ | (refine d_fn rfl (hU1) HbF.h zL2 zD ?_; refine d_nn zN zH ?_) | (refine d_fn rfl (hU2) HbF.h zL2 zD ?_; refine d_nn zN zH ?_)) | fail)
      (refine Runs.retC Tryz.func34 rfl zM rfl TyF.h (And.intro zE zd) zD ?_; try exact zX)
    · rw [if_neg hh] at hrdef
      rw [hrdef]
      have hh2 : 0 < r.length → ¬ (r.getD 0 default).server = x := fun h e => hh ⟨h, e⟩
      by_cases h0 : 0 < r.length
      · have hs0 := hh2 h0
        repeat' (first | refine yw ?_ | ((with_reducible refine Runs.is ?_); first | refine Runs.region (id := 9) ?_ | refine Runs.region (id := 10) ?_ | ((with_reducible refine Runs.isC ?_); refine Runs.cond rfl (zc ?_) (zc ?_) <;> intro hc <;> (try (first | contradiction | (exfalso; omega; done) | (have : hc = trivial := rfl; clear this; clear hc))))) | ((with_reducible refine r_is ?_); first | refine yr ?_ | ((with_reducible refine r_gd ?_); (first | refine r_guardPt rfl rfl ?_ ?_ | refine r_guardNt rfl rfl ?_ ?_ | refine r_guard rfl rfl ?_ ?_) <;> intro hG <;> (try (exfalso; omega; done)) <;> refine r_nn zN zH ?_)) | fail)
        generalize r = R at *
        have hRl2 : R.length ≤ 1000000 := by omega
        have hAl : ((l.take a).map soV).length = a := by rw [List.length_map, htl]
        have hRm : (R.map soV).length = R.length := List.length_map _
        have hzz : (V.agg [.i 0, .b false]) = soV ⟨0, false⟩ := rfl
        refine Runs.region ?_
        (refine r_v rfl (v_move ?_); all_goals (refine r_n zN ?_); (first | refine r_v rfl (v_add64 rfl rfl zo ?_) | refine r_v rfl (v_add rfl rfl ?_)); all_goals (refine r_n zN ?_); refine r_v rfl (v_move ?_); all_goals (refine r_n zN ?_); (first | refine r_v rfl (v_len_map (by rw [sl37]; rfl) rfl ?_) | refine r_v rfl (v_len_sl (by rw [sl37]; rfl) rfl ?_) | refine r_v rfl (v_len_own_map (by rw [sl37]; rfl) rfl rfl ?_) | refine r_v rfl (v_len_own (by rw [sl37]; rfl) rfl rfl ?_) | refine r_v rfl (v_len_vw (by rw [sl37]; rfl) rfl ?_) | refine r_v rfl (v_len_nil (by rw [sl37]; rfl) rfl ?_)); all_goals (refine r_nn zN zH ?_); (first | refine r_v rfl (v_add64 rfl rfl zo ?_) | refine r_v rfl (v_add rfl rfl ?_)); all_goals (refine r_n zN ?_))
        refine r_makeR (n := ((a + 1 + R.length : Nat) : Int)) SlF.h (congrArg (fun q => V.sc (.int .i64 q)) zo) (congrArg (fun q => V.sc (.int .i64 q)) zo) ZvF.h ⟨by omega, by omega, by omega, by decide⟩ ⟨rfl, rfl⟩ rfl ?_
        refine r_nn zN zH ?_
        rw [Int.toNat_natCast]
        repeat' (first | refine yw ?_ | ((with_reducible refine Runs.is ?_); first | refine Runs.region (id := 11) ?_ | refine Runs.region (id := 12) ?_ | ((with_reducible refine Runs.isC ?_); refine Runs.cond rfl (zc ?_) (zc ?_) <;> intro hc <;> (try (first | contradiction | (exfalso; omega; done) | (have : hc = trivial := rfl; clear this; clear hc))))) | ((with_reducible refine r_is ?_); first | refine yr ?_ | (refine r_copyA SlF.h SlF.s rfl rfl rfl zC (by simp) ?_; refine r_nn zN zH ?_)) | fail)
        rw [Int.toNat_natCast, hmt]
        refine r_copyVS (n := a) SlF.h SlF.s rfl rfl rfl (by simp) (sd_soV _) (by rw [hAl]; omega) (fun v hv => st_soV _ v (List.mem_of_mem_take hv)) (rep1 hAl) ?_
        refine r_nn zN zH ?_
        repeat' (first | refine yw ?_ | ((with_reducible refine Runs.is ?_); first | refine Runs.region (id := 12) ?_ | ((with_reducible refine Runs.isC ?_); refine Runs.cond rfl (zc ?_) (zc ?_) <;> intro hc <;> (try (first | contradiction | (exfalso; omega; done) | (have : hc = trivial := rfl; clear this; clear hc))))) | ((with_reducible refine r_is ?_); first | refine yr ?_ | (refine r_copyA SlF.h SlF.s rfl rfl rfl zC (by simp) ?_; refine r_nn zN zH ?_)) | fail)
        refine Runs.region ?_
        (refine r_v rfl (v_move ?_); all_goals (refine r_n zN ?_); refine r_v rfl (v_move ?_); all_goals (refine r_n zN ?_); refine r_v rfl (v_move ?_); all_goals (refine r_n zN ?_); refine r_v rfl (v_move ?_); all_goals (refine r_n zN ?_); refine r_v rfl (v_build pl68 zv68 rfl rfl ?_); all_goals (refine r_n zN ?_))
        refine r_v rfl (v_indexAddr_vw SlF.h rfl rfl rfl ⟨by omega, by omega⟩ ?_)
        rw [Int.toNat_natCast, Nat.zero_add]
        refine r_n zN ?_
        refine r_storeRow (i := a) TyF.h rfl rfl rfl (by simp; omega) ⟨by rw [rep0 hAl]; rfl, by decide, rfl, rfl, rfl⟩ (by rw [rep0 hAl]; rfl) (rep2 hAl) ?_
        refine r_nn zN zH ?_
        repeat' (first | refine yw ?_ | ((with_reducible refine Runs.is ?_); first | refine Runs.region (id := 13) ?_ | ((with_reducible refine Runs.isC ?_); refine Runs.cond rfl (zc ?_) (zc ?_) <;> intro hc <;> (try (first | contradiction | (exfalso; omega; done) | (have : hc = trivial := rfl; clear this; clear hc))))) | ((with_reducible refine r_is ?_); first | refine yr ?_) | fail)
        refine Runs.region ?_
        (refine r_v rfl (v_move ?_); all_goals (refine r_n zN ?_); refine r_v rfl (v_move ?_); all_goals (refine r_n zN ?_); (first | refine r_v rfl (v_add64 rfl rfl zo ?_) | refine r_v rfl (v_add rfl rfl ?_)); all_goals (refine r_n zN ?_))
        refine r_v rfl (v_slice_vlo (l := ((a + 1 : Nat) : Int)) SlF.h rfl rfl (congrArg (fun q => V.sc (.int .i64 q)) zo) ⟨by omega, by omega⟩ ?_)
        rw [Int.toNat_natCast]
        obtain ⟨o, ho⟩ : ∃ o, (if a + 1 + R.length = a + 1 then 0 else 0 + (a + 1)) = o := ⟨_, rfl⟩
        have ho2 : o = a + 1 ∨ (R.length = 0 ∧ o = 0) := by rw [← ho]; split <;> omega
        rw [ho, show a + 1 + R.length - (a + 1) = R.length by omega]
        refine r_n zN ?_
        (refine r_v rfl (v_move ?_); all_goals (refine r_n zN ?_))
        refine r_copyVS (n := R.length) SlF.h SlF.s rfl rfl rfl (by simp; omega) (sd_soV _) (by rw [hRm]; omega) (fun v hv => st_soV _ v (List.mem_of_mem_take hv)) (rep3 hAl hRm ho2) ?_
        refine r_nn zN zH ?_
        repeat' (first | refine yw ?_ | ((with_reducible refine Runs.is ?_); first | refine Runs.region (id := 14) ?_ | ((with_reducible refine Runs.isC ?_); refine Runs.cond rfl (zc ?_) (zc ?_) <;> intro hc <;> (try (first | contradiction | (exfalso; omega; done) | (have : hc = trivial := rfl; clear this; clear hc))))) | ((with_reducible refine r_is ?_); first | refine yr ?_ | (refine r_copyA SlF.h SlF.s rfl rfl rfl zC (by simp) ?_; refine r_nn zN zH ?_)) | fail)
        refine Runs.weaken (St.Le.shutRow 50 10 (n := a + 1 + R.length) rfl (by simp; omega) rfl (Nat.le_of_ble_eq_true rfl)) ?_
        refine Runs.weaken (St.Le.clean (s' := ⟨[.any, .any, .any, .ptr 3 0 0, .any, .any, .ptr 6 0 0, .any, .any, .any, .own 50, .any, .any, .any, .any, .any, .any, .any, .any, .any, .any, .any, .any, .any, .any, .any, .any, .any, .any, .any, .any, .any, .any, .any, .any, .any, .any, .any, .any, .any, .any, .any, .any, .any, .any, .any, .any, .any, .any, .any, .any, .any, .any, .any, .any, .any, .any, .any, .any, .any, .any, .any, .any, .any, .any, .any, .any, .any, .any, .any, .any, .any, .any, .any, .any, .any, .any, .any, .any], [(50, .lst 68 2 ((l.take a).map soV ++ soV ⟨x, fl⟩ :: R.map soV)), (6, .var 39 (.agg [.b false, .sc (.slice none 0 0), .sc (.slice none 0 0), .sc (.slice none 0 0)])), (3, .var 39 (joV ⟨ac, fr, to, l⟩))]⟩) zR (by simp [V.usesL, V.uses, AM.look_cons]) (by repeat' (first | exact True.intro | refine And.intro ?_ ?_ | rfl))) ?_
        have hfin : (l.take a).map soV ++ soV ⟨x, fl⟩ :: R.map soV = (l.take a ++ ⟨x, fl⟩ :: R).map soV := by simp
        rw [hfin]
        generalize l.take a ++ ⟨x, fl⟩ :: R = out at *
        (refine Runs.weaken (St.Le.freeze_lst 50 rfl) ?_; refine yf ?_)
        repeat' (first | refine yw ?_ | ((with_reducible refine Runs.is ?_); first | refine Runs.drawn (id := 15) mixed zK ?_ | ((with_reducible refine Runs.isC ?_); refine Runs.cond rfl (zc ?_) (zc ?_) <;> intro hc <;> (try (first | contradiction | (exfalso; omega; done) | (have : hc = trivial := rfl; clear this; clear hc))))) | ((with_reducible refine d_is ?_); first | refine yd ?_ | (refine d_fn rfl (hU1) HbF.h zL2 zD ?_; refine d_nn zN zH ?_) | (refine d_fn rfl (hU2) HbF.h zL2 zD ?_; refine d_nn zN zH ?_)) | fail)
        (refine Runs.retC Tryz.func34 rfl zM rfl TyF.h (And.intro zE zd) zD ?_; try exact zX)
      · repeat' (first | refine yw ?_ | ((with_reducible refine Runs.is ?_); first | refine Runs.region (id := 9) ?_ | refine Runs.region (id := 10) ?_ | ((with_reducible refine Runs.isC ?_); refine Runs.cond rfl (zc ?_) (zc ?_) <;> intro hc <;> (try (first | contradiction | (exfalso; omega; done) | (have : hc = trivial := rfl; clear this; clear hc))))) | ((with_reducible refine r_is ?_); first | refine yr ?_ | ((with_reducible refine r_gd ?_); (first | refine r_guardPt rfl rfl ?_ ?_ | refine r_guardNt rfl rfl ?_ ?_ | refine r_guard rfl rfl ?_ ?_) <;> intro hG <;> (try (exfalso; omega; done)) <;> refine r_nn zN zH ?_)) | fail)
        generalize r = R at *
        have hRl2 : R.length ≤ 1000000 := by omega
        have hAl : ((l.take a).map soV).length = a := by rw [List.length_map, htl]
        have hRm : (R.map soV).length = R.length := List.length_map _
        have hzz : (V.agg [.i 0, .b false]) = soV ⟨0, false⟩ := rfl
        refine Runs.region ?_
        (refine r_v rfl (v_move ?_); all_goals (refine r_n zN ?_); (first | refine r_v rfl (v_add64 rfl rfl zo ?_) | refine r_v rfl (v_add rfl rfl ?_)); all_goals (refine r_n zN ?_); refine r_v rfl (v_move ?_); all_goals (refine r_n zN ?_); (first | refine r_v rfl (v_len_map (by rw [sl37]; rfl) rfl ?_) | refine r_v rfl (v_len_sl (by rw [sl37]; rfl) rfl ?_) | refine r_v rfl (v_len_own_map (by rw [sl37]; rfl) rfl rfl ?_) | refine r_v rfl (v_len_own (by rw [sl37]; rfl) rfl rfl ?_) | refine r_v rfl (v_len_vw (by rw [sl37]; rfl) rfl ?_) | refine r_v rfl (v_len_nil (by rw [sl37]; rfl) rfl ?_)); all_goals (refine r_nn zN zH ?_); (first | refine r_v rfl (v_add64 rfl rfl zo ?_) | refine r_v rfl (v_add rfl rfl ?_)); all_goals (refine r_n zN ?_))
        refine r_makeR (n := ((a + 1 + R.length : Nat) : Int)) SlF.h (congrArg (fun q => V.sc (.int .i64 q)) zo) (congrArg (fun q => V.sc (.int .i64 q)) zo) ZvF.h ⟨by omega, by omega, by omega, by decide⟩ ⟨rfl, rfl⟩ rfl ?_
        refine r_nn zN zH ?_
        rw [Int.toNat_natCast]
        repeat' (first | refine yw ?_ | ((with_reducible refine Runs.is ?_); first | refine Runs.region (id := 11) ?_ | refine Runs.region (id := 12) ?_ | ((with_reducible refine Runs.isC ?_); refine Runs.cond rfl (zc ?_) (zc ?_) <;> intro hc <;> (try (first | contradiction | (exfalso; omega; done) | (have : hc = trivial := rfl; clear this; clear hc))))) | ((with_reducible refine r_is ?_); first | refine yr ?_ | (refine r_copyA SlF.h SlF.s rfl rfl rfl zC (by simp) ?_; refine r_nn zN zH ?_)) | fail)
        rw [Int.toNat_natCast, hmt]
        refine r_copyVS (n := a) SlF.h SlF.s rfl rfl rfl (by simp) (sd_soV _) (by rw [hAl]; omega) (fun v hv => st_soV _ v (List.mem_of_mem_take hv)) (rep1 hAl) ?_
        refine r_nn zN zH ?_
        repeat' (first | refine yw ?_ | ((with_reducible refine Runs.is ?_); first | refine Runs.region (id := 12) ?_ | ((with_reducible refine Runs.isC ?_); refine Runs.cond rfl (zc ?_) (zc ?_) <;> intro hc <;> (try (first | contradiction | (exfalso; omega; done) | (have : hc = trivial := rfl; clear this; clear hc))))) | ((with_reducible refine r_is ?_); first | refine yr ?_ | (refine r_copyA SlF.h SlF.s rfl rfl rfl zC (by simp) ?_; refine r_nn zN zH ?_)) | fail)
        refine Runs.region ?_
        (refine r_v rfl (v_move ?_); all_goals (refine r_n zN ?_); refine r_v rfl (v_move ?_); all_goals (refine r_n zN ?_); refine r_v rfl (v_move ?_); all_goals (refine r_n zN ?_); refine r_v rfl (v_move ?_); all_goals (refine r_n zN ?_); refine r_v rfl (v_build pl68 zv68 rfl rfl ?_); all_goals (refine r_n zN ?_))
        refine r_v rfl (v_indexAddr_vw SlF.h rfl rfl rfl ⟨by omega, by omega⟩ ?_)
        rw [Int.toNat_natCast, Nat.zero_add]
        refine r_n zN ?_
        refine r_storeRow (i := a) TyF.h rfl rfl rfl (by simp; omega) ⟨by rw [rep0 hAl]; rfl, by decide, rfl, rfl, rfl⟩ (by rw [rep0 hAl]; rfl) (rep2 hAl) ?_
        refine r_nn zN zH ?_
        repeat' (first | refine yw ?_ | ((with_reducible refine Runs.is ?_); first | refine Runs.region (id := 13) ?_ | ((with_reducible refine Runs.isC ?_); refine Runs.cond rfl (zc ?_) (zc ?_) <;> intro hc <;> (try (first | contradiction | (exfalso; omega; done) | (have : hc = trivial := rfl; clear this; clear hc))))) | ((with_reducible refine r_is ?_); first | refine yr ?_) | fail)
        refine Runs.region ?_
        (refine r_v rfl (v_move ?_); all_goals (refine r_n zN ?_); refine r_v rfl (v_move ?_); all_goals (refine r_n zN ?_); (first | refine r_v rfl (v_add64 rfl rfl zo ?_) | refine r_v rfl (v_add rfl rfl ?_)); all_goals (refine r_n zN ?_))
        refine r_v rfl (v_slice_vlo (l := ((a + 1 : Nat) : Int)) SlF.h rfl rfl (congrArg (fun q => V.sc (.int .i64 q)) zo) ⟨by omega, by omega⟩ ?_)
        rw [Int.toNat_natCast]
        obtain ⟨o, ho⟩ : ∃ o, (if a + 1 + R.length = a + 1 then 0 else 0 + (a + 1)) = o := ⟨_, rfl⟩
        have ho2 : o = a + 1 ∨ (R.length = 0 ∧ o = 0) := by rw [← ho]; split <;> omega
        rw [ho, show a + 1 + R.length - (a + 1) = R.length by omega]
        refine r_n zN ?_
        (refine r_v rfl (v_move ?_); all_goals (refine r_n zN ?_))
        refine r_copyVS (n := R.length) SlF.h SlF.s rfl rfl rfl (by simp; omega) (sd_soV _) (by rw [hRm]; omega) (fun v hv => st_soV _ v (List.mem_of_mem_take hv)) (rep3 hAl hRm ho2) ?_
        refine r_nn zN zH ?_
        repeat' (first | refine yw ?_ | ((with_reducible refine Runs.is ?_); first | refine Runs.region (id := 14) ?_ | ((with_reducible refine Runs.isC ?_); refine Runs.cond rfl (zc ?_) (zc ?_) <;> intro hc <;> (try (first | contradiction | (exfalso; omega; done) | (have : hc = trivial := rfl; clear this; clear hc))))) | ((with_reducible refine r_is ?_); first | refine yr ?_ | (refine r_copyA SlF.h SlF.s rfl rfl rfl zC (by simp) ?_; refine r_nn zN zH ?_)) | fail)
        refine Runs.weaken (St.Le.shutRow 50 10 (n := a + 1 + R.length) rfl (by simp; omega) rfl (Nat.le_of_ble_eq_true rfl)) ?_
        refine Runs.weaken (St.Le.clean (s' := ⟨[.any, .any, .any, .ptr 3 0 0, .any, .any, .ptr 6 0 0, .any, .any, .any, .own 50, .any, .any, .any, .any, .any, .any, .any, .any, .any, .any, .any, .any, .any, .any, .any, .any, .any, .any, .any, .any, .any, .any, .any, .any, .any, .any, .any, .any, .any, .any, .any, .any, .any, .any, .any, .any, .any, .any, .any, .any, .any, .any, .any, .any, .any, .any, .any, .any, .any, .any, .any, .any, .any, .any, .any, .any, .any, .any, .any, .any, .any, .any, .any, .any, .any, .any, .any, .any], [(50, .lst 68 2 ((l.take a).map soV ++ soV ⟨x, fl⟩ :: R.map soV)), (6, .var 39 (.agg [.b false, .sc (.slice none 0 0), .sc (.slice none 0 0), .sc (.slice none 0 0)])), (3, .var 39 (joV ⟨ac, fr, to, l⟩))]⟩) zR (by simp [V.usesL, V.uses, AM.look_cons]) (by repeat' (first | exact True.intro | refine And.intro ?_ ?_ | rfl))) ?_
        have hfin : (l.take a).map soV ++ soV ⟨x, fl⟩ :: R.map soV = (l.take a ++ ⟨x, fl⟩ :: R).map soV := by simp
        rw [hfin]
        generalize l.take a ++ ⟨x, fl⟩ :: R = out at *
        (refine Runs.weaken (St.Le.freeze_lst 50 rfl) ?_; refine yf ?_)
        repeat' (first | refine yw ?_ | ((with_reducible refine Runs.is ?_); first | refine Runs.drawn (id := 15) mixed zK ?_ | ((with_reducible refine Runs.isC ?_); refine Runs.cond rfl (zc ?_) (zc ?_) <;> intro hc <;> (try (first | contradiction | (exfalso; omega; done) | (have : hc = trivial := rfl; clear this; clear hc))))) | ((with_reducible refine d_is ?_); first | refine yd ?_ | (refine d_fn rfl (hU1) HbF.h zL2 zD ?_; refine d_nn zN zH ?_) | (refine d_fn rfl (hU2) HbF.h zL2 zD ?_; refine d_nn zN zH ?_)) | fail)
        (refine Runs.retC Tryz.func34 rfl zM rfl TyF.h (And.intro zE zd) zD ?_; try exact zX)
end Go.Proofs
namespace Go.Proofs
open Go.AM
attribute [local irreducible] AM.evalR AM.evalD AM.Runs AM.valK AM.dK AM.opK AM.stepR AM.CallS AM.St.Le
def idxG {α : Type} (k : α → Bool) : List α → Nat → Int
  | [], _ => -1
  | x :: xs, i => if k x then (i : Int) else idxG k xs (i + 1)
theorem idxG_any {α : Type} (k : α → Bool) (l : List α) (i : Nat) : decide (0 ≤ idxG k l i) = l.any k := by
  induction l generalizing i with
  | nil => simp [idxG]
  | cons x xs ih =>
    unfold idxG
    rw [List.any_cons]
    cases h : k x
    · simpa using ih (i + 1)
    · simp
theorem idxG_bd {α : Type} (k : α → Bool) (l : List α) (i : Nat) : -1 ≤ idxG k l i ∧ idxG k l i < i + l.length := by
  induction l generalizing i with
  | nil => simp [idxG]; omega
  | cons x xs ih =>
    unfold idxG
    have := ih (i + 1)
    rw [List.length_cons]
    split <;> omega
theorem indexFunc_so (f : Bool) (l : List Source) (fn : FuncId) (caps : List V) (k : Source → Bool) (hg : ∀ n, AM.Fn Tryz.prog fn (soV n :: caps) (.b (k n))) (hb : hasBody Tryz.prog fn) (hd : V.dataL caps = true) :
    AM.Fn Tryz.prog 142 [.sl f (l.map soV), .fn fn caps] (.i (idxG k l 0)) := by
  (refine spec_of_runs Tryz.func142 rfl ?_; simp only [Tryz.f142]; refine ys ?_)
  (refine Runs.lens 0 ?_; refine yl ?_)
  intro hl
  repeat' (first | refine yw ?_ | ((with_reducible refine Runs.is ?_); first | refine Runs.region (id := 0) ?_ | refine Runs.region (id := 1) ?_ | ((with_reducible refine Runs.isC ?_); refine Runs.cond rfl (zc ?_) (zc ?_) <;> intro hc <;> (try (first | contradiction | (exfalso; omega; done) | (have : hc = trivial := rfl; clear this; clear hc))))) | ((with_reducible refine r_is ?_); first | refine yr ?_) | fail)
  refine Runs.loopI (fun i : Nat => l.length - i) (fun i => i ≤ l.length ∧ idxG k (l.drop i) i = idxG k l 0)
    (fun i => ⟨[.sl f (l.map soV), .fn fn caps, .any, .any, .any, .any, .any, .i (l.length : Nat), .i (i : Nat), .any, .any, .any, .any, .any, .any, .any, .any, .any, .any], []⟩) 0 (by simp) ?_ ?_
  · refine St.Le.clean zR (by simp [V.usesL, V.uses, V.usesL_data _ _ hd]) trivial
  rintro i ⟨h0, h1⟩ ih
  by_cases hi : i < l.length
  · rw [drop_getD hi, idxG] at h1
    repeat' (first | refine yw ?_ | ((with_reducible refine Runs.is ?_); first | refine Runs.region (id := 2) ?_ | refine Runs.region (id := 3) ?_ | refine Runs.region (id := 4) ?_ | refine Runs.region (id := 5) ?_ | refine Runs.region (id := 6) ?_ | ((with_reducible refine Runs.isC ?_); refine Runs.cond rfl (zc ?_) (zc ?_) <;> intro hc <;> (try (first | contradiction | (exfalso; omega; done) | (have : hc = trivial := rfl; clear this; clear hc))))) | ((with_reducible refine r_is ?_); first | refine yr ?_ | (refine r_fn rfl (hg _) (hb) zL1 zD ?_; refine r_nn zN zH ?_)) | fail)
    · (refine Runs.ret1 Tryz.func142 rfl zM zD ?_; try exact zX)
      rw [← h1, if_pos hc]; exact V.Le.refl _
    · refine ih (i + 1) _ ⟨by omega, by rw [← h1, hc]; rfl⟩ zo ?_
      refine St.Le.clean zR (by simp [V.usesL, V.uses, V.usesL_data _ _ hd]) trivial
  · repeat' (first | refine yw ?_ | ((with_reducible refine Runs.is ?_); first | refine Runs.region (id := 2) ?_ | ((with_reducible refine Runs.isC ?_); refine Runs.cond rfl (zc ?_) (zc ?_) <;> intro hc <;> (try (first | contradiction | (exfalso; omega; done) | (have : hc = trivial := rfl; clear this; clear hc))))) | ((with_reducible refine r_is ?_); first | refine yr ?_) | fail)
    repeat' (first | refine yw ?_ | ((with_reducible refine Runs.is ?_); first | refine Runs.region (id := 7) ?_ | ((with_reducible refine Runs.isC ?_); refine Runs.cond rfl (zc ?_) (zc ?_) <;> intro hc <;> (try (first | contradiction | (exfalso; omega; done) | (have : hc = trivial := rfl; clear this; clear hc))))) | ((with_reducible refine r_is ?_); first | refine yr ?_) | fail)
    (refine Runs.ret1 Tryz.func142 rfl zM zD ?_; try exact zX)
    rw [← h1, List.drop_eq_nil_of_le zo]; exact V.Le.refl _
theorem indexFunc_mb (f : Bool) (l : List Member) (fn : FuncId) (caps : List V) (k : Member → Bool) (hg : ∀ n, AM.Fn Tryz.prog fn (mbV n :: caps) (.b (k n))) (hb : hasBody Tryz.prog fn) (hd : V.dataL caps = true) :
    AM.Fn Tryz.prog 197 [.sl f (l.map mbV), .fn fn caps] (.i (idxG k l 0)) := by
  (refine spec_of_runs Tryz.func197 rfl ?_; simp only [Tryz.f197]; refine ys ?_)
  (refine Runs.lens 0 ?_; refine yl ?_)
  intro hl
  repeat' (first | refine yw ?_ | ((with_reducible refine Runs.is ?_); first | refine Runs.region (id := 0) ?_ | refine Runs.region (id := 1) ?_ | ((with_reducible refine Runs.isC ?_); refine Runs.cond rfl (zc ?_) (zc ?_) <;> intro hc <;> (try (first | contradiction | (exfalso; omega; done) | (have : hc = trivial := rfl; clear this; clear hc))))) | ((with_reducible refine r_is ?_); first | refine yr ?_) | fail)
  refine Runs.loopI (fun i : Nat => l.length - i) (fun i => i ≤ l.length ∧ idxG k (l.drop i) i = idxG k l 0)
    (fun i => ⟨[.sl f (l.map mbV), .fn fn caps, .any, .any, .any, .any, .any, .i (l.length : Nat), .i (i : Nat), .any, .any, .any, .any, .any, .any, .any, .any, .any, .any], []⟩) 0 (by simp) ?_ ?_
  · refine St.Le.clean zR (by simp [V.usesL, V.uses, V.usesL_data _ _ hd]) trivial
  rintro i ⟨h0, h1⟩ ih
  by_cases hi : i < l.length
  · rw [drop_getD hi, idxG] at h1
    repeat' (first | refine yw ?_ | ((with_reducible refine Runs.is ?_); first | refine Runs.region (id := 2) ?_ | refine Runs.region (id := 3) ?_ | refine Runs.region (id := 4) ?_ | refine Runs.region (id := 5) ?_ | refine Runs.region (id := 6) ?_ | ((with_reducible refine Runs.isC ?_); refine Runs.cond rfl (zc ?_) (zc ?_) <;> intro hc <;> (try (first | contradiction | (exfalso; omega; done) | (have : hc = trivial := rfl; clear this; clear hc))))) | ((with_reducible refine r_is ?_); first | refine yr ?_ | (refine r_fn rfl (hg _) (hb) zL1 zD ?_; refine r_nn zN zH ?_)) | fail)
    · (refine Runs.ret1 Tryz.func197 rfl zM zD ?_; try exact zX)
      rw [← h1, if_pos hc]; exact V.Le.refl _
    · refine ih (i + 1) _ ⟨by omega, by rw [← h1, hc]; rfl⟩ zo ?_
      refine St.Le.clean zR (by simp [V.usesL, V.uses, V.usesL_data _ _ hd]) trivial
  · repeat' (first | refine yw ?_ | ((with_reducible refine Runs.is ?_); first | refine Runs.region (id := 2) ?_ | ((with_reducible refine Runs.isC ?_); refine Runs.cond rfl (zc ?_) (zc ?_) <;> intro hc <;> (try (first | contradiction | (exfalso; omega; done) | (have : hc = trivial := rfl; clear this; clear hc))))) | ((with_reducible refine r_is ?_); first | refine yr ?_) | fail)
    repeat' (first | refine yw ?_ | ((with_reducible refine Runs.is ?_); first | refine Runs.region (id := 7) ?_ | ((with_reducible refine Runs.isC ?_); refine Runs.cond rfl (zc ?_) (zc ?_) <;> intro hc <;> (try (first | contradiction | (exfalso; omega; done) | (have : hc = trivial := rfl; clear this; clear hc))))) | ((with_reducible refine r_is ?_); first | refine yr ?_) | fail)
    (refine Runs.ret1 Tryz.func197 rfl zM zD ?_; try exact zX)
    rw [← h1, List.drop_eq_nil_of_le zo]; exact V.Le.refl _
theorem containsFunc_mb (f : Bool) (l : List Member) (fn : FuncId) (caps : List V) (k : Member → Bool) (hg : ∀ n, AM.Fn Tryz.prog fn (mbV n :: caps) (.b (k n))) (hb : hasBody Tryz.prog fn) (hd : V.dataL caps = true) :
    AM.Fn Tryz.prog 144 [.sl f (l.map mbV), .fn fn caps] (.b (l.any k)) := by
  have h := indexFunc_mb f l fn caps k hg hb hd
  rw [← idxG_any k l 0]
  have hdd : V.dataL [.sl f (l.map mbV), .fn fn caps] = true := by simp [V.dataL, V.data, dl_mbV, hd]
  (refine spec_of_runs Tryz.func144 rfl ?_; simp only [Tryz.f144]; refine ys ?_)
  repeat' (first | refine yw ?_ | ((with_reducible refine Runs.is ?_); first | refine Runs.region ?_ | ((with_reducible refine Runs.isC ?_); refine Runs.cond rfl (zc ?_) (zc ?_) <;> intro hc <;> (try (first | contradiction | (exfalso; omega; done) | (have : hc = trivial := rfl; clear this; clear hc))))) | ((with_reducible refine r_is ?_); first | refine yr ?_ | (refine r_fn rfl (h) HbF.h zL2 zD ?_; refine r_nn zN zH ?_)) | fail)
  (refine Runs.ret1 Tryz.func144 rfl zM zD ?_; try exact zX)
theorem again1 (s : Int) (d : Source) : AM.Fn Tryz.prog 143 [soV d, .pt (.i s)] (.b (decide (d.server = s))) := by
  (refine spec_of_runs Tryz.func143 rfl ?_; simp only [Tryz.f143]; refine ys ?_)
  repeat' (first | refine yw ?_ | ((with_reducible refine Runs.is ?_); first | refine Runs.region ?_ | ((with_reducible refine Runs.isC ?_); refine Runs.cond rfl (zc ?_) (zc ?_) <;> intro hc <;> (try (first | contradiction | (exfalso; omega; done) | (have : hc = trivial := rfl; clear this; clear hc))))) | ((with_reducible refine r_is ?_); first | refine yr ?_) | fail)
  (refine Runs.ret1 Tryz.func143 rfl zM zD ?_; try exact zX)
theorem again2 (s : Int) (m : Member) : AM.Fn Tryz.prog 145 [mbV m, .pt (.i s)] (.b (decide (m.server = s))) := by
  (refine spec_of_runs Tryz.func145 rfl ?_; simp only [Tryz.f145]; refine ys ?_)
  repeat' (first | refine yw ?_ | ((with_reducible refine Runs.is ?_); first | refine Runs.region ?_ | ((with_reducible refine Runs.isC ?_); refine Runs.cond rfl (zc ?_) (zc ?_) <;> intro hc <;> (try (first | contradiction | (exfalso; omega; done) | (have : hc = trivial := rfl; clear this; clear hc))))) | ((with_reducible refine r_is ?_); first | refine yr ?_) | fail)
  (refine Runs.ret1 Tryz.func145 rfl zM zD ?_; try exact zX)
def needB (v : View) (done : List Source) (s : Int) : Bool := decide (idxG (fun d => decide (d.server = s)) done 0 < 0) || (!(done.getD (idxG (fun d => decide (d.server = s)) done 0).toNat default).filled && v.members.any fun m => decide (m.server = s))
theorem transfer_Again (q : Bool) (g : View) (s : Int) (j : Job) (hv : Vector) (sp : List Int) (hS : AM.Fn Tryz.prog 79 [viV g, .sl false (j.«from».map prV), .sl false (j.to.map prV)] (.sl false (sp.map .i))) (hV : AM.Fn Tryz.prog 103 [viV g, .sl false (j.«from».map prV)] (viV (viewOf g j.«from»)))
    (hc : SmallC ⟨j.«from», j.to⟩) (hp : PosV hv) (hn : sp.length ≤ 1000000) (ha : j.active = true) (hdl : j.done.length ≤ 1000000) :
    AM.Fn Tryz.prog 78 [viV g, .i s, joV j, .sl q (hv.map enV)] (.sl false ((fetchL s j.«from» j.to hv (sp.filter (needB (viewOf g j.«from») j.done))).map msV)) := by
  generalize viewOf g j.«from» = v at *
  obtain ⟨ac, fr, to, done⟩ := j
  dsimp only at *
  subst ha
  (refine spec_of_runs Tryz.func78 rfl ?_; simp only [Tryz.f78]; refine ys ?_)
  repeat' (first | refine yw ?_ | ((with_reducible refine Runs.is ?_); first | refine Runs.region (id := 0) ?_ | refine Runs.region (id := 1) ?_ | refine Runs.region (id := 2) ?_ | refine Runs.region (id := 3) ?_ | refine Runs.region (id := 4) ?_ | refine Runs.region (id := 5) ?_ | ((with_reducible refine Runs.isC ?_); refine Runs.cond rfl (zc ?_) (zc ?_) <;> intro hc <;> (try (first | contradiction | (exfalso; omega; done) | (have : hc = trivial := rfl; clear this; clear hc))))) | ((with_reducible refine r_is ?_); first | refine yr ?_ | (refine r_fn rfl (hV) HbF.h zL2 zD ?_; refine r_nn zN zH ?_) | (refine r_fn rfl (hS) HbF.h zL3 zD ?_; refine r_nn zN zH ?_)) | fail)
  (refine Runs.weaken (St.Le.nil 10 60 18 10 zd rfl rfl zE) ?_)
  refine Runs.loopI (fun k : Nat => sp.length - k) (fun k => k ≤ sp.length)
    (fun k => ⟨[.any, .i s, .any, .sl q (hv.map enV), .any, .any, .ptr 6 0 0, .any, .any, .ptr 9 0 0, .own 10, .any, .any, .any, .any, .any, .any, .any, .any, .any, .any, .any, .any, .any, .any, .any, .any, .sl false (sp.map .i), .i (sp.length : Nat), .i (k : Nat), .any, .any, .any, .any, .any, .any, .any, .any, .any, .any, .any, .any, .any, .any, .any, .any, .any, .any, .any, .any, .any, .any, .any, .any, .any, .any, .any, .any, .any, .any, .any, .any, .any, .any, .any, .any, .any, .any], [(10, .lst 60 18 ((fetchL s fr to hv ((sp.take k).filter (needB v done))).map msV)), (9, .var 79 (viV v)), (6, .var 39 (joV ⟨true, fr, to, done⟩))]⟩) 0 (Nat.zero_le _) ?_ ?_
  · (refine St.Le.clean zR zU zV)
  intro k hk ih
  have hlen : (fetchL s fr to hv ((sp.take k).filter (needB v done))).length ≤ k := by
    unfold fetchL; rw [List.length_map]
    exact Nat.le_trans (List.length_filter_le _ _) (by rw [List.length_take]; omega)
  have hst : k < sp.length → fetchL s fr to hv ((sp.take (k + 1)).filter (needB v done)) = fetchL s fr to hv ((sp.take k).filter (needB v done)) ++ (if needB v done (sp.getD k default) = true then [fetchM s (sp.getD k default) fr to hv] else []) := fun h => by
    unfold fetchL
    rw [filter_take h, List.map_append]
    split <;> simp_all
  have hend : sp.length ≤ k → fetchL s fr to hv ((sp.take k).filter (needB v done)) = fetchL s fr to hv (sp.filter (needB v done)) := fun h => by rw [List.take_of_length_le h]
  generalize fetchL s fr to hv ((sp.take k).filter (needB v done)) = acc at *
  by_cases hlt : k < sp.length
  · have hst2 := hst hlt
    have hF := transfer_fetch false false q s (sp.getD k default) fr to hv hc hp
    generalize fetchM s (sp.getD k default) fr to hv = m at *
    generalize hx : sp.getD k default = x at *
    have hI := indexFunc_so false done 143 [.pt (.i x)] _ (fun d => again1 x d) hb143 (by simp only [go_sem, Bool.and_self])
    have hM := containsFunc_mb false v.members 145 [.pt (.i x)] _ (fun d => again2 x d) hb145 (by simp only [go_sem, Bool.and_self])
    have hbd := idxG_bd (fun d : Source => decide (d.server = x)) done 0
    have hnd : needB v done x = (decide (idxG (fun d => decide (d.server = x)) done 0 < 0) || (!(done.getD (idxG (fun d => decide (d.server = x)) done 0).toNat default).filled && v.members.any fun m => decide (m.server = x))) := rfl
    generalize idxG (fun d : Source => decide (d.server = x)) done 0 = i at *
    generalize (v.members.any fun m => decide (m.server = x)) = be at *
    rw [hnd] at hst2
    clear hst hnd
    repeat' (first | refine yw ?_ | ((with_reducible refine Runs.is ?_); first | refine Runs.region (id := 6) ?_ | refine Runs.region (id := 7) ?_ | ((with_reducible refine Runs.isC ?_); refine Runs.cond rfl (zc ?_) (zc ?_) <;> intro hc <;> (try (first | contradiction | (exfalso; omega; done) | (have : hc = trivial := rfl; clear this; clear hc))))) | ((with_reducible refine r_is ?_); first | refine yr ?_) | fail)
    (refine Runs.weaken (St.Le.freeze_var 12 rfl (by simp only [go_sem, Bool.and_self, Bool.and_true, Bool.true_and])) ?_; refine yf ?_)
    rw [hx]
    by_cases hi : i < 0
    · rw [decide_eq_true hi, Bool.true_or, if_pos rfl] at hst2
      repeat' (first | refine yw ?_ | ((with_reducible refine Runs.is ?_); first | refine Runs.region (id := 8) ?_ | refine Runs.region (id := 9) ?_ | refine Runs.region (id := 10) ?_ | refine Runs.region (id := 11) ?_ | refine Runs.region (id := 12) ?_ | ((with_reducible refine Runs.isC ?_); refine Runs.cond rfl (zc ?_) (zc ?_) <;> intro hc <;> (try (first | contradiction | (exfalso; omega; done) | (have : hc = trivial := rfl; clear this; clear hc))))) | ((with_reducible refine r_is ?_); first | refine yr ?_ | (refine r_fn rfl (hI) HbF.h zL2 zD ?_; refine r_nn zN zH ?_) | (refine r_fn rfl (hM) HbF.h zL2 zD ?_; refine r_nn zN zH ?_) | (refine r_fn rfl (hF) HbF.h zL5 zD ?_; refine r_nn zN zH ?_) | (refine r_append_full SlF.h SlF.s ZoF.h zd rfl rfl zC zJ zS rfl (fun hn => ?_) (fun hn => ?_) <;> refine r_nn zN zH ?_) | ((with_reducible refine r_gd ?_); (first | refine r_guardPf rfl rfl ?_ ?_ | refine r_guardNf rfl rfl ?_ ?_ | refine r_guardPt rfl rfl ?_ ?_ | refine r_guardNt rfl rfl ?_ ?_ | refine r_guard rfl rfl ?_ ?_) <;> intro hG <;> (try (exfalso; omega; done)) <;> refine r_nn zN zH ?_)) | fail)
      all_goals
        refine ih (k + 1) _ zo zo ?_
        first | rw [hst2, List.map_append, List.map_cons, List.map_nil] | rw [hst2]
        (refine St.Le.clean zR zU zV)
    · rw [decide_eq_false hi, Bool.false_or] at hst2
      cases hfl : (done.getD i.toNat default).filled
      · cases be
        · rw [hfl, if_neg zd, List.append_nil] at hst2
          repeat' (first | refine yw ?_ | ((with_reducible refine Runs.is ?_); first | refine Runs.region (id := 8) ?_ | refine Runs.region (id := 9) ?_ | refine Runs.region (id := 10) ?_ | refine Runs.region (id := 11) ?_ | refine Runs.region (id := 12) ?_ | ((with_reducible refine Runs.isC ?_); refine Runs.cond rfl (zc ?_) (zc ?_) <;> intro hc <;> (try (first | contradiction | (exfalso; omega; done) | (have : hc = trivial := rfl; clear this; clear hc))))) | ((with_reducible refine r_is ?_); first | refine yr ?_ | (refine r_fn rfl (hI) HbF.h zL2 zD ?_; refine r_nn zN zH ?_) | (refine r_fn rfl (hM) HbF.h zL2 zD ?_; refine r_nn zN zH ?_) | (refine r_fn rfl (hF) HbF.h zL5 zD ?_; refine r_nn zN zH ?_) | (refine r_append_full SlF.h SlF.s ZoF.h zd rfl rfl zC zJ zS rfl (fun hn => ?_) (fun hn => ?_) <;> refine r_nn zN zH ?_) | ((with_reducible refine r_gd ?_); (first | refine r_guardPf rfl rfl ?_ ?_ | refine r_guardNf rfl rfl ?_ ?_ | refine r_guardPt rfl rfl ?_ ?_ | refine r_guardNt rfl rfl ?_ ?_ | refine r_guard rfl rfl ?_ ?_) <;> intro hG <;> (try (exfalso; omega; done)) <;> refine r_nn zN zH ?_)) | fail)
          all_goals first
            | (exfalso; rw [hfl] at hG; exact absurd hG zd)
            | (refine ih (k + 1) _ zo zo ?_
               first | rw [hst2, List.map_append, List.map_cons, List.map_nil] | rw [hst2]
               (refine St.Le.clean zR zU zV)
               done)
        · rw [hfl, if_pos (by rfl)] at hst2
          repeat' (first | refine yw ?_ | ((with_reducible refine Runs.is ?_); first | refine Runs.region (id := 8) ?_ | refine Runs.region (id := 9) ?_ | refine Runs.region (id := 10) ?_ | refine Runs.region (id := 11) ?_ | refine Runs.region (id := 12) ?_ | ((with_reducible refine Runs.isC ?_); refine Runs.cond rfl (zc ?_) (zc ?_) <;> intro hc <;> (try (first | contradiction | (exfalso; omega; done) | (have : hc = trivial := rfl; clear this; clear hc))))) | ((with_reducible refine r_is ?_); first | refine yr ?_ | (refine r_fn rfl (hI) HbF.h zL2 zD ?_; refine r_nn zN zH ?_) | (refine r_fn rfl (hM) HbF.h zL2 zD ?_; refine r_nn zN zH ?_) | (refine r_fn rfl (hF) HbF.h zL5 zD ?_; refine r_nn zN zH ?_) | (refine r_append_full SlF.h SlF.s ZoF.h zd rfl rfl zC zJ zS rfl (fun hn => ?_) (fun hn => ?_) <;> refine r_nn zN zH ?_) | ((with_reducible refine r_gd ?_); (first | refine r_guardPf rfl rfl ?_ ?_ | refine r_guardNf rfl rfl ?_ ?_ | refine r_guardPt rfl rfl ?_ ?_ | refine r_guardNt rfl rfl ?_ ?_ | refine r_guard rfl rfl ?_ ?_) <;> intro hG <;> (try (exfalso; omega; done)) <;> refine r_nn zN zH ?_)) | fail)
          all_goals first
            | (exfalso; rw [hfl] at hG; exact absurd hG zd)
            | (refine ih (k + 1) _ zo zo ?_
               first | rw [hst2, List.map_append, List.map_cons, List.map_nil] | rw [hst2]
               (refine St.Le.clean zR zU zV)
               done)
      · rw [hfl, if_neg (by rw [Bool.not_true, Bool.false_and]; decide), List.append_nil] at hst2
        repeat' (first | refine yw ?_ | ((with_reducible refine Runs.is ?_); first | refine Runs.region (id := 8) ?_ | refine Runs.region (id := 9) ?_ | refine Runs.region (id := 10) ?_ | refine Runs.region (id := 11) ?_ | refine Runs.region (id := 12) ?_ | ((with_reducible refine Runs.isC ?_); refine Runs.cond rfl (zc ?_) (zc ?_) <;> intro hc <;> (try (first | contradiction | (exfalso; omega; done) | (have : hc = trivial := rfl; clear this; clear hc))))) | ((with_reducible refine r_is ?_); first | refine yr ?_ | (refine r_fn rfl (hI) HbF.h zL2 zD ?_; refine r_nn zN zH ?_) | (refine r_fn rfl (hM) HbF.h zL2 zD ?_; refine r_nn zN zH ?_) | (refine r_fn rfl (hF) HbF.h zL5 zD ?_; refine r_nn zN zH ?_) | (refine r_append_full SlF.h SlF.s ZoF.h zd rfl rfl zC zJ zS rfl (fun hn => ?_) (fun hn => ?_) <;> refine r_nn zN zH ?_) | ((with_reducible refine r_gd ?_); (first | refine r_guardPf rfl rfl ?_ ?_ | refine r_guardNf rfl rfl ?_ ?_ | refine r_guardPt rfl rfl ?_ ?_ | refine r_guardNt rfl rfl ?_ ?_ | refine r_guard rfl rfl ?_ ?_) <;> intro hG <;> (try (exfalso; omega; done)) <;> refine r_nn zN zH ?_)) | fail)
        all_goals first
          | (exfalso; rw [hfl] at hG; exact absurd hG zd)
          | (refine ih (k + 1) _ zo zo ?_
             first | rw [hst2, List.map_append, List.map_cons, List.map_nil] | rw [hst2]
             (refine St.Le.clean zR zU zV)
             done)
  · have he := hend zo
    subst he
    repeat' (first | refine yw ?_ | ((with_reducible refine Runs.is ?_); first | refine Runs.region (id := 6) ?_ | ((with_reducible refine Runs.isC ?_); refine Runs.cond rfl (zc ?_) (zc ?_) <;> intro hc <;> (try (first | contradiction | (exfalso; omega; done) | (have : hc = trivial := rfl; clear this; clear hc))))) | ((with_reducible refine r_is ?_); first | refine yr ?_) | fail)
    repeat' (first | refine yw ?_ | ((with_reducible refine Runs.is ?_); first | refine Runs.region (id := 13) ?_ | ((with_reducible refine Runs.isC ?_); refine Runs.cond rfl (zc ?_) (zc ?_) <;> intro hc <;> (try (first | contradiction | (exfalso; omega; done) | (have : hc = trivial := rfl; clear this; clear hc))))) | ((with_reducible refine r_is ?_); first | refine yr ?_) | fail)
    exact Runs.ret_frz Tryz.func78 rfl rfl rfl (by simp)
end Go.Proofs
