/- Graphs: has, next, Paths. -/
import Derived.Test.YtmhnmookgbmmbaaW14
set_option linter.unusedVariables false
set_option linter.unusedSimpArgs false
set_option maxRecDepth 8000
set_option maxHeartbeats 4000000
set_option pp.deepTerms false
set_option pp.deepTerms.threshold 6
namespace Go.Proofs
open Go.AM
attribute [local irreducible] AM.evalR AM.evalD AM.Runs AM.valK AM.dK AM.opK AM.stepR AM.CallS AM.St.Le

def idxF (k : Int → Bool) : List Int → Nat → Int
  | [], _ => -1
  | x :: xs, i => if k x then (i : Int) else idxF k xs (i + 1)
theorem idxF_any (k : Int → Bool) (l : List Int) (i : Nat) : decide (0 ≤ idxF k l i) = l.any k := by
  induction l generalizing i with
  | nil => simp [idxF]
  | cons x xs ih =>
    unfold idxF
    rw [List.any_cons]
    cases h : k x
    · simpa using ih (i + 1)
    · simp
theorem indexFunc (f : Bool) (l : List Int) (fn : FuncId) (caps : List V) (k : Int → Bool) (hg : ∀ n, AM.Fn Try.prog fn (.i n :: caps) (.b (k n))) (hb : hasBody Try.prog fn) (hd : V.dataL caps = true) :
    AM.Fn Try.prog 76 [.sl f (l.map .i), .fn fn caps] (.i (idxF k l 0)) := by
  (refine spec_of_runs Try.func76 rfl ?_; simp only [Try.f76]; refine ys ?_)
  (refine Runs.lens 0 ?_; refine yl ?_)
  intro hl
  repeat' (first | refine yw ?_ | ((with_reducible refine Runs.is ?_); first | refine Runs.region (id := 0) ?_ | refine Runs.region (id := 1) ?_ | ((with_reducible refine Runs.isC ?_); refine Runs.cond rfl (zc ?_) (zc ?_) <;> intro hc <;> (try (first | contradiction | (exfalso; omega; done) | (have : hc = trivial := rfl; clear this; clear hc))))) | ((with_reducible refine r_is ?_); first | refine yr ?_) | fail)
  refine Runs.loopI (fun i : Nat => l.length - i) (fun i => i ≤ l.length ∧ idxF k (l.drop i) i = idxF k l 0)
    (fun i => ⟨[.sl f (l.map .i), .fn fn caps, .any, .any, .any, .any, .any, .i (l.length : Nat), .i (i : Nat), .any, .any, .any, .any, .any, .any, .any, .any, .any, .any], []⟩) 0 (by simp) ?_ ?_
  · refine St.Le.clean zR (by simp [V.usesL, V.uses, V.usesL_data _ _ hd]) trivial
  rintro i ⟨h0, h1⟩ ih
  by_cases hi : i < l.length
  · rw [drop_getD hi, idxF] at h1
    repeat' (first | refine yw ?_ | ((with_reducible refine Runs.is ?_); first | refine Runs.region (id := 2) ?_ | refine Runs.region (id := 3) ?_ | refine Runs.region (id := 4) ?_ | refine Runs.region (id := 5) ?_ | refine Runs.region (id := 6) ?_ | refine Runs.region (id := 7) ?_ | ((with_reducible refine Runs.isC ?_); refine Runs.cond rfl (zc ?_) (zc ?_) <;> intro hc <;> (try (first | contradiction | (exfalso; omega; done) | (have : hc = trivial := rfl; clear this; clear hc))))) | ((with_reducible refine r_is ?_); first | refine yr ?_ | (refine r_fn rfl (hg _) (hb) zL1 zD ?_; refine r_nn zN zH ?_)) | fail)
    · (refine Runs.ret1 Try.func76 rfl zM zD ?_; try exact zX)
      rw [← h1, if_pos hc]; exact V.Le.refl _
    · refine ih (i + 1) _ ⟨by omega, by rw [← h1, hc]; rfl⟩ zo ?_
      refine St.Le.clean zR (by simp [V.usesL, V.uses, V.usesL_data _ _ hd]) trivial
  · repeat' (first | refine yw ?_ | ((with_reducible refine Runs.is ?_); first | refine Runs.region (id := 2) ?_ | refine Runs.region (id := 3) ?_ | refine Runs.region (id := 4) ?_ | refine Runs.region (id := 5) ?_ | refine Runs.region (id := 6) ?_ | refine Runs.region (id := 7) ?_ | ((with_reducible refine Runs.isC ?_); refine Runs.cond rfl (zc ?_) (zc ?_) <;> intro hc <;> (try (first | contradiction | (exfalso; omega; done) | (have : hc = trivial := rfl; clear this; clear hc))))) | ((with_reducible refine r_is ?_); first | refine yr ?_ | (refine r_fn rfl (hg _) (hb) zL1 zD ?_; refine r_nn zN zH ?_)) | fail)
    (refine Runs.ret1 Try.func76 rfl zM zD ?_; try exact zX)
    rw [← h1, List.drop_eq_nil_of_le zo]; exact V.Le.refl _
theorem containsFunc (f : Bool) (l : List Int) (fn : FuncId) (caps : List V) (k : Int → Bool) (hg : ∀ n, AM.Fn Try.prog fn (.i n :: caps) (.b (k n))) (hb : hasBody Try.prog fn) (hd : V.dataL caps = true) :
    AM.Fn Try.prog 61 [.sl f (l.map .i), .fn fn caps] (.b (l.any k)) := by
  have h := indexFunc f l fn caps k hg hb hd
  rw [← idxF_any k l 0]
  have hdd : V.dataL [.sl f (l.map V.i), .fn fn caps] = true := by simp [V.dataL, V.data, dl_i, hd]
  (refine spec_of_runs Try.func61 rfl ?_; simp only [Try.f61]; refine ys ?_)
  repeat' (first | refine yw ?_ | ((with_reducible refine Runs.is ?_); first | refine Runs.region ?_ | ((with_reducible refine Runs.isC ?_); refine Runs.cond rfl (zc ?_) (zc ?_) <;> intro hc <;> (try (first | contradiction | (exfalso; omega; done) | (have : hc = trivial := rfl; clear this; clear hc))))) | ((with_reducible refine r_is ?_); first | refine yr ?_ | (refine r_fn rfl (h) HbF.h zL2 zD ?_; refine r_nn zN zH ?_)) | fail)
  (refine Runs.ret1 Try.func61 rfl zM zD ?_; try exact zX)
/-! has, next -/
def badG (g : Graph) (n : Int) : Bool := decide (n < 0) || decide ((g.nodes.length : Int) ≤ n)
theorem has1 (g : Graph) (n : Int) : AM.Fn Try.prog 75 [.i n, .pt (grV g)] (.b (badG g n)) := by
  (refine spec_of_runs Try.func75 rfl ?_; simp only [Try.f75]; refine ys ?_)
  repeat' (first | refine yw ?_ | ((with_reducible refine Runs.is ?_); first | refine Runs.region ?_ | ((with_reducible refine Runs.isC ?_); refine Runs.cond rfl (zc ?_) (zc ?_) <;> intro hc <;> (try (first | contradiction | (exfalso; omega; done) | (have : hc = trivial := rfl; clear this; clear hc))))) | ((with_reducible refine r_is ?_); first | refine yr ?_ | ((with_reducible refine r_gd ?_); (first | refine r_guardPf rfl rfl ?_ ?_ | refine r_guardNf rfl rfl ?_ ?_ | refine r_guard rfl rfl ?_ ?_) <;> intro hG <;> (try (exfalso; omega; done)) <;> refine r_nn zN zH ?_)) | fail)
  all_goals ((refine Runs.ret1 Try.func75 rfl zM zD ?_; try exact zX); refine V.Le.of_eq (congrArg V.b ?_); first | (rw [badG, decide_eq_false hG]; rfl) | (rw [badG, decide_eq_true hG]; rfl))
def hasG (g : Graph) (l : List Int) : Bool := !l.any (badG g)
theorem graph_has (f : Bool) (g : Graph) (l : List Int) : AM.Fn Try.prog 59 [grV g, .sl f (l.map .i)] (.b (hasG g l)) := by
  (refine spec_of_runs Try.func59 rfl ?_; simp only [Try.f59]; refine ys ?_)
  repeat' (first | refine yw ?_ | ((with_reducible refine Runs.is ?_); first | refine Runs.region (id := 0) ?_ | ((with_reducible refine Runs.isC ?_); refine Runs.cond rfl (zc ?_) (zc ?_) <;> intro hc <;> (try (first | contradiction | (exfalso; omega; done) | (have : hc = trivial := rfl; clear this; clear hc))))) | ((with_reducible refine r_is ?_); first | refine yr ?_) | fail)
  (refine Runs.weaken (St.Le.freeze_var 2 rfl (by simp only [go_sem, Bool.and_self, Bool.and_true, Bool.true_and])) ?_; refine yf ?_)
  repeat' (first | refine yw ?_ | ((with_reducible refine Runs.is ?_); first | refine Runs.region (id := 1) ?_ | ((with_reducible refine Runs.isC ?_); refine Runs.cond rfl (zc ?_) (zc ?_) <;> intro hc <;> (try (first | contradiction | (exfalso; omega; done) | (have : hc = trivial := rfl; clear this; clear hc))))) | ((with_reducible refine r_is ?_); first | refine yr ?_ | (refine r_fn rfl (containsFunc f l 75 [.pt (grV g)] (badG g) (fun n => has1 g n) hb75 (by simp only [go_sem, Bool.and_self])) HbF.h zL2 zD ?_; refine r_nn zN zH ?_)) | fail)
  (refine Runs.ret1 Try.func59 rfl zM zD ?_; try exact zX)
def nextC (g : Graph) (n : Int) (e : Int × Int) : Bool := decide (e.1 = n) && decide (n < e.2) && hasG g [e.2]
def nextG (g : Graph) (n : Int) : List Int := sortI ((g.edges.filter (nextC g n)).map (·.2))
theorem graph_next (g : Graph) (n : Int) (hs : g.edges.length ≤ 10000000000) : AM.Fn Try.prog 60 [grV g, .i n] (.sl false ((nextG g n).map .i)) := by
  obtain ⟨nodes, edges⟩ := g
  dsimp only at hs ⊢
  (refine spec_of_runs Try.func60 rfl ?_; simp only [Try.f60]; refine ys ?_)
  repeat' (first | refine yw ?_ | ((with_reducible refine Runs.is ?_); first | refine Runs.region (id := 0) ?_ | refine Runs.region (id := 1) ?_ | refine Runs.region (id := 2) ?_ | ((with_reducible refine Runs.isC ?_); refine Runs.cond rfl (zc ?_) (zc ?_) <;> intro hc <;> (try (first | contradiction | (exfalso; omega; done) | (have : hc = trivial := rfl; clear this; clear hc))))) | ((with_reducible refine r_is ?_); first | refine yr ?_) | fail)
  (refine Runs.weaken (St.Le.nil 5 3 1 5 zd rfl rfl zE) ?_)
  refine Runs.loopI (fun i : Nat => edges.length - i) (fun i => i ≤ edges.length)
    (fun i => ⟨[.any, .i n, .ptr 2 0 0, .any, .any, .own 5, .any, .any, .any, .sl false (edges.map edV), .i (edges.length : Nat), .i (i : Nat), .any, .any, .any, .any, .any, .any, .any, .any, .any, .any, .any, .any, .any, .any, .any, .any, .any, .any, .any, .any, .any, .any, .any, .any, .any, .any, .any, .any, .any], [(5, .lst 3 1 ((((edges.take i).filter (nextC ⟨nodes, edges⟩ n)).map (·.2)).map .i)), (2, .var 31 (grV ⟨nodes, edges⟩))]⟩) 0 (by simp) ?_ ?_
  · (refine St.Le.clean zR zU zV)
  rintro i h0 ih
  have hfl : (((edges.take i).filter (nextC ⟨nodes, edges⟩ n)).map (·.2)).length ≤ i := by
    rw [List.length_map]; exact Nat.le_trans (List.length_filter_le _ _) (by rw [List.length_take]; omega)
  have ht := fun (h : i < edges.length) (hk : nextC ⟨nodes, edges⟩ n (edges.getD i default) = true) => congrArg (List.map (·.2)) (filter_take_t h hk)
  have hfa := fun (h : i < edges.length) (hk : nextC ⟨nodes, edges⟩ n (edges.getD i default) = false) => congrArg (List.map (·.2)) (filter_take_f h hk)
  have hend : edges.length ≤ i → edges.take i = edges := fun h => List.take_of_length_le h
  generalize hacc : ((edges.take i).filter (nextC ⟨nodes, edges⟩ n)).map (·.2) = acc at hfl ht hfa ⊢
  repeat' (first | refine yw ?_ | ((with_reducible refine Runs.is ?_); first | refine Runs.region (id := 3) ?_ | refine Runs.region (id := 4) ?_ | refine Runs.region (id := 5) ?_ | refine Runs.region (id := 6) ?_ | refine Runs.region (id := 7) ?_ | ((with_reducible refine Runs.isC ?_); refine Runs.cond rfl (zc ?_) (zc ?_) <;> intro hc <;> (try (first | contradiction | (exfalso; omega; done) | (have : hc = trivial := rfl; clear this; clear hc))))) | ((with_reducible refine r_is ?_); first | refine yr ?_ | (refine r_fn rfl (graph_has true ⟨nodes, edges⟩ [_]) HbF.h zL2 zD ?_; refine r_nn zN zH ?_) | (refine r_append_full SlF.h SlF.s ZoF.h zd rfl rfl zC zJ zS rfl (fun hn => ?_) (fun hn => ?_) <;> refine r_nn zN zH ?_) | ((with_reducible refine r_gd ?_); (first | refine r_guardPt rfl rfl ?_ ?_ | refine r_guardNt rfl rfl ?_ ?_ | refine r_guard rfl rfl ?_ ?_) <;> intro hG <;> (try (exfalso; omega; done)) <;> refine r_nn zN zH ?_)) | fail)
  · refine ih (i + 1) _ zo zo ?_
    have e : nextC ⟨nodes, edges⟩ n (edges.getD i default) = true := by unfold nextC; simp only [decide_eq_true hG, hc, decide_eq_true (show (edges.getD i default).1 = n by assumption)]; rfl
    rw [ht zo e, List.map_append, hacc]
    (refine St.Le.clean zR zU zV)
  · refine ih (i + 1) _ zo zo ?_
    have e : nextC ⟨nodes, edges⟩ n (edges.getD i default) = false := by unfold nextC; rw [hc, Bool.and_false]
    rw [hfa zo e]
    (refine St.Le.clean zR zU zV)
  · refine ih (i + 1) _ zo zo ?_
    have e : nextC ⟨nodes, edges⟩ n (edges.getD i default) = false := by unfold nextC; rw [decide_eq_false hG]; simp
    rw [hfa zo e]
    (refine St.Le.clean zR zU zV)
  · refine ih (i + 1) _ zo zo ?_
    have e : nextC ⟨nodes, edges⟩ n (edges.getD i default) = false := by unfold nextC; rw [decide_eq_false hG]; rfl
    rw [hfa zo e]
    (refine St.Le.clean zR zU zV)
  · rw [hend zo] at hacc
    repeat' (first | refine yw ?_ | ((with_reducible refine Runs.is ?_); first | refine Runs.region (id := 8) ?_ | refine Runs.region (id := 9) ?_ | ((with_reducible refine Runs.isC ?_); refine Runs.cond rfl (zc ?_) (zc ?_) <;> intro hc <;> (try (first | contradiction | (exfalso; omega; done) | (have : hc = trivial := rfl; clear this; clear hc))))) | ((with_reducible refine r_is ?_); first | refine yr ?_ | (refine r_turn rfl (sort_turns _ zo) HbF.h rfl rfl ?_; refine r_nn zN zH ?_)) | fail)
    refine Runs.ret_frz Try.func60 rfl rfl rfl ?_
    rw [nextG, hacc]
theorem nextG_len (g : Graph) (n : Int) : (nextG g n).length ≤ g.edges.length := by
  rw [nextG, sortI_length, List.length_map]; exact List.length_filter_le _ _
/-! Paths -/
/-- The int that a sum wraps to. -/
def wr (n : Int) : Int := IntKind.i64.wrap n
def addI (n : Int) (m : List (Int × Int)) (k : Int) : List (Int × Int) := setI m k (wr ((getI m k).getD 0 + n))
def stepW (g : Graph) (m : List (Int × Int)) (i : Int) : List (Int × Int) := match getI m i with
  | none => m
  | some n => (nextG g i).foldl (addI n) (delI m i)
def waysB (g : Graph) (a b : Int) : List (Int × Int) := (upto a (b - 1)).foldl (stepW g) [(a, 1)]
def pathsB (g : Graph) (a b : Int) : Int := if hasG g [a, b] then (getI (waysB g a b) b).getD 0 else 0
theorem v_addW {P : Program} {e : Operand → V} {H : Heap} {K : V → Prop} {t : TypeId} {x y : Operand} {ty : TypeId} {p q : Int} (hx : e x = .sc (.int .i64 p)) (hy : e y = .sc (.int .i64 q)) (h : K (.i (wr (p + q)))) : valK P (.binOp .add t x y ty) e H K := v_add hx hy h
theorem upto_le {a b : Int} : ∀ n ∈ upto a b, a ≤ n ∧ n ≤ b := by
  intro n hn
  obtain ⟨k, hk, rfl⟩ := List.mem_map.1 hn
  have := List.mem_range.1 hk
  omega
theorem graph_Paths (g : Graph) (a b : Int) (hs : g.edges.length ≤ 10000000000) (hn : g.nodes.length ≤ 10000000000) : AM.Fn Try.prog 27 [grV g, .i a, .i b] (.i (pathsB g a b)) := by
  have hnx := fun i => graph_next g i hs
  (refine spec_of_runs Try.func27 rfl ?_; simp only [Try.f27]; refine ys ?_)
  repeat' (first | refine yw ?_ | ((with_reducible refine Runs.is ?_); first | refine Runs.region (id := 0) ?_ | refine Runs.region (id := 1) ?_ | refine Runs.region (id := 2) ?_ | refine Runs.region (id := 3) ?_ | refine Runs.region (id := 4) ?_ | ((with_reducible refine Runs.isC ?_); refine Runs.cond rfl (zc ?_) (zc ?_) <;> intro hc <;> (try (first | contradiction | (exfalso; omega; done) | (have : hc = trivial := rfl; clear this; clear hc))))) | ((with_reducible refine r_is ?_); first | refine yr ?_ | (refine r_fn rfl (graph_has true g [a, b]) HbF.h zL2 zD ?_; refine r_nn zN zH ?_)) | fail)
  · (refine Runs.ret1 Try.func27 rfl zM zD ?_; try exact zX)
    rw [pathsB, hc]; exact V.Le.refl _
  have hbd : 0 ≤ a ∧ 0 ≤ b ∧ a < g.nodes.length ∧ b < g.nodes.length := by
    simp only [hasG, List.any_cons, List.any_nil, badG, Bool.or_false, Bool.not_eq_true', Bool.or_eq_false_iff, decide_eq_false_iff_not] at hc
    omega
  have hres : pathsB g a b = (getI (waysB g a b) b).getD 0 := by rw [pathsB, if_pos hc]
  rw [hres]
  refine Runs.loopI (α := Int) (fun i => (b - i).toNat) (fun i => a ≤ i ∧ (i ≤ b - 1 + 1 ∨ i = a))
    (fun i => ⟨[.any, .any, .i b, .ptr 3 0 0, .any, .any, .any, .mp 19, .i i, .any, .any, .any, .any, .any, .any, .any, .any, .any, .any, .any, .any, .any, .any, .any, .any, .any, .any, .any, .any, .any, .any, .any, .any, .any, .any, .any, .any, .any, .any, .any, .any, .any, .any, .any, .any, .any, .any, .any, .any, .any, .any, .any, .any, .any, .any], [(19, mapO V.i ((upto a (i - 1)).foldl (stepW g) [(a, 1)])), (3, .var 31 (grV g))]⟩) a ⟨Int.le_refl _, .inr rfl⟩ ?_ ?_
  · rw [upto_nil]
    (refine St.Le.clean zR zU zV)
  rintro i ⟨hi1, hi2⟩ ih
  have hst : (upto a (i + 1 - 1)).foldl (stepW g) [(a, 1)] = stepW g ((upto a (i - 1)).foldl (stepW g) [(a, 1)]) i := by
    rw [show i + 1 - 1 = i by omega, upto_snoc hi1, List.foldl_append]; rfl
  have hend : b - 1 < i → (upto a (i - 1)).foldl (stepW g) [(a, 1)] = waysB g a b := fun h => by rw [upto_end h hi2 hi1]; rfl
  generalize (upto a (i - 1)).foldl (stepW g) [(a, 1)] = m at hst hend ⊢
  repeat' (first | refine yw ?_ | ((with_reducible refine Runs.is ?_); first | refine Runs.region (id := 5) ?_ | refine Runs.region (id := 7) ?_ | refine Runs.region (id := 8) ?_ | refine Runs.region (id := 9) ?_ | refine Runs.region (id := 10) ?_ | refine Runs.region (id := 6) ?_ | ((with_reducible refine Runs.isC ?_); refine Runs.cond rfl (zc ?_) (zc ?_) <;> intro hc <;> (try (first | contradiction | (exfalso; omega; done) | (have : hc = trivial := rfl; clear this; clear hc))))) | ((with_reducible refine r_is ?_); first | refine yr ?_ | (refine r_fn rfl (hnx i) HbF.h zL2 zD ?_; refine r_nn zN zH ?_)) | fail)
  · repeat' (first | refine yw ?_ | ((with_reducible refine Runs.is ?_); first | refine Runs.region (id := 6) ?_ | ((with_reducible refine Runs.isC ?_); refine Runs.cond rfl (zc ?_) (zc ?_) <;> intro hc <;> (try (first | contradiction | (exfalso; omega; done) | (have : hc = trivial := rfl; clear this; clear hc))))) | ((with_reducible refine r_is ?_); first | refine yr ?_) | fail)
    refine ih (i + 1) _ ⟨by omega, by omega⟩ zo ?_
    have hg : getI m i = none := by cases h : getI m i with
      | none => rfl
      | some n => rw [h] at hc; simp at hc
    rw [hst, stepW, hg]
    (refine St.Le.clean zR zU zV)
  · obtain ⟨n, hg⟩ : ∃ n, getI m i = some n := by cases h : getI m i with
      | none => rw [h] at hc; simp at hc
      | some n => exact ⟨n, rfl⟩
    rw [stepW, hg] at hst
    simp only [hg, Option.getD_some]
    dsimp only at hst
    generalize delI m i = m' at hst ⊢
    have hkl := nextG_len g i
    generalize nextG g i = ks at hst hkl ⊢
    refine Runs.loopI (fun k : Nat => ks.length - k) (fun k => k ≤ ks.length)
      (fun k => ⟨[.any, .any, .i b, .ptr 3 0 0, .any, .any, .any, .mp 19, .i i, .i n, .any, .any, .any, .any, .any, .any, .any, .any, .any, .any, .any, .any, .any, .any, .any, .any, .any, .any, .any, .any, .any, .any, .any, .any, .any, .any, .any, .any, .any, .any, .sl false (ks.map .i), .i (ks.length : Nat), .i (k : Nat), .any, .any, .any, .any, .any, .any, .any, .any, .any, .any, .any, .any], [(19, mapO V.i ((ks.take k).foldl (addI n) m')), (3, .var 31 (grV g))]⟩) 0 (by simp) ?_ ?_
    · (refine St.Le.clean zR zU zV)
    rintro k hk ihk
    have hstk := fun (h : k < ks.length) => foldl_take (g := addI n) (s := m') h
    have hendk : ks.length ≤ k → (ks.take k).foldl (addI n) m' = ks.foldl (addI n) m' := fun h => by rw [List.take_of_length_le h]
    generalize (ks.take k).foldl (addI n) m' = mk at hstk hendk ⊢
    repeat' (first | refine yw ?_ | ((with_reducible refine Runs.is ?_); first | refine Runs.region (id := 11) ?_ | refine Runs.region (id := 12) ?_ | refine Runs.region (id := 13) ?_ | refine Runs.region (id := 14) ?_ | ((with_reducible refine Runs.isC ?_); refine Runs.cond rfl (zc ?_) (zc ?_) <;> intro hc <;> (try (first | contradiction | (exfalso; omega; done) | (have : hc = trivial := rfl; clear this; clear hc))))) | ((with_reducible refine r_is ?_); first | refine yr ?_) | fail)
    · refine ihk (k + 1) _ zo zo ?_
      rw [hstk zo]
      (refine St.Le.clean zR (by first | (simp [V.usesL, V.uses, AM.look_cons]; done) | (simp [V.usesL, V.uses, AM.look_cons, V.usesL_data, V.uses_data, da_i, da_chV, da_ruV, da_prV, da_enV, da_cfV, da_veV, da_inV, da_edV, da_grV, da_weV, da_mbV, da_suV, da_viV]; done)) ?_; (repeat' (first | exact True.intro | refine And.intro ?_ ?_)); all_goals (first | rfl | (simp [AM.look_cons, addI, wr]; done) | (simp [V.uses, V.usesL, AM.look_cons, V.usesL_data, V.uses_data, da_i, da_chV, da_ruV, da_prV, da_enV, da_cfV, da_veV, da_inV, da_edV, da_grV, da_weV, da_mbV, da_suV, da_viV]; done)))
    · repeat' (first | refine yw ?_ | ((with_reducible refine Runs.is ?_); first | refine Runs.region (id := 6) ?_ | ((with_reducible refine Runs.isC ?_); refine Runs.cond rfl (zc ?_) (zc ?_) <;> intro hc <;> (try (first | contradiction | (exfalso; omega; done) | (have : hc = trivial := rfl; clear this; clear hc))))) | ((with_reducible refine r_is ?_); first | refine yr ?_) | fail)
      refine ih (i + 1) _ ⟨by omega, by omega⟩ zo ?_
      rw [hst, ← hendk zo]
      (refine St.Le.clean zR zU zV)
  · rw [hend zo]
    repeat' (first | refine yw ?_ | ((with_reducible refine Runs.is ?_); first | refine Runs.region (id := 15) ?_ | ((with_reducible refine Runs.isC ?_); refine Runs.cond rfl (zc ?_) (zc ?_) <;> intro hc <;> (try (first | contradiction | (exfalso; omega; done) | (have : hc = trivial := rfl; clear this; clear hc))))) | ((with_reducible refine r_is ?_); first | refine yr ?_) | fail)
    (refine Runs.ret1 Try.func27 rfl zM zD ?_; try exact zX)
end Go.Proofs
