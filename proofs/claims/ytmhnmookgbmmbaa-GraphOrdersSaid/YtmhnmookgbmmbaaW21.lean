/- Layer 10: awake. -/
import Derived.Test.YtmhnmookgbmmbaaW15
import Derived.Test.YtmhnmookgbmmbaaW17
import Derived.Test.YtmhnmookgbmmbaaW20
set_option linter.unusedVariables false
set_option linter.unusedSimpArgs false
set_option maxRecDepth 8000
set_option maxHeartbeats 4000000
set_option pp.deepTerms false
set_option pp.deepTerms.threshold 6
namespace Go.Proofs
open Go.AM
def awC : Config := [⟨201, 1, [⟨1, 9, 1, 0, ⟨0, 0, 0⟩⟩]⟩, ⟨202, 1, [⟨1, 9, 1, 0, ⟨0, 0, 0⟩⟩]⟩]
def awG : Graph := ofB (allB [] awC)
theorem aw_nodes : awG.nodes.length = 4 := by decide +kernel
theorem aw_edges : awG.edges.length = 4 := by decide +kernel
/-! The same with the successors as a function. -/
def stepWX (nx : Int → List Int) (m : List (Int × Int)) (i : Int) : List (Int × Int) := match getI m i with
  | none => m
  | some n => (nx i).foldl (addI n) (delI m i)
def waysX (nx : Int → List Int) (a b : Int) : List (Int × Int) := (upto a (b - 1)).foldl (stepWX nx) [(a, 1)]
def pathsX (nx : Int → List Int) (g : Graph) (a b : Int) : Int := if hasG g [a, b] then (getI (waysX nx a b) b).getD 0 else 0
theorem pathsX_eq (g : Graph) (a b : Int) : pathsB g a b = pathsX (nextG g) g a b := rfl
def stepReX (nx : Int → List Int) (m : List (Int × Bool)) (i : Int) : List (Int × Bool) := if (nx i).any (at0 m) then setI m i true else m
def reachX (nx : Int → List Int) (a b : Int) : List (Int × Bool) := (upto a (b - 1)).reverse.foldl (stepReX nx) [(b, true)]
def nxX (nx : Int → List Int) (m : List (Int × Bool)) (i : Int) : Int := ((nx i).find? (at0 m)).getD i
def pathX (nx : Int → List Int) (g : Graph) (a b : Int) : List Int := if hasG g [a, b] then (if at0 (reachX nx a b) a then pathF (nxX nx (reachX nx a b)) b (b - a).toNat a else []) else []
theorem pathX_eq (g : Graph) (a b : Int) : pathB g a b = pathX (nextG g) g a b := rfl
theorem sortI_sorted {zs : List Int} (h : zs.Pairwise (· ≤ ·)) : sortI zs = zs := List.mergeSort_of_pairwise (h.imp fun h => by simpa using h)
def nextP (g : Graph) (n : Int) : List Int := (g.edges.filter (nextC g n)).map (·.2)
def Ordered (l : List (Int × Int)) : Prop := l.Pairwise fun x y => x.1 = y.1 → x.2 ≤ y.2
theorem nextG_ord (g : Graph) (h : Ordered g.edges) : nextG g = nextP g := by
  funext n
  refine sortI_sorted ?_
  rw [List.pairwise_map]
  refine List.Pairwise.imp_of_mem ?_ (List.Pairwise.filter (nextC g n) h)
  intro x y hx hy hxy
  have h1 := (List.mem_filter.1 hx).2
  have h2 := (List.mem_filter.1 hy).2
  simp only [nextC, Bool.and_eq_true, decide_eq_true_eq] at h1 h2
  exact hxy zo
theorem aw_ord : nextG awG = nextP awG := nextG_ord _ (by show List.Pairwise _ _; decide +kernel)
theorem aw_paths : pathsB awG 0 3 = 2 := by rw [pathsX_eq, aw_ord]; decide +kernel
theorem aw_path : (pathB awG 0 3).length = 3 := by rw [pathX_eq, aw_ord]; decide +kernel
theorem aw_levels : (levelsB awG.nodes).length = 3 := by
  rw [levelsB, List.length_map, sortI_sorted (by decide +kernel)]; decide +kernel
theorem aw_contract : (ofB (contractB awG.nodes (awC.take 1))).nodes.length = 2 := by decide +kernel
theorem aw_prune : (ofB (pruneB awG.nodes (awC.take 1))).nodes.length = 3 := by decide +kernel
theorem aw_sm : ∀ c ∈ awG.nodes, c.length ≤ 2 := by decide +kernel
theorem aw_eq : ∀ c ∈ awG.nodes, containsB c c = true := by decide +kernel
theorem aw_few : Few awG.nodes := ⟨by rw [aw_nodes]; decide, fun c hc => Nat.le_trans (aw_sm c hc) zd⟩
theorem law_awake : AM.Fn Try.prog 16 [] (.b true) := by
  have hsC : Small awC := ⟨by decide, by decide +kernel⟩
  have hsm : ∀ c ∈ awG.nodes, Small c := by
    intro c hc; exact ⟨Nat.le_trans (aw_sm c hc) zd, by revert c; decide +kernel⟩
  have h1 := aw_nodes
  have h2 := aw_edges
  have h3 := aw_paths
  have h4 := aw_path
  have h5 := aw_levels
  have h6 := aw_contract
  have h7 := aw_prune
  have hfew := aw_few
  (refine spec_of_runs Try.func16 rfl ?_; simp only [Try.f16]; refine ys ?_)
  repeat' (first | refine yw ?_ | refine Runs.region (id := 0) ?_ | refine Runs.region (id := 1) ?_ | refine yrb ?_ | (refine r_buildOwn (D := 5) SlF.h ZoF.h zd zB zd rfl ?_; refine r_nn zN zH ?_) | (refine r_build SlF.h ZoF.h zd zB ?_; refine r_n zN ?_) | (refine Runs.cond rfl (zc ?_) (zc ?_) <;> intro hc <;> (try (first | contradiction | (exfalso; omega; done) | (have : hc = trivial := rfl; clear this; clear hc)))))
  (refine Runs.weaken (St.Le.freeze_lst 5 rfl) ?_; refine yf ?_)
  repeat' (first | refine yw ?_ | refine Runs.region (id := 2) ?_ | refine yr ?_ | (refine Runs.cond rfl (zc ?_) (zc ?_) <;> intro hc <;> (try (first | contradiction | (exfalso; omega; done) | (have : hc = trivial := rfl; clear this; clear hc)))))
  refine Runs.weaken (St.Le.clean (s' := ⟨[.any, .any, .sl false (awC.map prV), .any, .any, .any, .any, .any, .any, .any, .any, .any, .any, .any, .any, .any, .any, .any, .any, .any, .any, .any, .any, .any, .any, .any, .any, .any, .any, .any, .any, .any, .any, .any, .any, .any, .any, .any, .any, .any, .any, .any, .any, .any, .any, .any, .any, .any, .any, .any, .any, .any, .any, .any, .any, .any, .any, .any, .any, .any, .any, .any, .any], []⟩) (by repeat' (first | exact V.LeL.nil | refine V.LeL.cons ?_ ?_ | exact V.Le.any _ | exact V.Le.full _ | exact V.Le.refl _)) (by simp [V.usesL, V.uses, AM.look_cons, V.usesL_data, da_prV]) trivial) ?_
  have hB := graph_Build false false [] awC zd hsC zd (by unfold Fine; decide +kernel) hfew
  rw [show ofB (allB [] awC) = awG from rfl] at hB
  repeat' (first | refine yw ?_ | refine Runs.region (id := 3) ?_ | refine yr ?_ | (refine r_fn rfl (hB) HbF.h zL2 zD ?_; refine r_nn zN zH ?_) | (refine Runs.cond rfl (zc ?_) (zc ?_) <;> intro hc <;> (try (first | contradiction | (exfalso; omega; done) | (have : hc = trivial := rfl; clear this; clear hc)))))
  have hl2 : awC.length = 2 := rfl
  have hEq := graph_Equal_refl awG aw_eq
  clear hB
  generalize awG = g at *
  generalize awC = c at *
  have hPs := graph_Paths g 0 3 zo zo
  have hPh := graph_Path g 0 3 zo zo
  have hL := graph_Levels g hfew
  have hCo := graph_Contract false g (c.take 1) hsm hfew
  have hPr := graph_Prune false g (c.take 1) hsm hfew
  rw [List.map_take] at hCo hPr
  have hda : V.dataL (List.take 1 (List.map prV c)) = true := by rw [← List.map_take]; exact dl_prV _
  repeat' (first | refine yw ?_ | refine Runs.drawn (id := 4) mixed zK ?_ | refine yd ?_ | (refine d_fn rfl (hPs) HbF.h zL3 zD ?_; refine d_nn zN zH ?_) | (refine d_fn rfl (hPh) HbF.h zL3 zD ?_; refine d_nn zN zH ?_) | (refine d_fn rfl (hL) HbF.h zL1 zD ?_; refine d_nn zN zH ?_) | (refine d_fn rfl (hCo) HbF.h zL2 zD ?_; refine d_nn zN zH ?_) | (refine d_fn rfl (hPr) HbF.h zL2 zD ?_; refine d_nn zN zH ?_) | (refine d_fn rfl (hEq) HbF.h zL2 zD ?_; refine d_nn zN zH ?_) | ((first | refine d_guardPt rfl rfl ?_ ?_ | refine d_guardNt rfl rfl ?_ ?_ | refine d_guard rfl rfl ?_ ?_) <;> intro hG <;> (try (exfalso; omega; done)) <;> refine d_nn zN zH ?_) | (refine Runs.cond rfl (zc ?_) (zc ?_) <;> intro hc <;> (try (first | contradiction | (exfalso; omega; done) | (have : hc = trivial := rfl; clear this; clear hc)))))
  (refine Runs.ret1 Try.func16 rfl zM zD ?_; try exact zX)
end Go.Proofs
