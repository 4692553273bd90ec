/- The reference's Paths and Path. -/
import Derived.Test.YtmhnmookgbmmbaaW16
set_option linter.unusedVariables false
set_option linter.unusedSimpArgs false
set_option maxRecDepth 8000
set_option maxHeartbeats 4000000
set_option pp.deepTerms false
set_option pp.deepTerms.threshold 6
namespace Go.Proofs
open Go.AM
def wayStep (nodes : List Config) (b n : Int) (ways : List Int) (e : Int × Int) : List Int :=
  if ((nodes.getD e.1.toNat default).length : Int) = n ∧ e.1 ≠ b then ways.set e.1.toNat (wr (ways.getD e.1.toNat default + ways.getD e.2.toNat default)) else ways
def wayTop (nodes : List Config) (b : Int) : Nat := (nodes.getD b.toNat default).length
/-- The ways when 'k' levels have been looked at. -/
def waysK (nodes : List Config) (edges : List (Int × Int)) (b : Int) : Nat → List Int
  | 0 => (List.replicate nodes.length 0).set b.toNat 1
  | k + 1 => edges.foldl (wayStep nodes b (wayTop nodes b - 1 - k)) (waysK nodes edges b k)
def InG (nodes : List Config) (a : Int) : Prop := 0 ≤ a ∧ a < nodes.length
instance (nodes : List Config) (a : Int) : Decidable (InG nodes a) := inferInstanceAs (Decidable (_ ∧ _))
def pathsR (nodes : List Config) (edges : List (Int × Int)) (a b : Int) : Int :=
  if InG nodes a ∧ InG nodes b then (waysK nodes edges b (wayTop nodes b)).getD a.toNat default else 0
theorem wayStep_len (nodes : List Config) (b n : Int) (ways : List Int) (e : Int × Int) : (wayStep nodes b n ways e).length = ways.length := by
  unfold wayStep; split <;> simp
theorem wayFold_len (nodes : List Config) (b n : Int) (l : List (Int × Int)) (ways : List Int) : (l.foldl (wayStep nodes b n) ways).length = ways.length := by
  induction l generalizing ways with
  | nil => rfl
  | cons e l ih => rw [List.foldl_cons, ih, wayStep_len]
theorem waysK_len (nodes : List Config) (edges : List (Int × Int)) (b : Int) (k : Nat) : (waysK nodes edges b k).length = nodes.length := by
  induction k with
  | zero => simp [waysK]
  | succ k ih => rw [waysK, wayFold_len, ih]
def EdgeIn (nodes : List Config) (edges : List (Int × Int)) : Prop := ∀ e ∈ edges, InG nodes e.1 ∧ InG nodes e.2
theorem EdgeIn.getD {nodes : List Config} {edges : List (Int × Int)} (h : EdgeIn nodes edges) {i : Nat} (hi : i < edges.length) :
    (0 ≤ (edges.getD i default).1 ∧ (edges.getD i default).1 < nodes.length) ∧ 0 ≤ (edges.getD i default).2 ∧ (edges.getD i default).2 < nodes.length := by
  have : edges.getD i default ∈ edges := by rw [List.getD_eq_getElem?_getD, List.getElem?_eq_getElem hi]; exact List.getElem_mem hi
  exact h _ this
theorem ref_Paths (f h : Bool) (nodes : List Config) (edges : List (Int × Int)) (a b : Int) (hn : nodes.length ≤ 100000) (hs : Few nodes) (he : edges.length ≤ 10000000000) (hE : EdgeIn nodes edges) :
    AM.Fn Try.prog 28 [.sl f (nodes.map cfV), .sl h (edges.map edV), .i a, .i b] (.i (pathsR nodes edges a b)) := by
  by_cases hr : InG nodes a ∧ InG nodes b
  · rw [pathsR, if_pos hr]
    obtain ⟨ha, hb⟩ := hr
    unfold InG at ha hb
    have hL := hs.getD b.toNat
    (refine spec_of_runs Try.func28 rfl ?_; simp only [Try.f28]; refine ys ?_)
    repeat' (first | refine yw ?_ | refine Runs.region (id := 0) ?_ | refine Runs.region (id := 1) ?_ | refine Runs.region (id := 2) ?_ | refine Runs.region (id := 3) ?_ | refine Runs.region (id := 4) ?_ | refine Runs.region (id := 5) ?_ | refine yr ?_ | ((first | refine r_guardPf rfl rfl ?_ ?_ | refine r_guardNf rfl rfl ?_ ?_ | refine r_guard rfl rfl ?_ ?_) <;> intro hG <;> (try (exfalso; omega; done)) <;> refine r_nn zN zH ?_) | (refine Runs.cond rfl (zc ?_) (zc ?_) <;> intro hc <;> (try (first | contradiction | (exfalso; omega; done) | (have : hc = trivial := rfl; clear this; clear hc)))))
    rw [show (nodes.getD b.toNat default).length = wayTop nodes b from rfl] at hL ⊢
    refine Runs.loopI (fun k : Nat => wayTop nodes b - k) (fun k => k ≤ wayTop nodes b)
      (fun k => ⟨[.sl f (nodes.map cfV), .sl h (edges.map edV), .i a, .i b, .any, .any, .any, .any, .any, .own 32, .i ((wayTop nodes b : Int) - 1 - k), .any, .any, .any, .any, .any, .any, .any, .any, .any, .any, .any, .any, .any, .any, .any, .any, .any, .any, .any, .any, .any, .any, .any, .any, .any, .any, .any, .any, .any, .any, .any, .any, .any, .any, .any, .any, .any, .any, .any, .any, .any, .any, .any, .any, .any, .any, .any, .any, .any, .any, .any, .any, .any, .any, .any, .any, .any, .any, .any, .any, .any, .any, .any, .any, .any, .any, .any, .any, .any, .any, .any, .any, .any, .any, .any, .any, .any, .any, .any, .any, .any, .any, .any, .any, .any, .any, .any, .any, .any], [(32, .lst 3 1 ((waysK nodes edges b k).map .i))]⟩) 0 (by simp) ?_ ?_
    · rw [show ((wayTop nodes b : Nat) : Int) - 1 - (0 : Nat) = (wayTop nodes b : Int) - 1 by omega, waysK, List.map_set]
      (refine St.Le.clean zR zU zV)
    rintro k hk ih
    have hwl := waysK_len nodes edges b k
    have hsucc : waysK nodes edges b (k + 1) = edges.foldl (wayStep nodes b (wayTop nodes b - 1 - k)) (waysK nodes edges b k) := rfl
    have hend : wayTop nodes b ≤ k → waysK nodes edges b k = waysK nodes edges b (wayTop nodes b) := fun h => by rw [show k = wayTop nodes b by omega]
    generalize waysK nodes edges b k = W at hwl hsucc hend ⊢
    repeat' (first | refine yw ?_ | refine Runs.region (id := 6) ?_ | refine Runs.region (id := 8) ?_ | refine Runs.region (id := 7) ?_ | refine yr ?_ | (refine Runs.cond rfl (zc ?_) (zc ?_) <;> intro hc <;> (try (first | contradiction | (exfalso; omega; done) | (have : hc = trivial := rfl; clear this; clear hc)))))
    · refine Runs.loopI (fun i : Nat => edges.length - i) (fun i => i ≤ edges.length)
        (fun i => ⟨[.sl f (nodes.map cfV), .sl h (edges.map edV), .i a, .i b, .any, .any, .any, .any, .any, .own 32, .i ((wayTop nodes b : Int) - 1 - k), .i (i : Nat), .any, .any, .any, .any, .any, .any, .any, .any, .any, .any, .any, .any, .any, .any, .any, .any, .any, .any, .any, .any, .any, .any, .any, .any, .any, .any, .any, .any, .any, .any, .any, .any, .any, .any, .any, .any, .any, .any, .any, .any, .any, .any, .any, .any, .any, .any, .any, .any, .any, .any, .any, .any, .any, .any, .any, .any, .any, .any, .any, .any, .any, .any, .any, .any, .any, .any, .any, .any, .any, .any, .any, .any, .any, .any, .any, .any, .any, .any, .any, .any, .any, .any, .any, .any, .any, .any, .any, .any], [(32, .lst 3 1 (((edges.take i).foldl (wayStep nodes b (wayTop nodes b - 1 - k)) W).map .i))]⟩) 0 (by simp) ?_ ?_
      · (refine St.Le.clean zR zU zV)
      rintro i hi ihi
      have hlen := wayFold_len nodes b (wayTop nodes b - 1 - k) (edges.take i) W
      have hst := fun (h : i < edges.length) => foldl_take (g := wayStep nodes b (wayTop nodes b - 1 - k)) (s := W) h
      have hfin : edges.length ≤ i → (edges.take i).foldl (wayStep nodes b (wayTop nodes b - 1 - k)) W = edges.foldl (wayStep nodes b (wayTop nodes b - 1 - k)) W := fun h => by rw [List.take_of_length_le h]
      generalize (edges.take i).foldl (wayStep nodes b (wayTop nodes b - 1 - k)) W = U at hlen hst hfin ⊢
      have hEi := fun h => hE.getD (i := i) h
      by_cases hlt : i < edges.length
      · have hE2 := hEi hlt
        have hst2 := hst hlt
        clear hEi hst hfin
        repeat' (first | refine yw ?_ | refine Runs.region (id := 9) ?_ | refine Runs.region (id := 11) ?_ | refine Runs.drawn (id := 12) mixed zK ?_ | refine Runs.region (id := 10) ?_ | refine yr ?_ | refine yd ?_ | ((first | refine r_guardPt rfl rfl ?_ ?_ | refine r_guardNt rfl rfl ?_ ?_ | refine r_guard rfl rfl ?_ ?_) <;> intro hG <;> (try (exfalso; omega; done)) <;> refine r_nn zN zH ?_) | (refine Runs.cond rfl (zc ?_) (zc ?_) <;> intro hc <;> (try (first | contradiction | (exfalso; omega; done) | (have : hc = trivial := rfl; clear this; clear hc)))))
        all_goals (try repeat' (first | refine yw ?_ | refine Runs.region (id := 10) ?_ | refine yr ?_ | (refine Runs.cond rfl (zc ?_) (zc ?_) <;> intro hc <;> (try (first | contradiction | (exfalso; omega; done) | (have : hc = trivial := rfl; clear this; clear hc))))))
        all_goals (refine ihi (i + 1) _ zo zo ?_)
        all_goals (rw [hst2])
        · rw [wayStep, if_pos ⟨by assumption, by assumption⟩]
          (refine St.Le.clean zR (by first | (simp [V.usesL, V.uses, AM.look_cons]; done) | (simp [V.usesL, V.uses, AM.look_cons, V.usesL_data, V.uses_data, da_i, da_chV, da_ruV, da_prV, da_enV, da_cfV, da_veV, da_inV, da_edV, da_grV, da_weV, da_mbV, da_suV, da_viV]; done)) ?_; (repeat' (first | exact True.intro | refine And.intro ?_ ?_)); all_goals (first | rfl | (simp [AM.look_cons, wr]; done) | (simp [V.uses, V.usesL, AM.look_cons, V.usesL_data, V.uses_data, da_i, da_chV, da_ruV, da_prV, da_enV, da_cfV, da_veV, da_inV, da_edV, da_grV, da_weV, da_mbV, da_suV, da_viV]; done)))
        all_goals (rw [wayStep, if_neg zo])
        all_goals (refine St.Le.clean zR zU zV)
      · repeat' (first | refine yw ?_ | refine Runs.region (id := 9) ?_ | refine yr ?_ | (refine Runs.cond rfl (zc ?_) (zc ?_) <;> intro hc <;> (try (first | contradiction | (exfalso; omega; done) | (have : hc = trivial := rfl; clear this; clear hc)))))
        repeat' (first | refine yw ?_ | refine Runs.region (id := 7) ?_ | refine yr ?_ | (refine Runs.cond rfl (zc ?_) (zc ?_) <;> intro hc <;> (try (first | contradiction | (exfalso; omega; done) | (have : hc = trivial := rfl; clear this; clear hc)))))
        refine ih (k + 1) _ zo zo ?_
        rw [hsucc, ← hfin zo, show ((wayTop nodes b : Nat) : Int) - 1 - ((k + 1 : Nat) : Int) = (wayTop nodes b : Int) - 1 - k - 1 by omega]
        (refine St.Le.clean zR zU zV)
    · rw [hend zo] at hwl ⊢
      repeat' (first | refine yw ?_ | refine Runs.region (id := 13) ?_ | refine yr ?_ | (refine Runs.cond rfl (zc ?_) (zc ?_) <;> intro hc <;> (try (first | contradiction | (exfalso; omega; done) | (have : hc = trivial := rfl; clear this; clear hc)))))
      (refine Runs.ret1 Try.func28 rfl zM zD ?_; try exact zX)
  · rw [pathsR, if_neg hr]
    unfold InG at hr
    (refine spec_of_runs Try.func28 rfl ?_; simp only [Try.f28]; refine ys ?_)
    repeat' (first | refine yw ?_ | refine Runs.region (id := 0) ?_ | refine Runs.region (id := 1) ?_ | refine Runs.region (id := 2) ?_ | refine yr ?_ | ((first | refine r_guardPf rfl rfl ?_ ?_ | refine r_guardNf rfl rfl ?_ ?_ | refine r_guard rfl rfl ?_ ?_) <;> intro hG <;> (try (exfalso; omega; done)) <;> refine r_nn zN zH ?_) | (refine Runs.cond rfl (zc ?_) (zc ?_) <;> intro hc <;> (try (first | contradiction | (exfalso; omega; done) | (have : hc = trivial := rfl; clear this; clear hc)))))
    all_goals (refine Runs.ret1 Try.func28 rfl zM zD ?_; try exact zX)
/-- The first edge from 'x' from whose end 'b' can be reached. -/
def goodE (nodes : List Config) (edges : List (Int × Int)) (b x : Int) (e : Int × Int) : Bool := decide (e.1 = x) && decide (0 < pathsR nodes edges e.2 b)
def nextIn (p : Int × Int → Bool) (l : List (Int × Int)) : Int := ((l.find? p).map (·.2)).getD (-1)
def pathRF (nodes : List Config) (edges : List (Int × Int)) (b : Int) : Nat → Int → List Int → List Int
  | 0, _, out => out
  | k + 1, x, out => if x = b then out else if nextIn (goodE nodes edges b x) edges < 0 then [] else pathRF nodes edges b k (nextIn (goodE nodes edges b x) edges) (out ++ [nextIn (goodE nodes edges b x) edges])
def pathR (nodes : List Config) (edges : List (Int × Int)) (a b : Int) : List Int := if pathsR nodes edges a b = 0 then [] else pathRF nodes edges b nodes.length a [a]
theorem nextIn_take {p : Int × Int → Bool} {l : List (Int × Int)} {i : Nat} (hi : i < l.length) (hp : ∀ e ∈ l, 0 ≤ e.2) (hn : nextIn p (l.take i) < 0) :
    nextIn p (l.take (i + 1)) = if p (l.getD i default) then (l.getD i default).2 else nextIn p (l.take i) := by
  unfold nextIn at *
  have h0 : (l.take i).find? p = none := by
    cases h : (l.take i).find? p with
    | none => rfl
    | some e =>
      rw [h] at hn
      have := hp e (List.mem_of_mem_take (List.mem_of_find?_eq_some h))
      simp at hn; omega
  rw [take_getD hi, List.find?_append, h0, Option.none_or, List.find?_cons]
  cases p (l.getD i default) <;> simp
theorem nextIn_end {p : Int × Int → Bool} {l : List (Int × Int)} {i : Nat} (hp : ∀ e ∈ l, 0 ≤ e.2) (h : l.length ≤ i ∨ 0 ≤ nextIn p (l.take i)) : nextIn p (l.take i) = nextIn p l := by
  rcases h with h | h
  · rw [List.take_of_length_le h]
  · unfold nextIn at *
    cases hf : (l.take i).find? p with
    | none => rw [hf] at h; simp at h
    | some e =>
      have : l.find? p = some e := by
        conv => lhs; rw [← List.take_append_drop i l]
        rw [List.find?_append, hf]; rfl
      rw [this]
theorem ref_Path (f h : Bool) (nodes : List Config) (edges : List (Int × Int)) (a b : Int) (hn : nodes.length ≤ 100000) (hs : Few nodes) (he : edges.length ≤ 10000000000) (hE : EdgeIn nodes edges) :
    AM.Fn Try.prog 31 [.sl f (nodes.map cfV), .sl h (edges.map edV), .i a, .i b] (.sl false ((pathR nodes edges a b).map .i)) := by
  have hP := fun x => ref_Paths f h nodes edges x b hn hs he hE
  have hp0 : ∀ e ∈ edges, 0 ≤ e.2 := fun e he => (hE e he).2.1
  (refine spec_of_runs Try.func31 rfl ?_; simp only [Try.f31]; refine ys ?_)
  repeat' (first | refine yw ?_ | refine Runs.region (id := 0) ?_ | refine Runs.region (id := 1) ?_ | refine Runs.region (id := 2) ?_ | refine Runs.region (id := 3) ?_ | refine Runs.region (id := 4) ?_ | refine yrb ?_ | (refine r_buildOwn (D := 20) SlF.h ZoF.h zd zB zd rfl ?_; refine r_nn zN zH ?_) | (refine r_build SlF.h ZoF.h zd zB ?_; refine r_n zN ?_) | (refine r_fn rfl (hP _) HbF.h zL4 zD ?_; refine r_nn zN zH ?_) | (refine Runs.cond rfl (zc ?_) (zc ?_) <;> intro hc <;> (try (first | contradiction | (exfalso; omega; done) | (have : hc = trivial := rfl; clear this; clear hc)))))
  · (refine Runs.ret1 Try.func31 rfl zM zD ?_; try exact zX)
    rw [pathR, if_pos hc]; exact V.Le.nil _
  have hres : pathR nodes edges a b = pathRF nodes edges b nodes.length a [a] := if_neg hc
  rw [hres]
  refine Runs.loopI (α := Nat × Int × List Int) (fun s => s.1) (fun s => s.2.2.length + s.1 = nodes.length + 1 ∧ pathRF nodes edges b s.1 s.2.1 s.2.2 = pathRF nodes edges b nodes.length a [a])
    (fun s => ⟨[.sl f (nodes.map cfV), .sl h (edges.map edV), .any, .i b, .any, .any, .any, .any, .any, .own 20, .i s.2.1, .any, .any, .any, .any, .any, .any, .any, .any, .any, .any, .any, .any, .any, .any, .any, .any, .any, .any, .any, .any, .any, .any, .any, .any, .any, .any, .any, .any, .any, .any, .any, .any, .any, .any, .any, .any, .any, .any, .any, .any, .any, .any, .any, .any, .any, .any, .any, .any, .any, .any, .any, .any, .any, .any, .any, .any, .any, .any, .any, .any, .any, .any, .any], [(20, .lst 3 1 (s.2.2.map .i))]⟩) (nodes.length, a, [a]) (by simp; omega) ?_ ?_
  · (refine St.Le.clean zR zU zV)
  rintro ⟨k, x, out⟩ ⟨h1, h2⟩ ih
  dsimp only at h1 h2 ih ⊢
  by_cases hx : x = b
  · subst hx
    have e : pathRF nodes edges x k x out = out := by cases k <;> simp [pathRF]
    rw [e] at h2
    rw [← h2]
    repeat' (first | refine yw ?_ | refine Runs.region (id := 5) ?_ | refine yr ?_ | ((first | refine r_guardPt rfl rfl ?_ ?_ | refine r_guardNt rfl rfl ?_ ?_ | refine r_guard rfl rfl ?_ ?_) <;> intro hG <;> (try (exfalso; omega; done)) <;> refine r_nn zN zH ?_) | (refine Runs.cond rfl (zc ?_) (zc ?_) <;> intro hc <;> (try (first | contradiction | (exfalso; omega; done) | (have : hc = trivial := rfl; clear this; clear hc)))))
    repeat' (first | refine yw ?_ | refine Runs.region (id := 16) ?_ | refine yr ?_ | (refine Runs.cond rfl (zc ?_) (zc ?_) <;> intro hc <;> (try (first | contradiction | (exfalso; omega; done) | (have : hc = trivial := rfl; clear this; clear hc)))))
    exact Runs.ret_frz Try.func31 rfl rfl rfl rfl
  cases k with
  | zero =>
    rw [← h2, pathRF]
    repeat' (first | refine yw ?_ | refine Runs.region (id := 5) ?_ | refine yr ?_ | ((first | refine r_guardPt rfl rfl ?_ ?_ | refine r_guardNt rfl rfl ?_ ?_ | refine r_guard rfl rfl ?_ ?_) <;> intro hG <;> (try (exfalso; omega; done)) <;> refine r_nn zN zH ?_) | (refine Runs.cond rfl (zc ?_) (zc ?_) <;> intro hc <;> (try (first | contradiction | (exfalso; omega; done) | (have : hc = trivial := rfl; clear this; clear hc)))))
    repeat' (first | refine yw ?_ | refine Runs.region (id := 16) ?_ | refine yr ?_ | (refine Runs.cond rfl (zc ?_) (zc ?_) <;> intro hc <;> (try (first | contradiction | (exfalso; omega; done) | (have : hc = trivial := rfl; clear this; clear hc)))))
    exact Runs.ret_frz Try.func31 rfl rfl rfl rfl
  | succ k =>
    rw [pathRF, if_neg hx] at h2
    have hg : ∀ e : Int × Int, goodE nodes edges b x e = (decide (e.1 = x) && decide (0 < pathsR nodes edges e.2 b)) := fun _ => rfl
    generalize goodE nodes edges b x = p at h2 hg
    repeat' (first | refine yw ?_ | refine Runs.region (id := 5) ?_ | refine Runs.region (id := 6) ?_ | refine Runs.region (id := 7) ?_ | refine yr ?_ | ((first | refine r_guardPt rfl rfl ?_ ?_ | refine r_guardNt rfl rfl ?_ ?_ | refine r_guard rfl rfl ?_ ?_) <;> intro hG <;> (try (exfalso; omega; done)) <;> refine r_nn zN zH ?_) | (refine Runs.cond rfl (zc ?_) (zc ?_) <;> intro hc <;> (try (first | contradiction | (exfalso; omega; done) | (have : hc = trivial := rfl; clear this; clear hc)))))
    refine Runs.loopI (fun i : Nat => edges.length - i) (fun i => i ≤ edges.length)
      (fun i => ⟨[.sl f (nodes.map cfV), .sl h (edges.map edV), .any, .i b, .any, .any, .any, .any, .any, .own 20, .i x, .i (nextIn p (edges.take i)), .i (i : Nat), .any, .any, .any, .any, .any, .any, .any, .any, .any, .any, .any, .any, .any, .any, .any, .any, .any, .any, .any, .any, .any, .any, .any, .any, .any, .any, .any, .any, .any, .any, .any, .any, .any, .any, .any, .any, .any, .any, .any, .any, .any, .any, .any, .any, .any, .any, .any, .any, .any, .any, .any, .any, .any, .any, .any, .any, .any, .any, .any, .any, .any], [(20, .lst 3 1 (out.map .i))]⟩) 0 (by simp) ?_ ?_
    · (refine St.Le.clean zR (by first | (simp [V.usesL, V.uses, AM.look_cons]; done) | (simp [V.usesL, V.uses, AM.look_cons, V.usesL_data, V.uses_data, da_i, da_chV, da_ruV, da_prV, da_enV, da_cfV, da_veV, da_inV, da_edV, da_grV, da_weV, da_mbV, da_suV, da_viV]; done)) ?_; (repeat' (first | exact True.intro | refine And.intro ?_ ?_)); all_goals (first | rfl | (simp [AM.look_cons, nextIn]; done) | (simp [V.uses, V.usesL, AM.look_cons, V.usesL_data, V.uses_data, da_i, da_chV, da_ruV, da_prV, da_enV, da_cfV, da_veV, da_inV, da_edV, da_grV, da_weV, da_mbV, da_suV, da_viV]; done)))
    rintro i hi ihi
    have hst := fun (h : i < edges.length) => nextIn_take (p := p) h hp0
    have hfin := nextIn_end (p := p) (l := edges) (i := i) hp0
    generalize nextIn p (edges.take i) = nx at hst hfin ⊢
    by_cases hq : i < edges.length ∧ nx < 0
    · obtain ⟨hq1, hq2⟩ := hq
      have hst2 := hst hq1 hq2
      rw [hg] at hst2
      repeat' (first | refine yw ?_ | refine Runs.region (id := 8) ?_ | refine Runs.region (id := 10) ?_ | refine Runs.region (id := 11) ?_ | refine Runs.region (id := 9) ?_ | refine yr ?_ | (refine r_fn rfl (hP _) HbF.h zL4 zD ?_; refine r_nn zN zH ?_) | ((first | refine r_guardPt rfl rfl ?_ ?_ | refine r_guardNt rfl rfl ?_ ?_ | refine r_guard rfl rfl ?_ ?_) <;> intro hG <;> (try (exfalso; omega; done)) <;> refine r_nn zN zH ?_) | (refine Runs.cond rfl (zc ?_) (zc ?_) <;> intro hc <;> (try (first | contradiction | (exfalso; omega; done) | (have : hc = trivial := rfl; clear this; clear hc)))))
      all_goals (try repeat' (first | refine yw ?_ | refine Runs.region (id := 9) ?_ | refine yr ?_ | (refine Runs.cond rfl (zc ?_) (zc ?_) <;> intro hc <;> (try (first | contradiction | (exfalso; omega; done) | (have : hc = trivial := rfl; clear this; clear hc))))))
      all_goals (refine ihi (i + 1) _ zo zo ?_)
      all_goals (rw [hst2])
      · rw [decide_eq_true hG, decide_eq_true hc, Bool.and_self, if_pos rfl]
        (refine St.Le.clean zR zU zV)
      · rw [decide_eq_true hG, decide_eq_false (Int.not_lt.2 hc), Bool.and_false, if_neg Bool.false_ne_true]
        (refine St.Le.clean zR zU zV)
      · rw [decide_eq_false hG, Bool.false_and, if_neg Bool.false_ne_true]
        (refine St.Le.clean zR zU zV)
    · have hnx := hfin zo
      subst hnx
      have hbd : ∀ m : Nat, m + 1 ≤ 100001 → m + 1 ≤ 140737488355328 := fun m h => by omega
      repeat' (first | refine yw ?_ | refine Runs.region (id := 8) ?_ | refine yr ?_ | ((first | refine r_guardPt rfl rfl ?_ ?_ | refine r_guardNt rfl rfl ?_ ?_ | refine r_guard rfl rfl ?_ ?_) <;> intro hG <;> (try (exfalso; omega; done)) <;> refine r_nn zN zH ?_) | (refine Runs.cond rfl (zc ?_) (zc ?_) <;> intro hc <;> (try (first | contradiction | (exfalso; omega; done) | (have : hc = trivial := rfl; clear this; clear hc)))))
      all_goals (repeat' (first | refine yw ?_ | refine Runs.region (id := 12) ?_ | refine Runs.region (id := 13) ?_ | refine Runs.region (id := 14) ?_ | refine Runs.region (id := 15) ?_ | refine yr ?_ | (refine r_append_full SlF.h SlF.s ZoF.h zd rfl rfl zC zJ zS rfl (fun hn => ?_) (fun hn => ?_) <;> refine r_nn zN zH ?_) | (refine Runs.cond rfl (zc ?_) (zc ?_) <;> intro hc <;> (try (first | contradiction | (exfalso; omega; done) | (have : hc = trivial := rfl; clear this; clear hc))))))
      all_goals first
        | ((refine Runs.ret1 Try.func31 rfl zM zD ?_; try exact zX); rw [← h2, if_pos (by assumption)]; exact V.Le.nil _)
        | (refine ih (k, nextIn p edges, out ++ [nextIn p edges]) _ ⟨by simp; omega, by rw [← h2, if_neg zo]⟩ (by dsimp only; omega) ?_; (refine St.Le.clean zR zU zV))
end Go.Proofs
