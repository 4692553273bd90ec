/- Plain law: both sides count the same paths and take the same path. -/
import Derived.Test.YtmhnmookgbmmbaaW34
import Derived.Test.YtmhnmookgbmmbaaW27
set_option linter.unusedVariables false
set_option linter.unusedSimpArgs false
set_option maxRecDepth 8000
set_option maxHeartbeats 4000000
namespace Go.Proofs
open Go.AM
def lev (ns : List Config) (i : Nat) : Nat := (ns.getD i default).length
structure CountL (ns : List Config) (A : Nat → Nat → Bool) (t : Nat) (β : Nat → Nat) : Prop extends CountB A ns.length t β where
  high : ∀ i, i < ns.length → lev ns t ≤ lev ns i → i ≠ t → β i = 0
  small : ∀ i, i < ns.length → β i ≤ 9223372036854775807
def Lev (ns : List Config) (A : Nat → Nat → Bool) : Prop := ∀ i j, i < ns.length → j < ns.length → A i j = true → lev ns j = lev ns i + 1
/-! Forwards. -/
theorem paths_fwd {ns : List Config} {A : Nat → Nat → Bool} (hA : Asc A ns.length) {t a : Nat} {β : Nat → Nat} (hβ : CountL ns A t β) (ht : t < ns.length) (ha : a < ns.length) : pathsB (gA ns A) a t = β a := by
  unfold pathsB
  rw [hasG_two, if_pos (by simp [gA]; omega)]
  by_cases hat : a ≤ t
  · have h := ways_ok hA hβ.toCountB ht (a := a) (t - a) zo
    rw [show ((a + (t - a) : Nat) : Int) = t by omega] at h
    rw [show waysB (gA ns A) a t = (upto (a : Int) ((t : Int) - 1)).foldl (stepW (gA ns A)) [((a : Int), 1)] from rfl]
    generalize (upto (a : Int) ((t : Int) - 1)).foldl (stepW (gA ns A)) [((a : Int), 1)] = w at h ⊢
    have hs := sumM_top (m := ns.length) hβ.top hβ.zero h.uniq h.keys h.lt
    have hc := h.sum
    rw [hs] at hc
    have hw : wr ((getI w (t : Int)).getD 0) = (getI w (t : Int)).getD 0 := by
      cases hg : getI w (t : Int) with
      | none => rw [wr_eq]; rfl
      | some c => exact h.wrs _ (getI_mem hg)
    rw [← hw, wr_of hc, wr_small ⟨by omega, by have := hβ.small a ha; omega⟩]
  · rw [hβ.zero a zo ha]
    unfold waysB
    rw [show upto (a : Int) ((t : Int) - 1) = [] by unfold upto; rw [show ((t : Int) - 1 + 1 - a).toNat = 0 by omega]; rfl]
    rw [List.foldl_nil, getI, if_neg zo]; rfl
/-! Backwards. -/
theorem getD_set' (U : List Int) (p : Nat) (x : Int) (i : Nat) : (U.set p x).getD i default = if p = i ∧ i < U.length then x else U.getD i default := by
  simp only [List.getD_eq_getElem?_getD, List.getElem?_set]
  by_cases h : p = i
  · subst h
    by_cases h2 : p < U.length
    · simp [h2]
    · simp [h2]
  · simp [h]
theorem fold_ways {ns : List Config} {t : Nat} {n : Int} (hn : ¬ (lev ns t : Int) = n) : ∀ (E : List (Int × Int)), (∀ e ∈ E, ∃ i j : Nat, i < ns.length ∧ j < ns.length ∧ e = ((i : Int), (j : Int)) ∧ lev ns j = lev ns i + 1) →
    ∀ (U : List Int), U.length = ns.length → (∀ i, (lev ns i : Int) = n → wr (U.getD i default) = U.getD i default) → ∀ i, i < ns.length →
    (E.foldl (wayStep ns t n) U).getD i default = if (lev ns i : Int) = n then wr (U.getD i default + ((E.filter fun e : Int × Int => decide (e.1 = (i : Int))).map fun e : Int × Int => U.getD e.2.toNat default).sum) else U.getD i default
  | [], _, U, hU, hw, i, hi => by
    rw [List.foldl_nil]
    split
    · rename_i h
      rw [List.filter_nil, List.map_nil, List.sum_nil, Int.add_zero, hw i h]
    · rfl
  | e :: E, hE, U, hU, hw, i, hi => by
    obtain ⟨p, q, hp, hq, rfl, hl⟩ := hE e (by simp)
    have hE' := fun e he => hE e (List.mem_cons_of_mem _ he)
    rw [List.foldl_cons]
    by_cases hpn : (lev ns p : Int) = n
    · have hpt : p ≠ t := fun h => hn (h ▸ hpn)
      have hst : wayStep ns t n U ((p : Int), (q : Int)) = U.set p (wr (U.getD p default + U.getD q default)) := by
        unfold wayStep
        dsimp only
        rw [Int.toNat_natCast, Int.toNat_natCast, if_pos ⟨hpn, by omega⟩]
      rw [hst]
      have hg : ∀ x, (lev ns x : Int) ≠ n → (U.set p (wr (U.getD p default + U.getD q default))).getD x default = U.getD x default := fun x hx => by
        rw [getD_set', if_neg (fun h => hx (by rw [← h.1]; exact hpn))]
      rw [fold_ways hn E hE' _ (by rw [List.length_set]; exact hU) (fun x hx => by
        rw [getD_set']
        split
        · exact wr_wr _
        · exact hw x hx) i hi]
      have hsum : ((E.filter fun e : Int × Int => decide (e.1 = (i : Int))).map fun e : Int × Int => (U.set p (wr (U.getD p default + U.getD q default))).getD e.2.toNat default) = ((E.filter fun e : Int × Int => decide (e.1 = (i : Int))).map fun e : Int × Int => U.getD e.2.toNat default) ∨ ¬ (lev ns i : Int) = n := by
        by_cases hin : (lev ns i : Int) = n
        · left
          refine List.map_congr_left fun x hx => ?_
          have hx2 := List.mem_filter.1 hx
          obtain ⟨i', j', h1, h2, rfl, h4⟩ := hE' x hx2.1
          have h5 : (i' : Int) = i := by simpa using hx2.2
          refine hg _ ?_
          dsimp only
          rw [Int.toNat_natCast, h4]
          have : i' = i := by omega
          subst this; omega
        · exact .inr hin
      by_cases hin : (lev ns i : Int) = n
      · rw [if_pos hin, if_pos hin, hsum.resolve_right (fun h => h hin), getD_set', List.filter_cons]
        by_cases hpi : p = i
        · subst hpi
          rw [if_pos ⟨rfl, by omega⟩, if_pos (by simp), List.map_cons, List.sum_cons]
          dsimp only
          rw [Int.toNat_natCast]
          refine wr_of ?_
          refine ((wr_cg _).add (Cg.refl _)).trans ⟨0, by omega⟩
        · rw [if_neg (fun h => hpi h.1), if_neg (by simp; omega)]
      · rw [if_neg hin, if_neg hin, hg i hin]
    · have hst : wayStep ns t n U ((p : Int), (q : Int)) = U := by
        unfold wayStep
        dsimp only
        rw [Int.toNat_natCast, if_neg (fun h => hpn h.1)]
      rw [hst, fold_ways hn E hE' U hU hw i hi]
      by_cases hin : (lev ns i : Int) = n
      · rw [if_pos hin, if_pos hin, List.filter_cons, if_neg]
        simp
        intro h
        obtain rfl : p = i := by omega
        exact hpn hin
      · rw [if_neg hin, if_neg hin]
theorem row_sum {A : Nat → Nat → Bool} {m i : Nat} (hi : i < m) (U : List Int) : (((edgesN A m m).filter fun e => decide (e.1 = (i : Int))).map fun e => U.getD e.2.toNat default) = (succA A m i).map fun j => U.getD j default := by
  rw [edgesN_eq, row_filter _ _ _ i hi]
  · rw [List.filter_eq_self.2, List.map_map]
    · refine List.map_congr_left fun j _ => ?_
      rw [Function.comp]; dsimp only; rw [Int.toNat_natCast]
    · intro e he
      obtain ⟨j, _, rfl⟩ := List.mem_map.1 he
      simp
  · intro k _ hne x hx
    obtain ⟨j, _, rfl⟩ := List.mem_map.1 hx
    dsimp only
    exact decide_eq_false zo
theorem sum_cg (β : Nat → Nat) : ∀ (l : List Nat), Cg ((l.map fun j => wr (β j)).sum) ((l.map β).sum : Nat)
  | [] => by simpa using Cg.refl 0
  | j :: l => by
    rw [List.map_cons, List.sum_cons, List.map_cons, List.sum_cons, Int.natCast_add]
    exact (wr_cg _).add (sum_cg β l)
theorem ways_back {ns : List Config} {A : Nat → Nat → Bool} (hL : Lev ns A) {t : Nat} {β : Nat → Nat} (hβ : CountL ns A t β) (ht : t < ns.length) : ∀ k, k ≤ lev ns t → ∀ i, i < ns.length →
    (waysK ns (edgesN A ns.length ns.length) t k).getD i default = if lev ns t ≤ lev ns i + k then wr (β i) else 0
  | 0, _, i, hi => by
    rw [waysK, Int.toNat_natCast, getD_set']
    have h0 : (List.replicate ns.length (0 : Int)).getD i default = 0 := by simp [List.getD_eq_getElem?_getD, hi]
    rw [h0, List.length_replicate]
    by_cases e : t = i
    · subst e
      rw [if_pos ⟨rfl, hi⟩, if_pos zo, hβ.top]; rfl
    · rw [if_neg (fun h => e h.1)]
      split
      · rename_i h
        rw [hβ.high i hi zo (fun h => e h.symm)]; rfl
      · rfl
  | k + 1, hk, i, hi => by
    have ih := ways_back hL hβ ht k zo
    have hlen := waysK_len ns (edgesN A ns.length ns.length) t k
    rw [waysK]
    have htop : wayTop ns (t : Int) = lev ns t := by unfold wayTop lev; rw [Int.toNat_natCast]
    rw [htop]
    generalize waysK ns (edgesN A ns.length ns.length) t k = U at ih hlen ⊢
    have hE : ∀ e ∈ edgesN A ns.length ns.length, ∃ i j : Nat, i < ns.length ∧ j < ns.length ∧ e = ((i : Int), (j : Int)) ∧ lev ns j = lev ns i + 1 := fun e he => by
      obtain ⟨i, j, h1, h2, h3, h4⟩ := mem_edgesN he
      exact ⟨i, j, h1, h2, h4, hL i j h1 h2 h3⟩
    rw [fold_ways zo _ hE U hlen (fun x hx => by
      by_cases hxl : x < ns.length
      · rw [ih x hxl, if_neg zo]; rfl
      · rw [List.getD_eq_getElem?_getD, List.getElem?_eq_none zo]; rfl) i hi]
    by_cases hin : (lev ns i : Int) = (lev ns t : Int) - 1 - k
    · rw [if_pos hin, if_pos zo, ih i hi, if_neg zo, row_sum hi]
      have hs : (succA A ns.length i).map (fun j => U.getD j default) = (succA A ns.length i).map fun j => wr (β j) := by
        refine List.map_congr_left fun j hj => ?_
        rw [mem_succA] at hj
        rw [ih j hj.1, if_pos (by rw [hL i j hi hj.1 hj.2]; omega)]
      rw [hs, hβ.rec_ i hi (fun h => by subst h; omega)]
      refine wr_of ?_
      rw [Int.zero_add]
      exact sum_cg β _
    · rw [if_neg hin, ih i hi]
      by_cases h : lev ns t ≤ lev ns i + k
      · rw [if_pos h, if_pos zo]
      · rw [if_neg h, if_neg zo]
theorem paths_back {ns : List Config} {A : Nat → Nat → Bool} (hL : Lev ns A) {t a : Nat} {β : Nat → Nat} (hβ : CountL ns A t β) (ht : t < ns.length) (ha : a < ns.length) : pathsR ns (edgesN A ns.length ns.length) a t = β a := by
  unfold pathsR
  rw [if_pos ⟨⟨by omega, by omega⟩, by omega, by omega⟩, Int.toNat_natCast]
  have htop : wayTop ns (t : Int) = lev ns t := by unfold wayTop lev; rw [Int.toNat_natCast]
  rw [htop, ways_back hL hβ ht _ (Nat.le_refl _) a ha, if_pos zo, wr_small ⟨by omega, by have := hβ.small a ha; omega⟩]
/-! The path. -/
theorem any_pos (β : Nat → Nat) (l : List Nat) : l.any (fun j => decide (0 < β j)) = decide (0 < (l.map β).sum) := by
  induction l with
  | nil => rfl
  | cons j l ih =>
    rw [List.any_cons, ih, List.map_cons, List.sum_cons, ← Bool.decide_or]
    exact decide_eq_decide.2 zo
theorem reach_is {ns : List Config} {A : Nat → Nat → Bool} (hA : Asc A ns.length) {t : Nat} {β : Nat → Nat} (hβ : CountL ns A t β) (ht : t < ns.length) : ∀ (n i : Nat), i + n = t → ∀ k : Nat, i ≤ k → k < ns.length →
    at0 ((upto (i : Int) ((t : Int) - 1)).reverse.foldl (stepRe (gA ns A)) [((t : Int), true)]) k = decide (0 < β k)
  | 0, i, hi, k, hk, hkl => by
    rw [show upto (i : Int) ((t : Int) - 1) = [] by unfold upto; rw [show ((t : Int) - 1 + 1 - i).toNat = 0 by omega]; rfl]
    rw [List.reverse_nil, List.foldl_nil]
    unfold at0 getI getI
    by_cases e : (t : Int) = k
    · obtain rfl : t = k := by omega
      rw [if_pos rfl, hβ.top]; rfl
    · rw [if_neg e, hβ.zero k zo hkl]; rfl
  | n + 1, i, hi, k, hk, hkl => by
    have hlo := reach_ok (gA ns A) (t : Int) n ((i : Int) + 1) zo
    rw [upto_cons zo, List.reverse_cons, List.foldl_append, List.foldl_cons, List.foldl_nil]
    have ih := reach_is hA hβ ht n (i + 1) zo
    rw [show ((i + 1 : Nat) : Int) = (i : Int) + 1 by omega] at ih
    generalize (upto ((i : Int) + 1) ((t : Int) - 1)).reverse.foldl (stepRe (gA ns A)) [((t : Int), true)] = R at ih hlo ⊢
    have hany : (nextG (gA ns A) i).any (at0 R) = decide (0 < β i) := by
      rw [next_is hA zo, List.any_map, hβ.rec_ i zo zo, ← any_pos]
      rw [Bool.eq_iff_iff, List.any_eq_true, List.any_eq_true]
      constructor
      · rintro ⟨j, hj, h⟩
        have hj2 := mem_succA.1 hj
        have := hA i j zo hj2.1 hj2.2
        exact ⟨j, hj, by rw [← ih j zo hj2.1]; exact h⟩
      · rintro ⟨j, hj, h⟩
        have hj2 := mem_succA.1 hj
        have := hA i j zo hj2.1 hj2.2
        exact ⟨j, hj, by rw [Function.comp, ih j zo hj2.1]; exact h⟩
    unfold stepRe
    rw [hany]
    by_cases e : k = i
    · subst e
      by_cases h : 0 < β k
      · rw [if_pos (by simpa using h)]
        unfold at0
        rw [getI_setI, if_pos rfl, decide_eq_true h]; rfl
      · rw [if_neg (by simpa using h), decide_eq_false h]
        cases hq : at0 R (k : Int) with
        | false => rfl
        | true => have := hlo.2.1 _ hq; omega
    · have hne : ¬ (k : Int) = (i : Int) := by omega
      split
      · unfold at0
        rw [getI_setI, if_neg hne]
        exact ih k zo hkl
      · exact ih k zo hkl
theorem first_some {β : Nat → Nat} {l : List Nat} (h : 0 < (l.map β).sum) : ∃ j, l.find? (fun j => decide (0 < β j)) = some j ∧ j ∈ l ∧ 0 < β j := by
  have h1 := any_pos β l
  rw [decide_eq_true h] at h1
  cases hf : l.find? (fun j => decide (0 < β j)) with
  | none =>
    rw [List.find?_eq_none] at hf
    obtain ⟨j, hj, hp⟩ := List.any_eq_true.1 h1
    exact absurd hp (hf j hj)
  | some j => exact ⟨j, rfl, List.mem_of_find?_eq_some hf, by simpa using List.find?_some hf⟩
theorem find_congr {α : Type} {p q : α → Bool} {l : List α} (h : ∀ x ∈ l, p x = q x) : l.find? p = l.find? q := by
  induction l with
  | nil => rfl
  | cons x l ih => rw [List.find?_cons, List.find?_cons, h x (by simp), ih fun y hy => h y (by simp [hy])]
theorem find_row {A : Nat → Nat → Bool} {m i : Nat} (hi : i < m) (p : Int × Int → Bool) (hp : ∀ e, p e = true → e.1 = (i : Int)) : (edgesN A m m).find? p = ((succA A m i).find? fun j : Nat => p ((i : Int), (j : Int))).map fun j : Nat => ((i : Int), (j : Int)) := by
  rw [← List.head?_filter, edgesN_eq, row_filter _ _ _ i hi]
  · rw [List.head?_filter, List.find?_map]; rfl
  · intro k _ hne x hx
    obtain ⟨j, _, rfl⟩ := List.mem_map.1 hx
    cases hq : p ((k : Int), (j : Int)) with
    | false => rfl
    | true => have := hp _ hq; dsimp only at this; omega
theorem path_go {ns : List Config} {A : Nat → Nat → Bool} (hA : Asc A ns.length) (hL : Lev ns A) {t : Nat} {β : Nat → Nat} (hβ : CountL ns A t β) (ht : t < ns.length) {R : List (Int × Bool)} {a : Nat} (hR : ∀ k : Nat, a ≤ k → k < ns.length → at0 R k = decide (0 < β k)) :
    ∀ (n i k f : Nat) (out : List Int), i + n = t → a ≤ i → 0 < β i → n ≤ k → n ≤ f →
    pathRF ns (edgesN A ns.length ns.length) t k i (out ++ [(i : Int)]) = out ++ pathF (nxB (gA ns A) R) t f i ∧
      ∃ l : List Nat, pathF (nxB (gA ns A) R) t f i = l.map (fun j : Nat => (j : Int)) ∧ l.length = lev ns t - lev ns i + 1 ∧ lev ns i ≤ lev ns t ∧ ∀ x, x < l.length → l.getD x 0 < ns.length ∧ lev ns (l.getD x 0) = lev ns i + x := by
  intro n
  induction n using Nat.strongRecOn with
  | _ n ihn =>
    intro i k f out hi hai hpos hk hf
    by_cases hit : i = t
    · subst hit
      rw [pathF_end]
      refine ⟨by cases k <;> simp [pathRF], [i], rfl, by simp, Nat.le_refl _, fun x hx => ?_⟩
      obtain rfl : x = 0 := by simpa using hx
      exact ⟨ht, rfl⟩
    · obtain ⟨k, rfl⟩ : ∃ k', k = k' + 1 := ⟨k - 1, by omega⟩
      obtain ⟨f, rfl⟩ : ∃ f', f = f' + 1 := ⟨f - 1, by omega⟩
      have hsum := hpos
      rw [hβ.rec_ i zo hit] at hsum
      obtain ⟨j, hj1, hj2, hj3⟩ := first_some hsum
      have hjm := mem_succA.1 hj2
      have hij := hA i j zo hjm.1 hjm.2
      have hlv := hL i j zo hjm.1 hjm.2
      have hjt : j ≤ t := by
        rcases Nat.lt_or_ge t j with h | h
        · have := hβ.zero j h hjm.1; omega
        · exact h
      have e1 : nxB (gA ns A) R (i : Int) = (j : Int) := by
        unfold nxB
        rw [next_is hA zo, List.find?_map, find_congr (q := fun j => decide (0 < β j)), hj1]
        · rfl
        · intro x hx
          have hx2 := mem_succA.1 hx
          have := hA i x zo hx2.1 hx2.2
          exact hR x zo hx2.1
      have e2 : nextIn (goodE ns (edgesN A ns.length ns.length) t i) (edgesN A ns.length ns.length) = (j : Int) := by
        unfold nextIn
        rw [find_row (i := i) zo _ (fun e he => by simpa using (Bool.and_eq_true_iff.1 he).1), find_congr (q := fun j => decide (0 < β j)), hj1]
        · rfl
        · intro x hx
          have hx2 := mem_succA.1 hx
          unfold goodE
          dsimp only
          rw [paths_back hL hβ ht hx2.1, decide_eq_true rfl, Bool.true_and]
          exact decide_eq_decide.2 zo
      obtain ⟨h1, l, h2, h3, h4, h5⟩ := ihn (t - j) zo j k f (out ++ [(i : Int)]) zo zo hj3 zo zo
      rw [pathRF, if_neg zo, e2, if_neg zo, pathF, if_neg zo, e1, h1, h2]
      refine ⟨by simp, i :: l, rfl, by simp only [List.length_cons]; omega, by omega, fun x hx => ?_⟩
      cases x with
      | zero => exact ⟨by simp; omega, by simp⟩
      | succ x =>
        have := h5 x (by simpa using hx)
        rw [List.getD_cons_succ]
        exact ⟨this.1, by omega⟩
/-- Both paths. -/
theorem path_same {ns : List Config} {A : Nat → Nat → Bool} (hA : Asc A ns.length) (hL : Lev ns A) (hC : ∀ t, t < ns.length → ∃ β, CountL ns A t β) (a b : Int) :
    pathsB (gA ns A) a b = pathsR ns (edgesN A ns.length ns.length) a b ∧ pathB (gA ns A) a b = pathR ns (edgesN A ns.length ns.length) a b := by
  by_cases hr : InG ns a ∧ InG ns b
  · obtain ⟨⟨ha0, ha1⟩, hb0, hb1⟩ := hr
    obtain ⟨a, rfl⟩ : ∃ n : Nat, a = n := ⟨a.toNat, by omega⟩
    obtain ⟨b, rfl⟩ : ∃ n : Nat, b = n := ⟨b.toNat, by omega⟩
    have ha : a < ns.length := by omega
    have hb : b < ns.length := by omega
    obtain ⟨β, hβ⟩ := hC b hb
    have e1 := paths_fwd hA hβ hb ha
    have e2 := paths_back hL hβ hb ha
    refine ⟨by rw [e1, e2], ?_⟩
    unfold pathB pathR
    rw [e2, hasG_two, if_pos (by simp [gA]; omega)]
    by_cases hab : a ≤ b
    · have hR := reach_is hA hβ hb (b - a) a zo
      rw [show reachB (gA ns A) a b = (upto (a : Int) ((b : Int) - 1)).reverse.foldl (stepRe (gA ns A)) [((b : Int), true)] from rfl]
      generalize (upto (a : Int) ((b : Int) - 1)).reverse.foldl (stepRe (gA ns A)) [((b : Int), true)] = R at hR ⊢
      rw [hR a (Nat.le_refl _) ha]
      by_cases h0 : 0 < β a
      · rw [if_pos (by simpa using h0), if_neg zo]
        have := (path_go hA hL hβ hb hR (b - a) a ns.length (((b : Int) - a).toNat) [] zo (Nat.le_refl _) h0 zo zo).1
        rw [List.nil_append, List.nil_append] at this
        exact this.symm
      · rw [if_neg (by simpa using h0), if_pos zo]
    · have h0 := hβ.zero a zo ha
      rw [if_pos (by omega : (β a : Int) = 0)]
      have : at0 (reachB (gA ns A) a b) a = false := by
        unfold reachB
        rw [show upto (a : Int) ((b : Int) - 1) = [] by unfold upto; rw [show ((b : Int) - 1 + 1 - a).toNat = 0 by omega]; rfl]
        rw [List.reverse_nil, List.foldl_nil, at0, getI, if_neg zo]; rfl
      rw [this]; rfl
  · have e1 : pathsR ns (edgesN A ns.length ns.length) a b = 0 := by unfold pathsR; rw [if_neg hr]
    have hh : hasG (gA ns A) [a, b] = false := by
      rw [hasG_two]; exact decide_eq_false hr
    unfold pathsB pathB pathR
    rw [hh, e1]
    exact ⟨rfl, rfl⟩
/-! The counts exist. -/
def walksN (A : Nat → Nat → Bool) (m t : Nat) : Nat → Nat → Nat
  | 0, i => if i = t then 1 else 0
  | k + 1, i => ((succA A m i).map (walksN A m t k)).sum
theorem sum_zero {l : List Nat} {β : Nat → Nat} (h : ∀ j ∈ l, β j = 0) : (l.map β).sum = 0 := by
  induction l with
  | nil => rfl
  | cons j l ih => rw [List.map_cons, List.sum_cons, h j (by simp), ih fun k hk => h k (by simp [hk])]
theorem sum_le {l : List Nat} {β : Nat → Nat} {n : Nat} (h : ∀ j ∈ l, β j ≤ n) : (l.map β).sum ≤ l.length * n := by
  induction l with
  | nil => simp
  | cons j l ih =>
    rw [List.map_cons, List.sum_cons, List.length_cons, Nat.add_mul]
    have := h j (by simp)
    have := ih fun k hk => h k (by simp [hk])
    omega
theorem walks_zero {A : Nat → Nat → Bool} {m t : Nat} (hA : Asc A m) (ht : t < m) : ∀ (k i : Nat), t < i → i < m → walksN A m t k i = 0
  | 0, i, h, _ => if_neg zo
  | k + 1, i, h, hi => by
    rw [walksN]
    refine sum_zero fun j hj => ?_
    have hj2 := mem_succA.1 hj
    have := hA i j hi hj2.1 hj2.2
    exact walks_zero hA ht k j zo hj2.1
theorem walks_le {A : Nat → Nat → Bool} {m t : Nat} : ∀ (k i : Nat), walksN A m t k i ≤ m ^ k
  | 0, i => by unfold walksN; split <;> simp
  | k + 1, i => by
    rw [walksN, Nat.pow_succ, Nat.mul_comm]
    refine Nat.le_trans (sum_le fun j _ => walks_le k j) ?_
    exact Nat.mul_le_mul_right _ (by unfold succA; exact Nat.le_trans (List.length_filter_le _ _) (by simp))
theorem counts {ns : List Config} {A : Nat → Nat → Bool} (hA : Asc A ns.length) (hL : Lev ns A) (hm : ns.length ≤ 64) (hl : ∀ i, i < ns.length → lev ns i ≤ 9) (t : Nat) (ht : t < ns.length) : ∃ β, CountL ns A t β := by
  refine ⟨fun i => if lev ns i ≤ lev ns t then walksN A ns.length t (lev ns t - lev ns i) i else 0, ⟨⟨?_, fun i hi hne => ?_, fun i h1 h2 => ?_⟩, fun i hi h1 hne => ?_, fun i hi => ?_⟩⟩
  · try dsimp only
    rw [if_pos (Nat.le_refl _), Nat.sub_self, walksN, if_pos rfl]
  · try dsimp only
    by_cases h : lev ns i < lev ns t
    · rw [if_pos zo, show lev ns t - lev ns i = (lev ns t - lev ns i - 1) + 1 by omega, walksN]
      congr 1
      refine List.map_congr_left fun j hj => ?_
      have hj2 := mem_succA.1 hj
      have := hL i j hi hj2.1 hj2.2
      rw [if_pos zo, show lev ns t - lev ns j = lev ns t - lev ns i - 1 by omega]
    · rw [sum_zero fun j hj => by
        have hj2 := mem_succA.1 hj
        have := hL i j hi hj2.1 hj2.2
        exact if_neg zo]
      by_cases h2 : lev ns i ≤ lev ns t
      · rw [if_pos h2, show lev ns t - lev ns i = 0 by omega, walksN, if_neg hne]
      · rw [if_neg h2]
  · try dsimp only
    split
    · exact walks_zero hA ht _ i h1 h2
    · rfl
  · try dsimp only
    by_cases h2 : lev ns i ≤ lev ns t
    · rw [if_pos h2, show lev ns t - lev ns i = 0 by omega, walksN, if_neg hne]
    · rw [if_neg h2]
  · try dsimp only
    split
    · refine Nat.le_trans (walks_le _ _) ?_
      have h9 : lev ns t - lev ns i ≤ 9 := by have := hl t ht; omega
      refine Nat.le_trans (Nat.pow_le_pow_left hm _) ?_
      refine Nat.le_trans (Nat.pow_le_pow_right zd h9) zd
    · omega
/-- Lists of cuts in which no node contains a later one. -/
def Up (ns : List Config) : Prop := ns.Pairwise fun x y => containsR x y = false
theorem up_asc {ns : List Config} (h : Up ns) : Asc (adjR ns) ns.length := by
  intro i j hi hj hij
  unfold adjR at hij
  rw [Bool.and_eq_true, decide_eq_true_eq] at hij
  rcases Nat.lt_trichotomy i j with h1 | h1 | h1
  · exact h1
  · subst h1; omega
  · have := (List.pairwise_iff_getElem.1 h) j i hj hi h1
    rw [List.getD_eq_getElem?_getD, List.getD_eq_getElem?_getD, List.getElem?_eq_getElem hi, List.getElem?_eq_getElem hj] at hij
    have h2 := hij.2
    simp only [Option.getD_some] at h2
    rw [this] at h2; exact absurd h2 (by simp)
theorem lev_adj (ns : List Config) : Lev ns (adjR ns) := by
  intro i j _ _ h
  unfold adjR at h
  rw [Bool.and_eq_true, decide_eq_true_eq] at h
  unfold lev; omega
theorem paths_cuts {f : Nat → Nat → Proposal} (hli : Lite f) {ns : List Config} (hc : Cuts f ns) (hu : Up ns) (a b : Int) :
    pathsB ⟨ns, edgesR ns⟩ a b = pathsR ns (edgesR ns) a b ∧ pathB ⟨ns, edgesR ns⟩ a b = pathR ns (edgesR ns) a b := by
  have hA := up_asc hu
  exact path_same hA (lev_adj ns) (counts hA (lev_adj ns) hc.2 fun i hi => by
    unfold lev
    refine ((hc.1 _ ?_).small hli).1
    rw [List.getD_eq_getElem?_getD, List.getElem?_eq_getElem hi]; exact List.getElem_mem hi) a b
theorem edge_in (ns : List Config) : EdgeIn ns (edgesR ns) := fun e he => by
  obtain ⟨i, j, h1, h2, _, rfl⟩ := mem_edgesN he
  exact ⟨⟨by dsimp only; omega, by dsimp only; omega⟩, by dsimp only; omega, by dsimp only; omega⟩
theorem upto_pw (a b : Int) : (upto a b).Pairwise (· < ·) := by
  unfold upto
  rw [List.pairwise_map]
  exact List.Pairwise.imp (fun h => by omega) List.pairwise_lt_range
theorem allN_up {f : Nat → Nat → Proposal} (hf : Nice f) {i j k i' j' k' : Nat} (h' : i' < 4 ∧ j' < 4 ∧ k' < 4) : Up (allN f i j k i' j' k') := by
  unfold Up allN
  rw [List.pairwise_flatMap]
  refine ⟨fun a ha => ?_, ?_⟩
  · rw [List.pairwise_flatMap]
    refine ⟨fun b hb => ?_, ?_⟩
    · rw [List.pairwise_map]
      refine List.Pairwise.imp_of_mem ?_ (upto_pw k k')
      intro c c' hc hc' hlt
      rw [mem_upto] at ha hb hc hc'
      rw [(contains_cut hf zo zo).2]
      exact decide_eq_false zo
    · refine List.Pairwise.imp_of_mem ?_ (upto_pw j j')
      intro b b' hb hb' hlt x hx y hy
      obtain ⟨c, hc, rfl⟩ := List.mem_map.1 hx
      obtain ⟨c', hc', rfl⟩ := List.mem_map.1 hy
      rw [mem_upto] at ha hb hb' hc hc'
      rw [(contains_cut hf zo zo).2]
      exact decide_eq_false zo
  · refine List.Pairwise.imp_of_mem ?_ (upto_pw i i')
    intro a a' ha ha' hlt x hx y hy
    obtain ⟨b, hb, hx⟩ := List.mem_flatMap.1 hx
    obtain ⟨b', hb', hy⟩ := List.mem_flatMap.1 hy
    obtain ⟨c, hc, rfl⟩ := List.mem_map.1 hx
    obtain ⟨c', hc', rfl⟩ := List.mem_map.1 hy
    rw [mem_upto] at ha ha' hb hb' hc hc'
    rw [(contains_cut hf zo zo).2]
    exact decide_eq_false zo
theorem allR_up {f : Nat → Nat → Proposal} (hf : Nice f) {a b : Config} (ha : IsCut f a) (hb : IsCut f b) : Up (allR a b) := by
  obtain ⟨i, j, k, h, rfl⟩ := ha
  obtain ⟨i', j', k', h', rfl⟩ := hb
  rw [allR_cut hf h h']
  split
  · exact allN_up hf h'
  · exact List.Pairwise.nil
end Go.Proofs
