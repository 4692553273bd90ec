/- Graphs: Path. -/
import Derived.Test.YtmhnmookgbmmbaaW16
set_option linter.unusedVariables false
set_option linter.unusedSimpArgs false
set_option maxRecDepth 8000
set_option maxHeartbeats 4000000
set_option pp.deepTerms false
set_option pp.deepTerms.threshold 6
namespace Go.Proofs
open Go.AM

theorem dl_mb (m : List (Int × Bool)) : V.dataL (m.map fun p => V.b p.2) = true := dataL_map _ _ fun _ => rfl
theorem dd_mb (m : List (Int × Bool)) : V.dataL [.pt (dmpO V.b m)] = true := by
  show (V.dataL (m.map fun p => V.b p.2) && true) = true
  rw [dl_mb m]; rfl
theorem path1 (m : List (Int × Bool)) (n : Int) : AM.Fn Try.prog 62 [.i n, .pt (dmpO V.b m)] (.b ((getI m n).getD false)) := by
  (refine spec_of_runs Try.func62 rfl ?_; simp only [Try.f62]; refine ys ?_)
  repeat' (first | refine yw ?_ | refine Runs.region ?_ | refine yr ?_ | (refine Runs.cond rfl (zc ?_) (zc ?_) <;> intro hc <;> (try (first | contradiction | (exfalso; omega; done) | (have : hc = trivial := rfl; clear this; clear hc)))))
  (refine Runs.ret1 Try.func62 rfl zM zD ?_; try exact zX)
theorem upto_cons {lo hi : Int} (h : lo ≤ hi) : upto lo hi = lo :: upto (lo + 1) hi := by
  unfold upto
  have e : (hi + 1 - lo).toNat = (hi + 1 - (lo + 1)).toNat + 1 := by omega
  rw [e, List.range_succ_eq_map, List.map_cons, List.map_map]
  congr 1
  · omega
  · apply List.map_congr_left
    intro k _
    simp only [Function.comp]
    omega
def at0 (m : List (Int × Bool)) (n : Int) : Bool := (getI m n).getD false
def stepRe (g : Graph) (m : List (Int × Bool)) (i : Int) : List (Int × Bool) := if (nextG g i).any (at0 m) then setI m i true else m
def reachB (g : Graph) (a b : Int) : List (Int × Bool) := (upto a (b - 1)).reverse.foldl (stepRe g) [(b, true)]
def nxB (g : Graph) (m : List (Int × Bool)) (i : Int) : Int := ((nextG g i).find? (at0 m)).getD i
def pathF (nx : Int → Int) (to : Int) : Nat → Int → List Int
  | 0, i => [i]
  | k + 1, i => if i = to then [i] else i :: pathF nx to k (nx i)
def pathB (g : Graph) (a b : Int) : List Int := if hasG g [a, b] then (if at0 (reachB g a b) a then pathF (nxB g (reachB g a b)) b (b - a).toNat a else []) else []
theorem getI_setI {β : Type} (m : List (Int × β)) (n k : Int) (c : β) : getI (setI m n c) k = if k = n then some c else getI m k := by
  induction m with
  | nil => by_cases h : n = k <;> simp [setI, getI, h, eq_comm]
  | cons p m ih =>
    obtain ⟨j, b⟩ := p
    unfold setI
    by_cases h : j = n
    · subst h
      rw [if_pos rfl]
      by_cases hk : j = k
      · subst hk; simp [getI]
      · have hk' : ¬ k = j := fun e => hk e.symm
        simp [getI, hk, hk']
    · rw [if_neg h]
      by_cases hk : j = k
      · subst hk; simp [getI, h]
      · simp only [getI, if_neg hk, ih]
/-- One entry a key. -/
def Uniq {β : Type} (m : List (Int × β)) : Prop := (m.map (·.1)).Nodup
theorem uniq_setI {β : Type} {m : List (Int × β)} (h : Uniq m) (n : Int) (c : β) : Uniq (setI m n c) ∧ ∀ k, k ∈ (setI m n c).map (·.1) → k = n ∨ k ∈ m.map (·.1) := by
  induction m with
  | nil => exact ⟨by simp [setI, Uniq], by simp [setI]⟩
  | cons p m ih =>
    obtain ⟨j, b⟩ := p
    unfold Uniq at h
    rw [List.map_cons, List.nodup_cons] at h
    unfold setI
    by_cases e : j = n
    · subst e
      rw [if_pos rfl]
      refine ⟨?_, ?_⟩
      · unfold Uniq; rw [List.map_cons, List.nodup_cons]; exact h
      · intro k hk; simp only [List.map_cons, List.mem_cons] at hk ⊢; rcases hk with h | h
        · exact .inl h
        · exact .inr (.inr h)
    · rw [if_neg e]
      obtain ⟨h1, h2⟩ := ih h.2
      refine ⟨?_, ?_⟩
      · unfold Uniq; rw [List.map_cons, List.nodup_cons]
        refine ⟨fun hm => ?_, h1⟩
        rcases h2 _ hm with h3 | h3
        · exact e h3
        · exact h.1 h3
      · intro k hk
        simp only [List.map_cons, List.mem_cons] at hk ⊢
        rcases hk with h3 | h3
        · exact .inr (.inl h3)
        · rcases h2 k h3 with h4 | h4
          · exact .inl h4
          · exact .inr (.inr h4)
theorem getI_none {β : Type} {m : List (Int × β)} {n : Int} (h : n ∉ m.map (·.1)) : getI m n = none := by
  induction m with
  | nil => rfl
  | cons p m ih =>
    obtain ⟨j, b⟩ := p
    simp only [List.map_cons, List.mem_cons, not_or] at h
    rw [getI, if_neg (fun e => h.1 e.symm), ih h.2]
theorem delI_spec {β : Type} {m : List (Int × β)} (h : Uniq m) (n : Int) : Uniq (delI m n) ∧ (∀ k, getI (delI m n) k = if k = n then none else getI m k) ∧ ∀ k, k ∈ (delI m n).map (·.1) → k ∈ m.map (·.1) := by
  induction m with
  | nil => exact ⟨h, by simp [delI, getI], by simp [delI]⟩
  | cons p m ih =>
    obtain ⟨j, b⟩ := p
    have h0 := h
    unfold Uniq at h
    rw [List.map_cons, List.nodup_cons] at h
    unfold delI
    by_cases e : j = n
    · subst e
      rw [if_pos rfl]
      refine ⟨h.2, fun k => ?_, fun k hk => by simp only [List.map_cons, List.mem_cons]; exact .inr hk⟩
      by_cases hk : k = j
      · subst hk; rw [if_pos rfl]; exact getI_none h.1
      · rw [if_neg hk, getI, if_neg (fun e => hk e.symm)]
    · rw [if_neg e]
      obtain ⟨h1, h2, h3⟩ := ih h.2
      refine ⟨?_, fun k => ?_, fun k hk => ?_⟩
      · unfold Uniq; rw [List.map_cons, List.nodup_cons]; exact ⟨fun hm => h.1 (h3 _ hm), h1⟩
      · by_cases hk : j = k
        · subst hk; rw [getI, if_pos rfl, if_neg e, getI, if_pos rfl]
        · rw [getI, if_neg hk, h2]
          by_cases hkn : k = n
          · rw [if_pos hkn, if_pos hkn]
          · rw [if_neg hkn, if_neg hkn, getI, if_neg hk]
      · simp only [List.map_cons, List.mem_cons] at hk ⊢
        rcases hk with h4 | h4
        · exact .inl h4
        · exact .inr (h3 k h4)
theorem nextG_gt {g : Graph} {n k : Int} (h : k ∈ nextG g n) : n < k := by
  rw [nextG, sortI, List.mem_mergeSort] at h
  obtain ⟨e, he, rfl⟩ := List.mem_map.1 h
  have := (List.mem_filter.1 he).2
  simp only [nextC, Bool.and_eq_true, decide_eq_true_eq] at this
  exact this.1.2
/-- What is known of 'reach' when the indexes from 'i' on have been looked at. -/
def ReachOK (g : Graph) (b i : Int) (m : List (Int × Bool)) : Prop :=
  Uniq m ∧ (∀ k, at0 m k = true → i ≤ k ∧ k ≤ b) ∧ at0 m b = true ∧ ∀ k, at0 m k = true → k ≠ b → ∃ n ∈ nextG g k, at0 m n = true
theorem reach_step {g : Graph} {b i : Int} {m : List (Int × Bool)} (h : ReachOK g b (i + 1) m) (hi : i + 1 ≤ b) : ReachOK g b i (stepRe g m i) := by
  obtain ⟨h1, h2, h3, h4⟩ := h
  unfold stepRe
  by_cases hx : (nextG g i).any (at0 m) = true
  · rw [if_pos hx]
    have hat : ∀ k, at0 (setI m i true) k = if k = i then true else at0 m k := fun k => by
      unfold at0; rw [getI_setI]; split <;> rfl
    have up : ∀ k, at0 m k = true → at0 (setI m i true) k = true := fun k hk => by rw [hat]; split <;> simp [*]
    refine ⟨(uniq_setI h1 i true).1, fun k hk => ?_, up b h3, fun k hk hkb => ?_⟩
    · rw [hat] at hk
      split at hk
      · omega
      · have := h2 k hk; omega
    · rw [hat] at hk
      split at hk
      · rename_i e; subst e
        obtain ⟨n, hn, hn2⟩ := List.any_eq_true.1 hx
        exact ⟨n, hn, up n hn2⟩
      · obtain ⟨n, hn, hn2⟩ := h4 k hk hkb
        exact ⟨n, hn, up n hn2⟩
  · rw [if_neg hx]
    exact ⟨h1, fun k hk => by have := h2 k hk; omega, h3, h4⟩
theorem reach_ok (g : Graph) (b : Int) : ∀ (n : Nat) (i : Int), i = b - n → ReachOK g b i ((upto i (b - 1)).reverse.foldl (stepRe g) [(b, true)])
  | 0, i, hi => by
    have e : upto i (b - 1) = [] := by
      have e1 : (b - 1 + 1 - i).toNat = 0 := by omega
      simp only [upto, e1]; rfl
    rw [e, List.reverse_nil, List.foldl_nil]
    have hat : ∀ k, at0 [(b, true)] k = decide (b = k) := fun k => by
      unfold at0 getI getI; by_cases h : b = k <;> simp [h]
    refine ⟨by simp [Uniq], fun k hk => ?_, by rw [hat]; simp, fun k hk hkb => ?_⟩
    · have hk' : at0 [(b, true)] k = true := hk
      rw [hat] at hk'; have := of_decide_eq_true hk'; omega
    · have hk' : at0 [(b, true)] k = true := hk
      rw [hat] at hk'; exact absurd (of_decide_eq_true hk').symm hkb
  | n + 1, i, hi => by
    rw [upto_cons zo, List.reverse_cons, List.foldl_append]
    exact reach_step (reach_ok g b n (i + 1) zo) zo
theorem find_at {p : Int → Bool} : ∀ {ks : List Int} {k : Nat}, k < ks.length → (∀ j, j < k → p (ks.getD j default) = false) → p (ks.getD k default) = true → ks.find? p = some (ks.getD k default)
  | [], k, h, _, _ => by simp at h
  | x :: xs, 0, _, _, h => by
    have h' : p x = true := by simpa using h
    simp [h']
  | x :: xs, k + 1, hk, h1, h2 => by
    have h0 : p x = false := by simpa using h1 0 zo
    have := find_at (ks := xs) (k := k) (by simpa using hk) (fun j hj => by simpa using h1 (j + 1) zo) (by simpa using h2)
    rw [List.find?_cons, h0]
    simpa using this
theorem pathF_end (nx : Int → Int) (b : Int) (k : Nat) : pathF nx b k b = [b] := by cases k <;> simp [pathF]
theorem graph_Path (g : Graph) (a b : Int) (hs : g.edges.length ≤ 10000000000) (hn : g.nodes.length ≤ 10000000000) : AM.Fn Try.prog 30 [grV g, .i a, .i b] (.sl false ((pathB g a b).map .i)) := by
  have hnx := fun i => graph_next g i hs
  (refine spec_of_runs Try.func30 rfl ?_; simp only [Try.f30]; refine ys ?_)
  repeat' (first | refine yw ?_ | refine Runs.region (id := 0) ?_ | refine Runs.region (id := 1) ?_ | refine Runs.region (id := 2) ?_ | refine yr ?_ | (refine r_fn rfl (graph_has true g [a, b]) HbF.h zL2 zD ?_; refine r_nn zN zH ?_) | (refine Runs.cond rfl (zc ?_) (zc ?_) <;> intro hc <;> (try (first | contradiction | (exfalso; omega; done) | (have : hc = trivial := rfl; clear this; clear hc)))))
  · (refine Runs.ret1 Try.func30 rfl zM zD ?_; try exact zX)
    rw [pathB, hc]; exact V.Le.nil _
  have hbd : 0 ≤ a ∧ 0 ≤ b ∧ a < g.nodes.length ∧ b < g.nodes.length := by
    simp only [hasG, List.any_cons, List.any_nil, badG, Bool.or_false, Bool.not_eq_true', Bool.or_eq_false_iff, decide_eq_false_iff_not] at hc
    omega
  rw [pathB, if_pos hc]
  repeat' (first | refine yw ?_ | refine Runs.region (id := 3) ?_ | refine Runs.region (id := 4) ?_ | refine yr ?_ | (refine Runs.cond rfl (zc ?_) (zc ?_) <;> intro hc <;> (try (first | contradiction | (exfalso; omega; done) | (have : hc = trivial := rfl; clear this; clear hc)))))
  refine Runs.loopI (α := Int) (fun i => (i + 1 - a).toNat) (fun i => (a - 1 ≤ i ∨ i = b - 1) ∧ i ≤ b - 1)
    (fun i => ⟨[.any, .i a, .i b, .ptr 3 0 0, .any, .any, .any, .ptr 7 0 0, .i i, .any, .any, .any, .any, .any, .any, .any, .any, .any, .any, .any, .any, .any, .any, .any, .any, .any, .any, .any, .any, .any, .any, .any, .any, .any, .any, .any, .any, .any, .any, .any, .any, .any, .any, .any, .any, .any, .any, .any, .any, .any, .any, .any, .any, .any, .any, .any, .any, .any, .any, .any, .any, .any, .any, .any, .any, .any], [(7, .var 89 (.mp 19)), (19, mapO V.b ((upto (i + 1) (b - 1)).reverse.foldl (stepRe g) [(b, true)])), (3, .var 31 (grV g))]⟩) (b - 1) ⟨.inr rfl, Int.le_refl _⟩ ?_ ?_
  · have e : upto (b - 1 + 1) (b - 1) = [] := by
      have e1 : (b - 1 + 1 - (b - 1 + 1)).toNat = 0 := by omega
      simp only [upto, e1]; rfl
    rw [e]
    (refine St.Le.clean zR zU zV)
  rintro i ⟨hi1, hi2⟩ ih
  have hst : a ≤ i → (upto (i - 1 + 1) (b - 1)).reverse.foldl (stepRe g) [(b, true)] = stepRe g ((upto (i + 1) (b - 1)).reverse.foldl (stepRe g) [(b, true)]) i := fun h => by
    rw [show i - 1 + 1 = i by omega, upto_cons hi2, List.reverse_cons, List.foldl_append]; rfl
  have hend : i < a → (upto (i + 1) (b - 1)).reverse.foldl (stepRe g) [(b, true)] = reachB g a b := fun h => by
    rcases hi1 with h1 | h1
    · rw [show i + 1 = a by omega]; rfl
    · have e1 : (b - 1 + 1 - (i + 1)).toNat = 0 := by omega
      have e2 : (b - 1 + 1 - a).toNat = 0 := by omega
      simp only [reachB, upto, e1, e2]; rfl
  generalize (upto (i + 1) (b - 1)).reverse.foldl (stepRe g) [(b, true)] = m at hst hend ⊢
  repeat' (first | refine yw ?_ | refine Runs.region (id := 5) ?_ | refine Runs.region (id := 7) ?_ | refine Runs.region (id := 8) ?_ | refine Runs.region (id := 6) ?_ | refine yr ?_ | (refine r_fn rfl (hnx i) HbF.h zL2 zD ?_; refine r_nn zN zH ?_) | (refine r_lend rfl (containsFunc false (nextG g i) 62 [.pt (dmpO V.b m)] (at0 m) (fun n => path1 m n) hb62 (dd_mb m)) HbF.h zY rfl ?_; refine r_nn zN zH ?_) | (refine Runs.cond rfl (zc ?_) (zc ?_) <;> intro hc <;> (try (first | contradiction | (exfalso; omega; done) | (have : hc = trivial := rfl; clear this; clear hc)))))
  · refine ih (i - 1) _ ⟨by omega, by omega⟩ zo ?_
    rw [hst zo, stepRe, if_pos hc]
    (refine St.Le.clean zR zU zV)
  · refine ih (i - 1) _ ⟨by omega, by omega⟩ zo ?_
    rw [hst zo, stepRe, hc, if_neg Bool.false_ne_true]
    (refine St.Le.clean zR zU zV)
  · rw [hend zo]
    by_cases hab : a ≤ b
    · have hok := reach_ok g b (b - a).toNat a zo
      rw [← reachB] at hok
      generalize reachB g a b = R at hok ⊢
      repeat' (first | refine yw ?_ | refine Runs.region (id := 9) ?_ | refine Runs.region (id := 10) ?_ | refine Runs.region (id := 11) ?_ | refine Runs.region (id := 12) ?_ | refine yrb ?_ | (refine r_buildOwn (D := 41) SlF.h ZoF.h zd zB zd rfl ?_; refine r_nn zN zH ?_) | (refine r_build SlF.h ZoF.h zd zB ?_; refine r_n zN ?_) | (refine Runs.cond rfl (zc ?_) (zc ?_) <;> intro hc <;> (try (first | contradiction | (exfalso; omega; done) | (have : hc = trivial := rfl; clear this; clear hc)))))
      · (refine Runs.ret1 Try.func30 rfl zM zD ?_; try exact zX)
        rw [show at0 R a = false from hc, if_neg Bool.false_ne_true]; exact V.Le.nil _
      · have ha : at0 R a = true := hc
        rw [if_pos ha]
        refine Runs.loopI (α := Int × List Int × List (Int × Bool)) (fun s => (b - s.1).toNat)
          (fun s => (a ≤ s.1 ∧ s.1 ≤ b ∧ at0 R s.1 = true) ∧ Uniq s.2.2 ∧ (∀ k, s.1 ≤ k → at0 s.2.2 k = at0 R k) ∧ s.2.1.length ≤ (s.1 - a).toNat ∧ ∃ fu, (b - s.1).toNat ≤ fu ∧ s.2.1 ++ pathF (nxB g R) b fu s.1 = pathF (nxB g R) b (b - a).toNat a)
          (fun s => ⟨[.any, .any, .i b, .ptr 3 0 0, .any, .any, .any, .ptr 7 0 0, .any, .own 41, .i s.1, .any, .any, .any, .any, .any, .any, .any, .any, .any, .any, .any, .any, .any, .any, .any, .any, .any, .any, .any, .any, .any, .any, .any, .any, .any, .any, .any, .any, .any, .any, .any, .any, .any, .any, .any, .any, .any, .any, .any, .any, .any, .any, .any, .any, .any, .any, .any, .any, .any, .any, .any, .any, .any, .any, .any], [(41, .lst 3 1 ((s.2.1 ++ [s.1]).map .i)), (7, .var 89 (.mp 19)), (19, mapO V.b s.2.2), (3, .var 31 (grV g))]⟩) (a, [], R)
          ⟨⟨Int.le_refl _, hab, ha⟩, hok.1, by intros; rfl, by simp, _, Nat.le_refl _, by simp⟩ ?_ ?_
        · (refine St.Le.clean zR zU zV)
        rintro ⟨p, acc, m⟩ ⟨⟨h1, h2, h3⟩, h4, h5, h6, fu, h7, h8⟩ ihp
        dsimp only at h1 h2 h3 h4 h5 h6 h7 h8 ihp ⊢
        by_cases hpb : p = b
        · subst hpb
          repeat' (first | refine yw ?_ | refine Runs.region (id := 13) ?_ | refine Runs.region (id := 14) ?_ | refine Runs.region (id := 15) ?_ | refine Runs.region (id := 16) ?_ | refine Runs.region (id := 17) ?_ | refine Runs.region (id := 18) ?_ | refine Runs.region (id := 19) ?_ | refine Runs.region (id := 20) ?_ | refine Runs.region (id := 21) ?_ | refine Runs.region (id := 22) ?_ | refine yr ?_ | (refine r_append_full SlF.h SlF.s ZoF.h zd rfl rfl zC zJ zS rfl (fun hn => ?_) (fun hn => ?_) <;> refine r_nn zN zH ?_) | (refine Runs.cond rfl (zc ?_) (zc ?_) <;> intro hc <;> (try (first | contradiction | (exfalso; omega; done) | (have : hc = trivial := rfl; clear this; clear hc)))))
          · rw [pathF_end] at h8
            refine Runs.ret_frz Try.func30 rfl rfl rfl ?_
            rw [← h8]
        · obtain ⟨hu', hd', _⟩ := delI_spec h4 p
          have hR : ∀ n, p < n → at0 (delI m p) n = at0 R n := fun n hn => by
            have := hd' n
            rw [if_neg zo] at this
            rw [← h5 n zo]; unfold at0; rw [this]
          obtain ⟨n0, hn0, hn1⟩ := hok.2.2.2 p h3 hpb
          have hkl := nextG_len g p
          have hgt : ∀ n ∈ nextG g p, p < n := fun n hn => nextG_gt hn
          have hnxB : ∀ k, k < (nextG g p).length → (∀ j, j < k → at0 R ((nextG g p).getD j default) = false) → at0 R ((nextG g p).getD k default) = true → nxB g R p = (nextG g p).getD k default := fun k hk e1 e2 => by
            rw [nxB, find_at hk e1 e2]; rfl
          repeat' (first | refine yw ?_ | refine Runs.region (id := 13) ?_ | refine Runs.region (id := 14) ?_ | refine Runs.region (id := 15) ?_ | refine yr ?_ | (refine r_fn rfl (hnx p) HbF.h zL2 zD ?_; refine r_nn zN zH ?_) | (refine Runs.cond rfl (zc ?_) (zc ?_) <;> intro hc <;> (try (first | contradiction | (exfalso; omega; done) | (have : hc = trivial := rfl; clear this; clear hc)))))
          generalize nextG g p = ks at hn0 hkl hgt hnxB ⊢
          generalize hm' : delI m p = m' at hu' hR ⊢
          have hkm : ∀ k, k < ks.length → ks.getD k default ∈ ks := fun k hk => by
            rw [List.getD_eq_getElem?_getD, List.getElem?_eq_getElem hk]; exact List.getElem_mem hk
          refine Runs.loopI (fun k : Nat => ks.length - k) (fun k => k ≤ ks.length ∧ ∀ j, j < k → at0 R (ks.getD j default) = false)
            (fun k => ⟨[.any, .any, .i b, .ptr 3 0 0, .any, .any, .any, .ptr 7 0 0, .any, .own 41, .i p, .any, .any, .any, .any, .any, .any, .any, .any, .any, .any, .any, .any, .any, .any, .any, .any, .any, .any, .any, .any, .any, .any, .any, .any, .any, .any, .any, .any, .any, .any, .any, .any, .any, .any, .any, .any, .any, .any, .any, .sl false (ks.map .i), .i (ks.length : Nat), .i (k : Nat), .any, .any, .any, .any, .any, .any, .any, .any, .any, .any, .any, .any, .any], [(41, .lst 3 1 ((acc ++ [p]).map .i)), (7, .var 89 (.mp 19)), (19, mapO V.b m'), (3, .var 31 (grV g))]⟩) 0 ⟨Nat.zero_le _, by omega⟩ ?_ ?_
          · (refine St.Le.clean zR zU zV)
          rintro k ⟨hk1, hk2⟩ ihk
          by_cases hk : k < ks.length
          · have hmem := hkm k hk
            have hkgt := hgt _ hmem
            have hkr := hR _ hkgt
            repeat' (first | refine yw ?_ | refine Runs.region (id := 16) ?_ | refine Runs.region (id := 17) ?_ | refine Runs.region (id := 18) ?_ | refine Runs.region (id := 19) ?_ | refine Runs.region (id := 20) ?_ | refine Runs.region (id := 21) ?_ | refine yr ?_ | (refine r_append_full SlF.h SlF.s ZoF.h zd rfl rfl zC zJ zS rfl (fun hn => ?_) (fun hn => ?_) <;> refine r_nn zN zH ?_) | (refine Runs.cond rfl (zc ?_) (zc ?_) <;> intro hc <;> (try (first | contradiction | (exfalso; omega; done) | (have : hc = trivial := rfl; clear this; clear hc)))))
            · have hkt : at0 R (ks.getD k default) = true := by rw [← hkr]; exact hc
              have hx := hnxB k hk hk2 hkt
              have hle := (hok.2.1 _ hkt).2
              refine ihp (ks.getD k default, acc ++ [p], m') _ ⟨⟨by dsimp only; omega, hle, hkt⟩, hu', fun q hq => hR q (by dsimp only at hq; omega), by dsimp only; rw [List.length_append]; simp only [List.length_cons, List.length_nil]; omega, ?_⟩ (by dsimp only; omega) ?_
              · cases fu with
                | zero => exact absurd h7 zo
                | succ fu =>
                  refine ⟨fu, by dsimp only; omega, ?_⟩
                  rw [pathF, if_neg hpb, hx] at h8
                  dsimp only
                  rw [← h8]; simp
              · (refine St.Le.clean zR zU zV)
            · have hkf : at0 R (ks.getD k default) = false := by rw [← hkr]; exact hc
              refine ihk (k + 1) _ ⟨by omega, fun j hj => ?_⟩ zo (by (refine St.Le.clean zR zU zV))
              by_cases hjk : j = k
              · subst hjk; exact hkf
              · exact hk2 j zo
          · exfalso
            obtain ⟨j, hj, rfl⟩ := List.mem_iff_getElem.1 hn0
            have := hk2 j zo
            rw [List.getD_eq_getElem?_getD, List.getElem?_eq_getElem hj] at this
            simp only [Option.getD_some] at this
            rw [this] at hn1; cases hn1
    · have e0 : reachB g a b = [(b, true)] := by
        have e2 : (b - 1 + 1 - a).toNat = 0 := by omega
        simp only [reachB, upto, e2]; rfl
      have e1 : at0 (reachB g a b) a = false := by
        rw [e0]
        have : ¬ b = a := by omega
        simp [at0, getI, this]
      rw [e1, if_neg Bool.false_ne_true]
      generalize reachB g a b = R at e1 ⊢
      repeat' (first | refine yw ?_ | refine Runs.region (id := 9) ?_ | refine Runs.region (id := 10) ?_ | refine yr ?_ | (refine Runs.cond rfl (zc ?_) (zc ?_) <;> intro hc <;> (try (first | contradiction | (exfalso; omega; done) | (have : hc = trivial := rfl; clear this; clear hc)))))
      · (refine Runs.ret1 Try.func30 rfl zM zD ?_; try exact zX)
        exact V.Le.nil _
      · exfalso
        rw [at0, hc] at e1; cases e1
end Go.Proofs
