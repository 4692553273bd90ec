/- Plain law: the number of paths through a graph whose edges ascend; the paths that both sides take. -/
import Derived.Test.YtmhnmookgbmmbaaW33
import Derived.Test.YtmhnmookgbmmbaaW21
set_option linter.unusedVariables false
set_option linter.unusedSimpArgs false
set_option maxRecDepth 8000
set_option maxHeartbeats 4000000
namespace Go.Proofs
open Go.AM
/-! Sums modulo the machine's word. -/
def Cg (x y : Int) : Prop := ∃ q, x = y + 18446744073709551616 * q
theorem Cg.refl (x : Int) : Cg x x := ⟨0, by omega⟩
theorem Cg.symm {x y : Int} (h : Cg x y) : Cg y x := by obtain ⟨q, rfl⟩ := h; exact ⟨-q, by omega⟩
theorem Cg.trans {x y z : Int} (h : Cg x y) (k : Cg y z) : Cg x z := by obtain ⟨q, rfl⟩ := h; obtain ⟨r, rfl⟩ := k; exact ⟨q + r, by omega⟩
theorem Cg.add {x y z w : Int} (h : Cg x y) (k : Cg z w) : Cg (x + z) (y + w) := by obtain ⟨q, rfl⟩ := h; obtain ⟨r, rfl⟩ := k; exact ⟨q + r, by omega⟩
theorem Cg.mul {x y : Int} (h : Cg x y) (n : Int) : Cg (x * n) (y * n) := by
  obtain ⟨q, rfl⟩ := h
  exact ⟨q * n, by rw [Int.add_mul, Int.mul_assoc]⟩
theorem wr_eq (n : Int) : wr n = (n + 9223372036854775808) % 18446744073709551616 - 9223372036854775808 := by
  unfold wr; rw [IntKind.wrap_i64]
theorem wr_cg (n : Int) : Cg (wr n) n := by
  rw [wr_eq]
  exact ⟨-((n + 9223372036854775808) / 18446744073709551616), by omega⟩
theorem wr_of {x y : Int} (h : Cg x y) : wr x = wr y := by
  obtain ⟨q, rfl⟩ := h
  rw [wr_eq, wr_eq]; omega
theorem wr_wr (n : Int) : wr (wr n) = wr n := wr_of (wr_cg n)
theorem wr_small {n : Int} (h : 0 ≤ n ∧ n ≤ 9223372036854775807) : wr n = n := by rw [wr_eq]; omega
/-! The successors. -/
def succA (A : Nat → Nat → Bool) (m i : Nat) : List Nat := (List.range m).filter (A i)
theorem mem_succA {A : Nat → Nat → Bool} {m i j : Nat} : j ∈ succA A m i ↔ j < m ∧ A i j = true := by simp [succA]
theorem edgesN_eq (A : Nat → Nat → Bool) (m : Nat) : edgesN A m m = (List.range m).flatMap fun i => (succA A m i).map fun j : Nat => ((i : Int), (j : Int)) := rfl
theorem mem_edgesN {A : Nat → Nat → Bool} {m : Nat} {e : Int × Int} (h : e ∈ edgesN A m m) : ∃ i j : Nat, i < m ∧ j < m ∧ A i j = true ∧ e = ((i : Int), (j : Int)) := by
  rw [edgesN_eq, List.mem_flatMap] at h
  obtain ⟨i, hi, he⟩ := h
  obtain ⟨j, hj, rfl⟩ := List.mem_map.1 he
  rw [mem_succA] at hj
  exact ⟨i, j, List.mem_range.1 hi, hj.1, hj.2, rfl⟩
/-- One row of the edges. -/
theorem row_filter {α : Type} (g : Nat → List α) (p : α → Bool) (m i : Nat) (hi : i < m) (hp : ∀ k, k < m → k ≠ i → ∀ x ∈ g k, p x = false) : ((List.range m).flatMap g).filter p = (g i).filter p := by
  rw [List.filter_flatMap]
  induction m with
  | zero => omega
  | succ m ih =>
    rw [List.range_succ, List.flatMap_append, List.flatMap_cons, List.flatMap_nil, List.append_nil]
    by_cases e : i = m
    · subst e
      have : ((List.range i).flatMap fun b => (g b).filter p) = [] := by
        rw [List.flatMap_eq_nil_iff]
        intro k hk
        rw [List.filter_eq_nil_iff]
        intro x hx
        rw [hp k (by have := List.mem_range.1 hk; omega) (by have := List.mem_range.1 hk; omega) x hx]
        simp
      rw [this, List.nil_append]
    · rw [ih zo fun k hk hne => hp k zo hne]
      have : (g m).filter p = [] := by
        rw [List.filter_eq_nil_iff]
        intro x hx
        rw [hp m zo zo x hx]; simp
      rw [this, List.append_nil]
def Asc (A : Nat → Nat → Bool) (m : Nat) : Prop := ∀ i j, i < m → j < m → A i j = true → i < j
theorem edges_ord (A : Nat → Nat → Bool) (m : Nat) : Ordered (edgesN A m m) := by
  unfold Ordered
  rw [edgesN_eq, List.pairwise_flatMap]
  refine ⟨fun i _ => ?_, ?_⟩
  · rw [List.pairwise_map]
    refine List.Pairwise.imp (R := (· < ·)) (fun h _ => ?_) (List.Pairwise.filter _ List.pairwise_lt_range)
    show (_ : Int) ≤ _
    dsimp only; omega
  · refine List.Pairwise.imp (R := (· < ·)) (fun {a b} h => ?_) List.pairwise_lt_range
    intro x hx y hy e
    obtain ⟨j, _, rfl⟩ := List.mem_map.1 hx
    obtain ⟨k, _, rfl⟩ := List.mem_map.1 hy
    dsimp only at e; omega
def gA (ns : List Config) (A : Nat → Nat → Bool) : Graph := ⟨ns, edgesN A ns.length ns.length⟩
theorem hasG_in (g : Graph) (n : Int) : hasG g [n] = decide (0 ≤ n ∧ n < g.nodes.length) := by
  unfold hasG badG
  rw [Bool.eq_iff_iff]; simp
theorem hasG_two (g : Graph) (a b : Int) : hasG g [a, b] = decide ((0 ≤ a ∧ a < g.nodes.length) ∧ 0 ≤ b ∧ b < g.nodes.length) := by
  unfold hasG badG
  rw [Bool.eq_iff_iff]; simp
theorem next_is {ns : List Config} {A : Nat → Nat → Bool} (hA : Asc A ns.length) {i : Nat} (hi : i < ns.length) : nextG (gA ns A) i = (succA A ns.length i).map fun j : Nat => (j : Int) := by
  rw [nextG_ord _ (edges_ord _ _)]
  unfold nextP
  rw [show (gA ns A).edges = edgesN A ns.length ns.length from rfl, edgesN_eq, row_filter _ _ _ i hi]
  · rw [List.filter_eq_self.2, List.map_map]
    · rfl
    · intro e he
      obtain ⟨j, hj, rfl⟩ := List.mem_map.1 he
      rw [mem_succA] at hj
      have := hA i j hi hj.1 hj.2
      unfold nextC
      rw [hasG_in, show (gA ns A).nodes = ns from rfl, decide_eq_true, decide_eq_true, decide_eq_true]
      · rfl
      · exact ⟨by dsimp only; omega, by dsimp only; omega⟩
      · dsimp only; omega
      · rfl
  · intro k _ hne x hx
    obtain ⟨j, _, rfl⟩ := List.mem_map.1 hx
    unfold nextC
    rw [decide_eq_false (by dsimp only; omega)]; rfl
/-- A count of the paths to 't'. -/
structure CountB (A : Nat → Nat → Bool) (m t : Nat) (β : Nat → Nat) : Prop where
  top : β t = 1
  rec_ : ∀ i, i < m → i ≠ t → β i = ((succA A m i).map β).sum
  zero : ∀ i, t < i → i < m → β i = 0
/-! Forwards. -/
def sumM (β : Nat → Nat) (w : List (Int × Int)) : Int := (w.map fun p => p.2 * (β p.1.toNat : Int)).sum
theorem sumM_del (β : Nat → Nat) {w : List (Int × Int)} {i n : Int} (h : getI w i = some n) : sumM β w = n * (β i.toNat : Int) + sumM β (delI w i) := by
  induction w with
  | nil => simp [getI] at h
  | cons p w ih =>
    obtain ⟨k, c⟩ := p
    unfold getI at h
    unfold delI
    by_cases e : k = i
    · subst e
      rw [if_pos rfl] at h ⊢
      obtain rfl : c = n := by simpa using h
      simp [sumM]
    · rw [if_neg e] at h ⊢
      have := ih h
      simp only [sumM, List.map_cons, List.sum_cons] at this ⊢
      omega
theorem sumM_set (β : Nat → Nat) (w : List (Int × Int)) (i c : Int) : sumM β (setI w i c) = sumM β w - (getI w i).getD 0 * (β i.toNat : Int) + c * (β i.toNat : Int) := by
  induction w with
  | nil => simp [sumM, setI, getI]
  | cons p w ih =>
    obtain ⟨k, d⟩ := p
    unfold getI setI
    by_cases e : k = i
    · subst e
      rw [if_pos rfl, if_pos rfl]
      simp only [sumM, List.map_cons, List.sum_cons, Option.getD_some]
      omega
    · rw [if_neg e, if_neg e]
      simp only [sumM, List.map_cons, List.sum_cons] at ih ⊢
      omega
theorem sumM_add (β : Nat → Nat) (w : List (Int × Int)) (n i : Int) : Cg (sumM β (addI n w i)) (sumM β w + n * (β i.toNat : Int)) := by
  unfold addI
  rw [sumM_set]
  have h1 := (wr_cg ((getI w i).getD 0 + n)).mul (β i.toNat : Int)
  rw [Int.add_mul] at h1
  have := (Cg.refl (sumM β w - (getI w i).getD 0 * (β i.toNat : Int))).add h1
  refine this.trans ⟨0, by omega⟩
theorem sumM_adds (β : Nat → Nat) (n : Int) : ∀ (l : List Nat) (w : List (Int × Int)), Cg (sumM β ((l.map fun j : Nat => (j : Int)).foldl (addI n) w)) (sumM β w + n * ((l.map β).sum : Nat))
  | [], w => by simpa using Cg.refl _
  | j :: l, w => by
    rw [List.map_cons, List.foldl_cons, List.map_cons, List.sum_cons]
    refine (sumM_adds β n l _).trans ?_
    refine ((sumM_add β w n j).add (Cg.refl _)).trans ⟨0, ?_⟩
    rw [Int.toNat_natCast, Int.natCast_add, Int.mul_add]; omega
structure WaysOK (m : Nat) (β : Nat → Nat) (a : Nat) (i : Int) (w : List (Int × Int)) : Prop where
  uniq : Uniq w
  keys : ∀ p ∈ w, i ≤ p.1
  sum : Cg (sumM β w) (β a)
  wrs : ∀ p ∈ w, wr p.2 = p.2
  lt : ∀ p ∈ w, p.1 < (m : Int)
theorem mem_setI {β : Type} {m : List (Int × β)} {n : Int} {c : β} {p : Int × β} (h : p ∈ setI m n c) : p = (n, c) ∨ p ∈ m := by
  induction m with
  | nil => left; simpa [setI] using h
  | cons q m ih =>
    obtain ⟨k, d⟩ := q
    unfold setI at h
    split at h
    · rcases List.mem_cons.1 h with h | h
      · exact .inl (by rw [h])
      · exact .inr (by simp [h])
    · rcases List.mem_cons.1 h with h | h
      · exact .inr (by simp [h])
      · rcases ih h with h | h
        · exact .inl h
        · exact .inr (by simp [h])
theorem mem_delI {β : Type} {m : List (Int × β)} {n : Int} {p : Int × β} (h : p ∈ delI m n) : p ∈ m := by
  induction m with
  | nil => simp [delI] at h
  | cons q m ih =>
    obtain ⟨k, d⟩ := q
    unfold delI at h
    split at h
    · simp [h]
    · rcases List.mem_cons.1 h with h | h
      · simp [h]
      · simp [ih h]
theorem getI_mem {β : Type} {m : List (Int × β)} {n : Int} {c : β} (h : getI m n = some c) : (n, c) ∈ m := by
  induction m with
  | nil => simp [getI] at h
  | cons q m ih =>
    obtain ⟨k, d⟩ := q
    unfold getI at h
    split at h
    · rename_i e; subst e
      obtain rfl : d = c := by simpa using h
      simp
    · simp [ih h]
theorem delI_keys {m : List (Int × Int)} {n : Int} (hu : Uniq m) {i : Int} (hk : ∀ p ∈ m, i ≤ p.1) (hn : n = i) : ∀ p ∈ delI m n, i + 1 ≤ p.1 := by
  intro p hp
  have h1 := hk p (mem_delI hp)
  have h2 := (delI_spec hu n).2.1 n
  rw [if_pos rfl] at h2
  by_cases e : p.1 = n
  · exfalso
    have : getI (delI m n) n ≠ none := by
      intro hnone
      have key : ∀ (l : List (Int × Int)), p ∈ l → getI l p.1 ≠ none := by
        intro l
        induction l with
        | nil => simp
        | cons q l ih =>
          intro hm
          obtain ⟨k, d⟩ := q
          unfold getI
          split
          · simp
          · rename_i hne
            rcases List.mem_cons.1 hm with h | h
            · rw [h] at hne; exact absurd rfl hne
            · exact ih h
      exact key _ hp (by rw [e]; exact hnone)
    exact this h2
  · omega
theorem adds_ok {m : Nat} {i n : Int} : ∀ (l : List Nat) (w : List (Int × Int)), (∀ j ∈ l, i ≤ (j : Int) ∧ j < m) → Uniq w → (∀ p ∈ w, i ≤ p.1 ∧ p.1 < (m : Int)) → (∀ p ∈ w, wr p.2 = p.2) →
    Uniq ((l.map fun j : Nat => (j : Int)).foldl (addI n) w) ∧ (∀ p ∈ (l.map fun j : Nat => (j : Int)).foldl (addI n) w, i ≤ p.1 ∧ p.1 < (m : Int)) ∧ ∀ p ∈ (l.map fun j : Nat => (j : Int)).foldl (addI n) w, wr p.2 = p.2
  | [], w, _, h1, h2, h3 => ⟨h1, h2, h3⟩
  | j :: l, w, hl, h1, h2, h3 => by
    rw [List.map_cons, List.foldl_cons]
    refine adds_ok (m := m) l _ (fun k hk => hl k (by simp [hk])) (uniq_setI h1 _ _).1 (fun p hp => ?_) (fun p hp => ?_)
    · rcases mem_setI hp with rfl | h
      · have := hl j (by simp); exact ⟨this.1, by dsimp only; omega⟩
      · exact h2 p h
    · rcases mem_setI hp with rfl | h
      · exact wr_wr _
      · exact h3 p h
theorem ways_step {ns : List Config} {A : Nat → Nat → Bool} (hA : Asc A ns.length) {t : Nat} {β : Nat → Nat} (hβ : CountB A ns.length t β) {a i : Nat} (hi : i < t) (ht : t < ns.length) {w : List (Int × Int)} (h : WaysOK ns.length β a i w) :
    WaysOK ns.length β a ((i : Int) + 1) (stepW (gA ns A) w i) := by
  unfold stepW
  cases hg : getI w i with
  | none =>
    refine ⟨h.uniq, fun p hp => ?_, h.sum, h.wrs, h.lt⟩
    have h1 := h.keys p hp
    by_cases e : p.1 = i
    · exfalso
      have key : ∀ (l : List (Int × Int)), p ∈ l → getI l p.1 ≠ none := by
        intro l
        induction l with
        | nil => simp
        | cons q l ih =>
          intro hm
          obtain ⟨k, d⟩ := q
          unfold getI
          split
          · simp
          · rename_i hne
            rcases List.mem_cons.1 hm with h | h
            · rw [h] at hne; exact absurd rfl hne
            · exact ih h
      exact key _ hp (by rw [e]; exact hg)
    · omega
  | some n =>
    dsimp only
    rw [next_is hA zo]
    have hd := delI_spec h.uniq (i : Int)
    have ha := adds_ok (m := ns.length) (i := (i : Int) + 1) (n := n) (succA A ns.length i) (delI w i) (fun j hj => by
      rw [mem_succA] at hj
      have := hA i j zo hj.1 hj.2
      omega) hd.1 (fun p hp => ⟨delI_keys h.uniq h.keys rfl p hp, h.lt p (mem_delI hp)⟩) (fun p hp => h.wrs p (mem_delI hp))
    refine ⟨ha.1, fun p hp => (ha.2.1 p hp).1, ?_, ha.2.2, fun p hp => (ha.2.1 p hp).2⟩
    refine (sumM_adds β n _ _).trans ?_
    refine Cg.trans ⟨0, ?_⟩ h.sum
    rw [sumM_del β hg, Int.toNat_natCast, hβ.rec_ i zo zo]
    omega
theorem ways_ok {ns : List Config} {A : Nat → Nat → Bool} (hA : Asc A ns.length) {t : Nat} {β : Nat → Nat} (hβ : CountB A ns.length t β) (ht : t < ns.length) {a : Nat} : ∀ (n : Nat), a + n ≤ t →
    WaysOK ns.length β a ((a + n : Nat) : Int) ((upto a ((a + n : Nat) - 1 : Int)).foldl (stepW (gA ns A)) [((a : Int), 1)])
  | 0, _ => by
    rw [show upto (a : Int) (((a + 0 : Nat) : Int) - 1) = [] by unfold upto; rw [show ((((a + 0 : Nat) : Int) - 1) + 1 - a).toNat = 0 by omega]; rfl]
    refine ⟨by simp [Uniq], by simp, ?_, by simp [wr_small], by simp; omega⟩
    refine ⟨0, ?_⟩
    simp [sumM]
  | n + 1, h => by
    rw [show (((a + (n + 1) : Nat) : Int) - 1) = ((a + n : Nat) : Int) by omega, upto_snoc zo, List.foldl_append, List.foldl_cons, List.foldl_nil]
    have := ways_step hA hβ (i := a + n) zo ht (ways_ok hA hβ ht n zo)
    rw [show ((a + (n + 1) : Nat) : Int) = ((a + n : Nat) : Int) + 1 by omega]
    exact this
theorem sumM_top {β : Nat → Nat} {m t : Nat} (h1 : β t = 1) (h0 : ∀ i : Nat, t < i → i < m → β i = 0) : ∀ {w : List (Int × Int)}, Uniq w → (∀ p ∈ w, (t : Int) ≤ p.1) → (∀ p ∈ w, p.1 < (m : Int)) → sumM β w = (getI w t).getD 0
  | [], _, _, _ => rfl
  | p :: w, hu, hk, hm => by
    obtain ⟨k, c⟩ := p
    unfold Uniq at hu
    rw [List.map_cons, List.nodup_cons] at hu
    have ih := sumM_top h1 h0 (w := w) hu.2 (fun p hp => hk p (by simp [hp])) (fun p hp => hm p (by simp [hp]))
    have hk0 : (t : Int) ≤ k := hk (k, c) (by simp)
    have hm0 : k < (m : Int) := hm (k, c) (by simp)
    unfold getI
    simp only [sumM, List.map_cons, List.sum_cons] at ih ⊢
    by_cases e : k = t
    · subst e
      rw [if_pos rfl]
      have : getI w (t : Int) = none := getI_none hu.1
      rw [this] at ih
      rw [ih, Int.toNat_natCast, h1]; simp
    · rw [if_neg e, ih, h0 k.toNat zo zo]; simp
end Go.Proofs
