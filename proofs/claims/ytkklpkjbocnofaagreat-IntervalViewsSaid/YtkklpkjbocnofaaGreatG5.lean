/- Contracts of functions and plain laws: W82, W75, W83, W76, W77, W78, W79, W72, W84, W74. -/
import Derived.Test.YtkklpkjbocnofaaGreatRows
import Derived.Test.YtkklpkjbocnofaaGreatG4
set_option linter.unusedVariables false
set_option linter.unusedSimpArgs false
set_option maxRecDepth 8000
set_option maxHeartbeats 4000000
set_option pp.deepTerms false
set_option pp.deepTerms.threshold 6
namespace Go.Proofs
open Go.AM
attribute [local irreducible] AM.evalR AM.evalD AM.Runs AM.valK AM.dK AM.opK AM.stepR AM.CallS AM.St.Le
theorem getI_setI2 {β : Type} (m : List (Int × β)) (n k : Int) (c : β) : getI (setI m n c) k = if k = n then some c else getI m k := by
  induction m with
  | nil =>
    by_cases h : k = n
    · subst h; simp [setI, getI]
    · have h2 : ¬ n = k := fun q => h q.symm
      simp [setI, getI, h, h2]
  | cons p m ih =>
    obtain ⟨a, b⟩ := p
    simp only [setI]
    by_cases h : a = n
    · subst h
      by_cases hk : k = a
      · subst hk; simp [getI]
      · have h2 : ¬ a = k := fun q => hk q.symm
        simp [getI, hk, h2]
    · by_cases hk : a = k
      · subst hk; simp [getI, h]
      · simp [getI, h, hk, ih]
def Uniq2 (l : List Change) : Prop := l.Pairwise fun a b => ¬ (a.kind = b.kind ∧ a.server = b.server)
theorem uniq_of {l : List Change} (h : ∀ i k : Nat, k < i → i < l.length → ¬ ((l.getD k default).kind = (l.getD i default).kind ∧ (l.getD k default).server = (l.getD i default).server)) : Uniq2 l := by
  unfold Uniq2
  rw [List.pairwise_iff_getElem]
  intro i j hi hj hij
  have := h j i hij hj
  rw [List.getD_eq_getElem?_getD, List.getD_eq_getElem?_getD, List.getElem?_eq_getElem hi, List.getElem?_eq_getElem hj] at this
  exact this
theorem sorted_perm {l m : List Int} (h1 : l.Nodup) (h2 : StrictI m) (h3 : ∀ x, x ∈ l ↔ x ∈ m) : sortI l = m := by
  refine strict_ext ?_ h2 (fun x => by rw [mem_sortI, h3])
  have hn : (sortI l).Nodup := (List.mergeSort_perm l _).nodup_iff.2 h1
  have hl := sortI_le l
  exact (hl.and hn).imp (fun ⟨a, b⟩ => by omega)
structure OfInv (p : Proposal) (done : List Change) (s : Acc) (t : Summary) : Prop where
  sort : SortedS t
  j : s.j.Nodup ∧ (∀ x, x ∈ s.j ↔ ∃ c ∈ done, c.kind = 1 ∧ c.server = x) ∧ ∀ x, x ∈ t.joined ↔ x ∈ s.j
  r : s.r.Nodup ∧ (∀ x, x ∈ s.r ↔ ∃ c ∈ done, c.kind = 2 ∧ c.server = x) ∧ ∀ x, x ∈ t.removed ↔ x ∈ s.r
  w : ∀ x, lk t.weights x = getI s.m x
  e : ∀ x o, getI s.m x = some o → o.server = x ∧ (1 ≤ x ∧ x ≤ 12) ∧ o.admin = p.admin ∧ o.number = p.number ∧ (o.version = 0 ∨ 1 ≤ o.version ∧ ∃ c ∈ done, c.kind = 3 ∧ c.server = x)
  k : ∀ x, (∃ c ∈ done, c.kind = 1 ∧ c.server = x) → (getI s.m x).isSome = true
  ru : s.rule = t.rule ∧ s.ver = t.version ∧ s.adm = t.admin ∧ s.num = t.number
theorem laterB_self (a b : WeightEntry) (h : a.admin = b.admin) (h2 : a.number = b.number) : laterB a b = decide (b.version < a.version) := by
  unfold laterB
  by_cases e : a.version = b.version
  · simp [e, h, h2]
  · simp [e]
theorem of_step {p : Proposal} {done : List Change} {c : Change} {s : Acc} {t : Summary} (hI : OfInv p done s t) (hc : ChangeOK c) (hu : ∀ d ∈ done, ¬ (d.kind = c.kind ∧ d.server = c.server)) : OfInv p (done ++ [c]) (ofStep p s c) (ofTStep p t c) := by
  obtain ⟨⟨s1, s2, s3⟩, ⟨j1, j2, j3⟩, ⟨r1, r2, r3⟩, hw, he, hk, hru⟩ := hI
  have hE : ∀ (q : Change → Prop) , (∃ d ∈ done ++ [c], q d) ↔ (∃ d ∈ done, q d) ∨ q c := by
    intro q
    constructor
    · rintro ⟨d, hd, h⟩
      rcases List.mem_append.1 hd with hd | hd
      · exact .inl ⟨d, hd, h⟩
      · rw [List.mem_singleton.1 hd] at h; exact .inr h
    · rintro (⟨d, hd, h⟩ | h)
      · exact ⟨d, by simp [hd], h⟩
      · exact ⟨c, by simp, h⟩
  have heT : ∀ x o, getI s.m x = some o → o.server = x ∧ (1 ≤ x ∧ x ≤ 12) ∧ o.admin = p.admin ∧ o.number = p.number ∧ (o.version = 0 ∨ 1 ≤ o.version ∧ ∃ d ∈ done ++ [c], d.kind = 3 ∧ d.server = x) := fun x o h => by
    obtain ⟨a1, a2, a3, a4, a5⟩ := he x o h
    exact ⟨a1, a2, a3, a4, a5.imp id fun ⟨b1, d, hd, b2⟩ => ⟨b1, d, by simp [hd], b2⟩⟩
  rcases hc with ⟨h1, h2, h3, h4, h5⟩ | ⟨h1, h2, h3, h4, h5⟩ | ⟨h1, h2, h3, h4, h5⟩ | ⟨h1, h2, h3, h4, h5⟩
  · -- join
    unfold ofStep ofTStep
    rw [if_pos h1, if_pos h1]
    have hnj : c.server ∉ s.j := fun q => by obtain ⟨d, hd, e1, e2⟩ := (j2 _).1 q; exact hu d hd ⟨e1.trans h1.symm, e2⟩
    have hT := insR_rec s1 c.server
    have hTw := weighR_rec s3 ⟨c.server, c.weight, 0, p.admin, p.number⟩
    refine ⟨⟨?_, s2, ?_⟩, ⟨?_, ?_, ?_⟩, ⟨r1, ?_, r3⟩, ?_, ?_, ?_, hru⟩
    · dsimp only; rw [hT]; exact insRec_strict _ s1
    · dsimp only; rw [hTw]; exact weighRec_strict _ s3
    · dsimp only; rw [List.nodup_append]; exact ⟨j1, by simp, fun a ha b hb e => by rw [List.mem_singleton.1 hb] at e; exact hnj (e ▸ ha)⟩
    · intro x; dsimp only; rw [hE (fun d => d.kind = 1 ∧ d.server = x), ← j2 x]; simp [h1, eq_comm]
    · intro x; dsimp only; rw [hT, mem_insRec, j3 x]; simp
    · intro x; rw [hE (fun d => d.kind = 2 ∧ d.server = x), ← r2 x]; simp [h1]
    · intro x
      dsimp only
      rw [hTw, lk_weigh _ _ s3, hw]
      dsimp only
      by_cases e : c.server = x
      · subst e
        rw [if_pos rfl]
        cases ho : getI s.m c.server with
        | none => rw [if_neg (by simp), getI_setI2, if_pos rfl]; unfold wC; rw [h4]
        | some o =>
          rw [if_pos (show (some o).isSome = true from rfl), ho]
          obtain ⟨_, _, e3, e4, e5⟩ := he _ o ho
          have hl : laterB ⟨c.server, c.weight, 0, p.admin, p.number⟩ o = false := by
            rw [laterB_self _ _ e3.symm e4.symm]
            exact decide_eq_false (by dsimp only; omega)
          dsimp only; rw [hl, if_neg zd]
      · rw [if_neg e]
        split
        · rfl
        · rw [getI_setI2, if_neg (fun q => e q.symm)]
    · intro x o ho
      dsimp only at ho
      split at ho
      · exact heT x o ho
      · rw [getI_setI2] at ho
        split at ho
        · rename_i e; subst e
          obtain rfl := Option.some.inj ho
          exact ⟨rfl, h2, rfl, rfl, .inl h4⟩
        · exact heT x o ho
    · intro x hx
      dsimp only
      rw [hE (fun d => d.kind = 1 ∧ d.server = x)] at hx
      split
      · rename_i hs
        rcases hx with hx | ⟨_, hx⟩
        · exact hk x hx
        · rw [← hx]; exact hs
      · rw [getI_setI2]
        split
        · rfl
        · rename_i hne
          rcases hx with hx | ⟨_, hx⟩
          · exact hk x hx
          · exact absurd hx.symm hne
  · -- remove
    unfold ofStep ofTStep
    rw [if_neg zo, if_pos h1, if_neg zo, if_pos h1]
    have hnr : c.server ∉ s.r := fun q => by obtain ⟨d, hd, e1, e2⟩ := (r2 _).1 q; exact hu d hd ⟨e1.trans h1.symm, e2⟩
    have hT := insR_rec s2 c.server
    refine ⟨⟨s1, ?_, s3⟩, ⟨j1, ?_, j3⟩, ⟨?_, ?_, ?_⟩, hw, heT, ?_, hru⟩
    · dsimp only; rw [hT]; exact insRec_strict _ s2
    · intro x; rw [hE (fun d => d.kind = 1 ∧ d.server = x), ← j2 x]; simp [h1]
    · dsimp only; rw [List.nodup_append]; exact ⟨r1, by simp, fun a ha b hb e => by rw [List.mem_singleton.1 hb] at e; exact hnr (e ▸ ha)⟩
    · intro x; dsimp only; rw [hE (fun d => d.kind = 2 ∧ d.server = x), ← r2 x]; simp [h1, eq_comm]
    · intro x; dsimp only; rw [hT, mem_insRec, r3 x]; simp
    · intro x hx
      rw [hE (fun d => d.kind = 1 ∧ d.server = x)] at hx
      exact hk x (hx.elim id fun q => by omega)
  · -- weight
    unfold ofStep ofTStep
    rw [if_neg zo, if_neg zo, if_pos h1, if_neg zo, if_neg zo, if_pos h1]
    have hTw := weighR_rec s3 ⟨c.server, c.weight, c.version, p.admin, p.number⟩
    refine ⟨⟨s1, s2, ?_⟩, ⟨j1, ?_, j3⟩, ⟨r1, ?_, r3⟩, ?_, ?_, ?_, hru⟩
    · dsimp only; rw [hTw]; exact weighRec_strict _ s3
    · intro x; rw [hE (fun d => d.kind = 1 ∧ d.server = x), ← j2 x]; simp [h1]
    · intro x; rw [hE (fun d => d.kind = 2 ∧ d.server = x), ← r2 x]; simp [h1]
    · intro x
      dsimp only
      rw [hTw, lk_weigh _ _ s3, hw, getI_setI2]
      dsimp only
      by_cases e : c.server = x
      · subst e
        rw [if_pos rfl, if_pos rfl]
        cases ho : getI s.m c.server with
        | none => rfl
        | some o =>
          obtain ⟨_, _, e3, e4, e5⟩ := he _ o ho
          have e6 : o.version = 0 := e5.elim id fun ⟨_, d, hd, e7, e8⟩ => absurd ⟨e7.trans h1.symm, e8⟩ (hu d hd)
          have hl : laterB ⟨c.server, c.weight, c.version, p.admin, p.number⟩ o = true := by
            rw [laterB_self _ _ e3.symm e4.symm]
            exact decide_eq_true (by dsimp only; omega)
          dsimp only; rw [hl, if_pos rfl]; rfl
      · rw [if_neg e, if_neg (fun q => e q.symm)]
    · intro x o ho
      dsimp only at ho
      rw [getI_setI2] at ho
      split at ho
      · rename_i e; subst e
        obtain rfl := Option.some.inj ho
        exact ⟨rfl, h2, rfl, rfl, .inr ⟨h4.1, c, by simp, h1, rfl⟩⟩
      · exact heT x o ho
    · intro x hx
      rw [hE (fun d => d.kind = 1 ∧ d.server = x)] at hx
      dsimp only
      rw [getI_setI2]
      split
      · rfl
      · exact hk x (hx.elim id fun q => by omega)
  · -- rule
    unfold ofStep ofTStep
    rw [if_neg zo, if_neg zo, if_neg zo, if_pos h1, if_neg zo, if_neg zo, if_neg zo, if_pos h1]
    refine ⟨⟨s1, s2, s3⟩, ⟨j1, ?_, j3⟩, ⟨r1, ?_, r3⟩, hw, heT, ?_, ⟨rfl, rfl, rfl, rfl⟩⟩
    · intro x; rw [hE (fun d => d.kind = 1 ∧ d.server = x), ← j2 x]; simp [h1]
    · intro x; rw [hE (fun d => d.kind = 2 ∧ d.server = x), ← r2 x]; simp [h1]
    · intro x hx
      rw [hE (fun d => d.kind = 1 ∧ d.server = x)] at hx
      exact hk x (hx.elim id fun q => by omega)
theorem of_inv (p : Proposal) : ∀ (cs done : List Change) (s : Acc) (t : Summary), OfInv p done s t → (∀ c ∈ cs, ChangeOK c) → Uniq2 (done ++ cs) → OfInv p (done ++ cs) (cs.foldl (ofStep p) s) (cs.foldl (ofTStep p) t)
  | [], done, s, t, h, _, _ => by simpa using h
  | c :: cs, done, s, t, h, h2, h3 => by
    have h4 := of_step h (h2 c (by simp)) (fun d hd => by
      have := List.pairwise_append.1 h3
      exact this.2.2 d hd c (by simp))
    have := of_inv p cs (done ++ [c]) _ _ h4 (fun d hd => h2 d (by simp [hd])) (by simpa using h3)
    simpa using this
theorem of_inv0 (p : Proposal) : OfInv p [] acc0 sum0 := ⟨⟨List.Pairwise.nil, List.Pairwise.nil, List.Pairwise.nil⟩, ⟨List.nodup_nil, by simp [acc0], by simp [acc0, sum0]⟩, ⟨List.nodup_nil, by simp [acc0], by simp [acc0, sum0]⟩, fun x => rfl, fun x o h => (by simp [acc0, getI] at h), by simp, ⟨rfl, rfl, rfl, rfl⟩⟩
theorem upto_strict (a b : Int) : StrictI (upto a b) := by
  unfold upto
  rw [StrictI, List.pairwise_map]
  exact List.pairwise_lt_range.imp (fun h => by omega)
theorem weightsOf_strict {m : List (Int × WeightEntry)} (h : ∀ x o, getI m x = some o → o.server = x) : StrictW (weightsOf m) := by
  unfold weightsOf
  rw [StrictW, List.pairwise_filterMap]
  exact (upto_strict 1 12).imp (fun {a b} hab o ho o' ho' => by rw [h a o ho, h b o' ho']; exact hab)
theorem weightsOf_lk {m : List (Int × WeightEntry)} (h : ∀ x o, getI m x = some o → o.server = x ∧ (1 ≤ x ∧ x ≤ 12)) (x : Int) : lk (weightsOf m) x = getI m x := by
  have gen : ∀ l : List Int, lk (l.filterMap (getI m)) x = if x ∈ l then getI m x else none := by
    intro l
    induction l with
    | nil => simp [lk]
    | cons y l ih =>
      rw [List.filterMap_cons]
      cases hy : getI m y with
      | none =>
        dsimp only; rw [ih]
        by_cases e : x = y
        · subst e; rw [hy]; simp
        · simp [e]
      | some o =>
        dsimp only; rw [lk_cons, ih, (h y o hy).1]
        by_cases e : y = x
        · subst e; rw [if_pos rfl, if_pos (by simp), hy]
        · rw [if_neg e]
          by_cases e2 : x ∈ l
          · rw [if_pos e2, if_pos (by simp [e2])]
          · rw [if_neg e2, if_neg (by simp [e2]; exact fun q => e q.symm)]
  unfold weightsOf
  rw [gen]
  split
  · rfl
  · rename_i hn
    cases hx : getI m x with
    | none => rfl
    | some o => exact absurd (mem_upto.2 (h x o hx).2) hn
theorem of_full {p : Proposal} (h : PropOK p) : OfInv p p.changes (ofAcc p) (ofT p) := by
  have := of_inv p p.changes [] acc0 sum0 (of_inv0 p) h.2.2.2.1 (by simpa using uniq_of h.2.2.2.2)
  unfold ofAcc ofT
  simpa using this
theorem ofS_T {p : Proposal} (h : PropOK p) : ofS p = ofT p ∧ SortedS (ofT p) := by
  have hI := of_full h
  refine ⟨?_, hI.sort⟩
  obtain ⟨⟨s1, s2, s3⟩, ⟨j1, j2, j3⟩, ⟨r1, r2, r3⟩, hw, he, hk, e1, e2, e3, e4⟩ := hI
  unfold ofS
  generalize ofT p = t at *
  obtain ⟨J, R, W, ru, ver, adm, num⟩ := t
  dsimp only at *
  rw [sorted_perm j1 s1 (fun x => (j3 x).symm), sorted_perm r1 s2 (fun x => (r3 x).symm), e1, e2, e3, e4]
  rw [strictW_ext (weightsOf_strict fun x o ho => (he x o ho).1) s3 (fun x => by rw [weightsOf_lk (fun x o ho => ⟨(he x o ho).1, (he x o ho).2.1⟩), hw])]
def MemOK (g : View) : Prop := (∀ m ∈ g.members, (1 ≤ m.server ∧ m.server ≤ 12) ∧ 1 ≤ m.weight ∧ m.weight ≤ 9) ∧ g.members.Pairwise (fun a b => a.server < b.server)
theorem initS_sorted {g : View} (h : MemOK g) : SortedS (initS g) := by
  refine ⟨?_, List.Pairwise.nil, ?_⟩
  · show (g.members.map (·.server)).Pairwise (· < ·)
    rw [List.pairwise_map]; exact h.2
  · show (g.members.map wOf).Pairwise _
    rw [List.pairwise_map]; exact h.2
theorem sumS_T {g : View} (hg : MemOK g) {c : Config} (hc : ∀ p ∈ c, PropOK p) : sumS g c = sumT g c ∧ SortedS (sumT g c) := by
  have gen : ∀ (c : Config) (s : Summary), SortedS s → (∀ p ∈ c, PropOK p) → c.foldl sumStep s = c.foldl sumTStep s ∧ SortedS (c.foldl sumTStep s) := by
    intro c
    induction c with
    | nil => intro s hs _; exact ⟨rfl, hs⟩
    | cons p c ih =>
      intro s hs hc
      have e1 := ofS_T (hc p (by simp))
      have e2 := joinS_T hs (ofT p)
      have e3 : sumStep s p = sumTStep s p := by unfold sumStep sumTStep; rw [e1.1, e2.1]
      rw [List.foldl_cons, List.foldl_cons, e3]
      exact ih _ e2.2 (fun q hq => hc q (by simp [hq]))
  exact gen c _ (initS_sorted hg) hc
theorem viewOf_T {g : View} (hg : MemOK g) {c : Config} (hc : ∀ p ∈ c, PropOK p) : viewOf g c = viewT (sumT g c) := by
  have h := sumS_T hg hc
  unfold viewOf
  rw [h.1, viewS_T h.2.2.2]
theorem strictI_len : ∀ {l : List Int} {lo hi : Int}, StrictI l → (∀ x ∈ l, lo ≤ x ∧ x ≤ hi) → (l.length : Int) ≤ max 0 (hi - lo + 1)
  | [], lo, hi, _, _ => by simp; omega
  | x :: l, lo, hi, h, hb => by
    replace h := List.pairwise_cons.1 h
    have h0 := hb x (by simp)
    have h1 := strictI_len (lo := x + 1) (hi := hi) h.2 (fun y hy => ⟨by have := h.1 y hy; omega, (hb y (by simp [hy])).2⟩)
    rw [List.length_cons]; omega
theorem MemOK.len {g : View} (h : MemOK g) : g.members.length ≤ 12 := by
  have := strictI_len (l := g.members.map (·.server)) (lo := 1) (hi := 12) (by rw [StrictI, List.pairwise_map]; exact h.2) (fun x hx => by obtain ⟨m, hm, rfl⟩ := List.mem_map.1 hx; exact (h.1 m hm).1)
  rw [List.length_map] at this; omega
end Go.Proofs
namespace Go.Proofs
open Go.AM
attribute [local irreducible] AM.evalR AM.evalD AM.Runs AM.valK AM.dK AM.opK AM.stepR AM.CallS AM.St.Le
def ruleE (r : Rule) : Int := if r.kind < 1 ∨ 4 < r.kind then 10 else if (r.kind = 3 ∧ ¬ (1 ≤ r.columns ∧ r.columns ≤ 12)) ∨ (r.kind ≠ 3 ∧ r.columns ≠ 0) then 9 else if (r.kind = 4 ∧ (r.faulty < 0 ∨ 12 < r.faulty)) ∨ (r.kind ≠ 4 ∧ r.faulty ≠ 0) then 9 else 0
def changeE (c : Change) : Int :=
  if c.kind = 1 ∨ c.kind = 2 ∨ c.kind = 3 then
    if ¬ (1 ≤ c.server ∧ c.server ≤ 12) then 9
    else if (c.kind = 2 ∧ c.weight ≠ 0) ∨ (c.kind ≠ 2 ∧ (c.weight < 1 ∨ 9 < c.weight)) then 9
    else if (c.kind = 3 ∧ (c.version < 1 ∨ 1000 < c.version)) ∨ (c.kind ≠ 3 ∧ c.version ≠ 0) then 9
    else if c.rule = ⟨0, 0, 0⟩ then 0 else 2
  else if c.kind = 4 then (if c.server ≠ 0 then 9 else if c.weight ≠ 0 then 9 else if c.version < 1 ∨ 1000 < c.version then 9 else ruleE c.rule)
  else 10
theorem vax_Rule (r : Rule) : AM.Fn Tryz.prog 61 [ruV r] (.i (ruleE r)) := by
  (refine spec_of_runs Tryz.func61 rfl ?_; simp only [Tryz.f61]; refine ys ?_)
  repeat' (first | refine yw ?_ | ((with_reducible refine Runs.is ?_); first | refine Runs.region ?_ | ((with_reducible refine Runs.isC ?_); refine Runs.cond rfl (zc ?_) (zc ?_) <;> intro hc <;> (try (first | contradiction | (exfalso; omega; done) | (have : hc = trivial := rfl; clear this; clear hc))))) | ((with_reducible refine r_is ?_); first | refine yr ?_ | (refine r_fn rfl (val_Server _) HbF.h zL1 zD ?_; refine r_nn zN zH ?_) | ((with_reducible refine r_gd ?_); (first | refine r_guardPf rfl rfl ?_ ?_ | refine r_guardNf rfl rfl ?_ ?_ | refine r_guardPt rfl rfl ?_ ?_ | refine r_guardNt rfl rfl ?_ ?_ | refine r_guard rfl rfl ?_ ?_) <;> intro hG <;> (try (exfalso; omega; done)) <;> refine r_nn zN zH ?_)) | fail)
  all_goals ((refine Runs.ret1 Tryz.func61 rfl zM zD ?_; try exact zX))
  all_goals (refine V.Le.of_eq (congrArg V.i ?_); unfold ruleE; (repeat' split) <;> omega)
theorem vax_Ch (k s w v : Int) (r : Rule) (hk : k = 1 ∨ k = 2 ∨ k = 3) : AM.Fn Tryz.prog 76 [chV ⟨k, s, w, v, r⟩] (.i (changeE ⟨k, s, w, v, r⟩)) := by
  rcases hk with rfl | rfl | rfl
  all_goals ((refine spec_of_runs Tryz.func76 rfl ?_; simp only [Tryz.f76]; refine ys ?_))
  all_goals (repeat' (first | refine yw ?_ | ((with_reducible refine Runs.is ?_); first | refine Runs.region ?_ | refine Runs.drawn mixed zK ?_ | ((with_reducible refine Runs.isC ?_); refine Runs.cond rfl (zc ?_) (zc ?_) <;> intro hc <;> (try (first | contradiction | (exfalso; omega; done) | (have : hc = trivial := rfl; clear this; clear hc))))) | ((with_reducible refine r_is ?_); first | refine yr ?_ | (refine r_fn rfl (val_Server _) HbF.h zL1 zD ?_; refine r_nn zN zH ?_) | ((with_reducible refine r_gd ?_); (first | refine r_guardPf rfl rfl ?_ ?_ | refine r_guardNf rfl rfl ?_ ?_ | refine r_guardPt rfl rfl ?_ ?_ | refine r_guardNt rfl rfl ?_ ?_ | refine r_guard rfl rfl ?_ ?_) <;> intro hG <;> (try (exfalso; omega; done)) <;> refine r_nn zN zH ?_)) | ((with_reducible refine d_is ?_); first | refine yd ?_) | fail))
  all_goals ((refine Runs.ret1 Tryz.func76 rfl zM zD ?_; try exact zX))
  all_goals (refine V.Le.of_eq (congrArg V.i ?_); unfold changeE; dsimp only; (repeat' split) <;> first | omega | simp_all)
theorem vax_Ch4 (s w v : Int) (r : Rule) : AM.Fn Tryz.prog 76 [chV ⟨4, s, w, v, r⟩] (.i (changeE ⟨4, s, w, v, r⟩)) := by
  (refine spec_of_runs Tryz.func76 rfl ?_; simp only [Tryz.f76]; refine ys ?_)
  repeat' (first | refine yw ?_ | ((with_reducible refine Runs.is ?_); first | refine Runs.region ?_ | refine Runs.drawn mixed zK ?_ | ((with_reducible refine Runs.isC ?_); refine Runs.cond rfl (zc ?_) (zc ?_) <;> intro hc <;> (try (first | contradiction | (exfalso; omega; done) | (have : hc = trivial := rfl; clear this; clear hc))))) | ((with_reducible refine r_is ?_); first | refine yr ?_ | (refine r_fn rfl (vax_Rule r) HbF.h zL1 zD ?_; refine r_nn zN zH ?_) | ((with_reducible refine r_gd ?_); (first | refine r_guardPf rfl rfl ?_ ?_ | refine r_guardNf rfl rfl ?_ ?_ | refine r_guardPt rfl rfl ?_ ?_ | refine r_guardNt rfl rfl ?_ ?_ | refine r_guard rfl rfl ?_ ?_) <;> intro hG <;> (try (exfalso; omega; done)) <;> refine r_nn zN zH ?_)) | ((with_reducible refine d_is ?_); first | refine yd ?_) | fail)
  all_goals ((refine Runs.ret1 Tryz.func76 rfl zM zD ?_; try exact zX))
  all_goals (refine V.Le.of_eq (congrArg V.i ?_); unfold changeE; dsimp only; (repeat' split) <;> first | rfl | omega)
theorem vax_Ch0 (k s w v : Int) (r : Rule) (h1 : k ≠ 1) (h2 : k ≠ 2) (h3 : k ≠ 3) (h4 : k ≠ 4) : AM.Fn Tryz.prog 76 [chV ⟨k, s, w, v, r⟩] (.i (changeE ⟨k, s, w, v, r⟩)) := by
  have e : changeE ⟨k, s, w, v, r⟩ = 10 := by unfold changeE; dsimp only; rw [if_neg zo, if_neg zo]
  rw [e]
  (refine spec_of_runs Tryz.func76 rfl ?_; simp only [Tryz.f76]; refine ys ?_)
  repeat' (first | refine yw ?_ | ((with_reducible refine Runs.is ?_); first | refine Runs.region ?_ | refine Runs.drawn mixed zK ?_ | ((with_reducible refine Runs.isC ?_); refine Runs.cond rfl (zc ?_) (zc ?_) <;> intro hc <;> (try (first | contradiction | (exfalso; omega; done) | (have : hc = trivial := rfl; clear this; clear hc))))) | ((with_reducible refine r_is ?_); first | refine yr ?_ | ((with_reducible refine r_gd ?_); (first | refine r_guardPf rfl rfl ?_ ?_ | refine r_guardNf rfl rfl ?_ ?_ | refine r_guardPt rfl rfl ?_ ?_ | refine r_guardNt rfl rfl ?_ ?_ | refine r_guard rfl rfl ?_ ?_) <;> intro hG <;> (try (exfalso; omega; done)) <;> refine r_nn zN zH ?_)) | ((with_reducible refine d_is ?_); first | refine yd ?_) | fail)
  all_goals ((refine Runs.ret1 Tryz.func76 rfl zM zD ?_; try exact zX))
theorem vax_Change (c : Change) : AM.Fn Tryz.prog 76 [chV c] (.i (changeE c)) := by
  obtain ⟨k, s, w, v, r⟩ := c
  by_cases h : k = 1 ∨ k = 2 ∨ k = 3
  · exact vax_Ch k s w v r h
  · by_cases h4 : k = 4
    · subst h4; exact vax_Ch4 s w v r
    · exact vax_Ch0 k s w v r zo zo zo h4
theorem ruleE_ok {r : Rule} (h : ruleE r = 0) : RuleOK r := by
  unfold ruleE at h
  unfold RuleOK
  split at h
  · omega
  split at h
  · omega
  split at h <;> omega
theorem changeE_ok {c : Change} (h : changeE c = 0) : ChangeOK c := by
  obtain ⟨k, s, w, v, r⟩ := c
  unfold changeE at h
  unfold ChangeOK
  dsimp only at h ⊢
  by_cases h4 : k = 4
  · subst h4
    rw [if_neg zd, if_pos rfl] at h
    (repeat' split at h) <;> first | omega | skip
    exact .inr (.inr (.inr ⟨rfl, by omega, by omega, by omega, ruleE_ok h⟩))
  · (repeat' split at h) <;> first | omega | skip
    rename_i hr
    rcases (show k = 1 ∨ k = 2 ∨ k = 3 by omega) with rfl | rfl | rfl
    · exact .inl ⟨rfl, by omega, by omega, by omega, hr⟩
    · exact .inr (.inl ⟨rfl, by omega, by omega, by omega, hr⟩)
    · exact .inr (.inr (.inl ⟨rfl, by omega, by omega, by omega, hr⟩))
end Go.Proofs
namespace Go.Proofs
open Go.AM
attribute [local irreducible] AM.evalR AM.evalD AM.Runs AM.valK AM.dK AM.opK AM.stepR AM.CallS AM.St.Le
def memE : List Member → Nat → Nat → Int
  | _, _, 0 => 0
  | l, i, n + 1 => if ¬ (1 ≤ (l.getD i default).server ∧ (l.getD i default).server ≤ 12) ∨ (l.getD i default).weight < 1 ∨ 9 < (l.getD i default).weight then 9
    else if 0 < i ∧ (l.getD i default).server ≤ (l.getD (i - 1) default).server then 7 else memE l (i + 1) n
def viewE (v : View) : Int := if ruleE v.rule ≠ 0 then ruleE v.rule else memE v.members 0 v.members.length
def genE (g : View) : Int := if viewE g ≠ 0 then viewE g else if g.members.length = 0 then 2 else 0
theorem vax_View (v : View) (hl : v.members.length ≤ 4611686018427387904) : AM.Fn Tryz.prog 39 [viV v] (.i (viewE v)) := by
  have hgo : ∀ e, viewE v = e → AM.Fn Tryz.prog 39 [viV v] (.i e) := by
    intro e he
    unfold viewE at he
    have hR := vax_Rule v.rule
    obtain ⟨ms, ru⟩ := v
    dsimp only at he hR hl
    (refine spec_of_runs Tryz.func39 rfl ?_; simp only [Tryz.f39]; refine ys ?_)
    repeat' (first | refine yw ?_ | ((with_reducible refine Runs.is ?_); first | refine Runs.region (id := 0) ?_ | refine Runs.region (id := 1) ?_ | refine Runs.region (id := 2) ?_ | refine Runs.region (id := 3) ?_ | refine Runs.region (id := 4) ?_ | ((with_reducible refine Runs.isC ?_); refine Runs.cond rfl (zc ?_) (zc ?_) <;> intro hc <;> (try (first | contradiction | (exfalso; omega; done) | (have : hc = trivial := rfl; clear this; clear hc))))) | ((with_reducible refine r_is ?_); first | refine yr ?_ | (refine r_fn rfl (hR) HbF.h zL1 zD ?_; refine r_nn zN zH ?_)) | fail)
    · rw [if_pos (by assumption)] at he
      subst he
      (refine Runs.ret1 Tryz.func39 rfl zM zD ?_; try exact zX)
    rw [if_neg zo] at he
    refine Runs.loopI (fun i : Nat => ms.length - i) (fun i => i ≤ ms.length ∧ memE ms i (ms.length - i) = e)
      (fun i => ⟨[.any, .ptr 1 0 0, .any, .any, .i (i : Nat), .any, .any, .any, .any, .any, .any, .any, .any, .any, .any, .any, .any, .any, .any, .any, .any, .any, .any, .any, .any, .any, .any, .any, .any, .any, .any, .any, .any, .any, .any, .any, .any, .any, .any, .any, .any, .any, .any, .any, .any, .any, .any, .any, .any, .any, .any, .any], [(1, .var 41 (viV ⟨ms, ru⟩))]⟩) 0 (by simpa using he) ?_ ?_
    · (refine St.Le.clean zR zU zV)
    rintro i ⟨hi, he2⟩ ih
    by_cases hlt : i < ms.length
    · rw [show ms.length - i = (ms.length - (i + 1)) + 1 by omega, memE] at he2
      have e1 : ((i : Int) - 1).toNat = i - 1 := by omega
      rw [← e1] at he2
      repeat' (first | refine yw ?_ | ((with_reducible refine Runs.is ?_); first | refine Runs.region (id := 5) ?_ | refine Runs.region (id := 7) ?_ | refine Runs.region (id := 8) ?_ | refine Runs.region (id := 9) ?_ | refine Runs.drawn (id := 10) mixed zK ?_ | refine Runs.region (id := 11) ?_ | refine Runs.region (id := 6) ?_ | ((with_reducible refine Runs.isC ?_); refine Runs.cond rfl (zc ?_) (zc ?_) <;> intro hc <;> (try (first | contradiction | (exfalso; omega; done) | (have : hc = trivial := rfl; clear this; clear hc))))) | ((with_reducible refine r_is ?_); first | refine yr ?_ | (refine r_fn rfl (val_Server _) HbF.h zL1 zD ?_; refine r_nn zN zH ?_) | ((with_reducible refine r_gd ?_); (first | refine r_guardPf rfl rfl ?_ ?_ | refine r_guardNf rfl rfl ?_ ?_ | refine r_guard rfl rfl ?_ ?_) <;> intro hG <;> (try (exfalso; omega; done)) <;> refine r_nn zN zH ?_)) | ((with_reducible refine d_is ?_); first | refine yd ?_ | ((with_reducible refine d_gd ?_); (first | refine d_guardPt rfl rfl ?_ ?_ | refine d_guardNt rfl rfl ?_ ?_ | refine d_guard rfl rfl ?_ ?_) <;> intro hG <;> (try (exfalso; omega; done)) <;> refine d_nn zN zH ?_)) | fail)
      all_goals first
        | (rw [if_pos zo] at he2; subst he2; (refine Runs.ret1 Tryz.func39 rfl zM zD ?_; try exact zX); done)
        | (rw [if_neg zo, if_pos zo] at he2; subst he2; (refine Runs.ret1 Tryz.func39 rfl zM zD ?_; try exact zX); done)
        | (rw [if_neg zo, if_neg zo] at he2
           refine ih (i + 1) _ ⟨by omega, he2⟩ zo ?_
           (refine St.Le.clean zR zU zV)
           done)
        | fail
    · repeat' (first | refine yw ?_ | ((with_reducible refine Runs.is ?_); first | refine Runs.region (id := 5) ?_ | ((with_reducible refine Runs.isC ?_); refine Runs.cond rfl (zc ?_) (zc ?_) <;> intro hc <;> (try (first | contradiction | (exfalso; omega; done) | (have : hc = trivial := rfl; clear this; clear hc))))) | ((with_reducible refine r_is ?_); first | refine yr ?_) | fail)
      rw [show ms.length - i = 0 by omega, memE] at he2
      repeat' (first | refine yw ?_ | ((with_reducible refine Runs.is ?_); first | refine Runs.region (id := 12) ?_ | ((with_reducible refine Runs.isC ?_); refine Runs.cond rfl (zc ?_) (zc ?_) <;> intro hc <;> (try (first | contradiction | (exfalso; omega; done) | (have : hc = trivial := rfl; clear this; clear hc))))) | ((with_reducible refine r_is ?_); first | refine yr ?_) | fail)
      subst he2
      (refine Runs.ret1 Tryz.func39 rfl zM zD ?_; try exact zX)
  exact hgo _ rfl
theorem vax_Gen (g : View) (hl : g.members.length ≤ 4611686018427387904) : AM.Fn Tryz.prog 14 [viV g] (.i (genE g)) := by
  have hgo : ∀ e, genE g = e → AM.Fn Tryz.prog 14 [viV g] (.i e) := by
    intro e he
    unfold genE at he
    have hV := vax_View g hl
    generalize viewE g = ve at *
    obtain ⟨ms, ru⟩ := g
    dsimp only at he hl
    (refine spec_of_runs Tryz.func14 rfl ?_; simp only [Tryz.f14]; refine ys ?_)
    repeat' (first | refine yw ?_ | ((with_reducible refine Runs.is ?_); first | refine Runs.region ?_ | ((with_reducible refine Runs.isC ?_); refine Runs.cond rfl (zc ?_) (zc ?_) <;> intro hc <;> (try (first | contradiction | (exfalso; omega; done) | (have : hc = trivial := rfl; clear this; clear hc))))) | ((with_reducible refine r_is ?_); first | refine yr ?_ | (refine r_fn rfl (hV) HbF.h zL1 zD ?_; refine r_nn zN zH ?_)) | fail)
    · rw [if_pos (by assumption)] at he
      subst he
      (refine Runs.ret1 Tryz.func14 rfl zM zD ?_; try exact zX)
    · rw [if_neg zo, if_pos zo] at he
      subst he
      (refine Runs.ret1 Tryz.func14 rfl zM zD ?_; try exact zX)
    · rw [if_neg zo, if_neg zo] at he
      subst he
      (refine Runs.ret1 Tryz.func14 rfl zM zD ?_; try exact zX)
  exact hgo _ rfl
theorem memE_ok {l : List Member} : ∀ (n i : Nat), memE l i n = 0 → ∀ j, i ≤ j → j < i + n → ((1 ≤ (l.getD j default).server ∧ (l.getD j default).server ≤ 12) ∧ 1 ≤ (l.getD j default).weight ∧ (l.getD j default).weight ≤ 9) ∧ (0 < j → (l.getD (j - 1) default).server < (l.getD j default).server)
  | 0, i, _, j, h1, h2 => by omega
  | n + 1, i, h, j, h1, h2 => by
    rw [memE] at h
    split at h
    · contradiction
    split at h
    · contradiction
    by_cases e : j = i
    · subst e; exact ⟨by omega, by omega⟩
    · exact memE_ok n (i + 1) h j zo zo
theorem adj_pairwise {l : List Member} (h : ∀ j, 0 < j → j < l.length → (l.getD (j - 1) default).server < (l.getD j default).server) : l.Pairwise (fun a b => a.server < b.server) := by
  have key : ∀ i j, i < j → j < l.length → (l.getD i default).server < (l.getD j default).server := by
    intro i j hij hj
    induction j with
    | zero => omega
    | succ j ih =>
      have h1 := h (j + 1) zo hj
      rw [Nat.add_sub_cancel] at h1
      by_cases e : i = j
      · subst e; exact h1
      · have h2 := ih zo zo; omega
  rw [List.pairwise_iff_getElem]
  intro i j hi hj hij
  have := key i j hij hj
  rw [List.getD_eq_getElem?_getD, List.getD_eq_getElem?_getD, List.getElem?_eq_getElem hj, List.getElem?_eq_getElem hi] at this
  exact this
theorem viewE_ok {v : View} (h : viewE v = 0) : RuleOK v.rule ∧ MemOK v := by
  unfold viewE at h
  split at h
  · contradiction
  rename_i h0
  have hk := memE_ok _ _ h
  refine ⟨ruleE_ok zo, fun m hm => ?_, adj_pairwise fun j h0 hj => (hk j zo zo).2 h0⟩
  obtain ⟨i, hi, rfl⟩ := List.mem_iff_getElem.1 hm
  have := (hk i zo zo).1
  rw [List.getD_eq_getElem?_getD, List.getElem?_eq_getElem hi] at this
  exact this
theorem genE_ok {g : View} (h : genE g = 0) : RuleOK g.rule ∧ MemOK g ∧ 0 < g.members.length := by
  unfold genE at h
  split at h
  · contradiction
  rename_i h0
  split at h
  · contradiction
  obtain ⟨h1, h2⟩ := viewE_ok (v := g) zo
  exact ⟨h1, h2, by omega⟩
theorem ref_EqualView (a b : View) (hl : a.members.length ≤ 4611686018427387904) : AM.Fn Tryz.prog 16 [viV a, viV b] (.b (decide (a = b))) := by
  have hgo : ∀ e, decide (a = b) = e → AM.Fn Tryz.prog 16 [viV a, viV b] (.b e) := by
    intro e he
    obtain ⟨ms, ru⟩ := a
    obtain ⟨ms', ru'⟩ := b
    dsimp only at hl
    (refine spec_of_runs Tryz.func16 rfl ?_; simp only [Tryz.f16]; refine ys ?_)
    repeat' (first | refine yw ?_ | ((with_reducible refine Runs.is ?_); first | refine Runs.region (id := 0) ?_ | refine Runs.region (id := 1) ?_ | refine Runs.region (id := 2) ?_ | refine Runs.region (id := 3) ?_ | ((with_reducible refine Runs.isC ?_); refine Runs.cond rfl (zc ?_) (zc ?_) <;> intro hc <;> (try (first | contradiction | (exfalso; omega; done) | (have : hc = trivial := rfl; clear this; clear hc))))) | ((with_reducible refine r_is ?_); first | refine yr ?_ | ((with_reducible refine r_gd ?_); (first | refine r_guardPf rfl rfl ?_ ?_ | refine r_guardNf rfl rfl ?_ ?_ | refine r_guard rfl rfl ?_ ?_) <;> intro hG <;> (try (exfalso; omega; done)) <;> refine r_nn zN zH ?_)) | fail)
    · rw [decide_eq_false (fun q => by injection q; contradiction)] at he
      subst he
      (refine Runs.ret1 Tryz.func16 rfl zM zD ?_; try exact zX)
    rotate_left
    · rw [decide_eq_false (fun q => by injection q with q1 q2; subst q1; exact absurd rfl hG)] at he
      subst he
      (refine Runs.ret1 Tryz.func16 rfl zM zD ?_; try exact zX)
    subst hc
    have hle : ms.length = ms'.length := by omega
    refine Runs.loopI (fun i : Nat => ms.length - i) (fun i => i ≤ ms.length ∧ ms.take i = ms'.take i)
      (fun i => ⟨[.any, .any, .ptr 2 0 0, .ptr 3 0 0, .any, .i (i : Nat), .any, .any, .any, .any, .any, .any, .any, .any, .any, .any, .any, .any, .any, .any, .any, .any, .any, .any, .any, .any, .any, .any, .any, .any, .any, .any, .any, .any, .any, .any, .any, .any], [(3, .var 41 (viV ⟨ms', ru⟩)), (2, .var 41 (viV ⟨ms, ru⟩))]⟩) 0 (by simp) ?_ ?_
    · (refine St.Le.clean zR zU zV)
    rintro i ⟨hi, he2⟩ ih
    by_cases hlt : i < ms.length
    · repeat' (first | refine yw ?_ | ((with_reducible refine Runs.is ?_); first | refine Runs.region (id := 4) ?_ | refine Runs.drawn (id := 6) mixed zK ?_ | refine Runs.region (id := 7) ?_ | refine Runs.region (id := 5) ?_ | ((with_reducible refine Runs.isC ?_); refine Runs.cond rfl (zc ?_) (zc ?_) <;> intro hc <;> (try (first | contradiction | (exfalso; omega; done) | (have : hc = trivial := rfl; clear this; clear hc))))) | ((with_reducible refine r_is ?_); first | refine yr ?_) | ((with_reducible refine d_is ?_); first | refine yd ?_) | fail)
      · rw [decide_eq_false (fun q => by injection q with q1 q2; subst q1; contradiction)] at he
        subst he
        (refine Runs.ret1 Tryz.func16 rfl zM zD ?_; try exact zX)
      · refine ih (i + 1) _ ⟨by omega, by rw [take_getD hlt, take_getD zo, he2]; congr⟩ zo ?_
        (refine St.Le.clean zR zU zV)
    · repeat' (first | refine yw ?_ | ((with_reducible refine Runs.is ?_); first | refine Runs.region (id := 4) ?_ | ((with_reducible refine Runs.isC ?_); refine Runs.cond rfl (zc ?_) (zc ?_) <;> intro hc <;> (try (first | contradiction | (exfalso; omega; done) | (have : hc = trivial := rfl; clear this; clear hc))))) | ((with_reducible refine r_is ?_); first | refine yr ?_) | fail)
      repeat' (first | refine yw ?_ | ((with_reducible refine Runs.is ?_); first | refine Runs.region (id := 8) ?_ | ((with_reducible refine Runs.isC ?_); refine Runs.cond rfl (zc ?_) (zc ?_) <;> intro hc <;> (try (first | contradiction | (exfalso; omega; done) | (have : hc = trivial := rfl; clear this; clear hc))))) | ((with_reducible refine r_is ?_); first | refine yr ?_) | fail)
      rw [List.take_of_length_le zo, List.take_of_length_le zo] at he2
      rw [decide_eq_true (by rw [he2])] at he
      subst he
      (refine Runs.ret1 Tryz.func16 rfl zM zD ?_; try exact zX)
  exact hgo _ rfl
def spanR (vs : List View) : List Int := (vs.flatMap srv).foldl insR []
theorem foldl_insR_len (l : List Int) (a : List Int) : (l.foldl insR a).length ≤ a.length + l.length := foldl_len insR_len l a
theorem ref_Span (f h : Bool) (g : View) (a b : Config) (l : List Config) (w : Config → View) (hA : AM.Fn Tryz.prog 8 [.sl f (a.map prV), .sl h (b.map prV)] (.sl false (l.map cfV))) (hV : ∀ c ∈ l, AM.Fn Tryz.prog 17 [viV g, cfV c] (viV (w c)))
    (hn : l.length ≤ 1000) (hm : ∀ c ∈ l, (w c).members.length ≤ 100) : AM.Fn Tryz.prog 20 [viV g, .sl f (a.map prV), .sl h (b.map prV)] (.sl false ((spanR (l.map w)).map .i)) := by
  have hacc : ∀ k, k ≤ l.length → (spanR ((l.take k).map w)).length ≤ k * 100 := by
    intro k hk
    have h1 : (((l.take k).map w).flatMap srv).length ≤ k * 100 := by
      refine Nat.le_trans (flatMap_len_le (n := 100) ?_) (by rw [List.length_map, List.length_take]; omega)
      intro v hv
      obtain ⟨c, hc, rfl⟩ := List.mem_map.1 hv
      unfold srv; rw [List.length_map]; exact hm c (List.mem_of_mem_take hc)
    have := foldl_insR_len (((l.take k).map w).flatMap srv) []
    unfold spanR
    simp only [List.length_nil, Nat.zero_add] at this
    exact Nat.le_trans this h1
  have hst : ∀ k, k < l.length → spanR ((l.take (k + 1)).map w) = (srv (w (l.getD k default))).foldl insR (spanR ((l.take k).map w)) := by
    intro k hk
    unfold spanR
    rw [take_getD hk, List.map_append, List.flatMap_append, List.foldl_append]
    simp
  (refine spec_of_runs Tryz.func20 rfl ?_; simp only [Tryz.f20]; refine ys ?_)
  repeat' (first | refine yw ?_ | ((with_reducible refine Runs.is ?_); first | refine Runs.region (id := 0) ?_ | refine Runs.region (id := 1) ?_ | refine Runs.region (id := 2) ?_ | refine Runs.region (id := 3) ?_ | ((with_reducible refine Runs.isC ?_); refine Runs.cond rfl (zc ?_) (zc ?_) <;> intro hc <;> (try (first | contradiction | (exfalso; omega; done) | (have : hc = trivial := rfl; clear this; clear hc))))) | ((with_reducible refine r_is ?_); first | refine yr ?_ | (refine r_fn rfl (hA) HbF.h zL2 zD ?_; refine r_nn zN zH ?_)) | fail)
  (refine Runs.weaken (St.Le.nil 7 3 1 7 zd rfl rfl zE) ?_)
  (refine Runs.weaken (St.Le.freeze_lst 7 rfl) ?_; refine yf ?_)
  refine Runs.loopI (fun k : Nat => l.length - k) (fun k => k ≤ l.length)
    (fun k => ⟨[.any, .any, .any, .ptr 3 0 0, .any, .any, .any, .sl false ((spanR ((l.take k).map w)).map .i), .sl false (l.map cfV), .i (k : Nat), .any, .any, .any, .any, .any, .any, .any, .any, .any, .any, .any, .any, .any, .any, .any, .any, .any, .any, .any, .any, .any, .any, .any, .any, .any, .any, .any, .any, .any, .any, .any, .any, .any], [(3, .var 35 (viV g))]⟩) 0 zo ?_ ?_
  · (refine St.Le.clean zR zU zV)
  rintro k hk ih
  by_cases hlt : k < l.length
  · have hst2 := hst k hlt
    have hac := hacc k hk
    have hm2 := hm _ (getD_in hlt)
    have hV2 := hV _ (getD_in hlt)
    generalize spanR ((l.take k).map w) = acc at *
    generalize w (l.getD k default) = v at *
    obtain ⟨ms, ru⟩ := v
    change spanR ((l.take (k + 1)).map w) = (ms.map (·.server)).foldl insR acc at hst2
    dsimp only at hm2
    repeat' (first | (with_reducible refine And.intro (by intro a i h; cases h) ?_) | refine yw ?_ | ((with_reducible refine Runs.is ?_); first | (refine Runs.drawnT (id := 6) [] 6 mixed zK (by decide +kernel) ?_; dsimp only [List.take, List.drop]) | refine Runs.region (id := 4) ?_ | refine Runs.drawn (id := 6) mixed zK ?_ | refine Runs.region (id := 7) ?_ | refine Runs.region (id := 5) ?_ | ((with_reducible refine Runs.isC ?_); refine Runs.cond rfl (zc ?_) (zc ?_) <;> intro hc <;> (try (first | contradiction | (exfalso; omega; done) | (have : hc = trivial := rfl; clear this; clear hc))))) | ((with_reducible refine r_is ?_); first | refine yr ?_) | ((with_reducible refine d_is ?_); first | refine yd ?_ | (refine d_fn rfl (hV2) HbF.h zL2 zD ?_; refine d_nn zN zH ?_)) | fail)
    refine Runs.loopI (fun j : Nat => ms.length - j) (fun j => j ≤ ms.length)
      (fun j => ⟨[.any, .any, .any, .ptr 3 0 0, .any, .any, .any, .sl false ((((ms.take j).map (·.server)).foldl insR acc).map .i), .sl false (l.map cfV), .i (k : Nat), .ptr 10 0 0, .i (j : Nat), .any, .any, .any, .any, .any, .any, .any, .any, .any, .any, .any, .any, .any, .any, .any, .any, .any, .any, .any, .any, .any, .any, .any, .any, .any, .any, .any, .any, .any, .any, .any], [(10, .var 41 (viV ⟨ms, ru⟩)), (3, .var 35 (viV g))]⟩) 0 zo ?_ ?_
    · (refine St.Le.clean zR zU zV)
    rintro j hj ihj
    have hs3 : j < ms.length → ((ms.take (j + 1)).map (·.server)).foldl insR acc = insR (((ms.take j).map (·.server)).foldl insR acc) (ms.getD j default).server := fun h => by rw [take_getD h, List.map_append, List.foldl_append]; rfl
    have hl3 := foldl_insR_len ((ms.take j).map (·.server)) acc
    rw [List.length_map, List.length_take] at hl3
    have hend : ms.length ≤ j → ((ms.take j).map (·.server)).foldl insR acc = (ms.map (·.server)).foldl insR acc := fun h => by rw [List.take_of_length_le h]
    generalize ((ms.take j).map (·.server)).foldl insR acc = acc2 at *
    by_cases hjt : j < ms.length
    · have hs4 := hs3 hjt
      have hI := ref_Insert false acc2 (ms.getD j default).server zo
      repeat' (first | refine yw ?_ | ((with_reducible refine Runs.is ?_); first | refine Runs.region (id := 8) ?_ | refine Runs.region (id := 10) ?_ | refine Runs.region (id := 9) ?_ | ((with_reducible refine Runs.isC ?_); refine Runs.cond rfl (zc ?_) (zc ?_) <;> intro hc <;> (try (first | contradiction | (exfalso; omega; done) | (have : hc = trivial := rfl; clear this; clear hc))))) | ((with_reducible refine r_is ?_); first | refine yr ?_ | (refine r_fn rfl (hI) HbF.h zL2 zD ?_; refine r_nn zN zH ?_)) | fail)
      refine ihj (j + 1) _ zo zo ?_
      rw [hs4]
      (refine St.Le.clean zR zU zV)
    · have he := hend zo
      subst he
      repeat' (first | refine yw ?_ | ((with_reducible refine Runs.is ?_); first | refine Runs.region (id := 8) ?_ | ((with_reducible refine Runs.isC ?_); refine Runs.cond rfl (zc ?_) (zc ?_) <;> intro hc <;> (try (first | contradiction | (exfalso; omega; done) | (have : hc = trivial := rfl; clear this; clear hc))))) | ((with_reducible refine r_is ?_); first | refine yr ?_) | fail)
      repeat' (first | refine yw ?_ | ((with_reducible refine Runs.is ?_); first | refine Runs.region (id := 5) ?_ | ((with_reducible refine Runs.isC ?_); refine Runs.cond rfl (zc ?_) (zc ?_) <;> intro hc <;> (try (first | contradiction | (exfalso; omega; done) | (have : hc = trivial := rfl; clear this; clear hc))))) | ((with_reducible refine r_is ?_); first | refine yr ?_) | fail)
      refine ih (k + 1) _ zo zo ?_
      rw [hst2]
      (refine St.Le.clean zR zU zV)
  · repeat' (first | refine yw ?_ | ((with_reducible refine Runs.is ?_); first | refine Runs.region (id := 4) ?_ | ((with_reducible refine Runs.isC ?_); refine Runs.cond rfl (zc ?_) (zc ?_) <;> intro hc <;> (try (first | contradiction | (exfalso; omega; done) | (have : hc = trivial := rfl; clear this; clear hc))))) | ((with_reducible refine r_is ?_); first | refine yr ?_) | fail)
    rw [List.take_of_length_le zo]
    repeat' (first | refine yw ?_ | ((with_reducible refine Runs.is ?_); first | refine Runs.region (id := 11) ?_ | ((with_reducible refine Runs.isC ?_); refine Runs.cond rfl (zc ?_) (zc ?_) <;> intro hc <;> (try (first | contradiction | (exfalso; omega; done) | (have : hc = trivial := rfl; clear this; clear hc))))) | ((with_reducible refine r_is ?_); first | refine yr ?_) | fail)
    (refine Runs.ret1 Tryz.func20 rfl zM zD ?_; try exact zX)
theorem spanR_strict (vs : List View) : StrictI (spanR vs) := (unionI_R (a := []) List.Pairwise.nil _).2
theorem spanR_I (vs : List View) : spanR vs = spanI vs := by
  refine strict_ext (spanR_strict vs) (span_strict vs) fun x => ?_
  rw [mem_spanI]
  unfold spanR
  rw [mem_foldl mem_insR]
  simp
end Go.Proofs
namespace Go.Proofs
open Go.AM
attribute [local irreducible] AM.evalR AM.evalD AM.Runs AM.valK AM.dK AM.opK AM.stepR AM.CallS AM.St.Le
def dupB (d c : Change) : Bool := decide (d.kind = c.kind ∧ d.server = c.server)
def chsE : List Change → List Change → Int
  | _, [] => 0
  | pre, c :: cs => if changeE c ≠ 0 then changeE c else if pre.any (dupB · c) = true then 5 else chsE (pre ++ [c]) cs
def propE (p : Proposal) : Int := if ¬ (201 ≤ p.admin ∧ p.admin < 204) ∨ p.number < 1 ∨ 3 < p.number then 9 else if p.changes.length = 0 then 2 else if 6 < p.changes.length then 3 else chsE [] p.changes
theorem chsE_drop {l : List Change} {i : Nat} (h : i < l.length) : chsE (l.take i) (l.drop i) = if changeE (l.getD i default) ≠ 0 then changeE (l.getD i default) else if (l.take i).any (dupB · (l.getD i default)) = true then 5 else chsE (l.take (i + 1)) (l.drop (i + 1)) := by
  rw [drop_getD h, chsE, take_getD h]
theorem any_take {α : Type} [Inhabited α] {g : α → Bool} {l : List α} {k : Nat} (h : k < l.length) : (l.take (k + 1)).any g = ((l.take k).any g || g (l.getD k default)) := by
  rw [take_getD h, List.any_append]; simp
theorem take_take_le {α : Type} {l : List α} {k i : Nat} (h : k ≤ i) : (l.take i).take k = l.take k := by rw [List.take_take, Nat.min_eq_left h]
theorem vax_Prop (p : Proposal) : AM.Fn Tryz.prog 51 [prV p] (.i (propE p)) := by
  obtain ⟨ad, nu, cs⟩ := p
  have hgo : ∀ e, propE ⟨ad, nu, cs⟩ = e → AM.Fn Tryz.prog 51 [prV ⟨ad, nu, cs⟩] (.i e) := by
    intro e he
    unfold propE at he
    dsimp only at he
    (refine spec_of_runs Tryz.func51 rfl ?_; simp only [Tryz.f51]; refine ys ?_)
    repeat' (first | refine yw ?_ | ((with_reducible refine Runs.is ?_); first | refine Runs.region (id := 0) ?_ | refine Runs.region (id := 1) ?_ | refine Runs.region (id := 2) ?_ | refine Runs.region (id := 3) ?_ | refine Runs.region (id := 4) ?_ | refine Runs.region (id := 5) ?_ | refine Runs.region (id := 6) ?_ | refine Runs.region (id := 7) ?_ | ((with_reducible refine Runs.isC ?_); refine Runs.cond rfl (zc ?_) (zc ?_) <;> intro hc <;> (try (first | contradiction | (exfalso; omega; done) | (have : hc = trivial := rfl; clear this; clear hc))))) | ((with_reducible refine r_is ?_); first | refine yr ?_ | (refine r_fn rfl (val_Admin _) HbF.h zL1 zD ?_; refine r_nn zN zH ?_) | ((with_reducible refine r_gd ?_); (first | refine r_guardPf rfl rfl ?_ ?_ | refine r_guardNf rfl rfl ?_ ?_ | refine r_guard rfl rfl ?_ ?_) <;> intro hG <;> (try (exfalso; omega; done)) <;> refine r_nn zN zH ?_)) | fail)
    all_goals first
      | (rw [if_pos zo] at he; subst he; (refine Runs.ret1 Tryz.func51 rfl zM zD ?_; try exact zX); done)
      | (rw [if_neg zo, if_pos zo] at he; subst he; (refine Runs.ret1 Tryz.func51 rfl zM zD ?_; try exact zX); done)
      | (rw [if_neg zo, if_neg zo, if_pos zo] at he; subst he; (refine Runs.ret1 Tryz.func51 rfl zM zD ?_; try exact zX); done)
      | skip
    rw [if_neg zo, if_neg zo, if_neg zo] at he
    have hl6 : cs.length ≤ 6 := by omega
    refine Runs.weaken (St.Le.clean (s' := ⟨[.any, .ptr 1 0 0, .any, .i ((0 : Nat) : Int), .any, .any, .any, .any, .any, .any, .any, .any, .any, .any, .any, .any, .any, .any, .any, .any, .any, .any, .any, .any, .any, .any, .any, .any, .any, .any, .any, .any, .any, .any, .any, .any, .any, .any, .any, .any, .any, .any, .any, .any, .any, .any, .any, .any, .any, .any, .any, .any, .any, .any, .any, .any, .any, .any, .any, .any, .any, .any, .any, .any, .any, .any, .any, .any, .any, .any, .any, .any, .any, .any, .any, .any, .any, .any, .any, .any], [(1, .var 62 (prV ⟨ad, nu, cs⟩))]⟩) zR zU zV) ?_
    refine Runs.loopI (fun i : Nat => cs.length - i) (fun i => i ≤ cs.length ∧ chsE (cs.take i) (cs.drop i) = e)
      (fun i => ⟨[.any, .ptr 1 0 0, .any, .i (i : Nat), .any, .any, .any, .any, .any, .any, .any, .any, .any, .any, .any, .any, .any, .any, .any, .any, .any, .any, .any, .any, .any, .any, .any, .any, .any, .any, .any, .any, .any, .any, .any, .any, .any, .any, .any, .any, .any, .any, .any, .any, .any, .any, .any, .any, .any, .any, .any, .any, .any, .any, .any, .any, .any, .any, .any, .any, .any, .any, .any, .any, .any, .any, .any, .any, .any, .any, .any, .any, .any, .any, .any, .any, .any, .any, .any, .any], [(1, .var 62 (prV ⟨ad, nu, cs⟩))]⟩) 0 (by simpa using he) ?_ ?_
    · (refine St.Le.clean zR zU zV)
    rintro i ⟨hi, he2⟩ ih
    by_cases hlt : i < cs.length
    · have hC := vax_Change (cs.getD i default)
      rw [chsE_drop hlt] at he2
      repeat' (first | refine yw ?_ | ((with_reducible refine Runs.is ?_); first | refine Runs.region (id := 8) ?_ | refine Runs.region (id := 10) ?_ | refine Runs.region (id := 11) ?_ | refine Runs.region (id := 12) ?_ | refine Runs.region (id := 13) ?_ | refine Runs.region (id := 9) ?_ | ((with_reducible refine Runs.isC ?_); refine Runs.cond rfl (zc ?_) (zc ?_) <;> intro hc <;> (try (first | contradiction | (exfalso; omega; done) | (have : hc = trivial := rfl; clear this; clear hc))))) | ((with_reducible refine r_is ?_); first | refine yr ?_ | (refine r_fn rfl (hC) HbF.h zL1 zD ?_; refine r_nn zN zH ?_)) | fail)
      · rw [if_pos (by assumption)] at he2
        subst he2
        (refine Runs.ret1 Tryz.func51 rfl zM zD ?_; try exact zX)
      rw [if_neg zo] at he2
      refine Runs.loopI (fun k : Nat => i - k) (fun k => k ≤ i ∧ (cs.take k).any (dupB · (cs.getD i default)) = false)
        (fun k => ⟨[.any, .ptr 1 0 0, .any, .i (i : Nat), .any, .i (k : Nat), .any, .any, .any, .any, .any, .any, .any, .any, .any, .any, .any, .any, .any, .any, .any, .any, .any, .any, .any, .any, .any, .any, .any, .any, .any, .any, .any, .any, .any, .any, .any, .any, .any, .any, .any, .any, .any, .any, .any, .any, .any, .any, .any, .any, .any, .any, .any, .any, .any, .any, .any, .any, .any, .any, .any, .any, .any, .any, .any, .any, .any, .any, .any, .any, .any, .any, .any, .any, .any, .any, .any, .any, .any, .any], [(1, .var 62 (prV ⟨ad, nu, cs⟩))]⟩) 0 (by simp) ?_ ?_
      · (refine St.Le.clean zR zU zV)
      rintro k ⟨hk, hn⟩ ihk
      by_cases hkt : k < i
      · have hst := any_take (g := (dupB · (cs.getD i default))) (show k < cs.length by omega)
        rw [hn, Bool.false_or] at hst
        have hin : cs.getD k default ∈ cs.take i := by
          rw [← List.take_append_drop k (cs.take i), take_take_le zo]
          refine List.mem_append.2 (.inr ?_)
          rw [drop_getD (show k < (cs.take i).length by rw [List.length_take]; omega)]
          have : (cs.take i).getD k default = cs.getD k default := by rw [List.getD_eq_getElem?_getD, List.getD_eq_getElem?_getD, List.getElem?_take_of_lt hkt]
          rw [this]; exact List.mem_cons_self
        repeat' (first | refine yw ?_ | ((with_reducible refine Runs.is ?_); first | refine Runs.region (id := 14) ?_ | refine Runs.drawn (id := 16) mixed zK ?_ | refine Runs.region (id := 17) ?_ | refine Runs.region (id := 15) ?_ | ((with_reducible refine Runs.isC ?_); refine Runs.cond rfl (zc ?_) (zc ?_) <;> intro hc <;> (try (first | contradiction | (exfalso; omega; done) | (have : hc = trivial := rfl; clear this; clear hc))))) | ((with_reducible refine r_is ?_); first | refine yr ?_) | ((with_reducible refine d_is ?_); first | refine yd ?_ | ((with_reducible refine d_gd ?_); (first | refine d_guardPt rfl rfl ?_ ?_ | refine d_guardNt rfl rfl ?_ ?_ | refine d_guard rfl rfl ?_ ?_) <;> intro hG <;> (try (exfalso; omega; done)) <;> refine d_nn zN zH ?_)) | fail)
        all_goals first
          | (have hd : dupB (cs.getD k default) (cs.getD i default) = true := decide_eq_true ⟨by assumption, by assumption⟩
             rw [if_pos (List.any_eq_true.2 ⟨_, hin, hd⟩)] at he2
             subst he2
             (refine Runs.ret1 Tryz.func51 rfl zM zD ?_; try exact zX)
             done)
          | (refine ihk (k + 1) _ ⟨by omega, by rw [hst]; exact decide_eq_false (fun h => by first | exact absurd h.1 (by assumption) | exact absurd h.2 (by assumption))⟩ zo ?_; (refine St.Le.clean zR zU zV); done)
          | fail
      · repeat' (first | refine yw ?_ | ((with_reducible refine Runs.is ?_); first | refine Runs.region (id := 14) ?_ | ((with_reducible refine Runs.isC ?_); refine Runs.cond rfl (zc ?_) (zc ?_) <;> intro hc <;> (try (first | contradiction | (exfalso; omega; done) | (have : hc = trivial := rfl; clear this; clear hc))))) | ((with_reducible refine r_is ?_); first | refine yr ?_) | fail)
        repeat' (first | refine yw ?_ | ((with_reducible refine Runs.is ?_); first | refine Runs.region (id := 9) ?_ | ((with_reducible refine Runs.isC ?_); refine Runs.cond rfl (zc ?_) (zc ?_) <;> intro hc <;> (try (first | contradiction | (exfalso; omega; done) | (have : hc = trivial := rfl; clear this; clear hc))))) | ((with_reducible refine r_is ?_); first | refine yr ?_) | fail)
        obtain rfl : k = i := by omega
        rw [if_neg (by rw [hn]; decide)] at he2
        refine ih (k + 1) _ ⟨by omega, he2⟩ zo ?_
        (refine St.Le.clean zR zU zV)
    · repeat' (first | refine yw ?_ | ((with_reducible refine Runs.is ?_); first | refine Runs.region (id := 8) ?_ | ((with_reducible refine Runs.isC ?_); refine Runs.cond rfl (zc ?_) (zc ?_) <;> intro hc <;> (try (first | contradiction | (exfalso; omega; done) | (have : hc = trivial := rfl; clear this; clear hc))))) | ((with_reducible refine r_is ?_); first | refine yr ?_) | fail)
      rw [List.drop_of_length_le zo] at he2
      repeat' (first | refine yw ?_ | ((with_reducible refine Runs.is ?_); first | refine Runs.region (id := 18) ?_ | ((with_reducible refine Runs.isC ?_); refine Runs.cond rfl (zc ?_) (zc ?_) <;> intro hc <;> (try (first | contradiction | (exfalso; omega; done) | (have : hc = trivial := rfl; clear this; clear hc))))) | ((with_reducible refine r_is ?_); first | refine yr ?_) | fail)
      subst he2
      (refine Runs.ret1 Tryz.func51 rfl zM zD ?_; try exact zX)
  exact hgo _ rfl
def cfsE : Config → Nat → Nat → Int
  | _, _, 0 => 0
  | c, i, n + 1 => if propE (c.getD i default) ≠ 0 then propE (c.getD i default) else if 0 < i ∧ 0 ≤ cmpP (c.getD (i - 1) default) (c.getD i default) then 7
    else if 1 < (c.getD i default).number ∧ (i = 0 ∨ (c.getD (i - 1) default).admin ≠ (c.getD i default).admin ∨ (c.getD (i - 1) default).number ≠ (c.getD i default).number - 1) then 8 else cfsE c (i + 1) n
def confE (c : Config) : Int := cfsE c 0 c.length
theorem propE_num (p : Proposal) : propE p ≠ 0 ∨ (1 ≤ p.number ∧ p.number ≤ 3) := by
  unfold propE
  split
  · exact .inl zd
  · exact .inr zo
theorem vax_Conf (f : Bool) (c : Config) : AM.Fn Tryz.prog 27 [.sl f (c.map prV)] (.i (confE c)) := by
  have hgo : ∀ e, confE c = e → AM.Fn Tryz.prog 27 [.sl f (c.map prV)] (.i e) := by
    intro e he
    unfold confE at he
    (refine spec_of_runs Tryz.func27 rfl ?_; simp only [Tryz.f27]; refine ys ?_)
    (refine Runs.lens 0 ?_; refine yl ?_)
    intro hl
    repeat' (first | refine yw ?_ | ((with_reducible refine Runs.is ?_); first | refine Runs.region (id := 0) ?_ | refine Runs.region (id := 1) ?_ | ((with_reducible refine Runs.isC ?_); refine Runs.cond rfl (zc ?_) (zc ?_) <;> intro hc <;> (try (first | contradiction | (exfalso; omega; done) | (have : hc = trivial := rfl; clear this; clear hc))))) | ((with_reducible refine r_is ?_); first | refine yr ?_) | fail)
    refine Runs.loopI (fun i : Nat => c.length - i) (fun i => i ≤ c.length ∧ cfsE c i (c.length - i) = e)
      (fun i => ⟨[.sl f (c.map prV), .any, .any, .i (i : Nat), .any, .any, .any, .any, .any, .any, .any, .any, .any, .any, .any, .any, .any, .any, .any, .any, .any, .any, .any, .any, .any, .any, .any, .any, .any, .any, .any, .any, .any, .any, .any, .any, .any, .any, .any, .any, .any, .any, .any, .any, .any, .any, .any, .any, .any, .any, .any, .any, .any, .any, .any, .any, .any, .any, .any, .any, .any, .any, .any, .any, .any, .any, .any, .any, .any, .any, .any, .any, .any], []⟩) 0 (by simpa using he) ?_ ?_
    · (refine St.Le.clean zR zU zV)
    rintro i ⟨hi, he2⟩ ih
    by_cases hlt : i < c.length
    · have hP := vax_Prop (c.getD i default)
      have hnum := propE_num (c.getD i default)
      rw [show c.length - i = (c.length - (i + 1)) + 1 by omega, cfsE] at he2
      by_cases h0 : 0 < i
      · have e1 : ((i : Int) - 1).toNat = i - 1 := by omega
        rw [← e1] at he2
        repeat' (first | refine yw ?_ | ((with_reducible refine Runs.is ?_); first | refine Runs.region (id := 2) ?_ | refine Runs.region (id := 4) ?_ | refine Runs.region (id := 5) ?_ | refine Runs.region (id := 6) ?_ | refine Runs.drawn (id := 7) mixed zK ?_ | refine Runs.region (id := 8) ?_ | refine Runs.drawn (id := 9) mixed zK ?_ | refine Runs.region (id := 10) ?_ | refine Runs.region (id := 3) ?_ | ((with_reducible refine Runs.isC ?_); refine Runs.cond rfl (zc ?_) (zc ?_) <;> intro hc <;> (try (first | contradiction | (exfalso; omega; done) | (have : hc = trivial := rfl; clear this; clear hc))))) | ((with_reducible refine r_is ?_); first | refine yr ?_ | (refine r_fn rfl (hP) HbF.h zL1 zD ?_; refine r_nn zN zH ?_)) | ((with_reducible refine d_is ?_); first | refine yd ?_ | (refine d_fn rfl (ref_Compare _ _) HbF.h zL2 zD ?_; refine d_nn zN zH ?_) | ((with_reducible refine d_gd ?_); (first | refine d_guardPf rfl rfl ?_ ?_ | refine d_guardNf rfl rfl ?_ ?_ | refine d_guardPt rfl rfl ?_ ?_ | refine d_guardNt rfl rfl ?_ ?_ | refine d_guard rfl rfl ?_ ?_) <;> intro hG <;> (try (exfalso; omega; done)) <;> refine d_nn zN zH ?_)) | fail)
        all_goals first
          | (rw [if_pos (by assumption)] at he2; subst he2; (refine Runs.ret1 Tryz.func27 rfl zM zD ?_; try exact zX); done)
          | (rw [if_neg zo, if_pos zo] at he2; subst he2; (refine Runs.ret1 Tryz.func27 rfl zM zD ?_; try exact zX); done)
          | (rw [if_neg zo, if_neg zo, if_pos zo] at he2; subst he2; (refine Runs.ret1 Tryz.func27 rfl zM zD ?_; try exact zX); done)
          | (rw [if_neg zo, if_neg zo, if_neg zo] at he2
             refine ih (i + 1) _ ⟨by omega, he2⟩ zo ?_
             (refine St.Le.clean zR zU zV)
             done)
          | fail
      · obtain rfl : i = 0 := by omega
        repeat' (first | refine yw ?_ | ((with_reducible refine Runs.is ?_); first | refine Runs.region (id := 2) ?_ | refine Runs.region (id := 4) ?_ | refine Runs.region (id := 5) ?_ | refine Runs.region (id := 6) ?_ | refine Runs.drawn (id := 7) mixed zK ?_ | refine Runs.region (id := 8) ?_ | refine Runs.drawn (id := 9) mixed zK ?_ | refine Runs.region (id := 10) ?_ | refine Runs.region (id := 3) ?_ | ((with_reducible refine Runs.isC ?_); refine Runs.cond rfl (zc ?_) (zc ?_) <;> intro hc <;> (try (first | contradiction | (exfalso; omega; done) | (have : hc = trivial := rfl; clear this; clear hc))))) | ((with_reducible refine r_is ?_); first | refine yr ?_ | (refine r_fn rfl (hP) HbF.h zL1 zD ?_; refine r_nn zN zH ?_)) | ((with_reducible refine d_is ?_); first | refine yd ?_ | (refine d_fn rfl (ref_Compare _ _) HbF.h zL2 zD ?_; refine d_nn zN zH ?_) | ((with_reducible refine d_gd ?_); (first | refine d_guardPf rfl rfl ?_ ?_ | refine d_guardNf rfl rfl ?_ ?_ | refine d_guardPt rfl rfl ?_ ?_ | refine d_guardNt rfl rfl ?_ ?_ | refine d_guard rfl rfl ?_ ?_) <;> intro hG <;> (try (exfalso; omega; done)) <;> refine d_nn zN zH ?_)) | fail)
        all_goals first
          | (rw [if_pos (by assumption)] at he2; subst he2; (refine Runs.ret1 Tryz.func27 rfl zM zD ?_; try exact zX); done)
          | (rw [if_neg zo, if_pos zo] at he2; subst he2; (refine Runs.ret1 Tryz.func27 rfl zM zD ?_; try exact zX); done)
          | (rw [if_neg zo, if_neg zo, if_pos zo] at he2; subst he2; (refine Runs.ret1 Tryz.func27 rfl zM zD ?_; try exact zX); done)
          | (rw [if_neg zo, if_neg zo, if_neg zo] at he2
             refine ih (0 + 1) _ ⟨by omega, he2⟩ zo ?_
             (refine St.Le.clean zR zU zV)
             done)
          | fail
    · repeat' (first | refine yw ?_ | ((with_reducible refine Runs.is ?_); first | refine Runs.region (id := 2) ?_ | ((with_reducible refine Runs.isC ?_); refine Runs.cond rfl (zc ?_) (zc ?_) <;> intro hc <;> (try (first | contradiction | (exfalso; omega; done) | (have : hc = trivial := rfl; clear this; clear hc))))) | ((with_reducible refine r_is ?_); first | refine yr ?_) | fail)
      rw [show c.length - i = 0 by omega, cfsE] at he2
      repeat' (first | refine yw ?_ | ((with_reducible refine Runs.is ?_); first | refine Runs.region (id := 11) ?_ | ((with_reducible refine Runs.isC ?_); refine Runs.cond rfl (zc ?_) (zc ?_) <;> intro hc <;> (try (first | contradiction | (exfalso; omega; done) | (have : hc = trivial := rfl; clear this; clear hc))))) | ((with_reducible refine r_is ?_); first | refine yr ?_) | fail)
      subst he2
      (refine Runs.ret1 Tryz.func27 rfl zM zD ?_; try exact zX)
  exact hgo _ rfl
end Go.Proofs
namespace Go.Proofs
open Go.AM
attribute [local irreducible] AM.evalR AM.evalD AM.Runs AM.valK AM.dK AM.opK AM.stepR AM.CallS AM.St.Le
def clashB (p q : Proposal) : Bool := decide (cmpP p q = 0) && !decide (p = q)
def agreeB (a b : Config) : Bool := a.all fun p => b.all fun q => !clashB p q
theorem ref_Agree (f g : Bool) (a b : Config) : AM.Fn Tryz.prog 28 [.sl f (a.map prV), .sl g (b.map prV)] (.b (agreeB a b)) := by
  have hgo : ∀ e, agreeB a b = e → AM.Fn Tryz.prog 28 [.sl f (a.map prV), .sl g (b.map prV)] (.b e) := by
    intro e he
    unfold agreeB at he
    (refine spec_of_runs Tryz.func28 rfl ?_; simp only [Tryz.f28]; refine ys ?_)
    (refine Runs.lens 0 ?_; refine yl ?_)
    intro hla
    (refine Runs.lens 1 ?_; refine yl ?_)
    intro hlb
    repeat' (first | refine yw ?_ | ((with_reducible refine Runs.is ?_); first | refine Runs.region (id := 0) ?_ | refine Runs.region (id := 1) ?_ | ((with_reducible refine Runs.isC ?_); refine Runs.cond rfl (zc ?_) (zc ?_) <;> intro hc <;> (try (first | contradiction | (exfalso; omega; done) | (have : hc = trivial := rfl; clear this; clear hc))))) | ((with_reducible refine r_is ?_); first | refine yr ?_) | fail)
    refine Runs.loopI (fun i : Nat => a.length - i) (fun i => i ≤ a.length ∧ ((a.drop i).all fun p => b.all fun q => !clashB p q) = e)
      (fun i => ⟨[.sl f (a.map prV), .sl g (b.map prV), .any, .any, .any, .i (i : Nat), .any, .any, .any, .any, .any, .any, .any, .any, .any, .any, .any, .any, .any, .any, .any, .any, .any, .any, .any, .any, .any, .any, .any, .any, .any, .any, .any, .any, .any, .any, .any, .any, .any, .any, .any], []⟩) 0 (by simpa using he) ?_ ?_
    · (refine St.Le.clean zR zU zV)
    rintro i ⟨hi, he2⟩ ih
    by_cases hlt : i < a.length
    · rw [all_drop hlt] at he2
      repeat' (first | refine yw ?_ | ((with_reducible refine Runs.is ?_); first | refine Runs.region (id := 2) ?_ | refine Runs.region (id := 4) ?_ | refine Runs.region (id := 3) ?_ | ((with_reducible refine Runs.isC ?_); refine Runs.cond rfl (zc ?_) (zc ?_) <;> intro hc <;> (try (first | contradiction | (exfalso; omega; done) | (have : hc = trivial := rfl; clear this; clear hc))))) | ((with_reducible refine r_is ?_); first | refine yr ?_) | fail)
      generalize hB : ((a.drop (i + 1)).all fun p => b.all fun q => !clashB p q) = B at he2
      refine Runs.loopI (fun k : Nat => b.length - k) (fun k => k ≤ b.length ∧ (((b.drop k).all fun q => !clashB (a.getD i default) q) && B) = e)
        (fun k => ⟨[.sl f (a.map prV), .sl g (b.map prV), .any, .any, .any, .i (i : Nat), .i (k : Nat), .any, .any, .any, .any, .any, .any, .any, .any, .any, .any, .any, .any, .any, .any, .any, .any, .any, .any, .any, .any, .any, .any, .any, .any, .any, .any, .any, .any, .any, .any, .any, .any, .any, .any], []⟩) 0 (by simpa using he2) ?_ ?_
      · (refine St.Le.clean zR zU zV)
      rintro k ⟨hk, he3⟩ ihk
      by_cases hkt : k < b.length
      · rw [all_drop hkt] at he3
        have hC := ref_Compare (a.getD i default) (b.getD k default)
        have hE := ref_EqualProposal (a.getD i default) (b.getD k default)
        repeat' (first | refine yw ?_ | ((with_reducible refine Runs.is ?_); first | refine Runs.region (id := 5) ?_ | refine Runs.drawn (id := 7) mixed zK ?_ | refine Runs.region (id := 8) ?_ | refine Runs.region (id := 6) ?_ | ((with_reducible refine Runs.isC ?_); refine Runs.cond rfl (zc ?_) (zc ?_) <;> intro hc <;> (try (first | contradiction | (exfalso; omega; done) | (have : hc = trivial := rfl; clear this; clear hc))))) | ((with_reducible refine r_is ?_); first | refine yr ?_) | ((with_reducible refine d_is ?_); first | refine yd ?_ | (refine d_fn rfl (hC) HbF.h zL2 zD ?_; refine d_nn zN zH ?_) | (refine d_fn rfl (hE) HbF.h zL2 zD ?_; refine d_nn zN zH ?_) | ((with_reducible refine d_gd ?_); (first | refine d_guardPt rfl rfl ?_ ?_ | refine d_guardNt rfl rfl ?_ ?_ | refine d_guard rfl rfl ?_ ?_) <;> intro hG <;> (try (exfalso; omega; done)) <;> refine d_nn zN zH ?_)) | fail)
        all_goals first
          | (have h9 : clashB (a.getD i default) (b.getD k default) = true := by unfold clashB; simp; exact ⟨by assumption, by assumption⟩
             rw [h9] at he3
             simp only [Bool.not_true, Bool.false_and] at he3
             subst he3
             (refine Runs.ret1 Tryz.func28 rfl zM zD ?_; try exact zX)
             done)
          | (have h9 : clashB (a.getD i default) (b.getD k default) = false := by unfold clashB; simp; intro q; first | exact absurd q (by assumption) | assumption
             rw [h9, Bool.not_false, Bool.true_and] at he3
             refine ihk (k + 1) _ ⟨by omega, he3⟩ zo ?_
             (refine St.Le.clean zR zU zV)
             done)
          | fail
      · rw [List.drop_of_length_le zo, List.all_nil, Bool.true_and] at he3
        repeat' (first | refine yw ?_ | ((with_reducible refine Runs.is ?_); first | refine Runs.region (id := 5) ?_ | ((with_reducible refine Runs.isC ?_); refine Runs.cond rfl (zc ?_) (zc ?_) <;> intro hc <;> (try (first | contradiction | (exfalso; omega; done) | (have : hc = trivial := rfl; clear this; clear hc))))) | ((with_reducible refine r_is ?_); first | refine yr ?_) | fail)
        repeat' (first | refine yw ?_ | ((with_reducible refine Runs.is ?_); first | refine Runs.region (id := 3) ?_ | ((with_reducible refine Runs.isC ?_); refine Runs.cond rfl (zc ?_) (zc ?_) <;> intro hc <;> (try (first | contradiction | (exfalso; omega; done) | (have : hc = trivial := rfl; clear this; clear hc))))) | ((with_reducible refine r_is ?_); first | refine yr ?_) | fail)
        refine ih (i + 1) _ ⟨by omega, by rw [hB, he3]⟩ zo ?_
        (refine St.Le.clean zR zU zV)
    · rw [List.drop_of_length_le zo] at he2
      repeat' (first | refine yw ?_ | ((with_reducible refine Runs.is ?_); first | refine Runs.region (id := 2) ?_ | ((with_reducible refine Runs.isC ?_); refine Runs.cond rfl (zc ?_) (zc ?_) <;> intro hc <;> (try (first | contradiction | (exfalso; omega; done) | (have : hc = trivial := rfl; clear this; clear hc))))) | ((with_reducible refine r_is ?_); first | refine yr ?_) | fail)
      repeat' (first | refine yw ?_ | ((with_reducible refine Runs.is ?_); first | refine Runs.region (id := 9) ?_ | ((with_reducible refine Runs.isC ?_); refine Runs.cond rfl (zc ?_) (zc ?_) <;> intro hc <;> (try (first | contradiction | (exfalso; omega; done) | (have : hc = trivial := rfl; clear this; clear hc))))) | ((with_reducible refine r_is ?_); first | refine yr ?_) | fail)
      simp at he2
      subst he2
      (refine Runs.ret1 Tryz.func28 rfl zM zD ?_; try exact zX)
  exact hgo _ rfl
def okI (l : List Config) (i : Nat) : Bool := decide (confE (l.getD i default) = 0) && (List.range i).all fun k => agreeB (l.getD i default) (l.getD k default)
def validB (l : List Config) : Bool := (List.range l.length).all (okI l)
theorem range_all {n : Nat} {g : Nat → Bool} : ((List.range n).all g = true) ↔ ∀ i, i < n → g i = true := by simp
theorem kit_Valid (f : Bool) (l : List Config) : AM.Fn Tryz.prog 6 [.sl f (l.map cfV)] (.b (validB l)) := by
  have hgo : ∀ e, validB l = e → AM.Fn Tryz.prog 6 [.sl f (l.map cfV)] (.b e) := by
    intro e he
    (refine spec_of_runs Tryz.func6 rfl ?_; simp only [Tryz.f6]; refine ys ?_)
    (refine Runs.lens 0 ?_; refine yl ?_)
    intro hl
    have hbad : ∀ i, i < l.length → okI l i = false → e = false := fun i hi h => by
      rw [← he]
      cases hv : validB l
      · rfl
      · rw [range_all.1 hv i hi] at h; cases h
    repeat' (first | refine yw ?_ | ((with_reducible refine Runs.is ?_); first | refine Runs.region (id := 0) ?_ | refine Runs.region (id := 1) ?_ | ((with_reducible refine Runs.isC ?_); refine Runs.cond rfl (zc ?_) (zc ?_) <;> intro hc <;> (try (first | contradiction | (exfalso; omega; done) | (have : hc = trivial := rfl; clear this; clear hc))))) | ((with_reducible refine r_is ?_); first | refine yr ?_) | fail)
    refine Runs.loopI (fun i : Nat => l.length - i) (fun i => i ≤ l.length ∧ ∀ j, j < i → okI l j = true)
      (fun i => ⟨[.sl f (l.map cfV), .any, .any, .i (i : Nat), .any, .any, .any, .any, .any, .any, .any, .any, .any, .any, .any, .any, .any, .any, .any, .any, .any, .any, .any, .any, .any, .any, .any, .any, .any, .any, .any, .any], []⟩) 0 (by simp) ?_ ?_
    · (refine St.Le.clean zR zU zV)
    rintro i ⟨hi, hok⟩ ih
    by_cases hlt : i < l.length
    · have hC := vax_Conf false (l.getD i default)
      repeat' (first | refine yw ?_ | ((with_reducible refine Runs.is ?_); first | refine Runs.region (id := 2) ?_ | refine Runs.region (id := 4) ?_ | refine Runs.region (id := 5) ?_ | refine Runs.region (id := 6) ?_ | refine Runs.region (id := 3) ?_ | ((with_reducible refine Runs.isC ?_); refine Runs.cond rfl (zc ?_) (zc ?_) <;> intro hc <;> (try (first | contradiction | (exfalso; omega; done) | (have : hc = trivial := rfl; clear this; clear hc))))) | ((with_reducible refine r_is ?_); first | refine yr ?_ | (refine r_fn rfl (hC) HbF.h zL1 zD ?_; refine r_nn zN zH ?_)) | fail)
      · have h0 : okI l i = false := by unfold okI; rw [decide_eq_false (by assumption)]; rfl
        rw [hbad i hlt h0]
        (refine Runs.ret1 Tryz.func6 rfl zM zD ?_; try exact zX)
      refine Runs.loopI (fun k : Nat => i - k) (fun k => k ≤ i ∧ ∀ j, j < k → agreeB (l.getD i default) (l.getD j default) = true)
        (fun k => ⟨[.sl f (l.map cfV), .any, .any, .i (i : Nat), .i (k : Nat), .any, .any, .any, .any, .any, .any, .any, .any, .any, .any, .any, .any, .any, .any, .any, .any, .any, .any, .any, .any, .any, .any, .any, .any, .any, .any, .any], []⟩) 0 (by simp) ?_ ?_
      · (refine St.Le.clean zR zU zV)
      rintro k ⟨hk, hag⟩ ihk
      by_cases hkt : k < i
      · have hA := ref_Agree false false (l.getD i default) (l.getD k default)
        cases hv : agreeB (l.getD i default) (l.getD k default)
        · rw [hv] at hA
          repeat' (first | refine yw ?_ | ((with_reducible refine Runs.is ?_); first | refine Runs.region (id := 7) ?_ | refine Runs.drawn (id := 9) mixed zK ?_ | refine Runs.region (id := 10) ?_ | refine Runs.region (id := 8) ?_ | ((with_reducible refine Runs.isC ?_); refine Runs.cond rfl (zc ?_) (zc ?_) <;> intro hc <;> (try (first | contradiction | (exfalso; omega; done) | (have : hc = trivial := rfl; clear this; clear hc))))) | ((with_reducible refine r_is ?_); first | refine yr ?_) | ((with_reducible refine d_is ?_); first | refine yd ?_ | (refine d_fn rfl (hA) HbF.h zL2 zD ?_; refine d_nn zN zH ?_)) | fail)
          have h0 : okI l i = false := by
            unfold okI
            rw [Bool.and_eq_false_iff]
            refine .inr ?_
            cases hr : (List.range i).all fun k => agreeB (l.getD i default) (l.getD k default)
            · rfl
            · rw [range_all.1 hr k hkt] at hv; cases hv
          rw [hbad i hlt h0]
          (refine Runs.ret1 Tryz.func6 rfl zM zD ?_; try exact zX)
        · rw [hv] at hA
          repeat' (first | refine yw ?_ | ((with_reducible refine Runs.is ?_); first | refine Runs.region (id := 7) ?_ | refine Runs.drawn (id := 9) mixed zK ?_ | refine Runs.region (id := 10) ?_ | refine Runs.region (id := 8) ?_ | ((with_reducible refine Runs.isC ?_); refine Runs.cond rfl (zc ?_) (zc ?_) <;> intro hc <;> (try (first | contradiction | (exfalso; omega; done) | (have : hc = trivial := rfl; clear this; clear hc))))) | ((with_reducible refine r_is ?_); first | refine yr ?_) | ((with_reducible refine d_is ?_); first | refine yd ?_ | (refine d_fn rfl (hA) HbF.h zL2 zD ?_; refine d_nn zN zH ?_)) | fail)
          refine ihk (k + 1) _ ⟨by omega, fun j hj => ?_⟩ zo ?_
          · by_cases e : j = k
            · rw [e]; exact hv
            · exact hag j zo
          · (refine St.Le.clean zR zU zV)
      · obtain rfl : k = i := by omega
        repeat' (first | refine yw ?_ | ((with_reducible refine Runs.is ?_); first | refine Runs.region (id := 7) ?_ | ((with_reducible refine Runs.isC ?_); refine Runs.cond rfl (zc ?_) (zc ?_) <;> intro hc <;> (try (first | contradiction | (exfalso; omega; done) | (have : hc = trivial := rfl; clear this; clear hc))))) | ((with_reducible refine r_is ?_); first | refine yr ?_) | fail)
        repeat' (first | refine yw ?_ | ((with_reducible refine Runs.is ?_); first | refine Runs.region (id := 3) ?_ | ((with_reducible refine Runs.isC ?_); refine Runs.cond rfl (zc ?_) (zc ?_) <;> intro hc <;> (try (first | contradiction | (exfalso; omega; done) | (have : hc = trivial := rfl; clear this; clear hc))))) | ((with_reducible refine r_is ?_); first | refine yr ?_) | fail)
        refine ih (k + 1) _ ⟨by omega, fun j hj => ?_⟩ zo ?_
        · by_cases e : j = k
          · rw [e]
            unfold okI
            rw [decide_eq_true (by assumption), Bool.true_and]
            exact range_all.2 hag
          · exact hok j zo
        · (refine St.Le.clean zR zU zV)
    · obtain rfl : i = l.length := by omega
      have h1 : validB l = true := range_all.2 hok
      rw [h1] at he
      subst he
      repeat' (first | refine yw ?_ | ((with_reducible refine Runs.is ?_); first | refine Runs.region (id := 2) ?_ | ((with_reducible refine Runs.isC ?_); refine Runs.cond rfl (zc ?_) (zc ?_) <;> intro hc <;> (try (first | contradiction | (exfalso; omega; done) | (have : hc = trivial := rfl; clear this; clear hc))))) | ((with_reducible refine r_is ?_); first | refine yr ?_) | fail)
      repeat' (first | refine yw ?_ | ((with_reducible refine Runs.is ?_); first | refine Runs.region (id := 11) ?_ | ((with_reducible refine Runs.isC ?_); refine Runs.cond rfl (zc ?_) (zc ?_) <;> intro hc <;> (try (first | contradiction | (exfalso; omega; done) | (have : hc = trivial := rfl; clear this; clear hc))))) | ((with_reducible refine r_is ?_); first | refine yr ?_) | fail)
      (refine Runs.ret1 Tryz.func6 rfl zM zD ?_; try exact zX)
  exact hgo _ rfl
theorem chsE_ok : ∀ {cs pre : List Change}, chsE pre cs = 0 → (∀ c ∈ cs, ChangeOK c) ∧ ∀ i, i < cs.length → ∀ d ∈ pre ++ cs.take i, ¬ (d.kind = (cs.getD i default).kind ∧ d.server = (cs.getD i default).server)
  | [], pre, _ => ⟨by simp, by simp⟩
  | c :: cs, pre, h => by
    rw [chsE] at h
    split at h
    · contradiction
    rename_i h0
    split at h
    · contradiction
    rename_i h1
    have h0' : changeE c = 0 := by omega
    obtain ⟨i1, i2⟩ := chsE_ok h
    refine ⟨fun d hd => ?_, fun i hi d hd => ?_⟩
    · rcases List.mem_cons.1 hd with rfl | hd
      · exact changeE_ok h0'
      · exact i1 d hd
    · cases i with
      | zero =>
        intro hk
        refine h1 (List.any_eq_true.2 ⟨d, ?_, decide_eq_true hk⟩)
        simpa using hd
      | succ i => exact i2 i (by simpa using hi) d (by simpa using hd)
theorem propE_ok {p : Proposal} (h : propE p = 0) : PropOK p := by
  unfold propE at h
  split at h
  · contradiction
  split at h
  · contradiction
  split at h
  · contradiction
  obtain ⟨h1, h2⟩ := chsE_ok h
  refine ⟨by omega, by omega, by omega, h1, fun i k hk hi => ?_⟩
  refine h2 i hi _ ?_
  rw [List.nil_append, ← List.take_append_drop k (p.changes.take i), take_take_le zo]
  refine List.mem_append.2 (.inr ?_)
  rw [drop_getD (show k < (p.changes.take i).length by rw [List.length_take]; omega)]
  have : (p.changes.take i).getD k default = p.changes.getD k default := by rw [List.getD_eq_getElem?_getD, List.getD_eq_getElem?_getD, List.getElem?_take_of_lt hk]
  rw [this]; exact List.mem_cons_self
theorem cfsE_ok {c : Config} : ∀ (n i : Nat), cfsE c i n = 0 → ∀ j, i ≤ j → j < i + n → propE (c.getD j default) = 0 ∧ (0 < j → cmpP (c.getD (j - 1) default) (c.getD j default) < 0) ∧
    (1 < (c.getD j default).number → 0 < j ∧ (c.getD (j - 1) default).admin = (c.getD j default).admin ∧ (c.getD (j - 1) default).number = (c.getD j default).number - 1)
  | 0, i, _, j, h1, h2 => by omega
  | n + 1, i, h, j, h1, h2 => by
    rw [cfsE] at h
    split at h
    · contradiction
    split at h
    · contradiction
    split at h
    · contradiction
    by_cases e : j = i
    · subst e; exact ⟨by omega, by omega, by omega⟩
    · exact cfsE_ok n (i + 1) h j zo zo
theorem confE_ok {c : Config} (h : confE c = 0) : ConfOK c := by
  have hk := cfsE_ok c.length 0 h
  refine ⟨fun p hp => ?_, fun i h0 hi => (hk i zo zo).2.1 h0, fun i hi h1 => (hk i zo zo).2.2 h1⟩
  obtain ⟨i, hi, rfl⟩ := List.mem_iff_getElem.1 hp
  have := propE_ok (hk i zo zo).1
  rw [List.getD_eq_getElem?_getD, List.getElem?_eq_getElem hi] at this
  exact this
end Go.Proofs
namespace Go.Proofs
open Go.AM
attribute [local irreducible] AM.evalR AM.evalD AM.Runs AM.valK AM.dK AM.opK AM.stepR AM.CallS AM.St.Le
theorem cmpP_lt {p q : Proposal} : cmpP p q < 0 ↔ (p.admin < q.admin ∨ p.admin = q.admin ∧ p.number < q.number) := by
  by_cases h1 : p.admin < q.admin ∨ p.admin = q.admin ∧ p.number < q.number
  · have := cmpP_neg.2 h1; omega
  · by_cases h2 : p.admin = q.admin ∧ p.number = q.number
    · have := cmpP_zero.2 h2; omega
    · have := (cmpP_pos (p := p) (q := q)).2 zo; omega
theorem conf_pair {c : Config} (h : ∀ i : Nat, 0 < i → i < c.length → cmpP (c.getD (i - 1) default) (c.getD i default) < 0) (i : Nat) : ∀ j, i < j → j < c.length → cmpP (c.getD i default) (c.getD j default) < 0 := by
  intro j hij hj
  induction j with
  | zero => omega
  | succ j ih =>
    have h1 := h (j + 1) zo hj
    rw [Nat.add_sub_cancel] at h1
    by_cases e : i = j
    · subst e; exact h1
    · have h2 := ih zo zo
      rw [cmpP_lt] at h1 h2 ⊢
      omega
def dflP (a n : Nat) : Proposal := ⟨201 + a, n + 1, [⟨2, 1, 0, 0, ⟨0, 0, 0⟩⟩]⟩
def keyIs (a n : Nat) (p : Proposal) : Bool := decide (p.admin = 201 + (a : Int) ∧ p.number = (n : Int) + 1)
def fOf (c : Config) (a n : Nat) : Proposal := (c.find? (keyIs a n)).getD (dflP a n)
theorem fOf_nice (c : Config) : Nice (fOf c) := by
  intro a n
  unfold fOf
  cases h : c.find? (keyIs a n) with
  | none => exact ⟨rfl, rfl⟩
  | some p => simpa [keyIs] using List.find?_some h
theorem fOf_ok {c : Config} (h : ∀ p ∈ c, PropOK p) (a n : Nat) (ha : a < 3) (hn : n < 3) : PropOK (fOf c a n) := by
  unfold fOf
  cases hf : c.find? (keyIs a n) with
  | none =>
    refine ⟨?_, ?_, ⟨Nat.le_refl 1, by show 1 ≤ 6; decide⟩, ?_, ?_⟩
    · show 201 ≤ (201 : Int) + a ∧ (201 : Int) + a < 204; omega
    · show 1 ≤ (n : Int) + 1 ∧ (n : Int) + 1 ≤ 3; omega
    · intro d hd
      obtain rfl : d = ⟨2, 1, 0, 0, ⟨0, 0, 0⟩⟩ := by simpa [dflP] using hd
      exact .inr (.inl ⟨rfl, ⟨by decide, by decide⟩, rfl, rfl, rfl⟩)
    · intro i k hk hi
      have : (dflP a n).changes.length = 1 := rfl
      simp only [Option.getD_none] at hi
      omega
  | some p => exact h p (List.mem_of_find?_eq_some hf)
theorem fOf_mem {c : Config} (h : ConfOK c) {p : Proposal} (hp : p ∈ c) {a n : Nat} (ha : p.admin = 201 + a) (hn : p.number = n + 1) : fOf c a n = p := by
  unfold fOf
  cases hf : c.find? (keyIs a n) with
  | none =>
    have := List.find?_eq_none.1 hf p hp
    simp [keyIs, ha, hn] at this
  | some q =>
    have hq := List.find?_some hf
    have hqc := List.mem_of_find?_eq_some hf
    simp only [keyIs, decide_eq_true_eq] at hq
    simp only [Option.getD_some]
    obtain ⟨i, hi, rfl⟩ := List.mem_iff_getElem.1 hp
    obtain ⟨j, hj, rfl⟩ := List.mem_iff_getElem.1 hqc
    have g : ∀ k (hk : k < c.length), c.getD k default = c[k] := fun k hk => by rw [List.getD_eq_getElem?_getD, List.getElem?_eq_getElem hk]; rfl
    rcases Nat.lt_trichotomy i j with e | e | e
    · have := cmpP_lt.1 (conf_pair h.2.1 i j e hj)
      rw [g i hi, g j hj] at this; omega
    · subst e; rfl
    · have := cmpP_lt.1 (conf_pair h.2.1 j i e hi)
      rw [g i hi, g j hj] at this; omega
theorem blk_succ (f : Nat → Nat → Proposal) (a n : Nat) : Go.Proofs.blk f a (n + 1) = Go.Proofs.blk f a n ++ [f a n] := by simp [Go.Proofs.blk, List.range_succ]
theorem blk_zero (f : Nat → Nat → Proposal) (a : Nat) : Go.Proofs.blk f a 0 = [] := rfl
theorem conf_take {c : Config} (h : ConfOK c) : ∀ n, n ≤ c.length → ∃ i j k, (i < 4 ∧ j < 4 ∧ k < 4) ∧ c.take n = cut (fOf c) i j k ∧ (n = 0 → i = 0 ∧ j = 0 ∧ k = 0) ∧
    (0 < n → (0 < k ∧ (c.getD (n - 1) default).admin = 203 ∧ (c.getD (n - 1) default).number = k) ∨ (k = 0 ∧ 0 < j ∧ (c.getD (n - 1) default).admin = 202 ∧ (c.getD (n - 1) default).number = j) ∨
      (k = 0 ∧ j = 0 ∧ 0 < i ∧ (c.getD (n - 1) default).admin = 201 ∧ (c.getD (n - 1) default).number = i)) := by
  intro n
  induction n with
  | zero => intro _; exact ⟨0, 0, 0, by decide, by simp [cut, Go.Proofs.blk], fun _ => ⟨rfl, rfl, rfl⟩, fun h => by omega⟩
  | succ n ih =>
    intro hn
    obtain ⟨i, j, k, hlt, ht, h0, hlast⟩ := ih zo
    have hin : c.getD n default ∈ c := getD_in zo
    have hP := h.1 _ hin
    have hord : 0 < n → _ := fun hn0 => cmpP_lt.1 (h.2.1 n hn0 zo)
    have hgap := h.2.2 n zo
    have hfm := fun a m => fOf_mem h hin (a := a) (n := m)
    rw [Nat.add_sub_cancel, take_getD (show n < c.length by omega), ht]
    obtain ⟨hA, hN, _⟩ := hP
    generalize c.getD n default = p at *
    generalize c.getD (n - 1) default = q at *
    have hone : n = 0 → p.number = 1 := fun e => by
      clear hlast h0 hord hfm ht hlt
      omega
    rcases (show p.admin = 201 ∨ p.admin = 202 ∨ p.admin = 203 by omega) with ha | ha | ha
    · have hnum : p.number = i + 1 := by
        rcases Nat.eq_zero_or_pos n with e | e
        · rw [hone e, (h0 e).1]; rfl
        · have h7 := hlast e
          have h8 := hord e
          clear hlast hord h0 hone
          omega
      have hj : j = 0 ∧ k = 0 := by
        rcases Nat.eq_zero_or_pos n with e | e
        · exact (h0 e).2
        · have h7 := hlast e
          have h8 := hord e
          clear hlast hord h0 hone
          omega
      clear hlast h0
      obtain ⟨rfl, rfl⟩ := hj
      refine ⟨i + 1, 0, 0, by omega, ?_, fun e => by omega, fun _ => .inr (.inr ⟨rfl, rfl, by omega, ha, by rw [hnum]; rfl⟩)⟩
      have := hfm 0 i (by rw [ha]; rfl) hnum
      rw [← this]
      simp only [cut, blk_succ, blk_zero, List.append_nil, List.append_assoc]
    · have hnum : p.number = j + 1 := by
        rcases Nat.eq_zero_or_pos n with e | e
        · rw [hone e, (h0 e).2.1]; rfl
        · have h7 := hlast e
          have h8 := hord e
          clear hlast hord h0 hone
          omega
      have hk : k = 0 := by
        rcases Nat.eq_zero_or_pos n with e | e
        · exact (h0 e).2.2
        · have h7 := hlast e
          have h8 := hord e
          clear hlast hord h0 hone
          omega
      clear hlast h0
      subst hk
      refine ⟨i, j + 1, 0, by omega, ?_, fun e => by omega, fun _ => .inr (.inl ⟨rfl, by omega, ha, by rw [hnum]; rfl⟩)⟩
      have := hfm 1 j (by rw [ha]; rfl) hnum
      rw [← this]
      simp only [cut, blk_succ, blk_zero, List.append_nil, List.append_assoc]
    · have hnum : p.number = k + 1 := by
        rcases Nat.eq_zero_or_pos n with e | e
        · rw [hone e, (h0 e).2.2]; rfl
        · have h7 := hlast e
          have h8 := hord e
          clear hlast hord h0 hone
          omega
      clear hlast h0
      refine ⟨i, j, k + 1, by omega, ?_, fun e => by omega, fun _ => .inl ⟨by omega, ha, by rw [hnum]; rfl⟩⟩
      have := hfm 2 k (by rw [ha]; rfl) hnum
      rw [← this]
      simp only [cut, blk_succ, List.append_assoc]
theorem conf_cut {c : Config} (h : ConfOK c) : IsCut (fOf c) c := by
  obtain ⟨i, j, k, hlt, ht, _⟩ := conf_take h c.length (Nat.le_refl _)
  rw [List.take_length] at ht
  exact ⟨i, j, k, hlt, ht⟩
theorem containsB_key (a b : Config) : containsB (b.map key) (a.map key) = containsB b a := by
  unfold containsB
  rw [List.all_map]
  congr 1; funext p; exact hasB_key b p
theorem containsR_key (a b : Config) : containsR (b.map key) (a.map key) = containsR b a := by
  unfold containsR
  rw [List.all_map]
  congr 1; funext p; exact hasR_key b p
theorem allB_keys {a a' b : Config} (h : a.map key = a'.map key) : allB a b = allB a' b := by
  unfold allB
  rw [← containsB_key a b, ← containsB_key a' b, ← vectorV_key a, ← vectorV_key a', h]
theorem allR_keys {a a' b : Config} (h : a.map key = a'.map key) : allR a b = allR a' b := by
  have hc : ∀ t, cntR a t = cntR a' t := fun t => by unfold cntR; rw [← vectorR_key a, ← vectorR_key a', h]
  unfold allR allJ allK
  rw [← containsR_key a b, ← containsR_key a' b, h]
  simp only [hc]
structure Pair (a b : Config) : Prop where
  all : allB a b = allR a b
  mem : ∀ c ∈ allR a b, ∃ i j k, (i < 4 ∧ j < 4 ∧ k < 4) ∧ c = cut (fOf b) i j k
  len : (allR a b).length ≤ 64
  cnt : countB a b = ((allR a b).length : Int)
  within : ∀ c, ConfOK c → containsB c a = containsR c a ∧ containsB b c = containsR b c
  few : (vectorV b).length ≤ 3
  fac : containsB b a = true → ∀ e ∈ vectorV b, 1 ≤ fac (vectorV a) e ∧ fac (vectorV a) e ≤ 4
  num : ∀ e ∈ vectorV b, 0 ≤ e.count ∧ e.count ≤ 1000000
  get : ∀ x, 0 ≤ getV (vectorV a) x ∧ getV (vectorV a) x ≤ 1000000000
  fine : Fine (vectorV b)
  cntb : ∀ t, cntR b t ≤ 3
theorem prod_pos {i j k i' j' k' : Nat} (h : i < 4 ∧ j < 4 ∧ k < 4) (h' : i' < 4 ∧ j' < 4 ∧ k' < 4) (hle : i ≤ i' ∧ j ≤ j' ∧ k ≤ k') : countI (vecC i j k) (vecC i' j' k') = ((idx i j k i' j' k').length : Int) := by
  have h1 := cnt_fin ⟨i, h.1⟩ ⟨j, h.2.1⟩ ⟨k, h.2.2⟩ ⟨i', h'.1⟩ ⟨j', h'.2.1⟩ ⟨k', h'.2.2⟩ hle.1 hle.2.1 hle.2.2
  have h2 := idx_fin ⟨i, h.1⟩ ⟨j, h.2.1⟩ ⟨k, h.2.2⟩ ⟨i', h'.1⟩ ⟨j', h'.2.1⟩ ⟨k', h'.2.2⟩ hle.1 hle.2.1 hle.2.2
  exact h1.2.1.trans h2.1.symm
theorem conf_pairs {a b : Config} (ha : ConfOK a) (hb : ConfOK b) : Pair a b := by
  obtain ⟨i, j, k, h, ea⟩ := conf_cut ha
  have hcb := conf_cut hb
  obtain ⟨i', j', k', h', eb⟩ := hcb
  have hfa := fOf_nice a
  have hfb := fOf_nice b
  generalize hga : fOf a = fa at *
  generalize hgb : fOf b = fb at *
  have hk : a.map key = (cut fb i j k).map key := by rw [ea, cut_key hfa, cut_key hfb]
  have hkk : ∀ x y z, (cut fa x y z).map key = (cut fb x y z).map key := fun x y z => by rw [cut_key hfa, cut_key hfb]
  have hva : vectorV a = vecC i j k := by rw [ea]; exact (vec_cut hfa h).1
  have hvb : vectorV b = vecC i' j' k' := by rw [eb]; exact (vec_cut hfb h').1
  have hcon : containsB b a = decide (i ≤ i' ∧ j ≤ j' ∧ k ≤ k') := by
    rw [← containsB_key a b, hk, containsB_key]
    rw [eb]
    exact (contains_cut hfb h' h).1
  have hall : allB a b = allR a b := by
    rw [allB_keys hk, allR_keys hk, eb, allB_cut hfb h h', allR_cut hfb h h']
  have hR : allR a b = if i ≤ i' ∧ j ≤ j' ∧ k ≤ k' then allN fb i j k i' j' k' else [] := by
    rw [allR_keys hk, eb, allR_cut hfb h h']
  have h1 := fun hle : i ≤ i' ∧ j ≤ j' ∧ k ≤ k' => cnt_fin ⟨i, h.1⟩ ⟨j, h.2.1⟩ ⟨k, h.2.2⟩ ⟨i', h'.1⟩ ⟨j', h'.2.1⟩ ⟨k', h'.2.2⟩ hle.1 hle.2.1 hle.2.2
  have h3 := cnt_fin ⟨0, by decide⟩ ⟨0, by decide⟩ ⟨0, by decide⟩ ⟨i, h.1⟩ ⟨j, h.2.1⟩ ⟨k, h.2.2⟩ (Nat.zero_le _) (Nat.zero_le _) (Nat.zero_le _)
  have h4 := cnt_fin ⟨0, by decide⟩ ⟨0, by decide⟩ ⟨0, by decide⟩ ⟨i', h'.1⟩ ⟨j', h'.2.1⟩ ⟨k', h'.2.2⟩ (Nat.zero_le _) (Nat.zero_le _) (Nat.zero_le _)
  dsimp only at h1 h3 h4
  refine ⟨hall, ?_, ?_, ?_, ?_, ?_, ?_, ?_, ?_, ?_, ?_⟩
  · rw [hR]
    intro c hc
    split at hc
    · obtain ⟨x, y, z, h5, h6⟩ := allN_cut fb h' c hc
      exact ⟨x, y, z, h5, by rw [hgb]; exact h6⟩
    · simp at hc
  · rw [hR]
    split
    · exact allN_len fb h'
    · simp
  · rw [hR]
    unfold countB
    rw [hcon, hva, hvb]
    by_cases hle : i ≤ i' ∧ j ≤ j' ∧ k ≤ k'
    · rw [decide_eq_true hle, if_pos rfl, if_pos hle, allN_idx, List.length_map]
      exact prod_pos h h' hle
    · rw [decide_eq_false hle, if_neg zd, if_neg hle]; rfl
  · intro c hc
    obtain ⟨x, y, z, h5, ec⟩ := conf_cut hc
    have hfc := fOf_nice c
    generalize fOf c = fc at *
    constructor
    · rw [← containsB_key a c, ← containsR_key a c, ea, ec, cut_key hfa, cut_key hfc]
      exact (contains_cut (f := f0) (fun _ _ => ⟨rfl, rfl⟩) h5 h).1.trans (contains_cut (f := f0) (fun _ _ => ⟨rfl, rfl⟩) h5 h).2.symm
    · rw [← containsB_key c b, ← containsR_key c b, eb, ec, cut_key hfb, cut_key hfc]
      exact (contains_cut (f := f0) (fun _ _ => ⟨rfl, rfl⟩) h' h5).1.trans (contains_cut (f := f0) (fun _ _ => ⟨rfl, rfl⟩) h' h5).2.symm
  · rw [hvb]; exact getV_fin ⟨i', h'.1⟩ ⟨j', h'.2.1⟩ ⟨k', h'.2.2⟩
  · rw [hcon, hva, hvb]
    intro hle e he
    exact ((h1 (of_decide_eq_true hle)).2.2 e he).1
  · rw [hvb]; intro e he; exact (h4.2.2 e he).2
  · rw [hva]; intro x; refine getV_le (fun e he => ?_) x
    have := (h3.2.2 e he).2; omega
  · exact IsCut.fine hfb ⟨i', j', k', h', eb⟩
  · exact IsCut.cnt hfb ⟨i', j', k', h', eb⟩
theorem ConfOK.small {c : Config} (h : ConfOK c) : c.length ≤ 9 ∧ Small c := by
  obtain ⟨i, j, k, hl, e⟩ := conf_cut h
  have h9 : c.length ≤ 9 := by rw [e, cut_len]; omega
  refine ⟨h9, by omega, fun p hp => ?_⟩
  have := (h.1 p hp).2.2.1; omega
end Go.Proofs
namespace Go.Proofs
open Go.AM
attribute [local irreducible] AM.evalR AM.evalD AM.Runs AM.valK AM.dK AM.opK AM.stepR AM.CallS AM.St.Le
theorem validB_conf {l : List Config} (h : validB l = true) : ∀ c ∈ l, ConfOK c := by
  intro c hc
  obtain ⟨i, hi, rfl⟩ := List.mem_iff_getElem.1 hc
  have h1 := range_all.1 h i hi
  unfold okI at h1
  rw [Bool.and_eq_true, decide_eq_true_eq, List.getD_eq_getElem?_getD, List.getElem?_eq_getElem hi] at h1
  exact confE_ok h1.1
end Go.Proofs
namespace Go.Proofs
open Go.AM
attribute [local irreducible] AM.evalR AM.evalD AM.Runs AM.valK AM.dK AM.opK AM.stepR AM.CallS AM.St.Le
theorem span_fn {g : View} (hg : g.members.length ≤ 1000) {a b : Config} (hA : AM.Fn Tryz.prog 10 [.sl false (a.map prV), .sl false (b.map prV)] (.sl false ((allB a b).map cfV))) (hn : (allB a b).length ≤ 1000)
    (hp : ∀ c ∈ allB a b, c.length ≤ 100 ∧ ∀ p ∈ c, Plain p) : AM.Fn Tryz.prog 19 [viV g, .sl false (a.map prV), .sl false (b.map prV)] (.sl false ((spanI ((allB a b).map (viewOf g))).map .i)) := by
  have hV := interval_Views false false g a b hA zo hg hp
  have hm : ∀ v ∈ (allB a b).map (viewOf g), v.members.length ≤ 200000 := by
    intro v hv
    obtain ⟨c, hc, rfl⟩ := List.mem_map.1 hv
    exact view_len hg (hp c hc).1 (hp c hc).2
  refine interval_Span false false g a b _ hV (by rw [List.length_map]; omega) (fun v hv => Nat.le_trans (hm v hv) zd) ?_
  refine Nat.le_trans (sum_le_mul (m := 200000) ?_) ?_
  · intro x hx
    obtain ⟨l, hl, rfl⟩ := List.mem_map.1 hx
    obtain ⟨v, hv, rfl⟩ := List.mem_map.1 hl
    unfold srv
    rw [List.length_map]; exact hm v hv
  · rw [List.length_map, List.length_map, List.length_map]
    omega
end Go.Proofs
namespace Go.Proofs
open Go.AM
attribute [local irreducible] AM.evalR AM.evalD AM.Runs AM.valK AM.dK AM.opK AM.stepR AM.CallS AM.St.Le
theorem prop_plain {p : Proposal} (h : PropOK p) : Plain p := ⟨by have := h.2.2.1; omega, trivial⟩
theorem mem_cutP {f : Nat → Nat → Proposal} {i j k : Nat} (h : i < 4 ∧ j < 4 ∧ k < 4) (hf : ∀ a n, a < 3 → n < 3 → PropOK (f a n)) : (cut f i j k).length ≤ 100 ∧ ∀ p ∈ cut f i j k, PropOK p := by
  refine ⟨by rw [cut_len]; omega, fun p hp => ?_⟩
  obtain ⟨a, n, ha, hn, rfl⟩ := mem_cut3 h hp
  exact hf a n ha hn
theorem viewT_len {g : View} (hg : g.members.length ≤ 12) {c : Config} (hc : c.length ≤ 9) (hp : ∀ p ∈ c, PropOK p) : (viewT (sumT g c)).members.length ≤ 100 := by
  have h2 : ∀ (c : Config) (s : Summary), (∀ p ∈ c, PropOK p) → (c.foldl sumTStep s).joined.length ≤ s.joined.length + 6 * c.length := by
    intro c
    induction c with
    | nil => intro s _; simp
    | cons p c ih =>
      intro s hp
      have h1 := ih (sumTStep s p) (fun q hq => hp q (by simp [hq]))
      have h3 := foldl_insR_len (ofT p).joined s.joined
      have h4 := (ofT_short (p := p) p.changes.length (Nat.le_refl _)).1
      rw [List.take_of_length_le (Nat.le_refl _)] at h4
      have h5 := (hp p (by simp)).2.2.1
      have h6 : (sumTStep s p).joined.length ≤ s.joined.length + 6 := Nat.le_trans h3 (by have : (ofT p).joined.length ≤ p.changes.length := h4; omega)
      rw [List.foldl_cons, List.length_cons]; omega
  refine Nat.le_trans (vAccT_len _ _ _) ?_
  have h1 := h2 c (initS g) hp
  have h3 : (initS g).joined.length = g.members.length := by simp [initS]
  show (c.foldl sumTStep (initS g)).joined.length ≤ 100
  omega
theorem law_IntervalViews (g : View) (a b : Config) (hgl : g.members.length ≤ 140737488351232) : AM.Fn Tryz.prog 4 [viV g, cfV a, cfV b] (.b true) := by
  have hV := kit_Valid false [a, b]
  have hGn := vax_Gen g zo
  cases hv : validB [a, b]
  · rw [hv] at hV
    (refine spec_of_runs Tryz.func4 rfl ?_; simp only [Tryz.f4]; refine ys ?_)
    repeat' (first | refine yw ?_ | ((with_reducible refine Runs.is ?_); first | refine Runs.region (id := 0) ?_ | refine Runs.region (id := 1) ?_ | refine Runs.region (id := 2) ?_ | ((with_reducible refine Runs.isC ?_); refine Runs.cond rfl (zc ?_) (zc ?_) <;> intro hc <;> (try (first | contradiction | (exfalso; omega; done) | (have : hc = trivial := rfl; clear this; clear hc))))) | ((with_reducible refine r_is ?_); first | refine yrb ?_ | (refine r_buildOwn (D := 21) SlF.h ZoF.h zd zB zd rfl ?_; refine r_nn zN zH ?_) | (refine r_build SlF.h ZoF.h zd zB ?_; refine r_n zN ?_) | (refine r_lend rfl (hV) HbF.h zY rfl ?_; refine r_nn zN zH ?_) | (refine r_fn rfl (law_awake) HbF.h zL0 zD ?_; refine r_nn zN zH ?_) | ((with_reducible refine r_gd ?_); (first | refine r_guardPf rfl rfl ?_ ?_ | refine r_guardNf rfl rfl ?_ ?_ | refine r_guard rfl rfl ?_ ?_) <;> intro hG <;> (try (exfalso; omega; done)) <;> refine r_nn zN zH ?_)) | fail)
    all_goals ((refine Runs.ret1 Tryz.func4 rfl zM zD ?_; try exact zX))
  · rw [hv] at hV
    by_cases hge : genE g = 0
    · have hok := validB_conf hv
      have ha := hok a (by simp)
      have hb := hok b (by simp)
      obtain ⟨hru, hmem, hpos⟩ := genE_ok hge
      have h12 := hmem.len
      have sa := ha.small
      have sb := hb.small
      have P := conf_pairs ha hb
      have hA := interval_All false false a b zo sb.2 zo P.fine
      have hR := ref_All false false a b zo zo P.cntb
      have hcs : ∀ c ∈ allR a b, c.length ≤ 9 ∧ ∀ p ∈ c, PropOK p := by
        intro c hc
        obtain ⟨i, j, k, hlt, rfl⟩ := P.mem c hc
        have := mem_cutP hlt (fOf_ok hb.1)
        exact ⟨by rw [cut_len]; omega, this.2⟩
      have hpl : ∀ c ∈ allB a b, c.length ≤ 100 ∧ ∀ p ∈ c, Plain p := by
        rw [P.all]
        exact fun c hc => ⟨by have := (hcs c hc).1; omega, fun p hp => prop_plain ((hcs c hc).2 p hp)⟩
      have hlen := P.len
      have hVs := interval_Views false false g a b hA (by rw [P.all]; omega) zo hpl
      have hSp := span_fn (g := g) zo hA (by rw [P.all]; omega) hpl
      have hSR := ref_Span false false g a b (allR a b) (fun c => viewT (sumT g c)) hR (fun c hc => ref_ViewOf false g c zo (hpl c (by rw [P.all]; exact hc)).1 (hpl c (by rw [P.all]; exact hc)).2) zo (fun c hc => viewT_len h12 (hcs c hc).1 (hcs c hc).2)
      rw [spanR_I] at hSR
      have hVo : ∀ c ∈ allR a b, AM.Fn Tryz.prog 17 [viV g, cfV c] (viV (viewOf g c)) ∧ (viewOf g c).members.length ≤ 100 := by
        intro c hc
        have e := viewOf_T hmem (hcs c hc).2
        have := ref_ViewOf false g c zo (hpl c (by rw [P.all]; exact hc)).1 (hpl c (by rw [P.all]; exact hc)).2
        rw [e]
        exact ⟨this, viewT_len h12 (hcs c hc).1 (hcs c hc).2⟩
      have hmap : (allR a b).map (fun c => viewT (sumT g c)) = (allR a b).map (viewOf g) := List.map_congr_left fun c hc => (viewOf_T hmem (hcs c hc).2).symm
      rw [hmap] at hSR
      rw [P.all] at hVs hSp
      clear hA hpl hcs P hmap
      generalize allR a b = l at *
      generalize spanI (l.map (viewOf g)) = sp at *
      have hSE := ref_EqualInts false false sp sp
      rw [decide_eq_true rfl] at hSE
      have hl2 : (l.map (viewOf g)).length = l.length := List.length_map _
      have hget : ∀ k, k < l.length → (l.map (viewOf g)).getD k default = viewOf g (l.getD k default) := fun k hk => by
        rw [List.getD_eq_getElem?_getD, List.getD_eq_getElem?_getD, List.getElem?_map, List.getElem?_eq_getElem hk]; rfl
      generalize l.map (viewOf g) = vs at *
      rw [hge] at hGn
      (refine spec_of_runs Tryz.func4 rfl ?_; simp only [Tryz.f4]; refine ys ?_)
      repeat' (first | refine yw ?_ | ((with_reducible refine Runs.is ?_); first | refine Runs.region (id := 0) ?_ | refine Runs.region (id := 1) ?_ | refine Runs.region (id := 2) ?_ | refine Runs.drawn (id := 3) mixed zK ?_ | refine Runs.region (id := 4) ?_ | refine Runs.region (id := 5) ?_ | refine Runs.region (id := 6) ?_ | ((with_reducible refine Runs.isC ?_); refine Runs.cond rfl (zc ?_) (zc ?_) <;> intro hc <;> (try (first | contradiction | (exfalso; omega; done) | (have : hc = trivial := rfl; clear this; clear hc))))) | ((with_reducible refine r_is ?_); first | refine yrb ?_ | (refine r_buildOwn (D := 21) SlF.h ZoF.h zd zB zd rfl ?_; refine r_nn zN zH ?_) | (refine r_build SlF.h ZoF.h zd zB ?_; refine r_n zN ?_) | (refine r_lend rfl (hV) HbF.h zY rfl ?_; refine r_nn zN zH ?_) | (refine r_fn rfl (hGn) HbF.h zL1 zD ?_; refine r_nn zN zH ?_) | (refine r_fn rfl (law_awake) HbF.h zL0 zD ?_; refine r_nn zN zH ?_) | ((with_reducible refine r_gd ?_); (first | refine r_guardPf rfl rfl ?_ ?_ | refine r_guardNf rfl rfl ?_ ?_ | refine r_guard rfl rfl ?_ ?_) <;> intro hG <;> (try (exfalso; omega; done)) <;> refine r_nn zN zH ?_)) | ((with_reducible refine d_is ?_); first | refine yd ?_ | (refine d_fn rfl (hR) HbF.h zL2 zD ?_; refine d_nn zN zH ?_) | (refine d_fn rfl (hVs) HbF.h zL3 zD ?_; refine d_nn zN zH ?_)) | fail)
      refine Runs.loopI (fun i : Nat => l.length - i) (fun i => i ≤ l.length)
        (fun i => ⟨[.any, .sl false (a.map prV), .sl false (b.map prV), .ptr 3 0 0, .any, .any, .any, .sl false (l.map cfV), .sl false (vs.map viV), .i (i : Nat), .any, .any, .any, .any, .any, .any, .any, .any, .any, .any, .any, .any, .any, .any, .any, .any, .any, .any, .any, .any, .any, .any, .any, .any, .any, .any, .any, .any, .any, .any, .any, .any, .any, .any, .any, .any, .any, .any, .any, .any, .any, .any, .any, .any, .any, .any, .any, .any, .any, .any, .any, .any, .any, .any, .any, .any, .any, .any, .any, .any, .any, .any, .any], [(3, .var 35 (viV g))]⟩) 0 zo ?_ ?_
      · (refine St.Le.clean zR zU zV)
      rintro i hi ih
      by_cases hlt : i < l.length
      · have h1 := hVo _ (getD_in hlt)
        have h2 := hget i hlt
        have hEq := ref_EqualView (vs.getD i default) (viewOf g (l.getD i default)) (by rw [h2]; omega)
        rw [decide_eq_true h2] at hEq
        have h3 := h1.1
        generalize viewOf g (l.getD i default) = v at *
        repeat' (first | refine yw ?_ | ((with_reducible refine Runs.is ?_); first | refine Runs.region (id := 7) ?_ | refine Runs.drawn (id := 9) mixed zK ?_ | refine Runs.region (id := 10) ?_ | refine Runs.region (id := 8) ?_ | ((with_reducible refine Runs.isC ?_); refine Runs.cond rfl (zc ?_) (zc ?_) <;> intro hc <;> (try (first | contradiction | (exfalso; omega; done) | (have : hc = trivial := rfl; clear this; clear hc))))) | ((with_reducible refine r_is ?_); first | refine yr ?_) | ((with_reducible refine d_is ?_); first | refine yd ?_ | (refine d_fn rfl (h3) HbF.h zL2 zD ?_; refine d_nn zN zH ?_) | (refine d_fn rfl (hEq) HbF.h zL2 zD ?_; refine d_nn zN zH ?_)) | fail)
        refine ih (i + 1) _ zo zo ?_
        (refine St.Le.clean zR zU zV)
      · repeat' (first | refine yw ?_ | ((with_reducible refine Runs.is ?_); first | refine Runs.region (id := 7) ?_ | ((with_reducible refine Runs.isC ?_); refine Runs.cond rfl (zc ?_) (zc ?_) <;> intro hc <;> (try (first | contradiction | (exfalso; omega; done) | (have : hc = trivial := rfl; clear this; clear hc))))) | ((with_reducible refine r_is ?_); first | refine yr ?_) | fail)
        repeat' (first | refine yw ?_ | ((with_reducible refine Runs.is ?_); first | refine Runs.drawn (id := 11) mixed zK ?_ | ((with_reducible refine Runs.isC ?_); refine Runs.cond rfl (zc ?_) (zc ?_) <;> intro hc <;> (try (first | contradiction | (exfalso; omega; done) | (have : hc = trivial := rfl; clear this; clear hc))))) | ((with_reducible refine d_is ?_); first | refine yd ?_ | (refine d_fn rfl (hSp) HbF.h zL3 zD ?_; refine d_nn zN zH ?_) | (refine d_fn rfl (hSR) HbF.h zL3 zD ?_; refine d_nn zN zH ?_) | (refine d_fn rfl (hSE) HbF.h zL2 zD ?_; refine d_nn zN zH ?_) | (refine d_fn rfl (law_awake) HbF.h zL0 zD ?_; refine d_nn zN zH ?_) | ((with_reducible refine d_gd ?_); (first | refine d_guardPt rfl rfl ?_ ?_ | refine d_guardNt rfl rfl ?_ ?_ | refine d_guard rfl rfl ?_ ?_) <;> intro hG <;> (try (exfalso; omega; done)) <;> refine d_nn zN zH ?_)) | fail)
        (refine Runs.ret1 Tryz.func4 rfl zM zD ?_; try exact zX)
    · generalize genE g = e at *
      (refine spec_of_runs Tryz.func4 rfl ?_; simp only [Tryz.f4]; refine ys ?_)
      repeat' (first | refine yw ?_ | ((with_reducible refine Runs.is ?_); first | refine Runs.region (id := 0) ?_ | refine Runs.region (id := 1) ?_ | refine Runs.region (id := 2) ?_ | ((with_reducible refine Runs.isC ?_); refine Runs.cond rfl (zc ?_) (zc ?_) <;> intro hc <;> (try (first | contradiction | (exfalso; omega; done) | (have : hc = trivial := rfl; clear this; clear hc))))) | ((with_reducible refine r_is ?_); first | refine yrb ?_ | (refine r_buildOwn (D := 21) SlF.h ZoF.h zd zB zd rfl ?_; refine r_nn zN zH ?_) | (refine r_build SlF.h ZoF.h zd zB ?_; refine r_n zN ?_) | (refine r_lend rfl (hV) HbF.h zY rfl ?_; refine r_nn zN zH ?_) | (refine r_fn rfl (hGn) HbF.h zL1 zD ?_; refine r_nn zN zH ?_) | (refine r_fn rfl (law_awake) HbF.h zL0 zD ?_; refine r_nn zN zH ?_) | ((with_reducible refine r_gd ?_); (first | refine r_guardPf rfl rfl ?_ ?_ | refine r_guardNf rfl rfl ?_ ?_ | refine r_guard rfl rfl ?_ ?_) <;> intro hG <;> (try (exfalso; omega; done)) <;> refine r_nn zN zH ?_)) | fail)
      all_goals ((refine Runs.ret1 Tryz.func4 rfl zM zD ?_; try exact zX))
end Go.Proofs
namespace Go.Proofs
open Go.AM
attribute [local irreducible] AM.evalR AM.evalD AM.Runs AM.valK AM.dK AM.opK AM.stepR AM.CallS AM.St.Le
theorem row_own : ownKnob Tryz.prog.godebug = none := by kernel_rfl
theorem row_laid : laidOutB Tryz.prog = true := by kernel_rfl
theorem row_bool : Tryz.prog.underlying 4 = some .bool := by kernel_rfl
theorem row_int : Tryz.prog.underlying 3 = some (.int .i64) := by kernel_rfl
def I64 (z : Int) : Prop := -9223372036854775808 ≤ z ∧ z ≤ 9223372036854775807
theorem wf_i64 {z : Int} (h : (Lit.int .i64 z).wf = true) : I64 z := by
  simp only [Lit.wf, Bool.and_eq_true, decide_eq_true_eq] at h
  exact h
theorem opI : Opens Tryz.prog 3 1 (fun vs => ∃ z, I64 z ∧ vs = [V.i z]) := (opens_int row_int (by kernel_rfl)).imp fun vs ⟨z, h, e⟩ => ⟨z, wf_i64 h, e⟩
theorem opRu : Opens Tryz.prog 33 3 (fun vs => ∃ r : Rule, (I64 r.kind ∧ I64 r.columns ∧ I64 r.faulty) ∧ vs = [.i r.kind, .i r.columns, .i r.faulty]) :=
  (opens_struct (L := [(3, 0), (3, 1), (3, 2)]) (by kernel_rfl) zd (by kernel_rfl) (fs_cons opI (fs_cons opI (fs_cons opI fs_nil)))).imp fun vs h => by
    simp only [CatQ] at h
    obtain ⟨_, _, rfl, ⟨k, hk, rfl⟩, _, _, rfl, ⟨c, hc, rfl⟩, _, _, rfl, ⟨f, hf, rfl⟩, rfl⟩ := h
    exact ⟨⟨k, c, f⟩, ⟨hk, hc, hf⟩, rfl⟩
theorem opCh : Opens Tryz.prog 59 7 (fun vs => ∃ c : Change, True ∧ .agg vs = chV c) :=
  (opens_struct (L := [(3, 0), (3, 1), (3, 2), (3, 3), (33, 4)]) (by kernel_rfl) zd (by kernel_rfl) (fs_cons opI (fs_cons opI (fs_cons opI (fs_cons opI (fs_cons opRu fs_nil)))))).imp fun vs h => by
    simp only [CatQ] at h
    obtain ⟨_, _, rfl, ⟨k, _, rfl⟩, _, _, rfl, ⟨s, _, rfl⟩, _, _, rfl, ⟨w, _, rfl⟩, _, _, rfl, ⟨v, _, rfl⟩, _, _, rfl, ⟨r, _, rfl⟩, rfl⟩ := h
    exact ⟨⟨k, s, w, v, r⟩, trivial, rfl⟩
theorem opPr : Opens Tryz.prog 62 3 (fun vs => ∃ p : Proposal, p.changes.length ≤ 140737488351232 ∧ .agg vs = prV p) :=
  (opens_struct (L := [(3, 0), (3, 1), (60, 2)]) (by kernel_rfl) zd (by kernel_rfl) (fs_cons opI (fs_cons opI (fs_cons (opens_slice true (e := 59) (by kernel_rfl) (by kernel_rfl) opCh zd (by kernel_rfl) (by intro h; cases h)) fs_nil)))).imp fun vs h => by
    simp only [CatQ] at h
    obtain ⟨_, _, rfl, ⟨a, _, rfl⟩, _, _, rfl, ⟨n, _, rfl⟩, _, _, rfl, ⟨ess, h1, h2, rfl⟩, rfl⟩ := h
    obtain ⟨xs, e1, _, e2⟩ := lists_of (f := chV) (ok := fun _ => True) (ag := true) (ess := ess) fun c hc => by obtain ⟨z, _, e⟩ := h1 c hc; exact ⟨z, trivial, e⟩
    have : reachBytes = 140737488351232 := rfl
    exact ⟨⟨a, n, xs⟩, by dsimp only; omega, by rw [e1]; rfl⟩
theorem opCf : Opens Tryz.prog 23 1 (fun vs => ∃ c : Config, (c.length ≤ 140737488351232 ∧ ∀ p ∈ c, p.changes.length ≤ 140737488351232) ∧ vs = [cfV c]) :=
  (opens_slice true (e := 62) (by kernel_rfl) (by kernel_rfl) opPr zd (by kernel_rfl) (by intro h; cases h)).imp fun vs ⟨ess, h1, h2, e⟩ => by
    obtain ⟨xs, e1, e3, e2⟩ := lists_of (f := prV) (ok := fun p => p.changes.length ≤ 140737488351232) (ag := true) (ess := ess) fun c hc => h1 c hc
    have : reachBytes = 140737488351232 := rfl
    exact ⟨xs, ⟨by omega, e3⟩, by rw [e, e1]⟩
theorem opMb : Opens Tryz.prog 53 2 (fun vs => ∃ m : Member, (I64 m.server ∧ I64 m.weight) ∧ .agg vs = mbV m) :=
  (opens_struct (L := [(3, 0), (3, 1)]) (by kernel_rfl) zd (by kernel_rfl) (fs_cons opI (fs_cons opI fs_nil))).imp fun vs h => by
    simp only [CatQ] at h
    obtain ⟨_, _, rfl, ⟨k, hk, rfl⟩, _, _, rfl, ⟨c, hc, rfl⟩, rfl⟩ := h
    exact ⟨⟨k, c⟩, ⟨hk, hc⟩, rfl⟩
theorem opGe : Opens Tryz.prog 35 4 (fun vs => ∃ g : View, (g.members.length ≤ 140737488351232 ∧ ∀ m ∈ g.members, I64 m.server ∧ I64 m.weight) ∧ .agg vs = viV g) :=
  (opens_struct (L := [(31, 0), (33, 1)]) (by kernel_rfl) zd (by kernel_rfl) (fs_cons (opens_slice true (e := 53) (by kernel_rfl) (by kernel_rfl) opMb zd (by kernel_rfl) (by intro h; cases h)) (fs_cons opRu fs_nil))).imp fun vs h => by
    simp only [CatQ] at h
    obtain ⟨_, _, rfl, ⟨ess, h1, h2, rfl⟩, _, _, rfl, ⟨r, _, rfl⟩, rfl⟩ := h
    obtain ⟨xs, e1, e3, e2⟩ := lists_of (f := mbV) (ok := fun m => I64 m.server ∧ I64 m.weight) (ag := true) (ess := ess) fun c hc => h1 c hc
    have : reachBytes = 140737488351232 := rfl
    exact ⟨⟨xs, r⟩, ⟨by dsimp only; omega, e3⟩, by rw [e1]; rfl⟩
theorem oaCf : OpensV Tryz.prog 23 (fun u => ∃ c : Config, (c.length ≤ 140737488351232 ∧ ∀ p ∈ c, p.changes.length ≤ 140737488351232) ∧ u = cfV c) := opCf.sl (e := 62) (by kernel_rfl) fun u ⟨l, h, e⟩ => ⟨l, h, by simpa using e⟩
theorem oaGe : OpensV Tryz.prog 35 (fun u => ∃ g : View, (g.members.length ≤ 140737488351232 ∧ ∀ m ∈ g.members, I64 m.server ∧ I64 m.weight) ∧ u = viV g) := opGe.agg (L := [(31, 0), (33, 1)]) (by kernel_rfl) zd fun vs h => h
end Go.Proofs
