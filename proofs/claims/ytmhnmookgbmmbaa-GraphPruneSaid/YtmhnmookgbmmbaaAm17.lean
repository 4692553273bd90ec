/- The abstract machine, part 17: 'Runs.drawn'. -/
import Derived.Test.YtmhnmookgbmmbaaAm16
set_option linter.unusedVariables false
set_option linter.unusedSimpArgs false
namespace Go.AM
open V (Le LeL)

/-- The text's order serves every order. -/
def drawB (ops : Array Oper) : Bool :=
  (List.range ops.size).all fun j => match ops[j]? with
    | some oj => oj.after.all (fun e => !Region.binds .any e || decide (e.on < j)) && (List.range j).all fun i => match ops[i]? with
        | some oi => oj.after.any (fun e => Region.binds .any e && e.on == i) || (oi.apart ops oj && commB oi.op oj.op)
        | none => true
    | none => true

theorem drawB_lt {ops : Array Oper} (h : drawB ops = true) {j : Nat} {oj : Oper} (hj : ops[j]? = some oj) : ∀ e ∈ oj.after, Region.binds .any e = true → e.on < j := by
  have h1 := List.all_eq_true.1 h j (List.mem_range.2 (Array.getElem?_eq_some_iff.1 hj).1)
  simp only [hj, Bool.and_eq_true] at h1
  intro e he hb
  have := (Array.all_eq_true'.1 h1.1) e he
  simpa [hb] using this
theorem drawB_comm {ops : Array Oper} (h : drawB ops = true) {i j : Nat} {oi oj : Oper} (hi : ops[i]? = some oi) (hj : ops[j]? = some oj) (hij : i < j) (hno : ∀ e ∈ oj.after, Region.binds .any e = true → e.on ≠ i) :
    oi.apart ops oj = true ∧ commB oi.op oj.op = true := by
  have h1 := List.all_eq_true.1 h j (List.mem_range.2 (Array.getElem?_eq_some_iff.1 hj).1)
  simp only [hj, Bool.and_eq_true] at h1
  have h2 := List.all_eq_true.1 h1.2 i (List.mem_range.2 hij)
  simp only [hi, Bool.or_eq_true, Bool.and_eq_true] at h2
  rcases h2 with h2 | h2
  · obtain ⟨e, he, h3⟩ := (Array.any_eq_true').1 h2
    simp only [Bool.and_eq_true, beq_iff_eq] at h3
    exact absurd h3.2 (hno e he h3.1)
  · exact h2

def unlisted (ops : Array Oper) (listed : Array Bool) : List Nat := (List.range ops.size).filter fun i => !listed.getD i true
theorem unlisted_sorted (ops : Array Oper) (listed : Array Bool) : (unlisted ops listed).Pairwise (· < ·) := List.Pairwise.filter _ List.pairwise_lt_range
theorem mem_unlisted {ops : Array Oper} {listed : Array Bool} {i : Nat} : i ∈ unlisted ops listed ↔ i < ops.size ∧ listed.getD i true = false := by
  simp [unlisted]
theorem unlisted_set {ops : Array Oper} {listed : Array Bool} {j : Nat} {l1 l2 : List Nat} (h : unlisted ops listed = l1 ++ j :: l2) (hsz : listed.size = ops.size) :
    unlisted ops (listed.setIfInBounds j true) = l1 ++ l2 := by
  have hs := unlisted_sorted ops listed
  have hj : j ∈ unlisted ops listed := by rw [h]; simp
  have e1 : unlisted ops (listed.setIfInBounds j true) = (unlisted ops listed).filter fun i => i != j := by
    unfold unlisted
    rw [List.filter_filter]
    apply List.filter_congr
    intro i hi
    by_cases hij : j = i
    · subst hij
      have hlt : j < listed.size := by rw [hsz]; exact (mem_unlisted.1 hj).1
      simp [Array.getD_eq_getD_getElem?, hlt]
    · have hij' : i ≠ j := fun e => hij e.symm
      simp [Array.getD_eq_getD_getElem?, Array.getElem?_setIfInBounds_ne hij, hij']
  rw [e1, h]
  rw [h, List.pairwise_append] at hs
  obtain ⟨_, hs2, hs3⟩ := hs
  rw [List.pairwise_cons] at hs2
  rw [List.filter_append, List.filter_cons_of_neg (by simp)]
  congr 1
  · rw [List.filter_eq_self]; intro x hx; have := hs3 x hx j (by simp); simp; omega
  · rw [List.filter_eq_self]; intro x hx; have := hs2.1 x hx; simp; omega

section
variable {P : Program} {w0 : World} {O M : Nat → Prop}

theorem any_sound {ops : Array Oper} (hB : drawB ops = true) {Q : Exit → Act → World → Prop} {K : St → Prop} (hQ : ∀ s' loc' a' w', K s' → a'.defers = [] → SimAt w0 O M s'.heap loc' s'.slots a'.tmps.toList w' → Q .normal a' w') :
    ∀ (n : Nat) (listed : Array Bool) (s : St) (loc : Nat → Value) (a : Act) (w : World), listed.size = ops.size → (unlisted ops listed).length = n → chain P ops ((unlisted ops listed).map fun i => ops.getD i default) s K → a.defers = [] →
      SimAt w0 O M s.heap loc s.slots a.tmps.toList w → wpAny P .any ops Q n listed a w
  | 0, listed, s, loc, a, w, hsz, hn, hc, hd, S => by
    have e : unlisted ops listed = [] := List.eq_nil_of_length_eq_zero hn
    rw [e] at hc
    refine ⟨?_, hQ s loc a w hc hd S⟩
    apply List.eq_nil_iff_forall_not_mem.2
    intro j hj
    obtain ⟨h1, o, h2, _⟩ := mem_ready.1 hj
    have : j ∈ unlisted ops listed := mem_unlisted.2 ⟨(Array.getElem?_eq_some_iff.1 h2).1, h1⟩
    rw [e] at this; cases this
  | n + 1, listed, s, loc, a, w, hsz, hn, hc, hd, S => by
    refine ⟨fun h0 => ?_, fun j hj => ?_⟩
    · -- the first that is left is ready
      exfalso
      obtain ⟨i, l, hl⟩ : ∃ i l, unlisted ops listed = i :: l := by
        cases hq : unlisted ops listed with
        | nil => rw [hq] at hn; cases hn
        | cons i l => exact ⟨i, l, rfl⟩
      have hi : i ∈ unlisted ops listed := by rw [hl]; simp
      obtain ⟨h1, h2⟩ := mem_unlisted.1 hi
      have hs := unlisted_sorted ops listed
      rw [hl, List.pairwise_cons] at hs
      have : i ∈ Region.ready .any ops listed := mem_ready.2 ⟨h2, ops[i], by simp [h1], fun e he hb => by
        have hlt := drawB_lt hB (j := i) (oj := ops[i]) (by simp [h1]) e he hb
        have hnot : e.on ∉ unlisted ops listed := by
          rw [hl]; intro hm
          rcases List.mem_cons.1 hm with hm | hm
          · omega
          · have := hs.1 _ hm; omega
        have h3 : ¬ (e.on < ops.size ∧ listed.getD e.on true = false) := fun hh => hnot (mem_unlisted.2 hh)
        have h4 : e.on < ops.size := by omega
        have h5 : listed.getD e.on true = true := by
          cases hq : listed.getD e.on true with
          | true => rfl
          | false => exact absurd ⟨h4, hq⟩ h3
        have h6 : e.on < listed.size := by omega
        simpa [Array.getD_eq_getD_getElem?, h6] using h5⟩
      rw [h0] at this; cases this
    · obtain ⟨h1, oj, h2, h3⟩ := mem_ready.1 hj
      have hm : j ∈ unlisted ops listed := mem_unlisted.2 ⟨(Array.getElem?_eq_some_iff.1 h2).1, h1⟩
      obtain ⟨l1, l2, hl⟩ := List.append_of_mem hm
      have hs := unlisted_sorted ops listed
      rw [hl, List.pairwise_append] at hs
      have hgj : ops.getD j default = oj := by simp [Array.getD_eq_getD_getElem?, h2]
      rw [hl, List.map_append, List.map_cons, hgj] at hc
      have hf := chain_front (y := oj) (l1 := l1.map fun i => ops.getD i default) (fun x hx => by
        obtain ⟨i, hi, rfl⟩ := List.mem_map.1 hx
        have hij : i < j := hs.2.2 i hi j (by simp)
        have hiu : i ∈ unlisted ops listed := by rw [hl]; simp [hi]
        obtain ⟨g1, g2⟩ := mem_unlisted.1 hiu
        have hgi : ops[i]? = some (ops.getD i default) := by simp [Array.getD_eq_getD_getElem?, g1]
        refine drawB_comm hB hgi h2 hij fun e he hb heq => ?_
        have := h3 e he hb
        rw [heq] at this
        have hlt : i < listed.size := by omega
        simp [Array.getD_eq_getD_getElem?, hlt] at this g2
        rw [this] at g2; cases g2) hc
      rw [← List.map_append] at hf
      obtain ⟨v, H', hY, hrest⟩ := hf
      have hset := unlisted_set hl hsz
      refine Yv_sound h2 hY S hd fun loc' a' w' hd' S' => ?_
      refine any_sound hB hQ n _ _ loc' a' w' (by simpa using hsz) ?_ (by rw [hset]; exact hrest) hd' S'
      rw [hset]
      have := congrArg List.length hl
      simp at this ⊢
      omega

theorem Runs.drawn {f : FuncId} {post : V → Heap → Prop} {k : List Item} {s : St} {id : Nat} {l : List Oper} (hm : P.follows .mixedOrders = true) (hB : drawB l.toArray = true) (h : evalD P l.toArray l s (Runs P f post k)) :
    Runs P f post (.code (.region id l.toArray true) :: k) s :=
  Runs.of_wp fun w0 O M loc a w hd S => by
    refine wp_region_any hm ?_
    have hu : unlisted l.toArray (Array.replicate l.toArray.size false) = List.range l.toArray.size := by
      unfold unlisted
      rw [List.filter_eq_self]
      intro i hi
      have : i < l.length := by simpa using hi
      simp [Array.getD_eq_getD_getElem?, this]
    have hmap : (List.range l.toArray.size).map (fun i => l.toArray.getD i default) = l := by
      apply List.ext_getElem
      · simp
      · intro i h1 h2
        simp [Array.getD_eq_getD_getElem?, h2]
    have := any_sound (P := P) (w0 := w0) (O := O) (M := M) hB (Q := fun e a' w' => e = .normal ∧ ∃ s' loc', Runs P f post k s' ∧ a'.defers = [] ∧ SimAt w0 O M s'.heap loc' s'.slots a'.tmps.toList w') (K := Runs P f post k)
      (fun s' loc' a' w' hR hd' S' => ⟨rfl, s', loc', hR, hd', S'⟩) l.toArray.size (Array.replicate l.toArray.size false) s loc a { w with drawn := w.drawn + 1 } (by simp) (by rw [hu]; simp) (by rw [hu, hmap]; exact chain_of_evalD h) hd
      (S.grows (Grows.drew w))
    exact this
end
end Go.AM
