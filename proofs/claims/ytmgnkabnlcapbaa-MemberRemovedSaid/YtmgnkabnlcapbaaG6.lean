/- Contracts of functions and plain laws: W96, W76, W77, W98, W78, W99, W74, W106. -/
import Derived.Test.YtmgnkabnlcapbaaRows
import Derived.Test.YtmgnkabnlcapbaaG5
set_option linter.unusedVariables false
set_option linter.unusedSimpArgs false
set_option maxRecDepth 8000
set_option maxHeartbeats 4000000
set_option pp.deepTerms false
set_option pp.deepTerms.threshold 6
namespace Go.Proofs
open Go.AM
attribute [local irreducible] AM.evalR AM.evalD AM.Runs AM.valK AM.dK AM.opK AM.stepR AM.CallS AM.St.Le
def Srv (x : Int) : Prop := 1 ≤ x ∧ x ≤ 12
def WOK (w : WeightEntry) : Prop := Srv w.server ∧ (1 ≤ w.weight ∧ w.weight ≤ 9) ∧ 0 ≤ w.version ∧ 0 ≤ w.admin ∧ 0 ≤ w.number
structure SumOK (s : Summary) : Prop where
  sort : SortedS s
  j : ∀ x ∈ s.joined, Srv x
  r : ∀ x ∈ s.removed, Srv x
  w : ∀ w ∈ s.weights, WOK w
  o : 0 ≤ s.version ∧ 0 ≤ s.admin ∧ 0 ≤ s.number
  ru : s.rule = ⟨0, 0, 0⟩ ∧ (s.version = 0 ∧ s.admin = 0 ∧ s.number = 0) ∨ s.rule ≠ ⟨0, 0, 0⟩ ∧ RuleOK s.rule
theorem ruleE_of {r : Rule} (h : RuleOK r) : ruleE r = 0 := by
  obtain ⟨h1, h2, h3, h4, h5⟩ := h
  unfold ruleE
  rw [if_neg zo, if_neg zo, if_neg zo]
theorem rule_ne {r : Rule} (h : RuleOK r) : r ≠ ⟨0, 0, 0⟩ := by
  rintro rfl
  have := h.1
  dsimp only at this; omega
theorem ascR_strict : ∀ {l : List Int}, ascR l = true → StrictI l
  | [], _ => List.Pairwise.nil
  | [x], _ => List.pairwise_singleton _ _
  | x :: y :: l, h => by
    rw [ascR, Bool.and_eq_true, decide_eq_true_eq] at h
    have ih := ascR_strict h.2
    refine List.pairwise_cons.2 ⟨fun z hz => ?_, ih⟩
    rcases List.mem_cons.1 hz with rfl | hz
    · exact h.1
    · have := (List.pairwise_cons.1 ih).1 z hz; omega
theorem weiE_ok {l : List WeightEntry} : ∀ (n i : Nat), weiE l i n = 0 → ∀ j, i ≤ j → j < i + n → WOK (l.getD j default) ∧ (0 < j → (l.getD (j - 1) default).server < (l.getD j default).server)
  | 0, i, _, j, h1, h2 => by omega
  | n + 1, i, h, j, h1, h2 => by
    rw [weiE] at h
    split at h
    · contradiction
    rename_i a
    split at h
    · contradiction
    by_cases e : j = i
    · subst e
      simp only [srvB, negB, decide_eq_false_iff_not, decide_eq_true_eq] at a
      exact ⟨⟨by unfold Srv; omega, by omega, by omega, by omega, by omega⟩, by omega⟩
    · exact weiE_ok n (i + 1) h j zo zo
theorem weiE_of {l : List WeightEntry} (h : ∀ j, j < l.length → WOK (l.getD j default) ∧ (0 < j → (l.getD (j - 1) default).server < (l.getD j default).server)) : ∀ (n i : Nat), i + n ≤ l.length → weiE l i n = 0
  | 0, _, _ => rfl
  | n + 1, i, hn => by
    obtain ⟨⟨h1, h2, h3, h4, h5⟩, h6⟩ := h i zo
    unfold Srv at h1
    rw [weiE, if_neg (by simp only [srvB, negB, decide_eq_false_iff_not, decide_eq_true_eq]; omega), if_neg zo]
    exact weiE_of h n (i + 1) zo
theorem adjW_pairwise {l : List WeightEntry} (h : ∀ j, 0 < j → j < l.length → (l.getD (j - 1) default).server < (l.getD j default).server) : StrictW l := by
  have key : ∀ i j, i < j → j < l.length → (l.getD i default).server < (l.getD j default).server := by
    intro i j hij hj
    induction j with
    | zero => omega
    | succ j ih =>
      have h1 := h (j + 1) zo hj
      rw [Nat.add_sub_cancel] at h1
      by_cases e : i = j
      · subst e; exact h1
      · have h2 := ih zo zo; omega
  rw [StrictW, List.pairwise_iff_getElem]
  intro i j hi hj hij
  have := key i j hij hj
  rw [List.getD_eq_getElem?_getD, List.getD_eq_getElem?_getD, List.getElem?_eq_getElem hj, List.getElem?_eq_getElem hi] at this
  exact this
theorem sumE_ok {s : Summary} (h : sumE s = 0) : SumOK s := by
  unfold sumE at h
  split at h
  · contradiction
  rename_i a1
  split at h
  · contradiction
  rename_i a2
  split at h
  · contradiction
  rename_i a3
  split at h
  · exact absurd h zo
  rename_i a4
  split at h
  · contradiction
  rename_i a5
  have hs : ∀ x ∈ s.joined ++ s.removed, Srv x := by
    rw [Bool.not_eq_false, List.all_eq_true] at a1
    intro x hx
    have := a1 x hx
    simpa [srvB, Srv] using this
  have hw := weiE_ok _ _ (show weiE s.weights 0 s.weights.length = 0 by omega)
  have hn : negB s.version s.admin s.number = false := by
    cases hx : negB s.version s.admin s.number
    · rfl
    · exact absurd (.inl hx) a5
  have hn2 : 0 ≤ s.version ∧ 0 ≤ s.admin ∧ 0 ≤ s.number := by
    simp only [negB, decide_eq_false_iff_not] at hn; omega
  refine ⟨⟨ascR_strict ?_, ascR_strict ?_, adjW_pairwise fun j h0 hj => (hw j zo zo).2 h0⟩, fun x hx => hs x (by simp [hx]), fun x hx => hs x (by simp [hx]), fun w hw2 => ?_, hn2, ?_⟩
  · cases hx : ascR s.joined
    · exact absurd (.inl hx) a2
    · rfl
  · cases hx : ascR s.removed
    · exact absurd (.inr hx) a2
    · rfl
  · obtain ⟨i, hi, rfl⟩ := List.mem_iff_getElem.1 hw2
    have := (hw i zo zo).1
    rw [List.getD_eq_getElem?_getD, List.getElem?_eq_getElem hi] at this
    exact this
  · by_cases e : s.rule = ⟨0, 0, 0⟩
    · refine .inl ⟨e, ?_⟩
      by_cases q : s.version = 0 ∧ s.admin = 0 ∧ s.number = 0
      · exact q
      · exact absurd (.inr ⟨e, by omega⟩) a5
    · refine .inr ⟨e, ruleE_ok ?_⟩
      by_cases q : ruleE s.rule = 0
      · exact q
      · exact absurd ⟨e, q⟩ a4
theorem sumE_of {s : Summary} (h : SumOK s) : sumE s = 0 := by
  obtain ⟨⟨s1, s2, s3⟩, hj, hr, hw, ho, hru⟩ := h
  have hall : (s.joined ++ s.removed).all srvB = true := by
    rw [List.all_eq_true]
    intro x hx
    rcases List.mem_append.1 hx with hx | hx
    · have := hj x hx; simpa [srvB, Srv] using this
    · have := hr x hx; simpa [srvB, Srv] using this
  have hwe : weiE s.weights 0 s.weights.length = 0 := by
    refine weiE_of (fun j hj => ⟨hw _ (getD_in hj), fun h0 => ?_⟩) _ _ zo
    exact strictW_getD s3 zo hj
  unfold sumE
  rw [if_neg (by rw [hall]; decide), if_neg (by rw [ascR_of s1, ascR_of s2]; decide), if_neg zo]
  have hn : negB s.version s.admin s.number = false := by simp only [negB, decide_eq_false_iff_not]; omega
  rcases hru with ⟨e, h0⟩ | ⟨e, h0⟩
  · rw [if_neg (fun q => q.1 e), if_neg (fun q => q.elim (fun a => by rw [hn] at a; cases a) (fun a => by have := a.2; omega))]
  · rw [if_neg (fun q => q.2 (ruleE_of h0)), if_neg (fun q => q.elim (fun a => by rw [hn] at a; cases a) (fun a => e a.1))]
theorem mem_weighFold : ∀ (b : List WeightEntry) {a : List WeightEntry} (x : WeightEntry), StrictW a → x ∈ b.foldl weighR a → x ∈ a ∨ x ∈ b
  | [], a, x, _, h => .inl h
  | w :: b, a, x, ha, h => by
    rw [List.foldl_cons, weighR_rec ha] at h
    rcases mem_weighFold b x (weighRec_strict w ha) h with h | h
    · rcases mem_weighRec w x a h with h | h
      · exact .inl h
      · exact .inr (by simp [h])
    · exact .inr (by simp [h])
theorem join_ok {a b : Summary} (ha : SumOK a) (hb : SumOK b) : SumOK (joinT a b) := by
  have hp : pickT a b = b ∨ pickT a b = a := by unfold pickT; split <;> simp
  have hpk : (0 ≤ (pickT a b).version ∧ 0 ≤ (pickT a b).admin ∧ 0 ≤ (pickT a b).number) ∧ ((pickT a b).rule = ⟨0, 0, 0⟩ ∧ ((pickT a b).version = 0 ∧ (pickT a b).admin = 0 ∧ (pickT a b).number = 0) ∨ (pickT a b).rule ≠ ⟨0, 0, 0⟩ ∧ RuleOK (pickT a b).rule) := by
    rcases hp with e | e
    · rw [e]; exact ⟨hb.o, hb.ru⟩
    · rw [e]; exact ⟨ha.o, ha.ru⟩
  refine ⟨(joinS_T ha.sort b).2, ?_, ?_, ?_, hpk.1, hpk.2⟩
  · intro x hx
    rcases (mem_foldl mem_insR b.joined a.joined x).1 hx with h | h
    · exact ha.j x h
    · exact hb.j x h
  · intro x hx
    rcases (mem_foldl mem_insR b.removed a.removed x).1 hx with h | h
    · exact ha.r x h
    · exact hb.r x h
  · intro w hw
    rcases mem_weighFold b.weights w ha.sort.2.2 hw with h | h
    · exact ha.w w h
    · exact hb.w w h
theorem sum0_ok : SumOK sum0 := ⟨⟨List.Pairwise.nil, List.Pairwise.nil, List.Pairwise.nil⟩, by simp [sum0], by simp [sum0], by simp [sum0], by simp [sum0], .inl ⟨rfl, rfl, rfl, rfl⟩⟩
theorem insR_ok {l : List Int} {n : Int} (hl : StrictI l) (h : ∀ x ∈ l, Srv x) (hn : Srv n) : StrictI (insR l n) ∧ ∀ x ∈ insR l n, Srv x := by
  refine ⟨by rw [insR_rec hl]; exact insRec_strict n hl, fun x hx => ?_⟩
  rcases (mem_insR l n x).1 hx with hx | rfl
  · exact h x hx
  · exact hn
theorem weighR_ok {l : List WeightEntry} {n : WeightEntry} (hl : StrictW l) (h : ∀ x ∈ l, WOK x) (hn : WOK n) : StrictW (weighR l n) ∧ ∀ x ∈ weighR l n, WOK x := by
  rw [weighR_rec hl]
  refine ⟨weighRec_strict n hl, fun x hx => ?_⟩
  rcases mem_weighRec n x l hx with hx | rfl
  · exact h x hx
  · exact hn
theorem ofStep_ok {p : Proposal} (ha : 0 ≤ p.admin) (hn : 0 ≤ p.number) {c : Change} (hc : ChangeOK c) {s : Summary} (hs : SumOK s) : SumOK (ofTStep p s c) := by
  obtain ⟨⟨s1, s2, s3⟩, hj, hr, hw, ho, hru⟩ := hs
  unfold ofTStep
  rcases hc with ⟨h1, h2, h3, h4, h5⟩ | ⟨h1, h2, h3, h4, h5⟩ | ⟨h1, h2, h3, h4, h5⟩ | ⟨h1, h2, h3, h4, h5⟩
  · rw [if_pos h1]
    have i1 := insR_ok s1 hj (n := c.server) h2
    have i2 := weighR_ok s3 hw (n := ⟨c.server, c.weight, 0, p.admin, p.number⟩) ⟨h2, h3, Int.le_refl _, ha, hn⟩
    exact ⟨⟨i1.1, s2, i2.1⟩, i1.2, hr, i2.2, ho, hru⟩
  · rw [if_neg zo, if_pos h1]
    have i1 := insR_ok s2 hr (n := c.server) h2
    exact ⟨⟨s1, i1.1, s3⟩, hj, i1.2, hw, ho, hru⟩
  · rw [if_neg zo, if_neg zo, if_pos h1]
    have i2 := weighR_ok s3 hw (n := ⟨c.server, c.weight, c.version, p.admin, p.number⟩) ⟨h2, h3, by dsimp only; omega, ha, hn⟩
    exact ⟨⟨s1, s2, i2.1⟩, hj, hr, i2.2, ho, hru⟩
  · rw [if_neg zo, if_neg zo, if_neg zo, if_pos h1]
    exact ⟨⟨s1, s2, s3⟩, hj, hr, hw, ⟨by dsimp only; omega, ha, hn⟩, .inr ⟨rule_ne h5, h5⟩⟩
theorem ofT_ok {p : Proposal} (h : PropOK p) : SumOK (ofT p) := by
  have gen : ∀ (cs : List Change) (s : Summary), (∀ c ∈ cs, ChangeOK c) → SumOK s → SumOK (cs.foldl (ofTStep p) s) := by
    intro cs
    induction cs with
    | nil => intro s _ h; exact h
    | cons c cs ih => intro s h1 h2; exact ih _ (fun d hd => h1 d (by simp [hd])) (ofStep_ok (by have := h.1; omega) (by have := h.2.1; omega) (h1 c (by simp)) h2)
  exact gen p.changes sum0 h.2.2.2.1 sum0_ok
theorem memE_of {l : List Member} (h : ∀ j, j < l.length → ((1 ≤ (l.getD j default).server ∧ (l.getD j default).server ≤ 12) ∧ 1 ≤ (l.getD j default).weight ∧ (l.getD j default).weight ≤ 9) ∧ (0 < j → (l.getD (j - 1) default).server < (l.getD j default).server)) : ∀ (n i : Nat), i + n ≤ l.length → memE l i n = 0
  | 0, _, _ => rfl
  | n + 1, i, hn => by
    obtain ⟨⟨h1, h2, h3⟩, h6⟩ := h i zo
    rw [memE, if_neg zo, if_neg zo]
    exact memE_of h n (i + 1) zo
theorem viewE_of {v : View} (h1 : RuleOK v.rule) (h2 : MemOK v) : viewE v = 0 := by
  have := ruleE_of h1
  unfold viewE
  rw [if_neg zo]
  refine memE_of (fun j hj => ⟨h2.1 _ (getD_in hj), fun h0 => ?_⟩) _ _ zo
  have := (List.pairwise_iff_getElem.1 h2.2) (j - 1) j zo hj zo
  rw [List.getD_eq_getElem?_getD, List.getD_eq_getElem?_getD, List.getElem?_eq_getElem hj, List.getElem?_eq_getElem (show j - 1 < v.members.length by omega)]
  exact this
theorem weightR_ok {W : List WeightEntry} (h : ∀ w ∈ W, WOK w) (x : Int) : 1 ≤ weightR W x ∧ weightR W x ≤ 9 := by
  induction W with
  | nil => rw [weightR]; omega
  | cons w W ih =>
    rw [weightR]
    split
    · exact (h w (by simp)).2.1
    · exact ih (fun w hw => h w (by simp [hw]))
theorem viewT_mem {s : Summary} (h : SumOK s) : MemOK (viewT s) := by
  constructor
  · intro m hm
    obtain ⟨x, hx, rfl⟩ := List.mem_map.1 (show m ∈ List.map _ _ from hm)
    exact ⟨h.j x (List.mem_filter.1 hx).1, weightR_ok h.w x⟩
  · show (List.map _ _).Pairwise _
    rw [List.pairwise_map]
    exact List.Pairwise.filter _ h.sort.1
theorem viewT_ok {s : Summary} (h : SumOK s) : viewE (viewT s) = 0 := by
  refine viewE_of ?_ (viewT_mem h)
  show RuleOK (viewRule s.rule)
  unfold viewRule
  rcases h.ru with ⟨e, _⟩ | ⟨e, h0⟩
  · rw [if_pos e]; simp [RuleOK]
  · rw [if_neg e]; exact h0
end Go.Proofs
namespace Go.Proofs
open Go.AM
attribute [local irreducible] AM.evalR AM.evalD AM.Runs AM.valK AM.dK AM.opK AM.stepR AM.CallS AM.St.Le
def dupB (d c : Change) : Bool := decide (d.kind = c.kind ∧ d.server = c.server)
def chsE : List Change → List Change → Int
  | _, [] => 0
  | pre, c :: cs => if changeE c ≠ 0 then changeE c else if pre.any (dupB · c) = true then 5 else chsE (pre ++ [c]) cs
def propE (p : Proposal) : Int := if ¬ (201 ≤ p.admin ∧ p.admin < 204) ∨ p.number < 1 ∨ 3 < p.number then 9 else if p.changes.length = 0 then 2 else if 6 < p.changes.length then 3 else chsE [] p.changes
theorem chsE_drop {l : List Change} {i : Nat} (h : i < l.length) : chsE (l.take i) (l.drop i) = if changeE (l.getD i default) ≠ 0 then changeE (l.getD i default) else if (l.take i).any (dupB · (l.getD i default)) = true then 5 else chsE (l.take (i + 1)) (l.drop (i + 1)) := by
  rw [drop_getD h, chsE, take_getD h]
theorem any_take {α : Type} [Inhabited α] {g : α → Bool} {l : List α} {k : Nat} (h : k < l.length) : (l.take (k + 1)).any g = ((l.take k).any g || g (l.getD k default)) := by
  rw [take_getD h, List.any_append]; simp
theorem take_take_le {α : Type} {l : List α} {k i : Nat} (h : k ≤ i) : (l.take i).take k = l.take k := by rw [List.take_take, Nat.min_eq_left h]
theorem vax_Prop (p : Proposal) : AM.Fn Try.prog 22 [prV p] (.i (propE p)) := by
  obtain ⟨ad, nu, cs⟩ := p
  have hgo : ∀ e, propE ⟨ad, nu, cs⟩ = e → AM.Fn Try.prog 22 [prV ⟨ad, nu, cs⟩] (.i e) := by
    intro e he
    unfold propE at he
    dsimp only at he
    (refine spec_of_runs Try.func22 rfl ?_; simp only [Try.f22]; refine ys ?_)
    repeat' (first | refine yw ?_ | ((with_reducible refine Runs.is ?_); first | refine Runs.region (id := 0) ?_ | refine Runs.region (id := 1) ?_ | refine Runs.region (id := 2) ?_ | refine Runs.region (id := 3) ?_ | refine Runs.region (id := 4) ?_ | refine Runs.region (id := 5) ?_ | refine Runs.region (id := 6) ?_ | refine Runs.region (id := 7) ?_ | ((with_reducible refine Runs.isC ?_); refine Runs.cond rfl (zc ?_) (zc ?_) <;> intro hc <;> (try (first | contradiction | (exfalso; omega; done) | (have : hc = trivial := rfl; clear this; clear hc))))) | ((with_reducible refine r_is ?_); first | refine yr ?_ | (refine r_fn rfl (val_Admin _) HbF.h zL1 zD ?_; refine r_nn zN zH ?_) | ((with_reducible refine r_gd ?_); (first | refine r_guardPf rfl rfl ?_ ?_ | refine r_guardNf rfl rfl ?_ ?_ | refine r_guard rfl rfl ?_ ?_) <;> intro hG <;> (try (exfalso; omega; done)) <;> refine r_nn zN zH ?_)) | fail)
    all_goals first
      | (rw [if_pos zo] at he; subst he; (refine Runs.ret1 Try.func22 rfl zM zD ?_; try exact zX); done)
      | (rw [if_neg zo, if_pos zo] at he; subst he; (refine Runs.ret1 Try.func22 rfl zM zD ?_; try exact zX); done)
      | (rw [if_neg zo, if_neg zo, if_pos zo] at he; subst he; (refine Runs.ret1 Try.func22 rfl zM zD ?_; try exact zX); done)
      | skip
    rw [if_neg zo, if_neg zo, if_neg zo] at he
    have hl6 : cs.length ≤ 6 := by omega
    refine Runs.weaken (St.Le.clean (s' := ⟨[.any, .ptr 1 0 0, .any, .i ((0 : Nat) : Int), .any, .any, .any, .any, .any, .any, .any, .any, .any, .any, .any, .any, .any, .any, .any, .any, .any, .any, .any, .any, .any, .any, .any, .any, .any, .any, .any, .any, .any, .any, .any, .any, .any, .any, .any, .any, .any, .any, .any, .any, .any, .any, .any, .any, .any, .any, .any, .any, .any, .any, .any, .any, .any, .any, .any, .any, .any, .any, .any, .any, .any, .any, .any, .any, .any, .any, .any, .any, .any, .any, .any, .any, .any, .any, .any, .any], [(1, .var 41 (prV ⟨ad, nu, cs⟩))]⟩) zR zU zV) ?_
    refine Runs.loopI (fun i : Nat => cs.length - i) (fun i => i ≤ cs.length ∧ chsE (cs.take i) (cs.drop i) = e)
      (fun i => ⟨[.any, .ptr 1 0 0, .any, .i (i : Nat), .any, .any, .any, .any, .any, .any, .any, .any, .any, .any, .any, .any, .any, .any, .any, .any, .any, .any, .any, .any, .any, .any, .any, .any, .any, .any, .any, .any, .any, .any, .any, .any, .any, .any, .any, .any, .any, .any, .any, .any, .any, .any, .any, .any, .any, .any, .any, .any, .any, .any, .any, .any, .any, .any, .any, .any, .any, .any, .any, .any, .any, .any, .any, .any, .any, .any, .any, .any, .any, .any, .any, .any, .any, .any, .any, .any], [(1, .var 41 (prV ⟨ad, nu, cs⟩))]⟩) 0 (by simpa using he) ?_ ?_
    · (refine St.Le.clean zR zU zV)
    rintro i ⟨hi, he2⟩ ih
    by_cases hlt : i < cs.length
    · have hC := vax_Change (cs.getD i default)
      rw [chsE_drop hlt] at he2
      repeat' (first | refine yw ?_ | ((with_reducible refine Runs.is ?_); first | refine Runs.region (id := 8) ?_ | refine Runs.region (id := 10) ?_ | refine Runs.region (id := 11) ?_ | refine Runs.region (id := 12) ?_ | refine Runs.region (id := 13) ?_ | refine Runs.region (id := 9) ?_ | ((with_reducible refine Runs.isC ?_); refine Runs.cond rfl (zc ?_) (zc ?_) <;> intro hc <;> (try (first | contradiction | (exfalso; omega; done) | (have : hc = trivial := rfl; clear this; clear hc))))) | ((with_reducible refine r_is ?_); first | refine yr ?_ | (refine r_fn rfl (hC) HbF.h zL1 zD ?_; refine r_nn zN zH ?_)) | fail)
      · rw [if_pos (by assumption)] at he2
        subst he2
        (refine Runs.ret1 Try.func22 rfl zM zD ?_; try exact zX)
      rw [if_neg zo] at he2
      refine Runs.loopI (fun k : Nat => i - k) (fun k => k ≤ i ∧ (cs.take k).any (dupB · (cs.getD i default)) = false)
        (fun k => ⟨[.any, .ptr 1 0 0, .any, .i (i : Nat), .any, .i (k : Nat), .any, .any, .any, .any, .any, .any, .any, .any, .any, .any, .any, .any, .any, .any, .any, .any, .any, .any, .any, .any, .any, .any, .any, .any, .any, .any, .any, .any, .any, .any, .any, .any, .any, .any, .any, .any, .any, .any, .any, .any, .any, .any, .any, .any, .any, .any, .any, .any, .any, .any, .any, .any, .any, .any, .any, .any, .any, .any, .any, .any, .any, .any, .any, .any, .any, .any, .any, .any, .any, .any, .any, .any, .any, .any], [(1, .var 41 (prV ⟨ad, nu, cs⟩))]⟩) 0 (by simp) ?_ ?_
      · (refine St.Le.clean zR zU zV)
      rintro k ⟨hk, hn⟩ ihk
      by_cases hkt : k < i
      · have hst := any_take (g := (dupB · (cs.getD i default))) (show k < cs.length by omega)
        rw [hn, Bool.false_or] at hst
        have hin : cs.getD k default ∈ cs.take i := by
          rw [← List.take_append_drop k (cs.take i), take_take_le zo]
          refine List.mem_append.2 (.inr ?_)
          rw [drop_getD (show k < (cs.take i).length by rw [List.length_take]; omega)]
          have : (cs.take i).getD k default = cs.getD k default := by rw [List.getD_eq_getElem?_getD, List.getD_eq_getElem?_getD, List.getElem?_take_of_lt hkt]
          rw [this]; exact List.mem_cons_self
        repeat' (first | refine yw ?_ | ((with_reducible refine Runs.is ?_); first | refine Runs.region (id := 14) ?_ | refine Runs.drawn (id := 16) mixed zK ?_ | refine Runs.region (id := 17) ?_ | refine Runs.region (id := 15) ?_ | ((with_reducible refine Runs.isC ?_); refine Runs.cond rfl (zc ?_) (zc ?_) <;> intro hc <;> (try (first | contradiction | (exfalso; omega; done) | (have : hc = trivial := rfl; clear this; clear hc))))) | ((with_reducible refine r_is ?_); first | refine yr ?_) | ((with_reducible refine d_is ?_); first | refine yd ?_ | ((with_reducible refine d_gd ?_); (first | refine d_guardPt rfl rfl ?_ ?_ | refine d_guardNt rfl rfl ?_ ?_ | refine d_guard rfl rfl ?_ ?_) <;> intro hG <;> (try (exfalso; omega; done)) <;> refine d_nn zN zH ?_)) | fail)
        all_goals first
          | (have hd : dupB (cs.getD k default) (cs.getD i default) = true := decide_eq_true ⟨by assumption, by assumption⟩
             rw [if_pos (List.any_eq_true.2 ⟨_, hin, hd⟩)] at he2
             subst he2
             (refine Runs.ret1 Try.func22 rfl zM zD ?_; try exact zX)
             done)
          | (refine ihk (k + 1) _ ⟨by omega, by rw [hst]; exact decide_eq_false (fun h => by first | exact absurd h.1 (by assumption) | exact absurd h.2 (by assumption))⟩ zo ?_; (refine St.Le.clean zR zU zV); done)
          | fail
      · repeat' (first | refine yw ?_ | ((with_reducible refine Runs.is ?_); first | refine Runs.region (id := 14) ?_ | ((with_reducible refine Runs.isC ?_); refine Runs.cond rfl (zc ?_) (zc ?_) <;> intro hc <;> (try (first | contradiction | (exfalso; omega; done) | (have : hc = trivial := rfl; clear this; clear hc))))) | ((with_reducible refine r_is ?_); first | refine yr ?_) | fail)
        repeat' (first | refine yw ?_ | ((with_reducible refine Runs.is ?_); first | refine Runs.region (id := 9) ?_ | ((with_reducible refine Runs.isC ?_); refine Runs.cond rfl (zc ?_) (zc ?_) <;> intro hc <;> (try (first | contradiction | (exfalso; omega; done) | (have : hc = trivial := rfl; clear this; clear hc))))) | ((with_reducible refine r_is ?_); first | refine yr ?_) | fail)
        obtain rfl : k = i := by omega
        rw [if_neg (by rw [hn]; decide)] at he2
        refine ih (k + 1) _ ⟨by omega, he2⟩ zo ?_
        (refine St.Le.clean zR zU zV)
    · repeat' (first | refine yw ?_ | ((with_reducible refine Runs.is ?_); first | refine Runs.region (id := 8) ?_ | ((with_reducible refine Runs.isC ?_); refine Runs.cond rfl (zc ?_) (zc ?_) <;> intro hc <;> (try (first | contradiction | (exfalso; omega; done) | (have : hc = trivial := rfl; clear this; clear hc))))) | ((with_reducible refine r_is ?_); first | refine yr ?_) | fail)
      rw [List.drop_of_length_le zo] at he2
      repeat' (first | refine yw ?_ | ((with_reducible refine Runs.is ?_); first | refine Runs.region (id := 18) ?_ | ((with_reducible refine Runs.isC ?_); refine Runs.cond rfl (zc ?_) (zc ?_) <;> intro hc <;> (try (first | contradiction | (exfalso; omega; done) | (have : hc = trivial := rfl; clear this; clear hc))))) | ((with_reducible refine r_is ?_); first | refine yr ?_) | fail)
      subst he2
      (refine Runs.ret1 Try.func22 rfl zM zD ?_; try exact zX)
  exact hgo _ rfl
def cfsE : Config → Nat → Nat → Int
  | _, _, 0 => 0
  | c, i, n + 1 => if propE (c.getD i default) ≠ 0 then propE (c.getD i default) else if 0 < i ∧ 0 ≤ cmpP (c.getD (i - 1) default) (c.getD i default) then 7
    else if 1 < (c.getD i default).number ∧ (i = 0 ∨ (c.getD (i - 1) default).admin ≠ (c.getD i default).admin ∨ (c.getD (i - 1) default).number ≠ (c.getD i default).number - 1) then 8 else cfsE c (i + 1) n
def confE (c : Config) : Int := cfsE c 0 c.length
theorem propE_num (p : Proposal) : propE p ≠ 0 ∨ (1 ≤ p.number ∧ p.number ≤ 3) := by
  unfold propE
  split
  · exact .inl zd
  · exact .inr zo
theorem vax_Conf (f : Bool) (c : Config) : AM.Fn Try.prog 31 [.sl f (c.map prV)] (.i (confE c)) := by
  have hgo : ∀ e, confE c = e → AM.Fn Try.prog 31 [.sl f (c.map prV)] (.i e) := by
    intro e he
    unfold confE at he
    (refine spec_of_runs Try.func31 rfl ?_; simp only [Try.f31]; refine ys ?_)
    (refine Runs.lens 0 ?_; refine yl ?_)
    intro hl
    repeat' (first | refine yw ?_ | ((with_reducible refine Runs.is ?_); first | refine Runs.region (id := 0) ?_ | refine Runs.region (id := 1) ?_ | ((with_reducible refine Runs.isC ?_); refine Runs.cond rfl (zc ?_) (zc ?_) <;> intro hc <;> (try (first | contradiction | (exfalso; omega; done) | (have : hc = trivial := rfl; clear this; clear hc))))) | ((with_reducible refine r_is ?_); first | refine yr ?_) | fail)
    refine Runs.loopI (fun i : Nat => c.length - i) (fun i => i ≤ c.length ∧ cfsE c i (c.length - i) = e)
      (fun i => ⟨[.sl f (c.map prV), .any, .any, .i (i : Nat), .any, .any, .any, .any, .any, .any, .any, .any, .any, .any, .any, .any, .any, .any, .any, .any, .any, .any, .any, .any, .any, .any, .any, .any, .any, .any, .any, .any, .any, .any, .any, .any, .any, .any, .any, .any, .any, .any, .any, .any, .any, .any, .any, .any, .any, .any, .any, .any, .any, .any, .any, .any, .any, .any, .any, .any, .any, .any, .any, .any, .any, .any, .any, .any, .any, .any, .any, .any, .any], []⟩) 0 (by simpa using he) ?_ ?_
    · (refine St.Le.clean zR zU zV)
    rintro i ⟨hi, he2⟩ ih
    by_cases hlt : i < c.length
    · have hP := vax_Prop (c.getD i default)
      have hnum := propE_num (c.getD i default)
      rw [show c.length - i = (c.length - (i + 1)) + 1 by omega, cfsE] at he2
      by_cases h0 : 0 < i
      · have e1 : ((i : Int) - 1).toNat = i - 1 := by omega
        rw [← e1] at he2
        repeat' (first | refine yw ?_ | ((with_reducible refine Runs.is ?_); first | refine Runs.region (id := 2) ?_ | refine Runs.region (id := 4) ?_ | refine Runs.region (id := 5) ?_ | refine Runs.region (id := 6) ?_ | refine Runs.drawn (id := 7) mixed zK ?_ | refine Runs.region (id := 8) ?_ | refine Runs.drawn (id := 9) mixed zK ?_ | refine Runs.region (id := 10) ?_ | refine Runs.region (id := 3) ?_ | ((with_reducible refine Runs.isC ?_); refine Runs.cond rfl (zc ?_) (zc ?_) <;> intro hc <;> (try (first | contradiction | (exfalso; omega; done) | (have : hc = trivial := rfl; clear this; clear hc))))) | ((with_reducible refine r_is ?_); first | refine yr ?_ | (refine r_fn rfl (hP) HbF.h zL1 zD ?_; refine r_nn zN zH ?_)) | ((with_reducible refine d_is ?_); first | refine yd ?_ | (refine d_fn rfl (ref_Compare _ _) HbF.h zL2 zD ?_; refine d_nn zN zH ?_) | ((with_reducible refine d_gd ?_); (first | refine d_guardPf rfl rfl ?_ ?_ | refine d_guardNf rfl rfl ?_ ?_ | refine d_guardPt rfl rfl ?_ ?_ | refine d_guardNt rfl rfl ?_ ?_ | refine d_guard rfl rfl ?_ ?_) <;> intro hG <;> (try (exfalso; omega; done)) <;> refine d_nn zN zH ?_)) | fail)
        all_goals first
          | (rw [if_pos (by assumption)] at he2; subst he2; (refine Runs.ret1 Try.func31 rfl zM zD ?_; try exact zX); done)
          | (rw [if_neg zo, if_pos zo] at he2; subst he2; (refine Runs.ret1 Try.func31 rfl zM zD ?_; try exact zX); done)
          | (rw [if_neg zo, if_neg zo, if_pos zo] at he2; subst he2; (refine Runs.ret1 Try.func31 rfl zM zD ?_; try exact zX); done)
          | (rw [if_neg zo, if_neg zo, if_neg zo] at he2
             refine ih (i + 1) _ ⟨by omega, he2⟩ zo ?_
             (refine St.Le.clean zR zU zV)
             done)
          | fail
      · obtain rfl : i = 0 := by omega
        repeat' (first | refine yw ?_ | ((with_reducible refine Runs.is ?_); first | refine Runs.region (id := 2) ?_ | refine Runs.region (id := 4) ?_ | refine Runs.region (id := 5) ?_ | refine Runs.region (id := 6) ?_ | refine Runs.drawn (id := 7) mixed zK ?_ | refine Runs.region (id := 8) ?_ | refine Runs.drawn (id := 9) mixed zK ?_ | refine Runs.region (id := 10) ?_ | refine Runs.region (id := 3) ?_ | ((with_reducible refine Runs.isC ?_); refine Runs.cond rfl (zc ?_) (zc ?_) <;> intro hc <;> (try (first | contradiction | (exfalso; omega; done) | (have : hc = trivial := rfl; clear this; clear hc))))) | ((with_reducible refine r_is ?_); first | refine yr ?_ | (refine r_fn rfl (hP) HbF.h zL1 zD ?_; refine r_nn zN zH ?_)) | ((with_reducible refine d_is ?_); first | refine yd ?_ | (refine d_fn rfl (ref_Compare _ _) HbF.h zL2 zD ?_; refine d_nn zN zH ?_) | ((with_reducible refine d_gd ?_); (first | refine d_guardPf rfl rfl ?_ ?_ | refine d_guardNf rfl rfl ?_ ?_ | refine d_guardPt rfl rfl ?_ ?_ | refine d_guardNt rfl rfl ?_ ?_ | refine d_guard rfl rfl ?_ ?_) <;> intro hG <;> (try (exfalso; omega; done)) <;> refine d_nn zN zH ?_)) | fail)
        all_goals first
          | (rw [if_pos (by assumption)] at he2; subst he2; (refine Runs.ret1 Try.func31 rfl zM zD ?_; try exact zX); done)
          | (rw [if_neg zo, if_pos zo] at he2; subst he2; (refine Runs.ret1 Try.func31 rfl zM zD ?_; try exact zX); done)
          | (rw [if_neg zo, if_neg zo, if_pos zo] at he2; subst he2; (refine Runs.ret1 Try.func31 rfl zM zD ?_; try exact zX); done)
          | (rw [if_neg zo, if_neg zo, if_neg zo] at he2
             refine ih (0 + 1) _ ⟨by omega, he2⟩ zo ?_
             (refine St.Le.clean zR zU zV)
             done)
          | fail
    · repeat' (first | refine yw ?_ | ((with_reducible refine Runs.is ?_); first | refine Runs.region (id := 2) ?_ | ((with_reducible refine Runs.isC ?_); refine Runs.cond rfl (zc ?_) (zc ?_) <;> intro hc <;> (try (first | contradiction | (exfalso; omega; done) | (have : hc = trivial := rfl; clear this; clear hc))))) | ((with_reducible refine r_is ?_); first | refine yr ?_) | fail)
      rw [show c.length - i = 0 by omega, cfsE] at he2
      repeat' (first | refine yw ?_ | ((with_reducible refine Runs.is ?_); first | refine Runs.region (id := 11) ?_ | ((with_reducible refine Runs.isC ?_); refine Runs.cond rfl (zc ?_) (zc ?_) <;> intro hc <;> (try (first | contradiction | (exfalso; omega; done) | (have : hc = trivial := rfl; clear this; clear hc))))) | ((with_reducible refine r_is ?_); first | refine yr ?_) | fail)
      subst he2
      (refine Runs.ret1 Try.func31 rfl zM zD ?_; try exact zX)
  exact hgo _ rfl
end Go.Proofs
namespace Go.Proofs
open Go.AM
attribute [local irreducible] AM.evalR AM.evalD AM.Runs AM.valK AM.dK AM.opK AM.stepR AM.CallS AM.St.Le
theorem chsE_ok : ∀ {cs pre : List Change}, chsE pre cs = 0 → (∀ c ∈ cs, ChangeOK c) ∧ ∀ i, i < cs.length → ∀ d ∈ pre ++ cs.take i, ¬ (d.kind = (cs.getD i default).kind ∧ d.server = (cs.getD i default).server)
  | [], pre, _ => ⟨by simp, by simp⟩
  | c :: cs, pre, h => by
    rw [chsE] at h
    split at h
    · contradiction
    rename_i h0
    split at h
    · contradiction
    rename_i h1
    have h0' : changeE c = 0 := by omega
    obtain ⟨i1, i2⟩ := chsE_ok h
    refine ⟨fun d hd => ?_, fun i hi d hd => ?_⟩
    · rcases List.mem_cons.1 hd with rfl | hd
      · exact changeE_ok h0'
      · exact i1 d hd
    · cases i with
      | zero =>
        intro hk
        refine h1 (List.any_eq_true.2 ⟨d, ?_, decide_eq_true hk⟩)
        simpa using hd
      | succ i => exact i2 i (by simpa using hi) d (by simpa using hd)
theorem propE_ok {p : Proposal} (h : propE p = 0) : PropOK p := by
  unfold propE at h
  split at h
  · contradiction
  split at h
  · contradiction
  split at h
  · contradiction
  obtain ⟨h1, h2⟩ := chsE_ok h
  refine ⟨by omega, by omega, by omega, h1, fun i k hk hi => ?_⟩
  refine h2 i hi _ ?_
  rw [List.nil_append, ← List.take_append_drop k (p.changes.take i), take_take_le zo]
  refine List.mem_append.2 (.inr ?_)
  rw [drop_getD (show k < (p.changes.take i).length by rw [List.length_take]; omega)]
  have : (p.changes.take i).getD k default = p.changes.getD k default := by rw [List.getD_eq_getElem?_getD, List.getD_eq_getElem?_getD, List.getElem?_take_of_lt hk]
  rw [this]; exact List.mem_cons_self
theorem cfsE_ok {c : Config} : ∀ (n i : Nat), cfsE c i n = 0 → ∀ j, i ≤ j → j < i + n → propE (c.getD j default) = 0 ∧ (0 < j → cmpP (c.getD (j - 1) default) (c.getD j default) < 0) ∧
    (1 < (c.getD j default).number → 0 < j ∧ (c.getD (j - 1) default).admin = (c.getD j default).admin ∧ (c.getD (j - 1) default).number = (c.getD j default).number - 1)
  | 0, i, _, j, h1, h2 => by omega
  | n + 1, i, h, j, h1, h2 => by
    rw [cfsE] at h
    split at h
    · contradiction
    split at h
    · contradiction
    split at h
    · contradiction
    by_cases e : j = i
    · subst e; exact ⟨by omega, by omega, by omega⟩
    · exact cfsE_ok n (i + 1) h j zo zo
theorem confE_ok {c : Config} (h : confE c = 0) : ConfOK c := by
  have hk := cfsE_ok c.length 0 h
  refine ⟨fun p hp => ?_, fun i h0 hi => (hk i zo zo).2.1 h0, fun i hi h1 => (hk i zo zo).2.2 h1⟩
  obtain ⟨i, hi, rfl⟩ := List.mem_iff_getElem.1 hp
  have := propE_ok (hk i zo zo).1
  rw [List.getD_eq_getElem?_getD, List.getElem?_eq_getElem hi] at this
  exact this
end Go.Proofs
namespace Go.Proofs
open Go.AM
attribute [local irreducible] AM.evalR AM.evalD AM.Runs AM.valK AM.dK AM.opK AM.stepR AM.CallS AM.St.Le
def awG : View := ⟨[⟨1, 1⟩, ⟨2, 3⟩], ⟨1, 0, 0⟩⟩
def awP : Proposal := ⟨201, 1, [⟨1, 4, 2, 0, ⟨0, 0, 0⟩⟩, ⟨2, 1, 0, 0, ⟨0, 0, 0⟩⟩, ⟨4, 0, 0, 1, ⟨2, 0, 0⟩⟩]⟩
def awS : Summary := ⟨[1, 2, 4], [1], [⟨1, 1, 0, 0, 0⟩, ⟨2, 3, 0, 0, 0⟩, ⟨4, 2, 0, 201, 1⟩], ⟨2, 0, 0⟩, 1, 201, 1⟩
def awVw : View := ⟨[⟨2, 3⟩, ⟨4, 2⟩], ⟨2, 0, 0⟩⟩
theorem aw_propE : propE awP = 0 := by decide +kernel
theorem aw_genE : genE awG = 0 := by decide +kernel
theorem aw_sumT : sumT awG [awP] = awS := by decide +kernel
theorem aw_sumS : sumS awG [awP] = awS ∧ SortedS awS := by
  have h := sumS_T (genE_ok aw_genE).2.1 (c := [awP]) (fun p hp => by rw [List.mem_singleton.1 hp]; exact propE_ok aw_propE)
  rw [aw_sumT] at h; exact h
theorem aw_viewT : viewT awS = awVw := by decide +kernel
theorem aw_viewS : viewS awS = awVw := by rw [viewS_T aw_sumS.2.2.2, aw_viewT]
theorem aw_join : joinS awS awS = awS := by rw [(joinS_T aw_sumS.2 awS).1]; decide +kernel
theorem aw_ofT : ofT awP = ⟨[4], [1], [⟨4, 2, 0, 201, 1⟩], ⟨2, 0, 0⟩, 1, 201, 1⟩ := by decide +kernel
theorem aw_ofS : ofS awP = ⟨[4], [1], [⟨4, 2, 0, 201, 1⟩], ⟨2, 0, 0⟩, 1, 201, 1⟩ := by rw [(ofS_T (propE_ok aw_propE)).1, aw_ofT]
theorem aw_sumE : sumE awS = 0 := by decide +kernel
theorem aw_enc : encL (numsG awG) = [2, 1, 1, 2, 3, 1, 0, 0] := by decide +kernel
theorem aw_dec : decE [2, 1, 1, 2, 3, 1, 0, 0] = (awG, 8, 0) := by decide +kernel
theorem aw_le : V.Le (.sl false [.agg [.i 201, .i 1, .sl true (awP.changes.map chV)]]) (.sl false ([awP].map prV)) := by
  refine V.Le.slE _ _ _ rfl (dl_prV _) ?_ ?_
  · intro i hi
    have : i = 0 := by simpa using hi
    subst this; rfl
  · intro i j hi hj
    have : i = 0 := by simpa using hi
    subst this
    have hj : j < 3 := hj
    rcases (by omega : j = 0 ∨ j = 1 ∨ j = 2) with rfl | rfl | rfl
    · exact V.Le.refl _
    · exact V.Le.refl _
    · exact V.Le.full _
theorem law_awake : AM.Fn Try.prog 12 [] (.b true) := by
  (refine spec_of_runs Try.func12 rfl ?_; simp only [Try.f12]; refine ys ?_)
  repeat' (first | refine yw ?_ | ((with_reducible refine Runs.is ?_); first | refine Runs.region (id := 0) ?_ | refine Runs.region (id := 1) ?_ | ((with_reducible refine Runs.isC ?_); refine Runs.cond rfl (zc ?_) (zc ?_) <;> intro hc <;> (try (first | contradiction | (exfalso; omega; done) | (have : hc = trivial := rfl; clear this; clear hc))))) | ((with_reducible refine r_is ?_); first | refine yrb ?_ | (refine r_buildOwn (D := 10) SlF.h ZoF.h zd zB zd rfl ?_; refine r_nn zN zH ?_) | (refine r_build SlF.h ZoF.h zd zB ?_; refine r_n zN ?_)) | fail)
  (refine Runs.weaken (St.Le.freeze_lst 10 rfl) ?_; refine yf ?_)
  repeat' (first | refine yw ?_ | ((with_reducible refine Runs.is ?_); first | refine Runs.region (id := 2) ?_ | ((with_reducible refine Runs.isC ?_); refine Runs.cond rfl (zc ?_) (zc ?_) <;> intro hc <;> (try (first | contradiction | (exfalso; omega; done) | (have : hc = trivial := rfl; clear this; clear hc))))) | ((with_reducible refine r_is ?_); first | refine yrb ?_ | (refine r_buildOwn (D := 19) SlF.h ZoF.h zd zB zd rfl ?_; refine r_nn zN zH ?_) | (refine r_build SlF.h ZoF.h zd zB ?_; refine r_n zN ?_)) | fail)
  (refine Runs.weaken (St.Le.freeze_lst 19 rfl) ?_; refine yf ?_)
  refine Runs.weaken (St.Le.clean (s' := ⟨[.any, .ptr 1 0 0, .sl false ([awP].map prV), .any, .any, .any, .any, .any, .any, .any, .any, .any, .any, .any, .any, .any, .any, .any, .any, .any, .any, .any, .any, .any, .any, .any, .any, .any, .any, .any, .any, .any, .any, .any, .any, .any, .any, .any, .any, .any, .any, .any, .any, .any, .any, .any, .any, .any, .any, .any, .any, .any, .any, .any, .any, .any, .any, .any, .any, .any, .any, .any, .any, .any, .any, .any, .any, .any, .any, .any, .any, .any, .any, .any, .any, .any, .any, .any, .any, .any, .any, .any, .any, .any, .any, .any, .any, .any, .any, .any, .any, .any, .any, .any, .any, .any, .any, .any, .any, .any, .any, .any, .any, .any, .any, .any, .any, .any, .any, .any, .any, .any, .any, .any, .any, .any, .any, .any, .any], [(1, .var 26 (viV awG))]⟩) (by repeat' (first | exact V.LeL.nil | refine V.LeL.cons ?_ ?_ | exact V.Le.any _ | exact V.Le.full _ | exact V.Le.refl _ | exact aw_le)) (by simp [V.usesL, V.uses, AM.look_cons, V.usesL_data, da_prV]) (by simp [AM.sub, AM.look_cons, V.uses, V.uses_data, da_viV]; try rfl)) ?_
  have hS := member_Summarize false awG [awP] zd zd (by intro p hp; rw [List.mem_singleton.1 hp]; exact ⟨by decide, True.intro⟩)
  rw [aw_sumS.1] at hS
  have hV := member_View awS zd zd
  rw [aw_viewS] at hV
  have hA := member_AppendGenesis true [] awG zd zd
  rw [aw_enc, List.nil_append] at hA
  have hD := member_DecodeGenesis false [2, 1, 1, 2, 3, 1, 0, 0] (by unfold Bytes; decide) zd
  rw [aw_dec] at hD
  have hE := member_Equal awS awS
  rw [decide_eq_true rfl] at hE
  have hGe := member_Gen ⟨[], awG.rule⟩ zd
  rw [show genE ⟨[], awG.rule⟩ = 2 by decide] at hGe
  have hVa := member_Validate awS zd zd
  rw [aw_sumE] at hVa
  have hI := member_Initial awG zd
  have hO := member_Of awP zd
  rw [aw_ofS] at hO
  have hJ := member_Join awS awS (member_union_all false false _ _ zd) (member_union_all false false _ _ zd) (member_weights_all false false _ _ zd)
  rw [aw_join] at hJ
  repeat' (first | refine yw ?_ | ((with_reducible refine Runs.is ?_); first | refine Runs.region (id := 3) ?_ | refine Runs.region (id := 4) ?_ | ((with_reducible refine Runs.isC ?_); refine Runs.cond rfl (zc ?_) (zc ?_) <;> intro hc <;> (try (first | contradiction | (exfalso; omega; done) | (have : hc = trivial := rfl; clear this; clear hc))))) | ((with_reducible refine r_is ?_); first | refine yr ?_ | (refine r_fn rfl (hS) HbF.h zL2 zD ?_; refine r_nn zN zH ?_) | (refine r_fn rfl (hV) HbF.h zL1 zD ?_; refine r_nn zN zH ?_)) | fail)
  repeat' (first | refine yw ?_ | ((with_reducible refine Runs.is ?_); first | refine Runs.region (id := 5) ?_ | ((with_reducible refine Runs.isC ?_); refine Runs.cond rfl (zc ?_) (zc ?_) <;> intro hc <;> (try (first | contradiction | (exfalso; omega; done) | (have : hc = trivial := rfl; clear this; clear hc))))) | ((with_reducible refine r_is ?_); first | refine yr ?_ | (refine r_fn rfl (hA) HbF.h zL2 zD ?_; refine r_nn zN zH ?_) | (refine r_fn rfl (hD) HbF.h zL1 zD ?_; refine r_nn zN zH ?_)) | fail)
  clear hS hV hA hD
  have hI2 : ∃ q : Summary, q.joined.length = 2 ∧ AM.Fn Try.prog 16 [viV awG] (suV q) := ⟨_, rfl, hI⟩
  have hO2 : ∃ q : Summary, q.joined.length = 1 ∧ AM.Fn Try.prog 23 [prV awP] (suV q) := ⟨_, rfl, hO⟩
  clear hI hO
  obtain ⟨⟨J1, R1, W1, u1, v1, a1, n1⟩, l1, hI⟩ := hI2
  obtain ⟨⟨J2, R2, W2, u2, v2, a2, n2⟩, l2, hO⟩ := hO2
  have l3 : awS.joined.length = 3 := rfl
  have l4 : awS.removed.length = 1 := rfl
  have m1 : awVw.members.length = 2 := rfl
  have m2 : eqCells [V.i (awVw.members.getD 0 default).server, V.i (awVw.members.getD 0 default).weight] [V.i 2, V.i 3] = true := rfl
  have m3 : eqCells [V.i (awVw.members.getD 1 default).server, V.i (awVw.members.getD 1 default).weight] [V.i 4, V.i 2] = true := rfl
  have m4 : awVw.rule.kind = 2 := rfl
  have g1 : awG.members.length = 2 := rfl
  generalize awS = s at *
  generalize awVw = v at *
  generalize awG = g at *
  have hP : [awP].getD 0 default = awP := rfl
  have hP2 : [awP].length = 1 := rfl
  generalize [awP] = ps at *
  obtain ⟨J, R, W, ru, ver, adm, num⟩ := s
  obtain ⟨ms, vru⟩ := v
  obtain ⟨gm, gr⟩ := g
  dsimp only at l1 l2 l3 l4 m1 m2 m3 m4 g1 hGe
  rw [← hP] at hO
  replace hGe : AM.Fn Try.prog 14 [.agg [.sc (.slice none 0 0), .i gr.kind, .i gr.columns, .i gr.faulty]] (V.i 2) := Spec.args hGe (.cons (.aggL (.cons (.nil _) (V.LeL.refl _))) .nil) rfl
  refine Runs.region ?_
  dsimp only [List.append]
  repeat' (first | refine yw ?_ | ((with_reducible refine Runs.is ?_); first | refine Runs.region (id := 6) ?_ | ((with_reducible refine Runs.isC ?_); refine Runs.cond rfl (zc ?_) (zc ?_) <;> intro hc <;> (try (first | contradiction | (exfalso; omega; done) | (have : hc = trivial := rfl; clear this; clear hc))))) | ((with_reducible refine r_is ?_); first | refine yr ?_ | (refine r_fn rfl (hE) HbF.h zL2 zD ?_; refine r_nn zN zH ?_) | (refine r_fn rfl (hGe) HbF.h zL1 zD ?_; refine r_nn zN zH ?_) | (refine r_fn rfl (hVa) HbF.h zL1 zD ?_; refine r_nn zN zH ?_) | (refine r_fn rfl (hI) HbF.h zL1 zD ?_; refine r_nn zN zH ?_) | (refine r_fn rfl (hO) HbF.h zL1 zD ?_; refine r_nn zN zH ?_) | (refine r_fn rfl (hJ) HbF.h zL2 zD ?_; refine r_nn zN zH ?_) | ((with_reducible refine r_gd ?_); (first | refine r_guardPt rfl rfl ?_ ?_ | refine r_guardNt rfl rfl ?_ ?_ | refine r_guard rfl rfl ?_ ?_) <;> intro hG <;> (try (exfalso; omega; done)) <;> refine r_nn zN zH ?_)) | fail)
  all_goals first
    | (exfalso
       have q : eqCells [V.i (ms.getD 0 default).server, V.i (ms.getD 0 default).weight] [V.i 2, V.i 3] = false := by assumption
       rw [m2] at q; cases q)
    | (exfalso
       have q : eqCells [V.i (ms.getD 1 default).server, V.i (ms.getD 1 default).weight] [V.i 4, V.i 2] = false := by assumption
       rw [m3] at q; cases q)
    | skip
  all_goals ((refine Runs.ret1 Try.func12 rfl zM zD ?_; try exact zX))
  all_goals (refine V.Le.of_eq (congrArg V.b ?_); first | rfl | (refine decide_eq_true ?_; omega))
end Go.Proofs
namespace Go.Proofs
open Go.AM
attribute [local irreducible] AM.evalR AM.evalD AM.Runs AM.valK AM.dK AM.opK AM.stepR AM.CallS AM.St.Le
theorem cmpP_lt {p q : Proposal} : cmpP p q < 0 ↔ (p.admin < q.admin ∨ p.admin = q.admin ∧ p.number < q.number) := by
  by_cases h1 : p.admin < q.admin ∨ p.admin = q.admin ∧ p.number < q.number
  · have := cmpP_neg.2 h1; omega
  · by_cases h2 : p.admin = q.admin ∧ p.number = q.number
    · have := cmpP_zero.2 h2; omega
    · have := (cmpP_pos (p := p) (q := q)).2 zo; omega
theorem conf_pair {c : Config} (h : ∀ i : Nat, 0 < i → i < c.length → cmpP (c.getD (i - 1) default) (c.getD i default) < 0) (i : Nat) : ∀ j, i < j → j < c.length → cmpP (c.getD i default) (c.getD j default) < 0 := by
  intro j hij hj
  induction j with
  | zero => omega
  | succ j ih =>
    have h1 := h (j + 1) zo hj
    rw [Nat.add_sub_cancel] at h1
    by_cases e : i = j
    · subst e; exact h1
    · have h2 := ih zo zo
      rw [cmpP_lt] at h1 h2 ⊢
      omega
def dflP (a n : Nat) : Proposal := ⟨201 + a, n + 1, [⟨2, 1, 0, 0, ⟨0, 0, 0⟩⟩]⟩
def keyIs (a n : Nat) (p : Proposal) : Bool := decide (p.admin = 201 + (a : Int) ∧ p.number = (n : Int) + 1)
def fOf (c : Config) (a n : Nat) : Proposal := (c.find? (keyIs a n)).getD (dflP a n)
theorem fOf_mem {c : Config} (h : ConfOK c) {p : Proposal} (hp : p ∈ c) {a n : Nat} (ha : p.admin = 201 + a) (hn : p.number = n + 1) : fOf c a n = p := by
  unfold fOf
  cases hf : c.find? (keyIs a n) with
  | none =>
    have := List.find?_eq_none.1 hf p hp
    simp [keyIs, ha, hn] at this
  | some q =>
    have hq := List.find?_some hf
    have hqc := List.mem_of_find?_eq_some hf
    simp only [keyIs, decide_eq_true_eq] at hq
    simp only [Option.getD_some]
    obtain ⟨i, hi, rfl⟩ := List.mem_iff_getElem.1 hp
    obtain ⟨j, hj, rfl⟩ := List.mem_iff_getElem.1 hqc
    have g : ∀ k (hk : k < c.length), c.getD k default = c[k] := fun k hk => by rw [List.getD_eq_getElem?_getD, List.getElem?_eq_getElem hk]; rfl
    rcases Nat.lt_trichotomy i j with e | e | e
    · have := cmpP_lt.1 (conf_pair h.2.1 i j e hj)
      rw [g i hi, g j hj] at this; omega
    · subst e; rfl
    · have := cmpP_lt.1 (conf_pair h.2.1 j i e hi)
      rw [g i hi, g j hj] at this; omega
theorem blk_succ (f : Nat → Nat → Proposal) (a n : Nat) : Go.Proofs.blk f a (n + 1) = Go.Proofs.blk f a n ++ [f a n] := by simp [Go.Proofs.blk, List.range_succ]
theorem blk_zero (f : Nat → Nat → Proposal) (a : Nat) : Go.Proofs.blk f a 0 = [] := rfl
theorem conf_take {c : Config} (h : ConfOK c) : ∀ n, n ≤ c.length → ∃ i j k, (i < 4 ∧ j < 4 ∧ k < 4) ∧ c.take n = cut (fOf c) i j k ∧ (n = 0 → i = 0 ∧ j = 0 ∧ k = 0) ∧
    (0 < n → (0 < k ∧ (c.getD (n - 1) default).admin = 203 ∧ (c.getD (n - 1) default).number = k) ∨ (k = 0 ∧ 0 < j ∧ (c.getD (n - 1) default).admin = 202 ∧ (c.getD (n - 1) default).number = j) ∨
      (k = 0 ∧ j = 0 ∧ 0 < i ∧ (c.getD (n - 1) default).admin = 201 ∧ (c.getD (n - 1) default).number = i)) := by
  intro n
  induction n with
  | zero => intro _; exact ⟨0, 0, 0, by decide, by simp [cut, Go.Proofs.blk], fun _ => ⟨rfl, rfl, rfl⟩, fun h => by omega⟩
  | succ n ih =>
    intro hn
    obtain ⟨i, j, k, hlt, ht, h0, hlast⟩ := ih zo
    have hin : c.getD n default ∈ c := getD_in zo
    have hP := h.1 _ hin
    have hord : 0 < n → _ := fun hn0 => cmpP_lt.1 (h.2.1 n hn0 zo)
    have hgap := h.2.2 n zo
    have hfm := fun a m => fOf_mem h hin (a := a) (n := m)
    rw [Nat.add_sub_cancel, take_getD (show n < c.length by omega), ht]
    obtain ⟨hA, hN, _⟩ := hP
    generalize c.getD n default = p at *
    generalize c.getD (n - 1) default = q at *
    have hone : n = 0 → p.number = 1 := fun e => by
      clear hlast h0 hord hfm ht hlt
      omega
    rcases (show p.admin = 201 ∨ p.admin = 202 ∨ p.admin = 203 by omega) with ha | ha | ha
    · have hnum : p.number = i + 1 := by
        rcases Nat.eq_zero_or_pos n with e | e
        · rw [hone e, (h0 e).1]; rfl
        · have h7 := hlast e
          have h8 := hord e
          clear hlast hord h0 hone
          omega
      have hj : j = 0 ∧ k = 0 := by
        rcases Nat.eq_zero_or_pos n with e | e
        · exact (h0 e).2
        · have h7 := hlast e
          have h8 := hord e
          clear hlast hord h0 hone
          omega
      clear hlast h0
      obtain ⟨rfl, rfl⟩ := hj
      refine ⟨i + 1, 0, 0, by omega, ?_, fun e => by omega, fun _ => .inr (.inr ⟨rfl, rfl, by omega, ha, by rw [hnum]; rfl⟩)⟩
      have := hfm 0 i (by rw [ha]; rfl) hnum
      rw [← this]
      simp only [cut, blk_succ, blk_zero, List.append_nil, List.append_assoc]
    · have hnum : p.number = j + 1 := by
        rcases Nat.eq_zero_or_pos n with e | e
        · rw [hone e, (h0 e).2.1]; rfl
        · have h7 := hlast e
          have h8 := hord e
          clear hlast hord h0 hone
          omega
      have hk : k = 0 := by
        rcases Nat.eq_zero_or_pos n with e | e
        · exact (h0 e).2.2
        · have h7 := hlast e
          have h8 := hord e
          clear hlast hord h0 hone
          omega
      clear hlast h0
      subst hk
      refine ⟨i, j + 1, 0, by omega, ?_, fun e => by omega, fun _ => .inr (.inl ⟨rfl, by omega, ha, by rw [hnum]; rfl⟩)⟩
      have := hfm 1 j (by rw [ha]; rfl) hnum
      rw [← this]
      simp only [cut, blk_succ, blk_zero, List.append_nil, List.append_assoc]
    · have hnum : p.number = k + 1 := by
        rcases Nat.eq_zero_or_pos n with e | e
        · rw [hone e, (h0 e).2.2]; rfl
        · have h7 := hlast e
          have h8 := hord e
          clear hlast hord h0 hone
          omega
      clear hlast h0
      refine ⟨i, j, k + 1, by omega, ?_, fun e => by omega, fun _ => .inl ⟨by omega, ha, by rw [hnum]; rfl⟩⟩
      have := hfm 2 k (by rw [ha]; rfl) hnum
      rw [← this]
      simp only [cut, blk_succ, List.append_assoc]
theorem conf_cut {c : Config} (h : ConfOK c) : IsCut (fOf c) c := by
  obtain ⟨i, j, k, hlt, ht, _⟩ := conf_take h c.length (Nat.le_refl _)
  rw [List.take_length] at ht
  exact ⟨i, j, k, hlt, ht⟩
structure Pair (a b : Config) : Prop where
  all : allB a b = allR a b
  mem : ∀ c ∈ allR a b, ∃ i j k, (i < 4 ∧ j < 4 ∧ k < 4) ∧ c = cut (fOf b) i j k
  len : (allR a b).length ≤ 64
  cnt : countB a b = ((allR a b).length : Int)
  within : ∀ c, ConfOK c → containsB c a = containsR c a ∧ containsB b c = containsR b c
  few : (vectorV b).length ≤ 3
  fac : containsB b a = true → ∀ e ∈ vectorV b, 1 ≤ fac (vectorV a) e ∧ fac (vectorV a) e ≤ 4
  num : ∀ e ∈ vectorV b, 0 ≤ e.count ∧ e.count ≤ 1000000
  get : ∀ x, 0 ≤ getV (vectorV a) x ∧ getV (vectorV a) x ≤ 1000000000
  fine : Fine (vectorV b)
  cntb : ∀ t, cntR b t ≤ 3
theorem ConfOK.small {c : Config} (h : ConfOK c) : c.length ≤ 9 ∧ Small c := by
  obtain ⟨i, j, k, hl, e⟩ := conf_cut h
  have h9 : c.length ≤ 9 := by rw [e, cut_len]; omega
  refine ⟨h9, by omega, fun p hp => ?_⟩
  have := (h.1 p hp).2.2.1; omega
end Go.Proofs
namespace Go.Proofs
open Go.AM
attribute [local irreducible] AM.evalR AM.evalD AM.Runs AM.valK AM.dK AM.opK AM.stepR AM.CallS AM.St.Le
def shortB (s : Summary) : Bool := decide (s.joined.length ≤ 40 ∧ s.removed.length ≤ 40 ∧ s.weights.length ≤ 40)
theorem law_short2 (s : Summary) : AM.Fn Try.prog 18 [suV s] (.b (shortB s)) := law_short s
theorem shortB_len {s : Summary} (h : shortB s = true) : s.joined.length ≤ 40 ∧ s.removed.length ≤ 40 ∧ s.weights.length ≤ 40 := of_decide_eq_true h
theorem law_MemberOf (p : Proposal) (hpl : p.changes.length ≤ 140737488351232) : AM.Fn Try.prog 5 [prV p] (.b true) := by
  have hVp := vax_Prop p
  by_cases h60 : p.changes.length ≤ 60
  · by_cases h0 : propE p = 0
    · have hok := propE_ok h0
      rw [h0] at hVp
      have hO := member_Of p zo
      rw [(ofS_T hok).1] at hO
      have hOr := ref_Of p zo
      have hE := ref_EqualSummary (ofT p) (ofT p) (by have := (ofT_short1 (p := p) zo).2.2; omega)
      rw [decide_eq_true rfl] at hE
      have hV := member_Validate (ofT p) (by obtain ⟨q1, q2, _⟩ := ofT_short1 (p := p) zo; omega) (by have := (ofT_short1 (p := p) zo).2.2; omega)
      rw [sumE_of (ofT_ok hok)] at hV
      generalize ofT p = s at *
      clear hok h0
      obtain ⟨ad, nu, cs⟩ := p
      dsimp only at h60
      (refine spec_of_runs Try.func5 rfl ?_; simp only [Try.f5]; refine ys ?_)
      repeat' (first | refine yw ?_ | ((with_reducible refine Runs.is ?_); first | refine Runs.region ?_ | refine Runs.drawn mixed zK ?_ | ((with_reducible refine Runs.isC ?_); refine Runs.cond rfl (zc ?_) (zc ?_) <;> intro hc <;> (try (first | contradiction | (exfalso; omega; done) | (have : hc = trivial := rfl; clear this; clear hc))))) | ((with_reducible refine r_is ?_); first | refine yr ?_ | (refine r_fn rfl (hVp) HbF.h zL1 zD ?_; refine r_nn zN zH ?_) | (refine r_fn rfl (law_awake) HbF.h zL0 zD ?_; refine r_nn zN zH ?_) | (refine r_fn rfl (hO) HbF.h zL1 zD ?_; refine r_nn zN zH ?_) | ((with_reducible refine r_gd ?_); (first | refine r_guardPf rfl rfl ?_ ?_ | refine r_guardNf rfl rfl ?_ ?_ | refine r_guard rfl rfl ?_ ?_) <;> intro hG <;> (try (exfalso; omega; done)) <;> refine r_nn zN zH ?_)) | ((with_reducible refine d_is ?_); first | refine yd ?_ | (refine d_fn rfl (hOr) HbF.h zL1 zD ?_; refine d_nn zN zH ?_) | (refine d_fn rfl (hE) HbF.h zL2 zD ?_; refine d_nn zN zH ?_) | (refine d_fn rfl (hV) HbF.h zL1 zD ?_; refine d_nn zN zH ?_) | (refine d_fn rfl (law_awake) HbF.h zL0 zD ?_; refine d_nn zN zH ?_) | ((with_reducible refine d_gd ?_); (first | refine d_guardPt rfl rfl ?_ ?_ | refine d_guardNt rfl rfl ?_ ?_ | refine d_guard rfl rfl ?_ ?_) <;> intro hG <;> (try (exfalso; omega; done)) <;> refine d_nn zN zH ?_)) | fail)
      all_goals ((refine Runs.ret1 Try.func5 rfl zM zD ?_; try exact zX))
    · generalize propE p = e at *
      obtain ⟨ad, nu, cs⟩ := p
      dsimp only at h60
      (refine spec_of_runs Try.func5 rfl ?_; simp only [Try.f5]; refine ys ?_)
      repeat' (first | refine yw ?_ | ((with_reducible refine Runs.is ?_); first | refine Runs.region (id := 0) ?_ | refine Runs.region (id := 1) ?_ | refine Runs.region (id := 2) ?_ | ((with_reducible refine Runs.isC ?_); refine Runs.cond rfl (zc ?_) (zc ?_) <;> intro hc <;> (try (first | contradiction | (exfalso; omega; done) | (have : hc = trivial := rfl; clear this; clear hc))))) | ((with_reducible refine r_is ?_); first | refine yr ?_ | (refine r_fn rfl (hVp) HbF.h zL1 zD ?_; refine r_nn zN zH ?_) | (refine r_fn rfl (law_awake) HbF.h zL0 zD ?_; refine r_nn zN zH ?_) | ((with_reducible refine r_gd ?_); (first | refine r_guardPf rfl rfl ?_ ?_ | refine r_guardNf rfl rfl ?_ ?_ | refine r_guard rfl rfl ?_ ?_) <;> intro hG <;> (try (exfalso; omega; done)) <;> refine r_nn zN zH ?_)) | fail)
      all_goals ((refine Runs.ret1 Try.func5 rfl zM zD ?_; try exact zX))
  · clear hVp
    obtain ⟨ad, nu, cs⟩ := p
    dsimp only at h60
    (refine spec_of_runs Try.func5 rfl ?_; simp only [Try.f5]; refine ys ?_)
    repeat' (first | refine yw ?_ | ((with_reducible refine Runs.is ?_); first | refine Runs.region (id := 0) ?_ | refine Runs.region (id := 1) ?_ | refine Runs.region (id := 2) ?_ | ((with_reducible refine Runs.isC ?_); refine Runs.cond rfl (zc ?_) (zc ?_) <;> intro hc <;> (try (first | contradiction | (exfalso; omega; done) | (have : hc = trivial := rfl; clear this; clear hc))))) | ((with_reducible refine r_is ?_); first | refine yr ?_ | (refine r_fn rfl (law_awake) HbF.h zL0 zD ?_; refine r_nn zN zH ?_) | ((with_reducible refine r_gd ?_); (first | refine r_guardPf rfl rfl ?_ ?_ | refine r_guardNf rfl rfl ?_ ?_ | refine r_guard rfl rfl ?_ ?_) <;> intro hG <;> (try (exfalso; omega; done)) <;> refine r_nn zN zH ?_)) | fail)
    all_goals ((refine Runs.ret1 Try.func5 rfl zM zD ?_; try exact zX))
theorem law_MemberJoin (a b : Summary) (hwa : a.weights.length ≤ 140737488351232) (hwb : b.weights.length ≤ 140737488351232) : AM.Fn Try.prog 6 [suV a, suV b] (.b true) := by
  have hSa := law_short2 a
  have hSb := law_short2 b
  have hVa := vax_Sum a zo
  have hVb := vax_Sum b zo
  by_cases hok : (shortB a = true ∧ shortB b = true) ∧ sumE a = 0 ∧ sumE b = 0
  · obtain ⟨⟨s1, s2⟩, e1, e2⟩ := hok
    rw [s1] at hSa
    rw [s2] at hSb
    rw [e1] at hVa
    rw [e2] at hVb
    obtain ⟨a1, a2, a3⟩ := shortB_len s1
    obtain ⟨b1, b2, b3⟩ := shortB_len s2
    have ka := sumE_ok e1
    have kb := sumE_ok e2
    have hJ := member_Join a b (member_union_all false false _ _ zo) (member_union_all false false _ _ zo) (member_weights_all false false _ _ zo)
    rw [(joinS_T ka.sort b).1] at hJ
    have hJr := ref_Join a b ⟨by omega, by omega, by omega⟩ ⟨by omega, by omega, by omega⟩
    have hsh := joinT_short (a := a) (b := b) (m := 40) (n := 40) ⟨a1, a2, a3⟩ ⟨b1, b2, b3⟩
    have hE := ref_EqualSummary (joinT a b) (joinT a b) (by have := hsh.2.2; omega)
    rw [decide_eq_true rfl] at hE
    have hV := member_Validate (joinT a b) (by have := hsh.1; have := hsh.2.1; omega) (by have := hsh.2.2; omega)
    rw [sumE_of (join_ok ka kb)] at hV
    generalize joinT a b = s at *
    clear ka kb hsh
    (refine spec_of_runs Try.func6 rfl ?_; simp only [Try.f6]; refine ys ?_)
    repeat' (first | refine yw ?_ | ((with_reducible refine Runs.is ?_); first | refine Runs.region ?_ | refine Runs.drawn mixed zK ?_ | ((with_reducible refine Runs.isC ?_); refine Runs.cond rfl (zc ?_) (zc ?_) <;> intro hc <;> (try (first | contradiction | (exfalso; omega; done) | (have : hc = trivial := rfl; clear this; clear hc))))) | ((with_reducible refine r_is ?_); first | refine yr ?_ | (refine r_fn rfl (hSa) HbF.h zL1 zD ?_; refine r_nn zN zH ?_) | (refine r_fn rfl (hSb) HbF.h zL1 zD ?_; refine r_nn zN zH ?_) | (refine r_fn rfl (hVa) HbF.h zL1 zD ?_; refine r_nn zN zH ?_) | (refine r_fn rfl (hVb) HbF.h zL1 zD ?_; refine r_nn zN zH ?_) | (refine r_fn rfl (law_awake) HbF.h zL0 zD ?_; refine r_nn zN zH ?_) | (refine r_fn rfl (hJ) HbF.h zL2 zD ?_; refine r_nn zN zH ?_) | ((with_reducible refine r_gd ?_); (first | refine r_guardPf rfl rfl ?_ ?_ | refine r_guardNf rfl rfl ?_ ?_ | refine r_guard rfl rfl ?_ ?_) <;> intro hG <;> (try (exfalso; omega; done)) <;> refine r_nn zN zH ?_)) | ((with_reducible refine d_is ?_); first | refine yd ?_ | (refine d_fn rfl (hJr) HbF.h zL2 zD ?_; refine d_nn zN zH ?_) | (refine d_fn rfl (hE) HbF.h zL2 zD ?_; refine d_nn zN zH ?_) | (refine d_fn rfl (hV) HbF.h zL1 zD ?_; refine d_nn zN zH ?_) | (refine d_fn rfl (law_awake) HbF.h zL0 zD ?_; refine d_nn zN zH ?_) | ((with_reducible refine d_gd ?_); (first | refine d_guardPt rfl rfl ?_ ?_ | refine d_guardNt rfl rfl ?_ ?_ | refine d_guard rfl rfl ?_ ?_) <;> intro hG <;> (try (exfalso; omega; done)) <;> refine d_nn zN zH ?_)) | fail)
    all_goals ((refine Runs.ret1 Try.func6 rfl zM zD ?_; try exact zX))
  · generalize shortB a = s1 at *
    generalize shortB b = s2 at *
    generalize sumE a = e1 at *
    generalize sumE b = e2 at *
    (refine spec_of_runs Try.func6 rfl ?_; simp only [Try.f6]; refine ys ?_)
    cases s1
    · repeat' (first | refine yw ?_ | ((with_reducible refine Runs.is ?_); first | refine Runs.region (id := 0) ?_ | refine Runs.region (id := 1) ?_ | refine Runs.region (id := 2) ?_ | ((with_reducible refine Runs.isC ?_); refine Runs.cond rfl (zc ?_) (zc ?_) <;> intro hc <;> (try (first | contradiction | (exfalso; omega; done) | (have : hc = trivial := rfl; clear this; clear hc))))) | ((with_reducible refine r_is ?_); first | refine yr ?_ | (refine r_fn rfl (hSa) HbF.h zL1 zD ?_; refine r_nn zN zH ?_) | (refine r_fn rfl (law_awake) HbF.h zL0 zD ?_; refine r_nn zN zH ?_) | ((with_reducible refine r_gd ?_); (first | refine r_guardPf rfl rfl ?_ ?_ | refine r_guardNf rfl rfl ?_ ?_ | refine r_guard rfl rfl ?_ ?_) <;> intro hG <;> (try (exfalso; omega; done)) <;> refine r_nn zN zH ?_)) | fail)
      all_goals ((refine Runs.ret1 Try.func6 rfl zM zD ?_; try exact zX))
    cases s2
    · repeat' (first | refine yw ?_ | ((with_reducible refine Runs.is ?_); first | refine Runs.region (id := 0) ?_ | refine Runs.region (id := 1) ?_ | refine Runs.region (id := 2) ?_ | ((with_reducible refine Runs.isC ?_); refine Runs.cond rfl (zc ?_) (zc ?_) <;> intro hc <;> (try (first | contradiction | (exfalso; omega; done) | (have : hc = trivial := rfl; clear this; clear hc))))) | ((with_reducible refine r_is ?_); first | refine yr ?_ | (refine r_fn rfl (hSa) HbF.h zL1 zD ?_; refine r_nn zN zH ?_) | (refine r_fn rfl (hSb) HbF.h zL1 zD ?_; refine r_nn zN zH ?_) | (refine r_fn rfl (law_awake) HbF.h zL0 zD ?_; refine r_nn zN zH ?_) | ((with_reducible refine r_gd ?_); (first | refine r_guardPf rfl rfl ?_ ?_ | refine r_guardNf rfl rfl ?_ ?_ | refine r_guard rfl rfl ?_ ?_) <;> intro hG <;> (try (exfalso; omega; done)) <;> refine r_nn zN zH ?_)) | fail)
      all_goals ((refine Runs.ret1 Try.func6 rfl zM zD ?_; try exact zX))
    have hne : ¬ (e1 = 0 ∧ e2 = 0) := fun h => hok ⟨⟨rfl, rfl⟩, h⟩
    clear hok
    repeat' (first | refine yw ?_ | ((with_reducible refine Runs.is ?_); first | refine Runs.region (id := 0) ?_ | refine Runs.region (id := 1) ?_ | refine Runs.region (id := 2) ?_ | ((with_reducible refine Runs.isC ?_); refine Runs.cond rfl (zc ?_) (zc ?_) <;> intro hc <;> (try (first | contradiction | (exfalso; omega; done) | (have : hc = trivial := rfl; clear this; clear hc))))) | ((with_reducible refine r_is ?_); first | refine yr ?_ | (refine r_fn rfl (hSa) HbF.h zL1 zD ?_; refine r_nn zN zH ?_) | (refine r_fn rfl (hSb) HbF.h zL1 zD ?_; refine r_nn zN zH ?_) | (refine r_fn rfl (hVa) HbF.h zL1 zD ?_; refine r_nn zN zH ?_) | (refine r_fn rfl (hVb) HbF.h zL1 zD ?_; refine r_nn zN zH ?_) | (refine r_fn rfl (law_awake) HbF.h zL0 zD ?_; refine r_nn zN zH ?_) | ((with_reducible refine r_gd ?_); (first | refine r_guardPf rfl rfl ?_ ?_ | refine r_guardNf rfl rfl ?_ ?_ | refine r_guard rfl rfl ?_ ?_) <;> intro hG <;> (try (exfalso; omega; done)) <;> refine r_nn zN zH ?_)) | fail)
    all_goals ((refine Runs.ret1 Try.func6 rfl zM zD ?_; try exact zX))
theorem law_MemberView (s : Summary) (hws : s.weights.length ≤ 140737488351232) : AM.Fn Try.prog 7 [suV s] (.b true) := by
  have hS := law_short2 s
  have hVs := vax_Sum s zo
  by_cases hok : shortB s = true ∧ sumE s = 0
  · obtain ⟨s1, e1⟩ := hok
    rw [s1] at hS
    rw [e1] at hVs
    obtain ⟨a1, a2, a3⟩ := shortB_len s1
    have ks := sumE_ok e1
    have hV := member_View s zo zo
    rw [viewS_T ks.sort.2.2] at hV
    have hVr := ref_View s zo zo
    have hl : (viewT s).members.length ≤ 40 := Nat.le_trans (vAccT_len _ _ _) a1
    have hE := ref_EqualView (viewT s) (viewT s) zo
    rw [decide_eq_true rfl] at hE
    have hX := vax_View (viewT s) zo
    rw [viewT_ok ks] at hX
    generalize viewT s = v at *
    clear ks
    (refine spec_of_runs Try.func7 rfl ?_; simp only [Try.f7]; refine ys ?_)
    repeat' (first | refine yw ?_ | ((with_reducible refine Runs.is ?_); first | refine Runs.region ?_ | refine Runs.drawn mixed zK ?_ | ((with_reducible refine Runs.isC ?_); refine Runs.cond rfl (zc ?_) (zc ?_) <;> intro hc <;> (try (first | contradiction | (exfalso; omega; done) | (have : hc = trivial := rfl; clear this; clear hc))))) | ((with_reducible refine r_is ?_); first | refine yr ?_ | (refine r_fn rfl (hS) HbF.h zL1 zD ?_; refine r_nn zN zH ?_) | (refine r_fn rfl (hVs) HbF.h zL1 zD ?_; refine r_nn zN zH ?_) | (refine r_fn rfl (law_awake) HbF.h zL0 zD ?_; refine r_nn zN zH ?_) | (refine r_fn rfl (hV) HbF.h zL1 zD ?_; refine r_nn zN zH ?_) | ((with_reducible refine r_gd ?_); (first | refine r_guardPf rfl rfl ?_ ?_ | refine r_guardNf rfl rfl ?_ ?_ | refine r_guard rfl rfl ?_ ?_) <;> intro hG <;> (try (exfalso; omega; done)) <;> refine r_nn zN zH ?_)) | ((with_reducible refine d_is ?_); first | refine yd ?_ | (refine d_fn rfl (hVr) HbF.h zL1 zD ?_; refine d_nn zN zH ?_) | (refine d_fn rfl (hE) HbF.h zL2 zD ?_; refine d_nn zN zH ?_) | (refine d_fn rfl (hX) HbF.h zL1 zD ?_; refine d_nn zN zH ?_) | (refine d_fn rfl (law_awake) HbF.h zL0 zD ?_; refine d_nn zN zH ?_) | ((with_reducible refine d_gd ?_); (first | refine d_guardPt rfl rfl ?_ ?_ | refine d_guardNt rfl rfl ?_ ?_ | refine d_guard rfl rfl ?_ ?_) <;> intro hG <;> (try (exfalso; omega; done)) <;> refine d_nn zN zH ?_)) | fail)
    all_goals ((refine Runs.ret1 Try.func7 rfl zM zD ?_; try exact zX))
  · generalize shortB s = s1 at *
    generalize sumE s = e1 at *
    (refine spec_of_runs Try.func7 rfl ?_; simp only [Try.f7]; refine ys ?_)
    cases s1
    · repeat' (first | refine yw ?_ | ((with_reducible refine Runs.is ?_); first | refine Runs.region (id := 0) ?_ | refine Runs.region (id := 1) ?_ | refine Runs.region (id := 2) ?_ | ((with_reducible refine Runs.isC ?_); refine Runs.cond rfl (zc ?_) (zc ?_) <;> intro hc <;> (try (first | contradiction | (exfalso; omega; done) | (have : hc = trivial := rfl; clear this; clear hc))))) | ((with_reducible refine r_is ?_); first | refine yr ?_ | (refine r_fn rfl (hS) HbF.h zL1 zD ?_; refine r_nn zN zH ?_) | (refine r_fn rfl (law_awake) HbF.h zL0 zD ?_; refine r_nn zN zH ?_) | ((with_reducible refine r_gd ?_); (first | refine r_guardPf rfl rfl ?_ ?_ | refine r_guardNf rfl rfl ?_ ?_ | refine r_guard rfl rfl ?_ ?_) <;> intro hG <;> (try (exfalso; omega; done)) <;> refine r_nn zN zH ?_)) | fail)
      all_goals ((refine Runs.ret1 Try.func7 rfl zM zD ?_; try exact zX))
    have hne : ¬ (e1 = 0) := fun h => hok ⟨rfl, h⟩
    clear hok
    repeat' (first | refine yw ?_ | ((with_reducible refine Runs.is ?_); first | refine Runs.region (id := 0) ?_ | refine Runs.region (id := 1) ?_ | refine Runs.region (id := 2) ?_ | ((with_reducible refine Runs.isC ?_); refine Runs.cond rfl (zc ?_) (zc ?_) <;> intro hc <;> (try (first | contradiction | (exfalso; omega; done) | (have : hc = trivial := rfl; clear this; clear hc))))) | ((with_reducible refine r_is ?_); first | refine yr ?_ | (refine r_fn rfl (hS) HbF.h zL1 zD ?_; refine r_nn zN zH ?_) | (refine r_fn rfl (hVs) HbF.h zL1 zD ?_; refine r_nn zN zH ?_) | (refine r_fn rfl (law_awake) HbF.h zL0 zD ?_; refine r_nn zN zH ?_) | ((with_reducible refine r_gd ?_); (first | refine r_guardPf rfl rfl ?_ ?_ | refine r_guardNf rfl rfl ?_ ?_ | refine r_guard rfl rfl ?_ ?_) <;> intro hG <;> (try (exfalso; omega; done)) <;> refine r_nn zN zH ?_)) | fail)
    all_goals ((refine Runs.ret1 Try.func7 rfl zM zD ?_; try exact zX))
theorem prop_plain {p : Proposal} (h : PropOK p) : Plain p := ⟨by have := h.2.2.1; omega, trivial⟩
theorem law_MemberSummarize (g : View) (c : Config) (hgl : g.members.length ≤ 140737488351232) : AM.Fn Try.prog 8 [viV g, cfV c] (.b true) := by
  have hGr := vax_Gen g zo
  have hCr := vax_Conf false c
  by_cases h30 : c.length ≤ 30
  · by_cases hok : genE g = 0 ∧ confE c = 0
    · obtain ⟨e1, e2⟩ := hok
      rw [e1] at hGr
      rw [e2] at hCr
      have kg := genE_ok e1
      have kc := confE_ok e2
      have h12 := kg.2.1.len
      have hp : ∀ p ∈ c, Plain p := fun p hp => prop_plain (kc.1 p hp)
      have hS := member_Summarize false g c zo zo hp
      rw [(sumS_T kg.2.1 kc.1).1] at hS
      have hSr := ref_Summarize false g c zo zo hp
      have hE := ref_EqualSummary (sumT g c) (sumT g c) (by have := (sumT_short (g := g) zo c (fun p h => (hp p h).1)).2.2; omega)
      rw [decide_eq_true rfl] at hE
      generalize sumT g c = s at *
      clear kg kc hp h12
      (refine spec_of_runs Try.func8 rfl ?_; simp only [Try.f8]; refine ys ?_)
      repeat' (first | refine yw ?_ | ((with_reducible refine Runs.is ?_); first | refine Runs.region ?_ | refine Runs.drawn mixed zK ?_ | ((with_reducible refine Runs.isC ?_); refine Runs.cond rfl (zc ?_) (zc ?_) <;> intro hc <;> (try (first | contradiction | (exfalso; omega; done) | (have : hc = trivial := rfl; clear this; clear hc))))) | ((with_reducible refine r_is ?_); first | refine yr ?_ | (refine r_fn rfl (hGr) HbF.h zL1 zD ?_; refine r_nn zN zH ?_) | (refine r_fn rfl (hCr) HbF.h zL1 zD ?_; refine r_nn zN zH ?_) | (refine r_fn rfl (law_awake) HbF.h zL0 zD ?_; refine r_nn zN zH ?_) | ((with_reducible refine r_gd ?_); (first | refine r_guardPf rfl rfl ?_ ?_ | refine r_guardNf rfl rfl ?_ ?_ | refine r_guard rfl rfl ?_ ?_) <;> intro hG <;> (try (exfalso; omega; done)) <;> refine r_nn zN zH ?_)) | ((with_reducible refine d_is ?_); first | refine yd ?_ | (refine d_fn rfl (hS) HbF.h zL2 zD ?_; refine d_nn zN zH ?_) | (refine d_fn rfl (hSr) HbF.h zL2 zD ?_; refine d_nn zN zH ?_) | (refine d_fn rfl (hE) HbF.h zL2 zD ?_; refine d_nn zN zH ?_) | (refine d_fn rfl (law_awake) HbF.h zL0 zD ?_; refine d_nn zN zH ?_) | ((with_reducible refine d_gd ?_); (first | refine d_guardPt rfl rfl ?_ ?_ | refine d_guardNt rfl rfl ?_ ?_ | refine d_guard rfl rfl ?_ ?_) <;> intro hG <;> (try (exfalso; omega; done)) <;> refine d_nn zN zH ?_)) | fail)
      all_goals ((refine Runs.ret1 Try.func8 rfl zM zD ?_; try exact zX))
    · generalize genE g = e1 at *
      generalize confE c = e2 at *
      (refine spec_of_runs Try.func8 rfl ?_; simp only [Try.f8]; refine ys ?_)
      repeat' (first | refine yw ?_ | ((with_reducible refine Runs.is ?_); first | refine Runs.region (id := 0) ?_ | refine Runs.region (id := 1) ?_ | refine Runs.region (id := 2) ?_ | ((with_reducible refine Runs.isC ?_); refine Runs.cond rfl (zc ?_) (zc ?_) <;> intro hc <;> (try (first | contradiction | (exfalso; omega; done) | (have : hc = trivial := rfl; clear this; clear hc))))) | ((with_reducible refine r_is ?_); first | refine yr ?_ | (refine r_fn rfl (hGr) HbF.h zL1 zD ?_; refine r_nn zN zH ?_) | (refine r_fn rfl (hCr) HbF.h zL1 zD ?_; refine r_nn zN zH ?_) | (refine r_fn rfl (law_awake) HbF.h zL0 zD ?_; refine r_nn zN zH ?_) | ((with_reducible refine r_gd ?_); (first | refine r_guardPf rfl rfl ?_ ?_ | refine r_guardNf rfl rfl ?_ ?_ | refine r_guard rfl rfl ?_ ?_) <;> intro hG <;> (try (exfalso; omega; done)) <;> refine r_nn zN zH ?_)) | fail)
      all_goals ((refine Runs.ret1 Try.func8 rfl zM zD ?_; try exact zX))
  · clear hGr hCr
    (refine spec_of_runs Try.func8 rfl ?_; simp only [Try.f8]; refine ys ?_)
    repeat' (first | refine yw ?_ | ((with_reducible refine Runs.is ?_); first | refine Runs.region (id := 0) ?_ | refine Runs.region (id := 1) ?_ | refine Runs.region (id := 2) ?_ | ((with_reducible refine Runs.isC ?_); refine Runs.cond rfl (zc ?_) (zc ?_) <;> intro hc <;> (try (first | contradiction | (exfalso; omega; done) | (have : hc = trivial := rfl; clear this; clear hc))))) | ((with_reducible refine r_is ?_); first | refine yr ?_ | (refine r_fn rfl (law_awake) HbF.h zL0 zD ?_; refine r_nn zN zH ?_) | ((with_reducible refine r_gd ?_); (first | refine r_guardPf rfl rfl ?_ ?_ | refine r_guardNf rfl rfl ?_ ?_ | refine r_guard rfl rfl ?_ ?_) <;> intro hG <;> (try (exfalso; omega; done)) <;> refine r_nn zN zH ?_)) | fail)
    all_goals ((refine Runs.ret1 Try.func8 rfl zM zD ?_; try exact zX))
end Go.Proofs
namespace Go.Proofs
open Go.AM
attribute [local irreducible] AM.evalR AM.evalD AM.Runs AM.valK AM.dK AM.opK AM.stepR AM.CallS AM.St.Le
theorem row_own : ownKnob Try.prog.godebug = none := by kernel_rfl
theorem row_laid : laidOutB Try.prog = true := by kernel_rfl
theorem row_bool : Try.prog.underlying 4 = some .bool := by kernel_rfl
theorem row_int : Try.prog.underlying 3 = some (.int .i64) := by kernel_rfl
def I64 (z : Int) : Prop := -9223372036854775808 ≤ z ∧ z ≤ 9223372036854775807
theorem wf_i64 {z : Int} (h : (Lit.int .i64 z).wf = true) : I64 z := by
  simp only [Lit.wf, Bool.and_eq_true, decide_eq_true_eq] at h
  exact h
theorem opI : Opens Try.prog 3 1 (fun vs => ∃ z, I64 z ∧ vs = [V.i z]) := (opens_int row_int (by kernel_rfl)).imp fun vs ⟨z, h, e⟩ => ⟨z, wf_i64 h, e⟩
theorem opIs : Opens Try.prog 31 1 (fun vs => ∃ l : List Int, l.length ≤ 4611686018427387904 ∧ vs = [inV l]) := (opens_slice false (e := 3) (by kernel_rfl) (by kernel_rfl) opI zd (by kernel_rfl) (by rintro _ c ⟨z, _, rfl⟩; rfl)).imp fun vs ⟨ess, h1, h2, e⟩ => by
  obtain ⟨xs, e1, _, e2⟩ := lists_of (f := V.i) (ok := fun _ => True) (ag := false) (ess := ess) fun c hc => by obtain ⟨z, _, rfl⟩ := h1 c hc; exact ⟨z, trivial, rfl⟩
  have : reachBytes = 140737488351232 := rfl
  exact ⟨xs, by omega, by rw [e, e1]⟩
theorem opRu : Opens Try.prog 24 3 (fun vs => ∃ r : Rule, (I64 r.kind ∧ I64 r.columns ∧ I64 r.faulty) ∧ vs = [.i r.kind, .i r.columns, .i r.faulty]) :=
  (opens_struct (L := [(3, 0), (3, 1), (3, 2)]) (by kernel_rfl) zd (by kernel_rfl) (fs_cons opI (fs_cons opI (fs_cons opI fs_nil)))).imp fun vs h => by
    simp only [CatQ] at h
    obtain ⟨_, _, rfl, ⟨k, hk, rfl⟩, _, _, rfl, ⟨c, hc, rfl⟩, _, _, rfl, ⟨f, hf, rfl⟩, rfl⟩ := h
    exact ⟨⟨k, c, f⟩, ⟨hk, hc, hf⟩, rfl⟩
theorem opCh : Opens Try.prog 70 7 (fun vs => ∃ c : Change, True ∧ .agg vs = chV c) :=
  (opens_struct (L := [(3, 0), (3, 1), (3, 2), (3, 3), (24, 4)]) (by kernel_rfl) zd (by kernel_rfl) (fs_cons opI (fs_cons opI (fs_cons opI (fs_cons opI (fs_cons opRu fs_nil)))))).imp fun vs h => by
    simp only [CatQ] at h
    obtain ⟨_, _, rfl, ⟨k, _, rfl⟩, _, _, rfl, ⟨s, _, rfl⟩, _, _, rfl, ⟨w, _, rfl⟩, _, _, rfl, ⟨v, _, rfl⟩, _, _, rfl, ⟨r, _, rfl⟩, rfl⟩ := h
    exact ⟨⟨k, s, w, v, r⟩, trivial, rfl⟩
theorem opPr : Opens Try.prog 41 3 (fun vs => ∃ p : Proposal, p.changes.length ≤ 140737488351232 ∧ .agg vs = prV p) :=
  (opens_struct (L := [(3, 0), (3, 1), (39, 2)]) (by kernel_rfl) zd (by kernel_rfl) (fs_cons opI (fs_cons opI (fs_cons (opens_slice true (e := 70) (by kernel_rfl) (by kernel_rfl) opCh zd (by kernel_rfl) (by intro h; cases h)) fs_nil)))).imp fun vs h => by
    simp only [CatQ] at h
    obtain ⟨_, _, rfl, ⟨a, _, rfl⟩, _, _, rfl, ⟨n, _, rfl⟩, _, _, rfl, ⟨ess, h1, h2, rfl⟩, rfl⟩ := h
    obtain ⟨xs, e1, _, e2⟩ := lists_of (f := chV) (ok := fun _ => True) (ag := true) (ess := ess) fun c hc => by obtain ⟨z, _, e⟩ := h1 c hc; exact ⟨z, trivial, e⟩
    have : reachBytes = 140737488351232 := rfl
    exact ⟨⟨a, n, xs⟩, by dsimp only; omega, by rw [e1]; rfl⟩
theorem opCf : Opens Try.prog 51 1 (fun vs => ∃ c : Config, (c.length ≤ 140737488351232 ∧ ∀ p ∈ c, p.changes.length ≤ 140737488351232) ∧ vs = [cfV c]) :=
  (opens_slice true (e := 41) (by kernel_rfl) (by kernel_rfl) opPr zd (by kernel_rfl) (by intro h; cases h)).imp fun vs ⟨ess, h1, h2, e⟩ => by
    obtain ⟨xs, e1, e3, e2⟩ := lists_of (f := prV) (ok := fun p => p.changes.length ≤ 140737488351232) (ag := true) (ess := ess) fun c hc => h1 c hc
    have : reachBytes = 140737488351232 := rfl
    exact ⟨xs, ⟨by omega, e3⟩, by rw [e, e1]⟩
theorem opMb : Opens Try.prog 62 2 (fun vs => ∃ m : Member, (I64 m.server ∧ I64 m.weight) ∧ .agg vs = mbV m) :=
  (opens_struct (L := [(3, 0), (3, 1)]) (by kernel_rfl) zd (by kernel_rfl) (fs_cons opI (fs_cons opI fs_nil))).imp fun vs h => by
    simp only [CatQ] at h
    obtain ⟨_, _, rfl, ⟨k, hk, rfl⟩, _, _, rfl, ⟨c, hc, rfl⟩, rfl⟩ := h
    exact ⟨⟨k, c⟩, ⟨hk, hc⟩, rfl⟩
theorem opGe : Opens Try.prog 26 4 (fun vs => ∃ g : View, (g.members.length ≤ 140737488351232 ∧ ∀ m ∈ g.members, I64 m.server ∧ I64 m.weight) ∧ .agg vs = viV g) :=
  (opens_struct (L := [(22, 0), (24, 1)]) (by kernel_rfl) zd (by kernel_rfl) (fs_cons (opens_slice true (e := 62) (by kernel_rfl) (by kernel_rfl) opMb zd (by kernel_rfl) (by intro h; cases h)) (fs_cons opRu fs_nil))).imp fun vs h => by
    simp only [CatQ] at h
    obtain ⟨_, _, rfl, ⟨ess, h1, h2, rfl⟩, _, _, rfl, ⟨r, _, rfl⟩, rfl⟩ := h
    obtain ⟨xs, e1, e3, e2⟩ := lists_of (f := mbV) (ok := fun m => I64 m.server ∧ I64 m.weight) (ag := true) (ess := ess) fun c hc => h1 c hc
    have : reachBytes = 140737488351232 := rfl
    exact ⟨⟨xs, r⟩, ⟨by dsimp only; omega, e3⟩, by rw [e1]; rfl⟩
theorem opWe : Opens Try.prog 73 5 (fun vs => ∃ w : WeightEntry, True ∧ .agg vs = weV w) :=
  (opens_struct (L := [(3, 0), (3, 1), (3, 2), (3, 3), (3, 4)]) (by kernel_rfl) zd (by kernel_rfl) (fs_cons opI (fs_cons opI (fs_cons opI (fs_cons opI (fs_cons opI fs_nil)))))).imp fun vs h => by
    simp only [CatQ] at h
    obtain ⟨_, _, rfl, ⟨k, _, rfl⟩, _, _, rfl, ⟨s, _, rfl⟩, _, _, rfl, ⟨w, _, rfl⟩, _, _, rfl, ⟨v, _, rfl⟩, _, _, rfl, ⟨r, _, rfl⟩, rfl⟩ := h
    exact ⟨⟨k, s, w, v, r⟩, trivial, rfl⟩
theorem opSu : Opens Try.prog 34 9 (fun vs => ∃ s : Summary, s.weights.length ≤ 140737488351232 ∧ .agg vs = suV s) :=
  (opens_struct (L := [(31, 0), (31, 1), (32, 2), (24, 3), (3, 6), (3, 7), (3, 8)]) (by kernel_rfl) zd (by kernel_rfl)
    (fs_cons opIs (fs_cons opIs (fs_cons (opens_slice true (e := 73) (by kernel_rfl) (by kernel_rfl) opWe zd (by kernel_rfl) (by intro h; cases h)) (fs_cons opRu (fs_cons opI (fs_cons opI (fs_cons opI fs_nil)))))))).imp fun vs h => by
    simp only [CatQ] at h
    obtain ⟨_, _, rfl, ⟨j, _, rfl⟩, _, _, rfl, ⟨r, _, rfl⟩, _, _, rfl, ⟨ess, h1, h2, rfl⟩, _, _, rfl, ⟨ru, _, rfl⟩, _, _, rfl, ⟨v, _, rfl⟩, _, _, rfl, ⟨a, _, rfl⟩, _, _, rfl, ⟨n, _, rfl⟩, rfl⟩ := h
    obtain ⟨xs, e1, _, e2⟩ := lists_of (f := weV) (ok := fun _ => True) (ag := true) (ess := ess) fun c hc => by obtain ⟨z, _, e⟩ := h1 c hc; exact ⟨z, trivial, e⟩
    have : reachBytes = 140737488351232 := rfl
    exact ⟨⟨j, r, xs, ru, v, a, n⟩, by dsimp only; omega, by rw [e1]; rfl⟩
theorem oaSu : OpensV Try.prog 34 (fun u => ∃ s : Summary, s.weights.length ≤ 140737488351232 ∧ u = suV s) := opSu.agg (L := [(31, 0), (31, 1), (32, 2), (24, 3), (3, 6), (3, 7), (3, 8)]) (by kernel_rfl) zd fun vs h => h
theorem oaPr : OpensV Try.prog 41 (fun u => ∃ p : Proposal, p.changes.length ≤ 140737488351232 ∧ u = prV p) := opPr.agg (L := [(3, 0), (3, 1), (39, 2)]) (by kernel_rfl) zd fun vs h => h
theorem oaI : OpensV Try.prog 3 (fun u => ∃ z, I64 z ∧ u = .i z) := fun H enc W base v d ps a b c d' => (opensV_int row_int (by kernel_rfl) H enc W base v d ps a b c d').imp fun u q => ⟨q.1, q.2.imp fun z r => ⟨wf_i64 r.1, r.2⟩⟩
theorem oaIs : OpensV Try.prog 31 (fun u => ∃ l : List Int, l.length ≤ 4611686018427387904 ∧ u = inV l) := opIs.sl (e := 3) (by kernel_rfl) fun u ⟨l, h, e⟩ => ⟨l, h, by simpa using e⟩
theorem oaCf : OpensV Try.prog 51 (fun u => ∃ c : Config, (c.length ≤ 140737488351232 ∧ ∀ p ∈ c, p.changes.length ≤ 140737488351232) ∧ u = cfV c) := opCf.sl (e := 41) (by kernel_rfl) fun u ⟨l, h, e⟩ => ⟨l, h, by simpa using e⟩
theorem oaGe : OpensV Try.prog 26 (fun u => ∃ g : View, (g.members.length ≤ 140737488351232 ∧ ∀ m ∈ g.members, I64 m.server ∧ I64 m.weight) ∧ u = viV g) := opGe.agg (L := [(22, 0), (24, 1)]) (by kernel_rfl) zd fun vs h => h
end Go.Proofs
namespace Go.Proofs
open Go.AM
attribute [local irreducible] AM.evalR AM.evalD AM.Runs AM.valK AM.dK AM.opK AM.stepR AM.CallS AM.St.Le
theorem laterB_iff (a b : WeightEntry) : laterB a b = true ↔ (b.version < a.version ∨ (a.version = b.version ∧ (b.admin < a.admin ∨ (a.admin = b.admin ∧ b.number < a.number)))) := by
  unfold laterB
  split
  · rw [decide_eq_true_eq]; omega
  · split
    · rw [decide_eq_true_eq]; omega
    · rw [decide_eq_true_eq]; omega
theorem laterB_not (a b : WeightEntry) : laterB a b = false ↔ ¬ (b.version < a.version ∨ (a.version = b.version ∧ (b.admin < a.admin ∨ (a.admin = b.admin ∧ b.number < a.number)))) := by
  rw [← laterB_iff]; simp
theorem laterB_irr (a : WeightEntry) : laterB a a = false := by rw [laterB_not]; omega
theorem laterB_tr {a b c : WeightEntry} (h : laterB a b = false) (k : laterB b c = false) : laterB a c = false := by rw [laterB_not] at *; omega
theorem laterB_lt {a b : WeightEntry} (h : laterB b a = true) : laterB a b = false := by rw [laterB_iff] at h; rw [laterB_not]; omega
theorem laterB_eq {a b : WeightEntry} (h : laterB a b = false) (k : laterB b a = false) : a.version = b.version ∧ a.admin = b.admin ∧ a.number = b.number := by rw [laterB_not] at *; omega
structure Is (A : List Summary) (s : Summary) : Prop where
  sort : SortedS s
  j : ∀ x, x ∈ s.joined ↔ ∃ t ∈ A, x ∈ t.joined
  r : ∀ x, x ∈ s.removed ↔ ∃ t ∈ A, x ∈ t.removed
  w1 : ∀ x o, lk s.weights x = some o → ∃ t ∈ A, lk t.weights x = some o
  w2 : ∀ x, ∀ t ∈ A, ∀ o', lk t.weights x = some o' → ∃ o, lk s.weights x = some o ∧ laterB o' o = false
  ru1 : ∃ t ∈ A, s.rule = t.rule ∧ s.version = t.version ∧ s.admin = t.admin ∧ s.number = t.number
  ru2 : ∀ t ∈ A, t.rule ≠ ⟨0, 0, 0⟩ → s.rule ≠ ⟨0, 0, 0⟩ ∧ laterB (originW t) (originW s) = false
structure Coh (A : List Summary) : Prop where
  w : ∀ t ∈ A, ∀ u ∈ A, ∀ x o o', lk t.weights x = some o → lk u.weights x = some o' → laterB o o' = false → laterB o' o = false → o = o'
  ru : ∀ t ∈ A, ∀ u ∈ A, t.rule ≠ ⟨0, 0, 0⟩ → u.rule ≠ ⟨0, 0, 0⟩ → laterB (originW t) (originW u) = false → laterB (originW u) (originW t) = false → t.rule = u.rule
  z : ∀ t ∈ A, t.rule = ⟨0, 0, 0⟩ → t.version = 0 ∧ t.admin = 0 ∧ t.number = 0
theorem Coh.mono {A B : List Summary} (h : Coh B) (k : ∀ t ∈ A, t ∈ B) : Coh A :=
  ⟨fun t ht u hu => h.w t (k t ht) u (k u hu), fun t ht u hu => h.ru t (k t ht) u (k u hu), fun t ht => h.z t (k t ht)⟩
theorem originW_eq {s t : Summary} (h : s.version = t.version ∧ s.admin = t.admin ∧ s.number = t.number) : originW s = originW t := by
  unfold originW; rw [h.1, h.2.1, h.2.2]
theorem Is.uniq {A : List Summary} {s s' : Summary} (h : Is A s) (h' : Is A s') (c : Coh A) : s = s' := by
  have e1 : s.joined = s'.joined := strict_ext h.sort.1 h'.sort.1 fun x => by rw [h.j, h'.j]
  have e2 : s.removed = s'.removed := strict_ext h.sort.2.1 h'.sort.2.1 fun x => by rw [h.r, h'.r]
  have e3 : s.weights = s'.weights := strictW_ext h.sort.2.2 h'.sort.2.2 fun x => by
    cases ho : lk s.weights x with
    | none =>
      cases ho' : lk s'.weights x with
      | none => rfl
      | some o' =>
        obtain ⟨t, ht, e⟩ := h'.w1 x o' ho'
        obtain ⟨o, q, _⟩ := h.w2 x t ht o' e
        rw [ho] at q; cases q
    | some o =>
      obtain ⟨t, ht, e⟩ := h.w1 x o ho
      obtain ⟨o', q, l1⟩ := h'.w2 x t ht o e
      obtain ⟨u, hu, e'⟩ := h'.w1 x o' q
      obtain ⟨o2, q2, l2⟩ := h.w2 x u hu o' e'
      rw [ho] at q2
      obtain rfl := Option.some.inj q2
      rw [q, c.w t ht u hu x o o' e e' l1 l2]
  have e4 : s.rule = s'.rule ∧ s.version = s'.version ∧ s.admin = s'.admin ∧ s.number = s'.number := by
    obtain ⟨t, ht, a1, a2⟩ := h.ru1
    obtain ⟨u, hu, b1, b2⟩ := h'.ru1
    by_cases hz : s.rule = ⟨0, 0, 0⟩
    · have hz' : s'.rule = ⟨0, 0, 0⟩ := by
        by_cases q : u.rule = ⟨0, 0, 0⟩
        · rw [b1, q]
        · exact absurd hz (h.ru2 u hu q).1
      have ct := c.z t ht (by rw [← a1, hz])
      have cu := c.z u hu (by rw [← b1, hz'])
      exact ⟨by rw [hz, hz'], by omega, by omega, by omega⟩
    · have ht0 : t.rule ≠ ⟨0, 0, 0⟩ := by rw [← a1]; exact hz
      have k1 := h'.ru2 t ht ht0
      have hu0 : u.rule ≠ ⟨0, 0, 0⟩ := by rw [← b1]; exact k1.1
      have k2 := h.ru2 u hu hu0
      have l1 := k1.2
      have l2 := k2.2
      rw [originW_eq b2] at l1
      rw [originW_eq a2] at l2
      have e := laterB_eq l1 l2
      unfold originW at e
      dsimp only at e
      exact ⟨by rw [a1, b1]; exact c.ru t ht u hu ht0 hu0 l1 l2, by omega, by omega, by omega⟩
  obtain ⟨J, R, W, ru, v, a, n⟩ := s
  obtain ⟨J', R', W', ru', v', a', n'⟩ := s'
  dsimp only at e1 e2 e3 e4
  obtain ⟨e4, e5, e6, e7⟩ := e4
  subst e1; subst e2; subst e3; subst e4; subst e5; subst e6; subst e7; rfl
theorem Is.congr {A B : List Summary} {s : Summary} (h : Is A s) (e : ∀ t, t ∈ A ↔ t ∈ B) : Is B s := by
  refine ⟨h.sort, fun x => ?_, fun x => ?_, fun x o q => ?_, fun x t ht => h.w2 x t ((e t).2 ht), ?_, fun t ht => h.ru2 t ((e t).2 ht)⟩
  · rw [h.j]; simp only [e]
  · rw [h.r]; simp only [e]
  · obtain ⟨t, ht, k⟩ := h.w1 x o q; exact ⟨t, (e t).1 ht, k⟩
  · obtain ⟨t, ht, k⟩ := h.ru1; exact ⟨t, (e t).1 ht, k⟩
theorem Is.one {t : Summary} (h : SortedS t) : Is [t] t := by
  refine ⟨h, fun x => by simp, fun x => by simp, fun x o q => ⟨t, by simp, q⟩, fun x u hu o q => ⟨o, ?_, laterB_irr o⟩, ⟨t, by simp, rfl, rfl, rfl, rfl⟩, fun u hu q => ?_⟩
  · rw [List.mem_singleton.1 hu] at q; exact q
  · rw [List.mem_singleton.1 hu] at q ⊢; exact ⟨q, laterB_irr _⟩
def maxW : Option WeightEntry → Option WeightEntry → Option WeightEntry
  | none, r => r
  | some o, none => some o
  | some o, some w => some (if laterB w o = true then w else o)
theorem lk_foldl (x : Int) : ∀ (b : List WeightEntry) {a : List WeightEntry}, StrictW a → StrictW b → lk (b.foldl weighR a) x = maxW (lk a x) (lk b x)
  | [], a, _, _ => by
    rw [List.foldl_nil, show lk [] x = none from rfl]; cases lk a x <;> rfl
  | w :: b, a, ha, hb => by
    replace hb := List.pairwise_cons.1 hb
    rw [List.foldl_cons, weighR_rec ha, lk_foldl x b (weighRec_strict w ha) hb.2, lk_weigh w x ha, lk_cons]
    by_cases e : w.server = x
    · have hn : lk b x = none := lk_none fun u hu => by have := hb.1 u hu; omega
      rw [if_pos e, if_pos e, hn]
      cases lk a x <;> rfl
    · rw [if_neg e, if_neg e]
theorem Is.join {A B : List Summary} {s t : Summary} (h : Is A s) (k : Is B t) : Is (A ++ B) (joinT s t) := by
  have hlk : ∀ x, lk (joinT s t).weights x = maxW (lk s.weights x) (lk t.weights x) := fun x => lk_foldl x t.weights h.sort.2.2 k.sort.2.2
  refine ⟨(joinS_T h.sort t).2, fun x => ?_, fun x => ?_, fun x o q => ?_, fun x u hu o' q => ?_, ?_, fun u hu q => ?_⟩
  · show x ∈ t.joined.foldl insR s.joined ↔ _
    rw [mem_foldl mem_insR, h.j, k.j]
    simp only [List.mem_append, or_and_right, exists_or]
  · show x ∈ t.removed.foldl insR s.removed ↔ _
    rw [mem_foldl mem_insR, h.r, k.r]
    simp only [List.mem_append, or_and_right, exists_or]
  · rw [hlk] at q
    cases hs : lk s.weights x with
    | none =>
      rw [hs] at q
      obtain ⟨u, hu, e⟩ := k.w1 x o q
      exact ⟨u, by simp [hu], e⟩
    | some a =>
      cases ht : lk t.weights x with
      | none =>
        rw [hs, ht] at q
        obtain ⟨u, hu, e⟩ := h.w1 x o (hs.trans q)
        exact ⟨u, by simp [hu], e⟩
      | some w =>
        rw [hs, ht] at q
        have q := Option.some.inj q
        split at q
        · obtain ⟨u, hu, e⟩ := k.w1 x o (by rw [ht, q])
          exact ⟨u, by simp [hu], e⟩
        · obtain ⟨u, hu, e⟩ := h.w1 x o (by rw [hs, q])
          exact ⟨u, by simp [hu], e⟩
  · rw [hlk]
    rcases List.mem_append.1 hu with hu | hu
    · obtain ⟨o, e, l⟩ := h.w2 x u hu o' q
      rw [e]
      cases ht : lk t.weights x with
      | none => exact ⟨o, rfl, l⟩
      | some w =>
        refine ⟨_, rfl, ?_⟩
        split
        · rename_i hw; exact laterB_tr l (laterB_lt hw)
        · exact l
    · obtain ⟨w, e, l⟩ := k.w2 x u hu o' q
      rw [e]
      cases hs : lk s.weights x with
      | none => exact ⟨w, rfl, l⟩
      | some o =>
        refine ⟨_, rfl, ?_⟩
        split
        · exact l
        · rename_i hw; exact laterB_tr l (by simpa using hw)
  · have hp : pickT s t = t ∨ pickT s t = s := by unfold pickT; split <;> simp
    show ∃ u ∈ A ++ B, (pickT s t).rule = u.rule ∧ (pickT s t).version = u.version ∧ (pickT s t).admin = u.admin ∧ (pickT s t).number = u.number
    rcases hp with e | e
    · obtain ⟨u, hu, q⟩ := k.ru1
      rw [e]; exact ⟨u, by simp [hu], q⟩
    · obtain ⟨u, hu, q⟩ := h.ru1
      rw [e]; exact ⟨u, by simp [hu], q⟩
  · show (pickT s t).rule ≠ _ ∧ laterB (originW u) (originW (pickT s t)) = false
    unfold pickT
    rcases List.mem_append.1 hu with hu | hu
    · obtain ⟨l1, l2⟩ := h.ru2 u hu q
      split
      · rename_i c
        refine ⟨c.1, laterB_tr l2 (laterB_lt (c.2.elim (fun z => absurd z l1) id))⟩
      · exact ⟨l1, l2⟩
    · obtain ⟨l1, l2⟩ := k.ru2 u hu q
      split
      · exact ⟨l1, l2⟩
      · rename_i c
        have c1 : s.rule ≠ ⟨0, 0, 0⟩ := fun z => c ⟨l1, .inl z⟩
        have c2 : laterB (originW t) (originW s) = false := by
          cases hx : laterB (originW t) (originW s)
          · rfl
          · exact absurd ⟨l1, .inr hx⟩ c
        exact ⟨c1, laterB_tr l2 c2⟩
theorem sum_is {g : View} (hg : MemOK g) {c : Config} (hc : ∀ p ∈ c, PropOK p) : Is (initS g :: c.map ofT) (sumT g c) := by
  have gen : ∀ (c : Config) (A : List Summary) (s : Summary), Is A s → (∀ p ∈ c, PropOK p) → Is (A ++ c.map ofT) (c.foldl sumTStep s) := by
    intro c
    induction c with
    | nil => intro A s h _; simpa using h
    | cons p c ih =>
      intro A s h hc
      have h2 := h.join (Is.one (ofS_T (hc p (by simp))).2)
      have := ih _ _ h2 (fun q hq => hc q (by simp [hq]))
      rw [List.append_assoc] at this
      exact this
  exact gen c [initS g] (initS g) (Is.one (initS_sorted hg)) hc
theorem ofT_org (p : Proposal) : (ofT p).rule = ⟨0, 0, 0⟩ ∨ ((ofT p).admin = p.admin ∧ (ofT p).number = p.number) := by
  have gen : ∀ (cs : List Change) (s : Summary), s.rule = ⟨0, 0, 0⟩ ∨ (s.admin = p.admin ∧ s.number = p.number) → (cs.foldl (ofTStep p) s).rule = ⟨0, 0, 0⟩ ∨ ((cs.foldl (ofTStep p) s).admin = p.admin ∧ (cs.foldl (ofTStep p) s).number = p.number) := by
    intro cs
    induction cs with
    | nil => intro s h; exact h
    | cons c cs ih =>
      intro s h
      refine ih _ ?_
      unfold ofTStep
      split
      · exact h
      · split
        · exact h
        · split
          · exact h
          · split
            · exact .inr ⟨rfl, rfl⟩
            · exact h
  exact gen p.changes sum0 (.inl rfl)
theorem ofT_lk {p : Proposal} (h : PropOK p) {x : Int} {o : WeightEntry} (e : lk (ofT p).weights x = some o) : o.admin = p.admin ∧ o.number = p.number := by
  have hI := of_full h
  rw [hI.w] at e
  have := hI.e x o e
  exact ⟨this.2.2.1, this.2.2.2.1⟩
theorem lk_mem {l : List WeightEntry} {x : Int} {o : WeightEntry} (h : lk l x = some o) : o ∈ l := List.mem_of_find?_eq_some h
theorem init_lk {g : View} {x : Int} {o : WeightEntry} (e : lk (initS g).weights x = some o) : o.version = 0 ∧ o.admin = 0 ∧ o.number = 0 := by
  have := lk_mem e
  obtain ⟨m, _, rfl⟩ := List.mem_map.1 (show o ∈ g.members.map wOf from this)
  exact ⟨rfl, rfl, rfl⟩
theorem coh_of {g : View} {c : Config} (hc : ∀ p ∈ c, PropOK p) (hd : ∀ p ∈ c, ∀ q ∈ c, p.admin = q.admin → p.number = q.number → p = q) : Coh (initS g :: c.map ofT) := by
  refine ⟨fun t ht u hu x o o' e e' l1 l2 => ?_, fun t ht u hu r1 r2 l1 l2 => ?_, fun t ht r => ?_⟩
  · obtain ⟨q1, q2, q3⟩ := laterB_eq l1 l2
    rcases List.mem_cons.1 ht with rfl | ht <;> rcases List.mem_cons.1 hu with rfl | hu
    · rw [e] at e'; exact Option.some.inj e'
    · obtain ⟨p, hp, rfl⟩ := List.mem_map.1 hu
      have := init_lk e; have := ofT_lk (hc p hp) e'; have := (hc p hp).1; omega
    · obtain ⟨p, hp, rfl⟩ := List.mem_map.1 ht
      have := init_lk e'; have := ofT_lk (hc p hp) e; have := (hc p hp).1; omega
    · obtain ⟨p, hp, rfl⟩ := List.mem_map.1 ht
      obtain ⟨q, hq, rfl⟩ := List.mem_map.1 hu
      have k1 := ofT_lk (hc p hp) e; have k2 := ofT_lk (hc q hq) e'
      obtain rfl := hd p hp q hq zo zo
      rw [e] at e'; exact Option.some.inj e'
  · obtain ⟨q1, q2, q3⟩ := laterB_eq l1 l2
    unfold originW at q1 q2 q3
    dsimp only at q1 q2 q3
    rcases List.mem_cons.1 ht with rfl | ht <;> rcases List.mem_cons.1 hu with rfl | hu
    · rfl
    · obtain ⟨p, hp, rfl⟩ := List.mem_map.1 hu
      have k := (ofT_org p).resolve_left r2
      have := (hc p hp).1
      have : (initS g).admin = 0 := rfl
      omega
    · obtain ⟨p, hp, rfl⟩ := List.mem_map.1 ht
      have k := (ofT_org p).resolve_left r1
      have := (hc p hp).1
      have : (initS g).admin = 0 := rfl
      omega
    · obtain ⟨p, hp, rfl⟩ := List.mem_map.1 ht
      obtain ⟨q, hq, rfl⟩ := List.mem_map.1 hu
      have k1 := (ofT_org p).resolve_left r1
      have k2 := (ofT_org q).resolve_left r2
      obtain rfl := hd p hp q hq zo zo
      rfl
  · rcases List.mem_cons.1 ht with rfl | ht
    · exact ⟨rfl, rfl, rfl⟩
    · obtain ⟨p, hp, rfl⟩ := List.mem_map.1 ht
      rcases (ofT_ok (hc p hp)).ru with ⟨_, k⟩ | ⟨k, _⟩
      · exact k
      · exact absurd r k
theorem genesis_mem (n : Int) : MemOK (genesisI n) := by
  have d5 := digitB n 5 4 zd
  constructor
  · intro m hm
    obtain ⟨k, hk, rfl⟩ := List.mem_map.1 (show m ∈ List.map _ _ from hm)
    have hk := List.mem_range.1 hk
    have d3 := digitB n 3 (6 + k) zd
    unfold gmI
    dsimp only
    omega
  · show (List.map _ _).Pairwise _
    rw [List.pairwise_map]
    exact List.pairwise_lt_range.imp fun h => by unfold gmI; dsimp only; omega
theorem mem_cutI {f : Nat → Nat → Proposal} {i j k : Nat} {p : Proposal} : p ∈ cut f i j k ↔ (∃ n, n < i ∧ p = f 0 n) ∨ (∃ n, n < j ∧ p = f 1 n) ∨ (∃ n, n < k ∧ p = f 2 n) := by
  simp only [cut, blk, List.mem_append, List.mem_map, List.mem_range, or_assoc, eq_comm]
theorem cut_sub {f : Nat → Nat → Proposal} {i j k i' j' k' : Nat} (h : i ≤ i' ∧ j ≤ j' ∧ k ≤ k') {p : Proposal} (hp : p ∈ cut f i j k) : p ∈ cut f i' j' k' := by
  rw [mem_cutI] at *
  rcases hp with ⟨n, hn, e⟩ | ⟨n, hn, e⟩ | ⟨n, hn, e⟩
  · exact .inl ⟨n, by omega, e⟩
  · exact .inr (.inl ⟨n, by omega, e⟩)
  · exact .inr (.inr ⟨n, by omega, e⟩)
theorem cut_union {f : Nat → Nat → Proposal} {i j k i' j' k' : Nat} {p : Proposal} : p ∈ cut f (max i i') (max j j') (max k k') ↔ p ∈ cut f i j k ∨ p ∈ cut f i' j' k' := by
  constructor
  · intro h
    rw [mem_cutI] at h
    rw [mem_cutI, mem_cutI]
    rcases h with ⟨n, hn, e⟩ | ⟨n, hn, e⟩ | ⟨n, hn, e⟩
    · by_cases q : n < i
      · exact .inl (.inl ⟨n, q, e⟩)
      · exact .inr (.inl ⟨n, by omega, e⟩)
    · by_cases q : n < j
      · exact .inl (.inr (.inl ⟨n, q, e⟩))
      · exact .inr (.inr (.inl ⟨n, by omega, e⟩))
    · by_cases q : n < k
      · exact .inl (.inr (.inr ⟨n, q, e⟩))
      · exact .inr (.inr (.inr ⟨n, by omega, e⟩))
  · rintro (h | h)
    · exact cut_sub zo h
    · exact cut_sub zo h
theorem cut_dist {f : Nat → Nat → Proposal} (hf : Nice f) {i j k : Nat} {p q : Proposal} (hp : p ∈ cut f i j k) (hq : q ∈ cut f i j k) (h1 : p.admin = q.admin) (h2 : p.number = q.number) : p = q := by
  rw [mem_cutI] at hp hq
  rcases hp with ⟨n, hn, rfl⟩ | ⟨n, hn, rfl⟩ | ⟨n, hn, rfl⟩ <;> rcases hq with ⟨m, hm, rfl⟩ | ⟨m, hm, rfl⟩ | ⟨m, hm, rfl⟩ <;> rw [(hf _ n).1, (hf _ m).1] at h1 <;> rw [(hf _ n).2, (hf _ m).2] at h2 <;> first | (exfalso; omega) | (rw [show n = m by omega])
structure Fam (f : Nat → Nat → Proposal) : Prop where
  nice : Nice f
  ok : ∀ a n, a < 3 → n < 3 → PropOK (f a n)
theorem Fam.prop {f : Nat → Nat → Proposal} (F : Fam f) {c : Config} (hc : IsCut f c) : ∀ p ∈ c, PropOK p := by
  obtain ⟨i, j, k, h, rfl⟩ := hc
  intro p hp
  obtain ⟨a, n, ha, hn, rfl⟩ := mem_cut3 h hp
  exact F.ok a n ha hn
theorem Fam.sub {f : Nat → Nat → Proposal} {c : Config} (hc : IsCut f c) : ∀ p ∈ c, p ∈ cut f 3 3 3 := by
  obtain ⟨i, j, k, h, rfl⟩ := hc
  intro p hp
  exact cut_sub zo hp
theorem Fam.coh {f : Nat → Nat → Proposal} (F : Fam f) (g : View) : Coh (initS g :: (cut f 3 3 3).map ofT) :=
  coh_of (F.prop ⟨3, 3, 3, by omega, rfl⟩) fun p hp q hq h1 h2 => cut_dist F.nice hp hq h1 h2
theorem Fam.src {f : Nat → Nat → Proposal} {g : View} {c : Config} (hc : IsCut f c) : ∀ t ∈ initS g :: c.map ofT, t ∈ initS g :: (cut f 3 3 3).map ofT := by
  intro t ht
  rcases List.mem_cons.1 ht with rfl | ht
  · simp
  · obtain ⟨p, hp, rfl⟩ := List.mem_map.1 ht
    exact List.mem_cons_of_mem _ (List.mem_map.2 ⟨p, Fam.sub hc p hp, rfl⟩)
theorem sum_union {f : Nat → Nat → Proposal} (F : Fam f) {g : View} (hg : MemOK g) {a b : Config} (ha : IsCut f a) (hb : IsCut f b) : joinT (sumT g a) (sumT g b) = sumT g (unionR a b) ∧ IsCut f (unionR a b) := by
  have ia := sum_is hg (F.prop ha)
  have ib := sum_is hg (F.prop hb)
  have hu : IsCut f (unionR a b) ∧ ∀ p, p ∈ unionR a b ↔ p ∈ a ∨ p ∈ b := by
    obtain ⟨i, j, k, h, rfl⟩ := ha
    obtain ⟨i', j', k', h', rfl⟩ := hb
    rw [unionR_cut F.nice h h']
    exact ⟨⟨_, _, _, by omega, rfl⟩, fun p => cut_union⟩
  refine ⟨?_, hu.1⟩
  have iu := sum_is hg (F.prop hu.1)
  refine ((ia.join ib).congr fun t => ?_).uniq iu ((F.coh g).mono (Fam.src hu.1))
  simp only [List.mem_append, List.mem_cons, List.mem_map, hu.2, or_and_right, exists_or]
  constructor
  · rintro ((h | h) | (h | h))
    · exact .inl h
    · exact .inr (.inl h)
    · exact .inl h
    · exact .inr (.inr h)
  · rintro (h | h | h)
    · exact .inl (.inl h)
    · exact .inl (.inr h)
    · exact .inr (.inr h)
theorem join_laws {f : Nat → Nat → Proposal} (F : Fam f) {g : View} (hg : MemOK g) {a b c : Config} (ha : IsCut f a) (hb : IsCut f b) (hc : IsCut f c) :
    joinT (sumT g a) (sumT g b) = joinT (sumT g b) (sumT g a) ∧ joinT (sumT g a) (sumT g a) = sumT g a ∧ joinT (joinT (sumT g a) (sumT g b)) (sumT g c) = joinT (sumT g a) (joinT (sumT g b) (sumT g c)) := by
  have ia := sum_is hg (F.prop ha)
  have ib := sum_is hg (F.prop hb)
  have ic := sum_is hg (F.prop hc)
  have hco := F.coh g
  have sa := Fam.src (g := g) ha
  have sb := Fam.src (g := g) hb
  have sc := Fam.src (g := g) hc
  refine ⟨?_, ?_, ?_⟩
  · exact ((ia.join ib).congr fun t => by simp only [List.mem_append]; exact or_comm).uniq (ib.join ia) (hco.mono fun t ht => (List.mem_append.1 ht).elim (sb t) (sa t))
  · exact ((ia.join ia).congr fun t => by simp only [List.mem_append, or_self]).uniq ia (hco.mono sa)
  · exact (((ia.join ib).join ic).congr fun t => by simp only [List.mem_append, or_assoc]).uniq (ia.join (ib.join ic)) (hco.mono fun t ht => (List.mem_append.1 ht).elim (sa t) (fun h => (List.mem_append.1 h).elim (sb t) (sc t)))
theorem pool_fam (l : List Int) : Fam (poolF l) := ⟨pool_nice l, fun a n ha hn => pool_ok l a n ha hn⟩
end Go.Proofs
