/- Contracts of functions and plain laws: W120, W72, W121, W74, W123, W124, W126. -/
import Derived.Test.YtmgnkabnlcapbaaGreatRows
import Derived.Test.YtmgnkabnlcapbaaGreatG5
set_option linter.unusedVariables false
set_option linter.unusedSimpArgs false
set_option maxRecDepth 8000
set_option maxHeartbeats 4000000
set_option pp.deepTerms false
set_option pp.deepTerms.threshold 6
namespace Go.Proofs
open Go.AM
attribute [local irreducible] AM.evalR AM.evalD AM.Runs AM.valK AM.dK AM.opK AM.stepR AM.CallS AM.St.Le
def LeB (a b : List Bool) : Prop := a.length = b.length ∧ ∀ i, i < a.length → a.getD i default = true → b.getD i default = true
theorem cntB_cons (x : Bool) (l : List Bool) : cntB (x :: l) = (if x = true then 1 else 0) + cntB l := by
  unfold cntB; cases x <;> simp; omega
theorem LeB.tail {x y : Bool} {a b : List Bool} (h : LeB (x :: a) (y :: b)) : (x = true → y = true) ∧ LeB a b := by
  refine ⟨fun q => ?_, by simpa using h.1, fun i hi q => ?_⟩
  · have := h.2 0 (by simp)
    simpa using this q
  · have := h.2 (i + 1) (by simp; omega)
    simpa using this (by simpa using q)
theorem cntB_mono : ∀ {a b : List Bool}, LeB a b → cntB a ≤ cntB b
  | [], b, h => by unfold cntB; simp
  | x :: a, [], h => by have := h.1; simp at this
  | x :: a, y :: b, h => by
    obtain ⟨h1, h2⟩ := h.tail
    have := cntB_mono h2
    rw [cntB_cons, cntB_cons]
    cases x
    · simp; omega
    · rw [h1 rfl]; simp; omega
theorem LeB.drop {a b : List Bool} (h : LeB a b) (n : Nat) : LeB (a.drop n) (b.drop n) := by
  refine ⟨by rw [List.length_drop, List.length_drop, h.1], fun i hi q => ?_⟩
  rw [List.length_drop] at hi
  rw [List.getD_eq_getElem?_getD, List.getElem?_drop, ← List.getD_eq_getElem?_getD] at q ⊢
  exact h.2 _ zo q
theorem LeB.take {a b : List Bool} (h : LeB a b) (n : Nat) : LeB (a.take n) (b.take n) := by
  refine ⟨by rw [List.length_take, List.length_take, h.1], fun i hi q => ?_⟩
  rw [List.length_take] at hi
  rw [List.getD_eq_getElem?_getD, List.getElem?_take_of_lt zo, ← List.getD_eq_getElem?_getD] at q ⊢
  exact h.2 _ zo q
theorem gRow_mono {a b : List Bool} (h : LeB a b) (c k : Nat) : LeB (gRow c a k) (gRow c b k) := (h.drop _).take _
theorem gridB_mono {a b : List Bool} (h : LeB a b) (c : Int) (hq : gridB c a = true) : gridB c b = true := by
  unfold gridB at hq ⊢
  split at hq
  · cases hq
  rename_i hc
  rw [if_neg hc]
  rw [Bool.and_eq_true, List.all_eq_true, List.any_eq_true, h.1] at hq
  rw [Bool.and_eq_true, List.all_eq_true, List.any_eq_true]
  obtain ⟨h1, k, hk, h2⟩ := hq
  refine ⟨fun j hj => ?_, k, hk, ?_⟩
  · have := h1 j hj
    unfold someB at this ⊢
    have hm := cntB_mono (gRow_mono h c.toNat j)
    simp only [decide_eq_true_eq] at this ⊢
    omega
  · unfold fullB at h2 ⊢
    have hm := cntB_mono (gRow_mono h c.toNat k)
    have hl := (gRow_mono h c.toNat k).1
    have hle := cntB_le (gRow c.toNat b k)
    simp only [decide_eq_true_eq] at h2 ⊢
    omega
theorem wInK_mono {ms : List Member} (hm : ∀ m ∈ ms, 0 ≤ m.weight) {a b : List Bool} (h : LeB a b) (hl : a.length = ms.length) : ∀ k, k ≤ ms.length → wInK ms a k ≤ wInK ms b k
  | 0, _ => Int.le_refl _
  | k + 1, hk => by
    have ih := wInK_mono hm h hl k zo
    have hw := hm _ (getD_in (show k < ms.length by omega))
    have hb := h.2 k zo
    rw [wInK, wInK]
    cases ha : a.getD k default
    · rw [if_neg zd]; split <;> omega
    · rw [if_pos rfl, if_pos (hb ha)]; omega
theorem quoB_mono {v : View} (hv : Light v.members) {a b : List Bool} (h : LeB a b) (hl : a.length = v.members.length) (hq : quoB v a = true) : quoB v b = true := by
  have hc := cntB_mono h
  have hw := wInK_mono (fun m hm => (hv.2 m hm).1) h hl v.members.length (Nat.le_refl _)
  unfold quoB at hq ⊢
  split at hq
  · cases hq
  rename_i h0
  rw [if_neg h0]
  split at hq
  · rename_i h1
    rw [if_pos h1]
    rw [decide_eq_true_eq] at hq ⊢; omega
  rename_i h1
  rw [if_neg h1]
  split at hq
  · rename_i h2
    rw [if_pos h2]
    rw [decide_eq_true_eq] at hq ⊢; omega
  rename_i h2
  rw [if_neg h2]
  split at hq
  · rename_i h3
    rw [if_pos h3]
    exact gridB_mono h _ hq
  rename_i h3
  rw [if_neg h3]
  split at hq
  · rename_i h4
    rw [if_pos h4]
    rw [decide_eq_true_eq] at hq ⊢; omega
  · cases hq
theorem leB_map (ms : List Member) {p q : Member → Bool} (h : ∀ m ∈ ms, p m = true → q m = true) : LeB (ms.map p) (ms.map q) := by
  refine ⟨by rw [List.length_map, List.length_map], fun i hi e => ?_⟩
  rw [List.length_map] at hi
  rw [map_getD p hi] at e
  rw [map_getD q hi]
  exact h _ (getD_in hi) e
def anyS (l : List Source) (s : Int) : Bool := l.any fun a => decide (a.server = s)
def anyF (l : List Source) (s : Int) : Bool := l.any fun a => decide (a.server = s) && a.filled
def valS (l : List Source) (s : Int) : Int := if anyF l s = true then 2 else if anyS l s = true then 1 else 0
theorem anyF_S {l : List Source} {s : Int} (h : anyF l s = true) : anyS l s = true := by
  obtain ⟨a, ha, e⟩ := List.any_eq_true.1 h
  rw [Bool.and_eq_true] at e
  exact List.any_eq_true.2 ⟨a, ha, e.1⟩
theorem getD_set {α : Type} [Inhabited α] {l : List α} {i j : Nat} {x : α} (h : j < l.length) : (l.set i x).getD j default = if i = j then x else l.getD j default := by
  rw [List.getD_eq_getElem?_getD, List.getElem?_set]
  by_cases e : i = j
  · subst e; rw [if_pos rfl, if_pos h, if_pos rfl]; rfl
  · rw [if_neg e, if_neg e, List.getD_eq_getElem?_getD]
theorem colI_val (s : Int) (hs : 1 ≤ s ∧ s ≤ 12) : ∀ (l : List Source), (colI l).getD s.toNat default = valS l s := by
  have gen : ∀ (l done : List Source) (a : List Int), a.length = 13 → a.getD s.toNat default = valS done s → (l.foldl colStep a).getD s.toNat default = valS (done ++ l) s := by
    intro l
    induction l with
    | nil => intro done a _ h; rw [List.append_nil]; exact h
    | cons x l ih =>
      intro done a hl h
      rw [List.foldl_cons]
      rw [show done ++ x :: l = (done ++ [x]) ++ l by simp]
      refine ih (done ++ [x]) _ (by rw [colStep_len]; exact hl) ?_
      have e1 : anyS (done ++ [x]) s = (anyS done s || decide (x.server = s)) := by unfold anyS; simp
      have e2 : anyF (done ++ [x]) s = (anyF done s || (decide (x.server = s) && x.filled)) := by unfold anyF; simp
      unfold colStep
      by_cases hr : x.server < 1 ∨ 12 < x.server
      · rw [if_pos hr, h]
        unfold valS
        rw [e1, e2, decide_eq_false (show ¬ x.server = s by omega)]
        simp
      · rw [if_neg hr]
        dsimp only
        by_cases e : x.server = s
        · have hfs := @anyF_S done s
          unfold valS at h ⊢
          rw [e1, e2, decide_eq_true e, e]
          cases hf : x.filled
          · rw [if_neg zd, getD_set zo, if_pos rfl, h]
            simp only [Bool.and_false, Bool.or_false, Bool.or_true, if_true]
            cases h1 : anyF done s <;> cases h2 : anyS done s <;> simp
          · rw [if_pos rfl, getD_set (by rw [List.length_set]; omega), if_pos rfl]
            simp
        · have hne : ¬ x.server.toNat = s.toNat := by omega
          unfold valS at h ⊢
          rw [e1, e2, decide_eq_false e]
          simp only [Bool.false_and, Bool.or_false]
          split
          · rw [getD_set (by rw [List.length_set]; omega), if_neg hne, getD_set zo, if_neg hne]; exact h
          · rw [getD_set zo, if_neg hne]; exact h
  intro l
  have := gen l [] ans0 rfl (by
    unfold valS anyF anyS ans0
    simp only [List.any_nil, Bool.false_eq_true, if_false]
    rw [List.getD_eq_getElem?_getD, List.getElem?_replicate, if_pos zo]; rfl)
  simpa [colI] using this
theorem mem_least (a : Int) (l : List Source) (s : Int) : s ∈ leastI a (colI l) ↔ (1 ≤ s ∧ s ≤ 12) ∧ a ≤ valS l s := by
  unfold leastI
  rw [List.mem_filter, mem_upto]
  constructor
  · rintro ⟨h1, h2⟩
    rw [decide_eq_true_eq, colI_val s h1] at h2
    exact ⟨h1, h2⟩
  · rintro ⟨h1, h2⟩
    refine ⟨h1, ?_⟩
    rw [decide_eq_true_eq, colI_val s h1]; exact h2
theorem least1 (l : List Source) (s : Int) : s ∈ leastI 1 (colI l) ↔ (1 ≤ s ∧ s ≤ 12) ∧ anyS l s = true := by
  rw [mem_least]
  unfold valS
  have := @anyF_S l s
  cases h1 : anyF l s <;> cases h2 : anyS l s <;> simp [h1, h2] at this ⊢
theorem least2 (l : List Source) (s : Int) : s ∈ leastI 2 (colI l) ↔ (1 ≤ s ∧ s ≤ 12) ∧ anyF l s = true := by
  rw [mem_least]
  unfold valS
  cases h1 : anyF l s <;> cases h2 : anyS l s <;> simp
theorem inSrv_iff {ss : List Int} {m : Member} : inSrv ss m = true ↔ m.server ∈ ss := by unfold inSrv; rw [List.contains_iff_mem]
end Go.Proofs
namespace Go.Proofs
open Go.AM
attribute [local irreducible] AM.evalR AM.evalD AM.Runs AM.valK AM.dK AM.opK AM.stepR AM.CallS AM.St.Le
theorem all_len64 {f : Nat → Nat → Proposal} (hf : Nice f) {a b : Config} (ha : IsCut f a) (hb : IsCut f b) : (allB a b).length ≤ 64 := by
  obtain ⟨i, j, k, h, rfl⟩ := ha
  obtain ⟨i', j', k', h', rfl⟩ := hb
  rw [allB_cut hf h h']
  split
  · exact allN_len f h'
  · simp
end Go.Proofs
namespace Go.Proofs
open Go.AM
attribute [local irreducible] AM.evalR AM.evalD AM.Runs AM.valK AM.dK AM.opK AM.stepR AM.CallS AM.St.Le
theorem init_ok {g : View} (h : MemOK g) (hr : RuleOK g.rule) : SumOK (initS g) := by
  refine ⟨initS_sorted h, fun x hx => ?_, fun x hx => (by cases hx), fun w hw => ?_, ⟨Int.le_refl _, Int.le_refl _, Int.le_refl _⟩, .inr ⟨rule_ne hr, hr⟩⟩
  · obtain ⟨m, hm, rfl⟩ := List.mem_map.1 (show x ∈ g.members.map (·.server) from hx)
    exact (h.1 m hm).1
  · obtain ⟨m, hm, rfl⟩ := List.mem_map.1 (show w ∈ g.members.map wOf from hw)
    exact ⟨(h.1 m hm).1, (h.1 m hm).2, Int.le_refl _, Int.le_refl _, Int.le_refl _⟩
theorem sumT_ok {g : View} (h : MemOK g) (hr : RuleOK g.rule) {c : Config} (hc : ∀ p ∈ c, PropOK p) : SumOK (sumT g c) := by
  have gen : ∀ (c : Config) (s : Summary), SumOK s → (∀ p ∈ c, PropOK p) → SumOK (c.foldl sumTStep s) := by
    intro c
    induction c with
    | nil => intro s h _; exact h
    | cons p c ih => intro s h hc; exact ih _ (join_ok h (ofT_ok (hc p (by simp)))) (fun q hq => hc q (by simp [hq]))
  exact gen c _ (init_ok h hr) hc
theorem view_rule {s : Summary} (h : SumOK s) : RuleOK (viewT s).rule := by
  show RuleOK (viewRule s.rule)
  unfold viewRule
  rcases h.ru with ⟨e, _⟩ | ⟨e, h0⟩
  · rw [if_pos e]; simp [RuleOK]
  · rw [if_neg e]; exact h0
theorem memOK_light {v : View} (h : MemOK v) : Light v.members := ⟨by have := h.len; omega, fun m hm => by have := (h.1 m hm).2; omega⟩
theorem view_good {f : Nat → Nat → Proposal} (F : Fam f) (n : Int) {c : Config} (hc : IsCut f c) : MemOK (viewOf (genesisI n) c) ∧ RuleOK (viewOf (genesisI n) c).rule := by
  rw [viewOf_T (genesis_mem n) (F.prop hc)]
  have hs := sumT_ok (genesis_mem n) (ruleI_ok n) (F.prop hc)
  exact ⟨viewT_mem hs, view_rule hs⟩
theorem fair_of {f : Nat → Nat → Proposal} (F : Fam f) (hl : Lite f) (n : Int) {a b : Config} (ha : IsCut f a) (hb : IsCut f b) : Fair (genesisI n) (allB a b) ∧ ∀ c ∈ allB a b, IsCut f c := by
  have h1 := all_is F.nice hl ha hb
  have hm : ∀ c ∈ allB a b, IsCut f c := by rw [h1.1]; exact h1.2.1
  refine ⟨⟨by have := (genesis_mem n).len; omega, by have := all_len64 F.nice ha hb; omega, fun c hc => cut_plain hl (hm c hc), fun c hc => ?_⟩, hm⟩
  have := view_good F n (hm c hc)
  exact ⟨memOK_light this.1, this.2⟩
def MoreS (a b : List Source) : Prop := ∀ s, (anyS a s = true → anyS b s = true) ∧ (anyF a s = true → anyF b s = true)
theorem got_mono {a b : List Source} (h : MoreS a b) (base c : Config) (s : Int) (hs : s ∈ gotI a base c) : s ∈ gotI b base c := by
  unfold gotI at hs ⊢
  split at hs
  · rename_i e
    rw [if_pos e]
    rw [least2] at hs ⊢
    exact ⟨hs.1, (h s).2 hs.2⟩
  · rename_i e
    rw [if_neg e]
    rw [least1] at hs ⊢
    exact ⟨hs.1, (h s).1 hs.2⟩
theorem okC_mono {g : View} {base c : Config} {a b : List Source} (hv : Light (viewOf g c).members) (h : MoreS a b) (hq : okC g base a c = true) : okC g base b c = true := by
  unfold okC at hq ⊢
  exact quoB_mono hv (leB_map _ fun m _ e => inSrv_iff.2 (got_mono h base c m.server (inSrv_iff.1 e))) (List.length_map _) hq
theorem filter_len_mono {α : Type} {l : List α} {p q : α → Bool} (h : ∀ x ∈ l, p x = true → q x = true) : (l.filter p).length ≤ (l.filter q).length := by
  induction l with
  | nil => exact Nat.le_refl _
  | cons x l ih =>
    have := ih (fun y hy => h y (by simp [hy]))
    have hx := h x (by simp)
    simp only [List.filter_cons]
    cases hp : p x
    · cases hq : q x <;> simp <;> omega
    · rw [hx hp]; simp; omega
theorem miss_mono {g : View} {base : Config} {l : List Config} (hF : Fair g l) {a b : List Source} (h : MoreS a b) : (missL g base b l).length ≤ (missL g base a l).length := by
  unfold missL
  refine filter_len_mono fun c hc e => ?_
  cases ha : okC g base a c
  · rfl
  · rw [okC_mono (hF.v c hc).1 h ha] at e; cases e
theorem more_append (a b : List Source) : MoreS a (a ++ b) := fun s => ⟨fun h => by unfold anyS at h ⊢; rw [List.any_append, h]; rfl, fun h => by unfold anyF at h ⊢; rw [List.any_append, h]; rfl⟩
theorem srcI_len (n : Int) : (srcI n).length ≤ 8 := by
  have h1 := List.length_filterMap_le (srcF n) (upto 1 8)
  rw [upto_len] at h1
  exact h1
theorem law_TallyMonotone (f : Bool) (n : Int) (l : List Int) (x y a b : Int) (hl : l.length ≤ 4611686018427387904) : AM.Fn Tryz.prog 3 [.i n, .sl f (l.map .i), .i x, .i y, .i a, .i b] (.b true) := by
  have hF := pool_fam l
  have hf := hF.nice
  have hli : Lite (poolF l) := pool_lite l
  have hpc := pool_cut l
  have hct := part_cut hf hpc y
  have hcf := part_cut hf hct x
  have s0 := hpc.small hli
  have s1 := hct.small hli
  have s2 := hcf.small hli
  have fn1 := hct.fine hf
  have hG := kit_Genesis n
  have hP := kit_Pool f l hl
  have hP1 := kit_Part false (poolI l) y zo
  have hP2 := kit_Part false (partI (poolI l) y) x zo
  generalize partI (poolI l) y = to at *
  generalize partI to x = fr at *
  have hA := interval_All false false fr to zo s1.2 zo fn1
  obtain ⟨hFa, _⟩ := fair_of hF hli n hcf hct
  have ha8 := srcI_len a
  have hb8 := srcI_len b
  have hSa := kit_Sources a
  have hSb := kit_Sources b
  have hM1 := tally_Missing false false false (genesisI n) fr to (srcI a) (allB fr to) hA hFa zo
  have hM2 := tally_Missing false false false (genesisI n) fr to (srcI a ++ srcI b) (allB fr to) hA hFa (by rw [List.length_append]; omega)
  have hC1 := tally_Complete false false false (genesisI n) fr to (srcI a) (allB fr to) hM1
  have hC2 := tally_Complete false false false (genesisI n) fr to (srcI a ++ srcI b) (allB fr to) hM2
  have hmm := miss_mono (base := fr) hFa (more_append (srcI a) (srcI b))
  unfold complB at hC1 hC2
  clear hA hFa hF hf hli hpc hct hcf fn1
  generalize missL (genesisI n) fr (srcI a) (allB fr to) = m1 at *
  generalize missL (genesisI n) fr (srcI a ++ srcI b) (allB fr to) = m2 at *
  have hcc : (withinB fr to fr && decide (m1.length = 0)) = true → (withinB fr to fr && decide (m2.length = 0)) = true := fun h => by
    rw [Bool.and_eq_true, decide_eq_true_eq] at h
    rw [h.1, decide_eq_true zo]; rfl
  generalize (withinB fr to fr && decide (m1.length = 0)) = c1 at *
  generalize (withinB fr to fr && decide (m2.length = 0)) = c2 at *
  generalize genesisI n = g at *
  generalize srcI a = sa at *
  generalize srcI b = sb at *
  generalize poolI l = p at *
  (refine spec_of_runs Tryz.func3 rfl ?_; simp only [Tryz.f3]; refine ys ?_)
  repeat' (first | refine yw ?_ | ((with_reducible refine Runs.is ?_); first | refine Runs.region (id := 0) ?_ | refine Runs.region (id := 1) ?_ | refine Runs.region (id := 2) ?_ | refine Runs.region (id := 3) ?_ | refine Runs.region (id := 4) ?_ | refine Runs.region (id := 5) ?_ | ((with_reducible refine Runs.isC ?_); refine Runs.cond rfl (zc ?_) (zc ?_) <;> intro hc <;> (try (first | contradiction | (exfalso; omega; done) | (have : hc = trivial := rfl; clear this; clear hc))))) | ((with_reducible refine r_is ?_); first | refine yr ?_ | (refine r_fn rfl (hG) HbF.h zL1 zD ?_; refine r_nn zN zH ?_) | (refine r_fn rfl (hP) HbF.h zL1 zD ?_; refine r_nn zN zH ?_) | (refine r_fn rfl (hP1) HbF.h zL2 zD ?_; refine r_nn zN zH ?_) | (refine r_fn rfl (hP2) HbF.h zL2 zD ?_; refine r_nn zN zH ?_) | (refine r_fn rfl (hSa) HbF.h zL1 zD ?_; refine r_nn zN zH ?_) | (refine r_fn rfl (hSb) HbF.h zL1 zD ?_; refine r_nn zN zH ?_) | (refine r_append_full SlF.h SlF.s ZoF.h zd rfl rfl zC zJ zS rfl (fun hn => ?_) (fun hn => ?_) <;> refine r_nn zN zH ?_)) | fail)
  · have e1 : sa = [] := List.map_eq_nil_iff.1 (by assumption)
    have e2 : sb = [] := List.map_eq_nil_iff.1 (by assumption)
    subst e1
    subst e2
    cases c1
    · repeat' (first | refine yw ?_ | ((with_reducible refine Runs.is ?_); first | refine Runs.region (id := 6) ?_ | refine Runs.region (id := 7) ?_ | refine Runs.drawn (id := 8) mixed zK ?_ | ((with_reducible refine Runs.isC ?_); refine Runs.cond rfl (zc ?_) (zc ?_) <;> intro hc <;> (try (first | contradiction | (exfalso; omega; done) | (have : hc = trivial := rfl; clear this; clear hc))))) | ((with_reducible refine r_is ?_); first | refine yr ?_ | (refine r_fn rfl (hC1) HbF.h zL4 zD ?_; refine r_nn zN zH ?_) | ((with_reducible refine r_gd ?_); (first | refine r_guardPt rfl rfl ?_ ?_ | refine r_guardNt rfl rfl ?_ ?_ | refine r_guard rfl rfl ?_ ?_) <;> intro hG <;> (try (exfalso; omega; done)) <;> refine r_nn zN zH ?_)) | ((with_reducible refine d_is ?_); first | refine yd ?_ | (refine d_fn rfl (hM1) HbF.h zL4 zD ?_; refine d_nn zN zH ?_) | (refine d_fn rfl (hM2) HbF.h zL4 zD ?_; refine d_nn zN zH ?_) | (refine d_fn rfl (law_awake18) HbF.h zL0 zD ?_; refine d_nn zN zH ?_) | ((with_reducible refine d_gd ?_); (first | refine d_guardPt rfl rfl ?_ ?_ | refine d_guardNt rfl rfl ?_ ?_ | refine d_guard rfl rfl ?_ ?_) <;> intro hG <;> (try (exfalso; omega; done)) <;> refine d_nn zN zH ?_)) | fail)
      all_goals ((refine Runs.ret1 Tryz.func3 rfl zM zD ?_; try exact zX))
    · rw [hcc rfl] at hC2
      repeat' (first | refine yw ?_ | ((with_reducible refine Runs.is ?_); first | refine Runs.region (id := 6) ?_ | refine Runs.region (id := 7) ?_ | refine Runs.drawn (id := 8) mixed zK ?_ | ((with_reducible refine Runs.isC ?_); refine Runs.cond rfl (zc ?_) (zc ?_) <;> intro hc <;> (try (first | contradiction | (exfalso; omega; done) | (have : hc = trivial := rfl; clear this; clear hc))))) | ((with_reducible refine r_is ?_); first | refine yr ?_ | (refine r_fn rfl (hC1) HbF.h zL4 zD ?_; refine r_nn zN zH ?_) | (refine r_fn rfl (hC2) HbF.h zL4 zD ?_; refine r_nn zN zH ?_) | ((with_reducible refine r_gd ?_); (first | refine r_guardPt rfl rfl ?_ ?_ | refine r_guardNt rfl rfl ?_ ?_ | refine r_guard rfl rfl ?_ ?_) <;> intro hG <;> (try (exfalso; omega; done)) <;> refine r_nn zN zH ?_)) | ((with_reducible refine d_is ?_); first | refine yd ?_ | (refine d_fn rfl (hM1) HbF.h zL4 zD ?_; refine d_nn zN zH ?_) | (refine d_fn rfl (hM2) HbF.h zL4 zD ?_; refine d_nn zN zH ?_) | (refine d_fn rfl (law_awake18) HbF.h zL0 zD ?_; refine d_nn zN zH ?_) | ((with_reducible refine d_gd ?_); (first | refine d_guardPt rfl rfl ?_ ?_ | refine d_guardNt rfl rfl ?_ ?_ | refine d_guard rfl rfl ?_ ?_) <;> intro hG <;> (try (exfalso; omega; done)) <;> refine d_nn zN zH ?_)) | fail)
      all_goals ((refine Runs.ret1 Tryz.func3 rfl zM zD ?_; try exact zX))
  · have e1 : sa = [] := List.map_eq_nil_iff.1 (by assumption)
    subst e1
    rw [List.nil_append] at hM2 hC2
    (refine Runs.weaken (St.Le.freeze_lst 36 rfl) ?_; refine yf ?_)
    cases c1
    · repeat' (first | refine yw ?_ | ((with_reducible refine Runs.is ?_); first | refine Runs.region (id := 6) ?_ | refine Runs.region (id := 7) ?_ | refine Runs.drawn (id := 8) mixed zK ?_ | ((with_reducible refine Runs.isC ?_); refine Runs.cond rfl (zc ?_) (zc ?_) <;> intro hc <;> (try (first | contradiction | (exfalso; omega; done) | (have : hc = trivial := rfl; clear this; clear hc))))) | ((with_reducible refine r_is ?_); first | refine yr ?_ | (refine r_fn rfl (hC1) HbF.h zL4 zD ?_; refine r_nn zN zH ?_) | ((with_reducible refine r_gd ?_); (first | refine r_guardPt rfl rfl ?_ ?_ | refine r_guardNt rfl rfl ?_ ?_ | refine r_guard rfl rfl ?_ ?_) <;> intro hG <;> (try (exfalso; omega; done)) <;> refine r_nn zN zH ?_)) | ((with_reducible refine d_is ?_); first | refine yd ?_ | (refine d_fn rfl (hM1) HbF.h zL4 zD ?_; refine d_nn zN zH ?_) | (refine d_fn rfl (hM2) HbF.h zL4 zD ?_; refine d_nn zN zH ?_) | (refine d_fn rfl (law_awake18) HbF.h zL0 zD ?_; refine d_nn zN zH ?_) | ((with_reducible refine d_gd ?_); (first | refine d_guardPt rfl rfl ?_ ?_ | refine d_guardNt rfl rfl ?_ ?_ | refine d_guard rfl rfl ?_ ?_) <;> intro hG <;> (try (exfalso; omega; done)) <;> refine d_nn zN zH ?_)) | fail)
      all_goals ((refine Runs.ret1 Tryz.func3 rfl zM zD ?_; try exact zX))
    · rw [hcc rfl] at hC2
      repeat' (first | refine yw ?_ | ((with_reducible refine Runs.is ?_); first | refine Runs.region (id := 6) ?_ | refine Runs.region (id := 7) ?_ | refine Runs.drawn (id := 8) mixed zK ?_ | ((with_reducible refine Runs.isC ?_); refine Runs.cond rfl (zc ?_) (zc ?_) <;> intro hc <;> (try (first | contradiction | (exfalso; omega; done) | (have : hc = trivial := rfl; clear this; clear hc))))) | ((with_reducible refine r_is ?_); first | refine yr ?_ | (refine r_fn rfl (hC1) HbF.h zL4 zD ?_; refine r_nn zN zH ?_) | (refine r_fn rfl (hC2) HbF.h zL4 zD ?_; refine r_nn zN zH ?_) | ((with_reducible refine r_gd ?_); (first | refine r_guardPt rfl rfl ?_ ?_ | refine r_guardNt rfl rfl ?_ ?_ | refine r_guard rfl rfl ?_ ?_) <;> intro hG <;> (try (exfalso; omega; done)) <;> refine r_nn zN zH ?_)) | ((with_reducible refine d_is ?_); first | refine yd ?_ | (refine d_fn rfl (hM1) HbF.h zL4 zD ?_; refine d_nn zN zH ?_) | (refine d_fn rfl (hM2) HbF.h zL4 zD ?_; refine d_nn zN zH ?_) | (refine d_fn rfl (law_awake18) HbF.h zL0 zD ?_; refine d_nn zN zH ?_) | ((with_reducible refine d_gd ?_); (first | refine d_guardPt rfl rfl ?_ ?_ | refine d_guardNt rfl rfl ?_ ?_ | refine d_guard rfl rfl ?_ ?_) <;> intro hG <;> (try (exfalso; omega; done)) <;> refine d_nn zN zH ?_)) | fail)
      all_goals ((refine Runs.ret1 Tryz.func3 rfl zM zD ?_; try exact zX))
  · rw [← List.map_append]
    (refine Runs.weaken (St.Le.freeze_lst 33 rfl) ?_; refine yf ?_)
    cases c1
    · repeat' (first | refine yw ?_ | ((with_reducible refine Runs.is ?_); first | refine Runs.region (id := 6) ?_ | refine Runs.region (id := 7) ?_ | refine Runs.drawn (id := 8) mixed zK ?_ | ((with_reducible refine Runs.isC ?_); refine Runs.cond rfl (zc ?_) (zc ?_) <;> intro hc <;> (try (first | contradiction | (exfalso; omega; done) | (have : hc = trivial := rfl; clear this; clear hc))))) | ((with_reducible refine r_is ?_); first | refine yr ?_ | (refine r_fn rfl (hC1) HbF.h zL4 zD ?_; refine r_nn zN zH ?_) | ((with_reducible refine r_gd ?_); (first | refine r_guardPt rfl rfl ?_ ?_ | refine r_guardNt rfl rfl ?_ ?_ | refine r_guard rfl rfl ?_ ?_) <;> intro hG <;> (try (exfalso; omega; done)) <;> refine r_nn zN zH ?_)) | ((with_reducible refine d_is ?_); first | refine yd ?_ | (refine d_fn rfl (hM1) HbF.h zL4 zD ?_; refine d_nn zN zH ?_) | (refine d_fn rfl (hM2) HbF.h zL4 zD ?_; refine d_nn zN zH ?_) | (refine d_fn rfl (law_awake18) HbF.h zL0 zD ?_; refine d_nn zN zH ?_) | ((with_reducible refine d_gd ?_); (first | refine d_guardPt rfl rfl ?_ ?_ | refine d_guardNt rfl rfl ?_ ?_ | refine d_guard rfl rfl ?_ ?_) <;> intro hG <;> (try (exfalso; omega; done)) <;> refine d_nn zN zH ?_)) | fail)
      all_goals ((refine Runs.ret1 Tryz.func3 rfl zM zD ?_; try exact zX))
    · rw [hcc rfl] at hC2
      repeat' (first | refine yw ?_ | ((with_reducible refine Runs.is ?_); first | refine Runs.region (id := 6) ?_ | refine Runs.region (id := 7) ?_ | refine Runs.drawn (id := 8) mixed zK ?_ | ((with_reducible refine Runs.isC ?_); refine Runs.cond rfl (zc ?_) (zc ?_) <;> intro hc <;> (try (first | contradiction | (exfalso; omega; done) | (have : hc = trivial := rfl; clear this; clear hc))))) | ((with_reducible refine r_is ?_); first | refine yr ?_ | (refine r_fn rfl (hC1) HbF.h zL4 zD ?_; refine r_nn zN zH ?_) | (refine r_fn rfl (hC2) HbF.h zL4 zD ?_; refine r_nn zN zH ?_) | ((with_reducible refine r_gd ?_); (first | refine r_guardPt rfl rfl ?_ ?_ | refine r_guardNt rfl rfl ?_ ?_ | refine r_guard rfl rfl ?_ ?_) <;> intro hG <;> (try (exfalso; omega; done)) <;> refine r_nn zN zH ?_)) | ((with_reducible refine d_is ?_); first | refine yd ?_ | (refine d_fn rfl (hM1) HbF.h zL4 zD ?_; refine d_nn zN zH ?_) | (refine d_fn rfl (hM2) HbF.h zL4 zD ?_; refine d_nn zN zH ?_) | (refine d_fn rfl (law_awake18) HbF.h zL0 zD ?_; refine d_nn zN zH ?_) | ((with_reducible refine d_gd ?_); (first | refine d_guardPt rfl rfl ?_ ?_ | refine d_guardNt rfl rfl ?_ ?_ | refine d_guard rfl rfl ?_ ?_) <;> intro hG <;> (try (exfalso; omega; done)) <;> refine d_nn zN zH ?_)) | fail)
      all_goals ((refine Runs.ret1 Tryz.func3 rfl zM zD ?_; try exact zX))
end Go.Proofs
namespace Go.Proofs
open Go.AM
attribute [local irreducible] AM.evalR AM.evalD AM.Runs AM.valK AM.dK AM.opK AM.stepR AM.CallS AM.St.Le
theorem row_own : ownKnob Tryz.prog.godebug = none := by kernel_rfl
theorem row_laid : laidOutB Tryz.prog = true := by kernel_rfl
theorem row_bool : Tryz.prog.underlying 4 = some .bool := by kernel_rfl
theorem row_int : Tryz.prog.underlying 3 = some (.int .i64) := by kernel_rfl
def I64 (z : Int) : Prop := -9223372036854775808 ≤ z ∧ z ≤ 9223372036854775807
theorem wf_i64 {z : Int} (h : (Lit.int .i64 z).wf = true) : I64 z := by
  simp only [Lit.wf, Bool.and_eq_true, decide_eq_true_eq] at h
  exact h
theorem opI : Opens Tryz.prog 3 1 (fun vs => ∃ z, I64 z ∧ vs = [V.i z]) := (opens_int row_int (by kernel_rfl)).imp fun vs ⟨z, h, e⟩ => ⟨z, wf_i64 h, e⟩
theorem opIs : Opens Tryz.prog 22 1 (fun vs => ∃ l : List Int, l.length ≤ 4611686018427387904 ∧ vs = [inV l]) := (opens_slice false (e := 3) (by kernel_rfl) (by kernel_rfl) opI zd (by kernel_rfl) (by rintro _ c ⟨z, _, rfl⟩; rfl)).imp fun vs ⟨ess, h1, h2, e⟩ => by
  obtain ⟨xs, e1, _, e2⟩ := lists_of (f := V.i) (ok := fun _ => True) (ag := false) (ess := ess) fun c hc => by obtain ⟨z, _, rfl⟩ := h1 c hc; exact ⟨z, trivial, rfl⟩
  have : reachBytes = 140737488351232 := rfl
  exact ⟨xs, by omega, by rw [e, e1]⟩
theorem oaI : OpensV Tryz.prog 3 (fun u => ∃ z, I64 z ∧ u = .i z) := fun H enc W base v d ps a b c d' => (opensV_int row_int (by kernel_rfl) H enc W base v d ps a b c d').imp fun u q => ⟨q.1, q.2.imp fun z r => ⟨wf_i64 r.1, r.2⟩⟩
theorem oaIs : OpensV Tryz.prog 22 (fun u => ∃ l : List Int, l.length ≤ 4611686018427387904 ∧ u = inV l) := opIs.sl (e := 3) (by kernel_rfl) fun u ⟨l, h, e⟩ => ⟨l, h, by simpa using e⟩
end Go.Proofs
namespace Go.Proofs
open Go.AM
attribute [local irreducible] AM.evalR AM.evalD AM.Runs AM.valK AM.dK AM.opK AM.stepR AM.CallS AM.St.Le
theorem miss_none {g : View} {base : Config} {acks : List Source} {l : List Config} (h : (missL g base acks l).length = 0) : ∀ c ∈ l, okC g base acks c = true := by
  intro c hc
  have h2 := List.eq_nil_of_length_eq_zero h
  unfold missL at h2
  rw [List.filter_eq_nil_iff] at h2
  have := h2 c hc
  cases hx : okC g base acks c
  · rw [hx] at this; exact absurd rfl this
  · rfl
theorem mem_chosen {l : List Source} {fl : Bool} {s : Int} : s ∈ chosenR l fl ↔ ∃ a ∈ l, a.server = s ∧ (fl = true → a.filled = true) := by
  unfold chosenR
  rw [List.mem_map]
  constructor
  · rintro ⟨a, ha, e⟩
    rw [List.mem_filter] at ha
    refine ⟨a, ha.1, e, fun h => ?_⟩
    rw [h] at ha
    simpa using ha.2
  · rintro ⟨a, ha, e, h⟩
    refine ⟨a, List.mem_filter.2 ⟨ha, ?_⟩, e⟩
    cases fl
    · rfl
    · simp [h rfl]
theorem got_chosen {acks : List Source} {base c : Config} {s : Int} (h : s ∈ gotI acks base c) : s ∈ chosenR acks false := by
  have key : anyS acks s = true := by
    unfold gotI at h
    split at h
    · rw [least2] at h; exact anyF_S h.2
    · rw [least1] at h; exact h.2
  obtain ⟨a, ha, e⟩ := List.any_eq_true.1 key
  exact mem_chosen.2 ⟨a, ha, of_decide_eq_true e, fun q => by cases q⟩
theorem got_filled {acks : List Source} {base c : Config} {s : Int} (he : eqvB c base = true) (h : s ∈ gotI acks base c) : s ∈ chosenR acks true := by
  unfold gotI at h
  rw [if_pos he, least2] at h
  obtain ⟨a, ha, e⟩ := List.any_eq_true.1 h.2
  rw [Bool.and_eq_true] at e
  exact mem_chosen.2 ⟨a, ha, of_decide_eq_true e.1, fun _ => e.2⟩
theorem ok_chosen {g : View} {base c : Config} {acks : List Source} (hv : Light (viewOf g c).members) (h : okC g base acks c = true) : quoB (viewOf g c) ((viewOf g c).members.map (inSrv (chosenR acks false))) = true :=
  quoB_mono hv (leB_map _ fun m _ e => inSrv_iff.2 (got_chosen (inSrv_iff.1 e))) (List.length_map _) h
theorem ok_filled {g : View} {base c : Config} {acks : List Source} (hv : Light (viewOf g c).members) (he : eqvB c base = true) (h : okC g base acks c = true) : quoB (viewOf g c) ((viewOf g c).members.map (inSrv (chosenR acks true))) = true :=
  quoB_mono hv (leB_map _ fun m _ e => inSrv_iff.2 (got_filled he (inSrv_iff.1 e))) (List.length_map _) h
def andL (a b : List Bool) : List Bool := List.zipWith (fun x y => x && y) a b
theorem andL_map (ms : List Member) (p q : Member → Bool) : andL (ms.map p) (ms.map q) = ms.map fun m => p m && q m := by
  induction ms with
  | nil => rfl
  | cons m ms ih => simp only [List.map_cons, andL, List.zipWith_cons_cons]; congr 1
theorem cnt_meet : ∀ (a b : List Bool), a.length = b.length → cntB a + cntB b ≤ a.length + cntB (andL a b)
  | [], b, h => by
    have : b = [] := List.eq_nil_of_length_eq_zero h.symm
    subst this; exact Nat.le_refl _
  | x :: a, [], h => by simp at h
  | x :: a, y :: b, h => by
    have ih := cnt_meet a b (by simpa using h)
    unfold andL at ih ⊢
    rw [List.zipWith_cons_cons, cntB_cons, cntB_cons, cntB_cons, List.length_cons]
    cases x <;> cases y <;> simp <;> omega
theorem gRow_and {a b : List Bool} (c k : Nat) : gRow c (andL a b) k = andL (gRow c a k) (gRow c b k) := by
  unfold gRow andL
  rw [List.drop_zipWith, List.take_zipWith]
theorem cntB_append (a b : List Bool) : cntB (a ++ b) = cntB a + cntB b := by unfold cntB; rw [List.filter_append, List.length_append]
theorem cntB_row (c : Nat) (l : List Bool) (k : Nat) : cntB (gRow c l k) ≤ cntB l := by
  unfold gRow
  have h1 := cntB_append (l.take (k * c)) (l.drop (k * c))
  rw [List.take_append_drop] at h1
  have h2 := cntB_append ((l.drop (k * c)).take c) ((l.drop (k * c)).drop c)
  rw [List.take_append_drop] at h2
  omega
theorem cntB_zero {l : List Bool} (h : cntB l = 0) (i : Nat) : l.getD i default = false := by
  unfold cntB at h
  have h2 := List.eq_nil_of_length_eq_zero h
  rw [List.filter_eq_nil_iff] at h2
  rw [List.getD_eq_getElem?_getD]
  cases hx : l[i]? with
  | none => rfl
  | some b =>
    have := h2 b (List.mem_of_getElem? hx)
    cases b
    · rfl
    · exact absurd rfl this
theorem andL_get {a b : List Bool} (h : a.length = b.length) {i : Nat} (hi : i < a.length) : (andL a b).getD i default = (a.getD i default && b.getD i default) := by
  unfold andL
  rw [List.getD_eq_getElem?_getD, List.getElem?_zipWith, List.getD_eq_getElem?_getD, List.getD_eq_getElem?_getD, List.getElem?_eq_getElem hi, List.getElem?_eq_getElem (show i < b.length by omega)]; rfl
theorem wIn_meet {ms : List Member} (hm : ∀ m ∈ ms, 0 ≤ m.weight) {a b : List Bool} (h : a.length = b.length) (hl : a.length = ms.length) : ∀ k, k ≤ ms.length → wInK ms a k + wInK ms b k ≤ wAllK ms k + wInK ms (andL a b) k
  | 0, _ => by simp [wInK, wAllK]
  | k + 1, hk => by
    have ih := wIn_meet hm h hl k zo
    have hw := hm _ (getD_in (show k < ms.length by omega))
    rw [wInK, wInK, wInK, wAllK, andL_get h zo]
    generalize (ms.getD k default).weight = w at *
    cases a.getD k default <;> cases b.getD k default <;> simp <;> omega
theorem wIn_zero {ms : List Member} {a : List Bool} (h : cntB a = 0) : ∀ k, wInK ms a k = 0
  | 0 => rfl
  | k + 1 => by rw [wInK, wIn_zero h k, cntB_zero h k, if_neg zd]; rfl
theorem quorum_meet {v : View} (hv : Light v.members) (hr : RuleOK v.rule) {a b : List Bool} (ha : a.length = v.members.length) (hb : b.length = v.members.length) (h1 : quoB v a = true) (h2 : quoB v b = true) : v.rule.faulty < (cntB (andL a b) : Nat) := by
  obtain ⟨r1, r2, r3, r4, r5⟩ := hr
  have hi := cnt_meet a b zo
  unfold quoB at h1 h2
  by_cases h0 : v.members.length = 0
  · rw [if_pos h0] at h1; cases h1
  rw [if_neg h0] at h1 h2
  by_cases k1 : v.rule.kind = 1
  · rw [if_pos k1, decide_eq_true_eq] at h1 h2
    have := r5 zo; omega
  rw [if_neg k1] at h1 h2
  by_cases k2 : v.rule.kind = 2
  · rw [if_pos k2, decide_eq_true_eq] at h1 h2
    have hf := r5 zo
    have hw := wIn_meet (fun m hm => (hv.2 m hm).1) (show a.length = b.length by omega) ha v.members.length (Nat.le_refl _)
    by_cases hz : cntB (andL a b) = 0
    · rw [wIn_zero hz] at hw; omega
    · omega
  rw [if_neg k2] at h1 h2
  by_cases k3 : v.rule.kind = 3
  · rw [if_pos k3] at h1 h2
    have hf := r5 zo
    unfold gridB at h1 h2
    rw [if_neg (by have := r2 k3; omega), Bool.and_eq_true, List.all_eq_true, List.any_eq_true] at h1 h2
    obtain ⟨_, k, hk, hfu⟩ := h1
    have hs := h2.1 k (by rw [hb, ← ha]; exact hk)
    unfold fullB at hfu
    unfold someB at hs
    rw [decide_eq_true_eq] at hfu hs
    have hl : (gRow v.rule.columns.toNat a k).length = (gRow v.rule.columns.toNat b k).length := by rw [gRow_len, gRow_len]; omega
    have hm := cnt_meet _ _ hl
    rw [← gRow_and] at hm
    have := cntB_row v.rule.columns.toNat (andL a b) k
    omega
  rw [if_neg k3] at h1 h2
  have k4 : v.rule.kind = 4 := by omega
  rw [if_pos k4, decide_eq_true_eq] at h1 h2
  have := r4 k4
  omega
end Go.Proofs
namespace Go.Proofs
open Go.AM
attribute [local irreducible] AM.evalR AM.evalD AM.Runs AM.valK AM.dK AM.opK AM.stepR AM.CallS AM.St.Le
theorem cut_in {f : Nat → Nat → Proposal} (hf : Nice f) {i j k a b c i' j' k' : Nat} (h1 : i ≤ a ∧ j ≤ b ∧ k ≤ c) (h2 : a ≤ i' ∧ b ≤ j' ∧ c ≤ k') (h3 : i' < 4 ∧ j' < 4 ∧ k' < 4) : cut f a b c ∈ allB (cut f i j k) (cut f i' j' k') := by
  rw [allB_cut hf zo h3, if_pos zo]
  simp only [allN, List.mem_flatMap, List.mem_map, mem_upto]
  exact ⟨a, by omega, b, by omega, c, by omega, by simp⟩
theorem eqv_self {f : Nat → Nat → Proposal} (hf : Nice f) {c : Config} (hc : IsCut f c) : eqvB c c = true := by
  obtain ⟨i, j, k, h, rfl⟩ := hc
  unfold eqvB
  rw [(contains_cut hf h h).1, decide_eq_true zo]; rfl
theorem part_in {f : Nat → Nat → Proposal} (hf : Nice f) {c : Config} (hc : IsCut f c) (x : Int) : partI c x ∈ allB (partI c x) c := by
  obtain ⟨i, j, k, i', j', k', hle, h', rfl, hp⟩ := part_sub hf hc x
  rw [hp]
  exact cut_in hf zo hle h'
theorem viewOf_fn (f : Bool) {F : Nat → Nat → Proposal} (hF : Fam F) (hl : Lite F) (n : Int) {c : Config} (hc : IsCut F c) : AM.Fn Tryz.prog 15 [viV (genesisI n), .sl f (c.map prV)] (viV (viewOf (genesisI n) c)) := by
  have h := ref_ViewOf f (genesisI n) c (by have := (genesis_mem n).len; omega) (cut_plain hl hc).1 (cut_plain hl hc).2
  rw [← viewOf_T (genesis_mem n) (hF.prop hc)] at h
  exact h
theorem law_TallyCovers (f : Bool) (n : Int) (l : List Int) (x y z a : Int) (hl : l.length ≤ 4611686018427387904) : AM.Fn Tryz.prog 4 [.i n, .sl f (l.map .i), .i x, .i y, .i z, .i a] (.b true) := by
  have hF := pool_fam l
  have hf := hF.nice
  have hli : Lite (poolF l) := pool_lite l
  have hpc := pool_cut l
  have hct := part_cut hf hpc y
  have hcf := part_cut hf hct x
  have hcz := part_cut hf hct z
  have s0 := hpc.small hli
  have s1 := hct.small hli
  have s2 := hcf.small hli
  have s3 := hcz.small hli
  have fn1 := hct.fine hf
  have hG := kit_Genesis n
  have hP := kit_Pool f l hl
  have hP1 := kit_Part false (poolI l) y zo
  have hP2 := kit_Part false (partI (poolI l) y) x zo
  have hP3 := kit_Part false (partI (poolI l) y) z zo
  generalize partI (poolI l) y = to at *
  obtain ⟨hcm, hmid, _, _⟩ := span_facts hf hct x z
  have hfin := part_in hf hct x
  have hU := ref_Union false false (partI to x) (partI to z) zo zo
  generalize partI to x = fr at *
  generalize partI to z = pz at *
  have hA := interval_All false false fr to zo s1.2 zo fn1
  obtain ⟨hFa, _⟩ := fair_of hF hli n hcf hct
  have ha8 := srcI_len a
  have hSa := kit_Sources a
  have hM1 := tally_Missing false false false (genesisI n) fr to (srcI a) (allB fr to) hA hFa zo
  have hC1 := tally_Complete false false false (genesisI n) fr to (srcI a) (allB fr to) hM1
  have hV1 := viewOf_fn false hF hli n hcm
  have hV2 := viewOf_fn false hF hli n hcf
  have g1 := view_good hF n hcm
  have g2 := view_good hF n hcf
  have hQ1 := ref_IsQuorum false (viewOf (genesisI n) (unionR fr pz)) (chosenR (srcI a) false) (memOK_light g1.1) g1.2
  have hQ2 := ref_IsQuorum false (viewOf (genesisI n) fr) (chosenR (srcI a) true) (memOK_light g2.1) g2.2
  have hX1 := ref_Chosen false (srcI a) false zo
  have hX2 := ref_Chosen false (srcI a) true zo
  have hcc : complB (genesisI n) fr to (srcI a) (allB fr to) = true → quoB (viewOf (genesisI n) (unionR fr pz)) ((viewOf (genesisI n) (unionR fr pz)).members.map (inSrv (chosenR (srcI a) false))) = true ∧ quoB (viewOf (genesisI n) fr) ((viewOf (genesisI n) fr).members.map (inSrv (chosenR (srcI a) true))) = true := fun h => by
    unfold complB at h
    rw [Bool.and_eq_true, decide_eq_true_eq] at h
    have hall := miss_none h.2
    exact ⟨ok_chosen (memOK_light g1.1) (hall _ hmid), ok_filled (memOK_light g2.1) (eqv_self hf hcf) (hall _ hfin)⟩
  generalize complB (genesisI n) fr to (srcI a) (allB fr to) = c1 at *
  generalize quoB (viewOf (genesisI n) (unionR fr pz)) ((viewOf (genesisI n) (unionR fr pz)).members.map (inSrv (chosenR (srcI a) false))) = q1 at *
  generalize quoB (viewOf (genesisI n) fr) ((viewOf (genesisI n) fr).members.map (inSrv (chosenR (srcI a) true))) = q2 at *
  clear g1 g2 hA hFa hM1 hmid hfin fn1 hcm hcf hct hcz hpc hF hf hli
  generalize viewOf (genesisI n) (unionR fr pz) = v1 at *
  generalize viewOf (genesisI n) fr = v2 at *
  generalize genesisI n = g at *
  generalize chosenR (srcI a) false = k1 at *
  generalize chosenR (srcI a) true = k2 at *
  generalize srcI a = sa at *
  generalize poolI l = p at *
  generalize unionR fr pz = mid at *
  cases c1
  · (refine spec_of_runs Tryz.func4 rfl ?_; simp only [Tryz.f4]; refine ys ?_)
    repeat' (first | refine yw ?_ | ((with_reducible refine Runs.is ?_); first | refine Runs.region (id := 0) ?_ | refine Runs.region (id := 1) ?_ | refine Runs.region (id := 2) ?_ | refine Runs.region (id := 3) ?_ | refine Runs.region (id := 4) ?_ | refine Runs.region (id := 5) ?_ | refine Runs.region (id := 6) ?_ | refine Runs.region (id := 7) ?_ | ((with_reducible refine Runs.isC ?_); refine Runs.cond rfl (zc ?_) (zc ?_) <;> intro hc <;> (try (first | contradiction | (exfalso; omega; done) | (have : hc = trivial := rfl; clear this; clear hc))))) | ((with_reducible refine r_is ?_); first | refine yr ?_ | (refine r_fn rfl (hG) HbF.h zL1 zD ?_; refine r_nn zN zH ?_) | (refine r_fn rfl (hP) HbF.h zL1 zD ?_; refine r_nn zN zH ?_) | (refine r_fn rfl (hP1) HbF.h zL2 zD ?_; refine r_nn zN zH ?_) | (refine r_fn rfl (hP2) HbF.h zL2 zD ?_; refine r_nn zN zH ?_) | (refine r_fn rfl (hP3) HbF.h zL2 zD ?_; refine r_nn zN zH ?_) | (refine r_fn rfl (hU) HbF.h zL2 zD ?_; refine r_nn zN zH ?_) | (refine r_fn rfl (hSa) HbF.h zL1 zD ?_; refine r_nn zN zH ?_) | (refine r_fn rfl (hC1) HbF.h zL4 zD ?_; refine r_nn zN zH ?_) | (refine r_fn rfl (law_awake18) HbF.h zL0 zD ?_; refine r_nn zN zH ?_)) | fail)
    all_goals ((refine Runs.ret1 Tryz.func4 rfl zM zD ?_; try exact zX))
  · obtain ⟨rfl, rfl⟩ := hcc rfl
    (refine spec_of_runs Tryz.func4 rfl ?_; simp only [Tryz.f4]; refine ys ?_)
    repeat' (first | refine yw ?_ | ((with_reducible refine Runs.is ?_); first | refine Runs.region ?_ | ((with_reducible refine Runs.isC ?_); refine Runs.cond rfl (zc ?_) (zc ?_) <;> intro hc <;> (try (first | contradiction | (exfalso; omega; done) | (have : hc = trivial := rfl; clear this; clear hc))))) | ((with_reducible refine r_is ?_); first | refine yr ?_ | (refine r_fn rfl (hG) HbF.h zL1 zD ?_; refine r_nn zN zH ?_) | (refine r_fn rfl (hP) HbF.h zL1 zD ?_; refine r_nn zN zH ?_) | (refine r_fn rfl (hP1) HbF.h zL2 zD ?_; refine r_nn zN zH ?_) | (refine r_fn rfl (hP2) HbF.h zL2 zD ?_; refine r_nn zN zH ?_) | (refine r_fn rfl (hP3) HbF.h zL2 zD ?_; refine r_nn zN zH ?_) | (refine r_fn rfl (hU) HbF.h zL2 zD ?_; refine r_nn zN zH ?_) | (refine r_fn rfl (hSa) HbF.h zL1 zD ?_; refine r_nn zN zH ?_) | (refine r_fn rfl (hC1) HbF.h zL4 zD ?_; refine r_nn zN zH ?_) | (refine r_fn rfl (law_awake18) HbF.h zL0 zD ?_; refine r_nn zN zH ?_) | (refine r_fn rfl (hV1) HbF.h zL2 zD ?_; refine r_nn zN zH ?_) | (refine r_fn rfl (hV2) HbF.h zL2 zD ?_; refine r_nn zN zH ?_) | (refine r_fn rfl (hX1) HbF.h zL2 zD ?_; refine r_nn zN zH ?_) | (refine r_fn rfl (hX2) HbF.h zL2 zD ?_; refine r_nn zN zH ?_) | (refine r_fn rfl (hQ1) HbF.h zL2 zD ?_; refine r_nn zN zH ?_) | (refine r_fn rfl (hQ2) HbF.h zL2 zD ?_; refine r_nn zN zH ?_) | ((with_reducible refine r_gd ?_); (first | refine r_guardPt rfl rfl ?_ ?_ | refine r_guardNt rfl rfl ?_ ?_ | refine r_guard rfl rfl ?_ ?_) <;> intro hG <;> (try (exfalso; omega; done)) <;> refine r_nn zN zH ?_)) | fail)
    all_goals ((refine Runs.ret1 Tryz.func4 rfl zM zD ?_; try exact zX))
end Go.Proofs
namespace Go.Proofs
open Go.AM
attribute [local irreducible] AM.evalR AM.evalD AM.Runs AM.valK AM.dK AM.opK AM.stepR AM.CallS AM.St.Le
theorem meet_facts {f : Nat → Nat → Proposal} (hf : Nice f) {p : Config} (hp : IsCut f p) (x y w : Int) :
    IsCut f (partI p x) ∧ IsCut f (partI (partI p x) y) ∧ IsCut f (unionR (partI p x) (partI p w)) ∧ partI p x ∈ allB (partI (partI p x) y) (unionR (partI p x) (partI p w)) := by
  have hm := part_cut hf hp x
  have hl := part_cut hf hm y
  refine ⟨hm, hl, ?_⟩
  obtain ⟨i, j, k, i', j', k', hle, h', e1, e2⟩ := part_sub hf hm y
  obtain ⟨a, b, c, ha, e3⟩ := part_cut hf hp w
  rw [e2, e3, e1, unionR_cut hf h' ha]
  exact ⟨⟨_, _, _, by omega, rfl⟩, cut_in hf zo zo zo⟩
theorem cnt_take {l : List Bool} {i : Nat} (h : i < l.length) : cntB (l.take (i + 1)) = cntB (l.take i) + (if l.getD i default = true then 1 else 0) := by
  rw [List.take_add_one, List.getElem?_eq_getElem h, cntB_append, List.getD_eq_getElem?_getD, List.getElem?_eq_getElem h]
  simp only [Option.toList, Option.getD]
  rw [cntB_cons]; rfl
theorem cnt_le (l : List Bool) : cntB l ≤ l.length := by unfold cntB; exact List.length_filter_le _ _
theorem law_TallyMeet (f : Bool) (n : Int) (l : List Int) (x y z w a b : Int) (hl : l.length ≤ 4611686018427387904) : AM.Fn Tryz.prog 5 [.i n, .sl f (l.map .i), .i x, .i y, .i z, .i w, .i a, .i b] (.b true) := by
  have hF := pool_fam l
  have hf := hF.nice
  have hli : Lite (poolF l) := pool_lite l
  have hpc := pool_cut l
  have hwb : 0 ≤ indexI w 1099511627776 ∧ indexI w 1099511627776 < 1099511627776 := by unfold indexI; rw [if_neg zd]; omega
  have hId := kit_Index w 1099511627776 zd
  generalize indexI w 1099511627776 = w2 at *
  obtain ⟨hmc, hfc, htc, hin1⟩ := meet_facts hf hpc x y w
  obtain ⟨_, hlc, hhc, hin2⟩ := meet_facts hf hpc x z (w2 / 64)
  have hw1 := part_cut hf hpc w
  have hw2 := part_cut hf hpc (w2 / 64)
  have s0 := hpc.small hli
  have s1 := hmc.small hli
  have s2 := hfc.small hli
  have s3 := hlc.small hli
  have s4 := htc.small hli
  have s5 := hhc.small hli
  have s6 := hw1.small hli
  have s7 := hw2.small hli
  have fn1 := htc.fine hf
  have fn2 := hhc.fine hf
  have hG := kit_Genesis n
  have hP := kit_Pool f l hl
  have hP1 := kit_Part false (poolI l) x zo
  have hP2 := kit_Part false (partI (poolI l) x) y zo
  have hP3 := kit_Part false (partI (poolI l) x) z zo
  have hP4 := kit_Part false (poolI l) w zo
  have hP5 := kit_Part false (poolI l) (w2 / 64) zo
  have hU1 := ref_Union false false (partI (poolI l) x) (partI (poolI l) w) zo zo
  have hU2 := ref_Union false false (partI (poolI l) x) (partI (poolI l) (w2 / 64)) zo zo
  generalize unionR (partI (poolI l) x) (partI (poolI l) w) = to at *
  generalize unionR (partI (poolI l) x) (partI (poolI l) (w2 / 64)) = hi at *
  generalize partI (poolI l) w = q1 at *
  generalize partI (poolI l) (w2 / 64) = q2 at *
  generalize partI (poolI l) x = mid at *
  generalize partI mid y = fr at *
  generalize partI mid z = lo at *
  have hA1 := interval_All false false fr to zo s4.2 zo fn1
  have hA2 := interval_All false false lo hi zo s5.2 zo fn2
  obtain ⟨hFa1, _⟩ := fair_of hF hli n hfc htc
  obtain ⟨hFa2, _⟩ := fair_of hF hli n hlc hhc
  have ha8 := srcI_len a
  have hb8 := srcI_len b
  have hSa := kit_Sources a
  have hSb := kit_Sources b
  have hM1 := tally_Missing false false false (genesisI n) fr to (srcI a) (allB fr to) hA1 hFa1 zo
  have hC1 := tally_Complete false false false (genesisI n) fr to (srcI a) (allB fr to) hM1
  have hM2 := tally_Missing false false false (genesisI n) lo hi (srcI b) (allB lo hi) hA2 hFa2 zo
  have hC2 := tally_Complete false false false (genesisI n) lo hi (srcI b) (allB lo hi) hM2
  have hV1 := viewOf_fn false hF hli n hmc
  have g1 := view_good hF n hmc
  have gl := g1.1.len
  have hX1 := ref_Chosen false (srcI a) false zo
  have hX2 := ref_Chosen false (srcI b) false zo
  have hcc : complB (genesisI n) fr to (srcI a) (allB fr to) = true → complB (genesisI n) lo hi (srcI b) (allB lo hi) = true → (viewOf (genesisI n) mid).rule.faulty < (cntB ((viewOf (genesisI n) mid).members.map fun m => inSrv (chosenR (srcI a) false) m && inSrv (chosenR (srcI b) false) m) : Nat) := fun h k => by
    unfold complB at h k
    rw [Bool.and_eq_true, decide_eq_true_eq] at h k
    have e1 := ok_chosen (memOK_light g1.1) (miss_none h.2 _ hin1)
    have e2 := ok_chosen (memOK_light g1.1) (miss_none k.2 _ hin2)
    have := quorum_meet (memOK_light g1.1) g1.2 (List.length_map _) (List.length_map _) e1 e2
    rw [andL_map] at this
    exact this
  generalize complB (genesisI n) fr to (srcI a) (allB fr to) = c1 at *
  generalize complB (genesisI n) lo hi (srcI b) (allB lo hi) = c2 at *
  clear g1 hA1 hFa1 hM1 hA2 hFa2 hM2 hin1 hin2 fn1 fn2 hmc hfc hlc htc hhc hw1 hw2 hpc hF hf hli
  generalize viewOf (genesisI n) mid = v at *
  generalize genesisI n = g at *
  generalize chosenR (srcI a) false = k1 at *
  generalize chosenR (srcI b) false = k2 at *
  generalize srcI a = sa at *
  generalize srcI b = sb at *
  generalize poolI l = p at *
  cases c1
  · (refine spec_of_runs Tryz.func5 rfl ?_; simp only [Tryz.f5]; refine ys ?_)
    repeat' (first | refine yw ?_ | ((with_reducible refine Runs.is ?_); first | refine Runs.region (id := 0) ?_ | refine Runs.region (id := 1) ?_ | refine Runs.region (id := 2) ?_ | refine Runs.region (id := 3) ?_ | refine Runs.region (id := 4) ?_ | refine Runs.region (id := 5) ?_ | refine Runs.region (id := 6) ?_ | refine Runs.region (id := 7) ?_ | ((with_reducible refine Runs.isC ?_); refine Runs.cond rfl (zc ?_) (zc ?_) <;> intro hc <;> (try (first | contradiction | (exfalso; omega; done) | (have : hc = trivial := rfl; clear this; clear hc))))) | ((with_reducible refine r_is ?_); first | refine yr ?_ | (refine r_fn rfl (hG) HbF.h zL1 zD ?_; refine r_nn zN zH ?_) | (refine r_fn rfl (hP) HbF.h zL1 zD ?_; refine r_nn zN zH ?_) | (refine r_fn rfl (hP1) HbF.h zL2 zD ?_; refine r_nn zN zH ?_) | (refine r_fn rfl (hP2) HbF.h zL2 zD ?_; refine r_nn zN zH ?_) | (refine r_fn rfl (hP3) HbF.h zL2 zD ?_; refine r_nn zN zH ?_) | (refine r_fn rfl (hP4) HbF.h zL2 zD ?_; refine r_nn zN zH ?_) | (refine r_fn rfl (hP5) HbF.h zL2 zD ?_; refine r_nn zN zH ?_) | (refine r_fn rfl (hU1) HbF.h zL2 zD ?_; refine r_nn zN zH ?_) | (refine r_fn rfl (hU2) HbF.h zL2 zD ?_; refine r_nn zN zH ?_) | (refine r_fn rfl (hId) HbF.h zL2 zD ?_; refine r_nn zN zH ?_) | (refine r_fn rfl (hSa) HbF.h zL1 zD ?_; refine r_nn zN zH ?_) | (refine r_fn rfl (hSb) HbF.h zL1 zD ?_; refine r_nn zN zH ?_) | (refine r_fn rfl (hC1) HbF.h zL4 zD ?_; refine r_nn zN zH ?_) | (refine r_fn rfl (hC2) HbF.h zL4 zD ?_; refine r_nn zN zH ?_) | (refine r_fn rfl (law_awake18) HbF.h zL0 zD ?_; refine r_nn zN zH ?_) | ((with_reducible refine r_gd ?_); (first | refine r_guardPf rfl rfl ?_ ?_ | refine r_guardNf rfl rfl ?_ ?_ | refine r_guard rfl rfl ?_ ?_) <;> intro hG <;> (try (exfalso; omega; done)) <;> refine r_nn zN zH ?_)) | fail)
    all_goals ((refine Runs.ret1 Tryz.func5 rfl zM zD ?_; try exact zX))
  cases c2
  · (refine spec_of_runs Tryz.func5 rfl ?_; simp only [Tryz.f5]; refine ys ?_)
    repeat' (first | refine yw ?_ | ((with_reducible refine Runs.is ?_); first | refine Runs.region (id := 0) ?_ | refine Runs.region (id := 1) ?_ | refine Runs.region (id := 2) ?_ | refine Runs.region (id := 3) ?_ | refine Runs.region (id := 4) ?_ | refine Runs.region (id := 5) ?_ | refine Runs.region (id := 6) ?_ | refine Runs.region (id := 7) ?_ | ((with_reducible refine Runs.isC ?_); refine Runs.cond rfl (zc ?_) (zc ?_) <;> intro hc <;> (try (first | contradiction | (exfalso; omega; done) | (have : hc = trivial := rfl; clear this; clear hc))))) | ((with_reducible refine r_is ?_); first | refine yr ?_ | (refine r_fn rfl (hG) HbF.h zL1 zD ?_; refine r_nn zN zH ?_) | (refine r_fn rfl (hP) HbF.h zL1 zD ?_; refine r_nn zN zH ?_) | (refine r_fn rfl (hP1) HbF.h zL2 zD ?_; refine r_nn zN zH ?_) | (refine r_fn rfl (hP2) HbF.h zL2 zD ?_; refine r_nn zN zH ?_) | (refine r_fn rfl (hP3) HbF.h zL2 zD ?_; refine r_nn zN zH ?_) | (refine r_fn rfl (hP4) HbF.h zL2 zD ?_; refine r_nn zN zH ?_) | (refine r_fn rfl (hP5) HbF.h zL2 zD ?_; refine r_nn zN zH ?_) | (refine r_fn rfl (hU1) HbF.h zL2 zD ?_; refine r_nn zN zH ?_) | (refine r_fn rfl (hU2) HbF.h zL2 zD ?_; refine r_nn zN zH ?_) | (refine r_fn rfl (hId) HbF.h zL2 zD ?_; refine r_nn zN zH ?_) | (refine r_fn rfl (hSa) HbF.h zL1 zD ?_; refine r_nn zN zH ?_) | (refine r_fn rfl (hSb) HbF.h zL1 zD ?_; refine r_nn zN zH ?_) | (refine r_fn rfl (hC1) HbF.h zL4 zD ?_; refine r_nn zN zH ?_) | (refine r_fn rfl (hC2) HbF.h zL4 zD ?_; refine r_nn zN zH ?_) | (refine r_fn rfl (law_awake18) HbF.h zL0 zD ?_; refine r_nn zN zH ?_) | ((with_reducible refine r_gd ?_); (first | refine r_guardPf rfl rfl ?_ ?_ | refine r_guardNf rfl rfl ?_ ?_ | refine r_guard rfl rfl ?_ ?_) <;> intro hG <;> (try (exfalso; omega; done)) <;> refine r_nn zN zH ?_)) | fail)
    all_goals ((refine Runs.ret1 Tryz.func5 rfl zM zD ?_; try exact zX))
  have hfin := hcc rfl rfl
  have hml := cnt_le (v.members.map fun m => inSrv k1 m && inSrv k2 m)
  rw [List.length_map] at hml
  (refine spec_of_runs Tryz.func5 rfl ?_; simp only [Tryz.f5]; refine ys ?_)
  repeat' (first | refine yw ?_ | ((with_reducible refine Runs.is ?_); first | refine Runs.region (id := 0) ?_ | refine Runs.region (id := 1) ?_ | refine Runs.region (id := 2) ?_ | refine Runs.region (id := 3) ?_ | refine Runs.region (id := 4) ?_ | refine Runs.region (id := 5) ?_ | refine Runs.region (id := 6) ?_ | refine Runs.region (id := 7) ?_ | refine Runs.region (id := 8) ?_ | refine Runs.region (id := 9) ?_ | refine Runs.region (id := 10) ?_ | ((with_reducible refine Runs.isC ?_); refine Runs.cond rfl (zc ?_) (zc ?_) <;> intro hc <;> (try (first | contradiction | (exfalso; omega; done) | (have : hc = trivial := rfl; clear this; clear hc))))) | ((with_reducible refine r_is ?_); first | refine yr ?_ | (refine r_fn rfl (hG) HbF.h zL1 zD ?_; refine r_nn zN zH ?_) | (refine r_fn rfl (hP) HbF.h zL1 zD ?_; refine r_nn zN zH ?_) | (refine r_fn rfl (hP1) HbF.h zL2 zD ?_; refine r_nn zN zH ?_) | (refine r_fn rfl (hP2) HbF.h zL2 zD ?_; refine r_nn zN zH ?_) | (refine r_fn rfl (hP3) HbF.h zL2 zD ?_; refine r_nn zN zH ?_) | (refine r_fn rfl (hP4) HbF.h zL2 zD ?_; refine r_nn zN zH ?_) | (refine r_fn rfl (hP5) HbF.h zL2 zD ?_; refine r_nn zN zH ?_) | (refine r_fn rfl (hU1) HbF.h zL2 zD ?_; refine r_nn zN zH ?_) | (refine r_fn rfl (hU2) HbF.h zL2 zD ?_; refine r_nn zN zH ?_) | (refine r_fn rfl (hId) HbF.h zL2 zD ?_; refine r_nn zN zH ?_) | (refine r_fn rfl (hSa) HbF.h zL1 zD ?_; refine r_nn zN zH ?_) | (refine r_fn rfl (hSb) HbF.h zL1 zD ?_; refine r_nn zN zH ?_) | (refine r_fn rfl (hC1) HbF.h zL4 zD ?_; refine r_nn zN zH ?_) | (refine r_fn rfl (hC2) HbF.h zL4 zD ?_; refine r_nn zN zH ?_) | (refine r_fn rfl (law_awake18) HbF.h zL0 zD ?_; refine r_nn zN zH ?_) | (refine r_fn rfl (hV1) HbF.h zL2 zD ?_; refine r_nn zN zH ?_) | ((with_reducible refine r_gd ?_); (first | refine r_guardPf rfl rfl ?_ ?_ | refine r_guardNf rfl rfl ?_ ?_ | refine r_guard rfl rfl ?_ ?_) <;> intro hG <;> (try (exfalso; omega; done)) <;> refine r_nn zN zH ?_)) | fail)
  refine Runs.loopI (fun i : Nat => v.members.length - i) (fun i => i ≤ v.members.length)
    (fun i => ⟨[.any, .any, .any, .any, .any, .any, .any, .any, .any, .any, .any, .any, .any, .any, .any, .any, .any, .any, .any, .any, .any, .any, .any, .any, .sl false (sa.map soV), .sl false (sb.map soV), .ptr 26 0 0, .i (cntB ((v.members.map fun m => inSrv k1 m && inSrv k2 m).take i) : Nat), .i (i : Nat), .any, .any, .any, .any, .any, .any, .any, .any, .any, .any, .any, .any, .any, .any, .any, .any, .any, .any, .any, .any, .any, .any, .any, .any, .any, .any, .any, .any, .any, .any, .any, .any, .any, .any, .any, .any, .any, .any, .any, .any, .any, .any, .any, .any, .any, .any, .any, .any, .any, .any, .any, .any, .any, .any, .any, .any, .any, .any, .any, .any, .any, .any, .any, .any, .any, .any, .any, .any, .any, .any, .any, .any, .any, .any, .any, .any, .any, .any, .any, .any, .any, .any, .any, .any], [(26, .var 42 (viV v))]⟩) 0 (Nat.zero_le _) ?_ ?_
  · (refine St.Le.clean zR zU zV)
  intro i hi2 ih
  have hst := fun (h : i < (v.members.map fun m => inSrv k1 m && inSrv k2 m).length) => cnt_take h
  rw [List.length_map] at hst
  have hend : v.members.length ≤ i → cntB ((v.members.map fun m => inSrv k1 m && inSrv k2 m).take i) = cntB (v.members.map fun m => inSrv k1 m && inSrv k2 m) := fun h => by rw [List.take_of_length_le (by rw [List.length_map]; exact h)]
  have hcl := cnt_le ((v.members.map fun m => inSrv k1 m && inSrv k2 m).take i)
  rw [List.length_take, List.length_map] at hcl
  have hget := fun h => map_getD (fun m => inSrv k1 m && inSrv k2 m) (l := v.members) (i := i) h
  by_cases hlt : i < v.members.length
  · have hst2 := hst hlt
    rw [hget hlt] at hst2
    have hI1 := ref_In2 false k1 (v.members.getD i default).server
    have hI2 := ref_In2 false k2 (v.members.getD i default).server
    have e1 : inSrv k1 (v.members.getD i default) = k1.contains (v.members.getD i default).server := rfl
    have e2 : inSrv k2 (v.members.getD i default) = k2.contains (v.members.getD i default).server := rfl
    rw [e1, e2] at hst2
    generalize k1.contains (v.members.getD i default).server = b1 at *
    generalize k2.contains (v.members.getD i default).server = b2 at *
    have hst0 : b1 = false → cntB ((v.members.map fun m => inSrv k1 m && inSrv k2 m).take (i + 1)) = cntB ((v.members.map fun m => inSrv k1 m && inSrv k2 m).take i) := fun h => by rw [hst2, h]; rfl
    have hst1 : b1 = true → b2 = false → cntB ((v.members.map fun m => inSrv k1 m && inSrv k2 m).take (i + 1)) = cntB ((v.members.map fun m => inSrv k1 m && inSrv k2 m).take i) := fun h h2 => by rw [hst2, h, h2]; rfl
    have hst3 : b1 = true → b2 = true → cntB ((v.members.map fun m => inSrv k1 m && inSrv k2 m).take (i + 1)) = cntB ((v.members.map fun m => inSrv k1 m && inSrv k2 m).take i) + 1 := fun h h2 => by rw [hst2, h, h2]; rfl
    clear hst hst2 hget
    cases b1
    · replace hst0 := hst0 rfl
      repeat' (first | refine yw ?_ | ((with_reducible refine Runs.is ?_); first | refine Runs.region (id := 11) ?_ | refine Runs.drawn (id := 13) mixed zK ?_ | refine Runs.region (id := 14) ?_ | refine Runs.region (id := 12) ?_ | ((with_reducible refine Runs.isC ?_); refine Runs.cond rfl (zc ?_) (zc ?_) <;> intro hc <;> (try (first | contradiction | (exfalso; omega; done) | (have : hc = trivial := rfl; clear this; clear hc))))) | ((with_reducible refine r_is ?_); first | refine yr ?_) | ((with_reducible refine d_is ?_); first | refine yd ?_ | (refine d_fn rfl (hX1) HbF.h zL2 zD ?_; refine d_nn zN zH ?_) | (refine d_fn rfl (hI1) HbF.h zL2 zD ?_; refine d_nn zN zH ?_) | ((with_reducible refine d_gd ?_); (first | refine d_guardPt rfl rfl ?_ ?_ | refine d_guardNt rfl rfl ?_ ?_ | refine d_guard rfl rfl ?_ ?_) <;> intro hG <;> (try (exfalso; omega; done)) <;> refine d_nn zN zH ?_)) | fail)
      all_goals (refine ih (i + 1) _ zo zo ?_; rw [hst0]; (refine St.Le.clean zR zU zV))
    cases b2
    · replace hst1 := hst1 rfl rfl
      repeat' (first | refine yw ?_ | ((with_reducible refine Runs.is ?_); first | refine Runs.region (id := 11) ?_ | refine Runs.drawn (id := 13) mixed zK ?_ | refine Runs.region (id := 14) ?_ | refine Runs.region (id := 12) ?_ | ((with_reducible refine Runs.isC ?_); refine Runs.cond rfl (zc ?_) (zc ?_) <;> intro hc <;> (try (first | contradiction | (exfalso; omega; done) | (have : hc = trivial := rfl; clear this; clear hc))))) | ((with_reducible refine r_is ?_); first | refine yr ?_) | ((with_reducible refine d_is ?_); first | refine yd ?_ | (refine d_fn rfl (hX1) HbF.h zL2 zD ?_; refine d_nn zN zH ?_) | (refine d_fn rfl (hX2) HbF.h zL2 zD ?_; refine d_nn zN zH ?_) | (refine d_fn rfl (hI1) HbF.h zL2 zD ?_; refine d_nn zN zH ?_) | (refine d_fn rfl (hI2) HbF.h zL2 zD ?_; refine d_nn zN zH ?_) | ((with_reducible refine d_gd ?_); (first | refine d_guardPt rfl rfl ?_ ?_ | refine d_guardNt rfl rfl ?_ ?_ | refine d_guard rfl rfl ?_ ?_) <;> intro hG <;> (try (exfalso; omega; done)) <;> refine d_nn zN zH ?_)) | fail)
      all_goals (refine ih (i + 1) _ zo zo ?_; rw [hst1]; (refine St.Le.clean zR zU zV))
    replace hst3 := hst3 rfl rfl
    all_goals (repeat' (first | refine yw ?_ | ((with_reducible refine Runs.is ?_); first | refine Runs.region (id := 11) ?_ | refine Runs.drawn (id := 13) mixed zK ?_ | refine Runs.region (id := 14) ?_ | refine Runs.region (id := 12) ?_ | ((with_reducible refine Runs.isC ?_); refine Runs.cond rfl (zc ?_) (zc ?_) <;> intro hc <;> (try (first | contradiction | (exfalso; omega; done) | (have : hc = trivial := rfl; clear this; clear hc))))) | ((with_reducible refine r_is ?_); first | refine yr ?_) | ((with_reducible refine d_is ?_); first | refine yd ?_ | (refine d_fn rfl (hX1) HbF.h zL2 zD ?_; refine d_nn zN zH ?_) | (refine d_fn rfl (hX2) HbF.h zL2 zD ?_; refine d_nn zN zH ?_) | (refine d_fn rfl (hI1) HbF.h zL2 zD ?_; refine d_nn zN zH ?_) | (refine d_fn rfl (hI2) HbF.h zL2 zD ?_; refine d_nn zN zH ?_) | ((with_reducible refine d_gd ?_); (first | refine d_guardPt rfl rfl ?_ ?_ | refine d_guardNt rfl rfl ?_ ?_ | refine d_guard rfl rfl ?_ ?_) <;> intro hG <;> (try (exfalso; omega; done)) <;> refine d_nn zN zH ?_)) | fail))
    all_goals (refine ih (i + 1) _ zo zo ?_; rw [hst3]; (refine St.Le.clean zR zU zV))
  · rw [hend zo]
    repeat' (first | refine yw ?_ | ((with_reducible refine Runs.is ?_); first | refine Runs.region (id := 11) ?_ | refine Runs.drawn (id := 13) mixed zK ?_ | refine Runs.region (id := 14) ?_ | refine Runs.region (id := 12) ?_ | refine Runs.region (id := 15) ?_ | ((with_reducible refine Runs.isC ?_); refine Runs.cond rfl (zc ?_) (zc ?_) <;> intro hc <;> (try (first | contradiction | (exfalso; omega; done) | (have : hc = trivial := rfl; clear this; clear hc))))) | ((with_reducible refine r_is ?_); first | refine yr ?_ | (refine r_fn rfl (law_awake18) HbF.h zL0 zD ?_; refine r_nn zN zH ?_) | ((with_reducible refine r_gd ?_); (first | refine r_guardPt rfl rfl ?_ ?_ | refine r_guardNt rfl rfl ?_ ?_ | refine r_guard rfl rfl ?_ ?_) <;> intro hG <;> (try (exfalso; omega; done)) <;> refine r_nn zN zH ?_)) | ((with_reducible refine d_is ?_); first | refine yd ?_ | ((with_reducible refine d_gd ?_); (first | refine d_guardPt rfl rfl ?_ ?_ | refine d_guardNt rfl rfl ?_ ?_ | refine d_guard rfl rfl ?_ ?_) <;> intro hG <;> (try (exfalso; omega; done)) <;> refine d_nn zN zH ?_)) | fail)
    all_goals ((refine Runs.ret1 Tryz.func5 rfl zM zD ?_; try exact zX))
end Go.Proofs
