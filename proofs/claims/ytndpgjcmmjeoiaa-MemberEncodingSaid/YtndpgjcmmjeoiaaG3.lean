/- Contracts of functions and plain laws: W56, W59, W57, W58, W60, W71, W81, W82, W75, W83, W86, W89. -/
import Derived.Test.YtndpgjcmmjeoiaaG2
set_option linter.unusedVariables false
set_option linter.unusedSimpArgs false
set_option maxRecDepth 8000
set_option maxHeartbeats 4000000
set_option pp.deepTerms false
set_option pp.deepTerms.threshold 6
namespace Go.Proofs
open Go.AM
attribute [local irreducible] AM.evalR AM.evalD AM.Runs AM.valK AM.dK AM.opK AM.stepR AM.CallS AM.St.Le
def RuleOK (r : Rule) : Prop := (1 ≤ r.kind ∧ r.kind ≤ 4) ∧ (r.kind = 3 → 1 ≤ r.columns ∧ r.columns ≤ 12) ∧ (r.kind ≠ 3 → r.columns = 0) ∧ (r.kind = 4 → 0 ≤ r.faulty ∧ r.faulty ≤ 12) ∧ (r.kind ≠ 4 → r.faulty = 0)
def ChangeOK (c : Change) : Prop := (c.kind = 1 ∧ (1 ≤ c.server ∧ c.server ≤ 12) ∧ (1 ≤ c.weight ∧ c.weight ≤ 9) ∧ c.version = 0 ∧ c.rule = ⟨0, 0, 0⟩) ∨ (c.kind = 2 ∧ (1 ≤ c.server ∧ c.server ≤ 12) ∧ c.weight = 0 ∧ c.version = 0 ∧ c.rule = ⟨0, 0, 0⟩) ∨
  (c.kind = 3 ∧ (1 ≤ c.server ∧ c.server ≤ 12) ∧ (1 ≤ c.weight ∧ c.weight ≤ 9) ∧ (1 ≤ c.version ∧ c.version ≤ 1000) ∧ c.rule = ⟨0, 0, 0⟩) ∨ (c.kind = 4 ∧ c.server = 0 ∧ c.weight = 0 ∧ (1 ≤ c.version ∧ c.version ≤ 1000) ∧ RuleOK c.rule)
def PropOK (p : Proposal) : Prop := (201 ≤ p.admin ∧ p.admin < 204) ∧ (1 ≤ p.number ∧ p.number ≤ 3) ∧ (1 ≤ p.changes.length ∧ p.changes.length ≤ 6) ∧ (∀ c ∈ p.changes, ChangeOK c) ∧
  ∀ i k : Nat, k < i → i < p.changes.length → ¬ ((p.changes.getD k default).kind = (p.changes.getD i default).kind ∧ (p.changes.getD k default).server = (p.changes.getD i default).server)
theorem val_Server (n : Int) : AM.Fn Try.prog 42 [.i n] (.b (decide (1 ≤ n ∧ n ≤ 12))) := by
  (refine spec_of_runs Try.func42 rfl ?_; simp only [Try.f42]; refine ys ?_)
  repeat' (first | refine yw ?_ | ((with_reducible refine Runs.is ?_); first | refine Runs.region ?_ | ((with_reducible refine Runs.isC ?_); refine Runs.cond rfl (zc ?_) (zc ?_) <;> intro hc <;> (try (first | contradiction | (exfalso; omega; done) | (have : hc = trivial := rfl; clear this; clear hc))))) | ((with_reducible refine r_is ?_); first | refine yr ?_ | ((with_reducible refine r_gd ?_); (first | refine r_guardPt rfl rfl ?_ ?_ | refine r_guardNt rfl rfl ?_ ?_ | refine r_guard rfl rfl ?_ ?_) <;> intro hG <;> (try (exfalso; omega; done)) <;> refine r_nn zN zH ?_)) | fail)
  all_goals ((refine Runs.ret1 Try.func42 rfl zM zD ?_; try exact zX))
  all_goals (first | (refine V.Le.of_eq (congrArg V.b (decide_eq_decide.2 ?_)); omega) | (refine V.Le.of_eq (congrArg V.b (decide_eq_false ?_).symm); omega))
end Go.Proofs
namespace Go.Proofs
open Go.AM
attribute [local irreducible] AM.evalR AM.evalD AM.Runs AM.valK AM.dK AM.opK AM.stepR AM.CallS AM.St.Le
end Go.Proofs
namespace Go.Proofs
open Go.AM
attribute [local irreducible] AM.evalR AM.evalD AM.Runs AM.valK AM.dK AM.opK AM.stepR AM.CallS AM.St.Le
theorem getD_in {α : Type} [Inhabited α] {l : List α} {i : Nat} (h : i < l.length) : l.getD i default ∈ l := by
  rw [List.getD_eq_getElem?_getD, List.getElem?_eq_getElem h]; exact List.getElem_mem h
end Go.Proofs
namespace Go.Proofs
open Go.AM
attribute [local irreducible] AM.evalR AM.evalD AM.Runs AM.valK AM.dK AM.opK AM.stepR AM.CallS AM.St.Le
end Go.Proofs
namespace Go.Proofs
open Go.AM
attribute [local irreducible] AM.evalR AM.evalD AM.Runs AM.valK AM.dK AM.opK AM.stepR AM.CallS AM.St.Le
end Go.Proofs
namespace Go.Proofs
open Go.AM
attribute [local irreducible] AM.evalR AM.evalD AM.Runs AM.valK AM.dK AM.opK AM.stepR AM.CallS AM.St.Le
theorem strict_ext : ∀ {a b : List Int}, a.Pairwise (· < ·) → b.Pairwise (· < ·) → (∀ x, x ∈ a ↔ x ∈ b) → a = b
  | [], [], _, _, _ => rfl
  | [], y :: b, _, _, h => absurd ((h y).2 (by simp)) (by simp)
  | x :: a, [], _, _, h => absurd ((h x).1 (by simp)) (by simp)
  | x :: a, y :: b, ha, hb, h => by
    rw [List.pairwise_cons] at ha hb
    have hxy : x = y := by
      rcases List.mem_cons.1 ((h x).1 (by simp)) with e | e
      · exact e
      · rcases List.mem_cons.1 ((h y).2 (by simp)) with e' | e'
        · exact e'.symm
        · have := hb.1 _ e; have := ha.1 _ e'; omega
    subst hxy
    congr 1
    refine strict_ext ha.2 hb.2 fun z => ⟨fun hz => ?_, fun hz => ?_⟩
    · rcases List.mem_cons.1 ((h z).1 (by simp [hz])) with e | e
      · have := ha.1 _ hz; omega
      · exact e
    · rcases List.mem_cons.1 ((h z).2 (by simp [hz])) with e | e
      · have := hb.1 _ hz; omega
      · exact e
theorem sortI_le (zs : List Int) : (sortI zs).Pairwise (· ≤ ·) := by
  have := List.pairwise_mergeSort (le := fun a b : Int => decide (a ≤ b)) (fun a b c h1 h2 => by simp at *; omega) (fun a b => by simp; omega) zs
  exact List.Pairwise.imp (fun h => by simpa using h) this
theorem mem_sortI {zs : List Int} {x : Int} : x ∈ sortI zs ↔ x ∈ zs := List.mem_mergeSort
end Go.Proofs
namespace Go.Proofs
open Go.AM
attribute [local irreducible] AM.evalR AM.evalD AM.Runs AM.valK AM.dK AM.opK AM.stepR AM.CallS AM.St.Le
theorem bs_spec (k : Nat → Int) (i j : Nat) (hij : i ≤ j) (hm : ∀ s t, i ≤ s → s ≤ t → t < j → k t < 0 → k s < 0) :
    (i ≤ bs k i j ∧ bs k i j ≤ j) ∧ (∀ t, i ≤ t → t < bs k i j → k t < 0) ∧ ∀ t, bs k i j ≤ t → t < j → ¬ k t < 0 := by
  by_cases h : i < j
  · rw [bs.eq_1, dif_pos h]
    by_cases h2 : k ((i + j) / 2) < 0
    · rw [if_pos h2]
      obtain ⟨⟨a1, a2⟩, a3, a4⟩ := bs_spec k ((i + j) / 2 + 1) j zo (fun s t h1 h3 h4 => hm s t zo h3 h4)
      refine ⟨⟨by omega, a2⟩, fun t h5 h6 => ?_, a4⟩
      by_cases h7 : t ≤ (i + j) / 2
      · exact hm t _ h5 h7 zo h2
      · exact a3 t zo h6
    · rw [if_neg h2]
      obtain ⟨⟨a1, a2⟩, a3, a4⟩ := bs_spec k i ((i + j) / 2) zo (fun s t h1 h3 h4 => hm s t h1 h3 zo)
      refine ⟨⟨a1, by omega⟩, a3, fun t h5 h6 => ?_⟩
      by_cases h7 : t < (i + j) / 2
      · exact a4 t h5 h7
      · intro h8
        exact h2 (hm _ t zo zo h6 h8)
  · rw [bs.eq_1, dif_neg h]
    exact ⟨⟨Nat.le_refl _, hij⟩, fun t h1 h2 => by omega, fun t h1 h2 => by omega⟩
termination_by j - i
abbrev StrictI (l : List Int) : Prop := l.Pairwise (· < ·)
def insRec (n : Int) : List Int → List Int
  | [] => [n]
  | y :: ys => if y = n then y :: ys else if n < y then n :: y :: ys else y :: insRec n ys
theorem mem_insRec (n x : Int) : ∀ l, x ∈ insRec n l ↔ x ∈ l ∨ x = n
  | [] => by simp [insRec]
  | y :: ys => by
    rw [insRec]
    split
    · rename_i h; subst h; simp; intro h; exact .inl h
    · split
      · simp [or_comm]
      · rw [List.mem_cons, mem_insRec n x ys, List.mem_cons, or_assoc]
theorem insRec_strict (n : Int) : ∀ {l : List Int}, StrictI l → StrictI (insRec n l)
  | [], _ => by simp [insRec]
  | y :: ys, h => by
    replace h := List.pairwise_cons.1 h
    rw [insRec]
    split
    · exact List.pairwise_cons.2 h
    · split
      · refine List.pairwise_cons.2 ⟨fun z hz => ?_, List.pairwise_cons.2 h⟩
        rcases List.mem_cons.1 hz with rfl | hz
        · assumption
        · have := h.1 z hz; omega
      · refine List.pairwise_cons.2 ⟨fun z hz => ?_, insRec_strict n h.2⟩
        rcases (mem_insRec n z ys).1 hz with hz | rfl
        · exact h.1 z hz
        · omega
theorem insFold_put (n : Int) : ∀ (l acc : List Int), (∀ x ∈ l, x ≠ n) → l.foldl (insStep n) (acc, true) = (acc ++ l, true)
  | [], acc, _ => by simp
  | y :: ys, acc, h => by
    rw [List.foldl_cons, insStep_d (h y (by simp)), insFold_put n ys _ (fun x hx => h x (by simp [hx]))]
    simp
theorem insFold_rec (n : Int) : ∀ (l acc : List Int), StrictI l → (let s := l.foldl (insStep n) (acc, false); if s.2 = false then s.1 ++ [n] else s.1) = acc ++ insRec n l
  | [], acc, _ => by simp [insRec]
  | y :: ys, acc, h => by
    replace h := List.pairwise_cons.1 h
    rw [List.foldl_cons, insRec]
    by_cases e : y = n
    · rw [insStep_b zo e, if_pos e, insFold_put n ys _ (fun x hx => by have := h.1 x hx; omega)]
      simp [e]
    · by_cases g : n < y
      · rw [insStep_a zo e, if_neg e, if_pos g, insFold_put n ys _ (fun x hx => by have := h.1 x hx; omega)]
        simp
      · rw [insStep_c zo e, if_neg e, if_neg g, insFold_rec n ys _ h.2]
        simp
theorem insR_rec {l : List Int} (h : StrictI l) (n : Int) : insR l n = insRec n l := by
  have := insFold_rec n l [] h
  simpa [insR] using this
theorem insRec_append (n : Int) : ∀ (a b : List Int), (∀ x ∈ a, x < n) → insRec n (a ++ b) = a ++ insRec n b
  | [], b, _ => rfl
  | y :: a, b, h => by
    have := h y (by simp)
    rw [List.cons_append, insRec, if_neg zo, if_neg zo, insRec_append n a b (fun x hx => h x (by simp [hx]))]
    rfl
theorem strict_getD {l : List Int} (h : StrictI l) {i j : Nat} (hij : i < j) (hj : j < l.length) : l.getD i default < l.getD j default := by
  have := (List.pairwise_iff_getElem.1 h) i j zo hj hij
  rw [List.getD_eq_getElem?_getD, List.getD_eq_getElem?_getD, List.getElem?_eq_getElem hj, List.getElem?_eq_getElem (show i < l.length by omega)]
  exact this
theorem mem_take_getD {α : Type} [Inhabited α] {l : List α} {r : Nat} {x : α} (h : x ∈ l.take r) : ∃ t, t < r ∧ t < l.length ∧ l.getD t default = x := by
  obtain ⟨t, ht, e⟩ := List.mem_iff_getElem.1 h
  rw [List.length_take] at ht
  refine ⟨t, by omega, by omega, ?_⟩
  rw [List.getElem_take] at e
  rw [List.getD_eq_getElem?_getD, List.getElem?_eq_getElem zo]; exact e
theorem insI_rec {l : List Int} (h : StrictI l) (n : Int) : insI l n = insRec n l := by
  have hs := bs_spec (ltK l n) 0 l.length (Nat.zero_le _) (fun s t _ hst ht hk => by
    rw [ltK_neg] at hk ⊢
    by_cases e : s = t
    · subst e; exact hk
    · have := strict_getD h (show s < t by omega) ht; omega)
  change (0 ≤ bsI l n ∧ bsI l n ≤ l.length) ∧ (∀ t, 0 ≤ t → t < bsI l n → ltK l n t < 0) ∧ (∀ t, bsI l n ≤ t → t < l.length → ¬ ltK l n t < 0) at hs
  obtain ⟨⟨_, h1⟩, h2, h3⟩ := hs
  unfold insI foundI putI
  generalize bsI l n = r at *
  have ha : ∀ x ∈ l.take r, x < n := by
    intro x hx
    obtain ⟨t, ht, _, rfl⟩ := mem_take_getD hx
    exact ltK_neg.1 (h2 t (Nat.zero_le _) ht)
  have key : insRec n l = l.take r ++ insRec n (l.drop r) := by rw [← insRec_append n _ _ ha, List.take_append_drop]
  rw [key]
  by_cases hr : r < l.length
  · have h4 := h3 r (Nat.le_refl _) hr
    rw [ltK_neg] at h4
    rw [drop_getD hr, insRec]
    by_cases e : l.getD r default = n
    · rw [decide_eq_true ⟨hr, e⟩, if_pos rfl, if_pos e, ← drop_getD hr, List.take_append_drop]
    · rw [decide_eq_false (fun q => e q.2), if_neg zd, if_neg e, if_pos zo]
  · rw [decide_eq_false (fun q => hr q.1), if_neg zd, List.drop_of_length_le zo, insRec]
theorem insFoldl {f g : List Int → Int → List Int} (hf : ∀ l n, StrictI l → f l n = insRec n l) (hg : ∀ l n, StrictI l → g l n = insRec n l) : ∀ (b : List Int) {a : List Int}, StrictI a → b.foldl f a = b.foldl g a ∧ StrictI (b.foldl g a)
  | [], a, h => ⟨rfl, h⟩
  | n :: b, a, h => by
    have h2 := insRec_strict n h
    rw [List.foldl_cons, List.foldl_cons, hf a n h, hg a n h]
    exact insFoldl hf hg b h2
theorem unionI_R {a : List Int} (h : StrictI a) (b : List Int) : unionI a b = b.foldl insR a ∧ StrictI (b.foldl insR a) := insFoldl (fun l n h => insI_rec h n) (fun l n h => insR_rec h n) b h
abbrev StrictW (l : List WeightEntry) : Prop := l.Pairwise (fun a b => a.server < b.server)
def weighRec (w : WeightEntry) : List WeightEntry → List WeightEntry
  | [] => [w]
  | y :: ys => if y.server = w.server then (if laterB w y = true then w else y) :: ys else if w.server < y.server then w :: y :: ys else y :: weighRec w ys
theorem mem_weighRec (w x : WeightEntry) : ∀ l, x ∈ weighRec w l → x ∈ l ∨ x = w
  | [] => by simp [weighRec]
  | y :: ys => by
    rw [weighRec]
    intro h
    split at h
    · split at h
      · rcases List.mem_cons.1 h with h | h
        · exact .inr h
        · exact .inl (by simp [h])
      · exact .inl h
    · split at h
      · rcases List.mem_cons.1 h with h | h
        · exact .inr h
        · exact .inl h
      · rcases List.mem_cons.1 h with h | h
        · exact .inl (by simp [h])
        · rcases mem_weighRec w x ys h with h | h
          · exact .inl (by simp [h])
          · exact .inr h
theorem weighRec_strict (w : WeightEntry) : ∀ {l : List WeightEntry}, StrictW l → StrictW (weighRec w l)
  | [], _ => by simp [weighRec]
  | y :: ys, h => by
    replace h := List.pairwise_cons.1 h
    rw [weighRec]
    split
    · rename_i e
      split
      · exact List.pairwise_cons.2 ⟨fun z hz => by have := h.1 z hz; omega, h.2⟩
      · exact List.pairwise_cons.2 h
    · split
      · refine List.pairwise_cons.2 ⟨fun z hz => ?_, List.pairwise_cons.2 h⟩
        rcases List.mem_cons.1 hz with rfl | hz
        · assumption
        · have := h.1 z hz; omega
      · refine List.pairwise_cons.2 ⟨fun z hz => ?_, weighRec_strict w h.2⟩
        rcases mem_weighRec w z ys hz with hz | rfl
        · exact h.1 z hz
        · omega
theorem weighFold_put (w : WeightEntry) : ∀ (l acc : List WeightEntry), (∀ x ∈ l, x.server ≠ w.server) → l.foldl (weighStep w) (acc, true) = (acc ++ l, true)
  | [], acc, _ => by simp
  | y :: ys, acc, h => by
    rw [List.foldl_cons, weighStep_e (h y (by simp)), weighFold_put w ys _ (fun x hx => h x (by simp [hx]))]
    simp
theorem weighFold_rec (w : WeightEntry) : ∀ (l acc : List WeightEntry), StrictW l → (let s := l.foldl (weighStep w) (acc, false); if s.2 = false then s.1 ++ [w] else s.1) = acc ++ weighRec w l
  | [], acc, _ => by simp [weighRec]
  | y :: ys, acc, h => by
    replace h := List.pairwise_cons.1 h
    rw [List.foldl_cons, weighRec]
    by_cases e : y.server = w.server
    · cases hl : laterB w y
      · rw [weighStep_b e hl, if_pos e, weighFold_put w ys _ (fun x hx => by have := h.1 x hx; omega)]
        simp
      · rw [weighStep_a e hl, if_pos e, weighFold_put w ys _ (fun x hx => by have := h.1 x hx; omega)]
        simp
    · by_cases g : w.server < y.server
      · rw [weighStep_c e g, if_neg e, if_pos g, weighFold_put w ys _ (fun x hx => by have := h.1 x hx; omega)]
        simp
      · rw [weighStep_d e g, if_neg e, if_neg g, weighFold_rec w ys _ h.2]
        simp
theorem weighR_rec {l : List WeightEntry} (h : StrictW l) (w : WeightEntry) : weighR l w = weighRec w l := by
  have := weighFold_rec w l [] h
  simpa [weighR] using this
theorem weighRec_append (w : WeightEntry) : ∀ (a b : List WeightEntry), (∀ x ∈ a, x.server < w.server) → weighRec w (a ++ b) = a ++ weighRec w b
  | [], b, _ => rfl
  | y :: a, b, h => by
    have := h y (by simp)
    rw [List.cons_append, weighRec, if_neg zo, if_neg zo, weighRec_append w a b (fun x hx => h x (by simp [hx]))]
    rfl
theorem newer_later (a b : WeightEntry) : newerW a b = laterB b a := by
  unfold newerW laterB
  rw [Bool.eq_iff_iff]
  simp only [orI, cmpI]
  (repeat' split) <;> simp <;> omega
theorem strictW_getD {l : List WeightEntry} (h : StrictW l) {i j : Nat} (hij : i < j) (hj : j < l.length) : (l.getD i default).server < (l.getD j default).server := by
  have := (List.pairwise_iff_getElem.1 h) i j zo hj hij
  rw [List.getD_eq_getElem?_getD, List.getD_eq_getElem?_getD, List.getElem?_eq_getElem hj, List.getElem?_eq_getElem (show i < l.length by omega)]
  exact this
theorem weK_neg {l : List WeightEntry} {w : WeightEntry} {t : Nat} : weK l w t < 0 ↔ (l.getD t default).server < w.server := by unfold weK cmpI; (repeat' split) <;> omega
theorem cmpI_zero {x y : Int} : cmpI x y = 0 ↔ x = y := by unfold cmpI; (repeat' split) <;> omega
theorem insW_rec {l : List WeightEntry} (h : StrictW l) (w : WeightEntry) : insW l w = weighRec w l := by
  have hs := bs_spec (weK l w) 0 l.length (Nat.zero_le _) (fun s t _ hst ht hk => by
    rw [weK_neg] at hk ⊢
    by_cases e : s = t
    · subst e; exact hk
    · have := strictW_getD h (show s < t by omega) ht; omega)
  change (0 ≤ bsW l w ∧ bsW l w ≤ l.length) ∧ (∀ t, 0 ≤ t → t < bsW l w → weK l w t < 0) ∧ (∀ t, bsW l w ≤ t → t < l.length → ¬ weK l w t < 0) at hs
  obtain ⟨⟨_, h1⟩, h2, h3⟩ := hs
  unfold insW foundW putW
  generalize bsW l w = r at *
  have ha : ∀ x ∈ l.take r, x.server < w.server := by
    intro x hx
    obtain ⟨t, ht, _, rfl⟩ := mem_take_getD hx
    exact weK_neg.1 (h2 t (Nat.zero_le _) ht)
  have key : weighRec w l = l.take r ++ weighRec w (l.drop r) := by rw [← weighRec_append w _ _ ha, List.take_append_drop]
  rw [key]
  by_cases hr : r < l.length
  · have h4 := h3 r (Nat.le_refl _) hr
    rw [weK_neg] at h4
    by_cases e : (l.getD r default).server = w.server
    · rw [decide_eq_true ⟨hr, cmpI_zero.2 e⟩, if_pos rfl, newer_later]
      cases hl : laterB w (l.getD r default)
      · rw [if_neg zd, drop_getD hr, weighRec, if_pos e, hl, if_neg zd, ← drop_getD hr, List.take_append_drop]
      · rw [if_pos rfl, drop_getD hr, weighRec, if_pos e, hl, if_pos rfl]
        rw [List.set_eq_take_append_cons_drop, if_pos hr]
    · rw [decide_eq_false (fun q => e (cmpI_zero.1 q.2)), if_neg zd, drop_getD hr, weighRec, if_neg e, if_pos zo]
  · rw [decide_eq_false (fun q => hr q.1), if_neg zd, List.drop_of_length_le zo, weighRec]
theorem weighFoldl {f g : List WeightEntry → WeightEntry → List WeightEntry} (hf : ∀ l n, StrictW l → f l n = weighRec n l) (hg : ∀ l n, StrictW l → g l n = weighRec n l) : ∀ (b : List WeightEntry) {a : List WeightEntry}, StrictW a → b.foldl f a = b.foldl g a ∧ StrictW (b.foldl g a)
  | [], a, h => ⟨rfl, h⟩
  | n :: b, a, h => by
    have h2 := weighRec_strict n h
    rw [List.foldl_cons, List.foldl_cons, hf a n h, hg a n h]
    exact weighFoldl hf hg b h2
theorem weightsI_R {a : List WeightEntry} (h : StrictW a) (b : List WeightEntry) : weightsI a b = b.foldl weighR a ∧ StrictW (b.foldl weighR a) := weighFoldl (fun l n h => insW_rec h n) (fun l n h => weighR_rec h n) b h
def SortedS (s : Summary) : Prop := StrictI s.joined ∧ StrictI s.removed ∧ StrictW s.weights
theorem joinS_T {a : Summary} (h : SortedS a) (b : Summary) : joinS a b = joinT a b ∧ SortedS (joinT a b) := by
  obtain ⟨h1, h2, h3⟩ := h
  have e1 := unionI_R h1 b.joined
  have e2 := unionI_R h2 b.removed
  have e3 := weightsI_R h3 b.weights
  refine ⟨?_, e1.2, e2.2, e3.2⟩
  have e4 : joinR a b = pickT a b := by unfold joinR pickT; rw [newer_later]
  unfold joinS joinT
  rw [e1.1, e2.1, e3.1, e4]
def lk (l : List WeightEntry) (x : Int) : Option WeightEntry := l.find? fun w => decide (w.server = x)
theorem lk_cons (w : WeightEntry) (l : List WeightEntry) (x : Int) : lk (w :: l) x = if w.server = x then some w else lk l x := by
  unfold lk
  by_cases h : w.server = x <;> simp [h]
theorem lk_none {l : List WeightEntry} {x : Int} (h : ∀ w ∈ l, w.server ≠ x) : lk l x = none := by
  unfold lk
  rw [List.find?_eq_none]
  intro w hw; simp; exact h w hw
theorem lk_weigh (w : WeightEntry) (x : Int) : ∀ {l : List WeightEntry}, StrictW l → lk (weighRec w l) x = if w.server = x then (match lk l x with | none => some w | some o => some (if laterB w o = true then w else o)) else lk l x
  | [], _ => by simp [weighRec, lk_cons, lk]
  | y :: ys, h => by
    replace h := List.pairwise_cons.1 h
    rw [weighRec]
    by_cases e : y.server = w.server
    · rw [if_pos e]
      by_cases ex : w.server = x
      · have e2 : y.server = x := e.trans ex
        rw [lk_cons y, if_pos e2, if_pos ex]
        cases hl : laterB w y <;> simp [lk_cons, ex, e2, hl]
      · have e2 : ¬ y.server = x := fun q => ex (e ▸ q)
        rw [if_neg ex, lk_cons y, if_neg e2]
        cases hl : laterB w y <;> simp [lk_cons, ex, e2, hl]
    · rw [if_neg e]
      by_cases g : w.server < y.server
      · rw [if_pos g, lk_cons w]
        by_cases ex : w.server = x
        · have hn : lk (y :: ys) x = none := lk_none (by
            intro z hz
            rcases List.mem_cons.1 hz with rfl | hz
            · omega
            · have := h.1 z hz; omega)
          rw [if_pos ex, if_pos ex, hn]
        · rw [if_neg ex, if_neg ex]
      · rw [if_neg g, lk_cons y, lk_cons y, lk_weigh w x h.2]
        by_cases ey : y.server = x
        · rw [if_pos ey, if_pos ey, if_neg (fun q => e zo)]
        · rw [if_neg ey, if_neg ey]
theorem strictW_ext : ∀ {a b : List WeightEntry}, StrictW a → StrictW b → (∀ x, lk a x = lk b x) → a = b
  | [], [], _, _, _ => rfl
  | [], y :: b, _, _, h => by have := h y.server; rw [lk_cons, if_pos rfl] at this; cases this
  | x :: a, [], _, _, h => by have := h x.server; rw [lk_cons, if_pos rfl] at this; cases this
  | x :: a, y :: b, ha, hb, h => by
    replace ha := List.pairwise_cons.1 ha
    replace hb := List.pairwise_cons.1 hb
    have hs : x.server = y.server := by
      rcases Int.lt_trichotomy x.server y.server with e | e | e
      · have h1 := h x.server
        rw [lk_cons, if_pos rfl, lk_none (l := y :: b)] at h1
        · cases h1
        · intro z hz
          rcases List.mem_cons.1 hz with rfl | hz
          · omega
          · have := hb.1 z hz; omega
      · exact e
      · have h1 := h y.server
        rw [lk_cons y, if_pos rfl, lk_none (l := x :: a)] at h1
        · cases h1
        · intro z hz
          rcases List.mem_cons.1 hz with rfl | hz
          · omega
          · have := ha.1 z hz; omega
    have hxy : x = y := by
      have h1 := h x.server
      rw [lk_cons, if_pos rfl, lk_cons, if_pos hs.symm] at h1
      exact Option.some.inj h1
    subst hxy
    congr 1
    refine strictW_ext ha.2 hb.2 fun z => ?_
    by_cases e : x.server = z
    · rw [lk_none (l := a) (fun w hw => by have := ha.1 w hw; omega), lk_none (l := b) (fun w hw => by have := hb.1 w hw; omega)]
    · have h1 := h z
      rw [lk_cons, if_neg e, lk_cons, if_neg e] at h1
      exact h1
theorem weightIn_none {l : List WeightEntry} {x : Int} (h : ∀ w ∈ l, w.server ≠ x) : ∀ n, weightIn l x n = n := by
  unfold weightIn
  induction l with
  | nil => intro n; rfl
  | cons w l ih => intro n; rw [List.foldl_cons, if_neg (h w (by simp)), ih (fun v hv => h v (by simp [hv]))]
theorem weightIn_R (x : Int) : ∀ {l : List WeightEntry}, StrictW l → weightIn l x 1 = weightR l x
  | [], _ => rfl
  | w :: l, h => by
    replace h := List.pairwise_cons.1 h
    rw [weightR]
    by_cases e : w.server = x
    · rw [if_pos e]
      have : weightIn (w :: l) x 1 = weightIn l x w.weight := by unfold weightIn; rw [List.foldl_cons, if_pos e]
      rw [this]
      exact weightIn_none (fun v hv => by have := h.1 v hv; omega) _
    · rw [if_neg e, ← weightIn_R x h.2]
      unfold weightIn; rw [List.foldl_cons, if_neg e]
theorem viewS_T {s : Summary} (h : StrictW s.weights) : viewS s = viewT s := by
  unfold viewS viewT viewMs vAccT
  congr 1
  have h1 : (fun x => !s.removed.contains x) = (fun x => !s.removed.any fun y => decide (y = x)) := by
    funext x
    congr 1
    rw [Bool.eq_iff_iff]
    simp
  rw [h1]
  refine List.map_congr_left fun x _ => ?_
  rw [weightIn_R x h]
end Go.Proofs
namespace Go.Proofs
open Go.AM
attribute [local irreducible] AM.evalR AM.evalD AM.Runs AM.valK AM.dK AM.opK AM.stepR AM.CallS AM.St.Le
theorem getI_setI2 {β : Type} (m : List (Int × β)) (n k : Int) (c : β) : getI (setI m n c) k = if k = n then some c else getI m k := by
  induction m with
  | nil =>
    by_cases h : k = n
    · subst h; simp [setI, getI]
    · have h2 : ¬ n = k := fun q => h q.symm
      simp [setI, getI, h, h2]
  | cons p m ih =>
    obtain ⟨a, b⟩ := p
    simp only [setI]
    by_cases h : a = n
    · subst h
      by_cases hk : k = a
      · subst hk; simp [getI]
      · have h2 : ¬ a = k := fun q => hk q.symm
        simp [getI, hk, h2]
    · by_cases hk : a = k
      · subst hk; simp [getI, h]
      · simp [getI, h, hk, ih]
def Uniq2 (l : List Change) : Prop := l.Pairwise fun a b => ¬ (a.kind = b.kind ∧ a.server = b.server)
theorem uniq_of {l : List Change} (h : ∀ i k : Nat, k < i → i < l.length → ¬ ((l.getD k default).kind = (l.getD i default).kind ∧ (l.getD k default).server = (l.getD i default).server)) : Uniq2 l := by
  unfold Uniq2
  rw [List.pairwise_iff_getElem]
  intro i j hi hj hij
  have := h j i hij hj
  rw [List.getD_eq_getElem?_getD, List.getD_eq_getElem?_getD, List.getElem?_eq_getElem hi, List.getElem?_eq_getElem hj] at this
  exact this
theorem sorted_perm {l m : List Int} (h1 : l.Nodup) (h2 : StrictI m) (h3 : ∀ x, x ∈ l ↔ x ∈ m) : sortI l = m := by
  refine strict_ext ?_ h2 (fun x => by rw [mem_sortI, h3])
  have hn : (sortI l).Nodup := (List.mergeSort_perm l _).nodup_iff.2 h1
  have hl := sortI_le l
  exact (hl.and hn).imp (fun ⟨a, b⟩ => by omega)
structure OfInv (p : Proposal) (done : List Change) (s : Acc) (t : Summary) : Prop where
  sort : SortedS t
  j : s.j.Nodup ∧ (∀ x, x ∈ s.j ↔ ∃ c ∈ done, c.kind = 1 ∧ c.server = x) ∧ ∀ x, x ∈ t.joined ↔ x ∈ s.j
  r : s.r.Nodup ∧ (∀ x, x ∈ s.r ↔ ∃ c ∈ done, c.kind = 2 ∧ c.server = x) ∧ ∀ x, x ∈ t.removed ↔ x ∈ s.r
  w : ∀ x, lk t.weights x = getI s.m x
  e : ∀ x o, getI s.m x = some o → o.server = x ∧ (1 ≤ x ∧ x ≤ 12) ∧ o.admin = p.admin ∧ o.number = p.number ∧ (o.version = 0 ∨ 1 ≤ o.version ∧ ∃ c ∈ done, c.kind = 3 ∧ c.server = x)
  k : ∀ x, (∃ c ∈ done, c.kind = 1 ∧ c.server = x) → (getI s.m x).isSome = true
  ru : s.rule = t.rule ∧ s.ver = t.version ∧ s.adm = t.admin ∧ s.num = t.number
theorem laterB_self (a b : WeightEntry) (h : a.admin = b.admin) (h2 : a.number = b.number) : laterB a b = decide (b.version < a.version) := by
  unfold laterB
  by_cases e : a.version = b.version
  · simp [e, h, h2]
  · simp [e]
theorem of_step {p : Proposal} {done : List Change} {c : Change} {s : Acc} {t : Summary} (hI : OfInv p done s t) (hc : ChangeOK c) (hu : ∀ d ∈ done, ¬ (d.kind = c.kind ∧ d.server = c.server)) : OfInv p (done ++ [c]) (ofStep p s c) (ofTStep p t c) := by
  obtain ⟨⟨s1, s2, s3⟩, ⟨j1, j2, j3⟩, ⟨r1, r2, r3⟩, hw, he, hk, hru⟩ := hI
  have hE : ∀ (q : Change → Prop) , (∃ d ∈ done ++ [c], q d) ↔ (∃ d ∈ done, q d) ∨ q c := by
    intro q
    constructor
    · rintro ⟨d, hd, h⟩
      rcases List.mem_append.1 hd with hd | hd
      · exact .inl ⟨d, hd, h⟩
      · rw [List.mem_singleton.1 hd] at h; exact .inr h
    · rintro (⟨d, hd, h⟩ | h)
      · exact ⟨d, by simp [hd], h⟩
      · exact ⟨c, by simp, h⟩
  have heT : ∀ x o, getI s.m x = some o → o.server = x ∧ (1 ≤ x ∧ x ≤ 12) ∧ o.admin = p.admin ∧ o.number = p.number ∧ (o.version = 0 ∨ 1 ≤ o.version ∧ ∃ d ∈ done ++ [c], d.kind = 3 ∧ d.server = x) := fun x o h => by
    obtain ⟨a1, a2, a3, a4, a5⟩ := he x o h
    exact ⟨a1, a2, a3, a4, a5.imp id fun ⟨b1, d, hd, b2⟩ => ⟨b1, d, by simp [hd], b2⟩⟩
  rcases hc with ⟨h1, h2, h3, h4, h5⟩ | ⟨h1, h2, h3, h4, h5⟩ | ⟨h1, h2, h3, h4, h5⟩ | ⟨h1, h2, h3, h4, h5⟩
  · -- join
    unfold ofStep ofTStep
    rw [if_pos h1, if_pos h1]
    have hnj : c.server ∉ s.j := fun q => by obtain ⟨d, hd, e1, e2⟩ := (j2 _).1 q; exact hu d hd ⟨e1.trans h1.symm, e2⟩
    have hT := insR_rec s1 c.server
    have hTw := weighR_rec s3 ⟨c.server, c.weight, 0, p.admin, p.number⟩
    refine ⟨⟨?_, s2, ?_⟩, ⟨?_, ?_, ?_⟩, ⟨r1, ?_, r3⟩, ?_, ?_, ?_, hru⟩
    · dsimp only; rw [hT]; exact insRec_strict _ s1
    · dsimp only; rw [hTw]; exact weighRec_strict _ s3
    · dsimp only; rw [List.nodup_append]; exact ⟨j1, by simp, fun a ha b hb e => by rw [List.mem_singleton.1 hb] at e; exact hnj (e ▸ ha)⟩
    · intro x; dsimp only; rw [hE (fun d => d.kind = 1 ∧ d.server = x), ← j2 x]; simp [h1, eq_comm]
    · intro x; dsimp only; rw [hT, mem_insRec, j3 x]; simp
    · intro x; rw [hE (fun d => d.kind = 2 ∧ d.server = x), ← r2 x]; simp [h1]
    · intro x
      dsimp only
      rw [hTw, lk_weigh _ _ s3, hw]
      dsimp only
      by_cases e : c.server = x
      · subst e
        rw [if_pos rfl]
        cases ho : getI s.m c.server with
        | none => rw [if_neg (by simp), getI_setI2, if_pos rfl]; unfold wC; rw [h4]
        | some o =>
          rw [if_pos (show (some o).isSome = true from rfl), ho]
          obtain ⟨_, _, e3, e4, e5⟩ := he _ o ho
          have hl : laterB ⟨c.server, c.weight, 0, p.admin, p.number⟩ o = false := by
            rw [laterB_self _ _ e3.symm e4.symm]
            exact decide_eq_false (by dsimp only; omega)
          dsimp only; rw [hl, if_neg zd]
      · rw [if_neg e]
        split
        · rfl
        · rw [getI_setI2, if_neg (fun q => e q.symm)]
    · intro x o ho
      dsimp only at ho
      split at ho
      · exact heT x o ho
      · rw [getI_setI2] at ho
        split at ho
        · rename_i e; subst e
          obtain rfl := Option.some.inj ho
          exact ⟨rfl, h2, rfl, rfl, .inl h4⟩
        · exact heT x o ho
    · intro x hx
      dsimp only
      rw [hE (fun d => d.kind = 1 ∧ d.server = x)] at hx
      split
      · rename_i hs
        rcases hx with hx | ⟨_, hx⟩
        · exact hk x hx
        · rw [← hx]; exact hs
      · rw [getI_setI2]
        split
        · rfl
        · rename_i hne
          rcases hx with hx | ⟨_, hx⟩
          · exact hk x hx
          · exact absurd hx.symm hne
  · -- remove
    unfold ofStep ofTStep
    rw [if_neg zo, if_pos h1, if_neg zo, if_pos h1]
    have hnr : c.server ∉ s.r := fun q => by obtain ⟨d, hd, e1, e2⟩ := (r2 _).1 q; exact hu d hd ⟨e1.trans h1.symm, e2⟩
    have hT := insR_rec s2 c.server
    refine ⟨⟨s1, ?_, s3⟩, ⟨j1, ?_, j3⟩, ⟨?_, ?_, ?_⟩, hw, heT, ?_, hru⟩
    · dsimp only; rw [hT]; exact insRec_strict _ s2
    · intro x; rw [hE (fun d => d.kind = 1 ∧ d.server = x), ← j2 x]; simp [h1]
    · dsimp only; rw [List.nodup_append]; exact ⟨r1, by simp, fun a ha b hb e => by rw [List.mem_singleton.1 hb] at e; exact hnr (e ▸ ha)⟩
    · intro x; dsimp only; rw [hE (fun d => d.kind = 2 ∧ d.server = x), ← r2 x]; simp [h1, eq_comm]
    · intro x; dsimp only; rw [hT, mem_insRec, r3 x]; simp
    · intro x hx
      rw [hE (fun d => d.kind = 1 ∧ d.server = x)] at hx
      exact hk x (hx.elim id fun q => by omega)
  · -- weight
    unfold ofStep ofTStep
    rw [if_neg zo, if_neg zo, if_pos h1, if_neg zo, if_neg zo, if_pos h1]
    have hTw := weighR_rec s3 ⟨c.server, c.weight, c.version, p.admin, p.number⟩
    refine ⟨⟨s1, s2, ?_⟩, ⟨j1, ?_, j3⟩, ⟨r1, ?_, r3⟩, ?_, ?_, ?_, hru⟩
    · dsimp only; rw [hTw]; exact weighRec_strict _ s3
    · intro x; rw [hE (fun d => d.kind = 1 ∧ d.server = x), ← j2 x]; simp [h1]
    · intro x; rw [hE (fun d => d.kind = 2 ∧ d.server = x), ← r2 x]; simp [h1]
    · intro x
      dsimp only
      rw [hTw, lk_weigh _ _ s3, hw, getI_setI2]
      dsimp only
      by_cases e : c.server = x
      · subst e
        rw [if_pos rfl, if_pos rfl]
        cases ho : getI s.m c.server with
        | none => rfl
        | some o =>
          obtain ⟨_, _, e3, e4, e5⟩ := he _ o ho
          have e6 : o.version = 0 := e5.elim id fun ⟨_, d, hd, e7, e8⟩ => absurd ⟨e7.trans h1.symm, e8⟩ (hu d hd)
          have hl : laterB ⟨c.server, c.weight, c.version, p.admin, p.number⟩ o = true := by
            rw [laterB_self _ _ e3.symm e4.symm]
            exact decide_eq_true (by dsimp only; omega)
          dsimp only; rw [hl, if_pos rfl]; rfl
      · rw [if_neg e, if_neg (fun q => e q.symm)]
    · intro x o ho
      dsimp only at ho
      rw [getI_setI2] at ho
      split at ho
      · rename_i e; subst e
        obtain rfl := Option.some.inj ho
        exact ⟨rfl, h2, rfl, rfl, .inr ⟨h4.1, c, by simp, h1, rfl⟩⟩
      · exact heT x o ho
    · intro x hx
      rw [hE (fun d => d.kind = 1 ∧ d.server = x)] at hx
      dsimp only
      rw [getI_setI2]
      split
      · rfl
      · exact hk x (hx.elim id fun q => by omega)
  · -- rule
    unfold ofStep ofTStep
    rw [if_neg zo, if_neg zo, if_neg zo, if_pos h1, if_neg zo, if_neg zo, if_neg zo, if_pos h1]
    refine ⟨⟨s1, s2, s3⟩, ⟨j1, ?_, j3⟩, ⟨r1, ?_, r3⟩, hw, heT, ?_, ⟨rfl, rfl, rfl, rfl⟩⟩
    · intro x; rw [hE (fun d => d.kind = 1 ∧ d.server = x), ← j2 x]; simp [h1]
    · intro x; rw [hE (fun d => d.kind = 2 ∧ d.server = x), ← r2 x]; simp [h1]
    · intro x hx
      rw [hE (fun d => d.kind = 1 ∧ d.server = x)] at hx
      exact hk x (hx.elim id fun q => by omega)
theorem of_inv (p : Proposal) : ∀ (cs done : List Change) (s : Acc) (t : Summary), OfInv p done s t → (∀ c ∈ cs, ChangeOK c) → Uniq2 (done ++ cs) → OfInv p (done ++ cs) (cs.foldl (ofStep p) s) (cs.foldl (ofTStep p) t)
  | [], done, s, t, h, _, _ => by simpa using h
  | c :: cs, done, s, t, h, h2, h3 => by
    have h4 := of_step h (h2 c (by simp)) (fun d hd => by
      have := List.pairwise_append.1 h3
      exact this.2.2 d hd c (by simp))
    have := of_inv p cs (done ++ [c]) _ _ h4 (fun d hd => h2 d (by simp [hd])) (by simpa using h3)
    simpa using this
theorem of_inv0 (p : Proposal) : OfInv p [] acc0 sum0 := ⟨⟨List.Pairwise.nil, List.Pairwise.nil, List.Pairwise.nil⟩, ⟨List.nodup_nil, by simp [acc0], by simp [acc0, sum0]⟩, ⟨List.nodup_nil, by simp [acc0], by simp [acc0, sum0]⟩, fun x => rfl, fun x o h => (by simp [acc0, getI] at h), by simp, ⟨rfl, rfl, rfl, rfl⟩⟩
theorem upto_strict (a b : Int) : StrictI (upto a b) := by
  unfold upto
  rw [StrictI, List.pairwise_map]
  exact List.pairwise_lt_range.imp (fun h => by omega)
theorem weightsOf_strict {m : List (Int × WeightEntry)} (h : ∀ x o, getI m x = some o → o.server = x) : StrictW (weightsOf m) := by
  unfold weightsOf
  rw [StrictW, List.pairwise_filterMap]
  exact (upto_strict 1 12).imp (fun {a b} hab o ho o' ho' => by rw [h a o ho, h b o' ho']; exact hab)
theorem weightsOf_lk {m : List (Int × WeightEntry)} (h : ∀ x o, getI m x = some o → o.server = x ∧ (1 ≤ x ∧ x ≤ 12)) (x : Int) : lk (weightsOf m) x = getI m x := by
  have gen : ∀ l : List Int, lk (l.filterMap (getI m)) x = if x ∈ l then getI m x else none := by
    intro l
    induction l with
    | nil => simp [lk]
    | cons y l ih =>
      rw [List.filterMap_cons]
      cases hy : getI m y with
      | none =>
        dsimp only; rw [ih]
        by_cases e : x = y
        · subst e; rw [hy]; simp
        · simp [e]
      | some o =>
        dsimp only; rw [lk_cons, ih, (h y o hy).1]
        by_cases e : y = x
        · subst e; rw [if_pos rfl, if_pos (by simp), hy]
        · rw [if_neg e]
          by_cases e2 : x ∈ l
          · rw [if_pos e2, if_pos (by simp [e2])]
          · rw [if_neg e2, if_neg (by simp [e2]; exact fun q => e q.symm)]
  unfold weightsOf
  rw [gen]
  split
  · rfl
  · rename_i hn
    cases hx : getI m x with
    | none => rfl
    | some o => exact absurd (mem_upto.2 (h x o hx).2) hn
theorem of_full {p : Proposal} (h : PropOK p) : OfInv p p.changes (ofAcc p) (ofT p) := by
  have := of_inv p p.changes [] acc0 sum0 (of_inv0 p) h.2.2.2.1 (by simpa using uniq_of h.2.2.2.2)
  unfold ofAcc ofT
  simpa using this
theorem ofS_T {p : Proposal} (h : PropOK p) : ofS p = ofT p ∧ SortedS (ofT p) := by
  have hI := of_full h
  refine ⟨?_, hI.sort⟩
  obtain ⟨⟨s1, s2, s3⟩, ⟨j1, j2, j3⟩, ⟨r1, r2, r3⟩, hw, he, hk, e1, e2, e3, e4⟩ := hI
  unfold ofS
  generalize ofT p = t at *
  obtain ⟨J, R, W, ru, ver, adm, num⟩ := t
  dsimp only at *
  rw [sorted_perm j1 s1 (fun x => (j3 x).symm), sorted_perm r1 s2 (fun x => (r3 x).symm), e1, e2, e3, e4]
  rw [strictW_ext (weightsOf_strict fun x o ho => (he x o ho).1) s3 (fun x => by rw [weightsOf_lk (fun x o ho => ⟨(he x o ho).1, (he x o ho).2.1⟩), hw])]
def MemOK (g : View) : Prop := (∀ m ∈ g.members, (1 ≤ m.server ∧ m.server ≤ 12) ∧ 1 ≤ m.weight ∧ m.weight ≤ 9) ∧ g.members.Pairwise (fun a b => a.server < b.server)
theorem initS_sorted {g : View} (h : MemOK g) : SortedS (initS g) := by
  refine ⟨?_, List.Pairwise.nil, ?_⟩
  · show (g.members.map (·.server)).Pairwise (· < ·)
    rw [List.pairwise_map]; exact h.2
  · show (g.members.map wOf).Pairwise _
    rw [List.pairwise_map]; exact h.2
theorem sumS_T {g : View} (hg : MemOK g) {c : Config} (hc : ∀ p ∈ c, PropOK p) : sumS g c = sumT g c ∧ SortedS (sumT g c) := by
  have gen : ∀ (c : Config) (s : Summary), SortedS s → (∀ p ∈ c, PropOK p) → c.foldl sumStep s = c.foldl sumTStep s ∧ SortedS (c.foldl sumTStep s) := by
    intro c
    induction c with
    | nil => intro s hs _; exact ⟨rfl, hs⟩
    | cons p c ih =>
      intro s hs hc
      have e1 := ofS_T (hc p (by simp))
      have e2 := joinS_T hs (ofT p)
      have e3 : sumStep s p = sumTStep s p := by unfold sumStep sumTStep; rw [e1.1, e2.1]
      rw [List.foldl_cons, List.foldl_cons, e3]
      exact ih _ e2.2 (fun q hq => hc q (by simp [hq]))
  exact gen c _ (initS_sorted hg) hc
theorem strictI_len : ∀ {l : List Int} {lo hi : Int}, StrictI l → (∀ x ∈ l, lo ≤ x ∧ x ≤ hi) → (l.length : Int) ≤ max 0 (hi - lo + 1)
  | [], lo, hi, _, _ => by simp; omega
  | x :: l, lo, hi, h, hb => by
    replace h := List.pairwise_cons.1 h
    have h0 := hb x (by simp)
    have h1 := strictI_len (lo := x + 1) (hi := hi) h.2 (fun y hy => ⟨by have := h.1 y hy; omega, (hb y (by simp [hy])).2⟩)
    rw [List.length_cons]; omega
theorem MemOK.len {g : View} (h : MemOK g) : g.members.length ≤ 12 := by
  have := strictI_len (l := g.members.map (·.server)) (lo := 1) (hi := 12) (by rw [StrictI, List.pairwise_map]; exact h.2) (fun x hx => by obtain ⟨m, hm, rfl⟩ := List.mem_map.1 hx; exact (h.1 m hm).1)
  rw [List.length_map] at this; omega
end Go.Proofs
namespace Go.Proofs
open Go.AM
attribute [local irreducible] AM.evalR AM.evalD AM.Runs AM.valK AM.dK AM.opK AM.stepR AM.CallS AM.St.Le
def ruleE (r : Rule) : Int := if r.kind < 1 ∨ 4 < r.kind then 10 else if (r.kind = 3 ∧ ¬ (1 ≤ r.columns ∧ r.columns ≤ 12)) ∨ (r.kind ≠ 3 ∧ r.columns ≠ 0) then 9 else if (r.kind = 4 ∧ (r.faulty < 0 ∨ 12 < r.faulty)) ∨ (r.kind ≠ 4 ∧ r.faulty ≠ 0) then 9 else 0
def changeE (c : Change) : Int :=
  if c.kind = 1 ∨ c.kind = 2 ∨ c.kind = 3 then
    if ¬ (1 ≤ c.server ∧ c.server ≤ 12) then 9
    else if (c.kind = 2 ∧ c.weight ≠ 0) ∨ (c.kind ≠ 2 ∧ (c.weight < 1 ∨ 9 < c.weight)) then 9
    else if (c.kind = 3 ∧ (c.version < 1 ∨ 1000 < c.version)) ∨ (c.kind ≠ 3 ∧ c.version ≠ 0) then 9
    else if c.rule = ⟨0, 0, 0⟩ then 0 else 2
  else if c.kind = 4 then (if c.server ≠ 0 then 9 else if c.weight ≠ 0 then 9 else if c.version < 1 ∨ 1000 < c.version then 9 else ruleE c.rule)
  else 10
theorem vax_Rule (r : Rule) : AM.Fn Try.prog 41 [ruV r] (.i (ruleE r)) := by
  (refine spec_of_runs Try.func41 rfl ?_; simp only [Try.f41]; refine ys ?_)
  repeat' (first | refine yw ?_ | ((with_reducible refine Runs.is ?_); first | refine Runs.region ?_ | ((with_reducible refine Runs.isC ?_); refine Runs.cond rfl (zc ?_) (zc ?_) <;> intro hc <;> (try (first | contradiction | (exfalso; omega; done) | (have : hc = trivial := rfl; clear this; clear hc))))) | ((with_reducible refine r_is ?_); first | refine yr ?_ | (refine r_fn rfl (val_Server _) HbF.h zL1 zD ?_; refine r_nn zN zH ?_) | ((with_reducible refine r_gd ?_); (first | refine r_guardPf rfl rfl ?_ ?_ | refine r_guardNf rfl rfl ?_ ?_ | refine r_guardPt rfl rfl ?_ ?_ | refine r_guardNt rfl rfl ?_ ?_ | refine r_guard rfl rfl ?_ ?_) <;> intro hG <;> (try (exfalso; omega; done)) <;> refine r_nn zN zH ?_)) | fail)
  all_goals ((refine Runs.ret1 Try.func41 rfl zM zD ?_; try exact zX))
  all_goals (refine V.Le.of_eq (congrArg V.i ?_); unfold ruleE; (repeat' split) <;> omega)
theorem ruleE_ok {r : Rule} (h : ruleE r = 0) : RuleOK r := by
  unfold ruleE at h
  unfold RuleOK
  split at h
  · omega
  split at h
  · omega
  split at h <;> omega
theorem changeE_ok {c : Change} (h : changeE c = 0) : ChangeOK c := by
  obtain ⟨k, s, w, v, r⟩ := c
  unfold changeE at h
  unfold ChangeOK
  dsimp only at h ⊢
  by_cases h4 : k = 4
  · subst h4
    rw [if_neg zd, if_pos rfl] at h
    (repeat' split at h) <;> first | omega | skip
    exact .inr (.inr (.inr ⟨rfl, by omega, by omega, by omega, ruleE_ok h⟩))
  · (repeat' split at h) <;> first | omega | skip
    rename_i hr
    rcases (show k = 1 ∨ k = 2 ∨ k = 3 by omega) with rfl | rfl | rfl
    · exact .inl ⟨rfl, by omega, by omega, by omega, hr⟩
    · exact .inr (.inl ⟨rfl, by omega, by omega, by omega, hr⟩)
    · exact .inr (.inr (.inl ⟨rfl, by omega, by omega, by omega, hr⟩))
end Go.Proofs
namespace Go.Proofs
open Go.AM
attribute [local irreducible] AM.evalR AM.evalD AM.Runs AM.valK AM.dK AM.opK AM.stepR AM.CallS AM.St.Le
def memE : List Member → Nat → Nat → Int
  | _, _, 0 => 0
  | l, i, n + 1 => if ¬ (1 ≤ (l.getD i default).server ∧ (l.getD i default).server ≤ 12) ∨ (l.getD i default).weight < 1 ∨ 9 < (l.getD i default).weight then 9
    else if 0 < i ∧ (l.getD i default).server ≤ (l.getD (i - 1) default).server then 7 else memE l (i + 1) n
def viewE (v : View) : Int := if ruleE v.rule ≠ 0 then ruleE v.rule else memE v.members 0 v.members.length
def genE (g : View) : Int := if viewE g ≠ 0 then viewE g else if g.members.length = 0 then 2 else 0
theorem vax_View (v : View) (hl : v.members.length ≤ 4611686018427387904) : AM.Fn Try.prog 23 [viV v] (.i (viewE v)) := by
  have hgo : ∀ e, viewE v = e → AM.Fn Try.prog 23 [viV v] (.i e) := by
    intro e he
    unfold viewE at he
    have hR := vax_Rule v.rule
    obtain ⟨ms, ru⟩ := v
    dsimp only at he hR hl
    (refine spec_of_runs Try.func23 rfl ?_; simp only [Try.f23]; refine ys ?_)
    repeat' (first | refine yw ?_ | ((with_reducible refine Runs.is ?_); first | refine Runs.region (id := 0) ?_ | refine Runs.region (id := 1) ?_ | refine Runs.region (id := 2) ?_ | refine Runs.region (id := 3) ?_ | refine Runs.region (id := 4) ?_ | ((with_reducible refine Runs.isC ?_); refine Runs.cond rfl (zc ?_) (zc ?_) <;> intro hc <;> (try (first | contradiction | (exfalso; omega; done) | (have : hc = trivial := rfl; clear this; clear hc))))) | ((with_reducible refine r_is ?_); first | refine yr ?_ | (refine r_fn rfl (hR) HbF.h zL1 zD ?_; refine r_nn zN zH ?_)) | fail)
    · rw [if_pos (by assumption)] at he
      subst he
      (refine Runs.ret1 Try.func23 rfl zM zD ?_; try exact zX)
    rw [if_neg zo] at he
    refine Runs.loopI (fun i : Nat => ms.length - i) (fun i => i ≤ ms.length ∧ memE ms i (ms.length - i) = e)
      (fun i => ⟨[.any, .ptr 1 0 0, .any, .any, .i (i : Nat), .any, .any, .any, .any, .any, .any, .any, .any, .any, .any, .any, .any, .any, .any, .any, .any, .any, .any, .any, .any, .any, .any, .any, .any, .any, .any, .any, .any, .any, .any, .any, .any, .any, .any, .any, .any, .any, .any, .any, .any, .any, .any, .any, .any, .any, .any, .any], [(1, .var 33 (viV ⟨ms, ru⟩))]⟩) 0 (by simpa using he) ?_ ?_
    · (refine St.Le.clean zR zU zV)
    rintro i ⟨hi, he2⟩ ih
    by_cases hlt : i < ms.length
    · rw [show ms.length - i = (ms.length - (i + 1)) + 1 by omega, memE] at he2
      have e1 : ((i : Int) - 1).toNat = i - 1 := by omega
      rw [← e1] at he2
      repeat' (first | refine yw ?_ | ((with_reducible refine Runs.is ?_); first | refine Runs.region (id := 5) ?_ | refine Runs.region (id := 7) ?_ | refine Runs.region (id := 8) ?_ | refine Runs.region (id := 9) ?_ | refine Runs.drawn (id := 10) mixed zK ?_ | refine Runs.region (id := 11) ?_ | refine Runs.region (id := 6) ?_ | ((with_reducible refine Runs.isC ?_); refine Runs.cond rfl (zc ?_) (zc ?_) <;> intro hc <;> (try (first | contradiction | (exfalso; omega; done) | (have : hc = trivial := rfl; clear this; clear hc))))) | ((with_reducible refine r_is ?_); first | refine yr ?_ | (refine r_fn rfl (val_Server _) HbF.h zL1 zD ?_; refine r_nn zN zH ?_) | ((with_reducible refine r_gd ?_); (first | refine r_guardPf rfl rfl ?_ ?_ | refine r_guardNf rfl rfl ?_ ?_ | refine r_guard rfl rfl ?_ ?_) <;> intro hG <;> (try (exfalso; omega; done)) <;> refine r_nn zN zH ?_)) | ((with_reducible refine d_is ?_); first | refine yd ?_ | ((with_reducible refine d_gd ?_); (first | refine d_guardPt rfl rfl ?_ ?_ | refine d_guardNt rfl rfl ?_ ?_ | refine d_guard rfl rfl ?_ ?_) <;> intro hG <;> (try (exfalso; omega; done)) <;> refine d_nn zN zH ?_)) | fail)
      all_goals first
        | (rw [if_pos zo] at he2; subst he2; (refine Runs.ret1 Try.func23 rfl zM zD ?_; try exact zX); done)
        | (rw [if_neg zo, if_pos zo] at he2; subst he2; (refine Runs.ret1 Try.func23 rfl zM zD ?_; try exact zX); done)
        | (rw [if_neg zo, if_neg zo] at he2
           refine ih (i + 1) _ ⟨by omega, he2⟩ zo ?_
           (refine St.Le.clean zR zU zV)
           done)
        | fail
    · repeat' (first | refine yw ?_ | ((with_reducible refine Runs.is ?_); first | refine Runs.region (id := 5) ?_ | ((with_reducible refine Runs.isC ?_); refine Runs.cond rfl (zc ?_) (zc ?_) <;> intro hc <;> (try (first | contradiction | (exfalso; omega; done) | (have : hc = trivial := rfl; clear this; clear hc))))) | ((with_reducible refine r_is ?_); first | refine yr ?_) | fail)
      rw [show ms.length - i = 0 by omega, memE] at he2
      repeat' (first | refine yw ?_ | ((with_reducible refine Runs.is ?_); first | refine Runs.region (id := 12) ?_ | ((with_reducible refine Runs.isC ?_); refine Runs.cond rfl (zc ?_) (zc ?_) <;> intro hc <;> (try (first | contradiction | (exfalso; omega; done) | (have : hc = trivial := rfl; clear this; clear hc))))) | ((with_reducible refine r_is ?_); first | refine yr ?_) | fail)
      subst he2
      (refine Runs.ret1 Try.func23 rfl zM zD ?_; try exact zX)
  exact hgo _ rfl
theorem vax_Gen (g : View) (hl : g.members.length ≤ 4611686018427387904) : AM.Fn Try.prog 8 [viV g] (.i (genE g)) := by
  have hgo : ∀ e, genE g = e → AM.Fn Try.prog 8 [viV g] (.i e) := by
    intro e he
    unfold genE at he
    have hV := vax_View g hl
    generalize viewE g = ve at *
    obtain ⟨ms, ru⟩ := g
    dsimp only at he hl
    (refine spec_of_runs Try.func8 rfl ?_; simp only [Try.f8]; refine ys ?_)
    repeat' (first | refine yw ?_ | ((with_reducible refine Runs.is ?_); first | refine Runs.region ?_ | ((with_reducible refine Runs.isC ?_); refine Runs.cond rfl (zc ?_) (zc ?_) <;> intro hc <;> (try (first | contradiction | (exfalso; omega; done) | (have : hc = trivial := rfl; clear this; clear hc))))) | ((with_reducible refine r_is ?_); first | refine yr ?_ | (refine r_fn rfl (hV) HbF.h zL1 zD ?_; refine r_nn zN zH ?_)) | fail)
    · rw [if_pos (by assumption)] at he
      subst he
      (refine Runs.ret1 Try.func8 rfl zM zD ?_; try exact zX)
    · rw [if_neg zo, if_pos zo] at he
      subst he
      (refine Runs.ret1 Try.func8 rfl zM zD ?_; try exact zX)
    · rw [if_neg zo, if_neg zo] at he
      subst he
      (refine Runs.ret1 Try.func8 rfl zM zD ?_; try exact zX)
  exact hgo _ rfl
theorem memE_ok {l : List Member} : ∀ (n i : Nat), memE l i n = 0 → ∀ j, i ≤ j → j < i + n → ((1 ≤ (l.getD j default).server ∧ (l.getD j default).server ≤ 12) ∧ 1 ≤ (l.getD j default).weight ∧ (l.getD j default).weight ≤ 9) ∧ (0 < j → (l.getD (j - 1) default).server < (l.getD j default).server)
  | 0, i, _, j, h1, h2 => by omega
  | n + 1, i, h, j, h1, h2 => by
    rw [memE] at h
    split at h
    · contradiction
    split at h
    · contradiction
    by_cases e : j = i
    · subst e; exact ⟨by omega, by omega⟩
    · exact memE_ok n (i + 1) h j zo zo
theorem adj_pairwise {l : List Member} (h : ∀ j, 0 < j → j < l.length → (l.getD (j - 1) default).server < (l.getD j default).server) : l.Pairwise (fun a b => a.server < b.server) := by
  have key : ∀ i j, i < j → j < l.length → (l.getD i default).server < (l.getD j default).server := by
    intro i j hij hj
    induction j with
    | zero => omega
    | succ j ih =>
      have h1 := h (j + 1) zo hj
      rw [Nat.add_sub_cancel] at h1
      by_cases e : i = j
      · subst e; exact h1
      · have h2 := ih zo zo; omega
  rw [List.pairwise_iff_getElem]
  intro i j hi hj hij
  have := key i j hij hj
  rw [List.getD_eq_getElem?_getD, List.getD_eq_getElem?_getD, List.getElem?_eq_getElem hj, List.getElem?_eq_getElem hi] at this
  exact this
theorem viewE_ok {v : View} (h : viewE v = 0) : RuleOK v.rule ∧ MemOK v := by
  unfold viewE at h
  split at h
  · contradiction
  rename_i h0
  have hk := memE_ok _ _ h
  refine ⟨ruleE_ok zo, fun m hm => ?_, adj_pairwise fun j h0 hj => (hk j zo zo).2 h0⟩
  obtain ⟨i, hi, rfl⟩ := List.mem_iff_getElem.1 hm
  have := (hk i zo zo).1
  rw [List.getD_eq_getElem?_getD, List.getElem?_eq_getElem hi] at this
  exact this
theorem genE_ok {g : View} (h : genE g = 0) : RuleOK g.rule ∧ MemOK g ∧ 0 < g.members.length := by
  unfold genE at h
  split at h
  · contradiction
  rename_i h0
  split at h
  · contradiction
  obtain ⟨h1, h2⟩ := viewE_ok (v := g) zo
  exact ⟨h1, h2, by omega⟩
theorem ref_EqualView (a b : View) (hl : a.members.length ≤ 4611686018427387904) : AM.Fn Try.prog 7 [viV a, viV b] (.b (decide (a = b))) := by
  have hgo : ∀ e, decide (a = b) = e → AM.Fn Try.prog 7 [viV a, viV b] (.b e) := by
    intro e he
    obtain ⟨ms, ru⟩ := a
    obtain ⟨ms', ru'⟩ := b
    dsimp only at hl
    (refine spec_of_runs Try.func7 rfl ?_; simp only [Try.f7]; refine ys ?_)
    repeat' (first | refine yw ?_ | ((with_reducible refine Runs.is ?_); first | refine Runs.region (id := 0) ?_ | refine Runs.region (id := 1) ?_ | refine Runs.region (id := 2) ?_ | refine Runs.region (id := 3) ?_ | ((with_reducible refine Runs.isC ?_); refine Runs.cond rfl (zc ?_) (zc ?_) <;> intro hc <;> (try (first | contradiction | (exfalso; omega; done) | (have : hc = trivial := rfl; clear this; clear hc))))) | ((with_reducible refine r_is ?_); first | refine yr ?_ | ((with_reducible refine r_gd ?_); (first | refine r_guardPf rfl rfl ?_ ?_ | refine r_guardNf rfl rfl ?_ ?_ | refine r_guard rfl rfl ?_ ?_) <;> intro hG <;> (try (exfalso; omega; done)) <;> refine r_nn zN zH ?_)) | fail)
    · rw [decide_eq_false (fun q => by injection q; contradiction)] at he
      subst he
      (refine Runs.ret1 Try.func7 rfl zM zD ?_; try exact zX)
    rotate_left
    · rw [decide_eq_false (fun q => by injection q with q1 q2; subst q1; exact absurd rfl hG)] at he
      subst he
      (refine Runs.ret1 Try.func7 rfl zM zD ?_; try exact zX)
    subst hc
    have hle : ms.length = ms'.length := by omega
    refine Runs.loopI (fun i : Nat => ms.length - i) (fun i => i ≤ ms.length ∧ ms.take i = ms'.take i)
      (fun i => ⟨[.any, .any, .ptr 2 0 0, .ptr 3 0 0, .any, .i (i : Nat), .any, .any, .any, .any, .any, .any, .any, .any, .any, .any, .any, .any, .any, .any, .any, .any, .any, .any, .any, .any, .any, .any, .any, .any, .any, .any, .any, .any, .any, .any, .any, .any], [(3, .var 33 (viV ⟨ms', ru⟩)), (2, .var 33 (viV ⟨ms, ru⟩))]⟩) 0 (by simp) ?_ ?_
    · (refine St.Le.clean zR zU zV)
    rintro i ⟨hi, he2⟩ ih
    by_cases hlt : i < ms.length
    · repeat' (first | refine yw ?_ | ((with_reducible refine Runs.is ?_); first | refine Runs.region (id := 4) ?_ | refine Runs.drawn (id := 6) mixed zK ?_ | refine Runs.region (id := 7) ?_ | refine Runs.region (id := 5) ?_ | ((with_reducible refine Runs.isC ?_); refine Runs.cond rfl (zc ?_) (zc ?_) <;> intro hc <;> (try (first | contradiction | (exfalso; omega; done) | (have : hc = trivial := rfl; clear this; clear hc))))) | ((with_reducible refine r_is ?_); first | refine yr ?_) | ((with_reducible refine d_is ?_); first | refine yd ?_) | fail)
      · rw [decide_eq_false (fun q => by injection q with q1 q2; subst q1; contradiction)] at he
        subst he
        (refine Runs.ret1 Try.func7 rfl zM zD ?_; try exact zX)
      · refine ih (i + 1) _ ⟨by omega, by rw [take_getD hlt, take_getD zo, he2]; congr⟩ zo ?_
        (refine St.Le.clean zR zU zV)
    · repeat' (first | refine yw ?_ | ((with_reducible refine Runs.is ?_); first | refine Runs.region (id := 4) ?_ | ((with_reducible refine Runs.isC ?_); refine Runs.cond rfl (zc ?_) (zc ?_) <;> intro hc <;> (try (first | contradiction | (exfalso; omega; done) | (have : hc = trivial := rfl; clear this; clear hc))))) | ((with_reducible refine r_is ?_); first | refine yr ?_) | fail)
      repeat' (first | refine yw ?_ | ((with_reducible refine Runs.is ?_); first | refine Runs.region (id := 8) ?_ | ((with_reducible refine Runs.isC ?_); refine Runs.cond rfl (zc ?_) (zc ?_) <;> intro hc <;> (try (first | contradiction | (exfalso; omega; done) | (have : hc = trivial := rfl; clear this; clear hc))))) | ((with_reducible refine r_is ?_); first | refine yr ?_) | fail)
      rw [List.take_of_length_le zo, List.take_of_length_le zo] at he2
      rw [decide_eq_true (by rw [he2])] at he
      subst he
      (refine Runs.ret1 Try.func7 rfl zM zD ?_; try exact zX)
  exact hgo _ rfl
end Go.Proofs
namespace Go.Proofs
open Go.AM
attribute [local irreducible] AM.evalR AM.evalD AM.Runs AM.valK AM.dK AM.opK AM.stepR AM.CallS AM.St.Le
theorem quo_Rule (r : Rule) : AM.Fn Try.prog 34 [ruV r] (.i (ruleE r)) := by
  (refine spec_of_runs Try.func34 rfl ?_; simp only [Try.f34]; refine ys ?_)
  repeat' (first | refine yw ?_ | ((with_reducible refine Runs.is ?_); first | refine Runs.region ?_ | refine Runs.drawn mixed zK ?_ | ((with_reducible refine Runs.isC ?_); refine Runs.cond rfl (zc ?_) (zc ?_) <;> intro hc <;> (try (first | contradiction | (exfalso; omega; done) | (have : hc = trivial := rfl; clear this; clear hc))))) | ((with_reducible refine r_is ?_); first | refine yr ?_ | ((with_reducible refine r_gd ?_); (first | refine r_guardPf rfl rfl ?_ ?_ | refine r_guardNf rfl rfl ?_ ?_ | refine r_guardPt rfl rfl ?_ ?_ | refine r_guardNt rfl rfl ?_ ?_ | refine r_guard rfl rfl ?_ ?_) <;> intro hG <;> (try (exfalso; omega; done)) <;> refine r_nn zN zH ?_)) | ((with_reducible refine d_is ?_); first | refine yd ?_) | fail)
  all_goals ((refine Runs.ret1 Try.func34 rfl zM zD ?_; try exact zX))
  all_goals (refine V.Le.of_eq (congrArg V.i ?_); unfold ruleE; (repeat' split) <;> omega)
theorem quo_View (v : View) (hl : v.members.length ≤ 4611686018427387904) : AM.Fn Try.prog 29 [viV v] (.i (viewE v)) := by
  have hgo : ∀ e, viewE v = e → AM.Fn Try.prog 29 [viV v] (.i e) := by
    intro e he
    unfold viewE at he
    have hR := quo_Rule v.rule
    obtain ⟨ms, ru⟩ := v
    dsimp only at he hR hl
    (refine spec_of_runs Try.func29 rfl ?_; simp only [Try.f29]; refine ys ?_)
    repeat' (first | refine yw ?_ | ((with_reducible refine Runs.is ?_); first | refine Runs.region (id := 0) ?_ | refine Runs.region (id := 1) ?_ | refine Runs.region (id := 2) ?_ | refine Runs.region (id := 3) ?_ | refine Runs.region (id := 4) ?_ | ((with_reducible refine Runs.isC ?_); refine Runs.cond rfl (zc ?_) (zc ?_) <;> intro hc <;> (try (first | contradiction | (exfalso; omega; done) | (have : hc = trivial := rfl; clear this; clear hc))))) | ((with_reducible refine r_is ?_); first | refine yr ?_ | (refine r_fn rfl (hR) HbF.h zL1 zD ?_; refine r_nn zN zH ?_)) | fail)
    · rw [if_pos (by assumption)] at he
      subst he
      (refine Runs.ret1 Try.func29 rfl zM zD ?_; try exact zX)
    rw [if_neg zo] at he
    refine Runs.loopI (fun i : Nat => ms.length - i) (fun i => i ≤ ms.length ∧ memE ms i (ms.length - i) = e)
      (fun i => ⟨[.any, .ptr 1 0 0, .any, .any, .any, .any, .any, .any, .any, .any, .any, .any, .any, .sl false (ms.map mbV), .i (ms.length : Nat), .i (i : Nat), .any, .any, .any, .any, .any, .any, .any, .any, .any, .any, .any, .any, .any, .any, .any, .any, .any, .any, .any, .any, .any, .any, .any, .any, .any, .any, .any, .any, .any, .any, .any, .any, .any, .any, .any, .any, .any], [(1, .var 33 (viV ⟨ms, ru⟩))]⟩) 0 (by simpa using he) ?_ ?_
    · (refine St.Le.clean zR zU zV)
    rintro i ⟨hi, he2⟩ ih
    by_cases hlt : i < ms.length
    · rw [show ms.length - i = (ms.length - (i + 1)) + 1 by omega, memE] at he2
      have e1 : ((i : Int) - 1).toNat = i - 1 := by omega
      rw [← e1] at he2
      repeat' (first | refine yw ?_ | ((with_reducible refine Runs.is ?_); first | refine Runs.region (id := 5) ?_ | refine Runs.region (id := 6) ?_ | refine Runs.region (id := 7) ?_ | refine Runs.region (id := 8) ?_ | refine Runs.drawn (id := 9) mixed zK ?_ | refine Runs.region (id := 10) ?_ | refine Runs.region (id := 11) ?_ | ((with_reducible refine Runs.isC ?_); refine Runs.cond rfl (zc ?_) (zc ?_) <;> intro hc <;> (try (first | contradiction | (exfalso; omega; done) | (have : hc = trivial := rfl; clear this; clear hc))))) | ((with_reducible refine r_is ?_); first | refine yr ?_ | ((with_reducible refine r_gd ?_); (first | refine r_guardPf rfl rfl ?_ ?_ | refine r_guardNf rfl rfl ?_ ?_ | refine r_guard rfl rfl ?_ ?_) <;> intro hG <;> (try (exfalso; omega; done)) <;> refine r_nn zN zH ?_)) | ((with_reducible refine d_is ?_); first | refine yd ?_ | ((with_reducible refine d_gd ?_); (first | refine d_guardPt rfl rfl ?_ ?_ | refine d_guardNt rfl rfl ?_ ?_ | refine d_guard rfl rfl ?_ ?_) <;> intro hG <;> (try (exfalso; omega; done)) <;> refine d_nn zN zH ?_)) | fail)
      all_goals first
        | (rw [if_pos zo] at he2; subst he2; (refine Runs.ret1 Try.func29 rfl zM zD ?_; try exact zX); done)
        | (rw [if_neg zo, if_pos zo] at he2; subst he2; (refine Runs.ret1 Try.func29 rfl zM zD ?_; try exact zX); done)
        | (rw [if_neg zo, if_neg zo] at he2
           refine ih (i + 1) _ ⟨by omega, he2⟩ zo ?_
           (refine St.Le.clean zR zU zV)
           done)
        | fail
    · repeat' (first | refine yw ?_ | ((with_reducible refine Runs.is ?_); first | refine Runs.region (id := 5) ?_ | ((with_reducible refine Runs.isC ?_); refine Runs.cond rfl (zc ?_) (zc ?_) <;> intro hc <;> (try (first | contradiction | (exfalso; omega; done) | (have : hc = trivial := rfl; clear this; clear hc))))) | ((with_reducible refine r_is ?_); first | refine yr ?_) | fail)
      rw [show ms.length - i = 0 by omega, memE] at he2
      repeat' (first | refine yw ?_ | ((with_reducible refine Runs.is ?_); first | refine Runs.region (id := 12) ?_ | ((with_reducible refine Runs.isC ?_); refine Runs.cond rfl (zc ?_) (zc ?_) <;> intro hc <;> (try (first | contradiction | (exfalso; omega; done) | (have : hc = trivial := rfl; clear this; clear hc))))) | ((with_reducible refine r_is ?_); first | refine yr ?_) | fail)
      subst he2
      (refine Runs.ret1 Try.func29 rfl zM zD ?_; try exact zX)
  exact hgo _ rfl
theorem member_Gen (g : View) (hl : g.members.length ≤ 4611686018427387904) : AM.Fn Try.prog 14 [viV g] (.i (genE g)) := by
  have hgo : ∀ e, genE g = e → AM.Fn Try.prog 14 [viV g] (.i e) := by
    intro e he
    unfold genE at he
    have hV := quo_View g hl
    generalize viewE g = ve at *
    obtain ⟨ms, ru⟩ := g
    dsimp only at he hl
    (refine spec_of_runs Try.func14 rfl ?_; simp only [Try.f14]; refine ys ?_)
    repeat' (first | refine yw ?_ | ((with_reducible refine Runs.is ?_); first | refine Runs.region ?_ | ((with_reducible refine Runs.isC ?_); refine Runs.cond rfl (zc ?_) (zc ?_) <;> intro hc <;> (try (first | contradiction | (exfalso; omega; done) | (have : hc = trivial := rfl; clear this; clear hc))))) | ((with_reducible refine r_is ?_); first | refine yr ?_ | (refine r_fn rfl (hV) HbF.h zL1 zD ?_; refine r_nn zN zH ?_)) | fail)
    · rw [if_pos (by assumption)] at he
      subst he
      (refine Runs.ret1 Try.func14 rfl zM zD ?_; try exact zX)
    · rw [if_neg zo, if_pos zo] at he
      subst he
      (refine Runs.ret1 Try.func14 rfl zM zD ?_; try exact zX)
    · rw [if_neg zo, if_neg zo] at he
      subst he
      (refine Runs.ret1 Try.func14 rfl zM zD ?_; try exact zX)
  exact hgo _ rfl
def srvB (x : Int) : Bool := decide (1 ≤ x ∧ x ≤ 12)
def negB (a b c : Int) : Bool := decide (a < 0 ∨ b < 0 ∨ c < 0)
theorem member_server (x : Int) : AM.Fn Try.prog 31 [.i x] (.b (srvB x)) := by
  (refine spec_of_runs Try.func31 rfl ?_; simp only [Try.f31]; refine ys ?_)
  repeat' (first | refine yw ?_ | ((with_reducible refine Runs.is ?_); first | refine Runs.region ?_ | ((with_reducible refine Runs.isC ?_); refine Runs.cond rfl (zc ?_) (zc ?_) <;> intro hc <;> (try (first | contradiction | (exfalso; omega; done) | (have : hc = trivial := rfl; clear this; clear hc))))) | ((with_reducible refine r_is ?_); first | refine yr ?_ | ((with_reducible refine r_gd ?_); (first | refine r_guardPt rfl rfl ?_ ?_ | refine r_guardNt rfl rfl ?_ ?_ | refine r_guard rfl rfl ?_ ?_) <;> intro hG <;> (try (exfalso; omega; done)) <;> refine r_nn zN zH ?_)) | fail)
  all_goals ((refine Runs.ret1 Try.func31 rfl zM zD ?_; try exact zX))
  all_goals (unfold srvB; first | (refine V.Le.of_eq (congrArg V.b (decide_eq_decide.2 ?_)); omega) | (refine V.Le.of_eq (congrArg V.b (decide_eq_false ?_).symm); omega))
theorem member_negative (a b c : Int) : AM.Fn Try.prog 33 [.i a, .i b, .i c] (.b (negB a b c)) := by
  (refine spec_of_runs Try.func33 rfl ?_; simp only [Try.f33]; refine ys ?_)
  repeat' (first | refine yw ?_ | ((with_reducible refine Runs.is ?_); first | refine Runs.region ?_ | ((with_reducible refine Runs.isC ?_); refine Runs.cond rfl (zc ?_) (zc ?_) <;> intro hc <;> (try (first | contradiction | (exfalso; omega; done) | (have : hc = trivial := rfl; clear this; clear hc))))) | ((with_reducible refine r_is ?_); first | refine yr ?_ | ((with_reducible refine r_gd ?_); (first | refine r_guardPf rfl rfl ?_ ?_ | refine r_guardNf rfl rfl ?_ ?_ | refine r_guard rfl rfl ?_ ?_) <;> intro hG <;> (try (exfalso; omega; done)) <;> refine r_nn zN zH ?_)) | fail)
  all_goals ((refine Runs.ret1 Try.func33 rfl zM zD ?_; try exact zX))
  all_goals (unfold negB; first | (refine V.Le.of_eq (congrArg V.b (decide_eq_decide.2 ?_)); omega) | (refine V.Le.of_eq (congrArg V.b (decide_eq_false ?_).symm); omega) | (refine V.Le.of_eq (congrArg V.b (decide_eq_true ?_).symm); omega))
theorem member_ascending (f : Bool) (l : List Int) : AM.Fn Try.prog 32 [.sl f (l.map .i)] (.b (ascR l)) := by
  (refine spec_of_runs Try.func32 rfl ?_; simp only [Try.f32]; refine ys ?_)
  (refine Runs.lens 0 ?_; refine yl ?_)
  intro hl
  repeat' (first | refine yw ?_ | ((with_reducible refine Runs.is ?_); first | refine Runs.region (id := 0) ?_ | refine Runs.region (id := 1) ?_ | ((with_reducible refine Runs.isC ?_); refine Runs.cond rfl (zc ?_) (zc ?_) <;> intro hc <;> (try (first | contradiction | (exfalso; omega; done) | (have : hc = trivial := rfl; clear this; clear hc))))) | ((with_reducible refine r_is ?_); first | refine yr ?_) | fail)
  refine Runs.loopI (fun i : Nat => l.length - i) (fun i => i ≤ l.length ∧ ascR l = ascR (l.drop i))
    (fun i => ⟨[.sl f (l.map .i), .any, .any, .i ((i + 1 : Nat) : Int), .any, .any, .any, .any, .any, .any, .any, .any, .any, .any, .any, .any, .any, .any, .any, .any], []⟩) 0 (by simp) ?_ ?_
  · (refine St.Le.clean zR zU zV)
  rintro i ⟨hi, he⟩ ih
  rw [he]
  by_cases hlt : i + 1 < l.length
  · have hd := ascR_drop hlt
    rw [hd]
    have e1 : (((i + 1 : Nat) : Int) - 1).toNat = i := by omega
    repeat' (first | refine yw ?_ | ((with_reducible refine Runs.is ?_); first | refine Runs.region (id := 2) ?_ | refine Runs.drawn (id := 4) mixed zK ?_ | refine Runs.region (id := 5) ?_ | refine Runs.region (id := 3) ?_ | ((with_reducible refine Runs.isC ?_); refine Runs.cond rfl (zc ?_) (zc ?_) <;> intro hc <;> (try (first | contradiction | (exfalso; omega; done) | (have : hc = trivial := rfl; clear this; clear hc))))) | ((with_reducible refine r_is ?_); first | refine yr ?_) | ((with_reducible refine d_is ?_); first | refine yd ?_) | fail)
    · (refine Runs.ret1 Try.func32 rfl zM zD ?_; try exact zX)
      rw [e1] at hc
      exact V.Le.of_eq (congrArg V.b (by rw [decide_eq_false zo]; rfl))
    · rw [e1] at hc
      rw [decide_eq_true (show l.getD i default < l.getD (i + 1) default by omega), Bool.true_and] at hd ⊢
      rw [← hd, ← he]
      repeat' (first | refine yw ?_ | ((with_reducible refine Runs.is ?_); first | refine Runs.region (id := 3) ?_ | ((with_reducible refine Runs.isC ?_); refine Runs.cond rfl (zc ?_) (zc ?_) <;> intro hc <;> (try (first | contradiction | (exfalso; omega; done) | (have : hc = trivial := rfl; clear this; clear hc))))) | ((with_reducible refine r_is ?_); first | refine yr ?_) | fail)
      refine ih (i + 1) _ ⟨by omega, by rw [he, hd]⟩ zo ?_
      (refine St.Le.clean zR zU zV)
  · have hd : ascR (l.drop i) = true := by
      match hm : l.drop i with
      | [] => rfl
      | [_] => rfl
      | x :: y :: t => have := congrArg List.length hm; simp at this; omega
    rw [hd]
    repeat' (first | refine yw ?_ | ((with_reducible refine Runs.is ?_); first | refine Runs.region (id := 2) ?_ | ((with_reducible refine Runs.isC ?_); refine Runs.cond rfl (zc ?_) (zc ?_) <;> intro hc <;> (try (first | contradiction | (exfalso; omega; done) | (have : hc = trivial := rfl; clear this; clear hc))))) | ((with_reducible refine r_is ?_); first | refine yr ?_) | fail)
    repeat' (first | refine yw ?_ | ((with_reducible refine Runs.is ?_); first | refine Runs.region (id := 6) ?_ | ((with_reducible refine Runs.isC ?_); refine Runs.cond rfl (zc ?_) (zc ?_) <;> intro hc <;> (try (first | contradiction | (exfalso; omega; done) | (have : hc = trivial := rfl; clear this; clear hc))))) | ((with_reducible refine r_is ?_); first | refine yr ?_) | fail)
    (refine Runs.ret1 Try.func32 rfl zM zD ?_; try exact zX)
def weiE : List WeightEntry → Nat → Nat → Int
  | _, _, 0 => 0
  | l, i, n + 1 => if srvB (l.getD i default).server = false ∨ (l.getD i default).weight < 1 ∨ 9 < (l.getD i default).weight ∨ negB (l.getD i default).version (l.getD i default).admin (l.getD i default).number = true then 9
    else if 0 < i ∧ (l.getD i default).server ≤ (l.getD (i - 1) default).server then 7 else weiE l (i + 1) n
def sumE (s : Summary) : Int :=
  if (s.joined ++ s.removed).all srvB = false then 9 else if ascR s.joined = false ∨ ascR s.removed = false then 7
  else if weiE s.weights 0 s.weights.length ≠ 0 then weiE s.weights 0 s.weights.length
  else if s.rule ≠ ⟨0, 0, 0⟩ ∧ ruleE s.rule ≠ 0 then ruleE s.rule
  else if negB s.version s.admin s.number = true ∨ (s.rule = ⟨0, 0, 0⟩ ∧ (s.version ≠ 0 ∨ s.admin ≠ 0 ∨ s.number ≠ 0)) then 9 else 0
end Go.Proofs
namespace Go.AM
open V (Le LeL)
variable {P : Program} {f : FuncId} {post : V → Heap → Prop} {todo : List Item} {s : St}
theorem Runs.pinList2 (k id n : Nat) {T t : TypeId} {sz m : Nat} {cs : List V} {es : List V} (hv : look s.heap id = some (.var T (.agg cs))) (hc : cs.getD n .any = .own m) (hn : n < cs.length) (hm : look s.heap m = some (.lst t sz es)) (hk : look s.heap k = none)
    (h : ∀ g p c, (0 < es.length → p = some ⟨g, 0, none⟩) → Runs P f post todo ⟨s.slots, (k, .gho (.slice p es.length c) (.own m)) :: upd s.heap id (.var T (.agg (cs.set n (.sc (.slice p es.length c)))))⟩) : Runs P f post todo s := by
  intro w0 O M loc a w b cs' hd S hb hkd
  obtain ⟨gv, arr, hloc, hheap, hrel⟩ := S.objs id _ hv
  have hr := hrel.2 n hn
  rw [show V.cells (.agg cs) = cs from rfl, hc] at hr
  obtain ⟨hx, _⟩ := hr.own_inv
  have hob := S.objs m _ hm
  obtain ⟨g, p0, c, hp0, hg⟩ : ∃ g p0 c, (0 < es.length → p0 = some ⟨g, 0, none⟩) ∧ loc m = .slice p0 es.length c := by
    rcases blk_own hob with ⟨g, c, e, _⟩ | ⟨e, h0⟩
    · exact ⟨g, _, c, fun _ => rfl, e⟩
    · exact ⟨0, none, 0, fun h => absurd h (Nat.not_lt.2 (Nat.le_of_eq h0)), by rw [h0]; exact e⟩
  have hx' : arr.toList.getD n undef = .slice p0 es.length c := by rw [hx]; exact hg
  rw [hx'] at hr
  have hs : ∀ i, (look (upd s.heap id (.var T (.agg (cs.set n (.sc (.slice p0 es.length c)))))) i).isSome = (look s.heap i).isSome := by
    intro i; rw [look_upd]; by_cases e : i = id <;> simp [e]
  have hF : ∀ b, (env w O s.heap loc).F b → (env w O (upd s.heap id (.var T (.agg (cs.set n (.sc (.slice p0 es.length c)))))) loc).F b ∧ w.heap[b]? = w.heap[b]? := fun b hb => ⟨⟨hb.1, hb.2.1, fun i hi => hb.2.2 i (by rw [← hs]; exact hi)⟩, rfl⟩
  have hrl : ∀ x v, Rel (env w O s.heap loc) x v → Rel (env w O (upd s.heap id (.var T (.agg (cs.set n (.sc (.slice p0 es.length c)))))) loc) x v := by
    intro x v hr
    refine hr.mono (E := env w O s.heap loc) (E' := env w O (upd s.heap id (.var T (.agg (cs.set n (.sc (.slice p0 es.length c)))))) loc) hF fun i p hp => ?_
    have hp' : look s.heap i = some p := hp
    by_cases e : i = id
    · subst e
      rw [hv] at hp'; cases hp'
      have e9 := look_upd s.heap i (.var T (.agg (cs.set n (.sc (.slice p0 es.length c))))) i
      rw [if_pos rfl, hv] at e9
      exact ⟨_, e9, by exact rfl, rfl⟩
    · exact ⟨p, by show look _ _ = _; rw [look_upd, if_neg e]; exact hp', p.alike_refl, rfl⟩
  have S2 : SimAt w0 O M (upd s.heap id (.var T (.agg (cs.set n (.sc (.slice p0 es.length c)))))) loc s.slots a.tmps.toList w := by
    refine ⟨S.vals.imp hrl, fun i p hp => ?_, fun i i' b a1 a2 => S.dist i i' b (by rw [← hs]; exact a1) (by rw [← hs]; exact a2), fun i b a1 => S.own i b (by rw [← hs]; exact a1), S.ext, S.O_lt⟩
    rw [look_upd] at hp
    by_cases e : i = id
    · subst e
      rw [if_pos rfl, hv] at hp
      cases hp
      refine ⟨gv, arr, hloc, hheap, by rw [show V.cells (.agg (cs.set n _)) = cs.set n _ from rfl, List.length_set]; exact hrel.1, fun i hi => ?_⟩
      rw [show V.cells (.agg (cs.set n (.sc (.slice p0 es.length c)))) = cs.set n (.sc (.slice p0 es.length c)) from rfl] at hi ⊢
      rw [List.length_set] at hi
      by_cases e : i = n
      · subst e
        rw [hx', setD_eq hn]; exact .sc _
      · have := hrl _ _ (hrel.2 i hi)
        rw [show V.cells (.agg cs) = cs from rfl] at this
        rw [setD_ne e]; exact this
    · rw [if_neg e] at hp
      exact (S.objs i p hp).imp rfl (fun b _ => rfl) hrl
  obtain ⟨k1, _⟩ := S2.ghost k (by rw [look_upd]; split <;> simp [hk]) (hrl _ _ hr)
  exact h g p0 c hp0 w0 O M _ a w b cs' hd k1 hb hkd
theorem St.Le.leVar (id n : Nat) {T : TypeId} {cs : List V} {u v : V} (hle : V.Le u v) (hv : look s.heap id = some (.var T (.agg cs))) (hc : cs.getD n .any = u) : s.Le ⟨s.slots, upd s.heap id (.var T (.agg (cs.set n v)))⟩ := by
  intro w0 O M loc xs w S
  refine ⟨loc, ?_⟩
  obtain ⟨gv, arr, hloc, hheap, hrel⟩ := S.objs id _ hv
  have hs : ∀ i, (look (upd s.heap id (.var T (.agg (cs.set n v)))) i).isSome = (look s.heap i).isSome := by
    intro i; rw [look_upd]; by_cases e : i = id <;> simp [e]
  have hF : ∀ b, (env w O s.heap loc).F b → (env w O (upd s.heap id (.var T (.agg (cs.set n v)))) loc).F b ∧ w.heap[b]? = w.heap[b]? := fun b hb => ⟨⟨hb.1, hb.2.1, fun i hi => hb.2.2 i (by rw [← hs]; exact hi)⟩, rfl⟩
  have hrl : ∀ x y, Rel (env w O s.heap loc) x y → Rel (env w O (upd s.heap id (.var T (.agg (cs.set n v)))) loc) x y := by
    intro x y hr
    refine hr.mono (E := env w O s.heap loc) (E' := env w O (upd s.heap id (.var T (.agg (cs.set n v)))) loc) hF fun i p hp => ?_
    have hp' : look s.heap i = some p := hp
    by_cases e : i = id
    · subst e
      rw [hv] at hp'; cases hp'
      have e9 := look_upd s.heap i (.var T (.agg (cs.set n v))) i
      rw [if_pos rfl, hv] at e9
      exact ⟨_, e9, by exact rfl, rfl⟩
    · exact ⟨p, by show look _ _ = _; rw [look_upd, if_neg e]; exact hp', p.alike_refl, rfl⟩
  refine ⟨S.vals.imp hrl, fun i p hp => ?_, fun i i' b a1 a2 => S.dist i i' b (by rw [← hs]; exact a1) (by rw [← hs]; exact a2), fun i b a1 => S.own i b (by rw [← hs]; exact a1), S.ext, S.O_lt⟩
  rw [look_upd] at hp
  by_cases e : i = id
  · subst e
    rw [if_pos rfl, hv] at hp
    cases hp
    refine ⟨gv, arr, hloc, hheap, by rw [show V.cells (.agg (cs.set n v)) = cs.set n v from rfl, List.length_set]; exact hrel.1, fun i hi => ?_⟩
    rw [show V.cells (.agg (cs.set n v)) = cs.set n v from rfl] at hi ⊢
    rw [List.length_set] at hi
    have h0 := hrel.2 i hi
    rw [show V.cells (.agg cs) = cs from rfl] at h0
    by_cases e : i = n
    · subst e
      rw [hc] at h0
      rw [setD_eq hi]; exact V.Rel_le hle (hrl _ _ h0)
    · rw [setD_ne e]; exact hrl _ _ h0
  · rw [if_neg e] at hp
    exact (S.objs i p hp).imp rfl (fun b _ => rfl) hrl
end Go.AM
namespace Go.Proofs
open Go.AM
attribute [local irreducible] AM.evalR AM.evalD AM.Runs AM.valK AM.dK AM.opK AM.stepR AM.CallS AM.St.Le
@[reducible] def zGen : V := .agg [.sc (.slice none 0 0), .i 0, .i 0, .i 0]
abbrev tPI : Nat := 57
abbrev fRead : Nat := 19
theorem dataOr_any : dataOr .any = .any := rfl
theorem dataOr_sc (x : Value) : dataOr (.sc x) = .sc x := rfl
theorem dataOr_ptr (i j k : Nat) : dataOr (.ptr i j k) = .any := rfl
theorem mapOr_nil : List.map dataOr [] = [] := rfl
theorem mapOr_cons (x : V) (l : List V) : List.map dataOr (x :: l) = dataOr x :: List.map dataOr l := rfl
attribute [go_sem] dataOr_any dataOr_sc dataOr_ptr mapOr_nil mapOr_cons
theorem Runs.retC3 {P : Program} {f : FuncId} {k : List Item} {s : St} {fn : Func} {r : V} {c i j : Tmp} {ty tt : TypeId} {ag : Bool} {n id : Nat} {v u w : V} (hf : P.funcs[f]? = some fn) (hr : fn.results.toList = [.cell c ty, .tmp i, .tmp j]) (hu : s.slots.getD c .any = .ptr id 0 0)
    (hl : AM.look s.heap id = some (.var tt v)) (ht : tyv P ty = some (ag, n)) (hn : n ≤ v.cells.length ∧ 0 < n) (hs : v.sub ag 0 n = v) (hi : s.slots.getD i .any = u) (hj : s.slots.getD j .any = w) (hd : r.data = true) (h : V.Le (.tup [v, u, w]) r) : AM.Runs P f (fun r' H' => r' = r ∧ H' = []) (.code .ret :: k) s := by
  refine Runs.ret_fn hf ?_
  rw [hr]
  show valK P (.load ty (.tmp c)) (ev s.slots) s.heap _
  refine v_load_ptr ht hu hl ?_ ?_ (.inl hn.2) ?_
  · exact Nat.one_pos
  · rw [Nat.zero_add]; exact hn.1
  · rw [show (Obj.elem (.var tt v) 0).sub ag 0 n = v from hs]
    show V.Le (.tup [v, s.slots.getD i .any, s.slots.getD j .any]) r ∧ _
    rw [hi, hj]
    exact ⟨h, hd⟩
def memsN (m : Nat) (ns : List Int) : List Member := (List.range m).map fun i => ⟨ns.getD (2 * i) 0, ns.getD (2 * i + 1) 0⟩
def ptrsN (g : Nat) (i : Nat) : List V := (List.range (2 * i)).map fun j => .sc (.pointer (some ⟨g, j, none⟩))
theorem memsN_nil (m : Nat) : (memsN m []).map mbV = List.replicate m (.agg [.i 0, .i 0]) := by
  unfold memsN
  rw [List.map_map]
  apply List.ext_getElem
  · simp
  · intro i h1 h2
    simp [mbV]
theorem getD_snoc {ns : List Int} {v : Int} (k : Nat) (h : k ≠ ns.length) : (ns ++ [v]).getD k 0 = ns.getD k 0 := by
  rw [List.getD_eq_getElem?_getD, List.getD_eq_getElem?_getD]
  by_cases hk : k < ns.length
  · rw [List.getElem?_append_left hk]
  · rw [List.getElem?_eq_none (by rw [List.length_append, List.length_singleton]; omega), List.getElem?_eq_none zo]
theorem getD_snoc_self {ns : List Int} {v : Int} {k : Nat} (h : k = ns.length) : (ns ++ [v]).getD k 0 = v := by
  subst h
  rw [List.getD_eq_getElem?_getD, List.getElem?_append_right (Nat.le_refl _), Nat.sub_self]; rfl
theorem memsN_len (m : Nat) (ns : List Int) : (memsN m ns).length = m := by simp [memsN]
theorem memsN_same {m : Nat} {ns : List Int} {v : Int} (h : 2 * m ≤ ns.length) : memsN m (ns ++ [v]) = memsN m ns := by
  unfold memsN
  apply List.map_congr_left
  intro i hi
  have := List.mem_range.1 hi
  rw [getD_snoc _ zo, getD_snoc _ zo]
theorem memsN_set {m : Nat} {ns : List Int} {v : Int} (h : ns.length < 2 * m) :
    ((memsN m ns).map mbV).set (ns.length / 2) (splice (((memsN m ns).map mbV).getD (ns.length / 2) .any) (ns.length % 2) [.i v]) = (memsN m (ns ++ [v])).map mbV := by
  have hq : ns.length / 2 < m := by omega
  apply List.ext_getElem
  · simp [memsN]
  · intro k h1 h2
    have hk : k < m := by simpa [memsN] using h2
    rw [List.getElem_set]
    by_cases he : ns.length / 2 = k
    · rw [if_pos he]
      have e1 : ((memsN m ns).map mbV).getD (ns.length / 2) .any = mbV ⟨ns.getD (2 * k) 0, ns.getD (2 * k + 1) 0⟩ := by
        rw [List.getD_eq_getElem?_getD, List.getElem?_eq_getElem (by simp [memsN]; omega)]
        simp [memsN, he]
      rw [e1]
      simp only [memsN, List.map_map, List.getElem_map, List.getElem_range, Function.comp_apply, mbV, splice]
      rcases Nat.mod_two_eq_zero_or_one ns.length with h0 | h0
      · rw [h0, getD_snoc_self zo, getD_snoc _ zo]; rfl
      · rw [h0, getD_snoc _ zo, getD_snoc_self zo]; rfl
    · rw [if_neg he]
      simp only [memsN, List.map_map, List.getElem_map, List.getElem_range, Function.comp_apply]
      rw [getD_snoc _ zo, getD_snoc _ zo]
@[reducible] def gH (f : Bool) (b : List Int) (gL g5 g2 g6 m cL : Nat) (pL : Option Addr) (x7 : Value) (ns : List Int) (a : Nat) : AM.Heap :=
  [(52, .gho (.pointer (some ⟨g6, 0, none⟩)) (.ptr 6 0 0)), (50, .gho (.pointer (some ⟨g2, 0, none⟩)) (.ptr 2 0 0)), (51, .gho (.pointer (some ⟨g5, 0, none⟩)) (.ptr 5 0 0)), (55, .gho (.slice pL m cL) (.own 27)), (27, .lst 38 2 ((memsN m ns).map mbV)), (53, .gho x7 (.fn 19 [.ptr 1 0 0, .ptr 6 0 0])), (6, .var 3 (.i (a : Nat))), (5, .var 26 (.agg [.sc (.slice pL m cL), .i (ns.getD (2 * m) 0), .i (ns.getD (2 * m + 1) 0), .i (ns.getD (2 * m + 2) 0)])), (2, .var 26 zGen), (1, .var 27 (.sl f (b.map u8)))]
def fldP (gL g5 m j : Nat) : Addr := if j < 2 * m then ⟨gL, j, none⟩ else ⟨g5, j - 2 * m + 1, none⟩
def fldL (gL g5 m : Nat) : List V := (List.range (2 * m + 3)).map fun j => .sc (.pointer (some (fldP gL g5 m j)))
theorem fldL_eq (gL g5 m : Nat) : ptrsN gL m ++ [.sc (.pointer (some ⟨g5, 1, none⟩)), .sc (.pointer (some ⟨g5, 2, none⟩)), .sc (.pointer (some ⟨g5, 3, none⟩))] = fldL gL g5 m := by
  unfold fldL ptrsN
  rw [List.range_succ, List.range_succ, List.range_succ]
  simp only [List.map_append, List.map_cons, List.map_nil, List.append_assoc, List.cons_append, List.nil_append]
  congr 1
  · apply List.map_congr_left
    intro j hj
    rw [fldP, if_pos (List.mem_range.1 hj)]
  · rw [fldP, if_neg zo, fldP, if_neg zo, fldP, if_neg zo, show 2 * m - 2 * m + 1 = 1 by omega, show 2 * m + 1 - 2 * m + 1 = 2 by omega, show 2 * m + 2 - 2 * m + 1 = 3 by omega]
theorem fldL_len (gL g5 m : Nat) : (fldL gL g5 m).length = 2 * m + 3 := by simp [fldL]
theorem fldL_get (gL g5 m : Nat) {j : Nat} (h : j < 2 * m + 3) : (fldL gL g5 m).getD j .any = .sc (.pointer (some (fldP gL g5 m j))) := by
  rw [List.getD_eq_getElem?_getD, List.getElem?_eq_getElem (by rw [fldL_len]; exact h)]
  simp [fldL]
theorem fld_step (f : Bool) (b : List Int) {gL g5 g2 g6 m cL : Nat} {pL : Option Addr} {x7 : Value} {ns : List Int} {a : Nat} (hpL : 0 < m → pL = some ⟨gL, 0, none⟩) (hj : ns.length < 2 * m + 3) :
    ∃ id i fo o, AM.look (gH f b gL g5 g2 g6 m cL pL x7 ns a) id = some o ∧ id ≠ 6 ∧ (i < o.len ∧ fo + 1 ≤ (o.elem i).cells.length) ∧ Gh (gH f b gL g5 g2 g6 m cL pL x7 ns a) (.sc (.pointer (some (fldP gL g5 m ns.length)))) (.ptr id i fo)
      ∧ ∀ (v : Int) (n : Nat), upd (upd (gH f b gL g5 g2 g6 m cL pL x7 ns a) 6 (.var 3 (.i ((a : Int) + n)))) id (o.wr i fo [.i v]) = gH f b gL g5 g2 g6 m cL pL x7 (ns ++ [v]) (a + n) := by
  have ea : ∀ n : Nat, (V.i ((a : Int) + n)) = .i ((a + n : Nat) : Int) := fun n => by rw [Int.natCast_add]
  by_cases h : ns.length < 2 * m
  · have e := hpL zo
    subst e
    have hf : fldP gL g5 m ns.length = ⟨gL, ns.length, none⟩ := by rw [fldP, if_pos h]
    refine ⟨27, ns.length / 2, ns.length % 2, _, rfl, by decide, ⟨?_, ?_⟩, ?_, fun v n => ?_⟩
    · show ns.length / 2 < ((memsN m ns).map mbV).length
      rw [List.length_map, memsN_len]; omega
    · show ns.length % 2 + 1 ≤ (V.cells (((memsN m ns).map mbV).getD (ns.length / 2) .any)).length
      rw [AM.getD_map mbV _ _ _ (by rw [memsN_len]; omega)]
      show ns.length % 2 + 1 ≤ 2
      omega
    · rw [hf]
      exact Gh.ptr 55 27 (ns.length / 2) (ns.length % 2) rfl rfl (.inl rfl) rfl (by show ns.length = ns.length / 2 * 2 + ns.length % 2; omega)
    · rw [ea]
      show upd (upd _ 6 _) 27 (.lst 38 2 (((memsN m ns).map mbV).set (ns.length / 2) (splice (((memsN m ns).map mbV).getD (ns.length / 2) .any) (ns.length % 2) [.i v]))) = _
      rw [memsN_set h]
      show upd (upd (gH f b gL g5 g2 g6 m cL _ x7 ns a) 6 _) 27 _ = _
      unfold gH
      rw [getD_snoc (2 * m) zo, getD_snoc (2 * m + 1) zo, getD_snoc (2 * m + 2) zo]
      rfl
  · have hf : fldP gL g5 m ns.length = ⟨g5, ns.length - 2 * m + 1, none⟩ := by rw [fldP, if_neg h]
    refine ⟨5, 0, ns.length - 2 * m + 1, _, rfl, by decide, ⟨Nat.one_pos, ?_⟩, ?_, fun v n => ?_⟩
    · show ns.length - 2 * m + 1 + 1 ≤ 4
      omega
    · rw [hf]
      exact Gh.ptr 51 5 0 (ns.length - 2 * m + 1) rfl rfl (.inr rfl) rfl (by show _ = 0 * 0 + _; omega)
    · rw [ea]
      unfold gH
      rw [memsN_same zo]
      have h3 : ns.length = 2 * m ∨ ns.length = 2 * m + 1 ∨ ns.length = 2 * m + 2 := by omega
      rcases h3 with e | e | e
      · rw [getD_snoc_self (by omega : 2 * m = ns.length), getD_snoc (2 * m + 1) zo, getD_snoc (2 * m + 2) zo, show ns.length - 2 * m + 1 = 1 by omega]; rfl
      · rw [getD_snoc (2 * m) zo, getD_snoc_self (by omega : 2 * m + 1 = ns.length), getD_snoc (2 * m + 2) zo, show ns.length - 2 * m + 1 = 2 by omega]; rfl
      · rw [getD_snoc (2 * m) zo, getD_snoc (2 * m + 1) zo, getD_snoc_self (by omega : 2 * m + 2 = ns.length), show ns.length - 2 * m + 1 = 3 by omega]; rfl
def readF (b : List Int) : Nat → Nat → List Int → List Int × Nat × Int
  | 0, a, ns => (ns, a, 0)
  | k + 1, a, ns => if (numE (b.drop a)).2.2 ≠ 0 then ([], 0, (numE (b.drop a)).2.2) else readF b k (a + (numE (b.drop a)).2.1.toNat) (ns ++ [(numE (b.drop a)).1])
def zView : View := ⟨[], ⟨0, 0, 0⟩⟩
def genN (m : Nat) (ns : List Int) : View := ⟨memsN m ns, ⟨ns.getD (2 * m) 0, ns.getD (2 * m + 1) 0, ns.getD (2 * m + 2) 0⟩⟩
def decE (b : List Int) : View × Int × Int :=
  if (numE b).2.2 ≠ 0 then (zView, 0, (numE b).2.2) else if 12 < (numE b).1 then (zView, 0, 3) else
  if (readF b (2 * (numE b).1.toNat + 3) (numE b).2.1.toNat []).2.2 ≠ 0 then (zView, 0, (readF b (2 * (numE b).1.toNat + 3) (numE b).2.1.toNat []).2.2) else
  if genE (genN (numE b).1.toNat (readF b (2 * (numE b).1.toNat + 3) (numE b).2.1.toNat []).1) ≠ 0 then (zView, 0, genE (genN (numE b).1.toNat (readF b (2 * (numE b).1.toNat + 3) (numE b).2.1.toNat []).1)) else
  (genN (numE b).1.toNat (readF b (2 * (numE b).1.toNat + 3) (numE b).2.1.toNat []).1, (readF b (2 * (numE b).1.toNat + 3) (numE b).2.1.toNat []).2.1, 0)
def deV (d : View × Int × Int) : V := .tup [viV d.1, .i d.2.1, .i d.2.2]
theorem readF_bd (b : List Int) : ∀ (k a : Nat) (ns : List Int), a ≤ b.length → (readF b k a ns).2.2 = 0 → (readF b k a ns).1.length = ns.length + k ∧ (readF b k a ns).2.1 ≤ b.length
  | 0, a, ns, h, _ => ⟨rfl, h⟩
  | k + 1, a, ns, h, he => by
    rw [readF] at he ⊢
    split at he
    · rename_i h1; exact absurd he h1
    · rename_i h1
      rw [if_neg h1]
      have hb := numE_bd (b.drop a)
      rw [List.length_drop] at hb
      have := readF_bd b k (a + (numE (b.drop a)).2.1.toNat) (ns ++ [(numE (b.drop a)).1]) zo he
      rw [List.length_append, List.length_singleton] at this
      omega
theorem member_DecodeGenesis (f : Bool) (b : List Int) (hB : Bytes b) (hb : b.length ≤ 4611686018427387904) : AM.Fn Try.prog 5 [.sl f (b.map u8)] (deV (decE b)) := by
  have hgo : ∀ d, decE b = d → AM.Fn Try.prog 5 [.sl f (b.map u8)] (deV d) := ?_
  · exact hgo _ rfl
  intro d hd
  unfold decE at hd
  (refine spec_of_runs Try.func5 rfl ?_; simp only [Try.f5]; refine ys ?_)
  repeat' (first | refine yw ?_ | ((with_reducible refine Runs.is ?_); first | refine Runs.region (id := 0) ?_ | refine Runs.region (id := 1) ?_ | refine Runs.region (id := 2) ?_ | refine Runs.region (id := 3) ?_ | refine Runs.region (id := 4) ?_ | ((with_reducible refine Runs.isC ?_); refine Runs.cond rfl (zc ?_) (zc ?_) <;> intro hc <;> (try (first | contradiction | (exfalso; omega; done) | (have : hc = trivial := rfl; clear this; clear hc))))) | ((with_reducible refine r_is ?_); first | refine yr ?_) | fail)
  refine Runs.weaken (s' := ⟨[.any, .ptr 1 0 0, .ptr 2 0 0, .i 0, .i 0, .ptr 5 0 0, .ptr 6 0 0, .fn fRead [.ptr 1 0 0, .ptr 6 0 0], .ptr 8 0 0, .any, .any, .any, .any, .any, .any, .any, .any, .any, .any, .any, .any, .any, .any, .any, .any, .any, .any, .any, .any, .any, .any, .any, .any, .any, .any, .any, .any, .any, .any, .any, .any, .any, .any, .any, .any, .any, .any, .any, .any, .any, .any, .any, .any, .any, .any, .any, .any, .any, .any, .any, .any, .any, .any, .any, .any, .any, .any, .any, .any, .any, .any, .any, .any, .any, .any, .any, .any, .any, .any], [(8, .var 3 (.i 0)), (6, .var 3 (.i 0)), (5, .var 26 zGen), (2, .var 26 zGen), (1, .var 27 (.sl f (b.map u8)))]⟩) (by (refine St.Le.clean zR zU zV)) ?_
  refine Runs.pinPtr 2 50 rfl zE rfl fun g2 => ?_
  refine Runs.pinPtr 5 51 rfl zE rfl fun g5 => ?_
  refine Runs.pinPtr 6 52 rfl zE rfl fun g6 => ?_
  refine Runs.pin 7 53 (v := .fn fRead [.ptr 1 0 0, .ptr 6 0 0]) rfl zE rfl fun x7 => ?_
  refine Runs.pinPtr 8 54 rfl zE rfl fun g8 => ?_
  dsimp only [List.set]
  generalize hr : numE b = r at hd
  obtain ⟨v, n, e⟩ := r
  have hd0 : numE (b.drop 0) = (v, n, e) := hr
  have hbd := numE_bd b
  rw [hr] at hbd
  dsimp only at hbd hd
  repeat' (first | refine yw ?_ | ((with_reducible refine Runs.is ?_); first | refine Runs.region (id := 5) ?_ | ((with_reducible refine Runs.isC ?_); refine Runs.cond rfl (zc ?_) (zc ?_) <;> intro hc <;> (try (first | contradiction | (exfalso; omega; done) | (have : hc = trivial := rfl; clear this; clear hc))))) | ((with_reducible refine r_is ?_); first | refine yr ?_) | fail)
  by_cases he : e = 0
  · subst he
    refine r_hand (caps := [.ptr 1 0 0, .ptr 6 0 0]) (us := [.ptr 8 0 0]) (read_ok _ f b 0 8 0 0 (.var 3 (.i 0)) hB (Nat.zero_le _) hb rfl rfl rfl zd ⟨Nat.one_pos, Nat.le_refl 1⟩ hd0) HbF.h (Gh.gho 53 rfl) ⟨Gh.gho 54 rfl, trivial⟩ ?_
    refine r_nn zN zH ?_
    repeat' (first | refine yw ?_ | ((with_reducible refine Runs.is ?_); first | refine Runs.region (id := 5) ?_ | refine Runs.region (id := 6) ?_ | ((with_reducible refine Runs.isC ?_); refine Runs.cond rfl (zc ?_) (zc ?_) <;> intro hc <;> (try (first | contradiction | (exfalso; omega; done) | (have : hc = trivial := rfl; clear this; clear hc))))) | ((with_reducible refine r_is ?_); first | refine yr ?_) | fail)
    refine Runs.weaken (St.Le.unpin 8 54 rfl rfl zE) ?_
    refine Runs.weaken (St.Le.unpin 5 51 rfl rfl zE) ?_
    refine Runs.weaken (St.Le.unpin 2 50 rfl rfl zE) ?_
    refine Runs.weaken (St.Le.unpin 6 52 rfl rfl zE) ?_
    dsimp only [List.set]
    repeat' (first | refine yw ?_ | ((with_reducible refine Runs.is ?_); first | refine Runs.region (id := 8) ?_ | refine Runs.region (id := 9) ?_ | ((with_reducible refine Runs.isC ?_); refine Runs.cond rfl (zc ?_) (zc ?_) <;> intro hc <;> (try (first | contradiction | (exfalso; omega; done) | (have : hc = trivial := rfl; clear this; clear hc))))) | ((with_reducible refine r_is ?_); first | refine yr ?_) | fail)
    · rw [if_neg zo, if_pos zo] at hd
      subst hd
      refine Runs.weaken (St.Le.leVar 2 0 (V.Le.nil false) rfl rfl) ?_
      exact Runs.retC3 (id := 2) rfl rfl rfl rfl TyF.h ⟨Nat.le_refl 4, by decide⟩ rfl rfl rfl rfl (V.Le.refl _)
    rw [if_neg zo, if_neg zo] at hd
    repeat' (first | refine yw ?_ | ((with_reducible refine Runs.is ?_); first | refine Runs.region (id := 10) ?_ | refine Runs.region (id := 11) ?_ | refine Runs.region (id := 12) ?_ | ((with_reducible refine Runs.isC ?_); refine Runs.cond rfl (zc ?_) (zc ?_) <;> intro hc <;> (try (first | contradiction | (exfalso; omega; done) | (have : hc = trivial := rfl; clear this; clear hc))))) | ((with_reducible refine r_is ?_); first | refine yr ?_) | fail)
    obtain ⟨m, rfl⟩ : ∃ m : Nat, v = m := ⟨v.toNat, by omega⟩
    obtain ⟨a, rfl⟩ : ∃ a : Nat, n = a := ⟨n.toNat, by omega⟩
    rw [Int.toNat_natCast, Int.toNat_natCast] at hd
    refine Runs.weaken (s' := ⟨[.any, .any, .ptr 2 0 0, .i 0, .i 0, .ptr 5 0 0, .ptr 6 0 0, .sc x7, .any, .any, .sc (.slice none 0 0), .any, .any, .any, .any, .any, .any, .any, .any, .any, .any, .any, .any, .any, .any, .any, .any, .any, .any, .any, .any, .i ((List.replicate m (V.agg [V.sc (.int .i64 0), V.sc (.int .i64 0)])).length : Nat), .i 0, .any, .any, .any, .any, .any, .any, .any, .any, .any, .any, .any, .any, .any, .any, .any, .any, .any, .any, .any, .any, .any, .any, .any, .any, .any, .any, .any, .any, .any, .any, .any, .any, .any, .any, .any, .any, .any, .any, .any, .any, .any, .any, .any, .any, .any, .any], [(27, .lst 38 2 ((memsN m []).map mbV)), (53, .gho x7 (.fn fRead [.ptr 1 0 0, .ptr 6 0 0])), (6, .var 3 (.i a)), (5, .var 26 (.agg [.own 27, .i 0, .i 0, .i 0])), (2, .var 26 zGen), (1, .var 27 (.sl f (b.map u8)))]⟩) ?_ ?_
    · rw [memsN_nil, show (Int.toNat (m : Int)) = m from Int.toNat_natCast m]
      (refine St.Le.clean zR zU zV)
    rw [List.length_replicate]
    refine Runs.pinList2 55 5 0 rfl rfl zE rfl rfl fun gL pL cL hpL => ?_
    rw [List.length_map, show (memsN m []).length = m by simp [memsN]] at hpL
    rw [List.length_map, show (memsN m []).length = m by simp [memsN]]
    dsimp only [List.set, go_sem]
    simp only [Nat.reduceEqDiff, ↓reduceIte]
    (refine Runs.weaken (St.Le.nil 10 57 1 10 zd rfl rfl zE) ?_)
    refine Runs.loopI (fun i : Nat => m - i) (fun i => i ≤ m)
      (fun i => ⟨[.any, .any, .ptr 2 0 0, .i 0, .i 0, .ptr 5 0 0, .ptr 6 0 0, .sc x7, .any, .any, .own 10, .any, .any, .any, .any, .any, .any, .any, .any, .any, .any, .any, .any, .any, .any, .any, .any, .any, .any, .any, .any, .i m, .i (i : Nat), .any, .any, .any, .any, .any, .any, .any, .any, .any, .any, .any, .any, .any, .any, .any, .any, .any, .any, .any, .any, .any, .any, .any, .any, .any, .any, .any, .any, .any, .any, .any, .any, .any, .any, .any, .any, .any, .any, .any, .any, .any, .any, .any, .any, .any, .any],
        [(10, .lst tPI 1 (ptrsN gL i)), (55, .gho (.slice pL m cL) (.own 27)), (27, .lst 38 2 ((memsN m []).map mbV)), (53, .gho x7 (.fn fRead [.ptr 1 0 0, .ptr 6 0 0])), (6, .var 3 (.i a)), (5, .var 26 (.agg [.sc (.slice pL m cL), .i 0, .i 0, .i 0])), (2, .var 26 zGen), (1, .var 27 (.sl f (b.map u8)))]⟩) 0 (Nat.zero_le _) ?_ ?_
    · (refine St.Le.clean zR zU zV)
    · intro i hi ih
      dsimp only at hi ih ⊢
      by_cases hlt : i < m
      · have hp := hpL zo
        subst hp
        repeat' (first | (with_reducible refine And.intro (by intro a i h; cases h) ?_) | refine yw ?_ | ((with_reducible refine Runs.is ?_); first | (refine Runs.drawnT (id := 15) [] 12 mixed zK (by decide +kernel) ?_; dsimp only [List.take, List.drop]) | refine Runs.region (id := 13) ?_ | refine Runs.region (id := 14) ?_ | refine Runs.drawn (id := 15) mixed zK ?_ | ((with_reducible refine Runs.isC ?_); refine Runs.cond rfl (zc ?_) (zc ?_) <;> intro hc <;> (try (first | contradiction | (exfalso; omega; done) | (have : hc = trivial := rfl; clear this; clear hc))))) | ((with_reducible refine r_is ?_); first | refine yr ?_ | (refine r_append_full SlF.h SlF.s ZoF.h zd rfl rfl zC zJ zS rfl (fun hn => ?_) (fun hn => ?_) <;> refine r_nn zN zH ?_)) | ((with_reducible refine d_is ?_); first | refine yd ?_) | fail)
        refine And.intro (by intro a i h; cases h) ?_
        simp only [List.map_cons, List.map_nil, ev, List.getD_cons_succ, List.getD_cons_zero]
        have hlen : (ptrsN gL i).length = 2 * i := by simp [ptrsN]
        refine r_append_own SlF.h SlF.s ZoF.h zd rfl rfl rfl ⟨by intro v hv; simp only [List.mem_cons, List.not_mem_nil, or_false] at hv; rcases hv with rfl | rfl <;> rfl, by intro v hv; simp only [List.mem_cons, List.not_mem_nil, or_false] at hv; rcases hv with rfl | rfl <;> rfl⟩ ⟨by rw [hlen, List.length_cons, List.length_cons, List.length_nil]; omega, by rw [hlen, List.length_cons, List.length_cons, List.length_nil]; omega⟩ ?_
        refine r_nn zN zH ?_
        have hnext : ptrsN gL i ++ [.sc (.pointer (some ⟨gL, 0 + ((i : Nat) : Int).toNat * 2 + 0, none⟩)), .sc (.pointer (some ⟨gL, 0 + ((i : Nat) : Int).toNat * 2 + 1, none⟩))] = ptrsN gL (i + 1) := by
          unfold ptrsN
          rw [show 2 * (i + 1) = 2 * i + 1 + 1 by omega, List.range_succ, List.range_succ, List.map_append, List.map_append, List.append_assoc]
          simp only [List.map_cons, List.map_nil, List.cons_append, List.nil_append, Int.toNat_natCast]
          rw [show 0 + i * 2 + 0 = 2 * i by omega, show 0 + i * 2 + 1 = 2 * i + 1 by omega]
        rw [hnext]
        repeat' (first | (with_reducible refine And.intro (by intro a i h; cases h) ?_) | refine yw ?_ | ((with_reducible refine Runs.is ?_); first | (refine Runs.drawnT (id := 15) [] 12 mixed zK (by decide +kernel) ?_; dsimp only [List.take, List.drop]) | refine Runs.drawn (id := 15) mixed zK ?_ | refine Runs.region (id := 16) ?_ | ((with_reducible refine Runs.isC ?_); refine Runs.cond rfl (zc ?_) (zc ?_) <;> intro hc <;> (try (first | contradiction | (exfalso; omega; done) | (have : hc = trivial := rfl; clear this; clear hc))))) | ((with_reducible refine r_is ?_); first | refine yr ?_ | (refine r_append_full SlF.h SlF.s ZoF.h zd rfl rfl zC zJ zS rfl (fun hn => ?_) (fun hn => ?_) <;> refine r_nn zN zH ?_)) | ((with_reducible refine d_is ?_); first | refine yd ?_) | fail)
        refine ih (i + 1) _ zo zo ?_
        (refine St.Le.clean zR zU zV)
      · have hi' : i = m := by omega
        subst hi'
        repeat' (first | refine yw ?_ | ((with_reducible refine Runs.is ?_); first | refine Runs.region (id := 13) ?_ | ((with_reducible refine Runs.isC ?_); refine Runs.cond rfl (zc ?_) (zc ?_) <;> intro hc <;> (try (first | contradiction | (exfalso; omega; done) | (have : hc = trivial := rfl; clear this; clear hc))))) | ((with_reducible refine r_is ?_); first | refine yr ?_) | fail)
        refine Runs.pinPtr 5 51 rfl zE rfl fun g5 => ?_
        refine Runs.pinPtr 2 50 rfl zE rfl fun g2 => ?_
        refine Runs.pinPtr 6 52 rfl zE rfl fun g6 => ?_
        dsimp only [List.set]
        repeat' (first | refine yw ?_ | ((with_reducible refine Runs.is ?_); first | refine Runs.region (id := 17) ?_ | ((with_reducible refine Runs.isC ?_); refine Runs.cond rfl (zc ?_) (zc ?_) <;> intro hc <;> (try (first | contradiction | (exfalso; omega; done) | (have : hc = trivial := rfl; clear this; clear hc))))) | ((with_reducible refine r_is ?_); first | refine yr ?_ | (refine r_append_full SlF.h SlF.s ZoF.h zd rfl rfl zC zJ zS rfl (fun hn => ?_) (fun hn => ?_) <;> refine r_nn zN zH ?_)) | fail)
        simp only [List.map_cons, List.map_nil, ev, List.getD_cons_succ, List.getD_cons_zero]
        have hlen : (ptrsN gL i).length = 2 * i := by simp [ptrsN]
        refine r_append_own SlF.h SlF.s ZoF.h zd rfl rfl rfl ⟨by intro v hv; simp only [List.mem_cons, List.not_mem_nil, or_false] at hv; rcases hv with rfl | rfl | rfl <;> rfl, by intro v hv; simp only [List.mem_cons, List.not_mem_nil, or_false] at hv; rcases hv with rfl | rfl | rfl <;> rfl⟩ ⟨by rw [hlen, List.length_cons, List.length_cons, List.length_cons, List.length_nil]; omega, by rw [hlen, List.length_cons, List.length_cons, List.length_cons, List.length_nil]; omega⟩ ?_
        refine r_nn zN zH ?_
        repeat' (first | refine yw ?_ | ((with_reducible refine Runs.is ?_); first | refine Runs.region (id := 17) ?_ | ((with_reducible refine Runs.isC ?_); refine Runs.cond rfl (zc ?_) (zc ?_) <;> intro hc <;> (try (first | contradiction | (exfalso; omega; done) | (have : hc = trivial := rfl; clear this; clear hc))))) | ((with_reducible refine r_is ?_); first | refine yr ?_ | (refine r_append_full SlF.h SlF.s ZoF.h zd rfl rfl zC zJ zS rfl (fun hn => ?_) (fun hn => ?_) <;> refine r_nn zN zH ?_)) | fail)
        rw [fldL_eq]
        (refine Runs.weaken (St.Le.freeze_lst 10 rfl) ?_; refine yf ?_)
        rw [fldL_len]
        generalize hq : readF b (2 * i + 3) a [] = q at hd
        refine Runs.loopI (α := List Int × Nat) (fun x => 2 * i + 3 - x.1.length) (fun x => x.1.length ≤ 2 * i + 3 ∧ x.2 ≤ b.length ∧ readF b (2 * i + 3 - x.1.length) x.2 x.1 = q)
          (fun x => ⟨[.any, .any, .sc (.pointer (some ⟨g2, 0, none⟩)), .i 0, .i 0, .sc (.pointer (some ⟨g5, 0, none⟩)), .sc (.pointer (some ⟨g6, 0, none⟩)), .sc x7, .any, .any, .any, .any, .any, .any, .any, .any, .any, .any, .any, .any, .any, .any, .any, .any, .any, .any, .any, .any, .any, .any, .any, .any, .any, .any, .any, .any, .any, .any, .any, .any, .any, .any, .any, .any, .any, .any, .any, .any, .any, .any, .any, .any, .any, .any, .any, .any, .any, .sl false (fldL gL g5 i), .i ((2 * i + 3 : Nat)), .i (x.1.length : Nat), .any, .any, .any, .any, .any, .any, .any, .any, .any, .any, .any, .any, .any, .any, .any, .any, .any, .any, .any], gH f b gL g5 g2 g6 i cL pL x7 x.1 x.2⟩) ([], a) ⟨Nat.zero_le _, by dsimp only; omega, hq⟩ ?_ ?_
        · (refine St.Le.clean zR zU zV)
        rintro ⟨ns, p⟩ ⟨hn1, hn2, hn3⟩ ih
        dsimp only at hn1 hn2 hn3 ih ⊢
        by_cases hlt : ns.length < 2 * i + 3
        · repeat' (first | refine yw ?_ | ((with_reducible refine Runs.is ?_); first | refine Runs.region (id := 18) ?_ | refine Runs.region (id := 19) ?_ | ((with_reducible refine Runs.isC ?_); refine Runs.cond rfl (zc ?_) (zc ?_) <;> intro hc <;> (try (first | contradiction | (exfalso; omega; done) | (have : hc = trivial := rfl; clear this; clear hc))))) | ((with_reducible refine r_is ?_); first | refine yr ?_) | fail)
          refine r_v rfl (v_indexAddr_slE (v := .sc (.pointer (some (fldP gL g5 i ns.length)))) SlF.h rfl rfl ⟨Int.natCast_nonneg _, by rw [fldL_len]; omega⟩ (by rw [Int.toNat_natCast]; exact fldL_get gL g5 i hlt) rfl ?_)
          refine r_n zN ?_
          repeat' (first | refine yw ?_ | ((with_reducible refine Runs.is ?_); first | refine Runs.region (id := 19) ?_ | refine Runs.region (id := 20) ?_ | ((with_reducible refine Runs.isC ?_); refine Runs.cond rfl (zc ?_) (zc ?_) <;> intro hc <;> (try (first | contradiction | (exfalso; omega; done) | (have : hc = trivial := rfl; clear this; clear hc))))) | ((with_reducible refine r_is ?_); first | refine yr ?_) | fail)
          obtain ⟨id, i1, fo, o, k1, k2, k3, k4, k5⟩ := fld_step f b (g2 := g2) (g6 := g6) (g5 := g5) (cL := cL) (x7 := x7) (a := p) hpL hlt
          have hfld : dataOr (.sl false (fldL gL g5 i)) = .sl false (fldL gL g5 i) := by
            unfold dataOr
            rw [if_pos (by show V.dataL (fldL gL g5 i) = true; exact dataL_map _ _ fun _ => rfl)]
          generalize hr2 : numE (b.drop p) = r2
          obtain ⟨v2, n2, e2⟩ := r2
          by_cases he2 : e2 = 0
          · subst he2
            have hb2 := numE_bd (b.drop p)
            rw [hr2, List.length_drop] at hb2
            dsimp only at hb2
            obtain ⟨n3, rfl⟩ : ∃ n3 : Nat, n2 = n3 := ⟨n2.toNat, by omega⟩
            refine r_hand (caps := [.ptr 1 0 0, .ptr 6 0 0]) (us := [.ptr id i1 fo]) (read_ok _ f b p id i1 fo o hB hn2 hb rfl rfl k1 k2 k3 hr2) HbF.h (Gh.gho 53 rfl) ⟨k4, trivial⟩ ?_
            rw [k5]
            refine r_n zN ?_
            rw [hfld]
            repeat' (first | refine yw ?_ | ((with_reducible refine Runs.is ?_); first | refine Runs.region (id := 20) ?_ | refine Runs.region (id := 21) ?_ | refine Runs.region (id := 22) ?_ | refine Runs.region (id := 23) ?_ | ((with_reducible refine Runs.isC ?_); refine Runs.cond rfl (zc ?_) (zc ?_) <;> intro hc <;> (try (first | contradiction | (exfalso; omega; done) | (have : hc = trivial := rfl; clear this; clear hc))))) | ((with_reducible refine r_is ?_); first | refine yr ?_) | fail)
            rw [show 2 * i + 3 - ns.length = (2 * i + 3 - (ns.length + 1)) + 1 by omega, readF, hr2, if_neg (fun h => h rfl)] at hn3
            dsimp only [Int.toNat_natCast] at hn3
            refine ih (ns ++ [v2], p + n3) _ ⟨by dsimp only; rw [List.length_append, List.length_singleton]; omega, by dsimp only; omega, by dsimp only; rw [List.length_append, List.length_singleton]; exact hn3⟩ (by dsimp only; rw [List.length_append, List.length_singleton]; omega) ?_
            dsimp only
            rw [List.length_append, List.length_singleton, Int.natCast_add]
            (refine St.Le.clean zR zU zV)
          · refine r_hand (caps := [.ptr 1 0 0, .ptr 6 0 0]) (us := [.ptr id i1 fo]) (read_no _ f b p id i1 fo o hB hn2 hb rfl rfl k1 k2 k3 hr2 he2) HbF.h (Gh.gho 53 rfl) ⟨k4, trivial⟩ ?_
            refine r_n zN ?_
            repeat' (first | refine yw ?_ | ((with_reducible refine Runs.is ?_); first | refine Runs.region (id := 20) ?_ | ((with_reducible refine Runs.isC ?_); refine Runs.cond rfl (zc ?_) (zc ?_) <;> intro hc <;> (try (first | contradiction | (exfalso; omega; done) | (have : hc = trivial := rfl; clear this; clear hc))))) | ((with_reducible refine r_is ?_); first | refine yr ?_) | fail)
            refine Runs.weaken (St.Le.unpin 2 50 rfl rfl zE) ?_
            dsimp only [List.set]
            repeat' (first | refine yw ?_ | ((with_reducible refine Runs.is ?_); first | refine Runs.region (id := 21) ?_ | refine Runs.region (id := 22) ?_ | ((with_reducible refine Runs.isC ?_); refine Runs.cond rfl (zc ?_) (zc ?_) <;> intro hc <;> (try (first | contradiction | (exfalso; omega; done) | (have : hc = trivial := rfl; clear this; clear hc))))) | ((with_reducible refine r_is ?_); first | refine yr ?_) | fail)
            rw [show 2 * i + 3 - ns.length = (2 * i + 3 - (ns.length + 1)) + 1 by omega, readF, hr2, if_pos he2] at hn3
            subst hn3
            rw [if_pos he2] at hd
            subst hd
            refine Runs.weaken (St.Le.leVar 2 0 (V.Le.nil false) rfl rfl) ?_
            exact Runs.retC3 (id := 2) rfl rfl rfl rfl TyF.h ⟨Nat.le_refl 4, by decide⟩ rfl rfl rfl rfl (V.Le.refl _)
        have hfin : ns.length = 2 * i + 3 := by omega
        rw [hfin, Nat.sub_self, readF] at hn3
        subst hn3
        rw [if_neg (fun h => h rfl)] at hd
        dsimp only at hd
        repeat' (first | refine yw ?_ | ((with_reducible refine Runs.is ?_); first | refine Runs.region (id := 18) ?_ | ((with_reducible refine Runs.isC ?_); refine Runs.cond rfl (zc ?_) (zc ?_) <;> intro hc <;> (try (first | contradiction | (exfalso; omega; done) | (have : hc = trivial := rfl; clear this; clear hc))))) | ((with_reducible refine r_is ?_); first | refine yr ?_) | fail)
        refine Runs.weaken (St.Le.unpin 2 50 rfl rfl zE) ?_
        refine Runs.weaken (St.Le.unpin 5 51 rfl rfl zE) ?_
        refine Runs.weaken (St.Le.unpin 6 52 rfl rfl zE) ?_
        refine Runs.weaken (St.Le.unpinVar 55 5 0 rfl rfl rfl) ?_
        dsimp only [List.set, go_sem]
        simp only [Nat.reduceEqDiff, ↓reduceIte]
        (refine Runs.weaken (St.Le.freeze_lst 27 rfl) ?_; refine yf ?_)
        have hG := member_Gen (genN i ns) (by rw [genN, memsN_len]; omega)
        generalize hge : genE (genN i ns) = ge at hd hG
        repeat' (first | refine yw ?_ | ((with_reducible refine Runs.is ?_); first | refine Runs.region (id := 24) ?_ | refine Runs.region (id := 25) ?_ | refine Runs.region (id := 26) ?_ | ((with_reducible refine Runs.isC ?_); refine Runs.cond rfl (zc ?_) (zc ?_) <;> intro hc <;> (try (first | contradiction | (exfalso; omega; done) | (have : hc = trivial := rfl; clear this; clear hc))))) | ((with_reducible refine r_is ?_); first | refine yr ?_ | (refine r_fn rfl (hG) HbF.h zL1 zD ?_; refine r_nn zN zH ?_)) | fail)
        · rw [if_pos (by assumption)] at hd
          subst hd
          refine Runs.weaken (St.Le.leVar 2 0 (V.Le.nil false) rfl rfl) ?_
          exact Runs.retC3 (id := 2) rfl rfl rfl rfl TyF.h ⟨Nat.le_refl 4, by decide⟩ rfl rfl rfl rfl (V.Le.refl _)
        rw [if_neg zo] at hd
        subst hd
        refine Runs.drawnF [(2, 2), (5, 5), (6, 6)] mixed zK ?_
        refine yd ?_
        refine And.intro (shows_of (by intro p hp; simp only [List.mem_cons, List.not_mem_nil, or_false] at hp; rcases hp with rfl | rfl | rfl <;> exact ⟨_, _, rfl⟩)) ?_
        refine Runs.retC3 (id := 2) rfl rfl rfl rfl TyF.h ⟨Nat.le_refl 4, by decide⟩ rfl rfl rfl ?_ (V.Le.refl _)
        show V.data (.tup [.agg [.sl false ((memsN i ns).map mbV), .i _, .i _, .i _], .i _, .i _]) = true
        simp only [V.data, V.dataL, dataL_map mbV (memsN i ns) fun _ => rfl, Bool.and_self]
  · rw [if_pos he] at hd
    subst hd
    refine r_hand (caps := [.ptr 1 0 0, .ptr 6 0 0]) (us := [.ptr 8 0 0]) (read_no _ f b 0 8 0 0 (.var 3 (.i 0)) hB (Nat.zero_le _) hb rfl rfl rfl zd ⟨Nat.one_pos, Nat.le_refl 1⟩ hd0 he) HbF.h (Gh.gho 53 rfl) ⟨Gh.gho 54 rfl, trivial⟩ ?_
    refine r_n zN ?_
    repeat' (first | refine yw ?_ | ((with_reducible refine Runs.is ?_); first | refine Runs.region (id := 5) ?_ | ((with_reducible refine Runs.isC ?_); refine Runs.cond rfl (zc ?_) (zc ?_) <;> intro hc <;> (try (first | contradiction | (exfalso; omega; done) | (have : hc = trivial := rfl; clear this; clear hc))))) | ((with_reducible refine r_is ?_); first | refine yr ?_) | fail)
    refine Runs.weaken (St.Le.unpin 2 50 rfl rfl zE) ?_
    dsimp only [List.set]
    repeat' (first | refine yw ?_ | ((with_reducible refine Runs.is ?_); first | refine Runs.region (id := 6) ?_ | refine Runs.region (id := 7) ?_ | ((with_reducible refine Runs.isC ?_); refine Runs.cond rfl (zc ?_) (zc ?_) <;> intro hc <;> (try (first | contradiction | (exfalso; omega; done) | (have : hc = trivial := rfl; clear this; clear hc))))) | ((with_reducible refine r_is ?_); first | refine yr ?_) | fail)
    refine Runs.weaken (St.Le.leVar 2 0 (V.Le.nil false) rfl rfl) ?_
    exact Runs.retC3 (id := 2) rfl rfl rfl rfl TyF.h ⟨Nat.le_refl 4, by decide⟩ rfl rfl rfl rfl (V.Le.refl _)
end Go.Proofs
