/- Contracts of functions and plain laws: W81, W82, W75, W83, W86, W96, W106, W110, W141, W112, W113, W114. -/
import Derived.Test.YtndpgjcmmjeoiaaGreatQc
import Derived.Test.YtndpgjcmmjeoiaaGreatQd
import Derived.Test.YtndpgjcmmjeoiaaGreatG4
set_option linter.unusedVariables false
set_option linter.unusedSimpArgs false
set_option maxRecDepth 8000
set_option maxHeartbeats 4000000
set_option pp.deepTerms false
set_option pp.deepTerms.threshold 6
namespace Go.Proofs
open Go.AM
attribute [local irreducible] AM.evalR AM.evalD AM.Runs AM.valK AM.dK AM.opK AM.stepR AM.CallS AM.St.Le
theorem bs_spec (k : Nat → Int) (i j : Nat) (hij : i ≤ j) (hm : ∀ s t, i ≤ s → s ≤ t → t < j → k t < 0 → k s < 0) :
    (i ≤ bs k i j ∧ bs k i j ≤ j) ∧ (∀ t, i ≤ t → t < bs k i j → k t < 0) ∧ ∀ t, bs k i j ≤ t → t < j → ¬ k t < 0 := by
  by_cases h : i < j
  · rw [bs.eq_1, dif_pos h]
    by_cases h2 : k ((i + j) / 2) < 0
    · rw [if_pos h2]
      obtain ⟨⟨a1, a2⟩, a3, a4⟩ := bs_spec k ((i + j) / 2 + 1) j zo (fun s t h1 h3 h4 => hm s t zo h3 h4)
      refine ⟨⟨by omega, a2⟩, fun t h5 h6 => ?_, a4⟩
      by_cases h7 : t ≤ (i + j) / 2
      · exact hm t _ h5 h7 zo h2
      · exact a3 t zo h6
    · rw [if_neg h2]
      obtain ⟨⟨a1, a2⟩, a3, a4⟩ := bs_spec k i ((i + j) / 2) zo (fun s t h1 h3 h4 => hm s t h1 h3 zo)
      refine ⟨⟨a1, by omega⟩, a3, fun t h5 h6 => ?_⟩
      by_cases h7 : t < (i + j) / 2
      · exact a4 t h5 h7
      · intro h8
        exact h2 (hm _ t zo zo h6 h8)
  · rw [bs.eq_1, dif_neg h]
    exact ⟨⟨Nat.le_refl _, hij⟩, fun t h1 h2 => by omega, fun t h1 h2 => by omega⟩
termination_by j - i
abbrev StrictI (l : List Int) : Prop := l.Pairwise (· < ·)
def insRec (n : Int) : List Int → List Int
  | [] => [n]
  | y :: ys => if y = n then y :: ys else if n < y then n :: y :: ys else y :: insRec n ys
theorem mem_insRec (n x : Int) : ∀ l, x ∈ insRec n l ↔ x ∈ l ∨ x = n
  | [] => by simp [insRec]
  | y :: ys => by
    rw [insRec]
    split
    · rename_i h; subst h; simp; intro h; exact .inl h
    · split
      · simp [or_comm]
      · rw [List.mem_cons, mem_insRec n x ys, List.mem_cons, or_assoc]
theorem insRec_strict (n : Int) : ∀ {l : List Int}, StrictI l → StrictI (insRec n l)
  | [], _ => by simp [insRec]
  | y :: ys, h => by
    replace h := List.pairwise_cons.1 h
    rw [insRec]
    split
    · exact List.pairwise_cons.2 h
    · split
      · refine List.pairwise_cons.2 ⟨fun z hz => ?_, List.pairwise_cons.2 h⟩
        rcases List.mem_cons.1 hz with rfl | hz
        · assumption
        · have := h.1 z hz; omega
      · refine List.pairwise_cons.2 ⟨fun z hz => ?_, insRec_strict n h.2⟩
        rcases (mem_insRec n z ys).1 hz with hz | rfl
        · exact h.1 z hz
        · omega
theorem insFold_put (n : Int) : ∀ (l acc : List Int), (∀ x ∈ l, x ≠ n) → l.foldl (insStep n) (acc, true) = (acc ++ l, true)
  | [], acc, _ => by simp
  | y :: ys, acc, h => by
    rw [List.foldl_cons, insStep_d (h y (by simp)), insFold_put n ys _ (fun x hx => h x (by simp [hx]))]
    simp
theorem insFold_rec (n : Int) : ∀ (l acc : List Int), StrictI l → (let s := l.foldl (insStep n) (acc, false); if s.2 = false then s.1 ++ [n] else s.1) = acc ++ insRec n l
  | [], acc, _ => by simp [insRec]
  | y :: ys, acc, h => by
    replace h := List.pairwise_cons.1 h
    rw [List.foldl_cons, insRec]
    by_cases e : y = n
    · rw [insStep_b zo e, if_pos e, insFold_put n ys _ (fun x hx => by have := h.1 x hx; omega)]
      simp [e]
    · by_cases g : n < y
      · rw [insStep_a zo e, if_neg e, if_pos g, insFold_put n ys _ (fun x hx => by have := h.1 x hx; omega)]
        simp
      · rw [insStep_c zo e, if_neg e, if_neg g, insFold_rec n ys _ h.2]
        simp
theorem insR_rec {l : List Int} (h : StrictI l) (n : Int) : insR l n = insRec n l := by
  have := insFold_rec n l [] h
  simpa [insR] using this
theorem insRec_append (n : Int) : ∀ (a b : List Int), (∀ x ∈ a, x < n) → insRec n (a ++ b) = a ++ insRec n b
  | [], b, _ => rfl
  | y :: a, b, h => by
    have := h y (by simp)
    rw [List.cons_append, insRec, if_neg zo, if_neg zo, insRec_append n a b (fun x hx => h x (by simp [hx]))]
    rfl
theorem strict_getD {l : List Int} (h : StrictI l) {i j : Nat} (hij : i < j) (hj : j < l.length) : l.getD i default < l.getD j default := by
  have := (List.pairwise_iff_getElem.1 h) i j zo hj hij
  rw [List.getD_eq_getElem?_getD, List.getD_eq_getElem?_getD, List.getElem?_eq_getElem hj, List.getElem?_eq_getElem (show i < l.length by omega)]
  exact this
theorem mem_take_getD {α : Type} [Inhabited α] {l : List α} {r : Nat} {x : α} (h : x ∈ l.take r) : ∃ t, t < r ∧ t < l.length ∧ l.getD t default = x := by
  obtain ⟨t, ht, e⟩ := List.mem_iff_getElem.1 h
  rw [List.length_take] at ht
  refine ⟨t, by omega, by omega, ?_⟩
  rw [List.getElem_take] at e
  rw [List.getD_eq_getElem?_getD, List.getElem?_eq_getElem zo]; exact e
theorem insI_rec {l : List Int} (h : StrictI l) (n : Int) : insI l n = insRec n l := by
  have hs := bs_spec (ltK l n) 0 l.length (Nat.zero_le _) (fun s t _ hst ht hk => by
    rw [ltK_neg] at hk ⊢
    by_cases e : s = t
    · subst e; exact hk
    · have := strict_getD h (show s < t by omega) ht; omega)
  change (0 ≤ bsI l n ∧ bsI l n ≤ l.length) ∧ (∀ t, 0 ≤ t → t < bsI l n → ltK l n t < 0) ∧ (∀ t, bsI l n ≤ t → t < l.length → ¬ ltK l n t < 0) at hs
  obtain ⟨⟨_, h1⟩, h2, h3⟩ := hs
  unfold insI foundI putI
  generalize bsI l n = r at *
  have ha : ∀ x ∈ l.take r, x < n := by
    intro x hx
    obtain ⟨t, ht, _, rfl⟩ := mem_take_getD hx
    exact ltK_neg.1 (h2 t (Nat.zero_le _) ht)
  have key : insRec n l = l.take r ++ insRec n (l.drop r) := by rw [← insRec_append n _ _ ha, List.take_append_drop]
  rw [key]
  by_cases hr : r < l.length
  · have h4 := h3 r (Nat.le_refl _) hr
    rw [ltK_neg] at h4
    rw [drop_getD hr, insRec]
    by_cases e : l.getD r default = n
    · rw [decide_eq_true ⟨hr, e⟩, if_pos rfl, if_pos e, ← drop_getD hr, List.take_append_drop]
    · rw [decide_eq_false (fun q => e q.2), if_neg zd, if_neg e, if_pos zo]
  · rw [decide_eq_false (fun q => hr q.1), if_neg zd, List.drop_of_length_le zo, insRec]
theorem insFoldl {f g : List Int → Int → List Int} (hf : ∀ l n, StrictI l → f l n = insRec n l) (hg : ∀ l n, StrictI l → g l n = insRec n l) : ∀ (b : List Int) {a : List Int}, StrictI a → b.foldl f a = b.foldl g a ∧ StrictI (b.foldl g a)
  | [], a, h => ⟨rfl, h⟩
  | n :: b, a, h => by
    have h2 := insRec_strict n h
    rw [List.foldl_cons, List.foldl_cons, hf a n h, hg a n h]
    exact insFoldl hf hg b h2
theorem unionI_R {a : List Int} (h : StrictI a) (b : List Int) : unionI a b = b.foldl insR a ∧ StrictI (b.foldl insR a) := insFoldl (fun l n h => insI_rec h n) (fun l n h => insR_rec h n) b h
abbrev StrictW (l : List WeightEntry) : Prop := l.Pairwise (fun a b => a.server < b.server)
def weighRec (w : WeightEntry) : List WeightEntry → List WeightEntry
  | [] => [w]
  | y :: ys => if y.server = w.server then (if laterB w y = true then w else y) :: ys else if w.server < y.server then w :: y :: ys else y :: weighRec w ys
theorem mem_weighRec (w x : WeightEntry) : ∀ l, x ∈ weighRec w l → x ∈ l ∨ x = w
  | [] => by simp [weighRec]
  | y :: ys => by
    rw [weighRec]
    intro h
    split at h
    · split at h
      · rcases List.mem_cons.1 h with h | h
        · exact .inr h
        · exact .inl (by simp [h])
      · exact .inl h
    · split at h
      · rcases List.mem_cons.1 h with h | h
        · exact .inr h
        · exact .inl h
      · rcases List.mem_cons.1 h with h | h
        · exact .inl (by simp [h])
        · rcases mem_weighRec w x ys h with h | h
          · exact .inl (by simp [h])
          · exact .inr h
theorem weighRec_strict (w : WeightEntry) : ∀ {l : List WeightEntry}, StrictW l → StrictW (weighRec w l)
  | [], _ => by simp [weighRec]
  | y :: ys, h => by
    replace h := List.pairwise_cons.1 h
    rw [weighRec]
    split
    · rename_i e
      split
      · exact List.pairwise_cons.2 ⟨fun z hz => by have := h.1 z hz; omega, h.2⟩
      · exact List.pairwise_cons.2 h
    · split
      · refine List.pairwise_cons.2 ⟨fun z hz => ?_, List.pairwise_cons.2 h⟩
        rcases List.mem_cons.1 hz with rfl | hz
        · assumption
        · have := h.1 z hz; omega
      · refine List.pairwise_cons.2 ⟨fun z hz => ?_, weighRec_strict w h.2⟩
        rcases mem_weighRec w z ys hz with hz | rfl
        · exact h.1 z hz
        · omega
theorem weighFold_put (w : WeightEntry) : ∀ (l acc : List WeightEntry), (∀ x ∈ l, x.server ≠ w.server) → l.foldl (weighStep w) (acc, true) = (acc ++ l, true)
  | [], acc, _ => by simp
  | y :: ys, acc, h => by
    rw [List.foldl_cons, weighStep_e (h y (by simp)), weighFold_put w ys _ (fun x hx => h x (by simp [hx]))]
    simp
theorem weighFold_rec (w : WeightEntry) : ∀ (l acc : List WeightEntry), StrictW l → (let s := l.foldl (weighStep w) (acc, false); if s.2 = false then s.1 ++ [w] else s.1) = acc ++ weighRec w l
  | [], acc, _ => by simp [weighRec]
  | y :: ys, acc, h => by
    replace h := List.pairwise_cons.1 h
    rw [List.foldl_cons, weighRec]
    by_cases e : y.server = w.server
    · cases hl : laterB w y
      · rw [weighStep_b e hl, if_pos e, weighFold_put w ys _ (fun x hx => by have := h.1 x hx; omega)]
        simp
      · rw [weighStep_a e hl, if_pos e, weighFold_put w ys _ (fun x hx => by have := h.1 x hx; omega)]
        simp
    · by_cases g : w.server < y.server
      · rw [weighStep_c e g, if_neg e, if_pos g, weighFold_put w ys _ (fun x hx => by have := h.1 x hx; omega)]
        simp
      · rw [weighStep_d e g, if_neg e, if_neg g, weighFold_rec w ys _ h.2]
        simp
theorem weighR_rec {l : List WeightEntry} (h : StrictW l) (w : WeightEntry) : weighR l w = weighRec w l := by
  have := weighFold_rec w l [] h
  simpa [weighR] using this
theorem weighRec_append (w : WeightEntry) : ∀ (a b : List WeightEntry), (∀ x ∈ a, x.server < w.server) → weighRec w (a ++ b) = a ++ weighRec w b
  | [], b, _ => rfl
  | y :: a, b, h => by
    have := h y (by simp)
    rw [List.cons_append, weighRec, if_neg zo, if_neg zo, weighRec_append w a b (fun x hx => h x (by simp [hx]))]
    rfl
theorem newer_later (a b : WeightEntry) : newerW a b = laterB b a := by
  unfold newerW laterB
  rw [Bool.eq_iff_iff]
  simp only [orI, cmpI]
  (repeat' split) <;> simp <;> omega
theorem strictW_getD {l : List WeightEntry} (h : StrictW l) {i j : Nat} (hij : i < j) (hj : j < l.length) : (l.getD i default).server < (l.getD j default).server := by
  have := (List.pairwise_iff_getElem.1 h) i j zo hj hij
  rw [List.getD_eq_getElem?_getD, List.getD_eq_getElem?_getD, List.getElem?_eq_getElem hj, List.getElem?_eq_getElem (show i < l.length by omega)]
  exact this
theorem weK_neg {l : List WeightEntry} {w : WeightEntry} {t : Nat} : weK l w t < 0 ↔ (l.getD t default).server < w.server := by unfold weK cmpI; (repeat' split) <;> omega
theorem cmpI_zero {x y : Int} : cmpI x y = 0 ↔ x = y := by unfold cmpI; (repeat' split) <;> omega
theorem insW_rec {l : List WeightEntry} (h : StrictW l) (w : WeightEntry) : insW l w = weighRec w l := by
  have hs := bs_spec (weK l w) 0 l.length (Nat.zero_le _) (fun s t _ hst ht hk => by
    rw [weK_neg] at hk ⊢
    by_cases e : s = t
    · subst e; exact hk
    · have := strictW_getD h (show s < t by omega) ht; omega)
  change (0 ≤ bsW l w ∧ bsW l w ≤ l.length) ∧ (∀ t, 0 ≤ t → t < bsW l w → weK l w t < 0) ∧ (∀ t, bsW l w ≤ t → t < l.length → ¬ weK l w t < 0) at hs
  obtain ⟨⟨_, h1⟩, h2, h3⟩ := hs
  unfold insW foundW putW
  generalize bsW l w = r at *
  have ha : ∀ x ∈ l.take r, x.server < w.server := by
    intro x hx
    obtain ⟨t, ht, _, rfl⟩ := mem_take_getD hx
    exact weK_neg.1 (h2 t (Nat.zero_le _) ht)
  have key : weighRec w l = l.take r ++ weighRec w (l.drop r) := by rw [← weighRec_append w _ _ ha, List.take_append_drop]
  rw [key]
  by_cases hr : r < l.length
  · have h4 := h3 r (Nat.le_refl _) hr
    rw [weK_neg] at h4
    by_cases e : (l.getD r default).server = w.server
    · rw [decide_eq_true ⟨hr, cmpI_zero.2 e⟩, if_pos rfl, newer_later]
      cases hl : laterB w (l.getD r default)
      · rw [if_neg zd, drop_getD hr, weighRec, if_pos e, hl, if_neg zd, ← drop_getD hr, List.take_append_drop]
      · rw [if_pos rfl, drop_getD hr, weighRec, if_pos e, hl, if_pos rfl]
        rw [List.set_eq_take_append_cons_drop, if_pos hr]
    · rw [decide_eq_false (fun q => e (cmpI_zero.1 q.2)), if_neg zd, drop_getD hr, weighRec, if_neg e, if_pos zo]
  · rw [decide_eq_false (fun q => hr q.1), if_neg zd, List.drop_of_length_le zo, weighRec]
theorem weighFoldl {f g : List WeightEntry → WeightEntry → List WeightEntry} (hf : ∀ l n, StrictW l → f l n = weighRec n l) (hg : ∀ l n, StrictW l → g l n = weighRec n l) : ∀ (b : List WeightEntry) {a : List WeightEntry}, StrictW a → b.foldl f a = b.foldl g a ∧ StrictW (b.foldl g a)
  | [], a, h => ⟨rfl, h⟩
  | n :: b, a, h => by
    have h2 := weighRec_strict n h
    rw [List.foldl_cons, List.foldl_cons, hf a n h, hg a n h]
    exact weighFoldl hf hg b h2
theorem weightsI_R {a : List WeightEntry} (h : StrictW a) (b : List WeightEntry) : weightsI a b = b.foldl weighR a ∧ StrictW (b.foldl weighR a) := weighFoldl (fun l n h => insW_rec h n) (fun l n h => weighR_rec h n) b h
def SortedS (s : Summary) : Prop := StrictI s.joined ∧ StrictI s.removed ∧ StrictW s.weights
theorem joinS_T {a : Summary} (h : SortedS a) (b : Summary) : joinS a b = joinT a b ∧ SortedS (joinT a b) := by
  obtain ⟨h1, h2, h3⟩ := h
  have e1 := unionI_R h1 b.joined
  have e2 := unionI_R h2 b.removed
  have e3 := weightsI_R h3 b.weights
  refine ⟨?_, e1.2, e2.2, e3.2⟩
  have e4 : joinR a b = pickT a b := by unfold joinR pickT; rw [newer_later]
  unfold joinS joinT
  rw [e1.1, e2.1, e3.1, e4]
def lk (l : List WeightEntry) (x : Int) : Option WeightEntry := l.find? fun w => decide (w.server = x)
theorem lk_cons (w : WeightEntry) (l : List WeightEntry) (x : Int) : lk (w :: l) x = if w.server = x then some w else lk l x := by
  unfold lk
  by_cases h : w.server = x <;> simp [h]
theorem lk_none {l : List WeightEntry} {x : Int} (h : ∀ w ∈ l, w.server ≠ x) : lk l x = none := by
  unfold lk
  rw [List.find?_eq_none]
  intro w hw; simp; exact h w hw
theorem lk_weigh (w : WeightEntry) (x : Int) : ∀ {l : List WeightEntry}, StrictW l → lk (weighRec w l) x = if w.server = x then (match lk l x with | none => some w | some o => some (if laterB w o = true then w else o)) else lk l x
  | [], _ => by simp [weighRec, lk_cons, lk]
  | y :: ys, h => by
    replace h := List.pairwise_cons.1 h
    rw [weighRec]
    by_cases e : y.server = w.server
    · rw [if_pos e]
      by_cases ex : w.server = x
      · have e2 : y.server = x := e.trans ex
        rw [lk_cons y, if_pos e2, if_pos ex]
        cases hl : laterB w y <;> simp [lk_cons, ex, e2, hl]
      · have e2 : ¬ y.server = x := fun q => ex (e ▸ q)
        rw [if_neg ex, lk_cons y, if_neg e2]
        cases hl : laterB w y <;> simp [lk_cons, ex, e2, hl]
    · rw [if_neg e]
      by_cases g : w.server < y.server
      · rw [if_pos g, lk_cons w]
        by_cases ex : w.server = x
        · have hn : lk (y :: ys) x = none := lk_none (by
            intro z hz
            rcases List.mem_cons.1 hz with rfl | hz
            · omega
            · have := h.1 z hz; omega)
          rw [if_pos ex, if_pos ex, hn]
        · rw [if_neg ex, if_neg ex]
      · rw [if_neg g, lk_cons y, lk_cons y, lk_weigh w x h.2]
        by_cases ey : y.server = x
        · rw [if_pos ey, if_pos ey, if_neg (fun q => e zo)]
        · rw [if_neg ey, if_neg ey]
theorem strictW_ext : ∀ {a b : List WeightEntry}, StrictW a → StrictW b → (∀ x, lk a x = lk b x) → a = b
  | [], [], _, _, _ => rfl
  | [], y :: b, _, _, h => by have := h y.server; rw [lk_cons, if_pos rfl] at this; cases this
  | x :: a, [], _, _, h => by have := h x.server; rw [lk_cons, if_pos rfl] at this; cases this
  | x :: a, y :: b, ha, hb, h => by
    replace ha := List.pairwise_cons.1 ha
    replace hb := List.pairwise_cons.1 hb
    have hs : x.server = y.server := by
      rcases Int.lt_trichotomy x.server y.server with e | e | e
      · have h1 := h x.server
        rw [lk_cons, if_pos rfl, lk_none (l := y :: b)] at h1
        · cases h1
        · intro z hz
          rcases List.mem_cons.1 hz with rfl | hz
          · omega
          · have := hb.1 z hz; omega
      · exact e
      · have h1 := h y.server
        rw [lk_cons y, if_pos rfl, lk_none (l := x :: a)] at h1
        · cases h1
        · intro z hz
          rcases List.mem_cons.1 hz with rfl | hz
          · omega
          · have := ha.1 z hz; omega
    have hxy : x = y := by
      have h1 := h x.server
      rw [lk_cons, if_pos rfl, lk_cons, if_pos hs.symm] at h1
      exact Option.some.inj h1
    subst hxy
    congr 1
    refine strictW_ext ha.2 hb.2 fun z => ?_
    by_cases e : x.server = z
    · rw [lk_none (l := a) (fun w hw => by have := ha.1 w hw; omega), lk_none (l := b) (fun w hw => by have := hb.1 w hw; omega)]
    · have h1 := h z
      rw [lk_cons, if_neg e, lk_cons, if_neg e] at h1
      exact h1
theorem weightIn_none {l : List WeightEntry} {x : Int} (h : ∀ w ∈ l, w.server ≠ x) : ∀ n, weightIn l x n = n := by
  unfold weightIn
  induction l with
  | nil => intro n; rfl
  | cons w l ih => intro n; rw [List.foldl_cons, if_neg (h w (by simp)), ih (fun v hv => h v (by simp [hv]))]
theorem weightIn_R (x : Int) : ∀ {l : List WeightEntry}, StrictW l → weightIn l x 1 = weightR l x
  | [], _ => rfl
  | w :: l, h => by
    replace h := List.pairwise_cons.1 h
    rw [weightR]
    by_cases e : w.server = x
    · rw [if_pos e]
      have : weightIn (w :: l) x 1 = weightIn l x w.weight := by unfold weightIn; rw [List.foldl_cons, if_pos e]
      rw [this]
      exact weightIn_none (fun v hv => by have := h.1 v hv; omega) _
    · rw [if_neg e, ← weightIn_R x h.2]
      unfold weightIn; rw [List.foldl_cons, if_neg e]
theorem viewS_T {s : Summary} (h : StrictW s.weights) : viewS s = viewT s := by
  unfold viewS viewT viewMs vAccT
  congr 1
  have h1 : (fun x => !s.removed.contains x) = (fun x => !s.removed.any fun y => decide (y = x)) := by
    funext x
    congr 1
    rw [Bool.eq_iff_iff]
    simp
  rw [h1]
  refine List.map_congr_left fun x _ => ?_
  rw [weightIn_R x h]
end Go.Proofs
namespace Go.Proofs
open Go.AM
attribute [local irreducible] AM.evalR AM.evalD AM.Runs AM.valK AM.dK AM.opK AM.stepR AM.CallS AM.St.Le
theorem getI_setI2 {β : Type} (m : List (Int × β)) (n k : Int) (c : β) : getI (setI m n c) k = if k = n then some c else getI m k := by
  induction m with
  | nil =>
    by_cases h : k = n
    · subst h; simp [setI, getI]
    · have h2 : ¬ n = k := fun q => h q.symm
      simp [setI, getI, h, h2]
  | cons p m ih =>
    obtain ⟨a, b⟩ := p
    simp only [setI]
    by_cases h : a = n
    · subst h
      by_cases hk : k = a
      · subst hk; simp [getI]
      · have h2 : ¬ a = k := fun q => hk q.symm
        simp [getI, hk, h2]
    · by_cases hk : a = k
      · subst hk; simp [getI, h]
      · simp [getI, h, hk, ih]
def Uniq2 (l : List Change) : Prop := l.Pairwise fun a b => ¬ (a.kind = b.kind ∧ a.server = b.server)
theorem uniq_of {l : List Change} (h : ∀ i k : Nat, k < i → i < l.length → ¬ ((l.getD k default).kind = (l.getD i default).kind ∧ (l.getD k default).server = (l.getD i default).server)) : Uniq2 l := by
  unfold Uniq2
  rw [List.pairwise_iff_getElem]
  intro i j hi hj hij
  have := h j i hij hj
  rw [List.getD_eq_getElem?_getD, List.getD_eq_getElem?_getD, List.getElem?_eq_getElem hi, List.getElem?_eq_getElem hj] at this
  exact this
theorem sorted_perm {l m : List Int} (h1 : l.Nodup) (h2 : StrictI m) (h3 : ∀ x, x ∈ l ↔ x ∈ m) : sortI l = m := by
  refine strict_ext ?_ h2 (fun x => by rw [mem_sortI, h3])
  have hn : (sortI l).Nodup := (List.mergeSort_perm l _).nodup_iff.2 h1
  have hl := sortI_le l
  exact (hl.and hn).imp (fun ⟨a, b⟩ => by omega)
structure OfInv (p : Proposal) (done : List Change) (s : Acc) (t : Summary) : Prop where
  sort : SortedS t
  j : s.j.Nodup ∧ (∀ x, x ∈ s.j ↔ ∃ c ∈ done, c.kind = 1 ∧ c.server = x) ∧ ∀ x, x ∈ t.joined ↔ x ∈ s.j
  r : s.r.Nodup ∧ (∀ x, x ∈ s.r ↔ ∃ c ∈ done, c.kind = 2 ∧ c.server = x) ∧ ∀ x, x ∈ t.removed ↔ x ∈ s.r
  w : ∀ x, lk t.weights x = getI s.m x
  e : ∀ x o, getI s.m x = some o → o.server = x ∧ (1 ≤ x ∧ x ≤ 12) ∧ o.admin = p.admin ∧ o.number = p.number ∧ (o.version = 0 ∨ 1 ≤ o.version ∧ ∃ c ∈ done, c.kind = 3 ∧ c.server = x)
  k : ∀ x, (∃ c ∈ done, c.kind = 1 ∧ c.server = x) → (getI s.m x).isSome = true
  ru : s.rule = t.rule ∧ s.ver = t.version ∧ s.adm = t.admin ∧ s.num = t.number
theorem laterB_self (a b : WeightEntry) (h : a.admin = b.admin) (h2 : a.number = b.number) : laterB a b = decide (b.version < a.version) := by
  unfold laterB
  by_cases e : a.version = b.version
  · simp [e, h, h2]
  · simp [e]
theorem of_step {p : Proposal} {done : List Change} {c : Change} {s : Acc} {t : Summary} (hI : OfInv p done s t) (hc : ChangeOK c) (hu : ∀ d ∈ done, ¬ (d.kind = c.kind ∧ d.server = c.server)) : OfInv p (done ++ [c]) (ofStep p s c) (ofTStep p t c) := by
  obtain ⟨⟨s1, s2, s3⟩, ⟨j1, j2, j3⟩, ⟨r1, r2, r3⟩, hw, he, hk, hru⟩ := hI
  have hE : ∀ (q : Change → Prop) , (∃ d ∈ done ++ [c], q d) ↔ (∃ d ∈ done, q d) ∨ q c := by
    intro q
    constructor
    · rintro ⟨d, hd, h⟩
      rcases List.mem_append.1 hd with hd | hd
      · exact .inl ⟨d, hd, h⟩
      · rw [List.mem_singleton.1 hd] at h; exact .inr h
    · rintro (⟨d, hd, h⟩ | h)
      · exact ⟨d, by simp [hd], h⟩
      · exact ⟨c, by simp, h⟩
  have heT : ∀ x o, getI s.m x = some o → o.server = x ∧ (1 ≤ x ∧ x ≤ 12) ∧ o.admin = p.admin ∧ o.number = p.number ∧ (o.version = 0 ∨ 1 ≤ o.version ∧ ∃ d ∈ done ++ [c], d.kind = 3 ∧ d.server = x) := fun x o h => by
    obtain ⟨a1, a2, a3, a4, a5⟩ := he x o h
    exact ⟨a1, a2, a3, a4, a5.imp id fun ⟨b1, d, hd, b2⟩ => ⟨b1, d, by simp [hd], b2⟩⟩
  rcases hc with ⟨h1, h2, h3, h4, h5⟩ | ⟨h1, h2, h3, h4, h5⟩ | ⟨h1, h2, h3, h4, h5⟩ | ⟨h1, h2, h3, h4, h5⟩
  · -- join
    unfold ofStep ofTStep
    rw [if_pos h1, if_pos h1]
    have hnj : c.server ∉ s.j := fun q => by obtain ⟨d, hd, e1, e2⟩ := (j2 _).1 q; exact hu d hd ⟨e1.trans h1.symm, e2⟩
    have hT := insR_rec s1 c.server
    have hTw := weighR_rec s3 ⟨c.server, c.weight, 0, p.admin, p.number⟩
    refine ⟨⟨?_, s2, ?_⟩, ⟨?_, ?_, ?_⟩, ⟨r1, ?_, r3⟩, ?_, ?_, ?_, hru⟩
    · dsimp only; rw [hT]; exact insRec_strict _ s1
    · dsimp only; rw [hTw]; exact weighRec_strict _ s3
    · dsimp only; rw [List.nodup_append]; exact ⟨j1, by simp, fun a ha b hb e => by rw [List.mem_singleton.1 hb] at e; exact hnj (e ▸ ha)⟩
    · intro x; dsimp only; rw [hE (fun d => d.kind = 1 ∧ d.server = x), ← j2 x]; simp [h1, eq_comm]
    · intro x; dsimp only; rw [hT, mem_insRec, j3 x]; simp
    · intro x; rw [hE (fun d => d.kind = 2 ∧ d.server = x), ← r2 x]; simp [h1]
    · intro x
      dsimp only
      rw [hTw, lk_weigh _ _ s3, hw]
      dsimp only
      by_cases e : c.server = x
      · subst e
        rw [if_pos rfl]
        cases ho : getI s.m c.server with
        | none => rw [if_neg (by simp), getI_setI2, if_pos rfl]; unfold wC; rw [h4]
        | some o =>
          rw [if_pos (show (some o).isSome = true from rfl), ho]
          obtain ⟨_, _, e3, e4, e5⟩ := he _ o ho
          have hl : laterB ⟨c.server, c.weight, 0, p.admin, p.number⟩ o = false := by
            rw [laterB_self _ _ e3.symm e4.symm]
            exact decide_eq_false (by dsimp only; omega)
          dsimp only; rw [hl, if_neg zd]
      · rw [if_neg e]
        split
        · rfl
        · rw [getI_setI2, if_neg (fun q => e q.symm)]
    · intro x o ho
      dsimp only at ho
      split at ho
      · exact heT x o ho
      · rw [getI_setI2] at ho
        split at ho
        · rename_i e; subst e
          obtain rfl := Option.some.inj ho
          exact ⟨rfl, h2, rfl, rfl, .inl h4⟩
        · exact heT x o ho
    · intro x hx
      dsimp only
      rw [hE (fun d => d.kind = 1 ∧ d.server = x)] at hx
      split
      · rename_i hs
        rcases hx with hx | ⟨_, hx⟩
        · exact hk x hx
        · rw [← hx]; exact hs
      · rw [getI_setI2]
        split
        · rfl
        · rename_i hne
          rcases hx with hx | ⟨_, hx⟩
          · exact hk x hx
          · exact absurd hx.symm hne
  · -- remove
    unfold ofStep ofTStep
    rw [if_neg zo, if_pos h1, if_neg zo, if_pos h1]
    have hnr : c.server ∉ s.r := fun q => by obtain ⟨d, hd, e1, e2⟩ := (r2 _).1 q; exact hu d hd ⟨e1.trans h1.symm, e2⟩
    have hT := insR_rec s2 c.server
    refine ⟨⟨s1, ?_, s3⟩, ⟨j1, ?_, j3⟩, ⟨?_, ?_, ?_⟩, hw, heT, ?_, hru⟩
    · dsimp only; rw [hT]; exact insRec_strict _ s2
    · intro x; rw [hE (fun d => d.kind = 1 ∧ d.server = x), ← j2 x]; simp [h1]
    · dsimp only; rw [List.nodup_append]; exact ⟨r1, by simp, fun a ha b hb e => by rw [List.mem_singleton.1 hb] at e; exact hnr (e ▸ ha)⟩
    · intro x; dsimp only; rw [hE (fun d => d.kind = 2 ∧ d.server = x), ← r2 x]; simp [h1, eq_comm]
    · intro x; dsimp only; rw [hT, mem_insRec, r3 x]; simp
    · intro x hx
      rw [hE (fun d => d.kind = 1 ∧ d.server = x)] at hx
      exact hk x (hx.elim id fun q => by omega)
  · -- weight
    unfold ofStep ofTStep
    rw [if_neg zo, if_neg zo, if_pos h1, if_neg zo, if_neg zo, if_pos h1]
    have hTw := weighR_rec s3 ⟨c.server, c.weight, c.version, p.admin, p.number⟩
    refine ⟨⟨s1, s2, ?_⟩, ⟨j1, ?_, j3⟩, ⟨r1, ?_, r3⟩, ?_, ?_, ?_, hru⟩
    · dsimp only; rw [hTw]; exact weighRec_strict _ s3
    · intro x; rw [hE (fun d => d.kind = 1 ∧ d.server = x), ← j2 x]; simp [h1]
    · intro x; rw [hE (fun d => d.kind = 2 ∧ d.server = x), ← r2 x]; simp [h1]
    · intro x
      dsimp only
      rw [hTw, lk_weigh _ _ s3, hw, getI_setI2]
      dsimp only
      by_cases e : c.server = x
      · subst e
        rw [if_pos rfl, if_pos rfl]
        cases ho : getI s.m c.server with
        | none => rfl
        | some o =>
          obtain ⟨_, _, e3, e4, e5⟩ := he _ o ho
          have e6 : o.version = 0 := e5.elim id fun ⟨_, d, hd, e7, e8⟩ => absurd ⟨e7.trans h1.symm, e8⟩ (hu d hd)
          have hl : laterB ⟨c.server, c.weight, c.version, p.admin, p.number⟩ o = true := by
            rw [laterB_self _ _ e3.symm e4.symm]
            exact decide_eq_true (by dsimp only; omega)
          dsimp only; rw [hl, if_pos rfl]; rfl
      · rw [if_neg e, if_neg (fun q => e q.symm)]
    · intro x o ho
      dsimp only at ho
      rw [getI_setI2] at ho
      split at ho
      · rename_i e; subst e
        obtain rfl := Option.some.inj ho
        exact ⟨rfl, h2, rfl, rfl, .inr ⟨h4.1, c, by simp, h1, rfl⟩⟩
      · exact heT x o ho
    · intro x hx
      rw [hE (fun d => d.kind = 1 ∧ d.server = x)] at hx
      dsimp only
      rw [getI_setI2]
      split
      · rfl
      · exact hk x (hx.elim id fun q => by omega)
  · -- rule
    unfold ofStep ofTStep
    rw [if_neg zo, if_neg zo, if_neg zo, if_pos h1, if_neg zo, if_neg zo, if_neg zo, if_pos h1]
    refine ⟨⟨s1, s2, s3⟩, ⟨j1, ?_, j3⟩, ⟨r1, ?_, r3⟩, hw, heT, ?_, ⟨rfl, rfl, rfl, rfl⟩⟩
    · intro x; rw [hE (fun d => d.kind = 1 ∧ d.server = x), ← j2 x]; simp [h1]
    · intro x; rw [hE (fun d => d.kind = 2 ∧ d.server = x), ← r2 x]; simp [h1]
    · intro x hx
      rw [hE (fun d => d.kind = 1 ∧ d.server = x)] at hx
      exact hk x (hx.elim id fun q => by omega)
theorem of_inv (p : Proposal) : ∀ (cs done : List Change) (s : Acc) (t : Summary), OfInv p done s t → (∀ c ∈ cs, ChangeOK c) → Uniq2 (done ++ cs) → OfInv p (done ++ cs) (cs.foldl (ofStep p) s) (cs.foldl (ofTStep p) t)
  | [], done, s, t, h, _, _ => by simpa using h
  | c :: cs, done, s, t, h, h2, h3 => by
    have h4 := of_step h (h2 c (by simp)) (fun d hd => by
      have := List.pairwise_append.1 h3
      exact this.2.2 d hd c (by simp))
    have := of_inv p cs (done ++ [c]) _ _ h4 (fun d hd => h2 d (by simp [hd])) (by simpa using h3)
    simpa using this
theorem of_inv0 (p : Proposal) : OfInv p [] acc0 sum0 := ⟨⟨List.Pairwise.nil, List.Pairwise.nil, List.Pairwise.nil⟩, ⟨List.nodup_nil, by simp [acc0], by simp [acc0, sum0]⟩, ⟨List.nodup_nil, by simp [acc0], by simp [acc0, sum0]⟩, fun x => rfl, fun x o h => (by simp [acc0, getI] at h), by simp, ⟨rfl, rfl, rfl, rfl⟩⟩
theorem upto_strict (a b : Int) : StrictI (upto a b) := by
  unfold upto
  rw [StrictI, List.pairwise_map]
  exact List.pairwise_lt_range.imp (fun h => by omega)
theorem weightsOf_strict {m : List (Int × WeightEntry)} (h : ∀ x o, getI m x = some o → o.server = x) : StrictW (weightsOf m) := by
  unfold weightsOf
  rw [StrictW, List.pairwise_filterMap]
  exact (upto_strict 1 12).imp (fun {a b} hab o ho o' ho' => by rw [h a o ho, h b o' ho']; exact hab)
theorem weightsOf_lk {m : List (Int × WeightEntry)} (h : ∀ x o, getI m x = some o → o.server = x ∧ (1 ≤ x ∧ x ≤ 12)) (x : Int) : lk (weightsOf m) x = getI m x := by
  have gen : ∀ l : List Int, lk (l.filterMap (getI m)) x = if x ∈ l then getI m x else none := by
    intro l
    induction l with
    | nil => simp [lk]
    | cons y l ih =>
      rw [List.filterMap_cons]
      cases hy : getI m y with
      | none =>
        dsimp only; rw [ih]
        by_cases e : x = y
        · subst e; rw [hy]; simp
        · simp [e]
      | some o =>
        dsimp only; rw [lk_cons, ih, (h y o hy).1]
        by_cases e : y = x
        · subst e; rw [if_pos rfl, if_pos (by simp), hy]
        · rw [if_neg e]
          by_cases e2 : x ∈ l
          · rw [if_pos e2, if_pos (by simp [e2])]
          · rw [if_neg e2, if_neg (by simp [e2]; exact fun q => e q.symm)]
  unfold weightsOf
  rw [gen]
  split
  · rfl
  · rename_i hn
    cases hx : getI m x with
    | none => rfl
    | some o => exact absurd (mem_upto.2 (h x o hx).2) hn
theorem of_full {p : Proposal} (h : PropOK p) : OfInv p p.changes (ofAcc p) (ofT p) := by
  have := of_inv p p.changes [] acc0 sum0 (of_inv0 p) h.2.2.2.1 (by simpa using uniq_of h.2.2.2.2)
  unfold ofAcc ofT
  simpa using this
theorem ofS_T {p : Proposal} (h : PropOK p) : ofS p = ofT p ∧ SortedS (ofT p) := by
  have hI := of_full h
  refine ⟨?_, hI.sort⟩
  obtain ⟨⟨s1, s2, s3⟩, ⟨j1, j2, j3⟩, ⟨r1, r2, r3⟩, hw, he, hk, e1, e2, e3, e4⟩ := hI
  unfold ofS
  generalize ofT p = t at *
  obtain ⟨J, R, W, ru, ver, adm, num⟩ := t
  dsimp only at *
  rw [sorted_perm j1 s1 (fun x => (j3 x).symm), sorted_perm r1 s2 (fun x => (r3 x).symm), e1, e2, e3, e4]
  rw [strictW_ext (weightsOf_strict fun x o ho => (he x o ho).1) s3 (fun x => by rw [weightsOf_lk (fun x o ho => ⟨(he x o ho).1, (he x o ho).2.1⟩), hw])]
def MemOK (g : View) : Prop := (∀ m ∈ g.members, (1 ≤ m.server ∧ m.server ≤ 12) ∧ 1 ≤ m.weight ∧ m.weight ≤ 9) ∧ g.members.Pairwise (fun a b => a.server < b.server)
theorem initS_sorted {g : View} (h : MemOK g) : SortedS (initS g) := by
  refine ⟨?_, List.Pairwise.nil, ?_⟩
  · show (g.members.map (·.server)).Pairwise (· < ·)
    rw [List.pairwise_map]; exact h.2
  · show (g.members.map wOf).Pairwise _
    rw [List.pairwise_map]; exact h.2
theorem sumS_T {g : View} (hg : MemOK g) {c : Config} (hc : ∀ p ∈ c, PropOK p) : sumS g c = sumT g c ∧ SortedS (sumT g c) := by
  have gen : ∀ (c : Config) (s : Summary), SortedS s → (∀ p ∈ c, PropOK p) → c.foldl sumStep s = c.foldl sumTStep s ∧ SortedS (c.foldl sumTStep s) := by
    intro c
    induction c with
    | nil => intro s hs _; exact ⟨rfl, hs⟩
    | cons p c ih =>
      intro s hs hc
      have e1 := ofS_T (hc p (by simp))
      have e2 := joinS_T hs (ofT p)
      have e3 : sumStep s p = sumTStep s p := by unfold sumStep sumTStep; rw [e1.1, e2.1]
      rw [List.foldl_cons, List.foldl_cons, e3]
      exact ih _ e2.2 (fun q hq => hc q (by simp [hq]))
  exact gen c _ (initS_sorted hg) hc
theorem viewOf_T {g : View} (hg : MemOK g) {c : Config} (hc : ∀ p ∈ c, PropOK p) : viewOf g c = viewT (sumT g c) := by
  have h := sumS_T hg hc
  unfold viewOf
  rw [h.1, viewS_T h.2.2.2]
theorem strictI_len : ∀ {l : List Int} {lo hi : Int}, StrictI l → (∀ x ∈ l, lo ≤ x ∧ x ≤ hi) → (l.length : Int) ≤ max 0 (hi - lo + 1)
  | [], lo, hi, _, _ => by simp; omega
  | x :: l, lo, hi, h, hb => by
    replace h := List.pairwise_cons.1 h
    have h0 := hb x (by simp)
    have h1 := strictI_len (lo := x + 1) (hi := hi) h.2 (fun y hy => ⟨by have := h.1 y hy; omega, (hb y (by simp [hy])).2⟩)
    rw [List.length_cons]; omega
theorem MemOK.len {g : View} (h : MemOK g) : g.members.length ≤ 12 := by
  have := strictI_len (l := g.members.map (·.server)) (lo := 1) (hi := 12) (by rw [StrictI, List.pairwise_map]; exact h.2) (fun x hx => by obtain ⟨m, hm, rfl⟩ := List.mem_map.1 hx; exact (h.1 m hm).1)
  rw [List.length_map] at this; omega
end Go.Proofs
namespace Go.Proofs
open Go.AM
attribute [local irreducible] AM.evalR AM.evalD AM.Runs AM.valK AM.dK AM.opK AM.stepR AM.CallS AM.St.Le
end Go.Proofs
namespace Go.Proofs
open Go.AM
attribute [local irreducible] AM.evalR AM.evalD AM.Runs AM.valK AM.dK AM.opK AM.stepR AM.CallS AM.St.Le
def spanR (vs : List View) : List Int := (vs.flatMap srv).foldl insR []
theorem spanR_strict (vs : List View) : StrictI (spanR vs) := (unionI_R (a := []) List.Pairwise.nil _).2
theorem spanR_I (vs : List View) : spanR vs = spanI vs := by
  refine strict_ext (spanR_strict vs) (span_strict vs) fun x => ?_
  rw [mem_spanI]
  unfold spanR
  rw [mem_foldl mem_insR]
  simp
end Go.Proofs
namespace Go.Proofs
open Go.AM
attribute [local irreducible] AM.evalR AM.evalD AM.Runs AM.valK AM.dK AM.opK AM.stepR AM.CallS AM.St.Le
end Go.Proofs
namespace Go.Proofs
open Go.AM
attribute [local irreducible] AM.evalR AM.evalD AM.Runs AM.valK AM.dK AM.opK AM.stepR AM.CallS AM.St.Le
def Srv (x : Int) : Prop := 1 ≤ x ∧ x ≤ 12
def WOK (w : WeightEntry) : Prop := Srv w.server ∧ (1 ≤ w.weight ∧ w.weight ≤ 9) ∧ 0 ≤ w.version ∧ 0 ≤ w.admin ∧ 0 ≤ w.number
structure SumOK (s : Summary) : Prop where
  sort : SortedS s
  j : ∀ x ∈ s.joined, Srv x
  r : ∀ x ∈ s.removed, Srv x
  w : ∀ w ∈ s.weights, WOK w
  o : 0 ≤ s.version ∧ 0 ≤ s.admin ∧ 0 ≤ s.number
  ru : s.rule = ⟨0, 0, 0⟩ ∧ (s.version = 0 ∧ s.admin = 0 ∧ s.number = 0) ∨ s.rule ≠ ⟨0, 0, 0⟩ ∧ RuleOK s.rule
theorem rule_ne {r : Rule} (h : RuleOK r) : r ≠ ⟨0, 0, 0⟩ := by
  rintro rfl
  have := h.1
  dsimp only at this; omega
theorem mem_weighFold : ∀ (b : List WeightEntry) {a : List WeightEntry} (x : WeightEntry), StrictW a → x ∈ b.foldl weighR a → x ∈ a ∨ x ∈ b
  | [], a, x, _, h => .inl h
  | w :: b, a, x, ha, h => by
    rw [List.foldl_cons, weighR_rec ha] at h
    rcases mem_weighFold b x (weighRec_strict w ha) h with h | h
    · rcases mem_weighRec w x a h with h | h
      · exact .inl h
      · exact .inr (by simp [h])
    · exact .inr (by simp [h])
theorem join_ok {a b : Summary} (ha : SumOK a) (hb : SumOK b) : SumOK (joinT a b) := by
  have hp : pickT a b = b ∨ pickT a b = a := by unfold pickT; split <;> simp
  have hpk : (0 ≤ (pickT a b).version ∧ 0 ≤ (pickT a b).admin ∧ 0 ≤ (pickT a b).number) ∧ ((pickT a b).rule = ⟨0, 0, 0⟩ ∧ ((pickT a b).version = 0 ∧ (pickT a b).admin = 0 ∧ (pickT a b).number = 0) ∨ (pickT a b).rule ≠ ⟨0, 0, 0⟩ ∧ RuleOK (pickT a b).rule) := by
    rcases hp with e | e
    · rw [e]; exact ⟨hb.o, hb.ru⟩
    · rw [e]; exact ⟨ha.o, ha.ru⟩
  refine ⟨(joinS_T ha.sort b).2, ?_, ?_, ?_, hpk.1, hpk.2⟩
  · intro x hx
    rcases (mem_foldl mem_insR b.joined a.joined x).1 hx with h | h
    · exact ha.j x h
    · exact hb.j x h
  · intro x hx
    rcases (mem_foldl mem_insR b.removed a.removed x).1 hx with h | h
    · exact ha.r x h
    · exact hb.r x h
  · intro w hw
    rcases mem_weighFold b.weights w ha.sort.2.2 hw with h | h
    · exact ha.w w h
    · exact hb.w w h
theorem sum0_ok : SumOK sum0 := ⟨⟨List.Pairwise.nil, List.Pairwise.nil, List.Pairwise.nil⟩, by simp [sum0], by simp [sum0], by simp [sum0], by simp [sum0], .inl ⟨rfl, rfl, rfl, rfl⟩⟩
theorem insR_ok {l : List Int} {n : Int} (hl : StrictI l) (h : ∀ x ∈ l, Srv x) (hn : Srv n) : StrictI (insR l n) ∧ ∀ x ∈ insR l n, Srv x := by
  refine ⟨by rw [insR_rec hl]; exact insRec_strict n hl, fun x hx => ?_⟩
  rcases (mem_insR l n x).1 hx with hx | rfl
  · exact h x hx
  · exact hn
theorem weighR_ok {l : List WeightEntry} {n : WeightEntry} (hl : StrictW l) (h : ∀ x ∈ l, WOK x) (hn : WOK n) : StrictW (weighR l n) ∧ ∀ x ∈ weighR l n, WOK x := by
  rw [weighR_rec hl]
  refine ⟨weighRec_strict n hl, fun x hx => ?_⟩
  rcases mem_weighRec n x l hx with hx | rfl
  · exact h x hx
  · exact hn
theorem ofStep_ok {p : Proposal} (ha : 0 ≤ p.admin) (hn : 0 ≤ p.number) {c : Change} (hc : ChangeOK c) {s : Summary} (hs : SumOK s) : SumOK (ofTStep p s c) := by
  obtain ⟨⟨s1, s2, s3⟩, hj, hr, hw, ho, hru⟩ := hs
  unfold ofTStep
  rcases hc with ⟨h1, h2, h3, h4, h5⟩ | ⟨h1, h2, h3, h4, h5⟩ | ⟨h1, h2, h3, h4, h5⟩ | ⟨h1, h2, h3, h4, h5⟩
  · rw [if_pos h1]
    have i1 := insR_ok s1 hj (n := c.server) h2
    have i2 := weighR_ok s3 hw (n := ⟨c.server, c.weight, 0, p.admin, p.number⟩) ⟨h2, h3, Int.le_refl _, ha, hn⟩
    exact ⟨⟨i1.1, s2, i2.1⟩, i1.2, hr, i2.2, ho, hru⟩
  · rw [if_neg zo, if_pos h1]
    have i1 := insR_ok s2 hr (n := c.server) h2
    exact ⟨⟨s1, i1.1, s3⟩, hj, i1.2, hw, ho, hru⟩
  · rw [if_neg zo, if_neg zo, if_pos h1]
    have i2 := weighR_ok s3 hw (n := ⟨c.server, c.weight, c.version, p.admin, p.number⟩) ⟨h2, h3, by dsimp only; omega, ha, hn⟩
    exact ⟨⟨s1, s2, i2.1⟩, hj, hr, i2.2, ho, hru⟩
  · rw [if_neg zo, if_neg zo, if_neg zo, if_pos h1]
    exact ⟨⟨s1, s2, s3⟩, hj, hr, hw, ⟨by dsimp only; omega, ha, hn⟩, .inr ⟨rule_ne h5, h5⟩⟩
theorem ofT_ok {p : Proposal} (h : PropOK p) : SumOK (ofT p) := by
  have gen : ∀ (cs : List Change) (s : Summary), (∀ c ∈ cs, ChangeOK c) → SumOK s → SumOK (cs.foldl (ofTStep p) s) := by
    intro cs
    induction cs with
    | nil => intro s _ h; exact h
    | cons c cs ih => intro s h1 h2; exact ih _ (fun d hd => h1 d (by simp [hd])) (ofStep_ok (by have := h.1; omega) (by have := h.2.1; omega) (h1 c (by simp)) h2)
  exact gen p.changes sum0 h.2.2.2.1 sum0_ok
theorem weightR_ok {W : List WeightEntry} (h : ∀ w ∈ W, WOK w) (x : Int) : 1 ≤ weightR W x ∧ weightR W x ≤ 9 := by
  induction W with
  | nil => rw [weightR]; omega
  | cons w W ih =>
    rw [weightR]
    split
    · exact (h w (by simp)).2.1
    · exact ih (fun w hw => h w (by simp [hw]))
theorem viewT_mem {s : Summary} (h : SumOK s) : MemOK (viewT s) := by
  constructor
  · intro m hm
    obtain ⟨x, hx, rfl⟩ := List.mem_map.1 (show m ∈ List.map _ _ from hm)
    exact ⟨h.j x (List.mem_filter.1 hx).1, weightR_ok h.w x⟩
  · show (List.map _ _).Pairwise _
    rw [List.pairwise_map]
    exact List.Pairwise.filter _ h.sort.1
end Go.Proofs
namespace Go.Proofs
open Go.AM
attribute [local irreducible] AM.evalR AM.evalD AM.Runs AM.valK AM.dK AM.opK AM.stepR AM.CallS AM.St.Le
theorem laterB_iff (a b : WeightEntry) : laterB a b = true ↔ (b.version < a.version ∨ (a.version = b.version ∧ (b.admin < a.admin ∨ (a.admin = b.admin ∧ b.number < a.number)))) := by
  unfold laterB
  split
  · rw [decide_eq_true_eq]; omega
  · split
    · rw [decide_eq_true_eq]; omega
    · rw [decide_eq_true_eq]; omega
theorem laterB_not (a b : WeightEntry) : laterB a b = false ↔ ¬ (b.version < a.version ∨ (a.version = b.version ∧ (b.admin < a.admin ∨ (a.admin = b.admin ∧ b.number < a.number)))) := by
  rw [← laterB_iff]; simp
theorem laterB_irr (a : WeightEntry) : laterB a a = false := by rw [laterB_not]; omega
theorem laterB_tr {a b c : WeightEntry} (h : laterB a b = false) (k : laterB b c = false) : laterB a c = false := by rw [laterB_not] at *; omega
theorem laterB_lt {a b : WeightEntry} (h : laterB b a = true) : laterB a b = false := by rw [laterB_iff] at h; rw [laterB_not]; omega
structure Is (A : List Summary) (s : Summary) : Prop where
  sort : SortedS s
  j : ∀ x, x ∈ s.joined ↔ ∃ t ∈ A, x ∈ t.joined
  r : ∀ x, x ∈ s.removed ↔ ∃ t ∈ A, x ∈ t.removed
  w1 : ∀ x o, lk s.weights x = some o → ∃ t ∈ A, lk t.weights x = some o
  w2 : ∀ x, ∀ t ∈ A, ∀ o', lk t.weights x = some o' → ∃ o, lk s.weights x = some o ∧ laterB o' o = false
  ru1 : ∃ t ∈ A, s.rule = t.rule ∧ s.version = t.version ∧ s.admin = t.admin ∧ s.number = t.number
  ru2 : ∀ t ∈ A, t.rule ≠ ⟨0, 0, 0⟩ → s.rule ≠ ⟨0, 0, 0⟩ ∧ laterB (originW t) (originW s) = false
structure Coh (A : List Summary) : Prop where
  w : ∀ t ∈ A, ∀ u ∈ A, ∀ x o o', lk t.weights x = some o → lk u.weights x = some o' → laterB o o' = false → laterB o' o = false → o = o'
  ru : ∀ t ∈ A, ∀ u ∈ A, t.rule ≠ ⟨0, 0, 0⟩ → u.rule ≠ ⟨0, 0, 0⟩ → laterB (originW t) (originW u) = false → laterB (originW u) (originW t) = false → t.rule = u.rule
  z : ∀ t ∈ A, t.rule = ⟨0, 0, 0⟩ → t.version = 0 ∧ t.admin = 0 ∧ t.number = 0
theorem Coh.mono {A B : List Summary} (h : Coh B) (k : ∀ t ∈ A, t ∈ B) : Coh A :=
  ⟨fun t ht u hu => h.w t (k t ht) u (k u hu), fun t ht u hu => h.ru t (k t ht) u (k u hu), fun t ht => h.z t (k t ht)⟩
theorem Is.congr {A B : List Summary} {s : Summary} (h : Is A s) (e : ∀ t, t ∈ A ↔ t ∈ B) : Is B s := by
  refine ⟨h.sort, fun x => ?_, fun x => ?_, fun x o q => ?_, fun x t ht => h.w2 x t ((e t).2 ht), ?_, fun t ht => h.ru2 t ((e t).2 ht)⟩
  · rw [h.j]; simp only [e]
  · rw [h.r]; simp only [e]
  · obtain ⟨t, ht, k⟩ := h.w1 x o q; exact ⟨t, (e t).1 ht, k⟩
  · obtain ⟨t, ht, k⟩ := h.ru1; exact ⟨t, (e t).1 ht, k⟩
theorem Is.one {t : Summary} (h : SortedS t) : Is [t] t := by
  refine ⟨h, fun x => by simp, fun x => by simp, fun x o q => ⟨t, by simp, q⟩, fun x u hu o q => ⟨o, ?_, laterB_irr o⟩, ⟨t, by simp, rfl, rfl, rfl, rfl⟩, fun u hu q => ?_⟩
  · rw [List.mem_singleton.1 hu] at q; exact q
  · rw [List.mem_singleton.1 hu] at q ⊢; exact ⟨q, laterB_irr _⟩
def maxW : Option WeightEntry → Option WeightEntry → Option WeightEntry
  | none, r => r
  | some o, none => some o
  | some o, some w => some (if laterB w o = true then w else o)
theorem lk_foldl (x : Int) : ∀ (b : List WeightEntry) {a : List WeightEntry}, StrictW a → StrictW b → lk (b.foldl weighR a) x = maxW (lk a x) (lk b x)
  | [], a, _, _ => by
    rw [List.foldl_nil, show lk [] x = none from rfl]; cases lk a x <;> rfl
  | w :: b, a, ha, hb => by
    replace hb := List.pairwise_cons.1 hb
    rw [List.foldl_cons, weighR_rec ha, lk_foldl x b (weighRec_strict w ha) hb.2, lk_weigh w x ha, lk_cons]
    by_cases e : w.server = x
    · have hn : lk b x = none := lk_none fun u hu => by have := hb.1 u hu; omega
      rw [if_pos e, if_pos e, hn]
      cases lk a x <;> rfl
    · rw [if_neg e, if_neg e]
theorem Is.join {A B : List Summary} {s t : Summary} (h : Is A s) (k : Is B t) : Is (A ++ B) (joinT s t) := by
  have hlk : ∀ x, lk (joinT s t).weights x = maxW (lk s.weights x) (lk t.weights x) := fun x => lk_foldl x t.weights h.sort.2.2 k.sort.2.2
  refine ⟨(joinS_T h.sort t).2, fun x => ?_, fun x => ?_, fun x o q => ?_, fun x u hu o' q => ?_, ?_, fun u hu q => ?_⟩
  · show x ∈ t.joined.foldl insR s.joined ↔ _
    rw [mem_foldl mem_insR, h.j, k.j]
    simp only [List.mem_append, or_and_right, exists_or]
  · show x ∈ t.removed.foldl insR s.removed ↔ _
    rw [mem_foldl mem_insR, h.r, k.r]
    simp only [List.mem_append, or_and_right, exists_or]
  · rw [hlk] at q
    cases hs : lk s.weights x with
    | none =>
      rw [hs] at q
      obtain ⟨u, hu, e⟩ := k.w1 x o q
      exact ⟨u, by simp [hu], e⟩
    | some a =>
      cases ht : lk t.weights x with
      | none =>
        rw [hs, ht] at q
        obtain ⟨u, hu, e⟩ := h.w1 x o (hs.trans q)
        exact ⟨u, by simp [hu], e⟩
      | some w =>
        rw [hs, ht] at q
        have q := Option.some.inj q
        split at q
        · obtain ⟨u, hu, e⟩ := k.w1 x o (by rw [ht, q])
          exact ⟨u, by simp [hu], e⟩
        · obtain ⟨u, hu, e⟩ := h.w1 x o (by rw [hs, q])
          exact ⟨u, by simp [hu], e⟩
  · rw [hlk]
    rcases List.mem_append.1 hu with hu | hu
    · obtain ⟨o, e, l⟩ := h.w2 x u hu o' q
      rw [e]
      cases ht : lk t.weights x with
      | none => exact ⟨o, rfl, l⟩
      | some w =>
        refine ⟨_, rfl, ?_⟩
        split
        · rename_i hw; exact laterB_tr l (laterB_lt hw)
        · exact l
    · obtain ⟨w, e, l⟩ := k.w2 x u hu o' q
      rw [e]
      cases hs : lk s.weights x with
      | none => exact ⟨w, rfl, l⟩
      | some o =>
        refine ⟨_, rfl, ?_⟩
        split
        · exact l
        · rename_i hw; exact laterB_tr l (by simpa using hw)
  · have hp : pickT s t = t ∨ pickT s t = s := by unfold pickT; split <;> simp
    show ∃ u ∈ A ++ B, (pickT s t).rule = u.rule ∧ (pickT s t).version = u.version ∧ (pickT s t).admin = u.admin ∧ (pickT s t).number = u.number
    rcases hp with e | e
    · obtain ⟨u, hu, q⟩ := k.ru1
      rw [e]; exact ⟨u, by simp [hu], q⟩
    · obtain ⟨u, hu, q⟩ := h.ru1
      rw [e]; exact ⟨u, by simp [hu], q⟩
  · show (pickT s t).rule ≠ _ ∧ laterB (originW u) (originW (pickT s t)) = false
    unfold pickT
    rcases List.mem_append.1 hu with hu | hu
    · obtain ⟨l1, l2⟩ := h.ru2 u hu q
      split
      · rename_i c
        refine ⟨c.1, laterB_tr l2 (laterB_lt (c.2.elim (fun z => absurd z l1) id))⟩
      · exact ⟨l1, l2⟩
    · obtain ⟨l1, l2⟩ := k.ru2 u hu q
      split
      · exact ⟨l1, l2⟩
      · rename_i c
        have c1 : s.rule ≠ ⟨0, 0, 0⟩ := fun z => c ⟨l1, .inl z⟩
        have c2 : laterB (originW t) (originW s) = false := by
          cases hx : laterB (originW t) (originW s)
          · rfl
          · exact absurd ⟨l1, .inr hx⟩ c
        exact ⟨c1, laterB_tr l2 c2⟩
theorem genesis_mem (n : Int) : MemOK (genesisI n) := by
  have d5 := digitB n 5 4 zd
  constructor
  · intro m hm
    obtain ⟨k, hk, rfl⟩ := List.mem_map.1 (show m ∈ List.map _ _ from hm)
    have hk := List.mem_range.1 hk
    have d3 := digitB n 3 (6 + k) zd
    unfold gmI
    dsimp only
    omega
  · show (List.map _ _).Pairwise _
    rw [List.pairwise_map]
    exact List.pairwise_lt_range.imp fun h => by unfold gmI; dsimp only; omega
theorem mem_cutI {f : Nat → Nat → Proposal} {i j k : Nat} {p : Proposal} : p ∈ cut f i j k ↔ (∃ n, n < i ∧ p = f 0 n) ∨ (∃ n, n < j ∧ p = f 1 n) ∨ (∃ n, n < k ∧ p = f 2 n) := by
  simp only [cut, blk, List.mem_append, List.mem_map, List.mem_range, or_assoc, eq_comm]
theorem cut_sub {f : Nat → Nat → Proposal} {i j k i' j' k' : Nat} (h : i ≤ i' ∧ j ≤ j' ∧ k ≤ k') {p : Proposal} (hp : p ∈ cut f i j k) : p ∈ cut f i' j' k' := by
  rw [mem_cutI] at *
  rcases hp with ⟨n, hn, e⟩ | ⟨n, hn, e⟩ | ⟨n, hn, e⟩
  · exact .inl ⟨n, by omega, e⟩
  · exact .inr (.inl ⟨n, by omega, e⟩)
  · exact .inr (.inr ⟨n, by omega, e⟩)
structure Fam (f : Nat → Nat → Proposal) : Prop where
  nice : Nice f
  ok : ∀ a n, a < 3 → n < 3 → PropOK (f a n)
theorem Fam.prop {f : Nat → Nat → Proposal} (F : Fam f) {c : Config} (hc : IsCut f c) : ∀ p ∈ c, PropOK p := by
  obtain ⟨i, j, k, h, rfl⟩ := hc
  intro p hp
  obtain ⟨a, n, ha, hn, rfl⟩ := mem_cut3 h hp
  exact F.ok a n ha hn
theorem Fam.sub {f : Nat → Nat → Proposal} {c : Config} (hc : IsCut f c) : ∀ p ∈ c, p ∈ cut f 3 3 3 := by
  obtain ⟨i, j, k, h, rfl⟩ := hc
  intro p hp
  exact cut_sub zo hp
theorem Fam.src {f : Nat → Nat → Proposal} {g : View} {c : Config} (hc : IsCut f c) : ∀ t ∈ initS g :: c.map ofT, t ∈ initS g :: (cut f 3 3 3).map ofT := by
  intro t ht
  rcases List.mem_cons.1 ht with rfl | ht
  · simp
  · obtain ⟨p, hp, rfl⟩ := List.mem_map.1 ht
    exact List.mem_cons_of_mem _ (List.mem_map.2 ⟨p, Fam.sub hc p hp, rfl⟩)
theorem pool_fam (l : List Int) : Fam (poolF l) := ⟨pool_nice l, fun a n ha hn => pool_ok l a n ha hn⟩
end Go.Proofs
namespace Go.Proofs
open Go.AM
attribute [local irreducible] AM.evalR AM.evalD AM.Runs AM.valK AM.dK AM.opK AM.stepR AM.CallS AM.St.Le
theorem da_bo (x : Bool) : (V.b x).data = true := rfl
theorem st_bo (xs : List Bool) : Storable (xs.map V.b) := Storable_map _ _ fun _ => rfl
theorem sd_bo (xs : List Bool) : Stride 1 (xs.map V.b) := Stride_map _ _ fun _ => rfl
theorem dl_bo (xs : List Bool) : V.dataL (xs.map V.b) = true := dataL_map _ _ fun _ => rfl
attribute [go_sem] da_bo st_bo sd_bo dl_bo
structure Source where
  server : Int
  filled : Bool
  deriving DecidableEq, Inhabited
def soV (s : Source) : V := .agg [.i s.server, .b s.filled]
theorem ce_soV (x : Source) : (soV x).cells = [.i x.server, .b x.filled] := rfl
theorem ok_soV (x : Source) : (soV x).okCells = true := rfl
theorem da_soV (x : Source) : (soV x).data = true := rfl
theorem st_soV (xs : List Source) : Storable (xs.map soV) := Storable_map _ _ fun _ => rfl
theorem sd_soV (xs : List Source) : Stride 2 (xs.map soV) := Stride_map _ _ fun _ => rfl
theorem dl_soV (xs : List Source) : V.dataL (xs.map soV) = true := dataL_map _ _ da_soV
theorem sp_soV (x : Source) (fo : Nat) (cs : List V) : splice (soV x) fo cs = .agg ((soV x).cells.take fo ++ cs ++ (soV x).cells.drop (fo + cs.length)) := rfl
theorem kl_soV (d : Nat) (x : Source) : V.kill d (soV x) = soV x := rfl
attribute [go_sem] sp_soV st_soV sd_soV da_soV dl_soV ce_soV ok_soV kl_soV
theorem cntB_take {l : List Bool} {i : Nat} (h : i < l.length) : cntB (l.take (i + 1)) = cntB (l.take i) + (if l.getD i default = true then 1 else 0) := by rw [take_getD h, cntB_snoc]
theorem quo_count (f : Bool) (l : List Bool) : AM.Fn Tryz.prog 213 [.sl f (l.map .b)] (.i (cntB l : Nat)) := by
  (refine spec_of_runs Tryz.func213 rfl ?_; simp only [Tryz.f213]; refine ys ?_)
  (refine Runs.lens 0 ?_; refine yl ?_)
  intro hl
  repeat' (first | refine yw ?_ | ((with_reducible refine Runs.is ?_); first | refine Runs.region (id := 0) ?_ | refine Runs.region (id := 1) ?_ | refine Runs.region (id := 2) ?_ | ((with_reducible refine Runs.isC ?_); refine Runs.cond rfl (zc ?_) (zc ?_) <;> intro hc <;> (try (first | contradiction | (exfalso; omega; done) | (have : hc = trivial := rfl; clear this; clear hc))))) | ((with_reducible refine r_is ?_); first | refine yr ?_) | fail)
  refine Runs.loopI (fun k : Nat => l.length - k) (fun k => k ≤ l.length)
    (fun k => ⟨[.any, .any, .any, .i (cntB (l.take k) : Nat), .any, .any, .sl f (l.map .b), .i (l.length : Nat), .i (k : Nat), .any, .any, .any, .any, .any, .any, .any, .any], []⟩) 0 (by simp) ?_ ?_
  · (refine St.Le.clean zR zU zV)
  intro k hk ih
  have hst := fun (h : k < l.length) => cntB_take h
  have hle := cntB_le (l.take k)
  rw [List.length_take] at hle
  have hend : l.length ≤ k → cntB (l.take k) = cntB l := fun h => by rw [List.take_of_length_le h]
  by_cases hlt : k < l.length
  · have hst2 := hst hlt
    generalize cntB (l.take k) = c at *
    repeat' (first | refine yw ?_ | ((with_reducible refine Runs.is ?_); first | refine Runs.region (id := 3) ?_ | refine Runs.region (id := 4) ?_ | refine Runs.region (id := 5) ?_ | refine Runs.region (id := 6) ?_ | refine Runs.region (id := 7) ?_ | ((with_reducible refine Runs.isC ?_); refine Runs.cond rfl (zc ?_) (zc ?_) <;> intro hc <;> (try (first | contradiction | (exfalso; omega; done) | (have : hc = trivial := rfl; clear this; clear hc))))) | ((with_reducible refine r_is ?_); first | refine yr ?_) | fail)
    · rw [if_pos hc] at hst2
      refine ih (k + 1) _ zo zo ?_
      rw [hst2]
      (refine St.Le.clean zR zU zV)
    · rw [if_neg (by rw [hc]; decide)] at hst2
      refine ih (k + 1) _ zo zo ?_
      rw [hst2]
      (refine St.Le.clean zR zU zV)
  · have he := hend zo
    rw [he]
    repeat' (first | refine yw ?_ | ((with_reducible refine Runs.is ?_); first | refine Runs.region (id := 3) ?_ | ((with_reducible refine Runs.isC ?_); refine Runs.cond rfl (zc ?_) (zc ?_) <;> intro hc <;> (try (first | contradiction | (exfalso; omega; done) | (have : hc = trivial := rfl; clear this; clear hc))))) | ((with_reducible refine r_is ?_); first | refine yr ?_) | fail)
    repeat' (first | refine yw ?_ | ((with_reducible refine Runs.is ?_); first | refine Runs.region (id := 8) ?_ | ((with_reducible refine Runs.isC ?_); refine Runs.cond rfl (zc ?_) (zc ?_) <;> intro hc <;> (try (first | contradiction | (exfalso; omega; done) | (have : hc = trivial := rfl; clear this; clear hc))))) | ((with_reducible refine r_is ?_); first | refine yr ?_) | fail)
    (refine Runs.ret1 Tryz.func213 rfl zM zD ?_; try exact zX)
def wInK (ms : List Member) (bs : List Bool) : Nat → Int
  | 0 => 0
  | k + 1 => wInK ms bs k + (if bs.getD k default = true then (ms.getD k default).weight else 0)
def wAllK (ms : List Member) : Nat → Int
  | 0 => 0
  | k + 1 => wAllK ms k + (ms.getD k default).weight
def Light (ms : List Member) : Prop := ms.length ≤ 1000 ∧ ∀ m ∈ ms, 0 ≤ m.weight ∧ m.weight ≤ 9
theorem wInK_bd {ms : List Member} (h : Light ms) (bs : List Bool) : ∀ k, k ≤ ms.length → 0 ≤ wInK ms bs k ∧ wInK ms bs k ≤ 9 * k
  | 0, _ => by simp [wInK]
  | k + 1, hk => by
    have := wInK_bd h bs k zo
    have := h.2 _ (getD_in (show k < ms.length by omega))
    rw [wInK]
    split <;> omega
theorem wAllK_bd {ms : List Member} (h : Light ms) : ∀ k, k ≤ ms.length → 0 ≤ wAllK ms k ∧ wAllK ms k ≤ 9 * k
  | 0, _ => by simp [wAllK]
  | k + 1, hk => by
    have := wAllK_bd h k zo
    have := h.2 _ (getD_in (show k < ms.length by omega))
    rw [wAllK]; omega
theorem quo_weighted (f g : Bool) (ms : List Member) (bs : List Bool) (hm : Light ms) (hl : bs.length = ms.length) : AM.Fn Tryz.prog 214 [.sl f (ms.map mbV), .sl g (bs.map .b)] (.b (decide (wAllK ms ms.length < 2 * wInK ms bs ms.length))) := by
  (refine spec_of_runs Tryz.func214 rfl ?_; simp only [Tryz.f214]; refine ys ?_)
  repeat' (first | refine yw ?_ | ((with_reducible refine Runs.is ?_); first | refine Runs.region (id := 0) ?_ | refine Runs.region (id := 1) ?_ | refine Runs.region (id := 2) ?_ | ((with_reducible refine Runs.isC ?_); refine Runs.cond rfl (zc ?_) (zc ?_) <;> intro hc <;> (try (first | contradiction | (exfalso; omega; done) | (have : hc = trivial := rfl; clear this; clear hc))))) | ((with_reducible refine r_is ?_); first | refine yr ?_) | fail)
  have hlen := hm.1
  refine Runs.loopI (fun k : Nat => ms.length - k) (fun k => k ≤ ms.length)
    (fun k => ⟨[.any, .sl g (bs.map .b), .any, .any, .any, .i (2 * wInK ms bs k), .i (wAllK ms k), .any, .any, .sl f (ms.map mbV), .i (ms.length : Nat), .i (k : Nat), .any, .any, .any, .any, .any, .any, .any, .any, .any, .any, .any, .any, .any, .any, .any, .any, .any, .any, .any, .any, .any], []⟩) 0 (by simp) ?_ ?_
  · (refine St.Le.clean zR zU zV)
  intro k hk ih
  have b1 := wInK_bd hm bs k hk
  have b2 := wAllK_bd hm k hk
  by_cases hlt : k < ms.length
  · have hw := hm.2 _ (getD_in hlt)
    have s1 : wInK ms bs (k + 1) = wInK ms bs k + (if bs.getD k default = true then (ms.getD k default).weight else 0) := rfl
    have s2 : wAllK ms (k + 1) = wAllK ms k + (ms.getD k default).weight := rfl
    generalize wInK ms bs k = x at *
    generalize wAllK ms k = y at *
    repeat' (first | refine yw ?_ | ((with_reducible refine Runs.is ?_); first | refine Runs.region (id := 3) ?_ | refine Runs.region (id := 4) ?_ | refine Runs.region (id := 5) ?_ | refine Runs.region (id := 6) ?_ | refine Runs.region (id := 7) ?_ | refine Runs.region (id := 8) ?_ | ((with_reducible refine Runs.isC ?_); refine Runs.cond rfl (zc ?_) (zc ?_) <;> intro hc <;> (try (first | contradiction | (exfalso; omega; done) | (have : hc = trivial := rfl; clear this; clear hc))))) | ((with_reducible refine r_is ?_); first | refine yr ?_) | fail)
    · rw [if_pos hc] at s1
      refine ih (k + 1) _ zo zo ?_
      rw [s1, s2, Int.mul_add]
      (refine St.Le.clean zR zU zV)
    · rw [if_neg (by rw [hc]; decide)] at s1
      refine ih (k + 1) _ zo zo ?_
      rw [s1, s2, Int.add_zero]
      (refine St.Le.clean zR zU zV)
  · obtain rfl : k = ms.length := by omega
    repeat' (first | refine yw ?_ | ((with_reducible refine Runs.is ?_); first | refine Runs.region (id := 3) ?_ | ((with_reducible refine Runs.isC ?_); refine Runs.cond rfl (zc ?_) (zc ?_) <;> intro hc <;> (try (first | contradiction | (exfalso; omega; done) | (have : hc = trivial := rfl; clear this; clear hc))))) | ((with_reducible refine r_is ?_); first | refine yr ?_) | fail)
    repeat' (first | refine yw ?_ | ((with_reducible refine Runs.is ?_); first | refine Runs.region (id := 9) ?_ | ((with_reducible refine Runs.isC ?_); refine Runs.cond rfl (zc ?_) (zc ?_) <;> intro hc <;> (try (first | contradiction | (exfalso; omega; done) | (have : hc = trivial := rfl; clear this; clear hc))))) | ((with_reducible refine r_is ?_); first | refine yr ?_) | fail)
    (refine Runs.ret1 Tryz.func214 rfl zM zD ?_; try exact zX)
end Go.Proofs
namespace Go.Proofs
open Go.AM
attribute [local irreducible] AM.evalR AM.evalD AM.Runs AM.valK AM.dK AM.opK AM.stepR AM.CallS AM.St.Le
structure Effect where
  kind : Int
  object : ByteArray
  field : ByteArray
  n : Int
  s : ByteArray
  deriving DecidableEq, Inhabited
def efV (x : Effect) : V := .agg [.i x.kind, .sc (.string x.object), .sc (.string x.field), .i x.n, .sc (.string x.s)]
theorem ce_efV (x : Effect) : (efV x).cells = [.i x.kind, .sc (.string x.object), .sc (.string x.field), .i x.n, .sc (.string x.s)] := rfl
theorem ok_efV (x : Effect) : (efV x).okCells = true := rfl
theorem da_efV (x : Effect) : (efV x).data = true := rfl
theorem st_efV (xs : List Effect) : Storable (xs.map efV) := Storable_map _ _ fun _ => rfl
theorem sd_efV (xs : List Effect) : Stride 5 (xs.map efV) := Stride_map _ _ fun _ => rfl
theorem dl_efV (xs : List Effect) : V.dataL (xs.map efV) = true := dataL_map _ _ da_efV
theorem sp_efV (x : Effect) (fo : Nat) (cs : List V) : splice (efV x) fo cs = .agg ((efV x).cells.take fo ++ cs ++ (efV x).cells.drop (fo + cs.length)) := rfl
theorem kl_efV (d : Nat) (x : Effect) : V.kill d (efV x) = efV x := rfl
theorem fz_efV (d : Nat) (u z : V) (x : Effect) : V.frz d u z (efV x) = efV x := V.frz_data d u z _ (da_efV x)
attribute [go_sem] sp_efV st_efV sd_efV da_efV dl_efV ce_efV ok_efV kl_efV fz_efV
structure Update where
  client : Int
  seq : Int
  tag : Int
  effects : List Effect
  deriving DecidableEq, Inhabited
def upV (x : Update) : V := .agg [.i x.client, .i x.seq, .i x.tag, .sl false (x.effects.map efV)]
theorem ce_upV (x : Update) : (upV x).cells = [.i x.client, .i x.seq, .i x.tag, .sl false (x.effects.map efV)] := rfl
theorem ok_upV (x : Update) : (upV x).okCells = true := rfl
theorem da_upV (x : Update) : (upV x).data = true := by simp [upV, V.data, V.dataL, dl_efV]
theorem st_upV (xs : List Update) : Storable (xs.map upV) := Storable_map _ _ fun _ => rfl
theorem sd_upV (xs : List Update) : Stride 4 (xs.map upV) := Stride_map _ _ fun _ => rfl
theorem dl_upV (xs : List Update) : V.dataL (xs.map upV) = true := dataL_map _ _ da_upV
theorem sp_upV (x : Update) (fo : Nat) (cs : List V) : splice (upV x) fo cs = .agg ((upV x).cells.take fo ++ cs ++ (upV x).cells.drop (fo + cs.length)) := rfl
theorem kl_upV (d : Nat) (x : Update) : V.kill d (upV x) = upV x := rfl
theorem fz_upV (d : Nat) (u z : V) (x : Update) : V.frz d u z (upV x) = upV x := V.frz_data d u z _ (da_upV x)
attribute [go_sem] sp_upV st_upV sd_upV da_upV dl_upV ce_upV ok_upV kl_upV fz_upV
structure Cert where
  «from» : Config
  to : Config
  deriving DecidableEq, Inhabited
def ceV (x : Cert) : V := .agg [.sl false (x.«from».map prV), .sl false (x.to.map prV)]
theorem ce_ceV (x : Cert) : (ceV x).cells = [.sl false (x.«from».map prV), .sl false (x.to.map prV)] := rfl
theorem ok_ceV (x : Cert) : (ceV x).okCells = true := rfl
theorem da_ceV (x : Cert) : (ceV x).data = true := by simp [ceV, V.data, V.dataL, dl_prV]
theorem st_ceV (xs : List Cert) : Storable (xs.map ceV) := Storable_map _ _ fun _ => rfl
theorem sd_ceV (xs : List Cert) : Stride 2 (xs.map ceV) := Stride_map _ _ fun _ => rfl
theorem dl_ceV (xs : List Cert) : V.dataL (xs.map ceV) = true := dataL_map _ _ da_ceV
theorem sp_ceV (x : Cert) (fo : Nat) (cs : List V) : splice (ceV x) fo cs = .agg ((ceV x).cells.take fo ++ cs ++ (ceV x).cells.drop (fo + cs.length)) := rfl
theorem kl_ceV (d : Nat) (x : Cert) : V.kill d (ceV x) = ceV x := rfl
theorem fz_ceV (d : Nat) (u z : V) (x : Cert) : V.frz d u z (ceV x) = ceV x := V.frz_data d u z _ (da_ceV x)
attribute [go_sem] sp_ceV st_ceV sd_ceV da_ceV dl_ceV ce_ceV ok_ceV kl_ceV fz_ceV
structure AccessID where
  process : Int
  number : Int
  deriving DecidableEq, Inhabited
def idV (x : AccessID) : V := .agg [.i x.process, .i x.number]
theorem ce_idV (x : AccessID) : (idV x).cells = [.i x.process, .i x.number] := rfl
theorem ok_idV (x : AccessID) : (idV x).okCells = true := rfl
theorem da_idV (x : AccessID) : (idV x).data = true := rfl
theorem st_idV (xs : List AccessID) : Storable (xs.map idV) := Storable_map _ _ fun _ => rfl
theorem sd_idV (xs : List AccessID) : Stride 2 (xs.map idV) := Stride_map _ _ fun _ => rfl
theorem dl_idV (xs : List AccessID) : V.dataL (xs.map idV) = true := dataL_map _ _ da_idV
theorem sp_idV (x : AccessID) (fo : Nat) (cs : List V) : splice (idV x) fo cs = .agg ((idV x).cells.take fo ++ cs ++ (idV x).cells.drop (fo + cs.length)) := rfl
theorem kl_idV (d : Nat) (x : AccessID) : V.kill d (idV x) = idV x := rfl
theorem fz_idV (d : Nat) (u z : V) (x : AccessID) : V.frz d u z (idV x) = idV x := V.frz_data d u z _ (da_idV x)
attribute [go_sem] sp_idV st_idV sd_idV da_idV dl_idV ce_idV ok_idV kl_idV fz_idV
structure Message where
  kind : Int
  «from» : Int
  to : Int
  access : AccessID
  round : Int
  mode : Int
  cert : Cert
  base : Cert
  hasBase : Bool
  established : Cert
  config : Config
  state : List Update
  «have» : Vector
  more : Bool
  deriving DecidableEq, Inhabited
def msV (x : Message) : V := .agg [.i x.kind, .i x.«from», .i x.to, .i x.access.process, .i x.access.number, .i x.round, .i x.mode, .sl false (x.cert.«from».map prV), .sl false (x.cert.to.map prV), .sl false (x.base.«from».map prV), .sl false (x.base.to.map prV), .b x.hasBase, .sl false (x.established.«from».map prV), .sl false (x.established.to.map prV), .sl false (x.config.map prV), .sl false (x.state.map upV), .sl false (x.«have».map enV), .b x.more]
theorem ce_msV (x : Message) : (msV x).cells = [.i x.kind, .i x.«from», .i x.to, .i x.access.process, .i x.access.number, .i x.round, .i x.mode, .sl false (x.cert.«from».map prV), .sl false (x.cert.to.map prV), .sl false (x.base.«from».map prV), .sl false (x.base.to.map prV), .b x.hasBase, .sl false (x.established.«from».map prV), .sl false (x.established.to.map prV), .sl false (x.config.map prV), .sl false (x.state.map upV), .sl false (x.«have».map enV), .b x.more] := rfl
theorem ok_msV (x : Message) : (msV x).okCells = true := rfl
theorem da_msV (x : Message) : (msV x).data = true := by simp [msV, V.data, V.dataL, dl_prV, dl_upV, dl_enV]
theorem st_msV (xs : List Message) : Storable (xs.map msV) := Storable_map _ _ fun _ => rfl
theorem sd_msV (xs : List Message) : Stride 18 (xs.map msV) := Stride_map _ _ fun _ => rfl
theorem dl_msV (xs : List Message) : V.dataL (xs.map msV) = true := dataL_map _ _ da_msV
theorem sp_msV (x : Message) (fo : Nat) (cs : List V) : splice (msV x) fo cs = .agg ((msV x).cells.take fo ++ cs ++ (msV x).cells.drop (fo + cs.length)) := rfl
theorem kl_msV (d : Nat) (x : Message) : V.kill d (msV x) = msV x := rfl
theorem fz_msV (d : Nat) (u z : V) (x : Message) : V.frz d u z (msV x) = msV x := V.frz_data d u z _ (da_msV x)
attribute [go_sem] sp_msV st_msV sd_msV da_msV dl_msV ce_msV ok_msV kl_msV fz_msV
structure Job where
  active : Bool
  «from» : Config
  to : Config
  done : List Source
  deriving DecidableEq, Inhabited
def joV (x : Job) : V := .agg [.b x.active, .sl false (x.«from».map prV), .sl false (x.to.map prV), .sl false (x.done.map soV)]
theorem ce_joV (x : Job) : (joV x).cells = [.b x.active, .sl false (x.«from».map prV), .sl false (x.to.map prV), .sl false (x.done.map soV)] := rfl
theorem ok_joV (x : Job) : (joV x).okCells = true := rfl
theorem da_joV (x : Job) : (joV x).data = true := by simp [joV, V.data, V.dataL, dl_prV, dl_soV]
theorem st_joV (xs : List Job) : Storable (xs.map joV) := Storable_map _ _ fun _ => rfl
theorem sd_joV (xs : List Job) : Stride 4 (xs.map joV) := Stride_map _ _ fun _ => rfl
theorem dl_joV (xs : List Job) : V.dataL (xs.map joV) = true := dataL_map _ _ da_joV
theorem sp_joV (x : Job) (fo : Nat) (cs : List V) : splice (joV x) fo cs = .agg ((joV x).cells.take fo ++ cs ++ (joV x).cells.drop (fo + cs.length)) := rfl
theorem kl_joV (d : Nat) (x : Job) : V.kill d (joV x) = joV x := rfl
theorem fz_joV (d : Nat) (u z : V) (x : Job) : V.frz d u z (joV x) = joV x := V.frz_data d u z _ (da_joV x)
attribute [go_sem] sp_joV st_joV sd_joV da_joV dl_joV ce_joV ok_joV kl_joV fz_joV
structure Replica where
  server : Int
  genesis : View
  config : Config
  state : List Update
  base : Cert
  hasBase : Bool
  established : Cert
  job : Job
  deriving DecidableEq, Inhabited
def rpV (x : Replica) : V := .agg [.i x.server, .sl false (x.genesis.members.map mbV), .i x.genesis.rule.kind, .i x.genesis.rule.columns, .i x.genesis.rule.faulty, .sl false (x.config.map prV), .sl false (x.state.map upV), .sl false (x.base.«from».map prV), .sl false (x.base.to.map prV), .b x.hasBase, .sl false (x.established.«from».map prV), .sl false (x.established.to.map prV), .b x.job.active, .sl false (x.job.«from».map prV), .sl false (x.job.to.map prV), .sl false (x.job.done.map soV)]
theorem ce_rpV (x : Replica) : (rpV x).cells = [.i x.server, .sl false (x.genesis.members.map mbV), .i x.genesis.rule.kind, .i x.genesis.rule.columns, .i x.genesis.rule.faulty, .sl false (x.config.map prV), .sl false (x.state.map upV), .sl false (x.base.«from».map prV), .sl false (x.base.to.map prV), .b x.hasBase, .sl false (x.established.«from».map prV), .sl false (x.established.to.map prV), .b x.job.active, .sl false (x.job.«from».map prV), .sl false (x.job.to.map prV), .sl false (x.job.done.map soV)] := rfl
theorem ok_rpV (x : Replica) : (rpV x).okCells = true := rfl
theorem da_rpV (x : Replica) : (rpV x).data = true := by simp [rpV, V.data, V.dataL, dl_mbV, dl_prV, dl_upV, dl_soV]
theorem st_rpV (xs : List Replica) : Storable (xs.map rpV) := Storable_map _ _ fun _ => rfl
theorem sd_rpV (xs : List Replica) : Stride 16 (xs.map rpV) := Stride_map _ _ fun _ => rfl
theorem dl_rpV (xs : List Replica) : V.dataL (xs.map rpV) = true := dataL_map _ _ da_rpV
theorem sp_rpV (x : Replica) (fo : Nat) (cs : List V) : splice (rpV x) fo cs = .agg ((rpV x).cells.take fo ++ cs ++ (rpV x).cells.drop (fo + cs.length)) := rfl
theorem kl_rpV (d : Nat) (x : Replica) : V.kill d (rpV x) = rpV x := rfl
theorem fz_rpV (d : Nat) (u z : V) (x : Replica) : V.frz d u z (rpV x) = rpV x := V.frz_data d u z _ (da_rpV x)
attribute [go_sem] sp_rpV st_rpV sd_rpV da_rpV dl_rpV ce_rpV ok_rpV kl_rpV fz_rpV
theorem fz_soV (d : Nat) (u z : V) (x : Source) : V.frz d u z (soV x) = soV x := V.frz_data d u z _ (da_soV x)
attribute [go_sem] fz_soV
end Go.Proofs
namespace Go.Proofs
open Go.AM
attribute [local irreducible] AM.evalR AM.evalD AM.Runs AM.valK AM.dK AM.opK AM.stepR AM.CallS AM.St.Le
theorem bo_getD {l : List Bool} {i : Nat} (h : i < l.length) : (l.map V.b).getD i .any = V.b (l.getD i false) := by
  rw [List.getD_eq_getElem?_getD, List.getElem?_map, List.getElem?_eq_getElem h, List.getD_eq_getElem?_getD, List.getElem?_eq_getElem h]; rfl
theorem bools_rel {E : Env} {g o : Nat} {l : List Bool} (hF : E.F g) (hl : l.length ≤ 1000000) (hr : ∀ j, j < l.length → E.w.cell? ⟨g, o + j, none⟩ = some (.bool (l.getD j false))) : Rel E (.slice (some ⟨g, o, none⟩) l.length l.length) (.sl true (l.map .b)) := by
  have := Rel.sl (E := E) true (l.map V.b) g o l.length 1 (fun k => .bool (l.getD k false)) (dl_bo l) (by simp) (by simp [maxLen]; omega) (fun _ => by simp) hF zd (fun i hi => by
    rw [List.length_map] at hi
    rw [List.getD_eq_getElem?_getD, List.getElem?_map, List.getElem?_eq_getElem hi]; rfl) (fun k hk => hr k (by simpa using hk)) (fun i j hi hj => by
    rw [List.length_map] at hi
    obtain rfl : j = 0 := by omega
    rw [Nat.mul_one, Nat.add_zero, bo_getD hi]
    exact Rel.sc _)
  rw [List.length_map] at this
  exact this
theorem countsB : CountsB := by
  intro w g o l hl hg hr
  have S : SimAt w (fun _ => False) (Owned [] (fun _ => undef)) [] (fun _ => undef) [.sl true (l.map .b)] [.slice (some ⟨g, o, none⟩) l.length l.length] w :=
    ⟨RelL.cons (bools_rel ⟨hg, id, fun id h => (by rw [AM.look_nil] at h; cases h)⟩ hl hr) (RelL.nil _), fun id o h => (by rw [AM.look_nil] at h; cases h), fun id id' b h => (by rw [AM.look_nil] at h; cases h), fun id b h => (by rw [AM.look_nil] at h; cases h), Ext.refl _ _, fun b h => h.elim⟩
  refine (quo_count true l w _ _ _ S).mono ?_
  rintro e w' ⟨r, H', x, loc', ⟨rfl, rfl⟩, rfl, S'⟩
  have hx := S'.vals.getD 0
  have hx : x = .int .i64 (cntB l : Nat) := Rel.sc_iff.1 hx
  subst hx
  exact ⟨rfl, S'.ext.os, S'.ext.tape, S'.ext.output, S'.ext.size, fun b hb => S'.ext.block b hb (by rintro ⟨id, h1, _⟩; rw [AM.look_nil] at h1; cases h1)⟩
theorem quo_grid (f : Bool) (c : Int) (hc : 1 ≤ c ∧ c ≤ 1000000) (bs : List Bool) (hne : bs ≠ []) (hl : bs.length ≤ 1000000) : AM.Fn Tryz.prog 215 [.i c, .sl f (bs.map .b)] (.b (gridB c bs)) := by
  intro w O xs loc S
  obtain ⟨x0, x1, rfl⟩ : ∃ x0 x1, xs = [x0, x1] := by
    have := S.vals.1
    match xs, this with
    | [x0, x1], _ => exact ⟨x0, x1, rfl⟩
  have r0 := S.vals.getD 0
  have r1 := S.vals.getD 1
  have r0 : x0 = .int .i64 c := Rel.sc_iff.1 r0
  subst r0
  change Rel _ x1 (.sl f (bs.map .b)) at r1
  have key : ∃ g off cap, x1 = .slice (some ⟨g, off, none⟩) bs.length cap ∧ bs.length ≤ cap ∧ cap ≤ maxLen ∧ g < w.heap.size ∧ ∀ j, j < bs.length → w.cell? ⟨g, off + j, none⟩ = some (.bool (bs.getD j false)) := by
    generalize hv : V.sl f (bs.map V.b) = v at r1
    cases r1 with
    | nil full a c h1 h2 =>
      injection hv with _ hv
      exact absurd (List.map_eq_nil_iff.1 hv) hne
    | sl full es g off c sz fv a1 a2 a3 a4 a5 a6 a7 a8 a9 =>
      injection hv with _ hv
      subst hv
      rw [List.length_map] at a2 a7 a8 a9 ⊢
      have hp : 0 < bs.length := List.length_pos_iff.2 hne
      have hsz : sz = 1 := by
        have := a7 0 hp
        rw [List.getD_eq_getElem?_getD, List.getElem?_map, List.getElem?_eq_getElem hp] at this
        exact this.symm
      subst hsz
      refine ⟨g, off, c, rfl, a2, a3, a5.1, fun j hj => ?_⟩
      have h8 := a8 j zo
      have h9 := a9 j 0 hj zd
      rw [Nat.mul_one, Nat.add_zero, bo_getD hj] at h9
      have h9 : fv j = .bool (bs.getD j false) := Rel.sc_iff.1 h9
      rw [h9] at h8
      exact h8
    | _ => cases hv
  obtain ⟨g, off, cap, rfl, h1, h2, h3, h4⟩ := key
  have hcc : ((c.toNat : Nat) : Int) = c := by omega
  have hG := grid_calls countsB c.toNat ⟨by omega, by omega⟩ bs hl w g off cap h1 (by have : maxLen = 9223372036854775807 := rfl; omega) h3 h4
  rw [hcc] at hG
  refine hG.mono ?_
  rintro e W' ⟨rfl, hB⟩
  have S' := S.grows (w' := W') ⟨hB.os, hB.tape, hB.output, hB.size, fun b hb _ => hB.block b hb⟩
  exact ⟨.b (gridB c bs), [], .bool (gridB c bs), loc, ⟨rfl, rfl⟩, rfl, ⟨RelL.cons (Rel.sc _) (RelL.nil _), S'.objs, S'.dist, S'.own, S'.ext, S'.O_lt⟩⟩
end Go.Proofs
namespace Go.Proofs
open Go.AM
attribute [local irreducible] AM.evalR AM.evalD AM.Runs AM.valK AM.dK AM.opK AM.stepR AM.CallS AM.St.Le
def quoB (v : View) (bs : List Bool) : Bool :=
  if v.members.length = 0 then false
  else if v.rule.kind = 1 then decide ((v.members.length : Int) < 2 * (cntB bs : Nat))
  else if v.rule.kind = 2 then decide (wAllK v.members v.members.length < 2 * wInK v.members bs v.members.length)
  else if v.rule.kind = 3 then gridB v.rule.columns bs
  else if v.rule.kind = 4 then decide (((v.members.length : Int) + v.rule.faulty + 2) / 2 ≤ (cntB bs : Nat))
  else false
theorem quo_contains (f : Bool) (v : View) (bs : List Bool) (hm : Light v.members) (hr : RuleOK v.rule) (hl : bs.length = v.members.length) : AM.Fn Tryz.prog 170 [viV v, .sl f (bs.map .b)] (.b (quoB v bs)) := by
  have hW := quo_weighted false f v.members bs hm hl
  have hC := quo_count f bs
  have hcb := cntB_le bs
  have hgo : ∀ e, quoB v bs = e → AM.Fn Tryz.prog 170 [viV v, .sl f (bs.map .b)] (.b e) := by
    intro e he
    unfold quoB at he
    obtain ⟨r1, r2, r3, r4, r5⟩ := hr
    have hlen := hm.1
    by_cases h0 : v.members.length = 0
    · rw [if_pos h0] at he
      subst he
      clear hW hC
      obtain ⟨ms, ru⟩ := v
      dsimp only at h0 hl
      (refine spec_of_runs Tryz.func170 rfl ?_; simp only [Tryz.f170]; refine ys ?_)
      repeat' (first | refine yw ?_ | ((with_reducible refine Runs.is ?_); first | refine Runs.region (id := 0) ?_ | refine Runs.region (id := 1) ?_ | refine Runs.region (id := 2) ?_ | refine Runs.region (id := 3) ?_ | ((with_reducible refine Runs.isC ?_); refine Runs.cond rfl (zc ?_) (zc ?_) <;> intro hc <;> (try (first | contradiction | (exfalso; omega; done) | (have : hc = trivial := rfl; clear this; clear hc))))) | ((with_reducible refine r_is ?_); first | refine yr ?_) | fail)
      (refine Runs.ret1 Tryz.func170 rfl zM zD ?_; try exact zX)
    rw [if_neg h0] at he
    have hG : v.rule.kind = 3 → AM.Fn Tryz.prog 215 [.i v.rule.columns, .sl f (bs.map .b)] (.b (gridB v.rule.columns bs)) := fun h => quo_grid f v.rule.columns (by have := r2 h; omega) bs (by rintro rfl; exact h0 hl.symm) zo
    generalize decide (wAllK v.members v.members.length < 2 * wInK v.members bs v.members.length) = wb at *
    generalize cntB bs = cn at *
    generalize gridB v.rule.columns bs = gb at *
    obtain ⟨ms, ⟨k, co, fa⟩⟩ := v
    dsimp only at *
    by_cases h1 : k = 1
    · subst h1
      rw [if_pos rfl] at he
      subst he
      (refine spec_of_runs Tryz.func170 rfl ?_; simp only [Tryz.f170]; refine ys ?_)
      repeat' (first | refine yw ?_ | ((with_reducible refine Runs.is ?_); first | refine Runs.region (id := 0) ?_ | refine Runs.region (id := 1) ?_ | refine Runs.region (id := 2) ?_ | refine Runs.region (id := 3) ?_ | refine Runs.region (id := 4) ?_ | refine Runs.region (id := 5) ?_ | refine Runs.region (id := 6) ?_ | ((with_reducible refine Runs.isC ?_); refine Runs.cond rfl (zc ?_) (zc ?_) <;> intro hc <;> (try (first | contradiction | (exfalso; omega; done) | (have : hc = trivial := rfl; clear this; clear hc))))) | ((with_reducible refine r_is ?_); first | refine yr ?_ | (refine r_fn rfl (hC) HbF.h zL1 zD ?_; refine r_nn zN zH ?_)) | fail)
      (refine Runs.ret1 Tryz.func170 rfl zM zD ?_; try exact zX)
    rw [if_neg h1] at he
    by_cases h2 : k = 2
    · subst h2
      rw [if_pos rfl] at he
      subst he
      (refine spec_of_runs Tryz.func170 rfl ?_; simp only [Tryz.f170]; refine ys ?_)
      repeat' (first | refine yw ?_ | ((with_reducible refine Runs.is ?_); first | refine Runs.region (id := 0) ?_ | refine Runs.region (id := 1) ?_ | refine Runs.region (id := 2) ?_ | refine Runs.region (id := 3) ?_ | refine Runs.region (id := 4) ?_ | refine Runs.region (id := 5) ?_ | refine Runs.region (id := 6) ?_ | refine Runs.region (id := 7) ?_ | refine Runs.region (id := 8) ?_ | ((with_reducible refine Runs.isC ?_); refine Runs.cond rfl (zc ?_) (zc ?_) <;> intro hc <;> (try (first | contradiction | (exfalso; omega; done) | (have : hc = trivial := rfl; clear this; clear hc))))) | ((with_reducible refine r_is ?_); first | refine yr ?_ | (refine r_fn rfl (hW) HbF.h zL2 zD ?_; refine r_nn zN zH ?_)) | fail)
      (refine Runs.ret1 Tryz.func170 rfl zM zD ?_; try exact zX)
    rw [if_neg h2] at he
    by_cases h3 : k = 3
    · subst h3
      rw [if_pos rfl] at he
      subst he
      have hG3 := hG rfl
      clear hG
      (refine spec_of_runs Tryz.func170 rfl ?_; simp only [Tryz.f170]; refine ys ?_)
      repeat' (first | refine yw ?_ | ((with_reducible refine Runs.is ?_); first | refine Runs.region (id := 0) ?_ | refine Runs.region (id := 1) ?_ | refine Runs.region (id := 2) ?_ | refine Runs.region (id := 3) ?_ | refine Runs.region (id := 4) ?_ | refine Runs.region (id := 5) ?_ | refine Runs.region (id := 6) ?_ | refine Runs.region (id := 7) ?_ | refine Runs.region (id := 8) ?_ | refine Runs.region (id := 9) ?_ | refine Runs.region (id := 10) ?_ | ((with_reducible refine Runs.isC ?_); refine Runs.cond rfl (zc ?_) (zc ?_) <;> intro hc <;> (try (first | contradiction | (exfalso; omega; done) | (have : hc = trivial := rfl; clear this; clear hc))))) | ((with_reducible refine r_is ?_); first | refine yr ?_ | (refine r_fn rfl (hG3) HbF.h zL2 zD ?_; refine r_nn zN zH ?_)) | fail)
      (refine Runs.ret1 Tryz.func170 rfl zM zD ?_; try exact zX)
    rw [if_neg h3] at he
    obtain rfl : k = 4 := by omega
    rw [if_pos rfl] at he
    subst he
    have := r4 rfl
    clear hG
    (refine spec_of_runs Tryz.func170 rfl ?_; simp only [Tryz.f170]; refine ys ?_)
    repeat' (first | refine yw ?_ | ((with_reducible refine Runs.is ?_); first | refine Runs.region (id := 0) ?_ | refine Runs.region (id := 1) ?_ | refine Runs.region (id := 2) ?_ | refine Runs.region (id := 3) ?_ | refine Runs.region (id := 4) ?_ | refine Runs.region (id := 5) ?_ | refine Runs.region (id := 6) ?_ | refine Runs.region (id := 7) ?_ | refine Runs.region (id := 8) ?_ | refine Runs.region (id := 9) ?_ | refine Runs.region (id := 10) ?_ | refine Runs.region (id := 11) ?_ | refine Runs.drawn (id := 12) mixed zK ?_ | ((with_reducible refine Runs.isC ?_); refine Runs.cond rfl (zc ?_) (zc ?_) <;> intro hc <;> (try (first | contradiction | (exfalso; omega; done) | (have : hc = trivial := rfl; clear this; clear hc))))) | ((with_reducible refine r_is ?_); first | refine yr ?_ | (refine r_fn rfl (hC) HbF.h zL1 zD ?_; refine r_nn zN zH ?_)) | ((with_reducible refine d_is ?_); first | refine yd ?_ | (refine d_fn rfl (hC) HbF.h zL1 zD ?_; refine d_nn zN zH ?_)) | fail)
    (refine Runs.ret1 Tryz.func170 rfl zM zD ?_; try exact zX)
  exact hgo _ rfl
def inK (p : Member → Bool) (ms : List Member) : Nat → List Bool
  | 0 => List.replicate ms.length false
  | k + 1 => (inK p ms k).set k (p (ms.getD k default))
theorem inK_len (p : Member → Bool) (ms : List Member) : ∀ k, (inK p ms k).length = ms.length
  | 0 => by simp [inK]
  | k + 1 => by rw [inK, List.length_set, inK_len p ms k]
theorem inK_get (p : Member → Bool) (ms : List Member) : ∀ k, k ≤ ms.length → ∀ i, i < ms.length → (inK p ms k)[i]? = some (if i < k then p (ms.getD i default) else false)
  | 0, _, i, hi => by simp [inK, hi]
  | k + 1, hk, i, hi => by
    rw [inK, List.getElem?_set]
    by_cases e : k = i
    · subst e; rw [if_pos rfl, if_pos (by rw [inK_len]; omega), if_pos zo]
    · rw [if_neg e, inK_get p ms k zo i hi]
      congr 1
      by_cases h : i < k
      · rw [if_pos h, if_pos zo]
      · rw [if_neg h, if_neg zo]
theorem inK_all (p : Member → Bool) (ms : List Member) : inK p ms ms.length = ms.map p := by
  apply List.ext_getElem?
  intro i
  by_cases hi : i < ms.length
  · rw [inK_get p ms _ (Nat.le_refl _) i hi, if_pos hi, List.getElem?_map, List.getElem?_eq_getElem hi, List.getD_eq_getElem?_getD, List.getElem?_eq_getElem hi]; rfl
  · rw [List.getElem?_eq_none (by rw [inK_len]; omega), List.getElem?_eq_none (by rw [List.length_map]; omega)]
def inSrv (ss : List Int) (m : Member) : Bool := ss.contains m.server
theorem quo_IsQuorum (f : Bool) (v : View) (ss : List Int) (hm : Light v.members) (hr : RuleOK v.rule) : AM.Fn Tryz.prog 102 [viV v, .sl f (ss.map .i)] (.b (quoB v (v.members.map (inSrv ss)))) := by
  have hC := quo_contains false v (v.members.map (inSrv ss)) hm hr (by rw [List.length_map])
  have hlen := hm.1
  generalize quoB v (v.members.map (inSrv ss)) = res at *
  clear hm hr
  rw [← inK_all] at hC
  obtain ⟨ms, ru⟩ := v
  dsimp only at hC hlen
  (refine spec_of_runs Tryz.func102 rfl ?_; simp only [Tryz.f102]; refine ys ?_)
  repeat' (first | refine yw ?_ | ((with_reducible refine Runs.is ?_); first | refine Runs.region (id := 0) ?_ | refine Runs.region (id := 1) ?_ | refine Runs.region (id := 2) ?_ | ((with_reducible refine Runs.isC ?_); refine Runs.cond rfl (zc ?_) (zc ?_) <;> intro hc <;> (try (first | contradiction | (exfalso; omega; done) | (have : hc = trivial := rfl; clear this; clear hc))))) | ((with_reducible refine r_is ?_); first | refine yr ?_) | fail)
  refine Runs.loopI (fun k : Nat => ms.length - k) (fun k => k ≤ ms.length)
    (fun k => ⟨[.any, .sl f (ss.map .i), .ptr 2 0 0, .any, .any, .own 11, .any, .any, .any, .any, .any, .any, .any, .sl false (ms.map mbV), .i (ms.length : Nat), .i (k : Nat), .any, .any, .any, .any, .any, .any, .any, .any, .any, .any, .any, .any, .any, .any, .any], [(11, .lst 4 1 ((inK (inSrv ss) ms k).map .b)), (2, .var 79 (viV ⟨ms, ru⟩))]⟩) 0 zo ?_ ?_
  · show St.Le _ ⟨_, [(11, .lst 4 1 ((List.replicate ms.length false).map .b)), (2, .var 79 (viV ⟨ms, ru⟩))]⟩
    (refine St.Le.clean zR zU zV)
  intro k hk ih
  have hkl := inK_len (inSrv ss) ms k
  by_cases hlt : k < ms.length
  · have hS := contains_ints f ss (ms.getD k default).server
    have hst : inK (inSrv ss) ms (k + 1) = (inK (inSrv ss) ms k).set k (ss.contains (ms.getD k default).server) := rfl
    generalize ss.contains (ms.getD k default).server = b at *
    generalize inK (inSrv ss) ms k = acc at *
    repeat' (first | refine yw ?_ | ((with_reducible refine Runs.is ?_); first | refine Runs.region (id := 3) ?_ | refine Runs.region (id := 4) ?_ | refine Runs.region (id := 5) ?_ | refine Runs.region (id := 6) ?_ | ((with_reducible refine Runs.isC ?_); refine Runs.cond rfl (zc ?_) (zc ?_) <;> intro hc <;> (try (first | contradiction | (exfalso; omega; done) | (have : hc = trivial := rfl; clear this; clear hc))))) | ((with_reducible refine r_is ?_); first | refine yr ?_ | (refine r_fn rfl (hS) HbF.h zL2 zD ?_; refine r_nn zN zH ?_)) | fail)
    refine ih (k + 1) _ zo zo ?_
    rw [hst]
    (refine St.Le.clean zR zU zV)
  · obtain rfl : k = ms.length := by omega
    generalize inK (inSrv ss) ms ms.length = acc at *
    repeat' (first | refine yw ?_ | ((with_reducible refine Runs.is ?_); first | refine Runs.region (id := 3) ?_ | ((with_reducible refine Runs.isC ?_); refine Runs.cond rfl (zc ?_) (zc ?_) <;> intro hc <;> (try (first | contradiction | (exfalso; omega; done) | (have : hc = trivial := rfl; clear this; clear hc))))) | ((with_reducible refine r_is ?_); first | refine yr ?_) | fail)
    (refine Runs.weaken (St.Le.freeze_lst 11 rfl) ?_; refine yf ?_)
    repeat' (first | refine yw ?_ | ((with_reducible refine Runs.is ?_); first | refine Runs.region (id := 7) ?_ | ((with_reducible refine Runs.isC ?_); refine Runs.cond rfl (zc ?_) (zc ?_) <;> intro hc <;> (try (first | contradiction | (exfalso; omega; done) | (have : hc = trivial := rfl; clear this; clear hc))))) | ((with_reducible refine r_is ?_); first | refine yr ?_ | (refine r_fn rfl (hC) HbF.h zL2 zD ?_; refine r_nn zN zH ?_)) | fail)
    (refine Runs.ret1 Tryz.func102 rfl zM zD ?_; try exact zX)
end Go.Proofs
namespace Go.Proofs
open Go.AM
attribute [local irreducible] AM.evalR AM.evalD AM.Runs AM.valK AM.dK AM.opK AM.stepR AM.CallS AM.St.Le
theorem any_contains (l : List Int) (x : Int) : (l.any fun y => decide (y = x)) = l.contains x := by
  rw [Bool.eq_iff_iff, List.any_eq_true, List.contains_iff_mem]
  constructor
  · rintro ⟨y, hy, e⟩; rw [← of_decide_eq_true e]; exact hy
  · intro h; exact ⟨x, h, decide_eq_true rfl⟩
theorem ref_In2 (f : Bool) (l : List Int) (n : Int) : AM.Fn Tryz.prog 47 [.sl f (l.map .i), .i n] (.b (l.contains n)) := by
  rw [← any_contains]; exact ref_In f l n
theorem map_getD {α β : Type} [Inhabited α] [Inhabited β] (p : α → β) {l : List α} {i : Nat} (h : i < l.length) : (l.map p).getD i default = p (l.getD i default) := by
  rw [List.getD_eq_getElem?_getD, List.getElem?_map, List.getElem?_eq_getElem h, List.getD_eq_getElem?_getD, List.getElem?_eq_getElem h]; rfl
theorem range_all {K : Nat} {q : Nat → Bool} {k : Nat} (hk : k < K) (h : q k = false) : (List.range K).all q = false := by
  cases hx : (List.range K).all q
  · rfl
  · rw [List.all_eq_true.1 hx k (List.mem_range.2 hk)] at h; cases h
theorem ref_grid (f : Bool) (v : View) (ss : List Int) (hm : v.members.length ≤ 1000) (hc : 1 ≤ v.rule.columns ∧ v.rule.columns ≤ 1000) : AM.Fn Tryz.prog 105 [viV v, .sl f (ss.map .i)] (.b (gridB v.rule.columns (v.members.map (inSrv ss)))) := by
  have hgo : ∀ e, gridB v.rule.columns (v.members.map (inSrv ss)) = e → AM.Fn Tryz.prog 105 [viV v, .sl f (ss.map .i)] (.b e) := by
    intro e he
    obtain ⟨ms, ⟨rk, co, fa⟩⟩ := v
    dsimp only at he hm hc
    obtain ⟨c, rfl⟩ : ∃ c : Nat, co = (c : Int) := ⟨co.toNat, by omega⟩
    unfold gridB at he
    rw [if_neg zo, Int.toNat_natCast] at he
    have hbl : (ms.map (inSrv ss)).length = ms.length := List.length_map _
    have hbg := fun i (h : i < ms.length) => map_getD (inSrv ss) h
    generalize ms.map (inSrv ss) = bs at *
    rw [hbl] at he
    have hK := fun k => gK_lt (c := c) (len := ms.length) (k := k) zo
    generalize gK c ms.length = K at *
    (refine spec_of_runs Tryz.func105 rfl ?_; simp only [Tryz.f105]; refine ys ?_)
    repeat' (first | refine yw ?_ | ((with_reducible refine Runs.is ?_); first | refine Runs.region (id := 0) ?_ | refine Runs.region (id := 1) ?_ | refine Runs.region (id := 2) ?_ | ((with_reducible refine Runs.isC ?_); refine Runs.cond rfl (zc ?_) (zc ?_) <;> intro hc <;> (try (first | contradiction | (exfalso; omega; done) | (have : hc = trivial := rfl; clear this; clear hc))))) | ((with_reducible refine r_is ?_); first | refine yr ?_) | fail)
    refine Runs.loopI (fun k : Nat => K + 1 - k) (fun k => k ≤ K ∧ ∀ j, j < k → someB c bs j = true)
      (fun k => ⟨[.any, .sl f (ss.map .i), .ptr 2 0 0, .any, .any, .b ((List.range k).any (fullB c bs)), .i ((k * c : Nat) : Int), .any, .any, .any, .any, .any, .any, .any, .any, .any, .any, .any, .any, .any, .any, .any, .any, .any, .any, .any, .any, .any, .any, .any, .any, .any, .any, .any, .any, .any, .any, .any, .any, .any, .any, .any, .any, .any, .any, .any, .any, .any, .any, .any, .any, .any, .any, .any, .any, .any], [(2, .var 79 (viV ⟨ms, ⟨rk, (c : Nat), fa⟩⟩))]⟩) 0 ⟨Nat.zero_le _, fun j h => by omega⟩ ?_ ?_
    · rw [Nat.zero_mul]
      (refine St.Le.clean zR zU zV)
    rintro k ⟨hk, hall⟩ ih
    have e3 : (k + 1) * c = k * c + c := Nat.succ_mul k c
    have hkk := hK k
    have hr1 : (List.range (k + 1)).any (fullB c bs) = ((List.range k).any (fullB c bs) || fullB c bs k) := by rw [List.range_succ]; simp
    have hfull : fullB c bs k = decide (cntB (gRow c bs k) = min c (ms.length - k * c)) := by unfold fullB; rw [gRow_len, hbl]
    have hsome : someB c bs k = decide (cntB (gRow c bs k) ≠ 0) := rfl
    have hrow : gRow c bs k = (bs.drop (k * c)).take c := rfl
    by_cases hlt : k * c < ms.length
    · have hkK := hkk.2 hlt
      generalize (List.range k).any (fullB c bs) = wb at *
      generalize k * c = a at *
      repeat' (first | refine yw ?_ | ((with_reducible refine Runs.is ?_); first | refine Runs.region (id := 3) ?_ | ((with_reducible refine Runs.isC ?_); refine Runs.cond rfl (zc ?_) (zc ?_) <;> intro hc <;> (try (first | contradiction | (exfalso; omega; done) | (have : hc = trivial := rfl; clear this; clear hc))))) | ((with_reducible refine r_is ?_); first | refine yr ?_) | fail)
      repeat' (first | refine yw ?_ | ((with_reducible refine Runs.is ?_); first | refine Runs.region (id := 5) ?_ | refine Runs.region (id := 6) ?_ | refine Runs.region (id := 7) ?_ | ((with_reducible refine Runs.isC ?_); refine Runs.cond rfl (zc ?_) (zc ?_) <;> intro hc <;> (try (first | contradiction | (exfalso; omega; done) | (have : hc = trivial := rfl; clear this; clear hc))))) | ((with_reducible refine r_is ?_); first | refine yr ?_) | fail)
      rw [show (if ((ms.length : Nat) : Int) < (a : Int) + (c : Int) then ((ms.length : Nat) : Int) else (a : Int) + (c : Int)) = ((a + min c (ms.length - a) : Nat) : Int) by split <;> omega]
      refine Runs.loopI (fun j : Nat => min c (ms.length - a) - j) (fun j => j ≤ min c (ms.length - a))
        (fun j => ⟨[.any, .sl f (ss.map .i), .ptr 2 0 0, .any, .any, .b wb, .i (a : Nat), .i (cntB ((bs.drop a).take j) : Nat), .i ((a + min c (ms.length - a) : Nat) : Int), .i ((a + j : Nat) : Int), .any, .any, .any, .any, .any, .any, .any, .any, .any, .any, .any, .any, .any, .any, .any, .any, .any, .any, .any, .any, .any, .any, .any, .any, .any, .any, .any, .any, .any, .any, .any, .any, .any, .any, .any, .any, .any, .any, .any, .any, .any, .any, .any, .any, .any, .any], [(2, .var 79 (viV ⟨ms, ⟨rk, (c : Nat), fa⟩⟩))]⟩) 0 (Nat.zero_le _) ?_ ?_
      · (refine St.Le.clean zR zU zV)
      intro j hj ihj
      have hcl : cntB ((bs.drop a).take j) ≤ j := Nat.le_trans (cntB_le _) (by rw [List.length_take]; omega)
      have hst : j < min c (ms.length - a) → cntB ((bs.drop a).take (j + 1)) = cntB ((bs.drop a).take j) + (if inSrv ss (ms.getD (a + j) default) = true then 1 else 0) := fun h => by
        rw [cntB_take (by rw [List.length_drop]; omega), ← hbg (a + j) zo]
        congr 2
        rw [List.getD_eq_getElem?_getD, List.getD_eq_getElem?_getD, List.getElem?_drop]
      have hfin : j = min c (ms.length - a) → cntB ((bs.drop a).take j) = cntB (gRow c bs k) := fun h => by
        rw [hrow, h]
        congr 1
        rw [List.take_eq_take_iff, List.length_drop, hbl]; omega
      generalize cntB ((bs.drop a).take j) = n at *
      by_cases hjt : j < min c (ms.length - a)
      · have hst2 := hst hjt
        have hI := ref_In2 f ss (ms.getD (a + j) default).server
        change AM.Fn _ _ _ (.b (inSrv ss (ms.getD (a + j) default))) at hI
        cases hb : inSrv ss (ms.getD (a + j) default)
        · rw [hb] at hI hst2
          rw [if_neg zd] at hst2
          repeat' (first | refine yw ?_ | ((with_reducible refine Runs.is ?_); first | refine Runs.region (id := 8) ?_ | refine Runs.region (id := 10) ?_ | refine Runs.region (id := 11) ?_ | refine Runs.region (id := 9) ?_ | ((with_reducible refine Runs.isC ?_); refine Runs.cond rfl (zc ?_) (zc ?_) <;> intro hc <;> (try (first | contradiction | (exfalso; omega; done) | (have : hc = trivial := rfl; clear this; clear hc))))) | ((with_reducible refine r_is ?_); first | refine yr ?_ | (refine r_fn rfl (hI) HbF.h zL2 zD ?_; refine r_nn zN zH ?_)) | fail)
          refine ihj (j + 1) _ zo zo ?_
          rw [hst2]
          (refine St.Le.clean zR zU zV)
        · rw [hb] at hI hst2
          rw [if_pos rfl] at hst2
          repeat' (first | refine yw ?_ | ((with_reducible refine Runs.is ?_); first | refine Runs.region (id := 8) ?_ | refine Runs.region (id := 10) ?_ | refine Runs.region (id := 11) ?_ | refine Runs.region (id := 9) ?_ | ((with_reducible refine Runs.isC ?_); refine Runs.cond rfl (zc ?_) (zc ?_) <;> intro hc <;> (try (first | contradiction | (exfalso; omega; done) | (have : hc = trivial := rfl; clear this; clear hc))))) | ((with_reducible refine r_is ?_); first | refine yr ?_ | (refine r_fn rfl (hI) HbF.h zL2 zD ?_; refine r_nn zN zH ?_)) | fail)
          refine ihj (j + 1) _ zo zo ?_
          rw [hst2]
          (refine St.Le.clean zR zU zV)
      · have hn := hfin zo
        subst hn
        repeat' (first | refine yw ?_ | ((with_reducible refine Runs.is ?_); first | refine Runs.region (id := 8) ?_ | ((with_reducible refine Runs.isC ?_); refine Runs.cond rfl (zc ?_) (zc ?_) <;> intro hc <;> (try (first | contradiction | (exfalso; omega; done) | (have : hc = trivial := rfl; clear this; clear hc))))) | ((with_reducible refine r_is ?_); first | refine yr ?_) | fail)
        by_cases h0 : cntB (gRow c bs k) = 0
        · rw [range_all hkK (by rw [hsome]; simp [h0]), Bool.false_and] at he
          subst he
          repeat' (first | refine yw ?_ | ((with_reducible refine Runs.is ?_); first | refine Runs.region (id := 12) ?_ | refine Runs.region (id := 13) ?_ | refine Runs.region (id := 14) ?_ | ((with_reducible refine Runs.isC ?_); refine Runs.cond rfl (zc ?_) (zc ?_) <;> intro hc <;> (try (first | contradiction | (exfalso; omega; done) | (have : hc = trivial := rfl; clear this; clear hc))))) | ((with_reducible refine r_is ?_); first | refine yr ?_ | ((with_reducible refine r_gd ?_); (first | refine r_guardPf rfl rfl ?_ ?_ | refine r_guardNf rfl rfl ?_ ?_ | refine r_guard rfl rfl ?_ ?_) <;> intro hG <;> (try (exfalso; omega; done)) <;> refine r_nn zN zH ?_)) | fail)
          (refine Runs.ret1 Tryz.func105 rfl zM zD ?_; try exact zX)
        · have hs : someB c bs k = true := by rw [hsome]; simp [h0]
          have hall2 : ∀ j, j < k + 1 → someB c bs j = true := fun j hj => by
            by_cases q : j = k
            · rw [q]; exact hs
            · exact hall j zo
          cases wb
          · rw [Bool.false_or, hfull, show decide (cntB (gRow c bs k) = min c (ms.length - a)) = decide (((cntB (gRow c bs k) : Nat) : Int) = ((a + min c (ms.length - a) : Nat) : Int) - (a : Int)) from decide_eq_decide.2 zo] at hr1
            repeat' (first | refine yw ?_ | ((with_reducible refine Runs.is ?_); first | refine Runs.region (id := 12) ?_ | refine Runs.region (id := 13) ?_ | refine Runs.region (id := 14) ?_ | ((with_reducible refine Runs.isC ?_); refine Runs.cond rfl (zc ?_) (zc ?_) <;> intro hc <;> (try (first | contradiction | (exfalso; omega; done) | (have : hc = trivial := rfl; clear this; clear hc))))) | ((with_reducible refine r_is ?_); first | refine yr ?_ | ((with_reducible refine r_gd ?_); (first | refine r_guardPf rfl rfl ?_ ?_ | refine r_guardNf rfl rfl ?_ ?_ | refine r_guard rfl rfl ?_ ?_) <;> intro hG <;> (try (exfalso; omega; done)) <;> refine r_nn zN zH ?_)) | fail)
            repeat' (first | refine yw ?_ | ((with_reducible refine Runs.is ?_); first | refine Runs.region (id := 4) ?_ | ((with_reducible refine Runs.isC ?_); refine Runs.cond rfl (zc ?_) (zc ?_) <;> intro hc <;> (try (first | contradiction | (exfalso; omega; done) | (have : hc = trivial := rfl; clear this; clear hc))))) | ((with_reducible refine r_is ?_); first | refine yr ?_) | fail)
            refine ih (k + 1) _ ⟨by omega, hall2⟩ zo ?_
            rw [hr1, e3]
            (refine St.Le.clean zR zU zV)
          · rw [Bool.true_or] at hr1
            repeat' (first | refine yw ?_ | ((with_reducible refine Runs.is ?_); first | refine Runs.region (id := 12) ?_ | refine Runs.region (id := 13) ?_ | refine Runs.region (id := 14) ?_ | ((with_reducible refine Runs.isC ?_); refine Runs.cond rfl (zc ?_) (zc ?_) <;> intro hc <;> (try (first | contradiction | (exfalso; omega; done) | (have : hc = trivial := rfl; clear this; clear hc))))) | ((with_reducible refine r_is ?_); first | refine yr ?_ | ((with_reducible refine r_gd ?_); (first | refine r_guardPf rfl rfl ?_ ?_ | refine r_guardNf rfl rfl ?_ ?_ | refine r_guard rfl rfl ?_ ?_) <;> intro hG <;> (try (exfalso; omega; done)) <;> refine r_nn zN zH ?_)) | fail)
            repeat' (first | refine yw ?_ | ((with_reducible refine Runs.is ?_); first | refine Runs.region (id := 4) ?_ | ((with_reducible refine Runs.isC ?_); refine Runs.cond rfl (zc ?_) (zc ?_) <;> intro hc <;> (try (first | contradiction | (exfalso; omega; done) | (have : hc = trivial := rfl; clear this; clear hc))))) | ((with_reducible refine r_is ?_); first | refine yr ?_) | fail)
            refine ih (k + 1) _ ⟨by omega, hall2⟩ zo ?_
            rw [hr1, e3]
            (refine St.Le.clean zR zU zV)
    · have hkK : k = K := by
        have : ¬ k < K := fun q => hlt (hkk.1 q)
        omega
      subst hkK
      rw [List.all_eq_true.2 (fun j hj => hall j (List.mem_range.1 hj)), Bool.true_and] at he
      rw [he]
      generalize k * c = a at *
      repeat' (first | refine yw ?_ | ((with_reducible refine Runs.is ?_); first | refine Runs.region (id := 3) ?_ | ((with_reducible refine Runs.isC ?_); refine Runs.cond rfl (zc ?_) (zc ?_) <;> intro hc <;> (try (first | contradiction | (exfalso; omega; done) | (have : hc = trivial := rfl; clear this; clear hc))))) | ((with_reducible refine r_is ?_); first | refine yr ?_) | fail)
      repeat' (first | refine yw ?_ | ((with_reducible refine Runs.is ?_); first | refine Runs.region (id := 15) ?_ | ((with_reducible refine Runs.isC ?_); refine Runs.cond rfl (zc ?_) (zc ?_) <;> intro hc <;> (try (first | contradiction | (exfalso; omega; done) | (have : hc = trivial := rfl; clear this; clear hc))))) | ((with_reducible refine r_is ?_); first | refine yr ?_) | fail)
      (refine Runs.ret1 Tryz.func105 rfl zM zD ?_; try exact zX)
  exact hgo _ rfl
theorem ref_IsQuorum (f : Bool) (v : View) (ss : List Int) (hm : Light v.members) (hr : RuleOK v.rule) : AM.Fn Tryz.prog 42 [viV v, .sl f (ss.map .i)] (.b (quoB v (v.members.map (inSrv ss)))) := by
  have hgo : ∀ e, quoB v (v.members.map (inSrv ss)) = e → AM.Fn Tryz.prog 42 [viV v, .sl f (ss.map .i)] (.b e) := by
    intro e he
    have hG : v.rule.kind = 3 → AM.Fn Tryz.prog 105 [viV v, .sl f (ss.map .i)] (.b (gridB v.rule.columns (v.members.map (inSrv ss)))) := fun h => ref_grid f v ss hm.1 (by have := hr.2.1 h; omega)
    obtain ⟨ms, ⟨rk, co, fa⟩⟩ := v
    unfold quoB at he
    obtain ⟨r1, r2, r3, r4, r5⟩ := hr
    dsimp only at he hm hG r1 r2 r3 r4 r5
    have hbl : (ms.map (inSrv ss)).length = ms.length := List.length_map _
    have hbg := fun i (h : i < ms.length) => map_getD (inSrv ss) h
    have hlen := hm.1
    generalize gridB co (ms.map (inSrv ss)) = gb at *
    generalize ms.map (inSrv ss) = bs at *
    (refine spec_of_runs Tryz.func42 rfl ?_; simp only [Tryz.f42]; refine ys ?_)
    repeat' (first | refine yw ?_ | ((with_reducible refine Runs.is ?_); first | refine Runs.region (id := 0) ?_ | refine Runs.region (id := 1) ?_ | refine Runs.region (id := 2) ?_ | ((with_reducible refine Runs.isC ?_); refine Runs.cond rfl (zc ?_) (zc ?_) <;> intro hc <;> (try (first | contradiction | (exfalso; omega; done) | (have : hc = trivial := rfl; clear this; clear hc))))) | ((with_reducible refine r_is ?_); first | refine yr ?_) | fail)
    refine Runs.loopI (fun k : Nat => ms.length - k) (fun k => k ≤ ms.length)
      (fun k => ⟨[.any, .sl f (ss.map .i), .ptr 2 0 0, .any, .any, .i (ms.length : Nat), .i (cntB (bs.take k) : Nat), .i (wAllK ms k), .i (wInK ms bs k), .i (k : Nat), .any, .any, .any, .any, .any, .any, .any, .any, .any, .any, .any, .any, .any, .any, .any, .any, .any, .any, .any, .any, .any, .any, .any, .any, .any, .any, .any, .any, .any, .any, .any, .any, .any, .any, .any, .any, .any, .any, .any, .any, .any, .any, .any, .any, .any, .any, .any, .any, .any, .any, .any, .any, .any, .any, .any, .any, .any, .any, .any, .any, .any, .any, .any, .any, .any, .any, .any, .any, .any, .any, .any, .any], [(2, .var 79 (viV ⟨ms, ⟨rk, co, fa⟩⟩))]⟩) 0 (Nat.zero_le _) ?_ ?_
    · (refine St.Le.clean zR zU zV)
    intro k hk ih
    have b1 := wInK_bd hm bs k hk
    have b2 := wAllK_bd hm k hk
    have b3 : cntB (bs.take k) ≤ k := Nat.le_trans (cntB_le _) (by rw [List.length_take]; omega)
    by_cases hlt : k < ms.length
    · have hw := hm.2 _ (getD_in hlt)
      have s1 : wInK ms bs (k + 1) = wInK ms bs k + (if bs.getD k default = true then (ms.getD k default).weight else 0) := rfl
      have s2 : wAllK ms (k + 1) = wAllK ms k + (ms.getD k default).weight := rfl
      have s3 := cntB_take (l := bs) (i := k) zo
      rw [hbg k hlt] at s1 s3
      have hI := ref_In2 f ss (ms.getD k default).server
      change AM.Fn _ _ _ (.b (inSrv ss (ms.getD k default))) at hI
      generalize wInK ms bs k = x at *
      generalize wAllK ms k = y at *
      generalize cntB (bs.take k) = z at *
      cases hb : inSrv ss (ms.getD k default)
      · rw [hb] at hI s1 s3
        rw [if_neg zd] at s1 s3
        repeat' (first | refine yw ?_ | ((with_reducible refine Runs.is ?_); first | refine Runs.region (id := 3) ?_ | refine Runs.region (id := 5) ?_ | refine Runs.region (id := 6) ?_ | refine Runs.region (id := 7) ?_ | refine Runs.region (id := 8) ?_ | refine Runs.region (id := 4) ?_ | ((with_reducible refine Runs.isC ?_); refine Runs.cond rfl (zc ?_) (zc ?_) <;> intro hc <;> (try (first | contradiction | (exfalso; omega; done) | (have : hc = trivial := rfl; clear this; clear hc))))) | ((with_reducible refine r_is ?_); first | refine yr ?_ | (refine r_fn rfl (hI) HbF.h zL2 zD ?_; refine r_nn zN zH ?_)) | fail)
        refine ih (k + 1) _ zo zo ?_
        rw [s1, s2, s3, Int.add_zero]
        (refine St.Le.clean zR zU zV)
      · rw [hb] at hI s1 s3
        rw [if_pos rfl] at s1 s3
        repeat' (first | refine yw ?_ | ((with_reducible refine Runs.is ?_); first | refine Runs.region (id := 3) ?_ | refine Runs.region (id := 5) ?_ | refine Runs.region (id := 6) ?_ | refine Runs.region (id := 7) ?_ | refine Runs.region (id := 8) ?_ | refine Runs.region (id := 4) ?_ | ((with_reducible refine Runs.isC ?_); refine Runs.cond rfl (zc ?_) (zc ?_) <;> intro hc <;> (try (first | contradiction | (exfalso; omega; done) | (have : hc = trivial := rfl; clear this; clear hc))))) | ((with_reducible refine r_is ?_); first | refine yr ?_ | (refine r_fn rfl (hI) HbF.h zL2 zD ?_; refine r_nn zN zH ?_)) | fail)
        refine ih (k + 1) _ zo zo ?_
        rw [s1, s2, s3]
        (refine St.Le.clean zR zU zV)
    · obtain rfl : k = ms.length := by omega
      have hcb : cntB (bs.take ms.length) = cntB bs := by rw [List.take_of_length_le zo]
      rw [hcb] at b3
      rw [hcb]
      clear hcb ih hbg
      generalize wInK ms bs ms.length = x at *
      generalize wAllK ms ms.length = y at *
      generalize cntB bs = z at *
      repeat' (first | refine yw ?_ | ((with_reducible refine Runs.is ?_); first | refine Runs.region (id := 3) ?_ | ((with_reducible refine Runs.isC ?_); refine Runs.cond rfl (zc ?_) (zc ?_) <;> intro hc <;> (try (first | contradiction | (exfalso; omega; done) | (have : hc = trivial := rfl; clear this; clear hc))))) | ((with_reducible refine r_is ?_); first | refine yr ?_) | fail)
      by_cases h0 : ms.length = 0
      · rw [if_pos h0] at he
        subst he
        repeat' (first | refine yw ?_ | ((with_reducible refine Runs.is ?_); first | refine Runs.region (id := 9) ?_ | refine Runs.region (id := 10) ?_ | ((with_reducible refine Runs.isC ?_); refine Runs.cond rfl (zc ?_) (zc ?_) <;> intro hc <;> (try (first | contradiction | (exfalso; omega; done) | (have : hc = trivial := rfl; clear this; clear hc))))) | ((with_reducible refine r_is ?_); first | refine yr ?_) | fail)
        (refine Runs.ret1 Tryz.func42 rfl zM zD ?_; try exact zX)
      rw [if_neg h0] at he
      by_cases h1 : rk = 1
      · subst h1
        rw [if_pos rfl] at he
        subst he
        repeat' (first | refine yw ?_ | ((with_reducible refine Runs.is ?_); first | refine Runs.region (id := 9) ?_ | refine Runs.region (id := 10) ?_ | refine Runs.region (id := 11) ?_ | refine Runs.region (id := 12) ?_ | ((with_reducible refine Runs.isC ?_); refine Runs.cond rfl (zc ?_) (zc ?_) <;> intro hc <;> (try (first | contradiction | (exfalso; omega; done) | (have : hc = trivial := rfl; clear this; clear hc))))) | ((with_reducible refine r_is ?_); first | refine yr ?_) | fail)
        (refine Runs.ret1 Tryz.func42 rfl zM zD ?_; try exact zX)
      rw [if_neg h1] at he
      by_cases h2 : rk = 2
      · subst h2
        rw [if_pos rfl] at he
        subst he
        repeat' (first | refine yw ?_ | ((with_reducible refine Runs.is ?_); first | refine Runs.region (id := 9) ?_ | refine Runs.region (id := 10) ?_ | refine Runs.region (id := 11) ?_ | refine Runs.region (id := 12) ?_ | refine Runs.region (id := 13) ?_ | refine Runs.region (id := 14) ?_ | ((with_reducible refine Runs.isC ?_); refine Runs.cond rfl (zc ?_) (zc ?_) <;> intro hc <;> (try (first | contradiction | (exfalso; omega; done) | (have : hc = trivial := rfl; clear this; clear hc))))) | ((with_reducible refine r_is ?_); first | refine yr ?_) | fail)
        (refine Runs.ret1 Tryz.func42 rfl zM zD ?_; try exact zX)
      rw [if_neg h2] at he
      by_cases h3 : rk = 3
      · subst h3
        rw [if_pos rfl] at he
        subst he
        have hG3 := hG rfl
        clear hG
        repeat' (first | refine yw ?_ | ((with_reducible refine Runs.is ?_); first | refine Runs.region (id := 9) ?_ | refine Runs.region (id := 10) ?_ | refine Runs.region (id := 11) ?_ | refine Runs.region (id := 12) ?_ | refine Runs.region (id := 13) ?_ | refine Runs.region (id := 14) ?_ | refine Runs.region (id := 15) ?_ | refine Runs.region (id := 16) ?_ | refine Runs.region (id := 17) ?_ | ((with_reducible refine Runs.isC ?_); refine Runs.cond rfl (zc ?_) (zc ?_) <;> intro hc <;> (try (first | contradiction | (exfalso; omega; done) | (have : hc = trivial := rfl; clear this; clear hc))))) | ((with_reducible refine r_is ?_); first | refine yr ?_ | (refine r_fn rfl (hG3) HbF.h zL2 zD ?_; refine r_nn zN zH ?_)) | fail)
        (refine Runs.ret1 Tryz.func42 rfl zM zD ?_; try exact zX)
      rw [if_neg h3] at he
      obtain rfl : rk = 4 := by omega
      rw [if_pos rfl] at he
      subst he
      have := r4 rfl
      clear hG
      repeat' (first | refine yw ?_ | ((with_reducible refine Runs.is ?_); first | refine Runs.region (id := 9) ?_ | refine Runs.region (id := 10) ?_ | refine Runs.region (id := 11) ?_ | refine Runs.region (id := 12) ?_ | refine Runs.region (id := 13) ?_ | refine Runs.region (id := 14) ?_ | refine Runs.region (id := 15) ?_ | refine Runs.region (id := 16) ?_ | ((with_reducible refine Runs.isC ?_); refine Runs.cond rfl (zc ?_) (zc ?_) <;> intro hc <;> (try (first | contradiction | (exfalso; omega; done) | (have : hc = trivial := rfl; clear this; clear hc))))) | ((with_reducible refine r_is ?_); first | refine yr ?_) | fail)
      (refine Runs.ret1 Tryz.func42 rfl zM zD ?_; try exact zX)
  exact hgo _ rfl
end Go.Proofs
