/- Contracts of functions and plain laws: W81, W82, W75, W83, W86, W94, W97, W92. -/
import Derived.Test.YtmgnkabnlcapbaaG3
set_option linter.unusedVariables false
set_option linter.unusedSimpArgs false
set_option maxRecDepth 8000
set_option maxHeartbeats 4000000
set_option pp.deepTerms false
set_option pp.deepTerms.threshold 6
namespace Go.Proofs
open Go.AM
attribute [local irreducible] AM.evalR AM.evalD AM.Runs AM.valK AM.dK AM.opK AM.stepR AM.CallS AM.St.Le
theorem bs_spec (k : Nat → Int) (i j : Nat) (hij : i ≤ j) (hm : ∀ s t, i ≤ s → s ≤ t → t < j → k t < 0 → k s < 0) :
    (i ≤ bs k i j ∧ bs k i j ≤ j) ∧ (∀ t, i ≤ t → t < bs k i j → k t < 0) ∧ ∀ t, bs k i j ≤ t → t < j → ¬ k t < 0 := by
  by_cases h : i < j
  · rw [bs.eq_1, dif_pos h]
    by_cases h2 : k ((i + j) / 2) < 0
    · rw [if_pos h2]
      obtain ⟨⟨a1, a2⟩, a3, a4⟩ := bs_spec k ((i + j) / 2 + 1) j zo (fun s t h1 h3 h4 => hm s t zo h3 h4)
      refine ⟨⟨by omega, a2⟩, fun t h5 h6 => ?_, a4⟩
      by_cases h7 : t ≤ (i + j) / 2
      · exact hm t _ h5 h7 zo h2
      · exact a3 t zo h6
    · rw [if_neg h2]
      obtain ⟨⟨a1, a2⟩, a3, a4⟩ := bs_spec k i ((i + j) / 2) zo (fun s t h1 h3 h4 => hm s t h1 h3 zo)
      refine ⟨⟨a1, by omega⟩, a3, fun t h5 h6 => ?_⟩
      by_cases h7 : t < (i + j) / 2
      · exact a4 t h5 h7
      · intro h8
        exact h2 (hm _ t zo zo h6 h8)
  · rw [bs.eq_1, dif_neg h]
    exact ⟨⟨Nat.le_refl _, hij⟩, fun t h1 h2 => by omega, fun t h1 h2 => by omega⟩
termination_by j - i
abbrev StrictI (l : List Int) : Prop := l.Pairwise (· < ·)
def insRec (n : Int) : List Int → List Int
  | [] => [n]
  | y :: ys => if y = n then y :: ys else if n < y then n :: y :: ys else y :: insRec n ys
theorem mem_insRec (n x : Int) : ∀ l, x ∈ insRec n l ↔ x ∈ l ∨ x = n
  | [] => by simp [insRec]
  | y :: ys => by
    rw [insRec]
    split
    · rename_i h; subst h; simp; intro h; exact .inl h
    · split
      · simp [or_comm]
      · rw [List.mem_cons, mem_insRec n x ys, List.mem_cons, or_assoc]
theorem insRec_strict (n : Int) : ∀ {l : List Int}, StrictI l → StrictI (insRec n l)
  | [], _ => by simp [insRec]
  | y :: ys, h => by
    replace h := List.pairwise_cons.1 h
    rw [insRec]
    split
    · exact List.pairwise_cons.2 h
    · split
      · refine List.pairwise_cons.2 ⟨fun z hz => ?_, List.pairwise_cons.2 h⟩
        rcases List.mem_cons.1 hz with rfl | hz
        · assumption
        · have := h.1 z hz; omega
      · refine List.pairwise_cons.2 ⟨fun z hz => ?_, insRec_strict n h.2⟩
        rcases (mem_insRec n z ys).1 hz with hz | rfl
        · exact h.1 z hz
        · omega
theorem insFold_put (n : Int) : ∀ (l acc : List Int), (∀ x ∈ l, x ≠ n) → l.foldl (insStep n) (acc, true) = (acc ++ l, true)
  | [], acc, _ => by simp
  | y :: ys, acc, h => by
    rw [List.foldl_cons, insStep_d (h y (by simp)), insFold_put n ys _ (fun x hx => h x (by simp [hx]))]
    simp
theorem insFold_rec (n : Int) : ∀ (l acc : List Int), StrictI l → (let s := l.foldl (insStep n) (acc, false); if s.2 = false then s.1 ++ [n] else s.1) = acc ++ insRec n l
  | [], acc, _ => by simp [insRec]
  | y :: ys, acc, h => by
    replace h := List.pairwise_cons.1 h
    rw [List.foldl_cons, insRec]
    by_cases e : y = n
    · rw [insStep_b zo e, if_pos e, insFold_put n ys _ (fun x hx => by have := h.1 x hx; omega)]
      simp [e]
    · by_cases g : n < y
      · rw [insStep_a zo e, if_neg e, if_pos g, insFold_put n ys _ (fun x hx => by have := h.1 x hx; omega)]
        simp
      · rw [insStep_c zo e, if_neg e, if_neg g, insFold_rec n ys _ h.2]
        simp
theorem insR_rec {l : List Int} (h : StrictI l) (n : Int) : insR l n = insRec n l := by
  have := insFold_rec n l [] h
  simpa [insR] using this
theorem insRec_append (n : Int) : ∀ (a b : List Int), (∀ x ∈ a, x < n) → insRec n (a ++ b) = a ++ insRec n b
  | [], b, _ => rfl
  | y :: a, b, h => by
    have := h y (by simp)
    rw [List.cons_append, insRec, if_neg zo, if_neg zo, insRec_append n a b (fun x hx => h x (by simp [hx]))]
    rfl
theorem strict_getD {l : List Int} (h : StrictI l) {i j : Nat} (hij : i < j) (hj : j < l.length) : l.getD i default < l.getD j default := by
  have := (List.pairwise_iff_getElem.1 h) i j zo hj hij
  rw [List.getD_eq_getElem?_getD, List.getD_eq_getElem?_getD, List.getElem?_eq_getElem hj, List.getElem?_eq_getElem (show i < l.length by omega)]
  exact this
theorem mem_take_getD {α : Type} [Inhabited α] {l : List α} {r : Nat} {x : α} (h : x ∈ l.take r) : ∃ t, t < r ∧ t < l.length ∧ l.getD t default = x := by
  obtain ⟨t, ht, e⟩ := List.mem_iff_getElem.1 h
  rw [List.length_take] at ht
  refine ⟨t, by omega, by omega, ?_⟩
  rw [List.getElem_take] at e
  rw [List.getD_eq_getElem?_getD, List.getElem?_eq_getElem zo]; exact e
theorem insI_rec {l : List Int} (h : StrictI l) (n : Int) : insI l n = insRec n l := by
  have hs := bs_spec (ltK l n) 0 l.length (Nat.zero_le _) (fun s t _ hst ht hk => by
    rw [ltK_neg] at hk ⊢
    by_cases e : s = t
    · subst e; exact hk
    · have := strict_getD h (show s < t by omega) ht; omega)
  change (0 ≤ bsI l n ∧ bsI l n ≤ l.length) ∧ (∀ t, 0 ≤ t → t < bsI l n → ltK l n t < 0) ∧ (∀ t, bsI l n ≤ t → t < l.length → ¬ ltK l n t < 0) at hs
  obtain ⟨⟨_, h1⟩, h2, h3⟩ := hs
  unfold insI foundI putI
  generalize bsI l n = r at *
  have ha : ∀ x ∈ l.take r, x < n := by
    intro x hx
    obtain ⟨t, ht, _, rfl⟩ := mem_take_getD hx
    exact ltK_neg.1 (h2 t (Nat.zero_le _) ht)
  have key : insRec n l = l.take r ++ insRec n (l.drop r) := by rw [← insRec_append n _ _ ha, List.take_append_drop]
  rw [key]
  by_cases hr : r < l.length
  · have h4 := h3 r (Nat.le_refl _) hr
    rw [ltK_neg] at h4
    rw [drop_getD hr, insRec]
    by_cases e : l.getD r default = n
    · rw [decide_eq_true ⟨hr, e⟩, if_pos rfl, if_pos e, ← drop_getD hr, List.take_append_drop]
    · rw [decide_eq_false (fun q => e q.2), if_neg zd, if_neg e, if_pos zo]
  · rw [decide_eq_false (fun q => hr q.1), if_neg zd, List.drop_of_length_le zo, insRec]
theorem insFoldl {f g : List Int → Int → List Int} (hf : ∀ l n, StrictI l → f l n = insRec n l) (hg : ∀ l n, StrictI l → g l n = insRec n l) : ∀ (b : List Int) {a : List Int}, StrictI a → b.foldl f a = b.foldl g a ∧ StrictI (b.foldl g a)
  | [], a, h => ⟨rfl, h⟩
  | n :: b, a, h => by
    have h2 := insRec_strict n h
    rw [List.foldl_cons, List.foldl_cons, hf a n h, hg a n h]
    exact insFoldl hf hg b h2
theorem unionI_R {a : List Int} (h : StrictI a) (b : List Int) : unionI a b = b.foldl insR a ∧ StrictI (b.foldl insR a) := insFoldl (fun l n h => insI_rec h n) (fun l n h => insR_rec h n) b h
abbrev StrictW (l : List WeightEntry) : Prop := l.Pairwise (fun a b => a.server < b.server)
def weighRec (w : WeightEntry) : List WeightEntry → List WeightEntry
  | [] => [w]
  | y :: ys => if y.server = w.server then (if laterB w y = true then w else y) :: ys else if w.server < y.server then w :: y :: ys else y :: weighRec w ys
theorem mem_weighRec (w x : WeightEntry) : ∀ l, x ∈ weighRec w l → x ∈ l ∨ x = w
  | [] => by simp [weighRec]
  | y :: ys => by
    rw [weighRec]
    intro h
    split at h
    · split at h
      · rcases List.mem_cons.1 h with h | h
        · exact .inr h
        · exact .inl (by simp [h])
      · exact .inl h
    · split at h
      · rcases List.mem_cons.1 h with h | h
        · exact .inr h
        · exact .inl h
      · rcases List.mem_cons.1 h with h | h
        · exact .inl (by simp [h])
        · rcases mem_weighRec w x ys h with h | h
          · exact .inl (by simp [h])
          · exact .inr h
theorem weighRec_strict (w : WeightEntry) : ∀ {l : List WeightEntry}, StrictW l → StrictW (weighRec w l)
  | [], _ => by simp [weighRec]
  | y :: ys, h => by
    replace h := List.pairwise_cons.1 h
    rw [weighRec]
    split
    · rename_i e
      split
      · exact List.pairwise_cons.2 ⟨fun z hz => by have := h.1 z hz; omega, h.2⟩
      · exact List.pairwise_cons.2 h
    · split
      · refine List.pairwise_cons.2 ⟨fun z hz => ?_, List.pairwise_cons.2 h⟩
        rcases List.mem_cons.1 hz with rfl | hz
        · assumption
        · have := h.1 z hz; omega
      · refine List.pairwise_cons.2 ⟨fun z hz => ?_, weighRec_strict w h.2⟩
        rcases mem_weighRec w z ys hz with hz | rfl
        · exact h.1 z hz
        · omega
theorem weighFold_put (w : WeightEntry) : ∀ (l acc : List WeightEntry), (∀ x ∈ l, x.server ≠ w.server) → l.foldl (weighStep w) (acc, true) = (acc ++ l, true)
  | [], acc, _ => by simp
  | y :: ys, acc, h => by
    rw [List.foldl_cons, weighStep_e (h y (by simp)), weighFold_put w ys _ (fun x hx => h x (by simp [hx]))]
    simp
theorem weighFold_rec (w : WeightEntry) : ∀ (l acc : List WeightEntry), StrictW l → (let s := l.foldl (weighStep w) (acc, false); if s.2 = false then s.1 ++ [w] else s.1) = acc ++ weighRec w l
  | [], acc, _ => by simp [weighRec]
  | y :: ys, acc, h => by
    replace h := List.pairwise_cons.1 h
    rw [List.foldl_cons, weighRec]
    by_cases e : y.server = w.server
    · cases hl : laterB w y
      · rw [weighStep_b e hl, if_pos e, weighFold_put w ys _ (fun x hx => by have := h.1 x hx; omega)]
        simp
      · rw [weighStep_a e hl, if_pos e, weighFold_put w ys _ (fun x hx => by have := h.1 x hx; omega)]
        simp
    · by_cases g : w.server < y.server
      · rw [weighStep_c e g, if_neg e, if_pos g, weighFold_put w ys _ (fun x hx => by have := h.1 x hx; omega)]
        simp
      · rw [weighStep_d e g, if_neg e, if_neg g, weighFold_rec w ys _ h.2]
        simp
theorem weighR_rec {l : List WeightEntry} (h : StrictW l) (w : WeightEntry) : weighR l w = weighRec w l := by
  have := weighFold_rec w l [] h
  simpa [weighR] using this
theorem weighRec_append (w : WeightEntry) : ∀ (a b : List WeightEntry), (∀ x ∈ a, x.server < w.server) → weighRec w (a ++ b) = a ++ weighRec w b
  | [], b, _ => rfl
  | y :: a, b, h => by
    have := h y (by simp)
    rw [List.cons_append, weighRec, if_neg zo, if_neg zo, weighRec_append w a b (fun x hx => h x (by simp [hx]))]
    rfl
theorem newer_later (a b : WeightEntry) : newerW a b = laterB b a := by
  unfold newerW laterB
  rw [Bool.eq_iff_iff]
  simp only [orI, cmpI]
  (repeat' split) <;> simp <;> omega
theorem strictW_getD {l : List WeightEntry} (h : StrictW l) {i j : Nat} (hij : i < j) (hj : j < l.length) : (l.getD i default).server < (l.getD j default).server := by
  have := (List.pairwise_iff_getElem.1 h) i j zo hj hij
  rw [List.getD_eq_getElem?_getD, List.getD_eq_getElem?_getD, List.getElem?_eq_getElem hj, List.getElem?_eq_getElem (show i < l.length by omega)]
  exact this
theorem weK_neg {l : List WeightEntry} {w : WeightEntry} {t : Nat} : weK l w t < 0 ↔ (l.getD t default).server < w.server := by unfold weK cmpI; (repeat' split) <;> omega
theorem cmpI_zero {x y : Int} : cmpI x y = 0 ↔ x = y := by unfold cmpI; (repeat' split) <;> omega
theorem insW_rec {l : List WeightEntry} (h : StrictW l) (w : WeightEntry) : insW l w = weighRec w l := by
  have hs := bs_spec (weK l w) 0 l.length (Nat.zero_le _) (fun s t _ hst ht hk => by
    rw [weK_neg] at hk ⊢
    by_cases e : s = t
    · subst e; exact hk
    · have := strictW_getD h (show s < t by omega) ht; omega)
  change (0 ≤ bsW l w ∧ bsW l w ≤ l.length) ∧ (∀ t, 0 ≤ t → t < bsW l w → weK l w t < 0) ∧ (∀ t, bsW l w ≤ t → t < l.length → ¬ weK l w t < 0) at hs
  obtain ⟨⟨_, h1⟩, h2, h3⟩ := hs
  unfold insW foundW putW
  generalize bsW l w = r at *
  have ha : ∀ x ∈ l.take r, x.server < w.server := by
    intro x hx
    obtain ⟨t, ht, _, rfl⟩ := mem_take_getD hx
    exact weK_neg.1 (h2 t (Nat.zero_le _) ht)
  have key : weighRec w l = l.take r ++ weighRec w (l.drop r) := by rw [← weighRec_append w _ _ ha, List.take_append_drop]
  rw [key]
  by_cases hr : r < l.length
  · have h4 := h3 r (Nat.le_refl _) hr
    rw [weK_neg] at h4
    by_cases e : (l.getD r default).server = w.server
    · rw [decide_eq_true ⟨hr, cmpI_zero.2 e⟩, if_pos rfl, newer_later]
      cases hl : laterB w (l.getD r default)
      · rw [if_neg zd, drop_getD hr, weighRec, if_pos e, hl, if_neg zd, ← drop_getD hr, List.take_append_drop]
      · rw [if_pos rfl, drop_getD hr, weighRec, if_pos e, hl, if_pos rfl]
        rw [List.set_eq_take_append_cons_drop, if_pos hr]
    · rw [decide_eq_false (fun q => e (cmpI_zero.1 q.2)), if_neg zd, drop_getD hr, weighRec, if_neg e, if_pos zo]
  · rw [decide_eq_false (fun q => hr q.1), if_neg zd, List.drop_of_length_le zo, weighRec]
theorem weighFoldl {f g : List WeightEntry → WeightEntry → List WeightEntry} (hf : ∀ l n, StrictW l → f l n = weighRec n l) (hg : ∀ l n, StrictW l → g l n = weighRec n l) : ∀ (b : List WeightEntry) {a : List WeightEntry}, StrictW a → b.foldl f a = b.foldl g a ∧ StrictW (b.foldl g a)
  | [], a, h => ⟨rfl, h⟩
  | n :: b, a, h => by
    have h2 := weighRec_strict n h
    rw [List.foldl_cons, List.foldl_cons, hf a n h, hg a n h]
    exact weighFoldl hf hg b h2
theorem weightsI_R {a : List WeightEntry} (h : StrictW a) (b : List WeightEntry) : weightsI a b = b.foldl weighR a ∧ StrictW (b.foldl weighR a) := weighFoldl (fun l n h => insW_rec h n) (fun l n h => weighR_rec h n) b h
def SortedS (s : Summary) : Prop := StrictI s.joined ∧ StrictI s.removed ∧ StrictW s.weights
theorem joinS_T {a : Summary} (h : SortedS a) (b : Summary) : joinS a b = joinT a b ∧ SortedS (joinT a b) := by
  obtain ⟨h1, h2, h3⟩ := h
  have e1 := unionI_R h1 b.joined
  have e2 := unionI_R h2 b.removed
  have e3 := weightsI_R h3 b.weights
  refine ⟨?_, e1.2, e2.2, e3.2⟩
  have e4 : joinR a b = pickT a b := by unfold joinR pickT; rw [newer_later]
  unfold joinS joinT
  rw [e1.1, e2.1, e3.1, e4]
def lk (l : List WeightEntry) (x : Int) : Option WeightEntry := l.find? fun w => decide (w.server = x)
theorem lk_cons (w : WeightEntry) (l : List WeightEntry) (x : Int) : lk (w :: l) x = if w.server = x then some w else lk l x := by
  unfold lk
  by_cases h : w.server = x <;> simp [h]
theorem lk_none {l : List WeightEntry} {x : Int} (h : ∀ w ∈ l, w.server ≠ x) : lk l x = none := by
  unfold lk
  rw [List.find?_eq_none]
  intro w hw; simp; exact h w hw
theorem lk_weigh (w : WeightEntry) (x : Int) : ∀ {l : List WeightEntry}, StrictW l → lk (weighRec w l) x = if w.server = x then (match lk l x with | none => some w | some o => some (if laterB w o = true then w else o)) else lk l x
  | [], _ => by simp [weighRec, lk_cons, lk]
  | y :: ys, h => by
    replace h := List.pairwise_cons.1 h
    rw [weighRec]
    by_cases e : y.server = w.server
    · rw [if_pos e]
      by_cases ex : w.server = x
      · have e2 : y.server = x := e.trans ex
        rw [lk_cons y, if_pos e2, if_pos ex]
        cases hl : laterB w y <;> simp [lk_cons, ex, e2, hl]
      · have e2 : ¬ y.server = x := fun q => ex (e ▸ q)
        rw [if_neg ex, lk_cons y, if_neg e2]
        cases hl : laterB w y <;> simp [lk_cons, ex, e2, hl]
    · rw [if_neg e]
      by_cases g : w.server < y.server
      · rw [if_pos g, lk_cons w]
        by_cases ex : w.server = x
        · have hn : lk (y :: ys) x = none := lk_none (by
            intro z hz
            rcases List.mem_cons.1 hz with rfl | hz
            · omega
            · have := h.1 z hz; omega)
          rw [if_pos ex, if_pos ex, hn]
        · rw [if_neg ex, if_neg ex]
      · rw [if_neg g, lk_cons y, lk_cons y, lk_weigh w x h.2]
        by_cases ey : y.server = x
        · rw [if_pos ey, if_pos ey, if_neg (fun q => e zo)]
        · rw [if_neg ey, if_neg ey]
theorem strictW_ext : ∀ {a b : List WeightEntry}, StrictW a → StrictW b → (∀ x, lk a x = lk b x) → a = b
  | [], [], _, _, _ => rfl
  | [], y :: b, _, _, h => by have := h y.server; rw [lk_cons, if_pos rfl] at this; cases this
  | x :: a, [], _, _, h => by have := h x.server; rw [lk_cons, if_pos rfl] at this; cases this
  | x :: a, y :: b, ha, hb, h => by
    replace ha := List.pairwise_cons.1 ha
    replace hb := List.pairwise_cons.1 hb
    have hs : x.server = y.server := by
      rcases Int.lt_trichotomy x.server y.server with e | e | e
      · have h1 := h x.server
        rw [lk_cons, if_pos rfl, lk_none (l := y :: b)] at h1
        · cases h1
        · intro z hz
          rcases List.mem_cons.1 hz with rfl | hz
          · omega
          · have := hb.1 z hz; omega
      · exact e
      · have h1 := h y.server
        rw [lk_cons y, if_pos rfl, lk_none (l := x :: a)] at h1
        · cases h1
        · intro z hz
          rcases List.mem_cons.1 hz with rfl | hz
          · omega
          · have := ha.1 z hz; omega
    have hxy : x = y := by
      have h1 := h x.server
      rw [lk_cons, if_pos rfl, lk_cons, if_pos hs.symm] at h1
      exact Option.some.inj h1
    subst hxy
    congr 1
    refine strictW_ext ha.2 hb.2 fun z => ?_
    by_cases e : x.server = z
    · rw [lk_none (l := a) (fun w hw => by have := ha.1 w hw; omega), lk_none (l := b) (fun w hw => by have := hb.1 w hw; omega)]
    · have h1 := h z
      rw [lk_cons, if_neg e, lk_cons, if_neg e] at h1
      exact h1
theorem weightIn_none {l : List WeightEntry} {x : Int} (h : ∀ w ∈ l, w.server ≠ x) : ∀ n, weightIn l x n = n := by
  unfold weightIn
  induction l with
  | nil => intro n; rfl
  | cons w l ih => intro n; rw [List.foldl_cons, if_neg (h w (by simp)), ih (fun v hv => h v (by simp [hv]))]
theorem weightIn_R (x : Int) : ∀ {l : List WeightEntry}, StrictW l → weightIn l x 1 = weightR l x
  | [], _ => rfl
  | w :: l, h => by
    replace h := List.pairwise_cons.1 h
    rw [weightR]
    by_cases e : w.server = x
    · rw [if_pos e]
      have : weightIn (w :: l) x 1 = weightIn l x w.weight := by unfold weightIn; rw [List.foldl_cons, if_pos e]
      rw [this]
      exact weightIn_none (fun v hv => by have := h.1 v hv; omega) _
    · rw [if_neg e, ← weightIn_R x h.2]
      unfold weightIn; rw [List.foldl_cons, if_neg e]
theorem viewS_T {s : Summary} (h : StrictW s.weights) : viewS s = viewT s := by
  unfold viewS viewT viewMs vAccT
  congr 1
  have h1 : (fun x => !s.removed.contains x) = (fun x => !s.removed.any fun y => decide (y = x)) := by
    funext x
    congr 1
    rw [Bool.eq_iff_iff]
    simp
  rw [h1]
  refine List.map_congr_left fun x _ => ?_
  rw [weightIn_R x h]
end Go.Proofs
namespace Go.Proofs
open Go.AM
attribute [local irreducible] AM.evalR AM.evalD AM.Runs AM.valK AM.dK AM.opK AM.stepR AM.CallS AM.St.Le
theorem getI_setI2 {β : Type} (m : List (Int × β)) (n k : Int) (c : β) : getI (setI m n c) k = if k = n then some c else getI m k := by
  induction m with
  | nil =>
    by_cases h : k = n
    · subst h; simp [setI, getI]
    · have h2 : ¬ n = k := fun q => h q.symm
      simp [setI, getI, h, h2]
  | cons p m ih =>
    obtain ⟨a, b⟩ := p
    simp only [setI]
    by_cases h : a = n
    · subst h
      by_cases hk : k = a
      · subst hk; simp [getI]
      · have h2 : ¬ a = k := fun q => hk q.symm
        simp [getI, hk, h2]
    · by_cases hk : a = k
      · subst hk; simp [getI, h]
      · simp [getI, h, hk, ih]
def Uniq2 (l : List Change) : Prop := l.Pairwise fun a b => ¬ (a.kind = b.kind ∧ a.server = b.server)
theorem uniq_of {l : List Change} (h : ∀ i k : Nat, k < i → i < l.length → ¬ ((l.getD k default).kind = (l.getD i default).kind ∧ (l.getD k default).server = (l.getD i default).server)) : Uniq2 l := by
  unfold Uniq2
  rw [List.pairwise_iff_getElem]
  intro i j hi hj hij
  have := h j i hij hj
  rw [List.getD_eq_getElem?_getD, List.getD_eq_getElem?_getD, List.getElem?_eq_getElem hi, List.getElem?_eq_getElem hj] at this
  exact this
theorem sorted_perm {l m : List Int} (h1 : l.Nodup) (h2 : StrictI m) (h3 : ∀ x, x ∈ l ↔ x ∈ m) : sortI l = m := by
  refine strict_ext ?_ h2 (fun x => by rw [mem_sortI, h3])
  have hn : (sortI l).Nodup := (List.mergeSort_perm l _).nodup_iff.2 h1
  have hl := sortI_le l
  exact (hl.and hn).imp (fun ⟨a, b⟩ => by omega)
structure OfInv (p : Proposal) (done : List Change) (s : Acc) (t : Summary) : Prop where
  sort : SortedS t
  j : s.j.Nodup ∧ (∀ x, x ∈ s.j ↔ ∃ c ∈ done, c.kind = 1 ∧ c.server = x) ∧ ∀ x, x ∈ t.joined ↔ x ∈ s.j
  r : s.r.Nodup ∧ (∀ x, x ∈ s.r ↔ ∃ c ∈ done, c.kind = 2 ∧ c.server = x) ∧ ∀ x, x ∈ t.removed ↔ x ∈ s.r
  w : ∀ x, lk t.weights x = getI s.m x
  e : ∀ x o, getI s.m x = some o → o.server = x ∧ (1 ≤ x ∧ x ≤ 12) ∧ o.admin = p.admin ∧ o.number = p.number ∧ (o.version = 0 ∨ 1 ≤ o.version ∧ ∃ c ∈ done, c.kind = 3 ∧ c.server = x)
  k : ∀ x, (∃ c ∈ done, c.kind = 1 ∧ c.server = x) → (getI s.m x).isSome = true
  ru : s.rule = t.rule ∧ s.ver = t.version ∧ s.adm = t.admin ∧ s.num = t.number
theorem laterB_self (a b : WeightEntry) (h : a.admin = b.admin) (h2 : a.number = b.number) : laterB a b = decide (b.version < a.version) := by
  unfold laterB
  by_cases e : a.version = b.version
  · simp [e, h, h2]
  · simp [e]
theorem of_step {p : Proposal} {done : List Change} {c : Change} {s : Acc} {t : Summary} (hI : OfInv p done s t) (hc : ChangeOK c) (hu : ∀ d ∈ done, ¬ (d.kind = c.kind ∧ d.server = c.server)) : OfInv p (done ++ [c]) (ofStep p s c) (ofTStep p t c) := by
  obtain ⟨⟨s1, s2, s3⟩, ⟨j1, j2, j3⟩, ⟨r1, r2, r3⟩, hw, he, hk, hru⟩ := hI
  have hE : ∀ (q : Change → Prop) , (∃ d ∈ done ++ [c], q d) ↔ (∃ d ∈ done, q d) ∨ q c := by
    intro q
    constructor
    · rintro ⟨d, hd, h⟩
      rcases List.mem_append.1 hd with hd | hd
      · exact .inl ⟨d, hd, h⟩
      · rw [List.mem_singleton.1 hd] at h; exact .inr h
    · rintro (⟨d, hd, h⟩ | h)
      · exact ⟨d, by simp [hd], h⟩
      · exact ⟨c, by simp, h⟩
  have heT : ∀ x o, getI s.m x = some o → o.server = x ∧ (1 ≤ x ∧ x ≤ 12) ∧ o.admin = p.admin ∧ o.number = p.number ∧ (o.version = 0 ∨ 1 ≤ o.version ∧ ∃ d ∈ done ++ [c], d.kind = 3 ∧ d.server = x) := fun x o h => by
    obtain ⟨a1, a2, a3, a4, a5⟩ := he x o h
    exact ⟨a1, a2, a3, a4, a5.imp id fun ⟨b1, d, hd, b2⟩ => ⟨b1, d, by simp [hd], b2⟩⟩
  rcases hc with ⟨h1, h2, h3, h4, h5⟩ | ⟨h1, h2, h3, h4, h5⟩ | ⟨h1, h2, h3, h4, h5⟩ | ⟨h1, h2, h3, h4, h5⟩
  · -- join
    unfold ofStep ofTStep
    rw [if_pos h1, if_pos h1]
    have hnj : c.server ∉ s.j := fun q => by obtain ⟨d, hd, e1, e2⟩ := (j2 _).1 q; exact hu d hd ⟨e1.trans h1.symm, e2⟩
    have hT := insR_rec s1 c.server
    have hTw := weighR_rec s3 ⟨c.server, c.weight, 0, p.admin, p.number⟩
    refine ⟨⟨?_, s2, ?_⟩, ⟨?_, ?_, ?_⟩, ⟨r1, ?_, r3⟩, ?_, ?_, ?_, hru⟩
    · dsimp only; rw [hT]; exact insRec_strict _ s1
    · dsimp only; rw [hTw]; exact weighRec_strict _ s3
    · dsimp only; rw [List.nodup_append]; exact ⟨j1, by simp, fun a ha b hb e => by rw [List.mem_singleton.1 hb] at e; exact hnj (e ▸ ha)⟩
    · intro x; dsimp only; rw [hE (fun d => d.kind = 1 ∧ d.server = x), ← j2 x]; simp [h1, eq_comm]
    · intro x; dsimp only; rw [hT, mem_insRec, j3 x]; simp
    · intro x; rw [hE (fun d => d.kind = 2 ∧ d.server = x), ← r2 x]; simp [h1]
    · intro x
      dsimp only
      rw [hTw, lk_weigh _ _ s3, hw]
      dsimp only
      by_cases e : c.server = x
      · subst e
        rw [if_pos rfl]
        cases ho : getI s.m c.server with
        | none => rw [if_neg (by simp), getI_setI2, if_pos rfl]; unfold wC; rw [h4]
        | some o =>
          rw [if_pos (show (some o).isSome = true from rfl), ho]
          obtain ⟨_, _, e3, e4, e5⟩ := he _ o ho
          have hl : laterB ⟨c.server, c.weight, 0, p.admin, p.number⟩ o = false := by
            rw [laterB_self _ _ e3.symm e4.symm]
            exact decide_eq_false (by dsimp only; omega)
          dsimp only; rw [hl, if_neg zd]
      · rw [if_neg e]
        split
        · rfl
        · rw [getI_setI2, if_neg (fun q => e q.symm)]
    · intro x o ho
      dsimp only at ho
      split at ho
      · exact heT x o ho
      · rw [getI_setI2] at ho
        split at ho
        · rename_i e; subst e
          obtain rfl := Option.some.inj ho
          exact ⟨rfl, h2, rfl, rfl, .inl h4⟩
        · exact heT x o ho
    · intro x hx
      dsimp only
      rw [hE (fun d => d.kind = 1 ∧ d.server = x)] at hx
      split
      · rename_i hs
        rcases hx with hx | ⟨_, hx⟩
        · exact hk x hx
        · rw [← hx]; exact hs
      · rw [getI_setI2]
        split
        · rfl
        · rename_i hne
          rcases hx with hx | ⟨_, hx⟩
          · exact hk x hx
          · exact absurd hx.symm hne
  · -- remove
    unfold ofStep ofTStep
    rw [if_neg zo, if_pos h1, if_neg zo, if_pos h1]
    have hnr : c.server ∉ s.r := fun q => by obtain ⟨d, hd, e1, e2⟩ := (r2 _).1 q; exact hu d hd ⟨e1.trans h1.symm, e2⟩
    have hT := insR_rec s2 c.server
    refine ⟨⟨s1, ?_, s3⟩, ⟨j1, ?_, j3⟩, ⟨?_, ?_, ?_⟩, hw, heT, ?_, hru⟩
    · dsimp only; rw [hT]; exact insRec_strict _ s2
    · intro x; rw [hE (fun d => d.kind = 1 ∧ d.server = x), ← j2 x]; simp [h1]
    · dsimp only; rw [List.nodup_append]; exact ⟨r1, by simp, fun a ha b hb e => by rw [List.mem_singleton.1 hb] at e; exact hnr (e ▸ ha)⟩
    · intro x; dsimp only; rw [hE (fun d => d.kind = 2 ∧ d.server = x), ← r2 x]; simp [h1, eq_comm]
    · intro x; dsimp only; rw [hT, mem_insRec, r3 x]; simp
    · intro x hx
      rw [hE (fun d => d.kind = 1 ∧ d.server = x)] at hx
      exact hk x (hx.elim id fun q => by omega)
  · -- weight
    unfold ofStep ofTStep
    rw [if_neg zo, if_neg zo, if_pos h1, if_neg zo, if_neg zo, if_pos h1]
    have hTw := weighR_rec s3 ⟨c.server, c.weight, c.version, p.admin, p.number⟩
    refine ⟨⟨s1, s2, ?_⟩, ⟨j1, ?_, j3⟩, ⟨r1, ?_, r3⟩, ?_, ?_, ?_, hru⟩
    · dsimp only; rw [hTw]; exact weighRec_strict _ s3
    · intro x; rw [hE (fun d => d.kind = 1 ∧ d.server = x), ← j2 x]; simp [h1]
    · intro x; rw [hE (fun d => d.kind = 2 ∧ d.server = x), ← r2 x]; simp [h1]
    · intro x
      dsimp only
      rw [hTw, lk_weigh _ _ s3, hw, getI_setI2]
      dsimp only
      by_cases e : c.server = x
      · subst e
        rw [if_pos rfl, if_pos rfl]
        cases ho : getI s.m c.server with
        | none => rfl
        | some o =>
          obtain ⟨_, _, e3, e4, e5⟩ := he _ o ho
          have e6 : o.version = 0 := e5.elim id fun ⟨_, d, hd, e7, e8⟩ => absurd ⟨e7.trans h1.symm, e8⟩ (hu d hd)
          have hl : laterB ⟨c.server, c.weight, c.version, p.admin, p.number⟩ o = true := by
            rw [laterB_self _ _ e3.symm e4.symm]
            exact decide_eq_true (by dsimp only; omega)
          dsimp only; rw [hl, if_pos rfl]; rfl
      · rw [if_neg e, if_neg (fun q => e q.symm)]
    · intro x o ho
      dsimp only at ho
      rw [getI_setI2] at ho
      split at ho
      · rename_i e; subst e
        obtain rfl := Option.some.inj ho
        exact ⟨rfl, h2, rfl, rfl, .inr ⟨h4.1, c, by simp, h1, rfl⟩⟩
      · exact heT x o ho
    · intro x hx
      rw [hE (fun d => d.kind = 1 ∧ d.server = x)] at hx
      dsimp only
      rw [getI_setI2]
      split
      · rfl
      · exact hk x (hx.elim id fun q => by omega)
  · -- rule
    unfold ofStep ofTStep
    rw [if_neg zo, if_neg zo, if_neg zo, if_pos h1, if_neg zo, if_neg zo, if_neg zo, if_pos h1]
    refine ⟨⟨s1, s2, s3⟩, ⟨j1, ?_, j3⟩, ⟨r1, ?_, r3⟩, hw, heT, ?_, ⟨rfl, rfl, rfl, rfl⟩⟩
    · intro x; rw [hE (fun d => d.kind = 1 ∧ d.server = x), ← j2 x]; simp [h1]
    · intro x; rw [hE (fun d => d.kind = 2 ∧ d.server = x), ← r2 x]; simp [h1]
    · intro x hx
      rw [hE (fun d => d.kind = 1 ∧ d.server = x)] at hx
      exact hk x (hx.elim id fun q => by omega)
theorem of_inv (p : Proposal) : ∀ (cs done : List Change) (s : Acc) (t : Summary), OfInv p done s t → (∀ c ∈ cs, ChangeOK c) → Uniq2 (done ++ cs) → OfInv p (done ++ cs) (cs.foldl (ofStep p) s) (cs.foldl (ofTStep p) t)
  | [], done, s, t, h, _, _ => by simpa using h
  | c :: cs, done, s, t, h, h2, h3 => by
    have h4 := of_step h (h2 c (by simp)) (fun d hd => by
      have := List.pairwise_append.1 h3
      exact this.2.2 d hd c (by simp))
    have := of_inv p cs (done ++ [c]) _ _ h4 (fun d hd => h2 d (by simp [hd])) (by simpa using h3)
    simpa using this
theorem of_inv0 (p : Proposal) : OfInv p [] acc0 sum0 := ⟨⟨List.Pairwise.nil, List.Pairwise.nil, List.Pairwise.nil⟩, ⟨List.nodup_nil, by simp [acc0], by simp [acc0, sum0]⟩, ⟨List.nodup_nil, by simp [acc0], by simp [acc0, sum0]⟩, fun x => rfl, fun x o h => (by simp [acc0, getI] at h), by simp, ⟨rfl, rfl, rfl, rfl⟩⟩
theorem upto_strict (a b : Int) : StrictI (upto a b) := by
  unfold upto
  rw [StrictI, List.pairwise_map]
  exact List.pairwise_lt_range.imp (fun h => by omega)
theorem weightsOf_strict {m : List (Int × WeightEntry)} (h : ∀ x o, getI m x = some o → o.server = x) : StrictW (weightsOf m) := by
  unfold weightsOf
  rw [StrictW, List.pairwise_filterMap]
  exact (upto_strict 1 12).imp (fun {a b} hab o ho o' ho' => by rw [h a o ho, h b o' ho']; exact hab)
theorem weightsOf_lk {m : List (Int × WeightEntry)} (h : ∀ x o, getI m x = some o → o.server = x ∧ (1 ≤ x ∧ x ≤ 12)) (x : Int) : lk (weightsOf m) x = getI m x := by
  have gen : ∀ l : List Int, lk (l.filterMap (getI m)) x = if x ∈ l then getI m x else none := by
    intro l
    induction l with
    | nil => simp [lk]
    | cons y l ih =>
      rw [List.filterMap_cons]
      cases hy : getI m y with
      | none =>
        dsimp only; rw [ih]
        by_cases e : x = y
        · subst e; rw [hy]; simp
        · simp [e]
      | some o =>
        dsimp only; rw [lk_cons, ih, (h y o hy).1]
        by_cases e : y = x
        · subst e; rw [if_pos rfl, if_pos (by simp), hy]
        · rw [if_neg e]
          by_cases e2 : x ∈ l
          · rw [if_pos e2, if_pos (by simp [e2])]
          · rw [if_neg e2, if_neg (by simp [e2]; exact fun q => e q.symm)]
  unfold weightsOf
  rw [gen]
  split
  · rfl
  · rename_i hn
    cases hx : getI m x with
    | none => rfl
    | some o => exact absurd (mem_upto.2 (h x o hx).2) hn
theorem of_full {p : Proposal} (h : PropOK p) : OfInv p p.changes (ofAcc p) (ofT p) := by
  have := of_inv p p.changes [] acc0 sum0 (of_inv0 p) h.2.2.2.1 (by simpa using uniq_of h.2.2.2.2)
  unfold ofAcc ofT
  simpa using this
theorem ofS_T {p : Proposal} (h : PropOK p) : ofS p = ofT p ∧ SortedS (ofT p) := by
  have hI := of_full h
  refine ⟨?_, hI.sort⟩
  obtain ⟨⟨s1, s2, s3⟩, ⟨j1, j2, j3⟩, ⟨r1, r2, r3⟩, hw, he, hk, e1, e2, e3, e4⟩ := hI
  unfold ofS
  generalize ofT p = t at *
  obtain ⟨J, R, W, ru, ver, adm, num⟩ := t
  dsimp only at *
  rw [sorted_perm j1 s1 (fun x => (j3 x).symm), sorted_perm r1 s2 (fun x => (r3 x).symm), e1, e2, e3, e4]
  rw [strictW_ext (weightsOf_strict fun x o ho => (he x o ho).1) s3 (fun x => by rw [weightsOf_lk (fun x o ho => ⟨(he x o ho).1, (he x o ho).2.1⟩), hw])]
def MemOK (g : View) : Prop := (∀ m ∈ g.members, (1 ≤ m.server ∧ m.server ≤ 12) ∧ 1 ≤ m.weight ∧ m.weight ≤ 9) ∧ g.members.Pairwise (fun a b => a.server < b.server)
theorem initS_sorted {g : View} (h : MemOK g) : SortedS (initS g) := by
  refine ⟨?_, List.Pairwise.nil, ?_⟩
  · show (g.members.map (·.server)).Pairwise (· < ·)
    rw [List.pairwise_map]; exact h.2
  · show (g.members.map wOf).Pairwise _
    rw [List.pairwise_map]; exact h.2
theorem sumS_T {g : View} (hg : MemOK g) {c : Config} (hc : ∀ p ∈ c, PropOK p) : sumS g c = sumT g c ∧ SortedS (sumT g c) := by
  have gen : ∀ (c : Config) (s : Summary), SortedS s → (∀ p ∈ c, PropOK p) → c.foldl sumStep s = c.foldl sumTStep s ∧ SortedS (c.foldl sumTStep s) := by
    intro c
    induction c with
    | nil => intro s hs _; exact ⟨rfl, hs⟩
    | cons p c ih =>
      intro s hs hc
      have e1 := ofS_T (hc p (by simp))
      have e2 := joinS_T hs (ofT p)
      have e3 : sumStep s p = sumTStep s p := by unfold sumStep sumTStep; rw [e1.1, e2.1]
      rw [List.foldl_cons, List.foldl_cons, e3]
      exact ih _ e2.2 (fun q hq => hc q (by simp [hq]))
  exact gen c _ (initS_sorted hg) hc
theorem strictI_len : ∀ {l : List Int} {lo hi : Int}, StrictI l → (∀ x ∈ l, lo ≤ x ∧ x ≤ hi) → (l.length : Int) ≤ max 0 (hi - lo + 1)
  | [], lo, hi, _, _ => by simp; omega
  | x :: l, lo, hi, h, hb => by
    replace h := List.pairwise_cons.1 h
    have h0 := hb x (by simp)
    have h1 := strictI_len (lo := x + 1) (hi := hi) h.2 (fun y hy => ⟨by have := h.1 y hy; omega, (hb y (by simp [hy])).2⟩)
    rw [List.length_cons]; omega
theorem MemOK.len {g : View} (h : MemOK g) : g.members.length ≤ 12 := by
  have := strictI_len (l := g.members.map (·.server)) (lo := 1) (hi := 12) (by rw [StrictI, List.pairwise_map]; exact h.2) (fun x hx => by obtain ⟨m, hm, rfl⟩ := List.mem_map.1 hx; exact (h.1 m hm).1)
  rw [List.length_map] at this; omega
end Go.Proofs
namespace Go.Proofs
open Go.AM
attribute [local irreducible] AM.evalR AM.evalD AM.Runs AM.valK AM.dK AM.opK AM.stepR AM.CallS AM.St.Le
def ruleE (r : Rule) : Int := if r.kind < 1 ∨ 4 < r.kind then 10 else if (r.kind = 3 ∧ ¬ (1 ≤ r.columns ∧ r.columns ≤ 12)) ∨ (r.kind ≠ 3 ∧ r.columns ≠ 0) then 9 else if (r.kind = 4 ∧ (r.faulty < 0 ∨ 12 < r.faulty)) ∨ (r.kind ≠ 4 ∧ r.faulty ≠ 0) then 9 else 0
def changeE (c : Change) : Int :=
  if c.kind = 1 ∨ c.kind = 2 ∨ c.kind = 3 then
    if ¬ (1 ≤ c.server ∧ c.server ≤ 12) then 9
    else if (c.kind = 2 ∧ c.weight ≠ 0) ∨ (c.kind ≠ 2 ∧ (c.weight < 1 ∨ 9 < c.weight)) then 9
    else if (c.kind = 3 ∧ (c.version < 1 ∨ 1000 < c.version)) ∨ (c.kind ≠ 3 ∧ c.version ≠ 0) then 9
    else if c.rule = ⟨0, 0, 0⟩ then 0 else 2
  else if c.kind = 4 then (if c.server ≠ 0 then 9 else if c.weight ≠ 0 then 9 else if c.version < 1 ∨ 1000 < c.version then 9 else ruleE c.rule)
  else 10
theorem vax_Rule (r : Rule) : AM.Fn Try.prog 53 [ruV r] (.i (ruleE r)) := by
  (refine spec_of_runs Try.func53 rfl ?_; simp only [Try.f53]; refine ys ?_)
  repeat' (first | refine yw ?_ | ((with_reducible refine Runs.is ?_); first | refine Runs.region ?_ | ((with_reducible refine Runs.isC ?_); refine Runs.cond rfl (zc ?_) (zc ?_) <;> intro hc <;> (try (first | contradiction | (exfalso; omega; done) | (have : hc = trivial := rfl; clear this; clear hc))))) | ((with_reducible refine r_is ?_); first | refine yr ?_ | (refine r_fn rfl (val_Server _) HbF.h zL1 zD ?_; refine r_nn zN zH ?_) | ((with_reducible refine r_gd ?_); (first | refine r_guardPf rfl rfl ?_ ?_ | refine r_guardNf rfl rfl ?_ ?_ | refine r_guardPt rfl rfl ?_ ?_ | refine r_guardNt rfl rfl ?_ ?_ | refine r_guard rfl rfl ?_ ?_) <;> intro hG <;> (try (exfalso; omega; done)) <;> refine r_nn zN zH ?_)) | fail)
  all_goals ((refine Runs.ret1 Try.func53 rfl zM zD ?_; try exact zX))
  all_goals (refine V.Le.of_eq (congrArg V.i ?_); unfold ruleE; (repeat' split) <;> omega)
theorem vax_Ch (k s w v : Int) (r : Rule) (hk : k = 1 ∨ k = 2 ∨ k = 3) : AM.Fn Try.prog 57 [chV ⟨k, s, w, v, r⟩] (.i (changeE ⟨k, s, w, v, r⟩)) := by
  rcases hk with rfl | rfl | rfl
  all_goals ((refine spec_of_runs Try.func57 rfl ?_; simp only [Try.f57]; refine ys ?_))
  all_goals (repeat' (first | refine yw ?_ | ((with_reducible refine Runs.is ?_); first | refine Runs.region ?_ | refine Runs.drawn mixed zK ?_ | ((with_reducible refine Runs.isC ?_); refine Runs.cond rfl (zc ?_) (zc ?_) <;> intro hc <;> (try (first | contradiction | (exfalso; omega; done) | (have : hc = trivial := rfl; clear this; clear hc))))) | ((with_reducible refine r_is ?_); first | refine yr ?_ | (refine r_fn rfl (val_Server _) HbF.h zL1 zD ?_; refine r_nn zN zH ?_) | ((with_reducible refine r_gd ?_); (first | refine r_guardPf rfl rfl ?_ ?_ | refine r_guardNf rfl rfl ?_ ?_ | refine r_guardPt rfl rfl ?_ ?_ | refine r_guardNt rfl rfl ?_ ?_ | refine r_guard rfl rfl ?_ ?_) <;> intro hG <;> (try (exfalso; omega; done)) <;> refine r_nn zN zH ?_)) | ((with_reducible refine d_is ?_); first | refine yd ?_) | fail))
  all_goals ((refine Runs.ret1 Try.func57 rfl zM zD ?_; try exact zX))
  all_goals (refine V.Le.of_eq (congrArg V.i ?_); unfold changeE; dsimp only; (repeat' split) <;> first | omega | simp_all)
theorem vax_Ch4 (s w v : Int) (r : Rule) : AM.Fn Try.prog 57 [chV ⟨4, s, w, v, r⟩] (.i (changeE ⟨4, s, w, v, r⟩)) := by
  (refine spec_of_runs Try.func57 rfl ?_; simp only [Try.f57]; refine ys ?_)
  repeat' (first | refine yw ?_ | ((with_reducible refine Runs.is ?_); first | refine Runs.region ?_ | refine Runs.drawn mixed zK ?_ | ((with_reducible refine Runs.isC ?_); refine Runs.cond rfl (zc ?_) (zc ?_) <;> intro hc <;> (try (first | contradiction | (exfalso; omega; done) | (have : hc = trivial := rfl; clear this; clear hc))))) | ((with_reducible refine r_is ?_); first | refine yr ?_ | (refine r_fn rfl (vax_Rule r) HbF.h zL1 zD ?_; refine r_nn zN zH ?_) | ((with_reducible refine r_gd ?_); (first | refine r_guardPf rfl rfl ?_ ?_ | refine r_guardNf rfl rfl ?_ ?_ | refine r_guardPt rfl rfl ?_ ?_ | refine r_guardNt rfl rfl ?_ ?_ | refine r_guard rfl rfl ?_ ?_) <;> intro hG <;> (try (exfalso; omega; done)) <;> refine r_nn zN zH ?_)) | ((with_reducible refine d_is ?_); first | refine yd ?_) | fail)
  all_goals ((refine Runs.ret1 Try.func57 rfl zM zD ?_; try exact zX))
  all_goals (refine V.Le.of_eq (congrArg V.i ?_); unfold changeE; dsimp only; (repeat' split) <;> first | rfl | omega)
theorem vax_Ch0 (k s w v : Int) (r : Rule) (h1 : k ≠ 1) (h2 : k ≠ 2) (h3 : k ≠ 3) (h4 : k ≠ 4) : AM.Fn Try.prog 57 [chV ⟨k, s, w, v, r⟩] (.i (changeE ⟨k, s, w, v, r⟩)) := by
  have e : changeE ⟨k, s, w, v, r⟩ = 10 := by unfold changeE; dsimp only; rw [if_neg zo, if_neg zo]
  rw [e]
  (refine spec_of_runs Try.func57 rfl ?_; simp only [Try.f57]; refine ys ?_)
  repeat' (first | refine yw ?_ | ((with_reducible refine Runs.is ?_); first | refine Runs.region ?_ | refine Runs.drawn mixed zK ?_ | ((with_reducible refine Runs.isC ?_); refine Runs.cond rfl (zc ?_) (zc ?_) <;> intro hc <;> (try (first | contradiction | (exfalso; omega; done) | (have : hc = trivial := rfl; clear this; clear hc))))) | ((with_reducible refine r_is ?_); first | refine yr ?_ | ((with_reducible refine r_gd ?_); (first | refine r_guardPf rfl rfl ?_ ?_ | refine r_guardNf rfl rfl ?_ ?_ | refine r_guardPt rfl rfl ?_ ?_ | refine r_guardNt rfl rfl ?_ ?_ | refine r_guard rfl rfl ?_ ?_) <;> intro hG <;> (try (exfalso; omega; done)) <;> refine r_nn zN zH ?_)) | ((with_reducible refine d_is ?_); first | refine yd ?_) | fail)
  all_goals ((refine Runs.ret1 Try.func57 rfl zM zD ?_; try exact zX))
theorem vax_Change (c : Change) : AM.Fn Try.prog 57 [chV c] (.i (changeE c)) := by
  obtain ⟨k, s, w, v, r⟩ := c
  by_cases h : k = 1 ∨ k = 2 ∨ k = 3
  · exact vax_Ch k s w v r h
  · by_cases h4 : k = 4
    · subst h4; exact vax_Ch4 s w v r
    · exact vax_Ch0 k s w v r zo zo zo h4
theorem ruleE_ok {r : Rule} (h : ruleE r = 0) : RuleOK r := by
  unfold ruleE at h
  unfold RuleOK
  split at h
  · omega
  split at h
  · omega
  split at h <;> omega
theorem changeE_ok {c : Change} (h : changeE c = 0) : ChangeOK c := by
  obtain ⟨k, s, w, v, r⟩ := c
  unfold changeE at h
  unfold ChangeOK
  dsimp only at h ⊢
  by_cases h4 : k = 4
  · subst h4
    rw [if_neg zd, if_pos rfl] at h
    (repeat' split at h) <;> first | omega | skip
    exact .inr (.inr (.inr ⟨rfl, by omega, by omega, by omega, ruleE_ok h⟩))
  · (repeat' split at h) <;> first | omega | skip
    rename_i hr
    rcases (show k = 1 ∨ k = 2 ∨ k = 3 by omega) with rfl | rfl | rfl
    · exact .inl ⟨rfl, by omega, by omega, by omega, hr⟩
    · exact .inr (.inl ⟨rfl, by omega, by omega, by omega, hr⟩)
    · exact .inr (.inr (.inl ⟨rfl, by omega, by omega, by omega, hr⟩))
end Go.Proofs
namespace Go.Proofs
open Go.AM
attribute [local irreducible] AM.evalR AM.evalD AM.Runs AM.valK AM.dK AM.opK AM.stepR AM.CallS AM.St.Le
def memE : List Member → Nat → Nat → Int
  | _, _, 0 => 0
  | l, i, n + 1 => if ¬ (1 ≤ (l.getD i default).server ∧ (l.getD i default).server ≤ 12) ∨ (l.getD i default).weight < 1 ∨ 9 < (l.getD i default).weight then 9
    else if 0 < i ∧ (l.getD i default).server ≤ (l.getD (i - 1) default).server then 7 else memE l (i + 1) n
def viewE (v : View) : Int := if ruleE v.rule ≠ 0 then ruleE v.rule else memE v.members 0 v.members.length
def genE (g : View) : Int := if viewE g ≠ 0 then viewE g else if g.members.length = 0 then 2 else 0
theorem vax_View (v : View) (hl : v.members.length ≤ 4611686018427387904) : AM.Fn Try.prog 30 [viV v] (.i (viewE v)) := by
  have hgo : ∀ e, viewE v = e → AM.Fn Try.prog 30 [viV v] (.i e) := by
    intro e he
    unfold viewE at he
    have hR := vax_Rule v.rule
    obtain ⟨ms, ru⟩ := v
    dsimp only at he hR hl
    (refine spec_of_runs Try.func30 rfl ?_; simp only [Try.f30]; refine ys ?_)
    repeat' (first | refine yw ?_ | ((with_reducible refine Runs.is ?_); first | refine Runs.region (id := 0) ?_ | refine Runs.region (id := 1) ?_ | refine Runs.region (id := 2) ?_ | refine Runs.region (id := 3) ?_ | refine Runs.region (id := 4) ?_ | ((with_reducible refine Runs.isC ?_); refine Runs.cond rfl (zc ?_) (zc ?_) <;> intro hc <;> (try (first | contradiction | (exfalso; omega; done) | (have : hc = trivial := rfl; clear this; clear hc))))) | ((with_reducible refine r_is ?_); first | refine yr ?_ | (refine r_fn rfl (hR) HbF.h zL1 zD ?_; refine r_nn zN zH ?_)) | fail)
    · rw [if_pos (by assumption)] at he
      subst he
      (refine Runs.ret1 Try.func30 rfl zM zD ?_; try exact zX)
    rw [if_neg zo] at he
    refine Runs.loopI (fun i : Nat => ms.length - i) (fun i => i ≤ ms.length ∧ memE ms i (ms.length - i) = e)
      (fun i => ⟨[.any, .ptr 1 0 0, .any, .any, .i (i : Nat), .any, .any, .any, .any, .any, .any, .any, .any, .any, .any, .any, .any, .any, .any, .any, .any, .any, .any, .any, .any, .any, .any, .any, .any, .any, .any, .any, .any, .any, .any, .any, .any, .any, .any, .any, .any, .any, .any, .any, .any, .any, .any, .any, .any, .any, .any, .any], [(1, .var 46 (viV ⟨ms, ru⟩))]⟩) 0 (by simpa using he) ?_ ?_
    · (refine St.Le.clean zR zU zV)
    rintro i ⟨hi, he2⟩ ih
    by_cases hlt : i < ms.length
    · rw [show ms.length - i = (ms.length - (i + 1)) + 1 by omega, memE] at he2
      have e1 : ((i : Int) - 1).toNat = i - 1 := by omega
      rw [← e1] at he2
      repeat' (first | refine yw ?_ | ((with_reducible refine Runs.is ?_); first | refine Runs.region (id := 5) ?_ | refine Runs.region (id := 7) ?_ | refine Runs.region (id := 8) ?_ | refine Runs.region (id := 9) ?_ | refine Runs.drawn (id := 10) mixed zK ?_ | refine Runs.region (id := 11) ?_ | refine Runs.region (id := 6) ?_ | ((with_reducible refine Runs.isC ?_); refine Runs.cond rfl (zc ?_) (zc ?_) <;> intro hc <;> (try (first | contradiction | (exfalso; omega; done) | (have : hc = trivial := rfl; clear this; clear hc))))) | ((with_reducible refine r_is ?_); first | refine yr ?_ | (refine r_fn rfl (val_Server _) HbF.h zL1 zD ?_; refine r_nn zN zH ?_) | ((with_reducible refine r_gd ?_); (first | refine r_guardPf rfl rfl ?_ ?_ | refine r_guardNf rfl rfl ?_ ?_ | refine r_guard rfl rfl ?_ ?_) <;> intro hG <;> (try (exfalso; omega; done)) <;> refine r_nn zN zH ?_)) | ((with_reducible refine d_is ?_); first | refine yd ?_ | ((with_reducible refine d_gd ?_); (first | refine d_guardPt rfl rfl ?_ ?_ | refine d_guardNt rfl rfl ?_ ?_ | refine d_guard rfl rfl ?_ ?_) <;> intro hG <;> (try (exfalso; omega; done)) <;> refine d_nn zN zH ?_)) | fail)
      all_goals first
        | (rw [if_pos zo] at he2; subst he2; (refine Runs.ret1 Try.func30 rfl zM zD ?_; try exact zX); done)
        | (rw [if_neg zo, if_pos zo] at he2; subst he2; (refine Runs.ret1 Try.func30 rfl zM zD ?_; try exact zX); done)
        | (rw [if_neg zo, if_neg zo] at he2
           refine ih (i + 1) _ ⟨by omega, he2⟩ zo ?_
           (refine St.Le.clean zR zU zV)
           done)
        | fail
    · repeat' (first | refine yw ?_ | ((with_reducible refine Runs.is ?_); first | refine Runs.region (id := 5) ?_ | ((with_reducible refine Runs.isC ?_); refine Runs.cond rfl (zc ?_) (zc ?_) <;> intro hc <;> (try (first | contradiction | (exfalso; omega; done) | (have : hc = trivial := rfl; clear this; clear hc))))) | ((with_reducible refine r_is ?_); first | refine yr ?_) | fail)
      rw [show ms.length - i = 0 by omega, memE] at he2
      repeat' (first | refine yw ?_ | ((with_reducible refine Runs.is ?_); first | refine Runs.region (id := 12) ?_ | ((with_reducible refine Runs.isC ?_); refine Runs.cond rfl (zc ?_) (zc ?_) <;> intro hc <;> (try (first | contradiction | (exfalso; omega; done) | (have : hc = trivial := rfl; clear this; clear hc))))) | ((with_reducible refine r_is ?_); first | refine yr ?_) | fail)
      subst he2
      (refine Runs.ret1 Try.func30 rfl zM zD ?_; try exact zX)
  exact hgo _ rfl
theorem vax_Gen (g : View) (hl : g.members.length ≤ 4611686018427387904) : AM.Fn Try.prog 13 [viV g] (.i (genE g)) := by
  have hgo : ∀ e, genE g = e → AM.Fn Try.prog 13 [viV g] (.i e) := by
    intro e he
    unfold genE at he
    have hV := vax_View g hl
    generalize viewE g = ve at *
    obtain ⟨ms, ru⟩ := g
    dsimp only at he hl
    (refine spec_of_runs Try.func13 rfl ?_; simp only [Try.f13]; refine ys ?_)
    repeat' (first | refine yw ?_ | ((with_reducible refine Runs.is ?_); first | refine Runs.region ?_ | ((with_reducible refine Runs.isC ?_); refine Runs.cond rfl (zc ?_) (zc ?_) <;> intro hc <;> (try (first | contradiction | (exfalso; omega; done) | (have : hc = trivial := rfl; clear this; clear hc))))) | ((with_reducible refine r_is ?_); first | refine yr ?_ | (refine r_fn rfl (hV) HbF.h zL1 zD ?_; refine r_nn zN zH ?_)) | fail)
    · rw [if_pos (by assumption)] at he
      subst he
      (refine Runs.ret1 Try.func13 rfl zM zD ?_; try exact zX)
    · rw [if_neg zo, if_pos zo] at he
      subst he
      (refine Runs.ret1 Try.func13 rfl zM zD ?_; try exact zX)
    · rw [if_neg zo, if_neg zo] at he
      subst he
      (refine Runs.ret1 Try.func13 rfl zM zD ?_; try exact zX)
  exact hgo _ rfl
theorem memE_ok {l : List Member} : ∀ (n i : Nat), memE l i n = 0 → ∀ j, i ≤ j → j < i + n → ((1 ≤ (l.getD j default).server ∧ (l.getD j default).server ≤ 12) ∧ 1 ≤ (l.getD j default).weight ∧ (l.getD j default).weight ≤ 9) ∧ (0 < j → (l.getD (j - 1) default).server < (l.getD j default).server)
  | 0, i, _, j, h1, h2 => by omega
  | n + 1, i, h, j, h1, h2 => by
    rw [memE] at h
    split at h
    · contradiction
    split at h
    · contradiction
    by_cases e : j = i
    · subst e; exact ⟨by omega, by omega⟩
    · exact memE_ok n (i + 1) h j zo zo
theorem adj_pairwise {l : List Member} (h : ∀ j, 0 < j → j < l.length → (l.getD (j - 1) default).server < (l.getD j default).server) : l.Pairwise (fun a b => a.server < b.server) := by
  have key : ∀ i j, i < j → j < l.length → (l.getD i default).server < (l.getD j default).server := by
    intro i j hij hj
    induction j with
    | zero => omega
    | succ j ih =>
      have h1 := h (j + 1) zo hj
      rw [Nat.add_sub_cancel] at h1
      by_cases e : i = j
      · subst e; exact h1
      · have h2 := ih zo zo; omega
  rw [List.pairwise_iff_getElem]
  intro i j hi hj hij
  have := key i j hij hj
  rw [List.getD_eq_getElem?_getD, List.getD_eq_getElem?_getD, List.getElem?_eq_getElem hj, List.getElem?_eq_getElem hi] at this
  exact this
theorem viewE_ok {v : View} (h : viewE v = 0) : RuleOK v.rule ∧ MemOK v := by
  unfold viewE at h
  split at h
  · contradiction
  rename_i h0
  have hk := memE_ok _ _ h
  refine ⟨ruleE_ok zo, fun m hm => ?_, adj_pairwise fun j h0 hj => (hk j zo zo).2 h0⟩
  obtain ⟨i, hi, rfl⟩ := List.mem_iff_getElem.1 hm
  have := (hk i zo zo).1
  rw [List.getD_eq_getElem?_getD, List.getElem?_eq_getElem hi] at this
  exact this
theorem genE_ok {g : View} (h : genE g = 0) : RuleOK g.rule ∧ MemOK g ∧ 0 < g.members.length := by
  unfold genE at h
  split at h
  · contradiction
  rename_i h0
  split at h
  · contradiction
  obtain ⟨h1, h2⟩ := viewE_ok (v := g) zo
  exact ⟨h1, h2, by omega⟩
theorem ref_EqualView (a b : View) (hl : a.members.length ≤ 4611686018427387904) : AM.Fn Try.prog 28 [viV a, viV b] (.b (decide (a = b))) := by
  have hgo : ∀ e, decide (a = b) = e → AM.Fn Try.prog 28 [viV a, viV b] (.b e) := by
    intro e he
    obtain ⟨ms, ru⟩ := a
    obtain ⟨ms', ru'⟩ := b
    dsimp only at hl
    (refine spec_of_runs Try.func28 rfl ?_; simp only [Try.f28]; refine ys ?_)
    repeat' (first | refine yw ?_ | ((with_reducible refine Runs.is ?_); first | refine Runs.region (id := 0) ?_ | refine Runs.region (id := 1) ?_ | refine Runs.region (id := 2) ?_ | refine Runs.region (id := 3) ?_ | ((with_reducible refine Runs.isC ?_); refine Runs.cond rfl (zc ?_) (zc ?_) <;> intro hc <;> (try (first | contradiction | (exfalso; omega; done) | (have : hc = trivial := rfl; clear this; clear hc))))) | ((with_reducible refine r_is ?_); first | refine yr ?_ | ((with_reducible refine r_gd ?_); (first | refine r_guardPf rfl rfl ?_ ?_ | refine r_guardNf rfl rfl ?_ ?_ | refine r_guard rfl rfl ?_ ?_) <;> intro hG <;> (try (exfalso; omega; done)) <;> refine r_nn zN zH ?_)) | fail)
    · rw [decide_eq_false (fun q => by injection q; contradiction)] at he
      subst he
      (refine Runs.ret1 Try.func28 rfl zM zD ?_; try exact zX)
    rotate_left
    · rw [decide_eq_false (fun q => by injection q with q1 q2; subst q1; exact absurd rfl hG)] at he
      subst he
      (refine Runs.ret1 Try.func28 rfl zM zD ?_; try exact zX)
    subst hc
    have hle : ms.length = ms'.length := by omega
    refine Runs.loopI (fun i : Nat => ms.length - i) (fun i => i ≤ ms.length ∧ ms.take i = ms'.take i)
      (fun i => ⟨[.any, .any, .ptr 2 0 0, .ptr 3 0 0, .any, .i (i : Nat), .any, .any, .any, .any, .any, .any, .any, .any, .any, .any, .any, .any, .any, .any, .any, .any, .any, .any, .any, .any, .any, .any, .any, .any, .any, .any, .any, .any, .any, .any, .any, .any], [(3, .var 46 (viV ⟨ms', ru⟩)), (2, .var 46 (viV ⟨ms, ru⟩))]⟩) 0 (by simp) ?_ ?_
    · (refine St.Le.clean zR zU zV)
    rintro i ⟨hi, he2⟩ ih
    by_cases hlt : i < ms.length
    · repeat' (first | refine yw ?_ | ((with_reducible refine Runs.is ?_); first | refine Runs.region (id := 4) ?_ | refine Runs.drawn (id := 6) mixed zK ?_ | refine Runs.region (id := 7) ?_ | refine Runs.region (id := 5) ?_ | ((with_reducible refine Runs.isC ?_); refine Runs.cond rfl (zc ?_) (zc ?_) <;> intro hc <;> (try (first | contradiction | (exfalso; omega; done) | (have : hc = trivial := rfl; clear this; clear hc))))) | ((with_reducible refine r_is ?_); first | refine yr ?_) | ((with_reducible refine d_is ?_); first | refine yd ?_) | fail)
      · rw [decide_eq_false (fun q => by injection q with q1 q2; subst q1; contradiction)] at he
        subst he
        (refine Runs.ret1 Try.func28 rfl zM zD ?_; try exact zX)
      · refine ih (i + 1) _ ⟨by omega, by rw [take_getD hlt, take_getD zo, he2]; congr⟩ zo ?_
        (refine St.Le.clean zR zU zV)
    · repeat' (first | refine yw ?_ | ((with_reducible refine Runs.is ?_); first | refine Runs.region (id := 4) ?_ | ((with_reducible refine Runs.isC ?_); refine Runs.cond rfl (zc ?_) (zc ?_) <;> intro hc <;> (try (first | contradiction | (exfalso; omega; done) | (have : hc = trivial := rfl; clear this; clear hc))))) | ((with_reducible refine r_is ?_); first | refine yr ?_) | fail)
      repeat' (first | refine yw ?_ | ((with_reducible refine Runs.is ?_); first | refine Runs.region (id := 8) ?_ | ((with_reducible refine Runs.isC ?_); refine Runs.cond rfl (zc ?_) (zc ?_) <;> intro hc <;> (try (first | contradiction | (exfalso; omega; done) | (have : hc = trivial := rfl; clear this; clear hc))))) | ((with_reducible refine r_is ?_); first | refine yr ?_) | fail)
      rw [List.take_of_length_le zo, List.take_of_length_le zo] at he2
      rw [decide_eq_true (by rw [he2])] at he
      subst he
      (refine Runs.ret1 Try.func28 rfl zM zD ?_; try exact zX)
  exact hgo _ rfl
end Go.Proofs
namespace Go.Proofs
open Go.AM
attribute [local irreducible] AM.evalR AM.evalD AM.Runs AM.valK AM.dK AM.opK AM.stepR AM.CallS AM.St.Le
theorem quo_Rule (r : Rule) : AM.Fn Try.prog 49 [ruV r] (.i (ruleE r)) := by
  (refine spec_of_runs Try.func49 rfl ?_; simp only [Try.f49]; refine ys ?_)
  repeat' (first | refine yw ?_ | ((with_reducible refine Runs.is ?_); first | refine Runs.region ?_ | refine Runs.drawn mixed zK ?_ | ((with_reducible refine Runs.isC ?_); refine Runs.cond rfl (zc ?_) (zc ?_) <;> intro hc <;> (try (first | contradiction | (exfalso; omega; done) | (have : hc = trivial := rfl; clear this; clear hc))))) | ((with_reducible refine r_is ?_); first | refine yr ?_ | ((with_reducible refine r_gd ?_); (first | refine r_guardPf rfl rfl ?_ ?_ | refine r_guardNf rfl rfl ?_ ?_ | refine r_guardPt rfl rfl ?_ ?_ | refine r_guardNt rfl rfl ?_ ?_ | refine r_guard rfl rfl ?_ ?_) <;> intro hG <;> (try (exfalso; omega; done)) <;> refine r_nn zN zH ?_)) | ((with_reducible refine d_is ?_); first | refine yd ?_) | fail)
  all_goals ((refine Runs.ret1 Try.func49 rfl zM zD ?_; try exact zX))
  all_goals (refine V.Le.of_eq (congrArg V.i ?_); unfold ruleE; (repeat' split) <;> omega)
theorem quo_View (v : View) (hl : v.members.length ≤ 4611686018427387904) : AM.Fn Try.prog 43 [viV v] (.i (viewE v)) := by
  have hgo : ∀ e, viewE v = e → AM.Fn Try.prog 43 [viV v] (.i e) := by
    intro e he
    unfold viewE at he
    have hR := quo_Rule v.rule
    obtain ⟨ms, ru⟩ := v
    dsimp only at he hR hl
    (refine spec_of_runs Try.func43 rfl ?_; simp only [Try.f43]; refine ys ?_)
    repeat' (first | refine yw ?_ | ((with_reducible refine Runs.is ?_); first | refine Runs.region (id := 0) ?_ | refine Runs.region (id := 1) ?_ | refine Runs.region (id := 2) ?_ | refine Runs.region (id := 3) ?_ | refine Runs.region (id := 4) ?_ | ((with_reducible refine Runs.isC ?_); refine Runs.cond rfl (zc ?_) (zc ?_) <;> intro hc <;> (try (first | contradiction | (exfalso; omega; done) | (have : hc = trivial := rfl; clear this; clear hc))))) | ((with_reducible refine r_is ?_); first | refine yr ?_ | (refine r_fn rfl (hR) HbF.h zL1 zD ?_; refine r_nn zN zH ?_)) | fail)
    · rw [if_pos (by assumption)] at he
      subst he
      (refine Runs.ret1 Try.func43 rfl zM zD ?_; try exact zX)
    rw [if_neg zo] at he
    refine Runs.loopI (fun i : Nat => ms.length - i) (fun i => i ≤ ms.length ∧ memE ms i (ms.length - i) = e)
      (fun i => ⟨[.any, .ptr 1 0 0, .any, .any, .any, .any, .any, .any, .any, .any, .any, .any, .any, .sl false (ms.map mbV), .i (ms.length : Nat), .i (i : Nat), .any, .any, .any, .any, .any, .any, .any, .any, .any, .any, .any, .any, .any, .any, .any, .any, .any, .any, .any, .any, .any, .any, .any, .any, .any, .any, .any, .any, .any, .any, .any, .any, .any, .any, .any, .any, .any], [(1, .var 46 (viV ⟨ms, ru⟩))]⟩) 0 (by simpa using he) ?_ ?_
    · (refine St.Le.clean zR zU zV)
    rintro i ⟨hi, he2⟩ ih
    by_cases hlt : i < ms.length
    · rw [show ms.length - i = (ms.length - (i + 1)) + 1 by omega, memE] at he2
      have e1 : ((i : Int) - 1).toNat = i - 1 := by omega
      rw [← e1] at he2
      repeat' (first | refine yw ?_ | ((with_reducible refine Runs.is ?_); first | refine Runs.region (id := 5) ?_ | refine Runs.region (id := 6) ?_ | refine Runs.region (id := 7) ?_ | refine Runs.region (id := 8) ?_ | refine Runs.drawn (id := 9) mixed zK ?_ | refine Runs.region (id := 10) ?_ | refine Runs.region (id := 11) ?_ | ((with_reducible refine Runs.isC ?_); refine Runs.cond rfl (zc ?_) (zc ?_) <;> intro hc <;> (try (first | contradiction | (exfalso; omega; done) | (have : hc = trivial := rfl; clear this; clear hc))))) | ((with_reducible refine r_is ?_); first | refine yr ?_ | ((with_reducible refine r_gd ?_); (first | refine r_guardPf rfl rfl ?_ ?_ | refine r_guardNf rfl rfl ?_ ?_ | refine r_guard rfl rfl ?_ ?_) <;> intro hG <;> (try (exfalso; omega; done)) <;> refine r_nn zN zH ?_)) | ((with_reducible refine d_is ?_); first | refine yd ?_ | ((with_reducible refine d_gd ?_); (first | refine d_guardPt rfl rfl ?_ ?_ | refine d_guardNt rfl rfl ?_ ?_ | refine d_guard rfl rfl ?_ ?_) <;> intro hG <;> (try (exfalso; omega; done)) <;> refine d_nn zN zH ?_)) | fail)
      all_goals first
        | (rw [if_pos zo] at he2; subst he2; (refine Runs.ret1 Try.func43 rfl zM zD ?_; try exact zX); done)
        | (rw [if_neg zo, if_pos zo] at he2; subst he2; (refine Runs.ret1 Try.func43 rfl zM zD ?_; try exact zX); done)
        | (rw [if_neg zo, if_neg zo] at he2
           refine ih (i + 1) _ ⟨by omega, he2⟩ zo ?_
           (refine St.Le.clean zR zU zV)
           done)
        | fail
    · repeat' (first | refine yw ?_ | ((with_reducible refine Runs.is ?_); first | refine Runs.region (id := 5) ?_ | ((with_reducible refine Runs.isC ?_); refine Runs.cond rfl (zc ?_) (zc ?_) <;> intro hc <;> (try (first | contradiction | (exfalso; omega; done) | (have : hc = trivial := rfl; clear this; clear hc))))) | ((with_reducible refine r_is ?_); first | refine yr ?_) | fail)
      rw [show ms.length - i = 0 by omega, memE] at he2
      repeat' (first | refine yw ?_ | ((with_reducible refine Runs.is ?_); first | refine Runs.region (id := 12) ?_ | ((with_reducible refine Runs.isC ?_); refine Runs.cond rfl (zc ?_) (zc ?_) <;> intro hc <;> (try (first | contradiction | (exfalso; omega; done) | (have : hc = trivial := rfl; clear this; clear hc))))) | ((with_reducible refine r_is ?_); first | refine yr ?_) | fail)
      subst he2
      (refine Runs.ret1 Try.func43 rfl zM zD ?_; try exact zX)
  exact hgo _ rfl
theorem member_Gen (g : View) (hl : g.members.length ≤ 4611686018427387904) : AM.Fn Try.prog 14 [viV g] (.i (genE g)) := by
  have hgo : ∀ e, genE g = e → AM.Fn Try.prog 14 [viV g] (.i e) := by
    intro e he
    unfold genE at he
    have hV := quo_View g hl
    generalize viewE g = ve at *
    obtain ⟨ms, ru⟩ := g
    dsimp only at he hl
    (refine spec_of_runs Try.func14 rfl ?_; simp only [Try.f14]; refine ys ?_)
    repeat' (first | refine yw ?_ | ((with_reducible refine Runs.is ?_); first | refine Runs.region ?_ | ((with_reducible refine Runs.isC ?_); refine Runs.cond rfl (zc ?_) (zc ?_) <;> intro hc <;> (try (first | contradiction | (exfalso; omega; done) | (have : hc = trivial := rfl; clear this; clear hc))))) | ((with_reducible refine r_is ?_); first | refine yr ?_ | (refine r_fn rfl (hV) HbF.h zL1 zD ?_; refine r_nn zN zH ?_)) | fail)
    · rw [if_pos (by assumption)] at he
      subst he
      (refine Runs.ret1 Try.func14 rfl zM zD ?_; try exact zX)
    · rw [if_neg zo, if_pos zo] at he
      subst he
      (refine Runs.ret1 Try.func14 rfl zM zD ?_; try exact zX)
    · rw [if_neg zo, if_neg zo] at he
      subst he
      (refine Runs.ret1 Try.func14 rfl zM zD ?_; try exact zX)
  exact hgo _ rfl
def srvB (x : Int) : Bool := decide (1 ≤ x ∧ x ≤ 12)
def negB (a b c : Int) : Bool := decide (a < 0 ∨ b < 0 ∨ c < 0)
theorem member_server (x : Int) : AM.Fn Try.prog 46 [.i x] (.b (srvB x)) := by
  (refine spec_of_runs Try.func46 rfl ?_; simp only [Try.f46]; refine ys ?_)
  repeat' (first | refine yw ?_ | ((with_reducible refine Runs.is ?_); first | refine Runs.region ?_ | ((with_reducible refine Runs.isC ?_); refine Runs.cond rfl (zc ?_) (zc ?_) <;> intro hc <;> (try (first | contradiction | (exfalso; omega; done) | (have : hc = trivial := rfl; clear this; clear hc))))) | ((with_reducible refine r_is ?_); first | refine yr ?_ | ((with_reducible refine r_gd ?_); (first | refine r_guardPt rfl rfl ?_ ?_ | refine r_guardNt rfl rfl ?_ ?_ | refine r_guard rfl rfl ?_ ?_) <;> intro hG <;> (try (exfalso; omega; done)) <;> refine r_nn zN zH ?_)) | fail)
  all_goals ((refine Runs.ret1 Try.func46 rfl zM zD ?_; try exact zX))
  all_goals (unfold srvB; first | (refine V.Le.of_eq (congrArg V.b (decide_eq_decide.2 ?_)); omega) | (refine V.Le.of_eq (congrArg V.b (decide_eq_false ?_).symm); omega))
theorem member_negative (a b c : Int) : AM.Fn Try.prog 48 [.i a, .i b, .i c] (.b (negB a b c)) := by
  (refine spec_of_runs Try.func48 rfl ?_; simp only [Try.f48]; refine ys ?_)
  repeat' (first | refine yw ?_ | ((with_reducible refine Runs.is ?_); first | refine Runs.region ?_ | ((with_reducible refine Runs.isC ?_); refine Runs.cond rfl (zc ?_) (zc ?_) <;> intro hc <;> (try (first | contradiction | (exfalso; omega; done) | (have : hc = trivial := rfl; clear this; clear hc))))) | ((with_reducible refine r_is ?_); first | refine yr ?_ | ((with_reducible refine r_gd ?_); (first | refine r_guardPf rfl rfl ?_ ?_ | refine r_guardNf rfl rfl ?_ ?_ | refine r_guard rfl rfl ?_ ?_) <;> intro hG <;> (try (exfalso; omega; done)) <;> refine r_nn zN zH ?_)) | fail)
  all_goals ((refine Runs.ret1 Try.func48 rfl zM zD ?_; try exact zX))
  all_goals (unfold negB; first | (refine V.Le.of_eq (congrArg V.b (decide_eq_decide.2 ?_)); omega) | (refine V.Le.of_eq (congrArg V.b (decide_eq_false ?_).symm); omega) | (refine V.Le.of_eq (congrArg V.b (decide_eq_true ?_).symm); omega))
theorem member_ascending (f : Bool) (l : List Int) : AM.Fn Try.prog 47 [.sl f (l.map .i)] (.b (ascR l)) := by
  (refine spec_of_runs Try.func47 rfl ?_; simp only [Try.f47]; refine ys ?_)
  (refine Runs.lens 0 ?_; refine yl ?_)
  intro hl
  repeat' (first | refine yw ?_ | ((with_reducible refine Runs.is ?_); first | refine Runs.region (id := 0) ?_ | refine Runs.region (id := 1) ?_ | ((with_reducible refine Runs.isC ?_); refine Runs.cond rfl (zc ?_) (zc ?_) <;> intro hc <;> (try (first | contradiction | (exfalso; omega; done) | (have : hc = trivial := rfl; clear this; clear hc))))) | ((with_reducible refine r_is ?_); first | refine yr ?_) | fail)
  refine Runs.loopI (fun i : Nat => l.length - i) (fun i => i ≤ l.length ∧ ascR l = ascR (l.drop i))
    (fun i => ⟨[.sl f (l.map .i), .any, .any, .i ((i + 1 : Nat) : Int), .any, .any, .any, .any, .any, .any, .any, .any, .any, .any, .any, .any, .any, .any, .any, .any], []⟩) 0 (by simp) ?_ ?_
  · (refine St.Le.clean zR zU zV)
  rintro i ⟨hi, he⟩ ih
  rw [he]
  by_cases hlt : i + 1 < l.length
  · have hd := ascR_drop hlt
    rw [hd]
    have e1 : (((i + 1 : Nat) : Int) - 1).toNat = i := by omega
    repeat' (first | refine yw ?_ | ((with_reducible refine Runs.is ?_); first | refine Runs.region (id := 2) ?_ | refine Runs.drawn (id := 4) mixed zK ?_ | refine Runs.region (id := 5) ?_ | refine Runs.region (id := 3) ?_ | ((with_reducible refine Runs.isC ?_); refine Runs.cond rfl (zc ?_) (zc ?_) <;> intro hc <;> (try (first | contradiction | (exfalso; omega; done) | (have : hc = trivial := rfl; clear this; clear hc))))) | ((with_reducible refine r_is ?_); first | refine yr ?_) | ((with_reducible refine d_is ?_); first | refine yd ?_) | fail)
    · (refine Runs.ret1 Try.func47 rfl zM zD ?_; try exact zX)
      rw [e1] at hc
      exact V.Le.of_eq (congrArg V.b (by rw [decide_eq_false zo]; rfl))
    · rw [e1] at hc
      rw [decide_eq_true (show l.getD i default < l.getD (i + 1) default by omega), Bool.true_and] at hd ⊢
      rw [← hd, ← he]
      repeat' (first | refine yw ?_ | ((with_reducible refine Runs.is ?_); first | refine Runs.region (id := 3) ?_ | ((with_reducible refine Runs.isC ?_); refine Runs.cond rfl (zc ?_) (zc ?_) <;> intro hc <;> (try (first | contradiction | (exfalso; omega; done) | (have : hc = trivial := rfl; clear this; clear hc))))) | ((with_reducible refine r_is ?_); first | refine yr ?_) | fail)
      refine ih (i + 1) _ ⟨by omega, by rw [he, hd]⟩ zo ?_
      (refine St.Le.clean zR zU zV)
  · have hd : ascR (l.drop i) = true := by
      match hm : l.drop i with
      | [] => rfl
      | [_] => rfl
      | x :: y :: t => have := congrArg List.length hm; simp at this; omega
    rw [hd]
    repeat' (first | refine yw ?_ | ((with_reducible refine Runs.is ?_); first | refine Runs.region (id := 2) ?_ | ((with_reducible refine Runs.isC ?_); refine Runs.cond rfl (zc ?_) (zc ?_) <;> intro hc <;> (try (first | contradiction | (exfalso; omega; done) | (have : hc = trivial := rfl; clear this; clear hc))))) | ((with_reducible refine r_is ?_); first | refine yr ?_) | fail)
    repeat' (first | refine yw ?_ | ((with_reducible refine Runs.is ?_); first | refine Runs.region (id := 6) ?_ | ((with_reducible refine Runs.isC ?_); refine Runs.cond rfl (zc ?_) (zc ?_) <;> intro hc <;> (try (first | contradiction | (exfalso; omega; done) | (have : hc = trivial := rfl; clear this; clear hc))))) | ((with_reducible refine r_is ?_); first | refine yr ?_) | fail)
    (refine Runs.ret1 Try.func47 rfl zM zD ?_; try exact zX)
def weiE : List WeightEntry → Nat → Nat → Int
  | _, _, 0 => 0
  | l, i, n + 1 => if srvB (l.getD i default).server = false ∨ (l.getD i default).weight < 1 ∨ 9 < (l.getD i default).weight ∨ negB (l.getD i default).version (l.getD i default).admin (l.getD i default).number = true then 9
    else if 0 < i ∧ (l.getD i default).server ≤ (l.getD (i - 1) default).server then 7 else weiE l (i + 1) n
def sumE (s : Summary) : Int :=
  if (s.joined ++ s.removed).all srvB = false then 9 else if ascR s.joined = false ∨ ascR s.removed = false then 7
  else if weiE s.weights 0 s.weights.length ≠ 0 then weiE s.weights 0 s.weights.length
  else if s.rule ≠ ⟨0, 0, 0⟩ ∧ ruleE s.rule ≠ 0 then ruleE s.rule
  else if negB s.version s.admin s.number = true ∨ (s.rule = ⟨0, 0, 0⟩ ∧ (s.version ≠ 0 ∨ s.admin ≠ 0 ∨ s.number ≠ 0)) then 9 else 0
end Go.Proofs
namespace Go.Proofs
open Go.AM
attribute [local irreducible] AM.evalR AM.evalD AM.Runs AM.valK AM.dK AM.opK AM.stepR AM.CallS AM.St.Le
theorem ref_EqualSummary (a b : Summary) (hl : a.weights.length ≤ 4611686018427387904) : AM.Fn Try.prog 15 [suV a, suV b] (.b (decide (a = b))) := by
  have h1 := ref_EqualInts false false a.joined b.joined
  have h2 := ref_EqualInts false false a.removed b.removed
  have hgo : ∀ e, decide (a = b) = e → AM.Fn Try.prog 15 [suV a, suV b] (.b e) := by
    intro e he
    obtain ⟨J, R, W, ru, ver, adm, num⟩ := a
    obtain ⟨J', R', W', ru', ver', adm', num'⟩ := b
    dsimp only at h1 h2 hl
    have key : decide ((⟨J, R, W, ru, ver, adm, num⟩ : Summary) = ⟨J', R', W', ru', ver', adm', num'⟩) = (decide (J = J') && decide (R = R') && decide (W = W') && decide (ru = ru') && decide (ver = ver') && decide (adm = adm') && decide (num = num')) := by
      simp only [Summary.mk.injEq, Bool.decide_and, Bool.and_assoc]
    rw [key] at he
    by_cases c1 : J = J' ∧ R = R'
    · rw [decide_eq_true c1.1] at h1 he
      rw [decide_eq_true c1.2] at h2 he
      by_cases c3 : (W.length = W'.length ∧ ru = ru') ∧ ver = ver' ∧ adm = adm' ∧ num = num'
      · obtain ⟨⟨hlen, rfl⟩, rfl, rfl, rfl⟩ := c3
        (refine spec_of_runs Try.func15 rfl ?_; simp only [Try.f15]; refine ys ?_)
        repeat' (first | refine yw ?_ | ((with_reducible refine Runs.is ?_); first | refine Runs.region (id := 0) ?_ | refine Runs.region (id := 1) ?_ | refine Runs.region (id := 2) ?_ | refine Runs.region (id := 3) ?_ | ((with_reducible refine Runs.isC ?_); refine Runs.cond rfl (zc ?_) (zc ?_) <;> intro hc <;> (try (first | contradiction | (exfalso; omega; done) | (have : hc = trivial := rfl; clear this; clear hc))))) | ((with_reducible refine r_is ?_); first | refine yr ?_ | (refine r_fn rfl (h1) HbF.h zL2 zD ?_; refine r_nn zN zH ?_) | (refine r_fn rfl (h2) HbF.h zL2 zD ?_; refine r_nn zN zH ?_) | ((with_reducible refine r_gd ?_); (first | refine r_guardPf rfl rfl ?_ ?_ | refine r_guardNf rfl rfl ?_ ?_ | refine r_guard rfl rfl ?_ ?_) <;> intro hG <;> (try (exfalso; omega; done)) <;> refine r_nn zN zH ?_)) | fail)
        all_goals first | (exact absurd rfl (by assumption)) | (exfalso; clear h1 h2 he; simp_all [eqc_ru]; done) | skip
        refine Runs.loopI (fun i : Nat => W.length - i) (fun i => i ≤ W.length ∧ W.take i = W'.take i)
          (fun i => ⟨[.any, .any, .ptr 2 0 0, .ptr 3 0 0, .any, .i (i : Nat), .any, .any, .any, .any, .any, .any, .any, .any, .any, .any, .any, .any, .any, .any, .any, .any, .any, .any, .any, .any, .any, .any, .any, .any, .any, .any, .any, .any, .any, .any, .any, .any, .any, .any, .any, .any, .any, .any, .any, .any, .any, .any, .any, .any, .any, .any, .any, .any, .any, .any, .any, .any, .any, .any, .any, .any, .any, .any, .any, .any, .any, .any, .any, .any, .any, .any, .any, .any, .any], [(3, .var 34 (suV ⟨J', R', W', ru, ver, adm, num⟩)), (2, .var 34 (suV ⟨J, R, W, ru, ver, adm, num⟩))]⟩) 0 (by simp) ?_ ?_
        · (refine St.Le.clean zR zU zV)
        rintro i ⟨hi, he2⟩ ih
        by_cases hlt : i < W.length
        · repeat' (first | refine yw ?_ | ((with_reducible refine Runs.is ?_); first | refine Runs.region (id := 4) ?_ | refine Runs.drawn (id := 6) mixed zK ?_ | refine Runs.region (id := 7) ?_ | refine Runs.region (id := 5) ?_ | ((with_reducible refine Runs.isC ?_); refine Runs.cond rfl (zc ?_) (zc ?_) <;> intro hc <;> (try (first | contradiction | (exfalso; omega; done) | (have : hc = trivial := rfl; clear this; clear hc))))) | ((with_reducible refine r_is ?_); first | refine yr ?_) | ((with_reducible refine d_is ?_); first | refine yd ?_) | fail)
          · rw [decide_eq_false (fun q : W = W' => by subst q; contradiction)] at he
            simp at he
            subst he
            (refine Runs.ret1 Try.func15 rfl zM zD ?_; try exact zX)
          · refine ih (i + 1) _ ⟨by omega, by rw [take_getD hlt, take_getD zo, he2]; congr⟩ zo ?_
            (refine St.Le.clean zR zU zV)
        · repeat' (first | refine yw ?_ | ((with_reducible refine Runs.is ?_); first | refine Runs.region (id := 4) ?_ | ((with_reducible refine Runs.isC ?_); refine Runs.cond rfl (zc ?_) (zc ?_) <;> intro hc <;> (try (first | contradiction | (exfalso; omega; done) | (have : hc = trivial := rfl; clear this; clear hc))))) | ((with_reducible refine r_is ?_); first | refine yr ?_) | fail)
          repeat' (first | refine yw ?_ | ((with_reducible refine Runs.is ?_); first | refine Runs.region (id := 8) ?_ | ((with_reducible refine Runs.isC ?_); refine Runs.cond rfl (zc ?_) (zc ?_) <;> intro hc <;> (try (first | contradiction | (exfalso; omega; done) | (have : hc = trivial := rfl; clear this; clear hc))))) | ((with_reducible refine r_is ?_); first | refine yr ?_) | fail)
          rw [List.take_of_length_le zo, List.take_of_length_le zo] at he2
          rw [decide_eq_true he2] at he
          simp at he
          subst he
          (refine Runs.ret1 Try.func15 rfl zM zD ?_; try exact zX)
      · have he3 : e = false := by
          rw [← he]
          cases hx : (true && true && decide (W = W') && decide (ru = ru') && decide (ver = ver') && decide (adm = adm') && decide (num = num'))
          · rfl
          · simp at hx
            exact absurd ⟨⟨by rw [hx.1.1.1.1], hx.1.1.1.2⟩, hx.1.1.2, hx.1.2, hx.2⟩ c3
        subst he3
        (refine spec_of_runs Try.func15 rfl ?_; simp only [Try.f15]; refine ys ?_)
        repeat' (first | refine yw ?_ | ((with_reducible refine Runs.is ?_); first | refine Runs.region (id := 0) ?_ | refine Runs.region (id := 1) ?_ | refine Runs.region (id := 2) ?_ | ((with_reducible refine Runs.isC ?_); refine Runs.cond rfl (zc ?_) (zc ?_) <;> intro hc <;> (try (first | contradiction | (exfalso; omega; done) | (have : hc = trivial := rfl; clear this; clear hc))))) | ((with_reducible refine r_is ?_); first | refine yr ?_ | (refine r_fn rfl (h1) HbF.h zL2 zD ?_; refine r_nn zN zH ?_) | (refine r_fn rfl (h2) HbF.h zL2 zD ?_; refine r_nn zN zH ?_) | ((with_reducible refine r_gd ?_); (first | refine r_guardPf rfl rfl ?_ ?_ | refine r_guardNf rfl rfl ?_ ?_ | refine r_guard rfl rfl ?_ ?_) <;> intro hG <;> (try (exfalso; omega; done)) <;> refine r_nn zN zH ?_)) | fail)
        all_goals first
          | ((refine Runs.ret1 Try.func15 rfl zM zD ?_; try exact zX); done)
          | (exfalso
             have q : (!eqCells [V.i ru.kind, V.i ru.columns, V.i ru.faulty] [V.i ru'.kind, V.i ru'.columns, V.i ru'.faulty]) = false := by assumption
             rw [eqc_ru] at q
             exact c3 ⟨⟨by omega, by simpa using q⟩, by omega, by omega, by omega⟩)
          | skip
    · have he3 : e = false := by
        rw [← he]
        cases hx : (decide (J = J') && decide (R = R') && decide (W = W') && decide (ru = ru') && decide (ver = ver') && decide (adm = adm') && decide (num = num'))
        · rfl
        · simp at hx
          exact absurd ⟨hx.1.1.1.1.1.1, hx.1.1.1.1.1.2⟩ c1
      subst he3
      by_cases d1 : J = J'
      · rw [decide_eq_true d1] at h1
        rw [decide_eq_false (fun q => c1 ⟨d1, q⟩)] at h2
        (refine spec_of_runs Try.func15 rfl ?_; simp only [Try.f15]; refine ys ?_)
        repeat' (first | refine yw ?_ | ((with_reducible refine Runs.is ?_); first | refine Runs.region (id := 0) ?_ | refine Runs.region (id := 1) ?_ | refine Runs.region (id := 2) ?_ | ((with_reducible refine Runs.isC ?_); refine Runs.cond rfl (zc ?_) (zc ?_) <;> intro hc <;> (try (first | contradiction | (exfalso; omega; done) | (have : hc = trivial := rfl; clear this; clear hc))))) | ((with_reducible refine r_is ?_); first | refine yr ?_ | (refine r_fn rfl (h1) HbF.h zL2 zD ?_; refine r_nn zN zH ?_) | (refine r_fn rfl (h2) HbF.h zL2 zD ?_; refine r_nn zN zH ?_) | ((with_reducible refine r_gd ?_); (first | refine r_guardPf rfl rfl ?_ ?_ | refine r_guardNf rfl rfl ?_ ?_ | refine r_guard rfl rfl ?_ ?_) <;> intro hG <;> (try (exfalso; omega; done)) <;> refine r_nn zN zH ?_)) | fail)
        all_goals ((refine Runs.ret1 Try.func15 rfl zM zD ?_; try exact zX))
      · rw [decide_eq_false d1] at h1
        (refine spec_of_runs Try.func15 rfl ?_; simp only [Try.f15]; refine ys ?_)
        repeat' (first | refine yw ?_ | ((with_reducible refine Runs.is ?_); first | refine Runs.region (id := 0) ?_ | refine Runs.region (id := 1) ?_ | refine Runs.region (id := 2) ?_ | ((with_reducible refine Runs.isC ?_); refine Runs.cond rfl (zc ?_) (zc ?_) <;> intro hc <;> (try (first | contradiction | (exfalso; omega; done) | (have : hc = trivial := rfl; clear this; clear hc))))) | ((with_reducible refine r_is ?_); first | refine yr ?_ | (refine r_fn rfl (h1) HbF.h zL2 zD ?_; refine r_nn zN zH ?_) | ((with_reducible refine r_gd ?_); (first | refine r_guardPf rfl rfl ?_ ?_ | refine r_guardNf rfl rfl ?_ ?_ | refine r_guard rfl rfl ?_ ?_) <;> intro hG <;> (try (exfalso; omega; done)) <;> refine r_nn zN zH ?_)) | fail)
        all_goals ((refine Runs.ret1 Try.func15 rfl zM zD ?_; try exact zX))
  exact hgo _ rfl
end Go.Proofs
namespace Go.Proofs
open Go.AM
attribute [local irreducible] AM.evalR AM.evalD AM.Runs AM.valK AM.dK AM.opK AM.stepR AM.CallS AM.St.Le
theorem law_short (s : Summary) : AM.Fn Try.prog 18 [suV s] (.b (decide (s.joined.length ≤ 40 ∧ s.removed.length ≤ 40 ∧ s.weights.length ≤ 40))) := by
  obtain ⟨J, R, W, ru, ver, adm, num⟩ := s
  dsimp only
  (refine spec_of_runs Try.func18 rfl ?_; simp only [Try.f18]; refine ys ?_)
  repeat' (first | refine yw ?_ | ((with_reducible refine Runs.is ?_); first | refine Runs.region ?_ | ((with_reducible refine Runs.isC ?_); refine Runs.cond rfl (zc ?_) (zc ?_) <;> intro hc <;> (try (first | contradiction | (exfalso; omega; done) | (have : hc = trivial := rfl; clear this; clear hc))))) | ((with_reducible refine r_is ?_); first | refine yr ?_ | ((with_reducible refine r_gd ?_); (first | refine r_guardPt rfl rfl ?_ ?_ | refine r_guardNt rfl rfl ?_ ?_ | refine r_guard rfl rfl ?_ ?_) <;> intro hG <;> (try (exfalso; omega; done)) <;> refine r_nn zN zH ?_)) | fail)
  all_goals ((refine Runs.ret1 Try.func18 rfl zM zD ?_; try exact zX))
  all_goals (refine V.Le.of_eq (congrArg V.b ?_); first | (refine decide_eq_decide.2 ?_; omega) | (refine (decide_eq_false ?_).symm; omega) | (refine (decide_eq_true ?_).symm; omega))
theorem ref_servers (f : Bool) (l : List Int) : AM.Fn Try.prog 50 [.sl f (l.map .i)] (.b (l.all srvB)) := by
  (refine spec_of_runs Try.func50 rfl ?_; simp only [Try.f50]; refine ys ?_)
  (refine Runs.lens 0 ?_; refine yl ?_)
  intro hl
  repeat' (first | refine yw ?_ | ((with_reducible refine Runs.is ?_); first | refine Runs.region (id := 0) ?_ | refine Runs.region (id := 1) ?_ | ((with_reducible refine Runs.isC ?_); refine Runs.cond rfl (zc ?_) (zc ?_) <;> intro hc <;> (try (first | contradiction | (exfalso; omega; done) | (have : hc = trivial := rfl; clear this; clear hc))))) | ((with_reducible refine r_is ?_); first | refine yr ?_) | fail)
  refine Runs.loopI (fun i : Nat => l.length - i) (fun i => i ≤ l.length ∧ (l.take i).all srvB = true)
    (fun i => ⟨[.sl f (l.map .i), .any, .any, .i (i : Nat), .any, .any, .any, .any, .any, .any, .any, .any, .any, .any, .any, .any], []⟩) 0 (by simp) ?_ ?_
  · (refine St.Le.clean zR zU zV)
  rintro i ⟨hi, he⟩ ih
  by_cases hlt : i < l.length
  · have hS := val_Server (l.getD i default)
    change AM.Fn _ _ _ (.b (srvB (l.getD i default))) at hS
    cases hb : srvB (l.getD i default)
    · rw [hb] at hS
      have hbad : l.all srvB = false := by
        cases hq : l.all srvB
        · rfl
        · rw [List.all_eq_true] at hq
          rw [hq _ (getD_in hlt)] at hb; cases hb
      rw [hbad]
      repeat' (first | refine yw ?_ | ((with_reducible refine Runs.is ?_); first | refine Runs.region (id := 2) ?_ | refine Runs.region (id := 4) ?_ | refine Runs.region (id := 5) ?_ | refine Runs.region (id := 3) ?_ | ((with_reducible refine Runs.isC ?_); refine Runs.cond rfl (zc ?_) (zc ?_) <;> intro hc <;> (try (first | contradiction | (exfalso; omega; done) | (have : hc = trivial := rfl; clear this; clear hc))))) | ((with_reducible refine r_is ?_); first | refine yr ?_ | (refine r_fn rfl (hS) HbF.h zL1 zD ?_; refine r_nn zN zH ?_)) | fail)
      (refine Runs.ret1 Try.func50 rfl zM zD ?_; try exact zX)
    · rw [hb] at hS
      repeat' (first | refine yw ?_ | ((with_reducible refine Runs.is ?_); first | refine Runs.region (id := 2) ?_ | refine Runs.region (id := 4) ?_ | refine Runs.region (id := 5) ?_ | refine Runs.region (id := 3) ?_ | ((with_reducible refine Runs.isC ?_); refine Runs.cond rfl (zc ?_) (zc ?_) <;> intro hc <;> (try (first | contradiction | (exfalso; omega; done) | (have : hc = trivial := rfl; clear this; clear hc))))) | ((with_reducible refine r_is ?_); first | refine yr ?_ | (refine r_fn rfl (hS) HbF.h zL1 zD ?_; refine r_nn zN zH ?_)) | fail)
      refine ih (i + 1) _ ⟨by omega, ?_⟩ zo ?_
      · rw [take_getD hlt, List.all_append, he]; simp only [List.all_cons, List.all_nil, Bool.and_true, Bool.true_and]; exact hb
      · (refine St.Le.clean zR zU zV)
  · rw [List.take_of_length_le zo] at he
    rw [he]
    repeat' (first | refine yw ?_ | ((with_reducible refine Runs.is ?_); first | refine Runs.region (id := 2) ?_ | ((with_reducible refine Runs.isC ?_); refine Runs.cond rfl (zc ?_) (zc ?_) <;> intro hc <;> (try (first | contradiction | (exfalso; omega; done) | (have : hc = trivial := rfl; clear this; clear hc))))) | ((with_reducible refine r_is ?_); first | refine yr ?_) | fail)
    repeat' (first | refine yw ?_ | ((with_reducible refine Runs.is ?_); first | refine Runs.region (id := 6) ?_ | ((with_reducible refine Runs.isC ?_); refine Runs.cond rfl (zc ?_) (zc ?_) <;> intro hc <;> (try (first | contradiction | (exfalso; omega; done) | (have : hc = trivial := rfl; clear this; clear hc))))) | ((with_reducible refine r_is ?_); first | refine yr ?_) | fail)
    (refine Runs.ret1 Try.func50 rfl zM zD ?_; try exact zX)
theorem vax_Sum (s : Summary) (hw : s.weights.length ≤ 4611686018427387904) : AM.Fn Try.prog 20 [suV s] (.i (sumE s)) := by
  have hgo : ∀ e, sumE s = e → AM.Fn Try.prog 20 [suV s] (.i e) := by
    intro e he
    obtain ⟨J, R, W, ru, ver, adm, num⟩ := s
    unfold sumE at he
    dsimp only at he hw
    have hS1 := ref_servers false J
    have hS2 := ref_servers false R
    have ha1 := ref_Ascending false J
    have ha2 := ref_Ascending false R
    have hru := vax_Rule ru
    rw [List.all_append] at he
    cases b1 : J.all srvB
    · rw [b1] at hS1 he
      rw [Bool.false_and, if_pos rfl] at he
      subst he
      (refine spec_of_runs Try.func20 rfl ?_; simp only [Try.f20]; refine ys ?_)
      repeat' (first | refine yw ?_ | ((with_reducible refine Runs.is ?_); first | refine Runs.region (id := 0) ?_ | refine Runs.region (id := 1) ?_ | refine Runs.region (id := 2) ?_ | ((with_reducible refine Runs.isC ?_); refine Runs.cond rfl (zc ?_) (zc ?_) <;> intro hc <;> (try (first | contradiction | (exfalso; omega; done) | (have : hc = trivial := rfl; clear this; clear hc))))) | ((with_reducible refine r_is ?_); first | refine yr ?_ | (refine r_fn rfl (hS1) HbF.h zL1 zD ?_; refine r_nn zN zH ?_) | ((with_reducible refine r_gd ?_); (first | refine r_guardPf rfl rfl ?_ ?_ | refine r_guardNf rfl rfl ?_ ?_ | refine r_guard rfl rfl ?_ ?_) <;> intro hG <;> (try (exfalso; omega; done)) <;> refine r_nn zN zH ?_)) | fail)
      (refine Runs.ret1 Try.func20 rfl zM zD ?_; try exact zX)
    rw [b1] at hS1 he
    cases b2 : R.all srvB
    · rw [b2] at hS2 he
      rw [Bool.true_and, if_pos rfl] at he
      subst he
      (refine spec_of_runs Try.func20 rfl ?_; simp only [Try.f20]; refine ys ?_)
      repeat' (first | refine yw ?_ | ((with_reducible refine Runs.is ?_); first | refine Runs.region (id := 0) ?_ | refine Runs.region (id := 1) ?_ | refine Runs.region (id := 2) ?_ | ((with_reducible refine Runs.isC ?_); refine Runs.cond rfl (zc ?_) (zc ?_) <;> intro hc <;> (try (first | contradiction | (exfalso; omega; done) | (have : hc = trivial := rfl; clear this; clear hc))))) | ((with_reducible refine r_is ?_); first | refine yr ?_ | (refine r_fn rfl (hS1) HbF.h zL1 zD ?_; refine r_nn zN zH ?_) | (refine r_fn rfl (hS2) HbF.h zL1 zD ?_; refine r_nn zN zH ?_) | ((with_reducible refine r_gd ?_); (first | refine r_guardPf rfl rfl ?_ ?_ | refine r_guardNf rfl rfl ?_ ?_ | refine r_guard rfl rfl ?_ ?_) <;> intro hG <;> (try (exfalso; omega; done)) <;> refine r_nn zN zH ?_)) | fail)
      (refine Runs.ret1 Try.func20 rfl zM zD ?_; try exact zX)
    rw [b2] at hS2 he
    rw [if_neg zd] at he
    cases hA1 : ascR J
    · rw [hA1] at ha1 he
      rw [if_pos (.inl rfl)] at he
      subst he
      (refine spec_of_runs Try.func20 rfl ?_; simp only [Try.f20]; refine ys ?_)
      repeat' (first | refine yw ?_ | ((with_reducible refine Runs.is ?_); first | refine Runs.region (id := 0) ?_ | refine Runs.region (id := 1) ?_ | refine Runs.region (id := 2) ?_ | refine Runs.region (id := 3) ?_ | refine Runs.region (id := 4) ?_ | ((with_reducible refine Runs.isC ?_); refine Runs.cond rfl (zc ?_) (zc ?_) <;> intro hc <;> (try (first | contradiction | (exfalso; omega; done) | (have : hc = trivial := rfl; clear this; clear hc))))) | ((with_reducible refine r_is ?_); first | refine yr ?_ | (refine r_fn rfl (hS1) HbF.h zL1 zD ?_; refine r_nn zN zH ?_) | (refine r_fn rfl (hS2) HbF.h zL1 zD ?_; refine r_nn zN zH ?_) | (refine r_fn rfl (ha1) HbF.h zL1 zD ?_; refine r_nn zN zH ?_) | ((with_reducible refine r_gd ?_); (first | refine r_guardPf rfl rfl ?_ ?_ | refine r_guardNf rfl rfl ?_ ?_ | refine r_guard rfl rfl ?_ ?_) <;> intro hG <;> (try (exfalso; omega; done)) <;> refine r_nn zN zH ?_)) | fail)
      (refine Runs.ret1 Try.func20 rfl zM zD ?_; try exact zX)
    rw [hA1] at ha1 he
    cases hA2 : ascR R
    · rw [hA2] at ha2 he
      rw [if_pos (.inr rfl)] at he
      subst he
      (refine spec_of_runs Try.func20 rfl ?_; simp only [Try.f20]; refine ys ?_)
      repeat' (first | refine yw ?_ | ((with_reducible refine Runs.is ?_); first | refine Runs.region (id := 0) ?_ | refine Runs.region (id := 1) ?_ | refine Runs.region (id := 2) ?_ | refine Runs.region (id := 3) ?_ | refine Runs.region (id := 4) ?_ | ((with_reducible refine Runs.isC ?_); refine Runs.cond rfl (zc ?_) (zc ?_) <;> intro hc <;> (try (first | contradiction | (exfalso; omega; done) | (have : hc = trivial := rfl; clear this; clear hc))))) | ((with_reducible refine r_is ?_); first | refine yr ?_ | (refine r_fn rfl (hS1) HbF.h zL1 zD ?_; refine r_nn zN zH ?_) | (refine r_fn rfl (hS2) HbF.h zL1 zD ?_; refine r_nn zN zH ?_) | (refine r_fn rfl (ha1) HbF.h zL1 zD ?_; refine r_nn zN zH ?_) | (refine r_fn rfl (ha2) HbF.h zL1 zD ?_; refine r_nn zN zH ?_) | ((with_reducible refine r_gd ?_); (first | refine r_guardPf rfl rfl ?_ ?_ | refine r_guardNf rfl rfl ?_ ?_ | refine r_guard rfl rfl ?_ ?_) <;> intro hG <;> (try (exfalso; omega; done)) <;> refine r_nn zN zH ?_)) | fail)
      (refine Runs.ret1 Try.func20 rfl zM zD ?_; try exact zX)
    rw [hA2] at ha2 he
    rw [if_neg zd] at he
    (refine spec_of_runs Try.func20 rfl ?_; simp only [Try.f20]; refine ys ?_)
    repeat' (first | refine yw ?_ | ((with_reducible refine Runs.is ?_); first | refine Runs.region (id := 0) ?_ | refine Runs.region (id := 1) ?_ | refine Runs.region (id := 2) ?_ | refine Runs.region (id := 3) ?_ | refine Runs.region (id := 4) ?_ | refine Runs.region (id := 5) ?_ | ((with_reducible refine Runs.isC ?_); refine Runs.cond rfl (zc ?_) (zc ?_) <;> intro hc <;> (try (first | contradiction | (exfalso; omega; done) | (have : hc = trivial := rfl; clear this; clear hc))))) | ((with_reducible refine r_is ?_); first | refine yr ?_ | (refine r_fn rfl (hS1) HbF.h zL1 zD ?_; refine r_nn zN zH ?_) | (refine r_fn rfl (hS2) HbF.h zL1 zD ?_; refine r_nn zN zH ?_) | (refine r_fn rfl (ha1) HbF.h zL1 zD ?_; refine r_nn zN zH ?_) | (refine r_fn rfl (ha2) HbF.h zL1 zD ?_; refine r_nn zN zH ?_) | ((with_reducible refine r_gd ?_); (first | refine r_guardPf rfl rfl ?_ ?_ | refine r_guardNf rfl rfl ?_ ?_ | refine r_guard rfl rfl ?_ ?_) <;> intro hG <;> (try (exfalso; omega; done)) <;> refine r_nn zN zH ?_)) | fail)
    clear hS1 hS2 ha1 ha2
    have hsplit : ∀ e0, weiE W 0 W.length = e0 → (if e0 ≠ 0 then e0 else if ru ≠ ⟨0, 0, 0⟩ ∧ ruleE ru ≠ 0 then ruleE ru else if negB ver adm num = true ∨ (ru = ⟨0, 0, 0⟩ ∧ (ver ≠ 0 ∨ adm ≠ 0 ∨ num ≠ 0)) then 9 else 0) = e := fun e0 h => by rw [← h]; exact he
    obtain ⟨e0, he0⟩ : ∃ e0, weiE W 0 W.length = e0 := ⟨_, rfl⟩
    replace he := hsplit e0 he0
    clear hsplit
    refine Runs.loopI (fun i : Nat => W.length - i) (fun i => i ≤ W.length ∧ weiE W i (W.length - i) = e0)
      (fun i => ⟨[.any, .ptr 1 0 0, .any, .i (i : Nat), .any, .any, .any, .any, .any, .any, .any, .any, .any, .any, .any, .any, .any, .any, .any, .any, .any, .any, .any, .any, .any, .any, .any, .any, .any, .any, .any, .any, .any, .any, .any, .any, .any, .any, .any, .any, .any, .any, .any, .any, .any, .any, .any, .any, .any, .any, .any, .any, .any, .any, .any, .any, .any, .any, .any, .any, .any, .any, .any, .any, .any, .any, .any, .any, .any, .any, .any, .any, .any, .any, .any, .any, .any, .any, .any, .any, .any, .any, .any, .any, .any, .any, .any, .any, .any, .any, .any, .any, .any, .any, .any, .any, .any, .any, .any, .any, .any, .any, .any, .any, .any, .any, .any, .any, .any, .any, .any, .any, .any, .any, .any, .any, .any, .any, .any, .any, .any, .any, .any, .any, .any, .any, .any], [(1, .var 34 (suV ⟨J, R, W, ru, ver, adm, num⟩))]⟩) 0 (by simpa using he0) ?_ ?_
    · (refine St.Le.clean zR zU zV)
    rintro i ⟨hi, he2⟩ ih
    by_cases hlt : i < W.length
    · rw [show W.length - i = (W.length - (i + 1)) + 1 by omega, weiE] at he2
      have e1 : ((i : Int) - 1).toNat = i - 1 := by omega
      rw [← e1] at he2
      simp only [srvB, negB, decide_eq_false_iff_not, decide_eq_true_eq] at he2
      repeat' (first | refine yw ?_ | ((with_reducible refine Runs.is ?_); first | refine Runs.region (id := 6) ?_ | ((with_reducible refine Runs.isC ?_); refine Runs.cond rfl (zc ?_) (zc ?_) <;> intro hc <;> (try (first | contradiction | (exfalso; omega; done) | (have : hc = trivial := rfl; clear this; clear hc))))) | ((with_reducible refine r_is ?_); first | refine yr ?_) | fail)
      repeat' (first | refine yw ?_ | ((with_reducible refine Runs.is ?_); first | refine Runs.region (id := 8) ?_ | refine Runs.region (id := 9) ?_ | refine Runs.region (id := 10) ?_ | refine Runs.drawn (id := 11) mixed zK ?_ | refine Runs.region (id := 12) ?_ | ((with_reducible refine Runs.isC ?_); refine Runs.cond rfl (zc ?_) (zc ?_) <;> intro hc <;> (try (first | contradiction | (exfalso; omega; done) | (have : hc = trivial := rfl; clear this; clear hc))))) | ((with_reducible refine r_is ?_); first | refine yr ?_ | (refine r_fn rfl (val_Server _) HbF.h zL1 zD ?_; refine r_nn zN zH ?_) | ((with_reducible refine r_gd ?_); (first | refine r_guardPf rfl rfl ?_ ?_ | refine r_guardNf rfl rfl ?_ ?_ | refine r_guard rfl rfl ?_ ?_) <;> intro hG <;> (try (exfalso; omega; done)) <;> refine r_nn zN zH ?_)) | ((with_reducible refine d_is ?_); first | refine yd ?_ | ((with_reducible refine d_gd ?_); (first | refine d_guardPt rfl rfl ?_ ?_ | refine d_guardNt rfl rfl ?_ ?_ | refine d_guard rfl rfl ?_ ?_) <;> intro hG <;> (try (exfalso; omega; done)) <;> refine d_nn zN zH ?_)) | fail)
      all_goals first
        | (rw [if_pos zo] at he2
           subst he2
           rw [if_pos zd] at he
           subst he
           (refine Runs.ret1 Try.func20 rfl zM zD ?_; try exact zX)
           done)
        | (rw [if_neg zo, if_pos zo] at he2
           subst he2
           rw [if_pos zd] at he
           subst he
           (refine Runs.ret1 Try.func20 rfl zM zD ?_; try exact zX)
           done)
        | (rw [if_neg zo, if_neg zo] at he2
           repeat' (first | refine yw ?_ | ((with_reducible refine Runs.is ?_); first | refine Runs.region (id := 7) ?_ | ((with_reducible refine Runs.isC ?_); refine Runs.cond rfl (zc ?_) (zc ?_) <;> intro hc <;> (try (first | contradiction | (exfalso; omega; done) | (have : hc = trivial := rfl; clear this; clear hc))))) | ((with_reducible refine r_is ?_); first | refine yr ?_) | fail)
           refine ih (i + 1) _ ⟨by omega, by first | exact he2 | (rw [show W.length - (i + 1) = W.length - i - 1 by omega]; exact he2)⟩ zo ?_
           (refine St.Le.clean zR zU zV)
           done)
        | trace_state
    · repeat' (first | refine yw ?_ | ((with_reducible refine Runs.is ?_); first | refine Runs.region (id := 6) ?_ | ((with_reducible refine Runs.isC ?_); refine Runs.cond rfl (zc ?_) (zc ?_) <;> intro hc <;> (try (first | contradiction | (exfalso; omega; done) | (have : hc = trivial := rfl; clear this; clear hc))))) | ((with_reducible refine r_is ?_); first | refine yr ?_) | fail)
      rw [show W.length - i = 0 by omega, weiE] at he2
      subst he2
      rw [if_neg zd] at he
      simp only [negB, decide_eq_true_eq] at he
      have hz0 := eqc_ru0 ru
      by_cases hz : ru = ⟨0, 0, 0⟩
      · rw [if_neg (fun h => h.1 hz)] at he
        rw [decide_eq_true hz] at hz0
        replace he : (if (ver < 0 ∨ adm < 0 ∨ num < 0) ∨ (ver ≠ 0 ∨ adm ≠ 0 ∨ num ≠ 0) then (9 : Int) else 0) = e := by rw [← he]; simp only [hz, true_and]
        repeat' (first | refine yw ?_ | ((with_reducible refine Runs.is ?_); first | refine Runs.region (id := 13) ?_ | refine Runs.region (id := 14) ?_ | refine Runs.region (id := 15) ?_ | refine Runs.region (id := 16) ?_ | refine Runs.region (id := 17) ?_ | refine Runs.region (id := 18) ?_ | refine Runs.region (id := 19) ?_ | ((with_reducible refine Runs.isC ?_); refine Runs.cond rfl (zc ?_) (zc ?_) <;> intro hc <;> (try (first | contradiction | (exfalso; omega; done) | (have : hc = trivial := rfl; clear this; clear hc))))) | ((with_reducible refine r_is ?_); first | refine yr ?_ | ((with_reducible refine r_gd ?_); (first | refine r_guardPf rfl rfl ?_ ?_ | refine r_guardNf rfl rfl ?_ ?_ | refine r_guardPt rfl rfl ?_ ?_ | refine r_guardNt rfl rfl ?_ ?_ | refine r_guard rfl rfl ?_ ?_) <;> intro hG <;> (try (exfalso; omega; done)) <;> refine r_nn zN zH ?_)) | fail)
        all_goals first
          | (exact absurd hz (by assumption))
          | (exfalso
             have q : eqCells [V.i ru.kind, V.i ru.columns, V.i ru.faulty] [V.i 0, V.i 0, V.i 0] = false := by assumption
             rw [hz0] at q; cases q)
          | (rw [if_pos zo] at he
             subst he
             (refine Runs.ret1 Try.func20 rfl zM zD ?_; try exact zX)
             done)
          | (rw [if_neg zo] at he
             subst he
             (refine Runs.ret1 Try.func20 rfl zM zD ?_; try exact zX)
             done)
          | trace_state
      · rw [decide_eq_false hz] at hz0
        repeat' (first | refine yw ?_ | ((with_reducible refine Runs.is ?_); first | refine Runs.region (id := 13) ?_ | refine Runs.region (id := 14) ?_ | refine Runs.region (id := 15) ?_ | refine Runs.region (id := 16) ?_ | refine Runs.region (id := 17) ?_ | refine Runs.region (id := 18) ?_ | refine Runs.region (id := 19) ?_ | ((with_reducible refine Runs.isC ?_); refine Runs.cond rfl (zc ?_) (zc ?_) <;> intro hc <;> (try (first | contradiction | (exfalso; omega; done) | (have : hc = trivial := rfl; clear this; clear hc))))) | ((with_reducible refine r_is ?_); first | refine yr ?_ | (refine r_fn rfl (hru) HbF.h zL1 zD ?_; refine r_nn zN zH ?_) | ((with_reducible refine r_gd ?_); (first | refine r_guardPf rfl rfl ?_ ?_ | refine r_guardNf rfl rfl ?_ ?_ | refine r_guardPt rfl rfl ?_ ?_ | refine r_guardNt rfl rfl ?_ ?_ | refine r_guard rfl rfl ?_ ?_) <;> intro hG <;> (try (exfalso; omega; done)) <;> refine r_nn zN zH ?_)) | fail)
        all_goals first
          | (exact absurd (by assumption) hz)
          | (exfalso
             have q : eqCells [V.i ru.kind, V.i ru.columns, V.i ru.faulty] [V.i 0, V.i 0, V.i 0] = true := by assumption
             rw [hz0] at q; cases q)
          | (rw [if_pos ⟨hz, by assumption⟩] at he
             subst he
             (refine Runs.ret1 Try.func20 rfl zM zD ?_; try exact zX)
             done)
          | (rw [if_neg (fun h => h.2 (by assumption))] at he
             first
               | (rw [if_pos (.inl zo)] at he
                  subst he
                  (refine Runs.ret1 Try.func20 rfl zM zD ?_; try exact zX)
                  done)
               | (rw [if_neg (by
                    rintro (h | ⟨h, _⟩)
                    · omega
                    · exact hz h)] at he
                  subst he
                  (refine Runs.ret1 Try.func20 rfl zM zD ?_; try exact zX)
                  done))
          | trace_state
  exact hgo _ rfl
end Go.Proofs
namespace Go.Proofs
open Go.AM
attribute [local irreducible] AM.evalR AM.evalD AM.Runs AM.valK AM.dK AM.opK AM.stepR AM.CallS AM.St.Le
theorem equal_ints (f g : Bool) (a b : List Int) : AM.Fn Try.prog 54 [.sl f (a.map .i), .sl g (b.map .i)] (.b (decide (a = b))) := by
  (refine spec_of_runs Try.func54 rfl ?_; simp only [Try.f54]; refine ys ?_)
  (refine Runs.lens 0 ?_; refine yl ?_)
  intro hl
  repeat' (first | refine yw ?_ | ((with_reducible refine Runs.is ?_); first | refine Runs.region (id := 0) ?_ | refine Runs.region (id := 1) ?_ | refine Runs.region (id := 2) ?_ | refine Runs.region (id := 3) ?_ | ((with_reducible refine Runs.isC ?_); refine Runs.cond rfl (zc ?_) (zc ?_) <;> intro hc <;> (try (first | contradiction | (exfalso; omega; done) | (have : hc = trivial := rfl; clear this; clear hc))))) | ((with_reducible refine r_is ?_); first | refine yr ?_) | fail)
  · (refine Runs.ret1 Try.func54 rfl zM zD ?_; try exact zX)
    refine V.Le.of_eq (congrArg V.b (decide_eq_false ?_).symm)
    rintro rfl; omega
  · have hlen : a.length = b.length := by omega
    refine Runs.loopI (fun i : Nat => a.length - i) (fun i => i ≤ a.length ∧ a.take i = b.take i)
      (fun i => ⟨[.sl f (a.map .i), .sl g (b.map .i), .any, .any, .any, .any, .any, .any, .any, .any, .any, .any, .i (a.length : Nat), .i (i : Nat), .any, .any, .any, .any, .any, .any, .any, .any, .any, .any, .any, .any], []⟩) 0 (by simp) ?_ ?_
    · (refine St.Le.clean zR zU zV)
    rintro i ⟨hi, he⟩ ih
    by_cases hlt : i < a.length
    · repeat' (first | refine yw ?_ | ((with_reducible refine Runs.is ?_); first | refine Runs.region (id := 4) ?_ | refine Runs.region (id := 5) ?_ | refine Runs.drawn (id := 6) mixed zK ?_ | refine Runs.region (id := 7) ?_ | refine Runs.region (id := 8) ?_ | ((with_reducible refine Runs.isC ?_); refine Runs.cond rfl (zc ?_) (zc ?_) <;> intro hc <;> (try (first | contradiction | (exfalso; omega; done) | (have : hc = trivial := rfl; clear this; clear hc))))) | ((with_reducible refine r_is ?_); first | refine yr ?_) | ((with_reducible refine d_is ?_); first | refine yd ?_) | fail)
      · (refine Runs.ret1 Try.func54 rfl zM zD ?_; try exact zX)
        refine V.Le.of_eq (congrArg V.b (decide_eq_false ?_).symm)
        rintro rfl
        exact absurd rfl hc
      · refine ih (i + 1) _ ⟨by omega, ?_⟩ zo ?_
        · rw [take_getD hlt, take_getD zo, he, hc]
        · (refine St.Le.clean zR zU zV)
    · rw [List.take_of_length_le zo, List.take_of_length_le zo] at he
      repeat' (first | refine yw ?_ | ((with_reducible refine Runs.is ?_); first | refine Runs.region (id := 4) ?_ | ((with_reducible refine Runs.isC ?_); refine Runs.cond rfl (zc ?_) (zc ?_) <;> intro hc <;> (try (first | contradiction | (exfalso; omega; done) | (have : hc = trivial := rfl; clear this; clear hc))))) | ((with_reducible refine r_is ?_); first | refine yr ?_) | fail)
      repeat' (first | refine yw ?_ | ((with_reducible refine Runs.is ?_); first | refine Runs.region (id := 9) ?_ | ((with_reducible refine Runs.isC ?_); refine Runs.cond rfl (zc ?_) (zc ?_) <;> intro hc <;> (try (first | contradiction | (exfalso; omega; done) | (have : hc = trivial := rfl; clear this; clear hc))))) | ((with_reducible refine r_is ?_); first | refine yr ?_) | fail)
      (refine Runs.ret1 Try.func54 rfl zM zD ?_; try exact zX)
      exact V.Le.of_eq (congrArg V.b (decide_eq_true he).symm)
theorem equal_wes (f g : Bool) (a b : List WeightEntry) : AM.Fn Try.prog 55 [.sl f (a.map weV), .sl g (b.map weV)] (.b (decide (a = b))) := by
  (refine spec_of_runs Try.func55 rfl ?_; simp only [Try.f55]; refine ys ?_)
  (refine Runs.lens 0 ?_; refine yl ?_)
  intro hl
  repeat' (first | refine yw ?_ | ((with_reducible refine Runs.is ?_); first | refine Runs.region (id := 0) ?_ | refine Runs.region (id := 1) ?_ | refine Runs.region (id := 2) ?_ | refine Runs.region (id := 3) ?_ | ((with_reducible refine Runs.isC ?_); refine Runs.cond rfl (zc ?_) (zc ?_) <;> intro hc <;> (try (first | contradiction | (exfalso; omega; done) | (have : hc = trivial := rfl; clear this; clear hc))))) | ((with_reducible refine r_is ?_); first | refine yr ?_) | fail)
  · (refine Runs.ret1 Try.func55 rfl zM zD ?_; try exact zX)
    refine V.Le.of_eq (congrArg V.b (decide_eq_false ?_).symm)
    rintro rfl; omega
  · have hlen : a.length = b.length := by omega
    refine Runs.loopI (fun i : Nat => a.length - i) (fun i => i ≤ a.length ∧ a.take i = b.take i)
      (fun i => ⟨[.sl f (a.map weV), .sl g (b.map weV), .any, .any, .any, .any, .any, .any, .any, .any, .any, .any, .i (a.length : Nat), .i (i : Nat), .any, .any, .any, .any, .any, .any, .any, .any, .any, .any, .any, .any], []⟩) 0 (by simp) ?_ ?_
    · (refine St.Le.clean zR zU zV)
    rintro i ⟨hi, he⟩ ih
    by_cases hlt : i < a.length
    · repeat' (first | refine yw ?_ | ((with_reducible refine Runs.is ?_); first | refine Runs.region (id := 4) ?_ | refine Runs.region (id := 5) ?_ | refine Runs.drawn (id := 6) mixed zK ?_ | refine Runs.region (id := 7) ?_ | refine Runs.region (id := 8) ?_ | ((with_reducible refine Runs.isC ?_); refine Runs.cond rfl (zc ?_) (zc ?_) <;> intro hc <;> (try (first | contradiction | (exfalso; omega; done) | (have : hc = trivial := rfl; clear this; clear hc))))) | ((with_reducible refine r_is ?_); first | refine yr ?_) | ((with_reducible refine d_is ?_); first | refine yd ?_) | fail)
      · (refine Runs.ret1 Try.func55 rfl zM zD ?_; try exact zX)
        refine V.Le.of_eq (congrArg V.b (decide_eq_false ?_).symm)
        rintro rfl
        exact absurd rfl hc
      · refine ih (i + 1) _ ⟨by omega, ?_⟩ zo ?_
        · rw [take_getD hlt, take_getD zo, he, hc]
        · (refine St.Le.clean zR zU zV)
    · rw [List.take_of_length_le zo, List.take_of_length_le zo] at he
      repeat' (first | refine yw ?_ | ((with_reducible refine Runs.is ?_); first | refine Runs.region (id := 4) ?_ | ((with_reducible refine Runs.isC ?_); refine Runs.cond rfl (zc ?_) (zc ?_) <;> intro hc <;> (try (first | contradiction | (exfalso; omega; done) | (have : hc = trivial := rfl; clear this; clear hc))))) | ((with_reducible refine r_is ?_); first | refine yr ?_) | fail)
      repeat' (first | refine yw ?_ | ((with_reducible refine Runs.is ?_); first | refine Runs.region (id := 9) ?_ | ((with_reducible refine Runs.isC ?_); refine Runs.cond rfl (zc ?_) (zc ?_) <;> intro hc <;> (try (first | contradiction | (exfalso; omega; done) | (have : hc = trivial := rfl; clear this; clear hc))))) | ((with_reducible refine r_is ?_); first | refine yr ?_) | fail)
      (refine Runs.ret1 Try.func55 rfl zM zD ?_; try exact zX)
      exact V.Le.of_eq (congrArg V.b (decide_eq_true he).symm)
theorem member_Equal (a b : Summary) : AM.Fn Try.prog 21 [suV a, suV b] (.b (decide (a = b))) := by
  have h1 := equal_ints false false a.joined b.joined
  have h2 := equal_ints false false a.removed b.removed
  have h3 := equal_wes false false a.weights b.weights
  have hgo : ∀ e, decide (a = b) = e → AM.Fn Try.prog 21 [suV a, suV b] (.b e) := by
    intro e he
    obtain ⟨J, R, W, ru, ver, adm, num⟩ := a
    obtain ⟨J', R', W', ru', ver', adm', num'⟩ := b
    dsimp only at h1 h2 h3
    have key : decide ((⟨J, R, W, ru, ver, adm, num⟩ : Summary) = ⟨J', R', W', ru', ver', adm', num'⟩) = (decide (J = J') && decide (R = R') && decide (W = W') && decide (ru = ru') && decide (ver = ver') && decide (adm = adm') && decide (num = num')) := by
      simp only [Summary.mk.injEq, Bool.decide_and, Bool.and_assoc]
    rw [key] at he
    by_cases c1 : J = J'
    · rw [decide_eq_true c1] at h1 he
      by_cases c2 : R = R'
      · rw [decide_eq_true c2] at h2 he
        by_cases c3 : W = W'
        · rw [decide_eq_true c3] at h3 he
          (refine spec_of_runs Try.func21 rfl ?_; simp only [Try.f21]; refine ys ?_)
          repeat' (first | refine yw ?_ | ((with_reducible refine Runs.is ?_); first | refine Runs.region ?_ | ((with_reducible refine Runs.isC ?_); refine Runs.cond rfl (zc ?_) (zc ?_) <;> intro hc <;> (try (first | contradiction | (exfalso; omega; done) | (have : hc = trivial := rfl; clear this; clear hc))))) | ((with_reducible refine r_is ?_); first | refine yr ?_ | (refine r_fn rfl (h1) HbF.h zL2 zD ?_; refine r_nn zN zH ?_) | (refine r_fn rfl (h2) HbF.h zL2 zD ?_; refine r_nn zN zH ?_) | (refine r_fn rfl (h3) HbF.h zL2 zD ?_; refine r_nn zN zH ?_) | ((with_reducible refine r_gd ?_); (first | refine r_guardPt rfl rfl ?_ ?_ | refine r_guardNt rfl rfl ?_ ?_ | refine r_guard rfl rfl ?_ ?_) <;> intro hG <;> (try (exfalso; omega; done)) <;> refine r_nn zN zH ?_)) | fail)
          all_goals ((refine Runs.ret1 Try.func21 rfl zM zD ?_; try exact zX))
          all_goals (refine V.Le.of_eq (congrArg V.b ?_))
          all_goals rw [← he]
          all_goals clear he h1 h2 h3
          all_goals (try simp only [eqc_ru, Bool.not_true, decide_eq_true_eq, decide_eq_false_iff_not] at *)
          all_goals simp_all
        · rw [decide_eq_false c3] at h3 he
          (refine spec_of_runs Try.func21 rfl ?_; simp only [Try.f21]; refine ys ?_)
          repeat' (first | refine yw ?_ | ((with_reducible refine Runs.is ?_); first | refine Runs.region ?_ | ((with_reducible refine Runs.isC ?_); refine Runs.cond rfl (zc ?_) (zc ?_) <;> intro hc <;> (try (first | contradiction | (exfalso; omega; done) | (have : hc = trivial := rfl; clear this; clear hc))))) | ((with_reducible refine r_is ?_); first | refine yr ?_ | (refine r_fn rfl (h1) HbF.h zL2 zD ?_; refine r_nn zN zH ?_) | (refine r_fn rfl (h2) HbF.h zL2 zD ?_; refine r_nn zN zH ?_) | (refine r_fn rfl (h3) HbF.h zL2 zD ?_; refine r_nn zN zH ?_) | ((with_reducible refine r_gd ?_); (first | refine r_guardPt rfl rfl ?_ ?_ | refine r_guardNt rfl rfl ?_ ?_ | refine r_guard rfl rfl ?_ ?_) <;> intro hG <;> (try (exfalso; omega; done)) <;> refine r_nn zN zH ?_)) | fail)
          all_goals ((refine Runs.ret1 Try.func21 rfl zM zD ?_; try exact zX))
          all_goals (refine V.Le.of_eq (congrArg V.b ?_); simp_all)
      · rw [decide_eq_false c2] at h2 he
        (refine spec_of_runs Try.func21 rfl ?_; simp only [Try.f21]; refine ys ?_)
        repeat' (first | refine yw ?_ | ((with_reducible refine Runs.is ?_); first | refine Runs.region ?_ | ((with_reducible refine Runs.isC ?_); refine Runs.cond rfl (zc ?_) (zc ?_) <;> intro hc <;> (try (first | contradiction | (exfalso; omega; done) | (have : hc = trivial := rfl; clear this; clear hc))))) | ((with_reducible refine r_is ?_); first | refine yr ?_ | (refine r_fn rfl (h1) HbF.h zL2 zD ?_; refine r_nn zN zH ?_) | (refine r_fn rfl (h2) HbF.h zL2 zD ?_; refine r_nn zN zH ?_) | ((with_reducible refine r_gd ?_); (first | refine r_guardPt rfl rfl ?_ ?_ | refine r_guardNt rfl rfl ?_ ?_ | refine r_guard rfl rfl ?_ ?_) <;> intro hG <;> (try (exfalso; omega; done)) <;> refine r_nn zN zH ?_)) | fail)
        all_goals ((refine Runs.ret1 Try.func21 rfl zM zD ?_; try exact zX))
        all_goals (refine V.Le.of_eq (congrArg V.b ?_); simp_all)
    · rw [decide_eq_false c1] at h1 he
      (refine spec_of_runs Try.func21 rfl ?_; simp only [Try.f21]; refine ys ?_)
      repeat' (first | refine yw ?_ | ((with_reducible refine Runs.is ?_); first | refine Runs.region ?_ | ((with_reducible refine Runs.isC ?_); refine Runs.cond rfl (zc ?_) (zc ?_) <;> intro hc <;> (try (first | contradiction | (exfalso; omega; done) | (have : hc = trivial := rfl; clear this; clear hc))))) | ((with_reducible refine r_is ?_); first | refine yr ?_ | (refine r_fn rfl (h1) HbF.h zL2 zD ?_; refine r_nn zN zH ?_) | ((with_reducible refine r_gd ?_); (first | refine r_guardPt rfl rfl ?_ ?_ | refine r_guardNt rfl rfl ?_ ?_ | refine r_guard rfl rfl ?_ ?_) <;> intro hG <;> (try (exfalso; omega; done)) <;> refine r_nn zN zH ?_)) | fail)
      all_goals ((refine Runs.ret1 Try.func21 rfl zM zD ?_; try exact zX))
      all_goals (refine V.Le.of_eq (congrArg V.b ?_); simp_all)
  exact hgo _ rfl
end Go.Proofs
